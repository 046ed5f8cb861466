/- What is sent, in plain words: its slip, whether its way is open, and its place. -/
import Derived.Test.YtmlgahambecamaaCuts2
import Derived.Test.YtmlgahambecamaaTickP
import Derived.Test.YtmlgahambecamaaSr
namespace Go.Proofs.Ytmlgahambecamaa

/-- The ends of a cut way rise. -/
theorem chk_cuts {n : Nv} (h : checkB n = true) : ∀ c ∈ n.C, c.a < c.b := by
  intro c hc
  obtain ⟨k, hk, rfl⟩ := List.getElem_of_mem hc
  have := allTo_at (chk_parts h).2.2.2.1 hk
  unfold cutAt at this
  rw [List.getElem?_eq_getElem hk] at this
  simp only [Bool.and_eq_true, decide_eq_true_eq] at this
  exact this.1.2
theorem cut_self {n : Nv} (h : checkB n = true) (a : Int) : cutB n.C a a = false := by
  unfold cutB
  rw [List.any_eq_false]
  intro c hc e
  have h1 := chk_cuts h c hc
  rw [decide_eq_true_eq] at e
  rw [e] at h1
  unfold pairP at h1
  simp at h1
theorem open_cut {n : Nv} {a b : Int} (h : checkB n = true) (ha : endB n.K.length a = true) (hb : endB n.K.length b = true) : openB n a b = !cutB n.C a b := by
  unfold openB
  rw [h, ha, hb]
  by_cases e : a = b
  · subst e; rw [cut_self h]; simp
  · rw [decide_eq_false e]; simp
theorem chk_slips {n : Nv} (h : checkB n = true) : ∀ s ∈ n.S, okSlip s = true := by
  intro s hs
  obtain ⟨k, hk, rfl⟩ := List.getElem_of_mem hs
  have := allTo_at (chk_parts h).2.2.1 hk
  rw [slipAt_at hk] at this
  simp only [Bool.and_eq_true] at this
  exact this.1
theorem ok_kinds {s : Sp} (h : okSlip s = true) : (s.kind = 3 ∧ 1 ≤ s.amt ∧ s.amt ≤ 1099511627776) ∨ ((s.kind = 1 ∨ s.kind = 2) ∧ s.amt = 0) := by
  unfold okSlip at h
  simp only [Bool.and_eq_true] at h
  have h2 := h.2
  by_cases h3 : s.kind = 3
  · rw [if_pos h3] at h2
    unfold inR maxO at h2
    simp only [Bool.and_eq_true, decide_eq_true_eq] at h2
    exact .inl ⟨h3, h2⟩
  · rw [if_neg h3] at h2
    by_cases h4 : s.kind = 1 ∨ s.kind = 2
    · rw [if_pos h4] at h2
      exact .inr ⟨h4, by simpa using h2⟩
    · rw [if_neg h4] at h2; cases h2
theorem slip_at {S : List Sp} {no : Int} {k : Nat} (hk : k < S.length) (h : S[k].no = no) (hb : ∀ j (hj : j < S.length), j < k → ¬ S[j].no = no) : slipOf S no = S[k] := by
  unfold slipOf
  have : S.find? (fun s => decide (s.no = no)) = some S[k] := by
    rw [List.find?_eq_some_iff_getElem]
    refine ⟨by simpa using h, k, hk, rfl, fun j hj => ?_⟩
    simpa using hb j (by omega) hj
  rw [this]
  rfl
theorem slip_no {S : List Sp} {no : Int} (h : ∀ j (hj : j < S.length), ¬ S[j].no = no) : slipOf S no = ⟨0, 0, 0⟩ := by
  unfold slipOf
  have : S.find? (fun s => decide (s.no = no)) = none := by
    rw [List.find?_eq_none]
    intro s hs
    obtain ⟨j, hj, rfl⟩ := List.getElem_of_mem hs
    simpa using h j hj
  rw [this]
  rfl
theorem slip_cases {n : Nv} (h : checkB n = true) (no : Int) : slipOf n.S no = ⟨0, 0, 0⟩ ∨ ((slipOf n.S no).kind = 3 ∧ 1 ≤ (slipOf n.S no).amt ∧ (slipOf n.S no).amt ≤ 1099511627776) ∨ (((slipOf n.S no).kind = 1 ∨ (slipOf n.S no).kind = 2) ∧ (slipOf n.S no).amt = 0) := by
  unfold slipOf
  cases hf : n.S.find? fun s => decide (s.no = no) with
  | none => exact .inl rfl
  | some s =>
    have := ok_kinds (chk_slips h s (List.mem_of_find?_eq_some hf))
    exact .inr this

theorem ahead_trans {x y z : Mv} (h1 : aheadB x y = true) (h2 : aheadB y z = true) : aheadB x z = true := by
  unfold aheadB at *
  simp only [Bool.or_eq_true, Bool.and_eq_true, decide_eq_true_eq] at *
  omega
theorem ahead_self (x : Mv) : aheadB x x = true := by
  unfold aheadB
  simp
/-- A message's place: behind all that stand ahead of it. -/
theorem put_at : ∀ {L : List Mv} {m : Mv} {i : Nat}, i ≤ L.length → (∀ j (h : j < L.length), j < i → aheadB L[j] m = true) → (∀ h : i < L.length, aheadB L[i] m = false) → putL L m = L.take i ++ m :: L.drop i
  | [], m, i, hi, _, _ => by
    obtain rfl : i = 0 := by simpa using hi
    rfl
  | x :: L, m, 0, _, _, h2 => by
    have := h2 (by simp)
    simp only [List.getElem_cons_zero] at this
    unfold putL
    rw [this]
    rfl
  | x :: L, m, i + 1, hi, h1, h2 => by
    have h0 := h1 0 (by simp) (by omega)
    simp only [List.getElem_cons_zero] at h0
    unfold putL
    rw [if_pos h0, put_at (L := L) (m := m) (i := i) (by simpa using hi) (fun j hj hji => by have := h1 (j + 1) (by simpa using hj) (by omega); simpa using this) (fun h => by have := h2 (by simpa using h); simpa using this)]
    rfl
theorem put_len : ∀ (L : List Mv) (m : Mv), (putL L m).length = L.length + 1
  | [], _ => rfl
  | x :: L, m => by
    unfold putL
    split
    · rw [List.length_cons, put_len L m, List.length_cons]
    · rfl
theorem put_two {L : List Mv} {m : Mv} {i : Nat} (hi : i ≤ L.length) (h1 : ∀ j (h : j < L.length), j < i → aheadB L[j] m = true) (h2 : ∀ h : i < L.length, aheadB L[i] m = false) : putL (putL L m) m = L.take i ++ m :: m :: L.drop i := by
  rw [put_at hi h1 h2]
  have hl : (L.take i).length = i := by rw [List.length_take]; omega
  rw [put_at (L := L.take i ++ m :: L.drop i) (m := m) (i := i + 1)]
  · have e1 : (L.take i).take (i + 1) = L.take i := List.take_of_length_le (by omega)
    have e2 : (L.take i).drop (i + 1) = [] := List.drop_eq_nil_of_le (by omega)
    rw [List.take_append, hl, show i + 1 - i = 1 by omega, e1, List.drop_append, hl, show i + 1 - i = 1 by omega, e2]
    simp
  · simp; omega
  · intro j h hj
    rcases Nat.lt_or_ge j i with h' | h'
    · rw [List.getElem_append_left (by rw [hl]; exact h'), List.getElem_take]
      exact h1 j (by omega) h'
    · obtain rfl : j = i := by omega
      rw [List.getElem_append_right (by rw [hl]; exact Nat.le_refl _)]
      simp only [hl, Nat.sub_self, List.getElem_cons_zero]
      exact ahead_self m
  · intro h
    have hlt : i < L.length := by simp at h; omega
    rw [List.getElem_append_right (by rw [hl]; omega)]
    simp only [hl, show i + 1 - i = 1 by omega, List.getElem_cons_succ, List.getElem_drop]
    exact h2 hlt

/-- May it be sent at all? -/
abbrev sendable (n : Nv) (frm dst takes : Int) (bs : List UInt8) : Prop := checkB n = true ∧ endB n.K.length frm = true ∧ endB n.K.length dst = true ∧ inR takes 0 maxO = true ∧ bs.length ≤ 4096
theorem sendV_arg {n : Nv} {frm dst takes : Int} {bs : List UInt8} (h : ¬ sendable n frm dst takes bs) : sendV n frm dst takes bs = (noV, 1) := by
  unfold sendV
  rw [if_neg h]
theorem sendV_next {n : Nv} {frm dst takes : Int} {bs : List UInt8} (h : sendable n frm dst takes bs) (h1 : n.next = 1099511627776) : sendV n frm dst takes bs = (noV, 2) := by
  unfold sendV
  rw [if_pos h, if_pos (show n.next = maxO from h1)]
/-- How often it comes. -/
def manyV (n : Nv) (frm dst : Int) : Nat := if (slipOf n.S n.next).kind = 1 then 0 else if openB n frm dst = true then (if (slipOf n.S n.next).kind = 2 then 2 else 1) else 0
theorem sendV_none {n : Nv} {frm dst takes : Int} {bs : List UInt8} (h : sendable n frm dst takes bs) (h1 : ¬ n.next = 1099511627776) (h2 : manyV n frm dst = 0) : sendV n frm dst takes bs = ({ n with next := n.next + 1 }, 0) := by
  unfold sendV
  rw [if_pos h, if_neg (show ¬ n.next = maxO from h1), if_pos]
  unfold manyV at h2
  by_cases k1 : (slipOf n.S n.next).kind = 1
  · exact .inl k1
  · rw [if_neg k1] at h2
    rw [open_cut h.1 h.2.1 h.2.2.1] at h2
    cases hc : cutB n.C frm dst with
    | true => exact .inr rfl
    | false => rw [hc] at h2; simp at h2; split at h2 <;> omega
theorem many_not {n : Nv} {frm dst takes : Int} {bs : List UInt8} (h : sendable n frm dst takes bs) (h2 : ¬ manyV n frm dst = 0) : ¬ ((slipOf n.S n.next).kind = 1 ∨ cutB n.C frm dst = true) ∧ manyV n frm dst = (if (slipOf n.S n.next).kind = 2 then 2 else 1) := by
  unfold manyV at *
  by_cases k1 : (slipOf n.S n.next).kind = 1
  · rw [if_pos k1] at h2; exact absurd rfl h2
  · rw [if_neg k1] at h2 ⊢
    cases ho : openB n frm dst with
    | false => rw [ho] at h2; exact absurd rfl h2
    | true =>
      refine ⟨?_, by simp⟩
      rintro (h3 | h3)
      · exact k1 h3
      · rw [open_cut h.1 h.2.1 h.2.2.1, h3] at ho; cases ho
theorem sendV_bound {n : Nv} {frm dst takes : Int} {bs : List UInt8} (h : sendable n frm dst takes bs) (h1 : ¬ n.next = 1099511627776) (h2 : ¬ manyV n frm dst = 0) (h3 : 1099511627776 < n.now + takes + (slipOf n.S n.next).amt ∨ 1024 < n.L.length + manyV n frm dst) : sendV n frm dst takes bs = (noV, 2) := by
  obtain ⟨h4, h5⟩ := many_not h h2
  unfold sendV
  rw [if_pos h, if_neg (show ¬ n.next = maxO from h1), if_neg h4]
  by_cases h6 : maxO < n.now + takes + (slipOf n.S n.next).amt
  · rw [if_pos h6]
  · rw [if_neg h6, if_pos]
    rcases h3 with h3 | h3
    · exact absurd h3 h6
    · rw [h5] at h3; exact h3
theorem sendV_yes {n : Nv} {frm dst takes : Int} {bs : List UInt8} (h : sendable n frm dst takes bs) (h1 : ¬ n.next = 1099511627776) (h2 : ¬ manyV n frm dst = 0) (h3 : ¬ 1099511627776 < n.now + takes + (slipOf n.S n.next).amt) (h4 : ¬ 1024 < n.L.length + manyV n frm dst) {i : Nat} (hi : i ≤ n.L.length)
    (h5 : ∀ j (hj : j < n.L.length), j < i → aheadB n.L[j] ⟨n.now + takes + (slipOf n.S n.next).amt, n.next, frm, dst, bs⟩ = true) (h6 : ∀ hj : i < n.L.length, aheadB n.L[i] ⟨n.now + takes + (slipOf n.S n.next).amt, n.next, frm, dst, bs⟩ = false) :
    sendV n frm dst takes bs = ({ n with next := n.next + 1, L := n.L.take i ++ List.replicate (manyV n frm dst) ⟨n.now + takes + (slipOf n.S n.next).amt, n.next, frm, dst, bs⟩ ++ n.L.drop i }, 0) := by
  obtain ⟨h7, h8⟩ := many_not h h2
  unfold sendV
  rw [if_pos h, if_neg (show ¬ n.next = maxO from h1), if_neg h7, if_neg (show ¬ maxO < _ from h3), if_neg (by rw [h8] at h4; exact h4), h8]
  by_cases k2 : (slipOf n.S n.next).kind = 2
  · rw [if_pos k2, if_pos k2, put_two hi h5 h6]
    simp [List.replicate]
  · rw [if_neg k2, if_neg k2, put_at hi h5 h6]
    simp [List.replicate]

end Go.Proofs.Ytmlgahambecamaa
