/- Ways that are cut and healed, in plain words. -/
import Derived.Test.YtmlgahambecamaaSendP
namespace Go.Proofs.Ytmlgahambecamaa
open Go.RowKit

theorem ltP_trans {x y z : Pr} (h1 : ltP x y = true) (h2 : ltP y z = true) : ltP x z = true := by
  unfold ltP at *
  simp only [Bool.or_eq_true, Bool.and_eq_true, decide_eq_true_eq] at *
  omega
theorem ltP_irr (x : Pr) : ltP x x = false := by
  unfold ltP
  simp
theorem ltP_cases (x y : Pr) : ltP x y = true ∨ x = y ∨ ltP y x = true := by
  obtain ⟨a, b⟩ := x
  obtain ⟨c, d⟩ := y
  unfold ltP
  simp only [Bool.or_eq_true, Bool.and_eq_true, decide_eq_true_eq, Pr.mk.injEq]
  omega
theorem ltP_asym {x y : Pr} (h : ltP x y = true) : ltP y x = false := by
  cases e : ltP y x with
  | false => rfl
  | true => have := ltP_trans h e; rw [ltP_irr] at this; cases this
/-- Cut ways rise. -/
theorem chk_rise {n : Nv} (h : checkB n = true) : ∀ j k (hk : k < n.C.length) (hj : j < k), ltP (n.C[j]'(Nat.lt_trans hj hk)) n.C[k] = true := by
  have H := allTo_lt (chk_parts h).2.2.2.1
  have step : ∀ k (hk : k + 1 < n.C.length), ltP (n.C[k]'(by omega)) n.C[k + 1] = true := fun k hk => by
    have := H (k + 1) hk
    rw [cutAt_succ hk (by omega)] at this
    simp only [Bool.and_eq_true] at this
    exact this.2
  intro j k
  induction k with
  | zero => intro _ hj; omega
  | succ k ih =>
    intro hk hj
    rcases Nat.lt_or_ge j k with h1 | h1
    · exact ltP_trans (ih (by omega) h1) (step k hk)
    · obtain rfl : j = k := by omega
      exact step j hk
theorem mono_ord {l : List Pr} (hr : ∀ j k (hk : k < l.length) (hj : j < k), ltP (l[j]'(Nat.lt_trans hj hk)) l[k] = true) (p : Pr) : ∀ j k (hk : k < l.length) (hj : j < k), ordPr l[k] p < 0 → ordPr (l[j]'(Nat.lt_trans hj hk)) p < 0 := fun j k hk hj h =>
  (ordPr_lt _ _).2 (ltP_trans (hr j k hk hj) ((ordPr_lt _ _).1 h))
/-- What a search for a way finds. -/
theorem ways_at {l : List Pr} (hr : ∀ j k (hk : k < l.length) (hj : j < k), ltP (l[j]'(Nat.lt_trans hj hk)) l[k] = true) {p : Pr} {i : Nat} {b : Bool} (h : SrchG (fun y => ordPr y p) l i b) :
    l.filter (fun c => ltP c p) = l.take i ∧ l.filter (fun c => ltP p c) = l.drop (if b then i + 1 else i) ∧ i ≤ l.length ∧ (b = true → ∃ hi : i < l.length, l[i] = p) := by
  obtain ⟨h1, h2, h3, h4⟩ := h
  have hb : b = true → ∃ hi : i < l.length, l[i] = p := fun e => by
    obtain ⟨hi, e⟩ := h4.1 e
    exact ⟨hi, (ordPr_zero _ _).1 e⟩
  have e : l = l.take i ++ l.drop i := (List.take_append_drop i l).symm
  have a1 : ∀ c ∈ l.take i, ltP c p = true := fun c hc => by
    obtain ⟨j, hj, rfl⟩ := List.getElem_of_mem hc
    rw [List.length_take] at hj
    rw [List.getElem_take]
    exact (ordPr_lt _ _).1 (h2 j (by omega) (by omega))
  have a2 : ∀ c ∈ l.drop i, ltP c p = false := fun c hc => by
    obtain ⟨j, hj, rfl⟩ := List.getElem_of_mem hc
    rw [List.length_drop] at hj
    rw [List.getElem_drop]
    cases e : ltP l[i + j] p with
    | false => rfl
    | true =>
      have x1 := (ordPr_lt _ _).2 e
      have x2 : 0 ≤ ordPr l[i + j] p := h3 (i + j) (by omega) (by omega)
      omega
  refine ⟨?_, ?_, h1, hb⟩
  · conv => lhs; rw [e]
    rw [List.filter_append, List.filter_eq_self.2 a1, List.filter_eq_nil_iff.2 (fun c hc => by rw [a2 c hc]; simp), List.append_nil]
  · conv => lhs; rw [e]
    rw [List.filter_append, List.filter_eq_nil_iff.2 (fun c hc => by rw [ltP_asym (a1 c hc)]; simp), List.nil_append]
    cases b with
    | false =>
      simp only [Bool.false_eq_true, if_false]
      refine List.filter_eq_self.2 (fun c hc => ?_)
      have hlt := a2 c hc
      obtain ⟨j, hj, rfl⟩ := List.getElem_of_mem hc
      rw [List.length_drop] at hj
      rw [List.getElem_drop] at hlt ⊢
      rcases ltP_cases l[i + j] p with h | h | h
      · rw [hlt] at h; cases h
      · exfalso
        have hi : i < l.length := by omega
        rcases Nat.eq_zero_or_pos j with e0 | e0
        · subst e0
          have := h4.2 ⟨hi, (ordPr_zero _ _).2 h⟩
          cases this
        · have x1 := hr i (i + j) (by omega) (by omega)
          rw [h] at x1
          have x2 := (ordPr_lt _ _).2 x1
          have x3 : 0 ≤ ordPr l[i] p := h3 i hi (Nat.le_refl _)
          omega
      · exact h
    | true =>
      obtain ⟨hi, hp⟩ := hb rfl
      simp only [if_true]
      rw [List.drop_eq_getElem_cons hi, List.filter_cons, hp, ltP_irr]
      simp only [Bool.false_eq_true, if_false]
      refine List.filter_eq_self.2 (fun c hc => ?_)
      obtain ⟨j, hj, rfl⟩ := List.getElem_of_mem hc
      rw [List.length_drop] at hj
      rw [List.getElem_drop]
      have := hr i (i + 1 + j) (by omega) (by omega)
      rwa [hp] at this
/-- What becomes of the cut ways: a way cut, or healed. -/
def doC (p : Pr) (yes : Bool) (l : List Pr) (i : Nat) (b : Bool) : List Pr := if yes then (if b then l else l.take i ++ [p] ++ l.drop i) else (if b then l.take i ++ l.drop (i + 1) else l)
theorem doC_eq {l : List Pr} (hr : ∀ j k (hk : k < l.length) (hj : j < k), ltP (l[j]'(Nat.lt_trans hj hk)) l[k] = true) {p : Pr} {i : Nat} {b : Bool} (yes : Bool) (h : SrchG (fun y => ordPr y p) l i b) :
    doC p yes l i b = l.filter (fun c => ltP c p) ++ (if yes then [p] else []) ++ l.filter (fun c => ltP p c) := by
  obtain ⟨h1, h2, h3, h4⟩ := ways_at hr h
  rw [h1, h2]
  unfold doC
  cases yes <;> cases b
  · simp
  · simp
  · simp
  · obtain ⟨hi, hp⟩ := h4 rfl
    simp only [if_true]
    rw [List.append_assoc, List.singleton_append, ← hp, ← List.drop_eq_getElem_cons hi, List.take_append_drop]
theorem waysV_no {n : Nv} {a b : Int} {yes : Bool} (h : ¬ (checkB n = true ∧ endB n.K.length a = true ∧ endB n.K.length b = true ∧ a ≠ b)) : waysV n a b yes = (noV, 1) := by
  unfold waysV
  rw [if_neg h]
theorem waysV_yes {n : Nv} {a b : Int} {yes : Bool} (h : checkB n = true ∧ endB n.K.length a = true ∧ endB n.K.length b = true ∧ a ≠ b) {i : Nat} {m : Bool} (hs : SrchG (fun y => ordPr y (pairP a b)) n.C i m) :
    waysV n a b yes = ({ n with C := doC (pairP a b) yes n.C i m }, 0) := by
  unfold waysV
  rw [if_pos h, doC_eq (chk_rise h.1) yes hs]

end Go.Proofs.Ytmlgahambecamaa
