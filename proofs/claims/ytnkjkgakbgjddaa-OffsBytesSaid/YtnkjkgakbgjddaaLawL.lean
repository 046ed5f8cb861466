/- What the chapter's laws ask, of plain lists: the least; what is held and decided. -/
import Derived.Test.YtnkjkgakbgjddaaLawO
namespace Go.Proofs.Ytnkjkgakbgjddaa
open Go.RowKit

theorem foldl_min : ∀ (l : List Int) (a : Int), (l.foldl min a ≤ a ∧ ∀ x ∈ l, l.foldl min a ≤ x) ∧ (l.foldl min a = a ∨ l.foldl min a ∈ l)
  | [], a => ⟨⟨Int.le_refl _, by simp⟩, .inl rfl⟩
  | b :: l, a => by
    obtain ⟨⟨h1, h2⟩, h3⟩ := foldl_min l (min a b)
    rw [List.foldl_cons]
    refine ⟨⟨by omega, fun x hx => ?_⟩, ?_⟩
    · rcases List.mem_cons.1 hx with rfl | hx
      · omega
      · exact h2 x hx
    · rcases h3 with h3 | h3
      · rw [h3]
        by_cases h : a ≤ b
        · exact .inl (by omega)
        · right; rw [show min a b = b by omega]; simp
      · exact .inr (List.mem_cons_of_mem _ h3)
theorem min_le {l : List Int} {x : Int} (h : x ∈ l) : (minV l).2 = true ∧ (minV l).1 ≤ x := by
  cases l with
  | nil => simp at h
  | cons a l =>
    refine ⟨rfl, ?_⟩
    have := (foldl_min l a).1
    rcases List.mem_cons.1 h with rfl | h
    · exact this.1
    · exact this.2 x h
theorem min_mem {l : List Int} (h : (minV l).2 = true) : (minV l).1 ∈ l := by
  cases l with
  | nil => simp [minV] at h
  | cons a l =>
    rcases (foldl_min l a).2 with h | h
    · show l.foldl min a ∈ a :: l
      rw [h]; simp
    · exact List.mem_cons_of_mem _ h
theorem least_mem {L : List Ps} {M : List Wt} {t : ByteArray} {p h n : Int} : n ∈ leastL L M t p h ↔ (∃ x ∈ L, ofTp t p h x = true ∧ x.o = n) ∨ ∃ x ∈ M, ofTp t p h x.pos = true ∧ x.pos.o = n := by
  unfold leastL
  simp only [List.mem_append, List.mem_map, List.mem_filter]
  constructor
  · rintro (⟨x, ⟨h1, h2⟩, h3⟩ | ⟨x, ⟨⟨y, h1, rfl⟩, h2⟩, h3⟩)
    · exact .inl ⟨x, h1, h2, h3⟩
    · exact .inr ⟨y, h1, h2, h3⟩
  · rintro (⟨x, h1, h2, h3⟩ | ⟨y, h1, h2, h3⟩)
    · exact .inl ⟨x, ⟨h1, h2⟩, h3⟩
    · exact .inr ⟨y.pos, ⟨⟨y, h1, rfl⟩, h2⟩, h3⟩
theorem least_L {L : List Ps} {M : List Wt} {t : ByteArray} {p h : Int} {x : Ps} (hx : x ∈ L) (hp : ofTp t p h x = true) : (leastV L M t p h).2 = true ∧ (leastV L M t p h).1 ≤ x.o := min_le (least_mem.2 (.inl ⟨x, hx, hp, rfl⟩))
theorem least_M {L : List Ps} {M : List Wt} {t : ByteArray} {p h : Int} {x : Wt} (hx : x ∈ M) (hp : ofTp t p h x.pos = true) : (leastV L M t p h).2 = true ∧ (leastV L M t p h).1 ≤ x.pos.o := min_le (least_mem.2 (.inr ⟨x, hx, hp, rfl⟩))
theorem least_any (L : List Ps) (M : List Wt) (t : ByteArray) (p h : Int) : (leastV L M t p h).2 = (L.any (ofTp t p h) || M.any fun x => ofTp t p h x.pos) := by
  rw [Bool.eq_iff_iff, Bool.or_eq_true, List.any_eq_true, List.any_eq_true]
  constructor
  · intro hm
    rcases least_mem.1 (min_mem hm) with ⟨x, h1, h2, _⟩ | ⟨x, h1, h2, _⟩
    · exact .inl ⟨x, h1, h2⟩
    · exact .inr ⟨x, h1, h2⟩
  · rintro (⟨x, h1, h2⟩ | ⟨x, h1, h2⟩)
    · exact (least_L h1 h2).1
    · exact (least_M h1 h2).1
theorem least_hold {L : List Ps} {M : List Wt} {pid : Int} {x : Ps} {L1 : List Ps} {M1 : List Wt} (h : holdV L M pid x = (L1, M1, 0)) : (leastV L1 M1 x.t x.p x.h).2 = true ∧ (leastV L1 M1 x.t x.p x.h).1 ≤ x.o := by
  obtain ⟨_, _, _, rfl, _, _⟩ := hold_ok h
  exact least_M (x := ⟨pid, x⟩) ins_self (by unfold ofTp; simp)
theorem mark_mem {pid : Int} {yes : Bool} {y : Ps} : ∀ {M : List Wt} {L : List Ps}, y ∈ markL pid yes L M → y ∈ L ∨ ∃ x ∈ M, y = x.pos
  | [], L, h => .inl h
  | x :: M, L, h => by
    unfold markL at h
    rw [List.foldl_cons] at h
    rcases mark_mem (M := M) (L := stepL pid yes L x) h with h | ⟨z, hz, h⟩
    · unfold stepL at h
      split at h
      · rcases ins_mem h with h | h
        · exact .inr ⟨x, by simp, h⟩
        · exact .inl h
      · exact .inl h
    · exact .inr ⟨z, by simp [hz], h⟩
theorem least_mark {L : List Ps} {M : List Wt} {pid : Int} {yes : Bool} {L1 : List Ps} {M1 : List Wt} (h : markV L M pid yes = (L1, M1, 0)) {t : ByteArray} {p k : Int} (hl : (leastV L1 M1 t p k).2 = true) :
    (leastV L M t p k).2 = true ∧ (leastV L M t p k).1 ≤ (leastV L1 M1 t p k).1 := by
  rcases ch_cases h with ⟨_, _, _, rfl, rfl, _⟩ | ⟨h0, _⟩
  · refine min_le (x := (leastV (markL pid yes L M) (leftM pid M) t p k).1) ?_
    have hm : (leastV (markL pid yes L M) (leftM pid M) t p k).1 ∈ leastL (markL pid yes L M) (leftM pid M) t p k := min_mem hl
    rw [least_mem] at hm ⊢
    rcases hm with ⟨x, h1, h2, h3⟩ | ⟨x, h1, h2, h3⟩
    · rcases mark_mem h1 with h1 | ⟨z, hz, rfl⟩
      · exact .inl ⟨x, h1, h2, h3⟩
      · exact .inr ⟨z, hz, h2, h3⟩
    · exact .inr ⟨x, (List.mem_filter.1 h1).1, h2, h3⟩
  · exact absurd rfl h0

/-- What deciding leaves, told by members. -/
theorem mark_iff {pid : Int} {y : Ps} : ∀ {M : List Wt} {L : List Ps}, Up ordP L → Up ordW M →
    (Up ordP (markL pid true L M) ∧ (y ∈ markL pid true L M ↔ (∃ x ∈ M, x.pid = pid ∧ y = x.pos) ∨ (y ∈ L ∧ ∀ x ∈ M, x.pid = pid → ordP y x.pos ≠ 0)) ∧ (markL pid true L M).length ≤ L.length + M.length)
  | [], L, hL, _ => by simp [markL, hL]
  | x :: M, L, hL, hM => by
    have hx := fun {z} (hz : z ∈ M) => List.rel_of_pairwise_cons hM hz
    have e0 : markL pid true L (x :: M) = markL pid true (stepL pid true L x) M := rfl
    rw [e0]
    by_cases h : x.pid = pid
    · have e1 : stepL pid true L x = insC ordP x.pos L := by unfold stepL; rw [if_pos ⟨h, rfl⟩]
      rw [e1]
      obtain ⟨h1, h2, h3⟩ := mark_iff (pid := pid) (y := y) (M := M) (ins_up lawP (x := x.pos) hL) hM.of_cons
      have h4 := (ins_len (c := ordP) (x := x.pos) (l := L)).2
      refine ⟨h1, ?_, by rw [List.length_cons]; omega⟩
      rw [h2, ins_iff lawP hL]
      constructor
      · rintro (⟨z, hz, h5, h6⟩ | ⟨(rfl | ⟨h5, h6⟩), h7⟩)
        · exact .inl ⟨z, by simp [hz], h5, h6⟩
        · exact .inl ⟨x, by simp, h, rfl⟩
        · refine .inr ⟨h5, fun z hz hp => ?_⟩
          rcases List.mem_cons.1 hz with rfl | hz
          · exact h6
          · exact h7 z hz hp
      · rintro (⟨z, hz, h5, h6⟩ | ⟨h5, h6⟩)
        · rcases List.mem_cons.1 hz with rfl | hz
          · refine .inr ⟨.inl h6, fun z hz hp h0 => ?_⟩
            have := hx hz
            rw [h6] at h0
            have e := ordW_eq.2 ⟨h.trans hp.symm, h0⟩
            omega
          · exact .inl ⟨z, hz, h5, h6⟩
        · exact .inr ⟨.inr ⟨h5, h6 x (by simp) h⟩, fun z hz hp => h6 z (by simp [hz]) hp⟩
    · have e1 : stepL pid true L x = L := by unfold stepL; rw [if_neg (fun k => h k.1)]
      rw [e1]
      obtain ⟨h1, h2, h3⟩ := mark_iff (pid := pid) (y := y) (M := M) hL hM.of_cons
      refine ⟨h1, ?_, by rw [List.length_cons]; omega⟩
      rw [h2]
      constructor
      · rintro (⟨z, hz, h5, h6⟩ | ⟨h5, h6⟩)
        · exact .inl ⟨z, by simp [hz], h5, h6⟩
        · refine .inr ⟨h5, fun z hz hp => ?_⟩
          rcases List.mem_cons.1 hz with rfl | hz
          · exact absurd hp h
          · exact h6 z hz hp
      · rintro (⟨z, hz, h5, h6⟩ | ⟨h5, h6⟩)
        · rcases List.mem_cons.1 hz with rfl | hz
          · exact absurd h5 h
          · exact .inl ⟨z, hz, h5, h6⟩
        · exact .inr ⟨h5, fun z hz hp => h6 z (by simp [hz]) hp⟩
theorem mark_no {pid : Int} : ∀ {M : List Wt} {L : List Ps}, markL pid false L M = L
  | [], _ => rfl
  | x :: M, L => by
    have e0 : markL pid false L (x :: M) = markL pid false (stepL pid false L x) M := rfl
    have e1 : stepL pid false L x = L := by unfold stepL; rw [if_neg (fun k => by cases k.2)]
    rw [e0, e1, mark_no]

/-- Held one by one. -/
def holdM (pid : Int) (M : List Wt) (l : List Ps) : List Wt := l.foldl (fun M p => insC ordW ⟨pid, p⟩ M) M
def heldV (L : List Ps) (M : List Wt) (pid : Int) : List Ps → List Ps × List Wt × Bool
  | [] => (L, M, true)
  | p :: l => if (holdV L M pid p).2.2 = 0 then heldV (holdV L M pid p).1 (holdV L M pid p).2.1 pid l else ([], [], false)
theorem held_ok {pid : Int} : ∀ {l : List Ps} {L : List Ps} {M : List Wt} {L1 : List Ps} {M1 : List Wt}, heldV L M pid l = (L1, M1, true) → checkV L M = 0 → L1 = L ∧ M1 = holdM pid M l ∧ checkV L1 M1 = 0
  | [], L, M, L1, M1, h, hc => by
    simp only [heldV, Prod.mk.injEq, and_true] at h
    obtain ⟨rfl, rfl⟩ := h
    exact ⟨rfl, rfl, hc⟩
  | p :: l, L, M, L1, M1, h, hc => by
    unfold heldV at h
    split at h
    · rename_i h0
      have hk : holdV L M pid p = ((holdV L M pid p).1, (holdV L M pid p).2.1, 0) := by rw [← h0]
      obtain ⟨_, _, e1, e2, _, e3⟩ := hold_ok hk
      obtain ⟨h1, h2, h3⟩ := held_ok h e3
      rw [e1] at h1
      rw [e2] at h2
      exact ⟨h1, h2, h3⟩
    · simp at h
theorem holdM_iff {pid : Int} {z : Wt} : ∀ {l : List Ps} {M : List Wt}, Up ordW M → (Up ordW (holdM pid M l) ∧ (z ∈ holdM pid M l ↔ (z ∈ M ∧ ∀ q ∈ l, ordW z ⟨pid, q⟩ ≠ 0) ∨
    ∃ i, ∃ h : i < l.length, z = ⟨pid, l[i]⟩ ∧ ∀ k (hk : k < l.length), i < k → ordP l[k] l[i] ≠ 0) ∧ (holdM pid M l).length ≤ M.length + l.length)
  | [], M, hM => by
    refine ⟨hM, ?_, by simp [holdM]⟩
    simp [holdM]
  | a :: l, M, hM => by
    have e0 : holdM pid M (a :: l) = holdM pid (insC ordW ⟨pid, a⟩ M) l := rfl
    obtain ⟨h1, h2, h3⟩ := holdM_iff (pid := pid) (z := z) (l := l) (ins_up lawW (x := ⟨pid, a⟩) hM)
    have h4 := (ins_len (c := ordW) (x := ⟨pid, a⟩) (l := M)).2
    rw [e0]
    refine ⟨h1, ?_, by rw [List.length_cons]; omega⟩
    rw [h2, ins_iff lawW hM]
    constructor
    · rintro (⟨(rfl | ⟨h5, h6⟩), h7⟩ | ⟨i, hi, h5, h6⟩)
      · refine .inr ⟨0, by simp, rfl, fun k hk h0 h8 => ?_⟩
        obtain ⟨k, rfl⟩ : ∃ j, k = j + 1 := ⟨k - 1, by omega⟩
        have hk' : k < l.length := by simpa using hk
        simp only [List.getElem_cons_succ, List.getElem_cons_zero] at h8
        have h9 := h7 l[k] (List.getElem_mem _)
        refine h9 (ordW_eq.2 ⟨rfl, ?_⟩)
        rw [lawP.swap, h8]; rfl
      · exact .inl ⟨h5, fun q hq => (List.mem_cons.1 hq).elim (fun e => e ▸ h6) (fun hq => h7 q hq)⟩
      · refine .inr ⟨i + 1, by simpa using hi, by simpa using h5, fun k hk hik => ?_⟩
        obtain ⟨k, rfl⟩ : ∃ j, k = j + 1 := ⟨k - 1, by omega⟩
        simpa using h6 k (by simpa using hk) (by omega)
    · rintro (⟨h5, h6⟩ | ⟨i, hi, h5, h6⟩)
      · exact .inl ⟨.inr ⟨h5, h6 a (by simp)⟩, fun q hq => h6 q (by simp [hq])⟩
      · cases i with
        | zero =>
          refine .inl ⟨.inl (by simpa using h5), fun q hq h0 => ?_⟩
          obtain ⟨k, hk, rfl⟩ := List.getElem_of_mem hq
          have hk' : k < l.length := hk
          have h7 := h6 (k + 1) (by simpa using hk) (by omega)
          simp only [List.getElem_cons_succ, List.getElem_cons_zero] at h7
          rw [h5] at h0
          have := (ordW_eq.1 h0).2
          simp only [List.getElem_cons_zero] at this
          rw [lawP.swap] at this
          omega
        | succ i =>
          refine .inr ⟨i, by simpa using hi, by simpa using h5, fun k hk hik => ?_⟩
          have h7 := h6 (k + 1) (by simpa using hk) (by omega)
          simp only [List.getElem_cons_succ] at h7
          exact h7

/-- OffsWhole, of plain lists. -/
theorem whole_law {L : List Ps} {M : List Wt} {pid : Int} {l : List Ps} {L1 : List Ps} {M1 : List Wt} (hL : L.length ≤ 100) (hM : M.length ≤ 100) (hl : l.length ≤ 30) (hc : checkV L M = 0) (hp : ∀ x ∈ M, x.pid ≠ pid) (h : heldV L M pid l = (L1, M1, true)) :
    L1 = L ∧ markV L1 M1 pid false = (L, M, 0) ∧ ∃ Ly, markV L1 M1 pid true = (Ly, M, 0) ∧ keptV L Ly l = true ∧
      (∀ i k (hi : i < l.length) (hk : k < l.length), ordP l[k] l[i] = 0 → (∀ j (hj : j < l.length), k < j → ordP l[j] l[i] ≠ 0) → getV Ly l[i].g l[i].t l[i].p l[i].h = (l[k].o, true)) := by
  obtain ⟨rfl, rfl, hc1⟩ := held_ok h hc
  have uL := check_upL hc
  have uM := check_upM hc
  have u1 := (holdM_iff (pid := pid) (z := ⟨0, noP⟩) (l := l) uM)
  have hleft : leftM pid (holdM pid M l) = M := by
    refine up_ext lawW (u1.1.filter _) uM fun z => ?_
    unfold leftM
    rw [List.mem_filter, (holdM_iff (z := z) uM).2.1]
    constructor
    · rintro ⟨(h1 | ⟨i, hi, rfl, _⟩), h2⟩
      · exact h1.1
      · simp at h2
    · intro hz
      refine ⟨.inl ⟨hz, fun q _ h0 => hp z hz (ordW_eq.1 h0).1⟩, ?_⟩
      simpa using hp z hz
  refine ⟨rfl, ?_, markL pid true L1 (holdM pid M l), ?_, ?_, ?_⟩
  · have := ch_ok (may := true) (L' := markL pid false L1 (holdM pid M l)) (M' := leftM pid (holdM pid M l)) hc1 rfl (by rw [mark_no]; omega) (by rw [hleft]; omega)
    unfold markV
    rw [this, mark_no, hleft]
  · have hlen := (mark_iff (pid := pid) (y := noP) uL u1.1).2.2
    have := ch_ok (may := true) (L' := markL pid true L1 (holdM pid M l)) (M' := leftM pid (holdM pid M l)) hc1 rfl (by omega) (by rw [hleft]; omega)
    unfold markV
    rw [this, hleft]
  · have hm := fun y => (mark_iff (pid := pid) (y := y) uL u1.1).2.1
    refine kept_is (mark_iff (pid := pid) (y := noP) uL u1.1).1 (fun y hy hz => ?_) (fun y hy => ?_)
    · refine (hm y).2 (.inr ⟨hy, fun x hx hxp h0 => ?_⟩)
      rcases (holdM_iff (z := x) uM).2.1.1 hx with ⟨h1, _⟩ | ⟨i, hi, rfl, _⟩
      · exact hp x h1 hxp
      · refine hz l[i] (List.getElem_mem _) ?_
        rw [lawP.swap, h0]; rfl
    · rcases (hm y).1 hy with ⟨x, hx, hxp, rfl⟩ | ⟨h1, _⟩
      · rcases (holdM_iff (z := x) uM).2.1.1 hx with ⟨h1, _⟩ | ⟨i, hi, rfl, _⟩
        · exact absurd hxp (hp x h1)
        · exact .inr ⟨l[i], List.getElem_mem _, lawP.self _⟩
      · exact .inl ⟨y, h1, lawP.self y⟩
  · intro i k hi hk h0 hlast
    refine get_in (mark_iff (pid := pid) (y := noP) uL u1.1).1 ((mark_iff (pid := pid) (y := l[k]) uL u1.1).2.1.2 (.inl ⟨⟨pid, l[k]⟩, ?_, rfl, rfl⟩)) (pl_ord.2 h0)
    refine (holdM_iff (z := ⟨pid, l[k]⟩) uM).2.1.2 (.inr ⟨k, hk, rfl, fun j hj hkj hz => hlast j hj hkj ?_⟩)
    rw [lawP.eqL _ _ _ hz, h0]

end Go.Proofs.Ytnkjkgakbgjddaa
