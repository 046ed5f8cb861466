/- What the chapter's laws ask, of plain lists: what a put leaves, what is got. -/
import Derived.Test.YtnkjkgakbgjddaaOffP
namespace Go.Proofs.Ytnkjkgakbgjddaa
open Go.RowKit

theorem check_ok {L : List Ps} {M : List Wt} (h : checkV L M = 0) : keptB rightP ordP L = true ∧ keptB rightW ordW M = true ∧ L.length ≤ 4096 ∧ M.length ≤ 4096 := by
  unfold checkV at h
  split at h
  · rename_i k
    split at h
    · cases h
    · exact ⟨k.1, k.2, by omega, by omega⟩
  · cases h
theorem check_of {L : List Ps} {M : List Wt} (h1 : keptB rightP ordP L = true) (h2 : keptB rightW ordW M = true) (h3 : L.length ≤ 4096) (h4 : M.length ≤ 4096) : checkV L M = 0 := by
  unfold checkV; rw [if_pos ⟨h1, h2⟩, if_neg (by omega)]
theorem check_upL {L : List Ps} {M : List Wt} (h : checkV L M = 0) : Up ordP L := kept_up lawP (check_ok h).1
theorem check_upM {L : List Ps} {M : List Wt} (h : checkV L M = 0) : Up ordW M := kept_up lawW (check_ok h).2.1

/-- How a change ends. -/
theorem ch_cases {L : List Ps} {M : List Wt} {may : Bool} {L' : List Ps} {M' : List Wt} {L1 : List Ps} {M1 : List Wt} {e : Int} (h : chV L M may L' M' = (L1, M1, e)) :
    (e = 0 ∧ checkV L M = 0 ∧ may = true ∧ L1 = L' ∧ M1 = M' ∧ L1.length ≤ 4096 ∧ M1.length ≤ 4096) ∨ (e ≠ 0 ∧ L1 = [] ∧ M1 = []) := by
  unfold chV at h
  split at h
  · rename_i hc
    split at h
    · rename_i hm
      unfold capV at h
      split at h
      · simp only [Prod.mk.injEq] at h
        obtain ⟨rfl, rfl, rfl⟩ := h
        exact .inr ⟨by decide, rfl, rfl⟩
      · simp only [Prod.mk.injEq] at h
        obtain ⟨rfl, rfl, rfl⟩ := h
        exact .inl ⟨rfl, hc, hm, rfl, rfl, by omega, by omega⟩
    · simp only [Prod.mk.injEq] at h
      obtain ⟨rfl, rfl, rfl⟩ := h
      exact .inr ⟨by decide, rfl, rfl⟩
  · rename_i hc
    simp only [Prod.mk.injEq] at h
    obtain ⟨rfl, rfl, rfl⟩ := h
    exact .inr ⟨hc, rfl, rfl⟩
theorem ch_ok {L : List Ps} {M : List Wt} {may : Bool} {L' : List Ps} {M' : List Wt} (h1 : checkV L M = 0) (h2 : may = true) (h3 : L'.length ≤ 4096) (h4 : M'.length ≤ 4096) : chV L M may L' M' = (L', M', 0) := by
  unfold chV capV
  rw [if_pos h1, if_pos h2, if_neg (by omega)]
theorem put_ok {L : List Ps} {M : List Wt} {p : Ps} {L1 : List Ps} {M1 : List Wt} (h : putV L M p = (L1, M1, 0)) : checkV L M = 0 ∧ rightP p = true ∧ L1 = insC ordP p L ∧ M1 = M ∧ L1.length ≤ 4096 ∧ checkV L1 M1 = 0 := by
  rcases ch_cases h with ⟨_, h1, h2, rfl, rfl, h3, h4⟩ | ⟨h0, _⟩
  · refine ⟨h1, h2, rfl, rfl, h3, check_of (kept_of (fun a ha => ?_) (ins_up lawP (check_upL h1))) (check_ok h1).2.1 h3 h4⟩
    rcases ins_mem ha with rfl | ha
    · exact h2
    · exact kept_all (check_ok h1).1 a ha
  · exact absurd rfl h0
theorem put_no {L : List Ps} {M : List Wt} {p : Ps} {L1 : List Ps} {M1 : List Wt} {e : Int} (h : putV L M p = (L1, M1, e)) (he : e ≠ 0) : L1 = [] ∧ M1 = [] := by
  rcases ch_cases h with ⟨h0, _⟩ | ⟨_, h⟩
  · exact absurd h0 he
  · exact h
theorem hold_ok {L : List Ps} {M : List Wt} {pid : Int} {p : Ps} {L1 : List Ps} {M1 : List Wt} (h : holdV L M pid p = (L1, M1, 0)) : checkV L M = 0 ∧ rightW ⟨pid, p⟩ = true ∧ L1 = L ∧ M1 = insC ordW ⟨pid, p⟩ M ∧ M1.length ≤ 4096 ∧ checkV L1 M1 = 0 := by
  rcases ch_cases h with ⟨_, h1, h2, rfl, rfl, h3, h4⟩ | ⟨h0, _⟩
  · refine ⟨h1, h2, rfl, rfl, h4, check_of (check_ok h1).1 (kept_of (fun a ha => ?_) (ins_up lawW (check_upM h1))) h3 h4⟩
    rcases ins_mem ha with rfl | ha
    · exact h2
    · exact kept_all (check_ok h1).2.1 a ha
  · exact absurd rfl h0

/-- Of one place. -/
theorem pl_iff {g t : ByteArray} {p h : Int} {x : Ps} : ofPl g t p h x = true ↔ x.g = g ∧ x.t = t ∧ x.p = p ∧ x.h = h := by
  unfold ofPl ofTp; simp
theorem pl_ord {x y : Ps} : ofPl y.g y.t y.p y.h x = true ↔ ordP x y = 0 := by rw [pl_iff, ordP_eq]
theorem get_in {L : List Ps} (hu : Up ordP L) {x : Ps} (hx : x ∈ L) {g t : ByteArray} {p h : Int} (hp : ofPl g t p h x = true) : getV L g t p h = (x.o, true) := by
  unfold getV
  cases hf : L.find? (ofPl g t p h) with
  | none => rw [List.find?_eq_none] at hf; exact absurd hp (hf x hx)
  | some y =>
    have h1 := List.find?_some hf
    have h2 := List.mem_of_find?_eq_some hf
    obtain ⟨rfl, rfl, rfl, rfl⟩ := pl_iff.1 hp
    have h0 : ordP y x = 0 := pl_ord.1 h1
    obtain ⟨i, hi, e1⟩ := List.getElem_of_mem h2
    obtain ⟨j, hj, e2⟩ := List.getElem_of_mem hx
    have : y = x := by
      rcases Nat.lt_trichotomy i j with h | h | h
      · have := up_at hu hj h; rw [e1, e2] at this; omega
      · subst h; exact e1.symm.trans e2
      · have := up_at hu hi h; rw [e1, e2, lawP.swap] at this; omega
    rw [this]; rfl
theorem get_no {L : List Ps} {g t : ByteArray} {p h : Int} (hn : ∀ x ∈ L, ¬ ofPl g t p h x = true) : getV L g t p h = (0, false) := by
  unfold getV
  rw [List.find?_eq_none.2 hn]; rfl
theorem get_is {L : List Ps} {g t : ByteArray} {p h : Int} : (getV L g t p h).2 = true ↔ ∃ x ∈ L, ofPl g t p h x = true := by
  unfold getV
  cases hf : L.find? (ofPl g t p h) with
  | none => rw [List.find?_eq_none] at hf; simp only [fstV, Bool.false_eq_true, false_iff]; rintro ⟨x, hx, hp⟩; exact hf x hx hp
  | some y => simp only [fstV, true_iff]; exact ⟨y, List.mem_of_find?_eq_some hf, List.find?_some hf⟩
theorem among_iff {l : List Ps} {x : Ps} : amongV l x = true ↔ ∃ y ∈ l, ordP y x = 0 := by
  unfold amongV
  rw [List.any_eq_true]
  constructor
  · rintro ⟨y, hy, h⟩; exact ⟨y, hy, pl_ord.1 h⟩
  · rintro ⟨y, hy, h⟩; exact ⟨y, hy, pl_ord.2 h⟩
/-- What is kept, told by members. -/
theorem kept_is {L X l : List Ps} (hX : Up ordP X) (h1 : ∀ y ∈ L, (∀ z ∈ l, ordP z y ≠ 0) → y ∈ X) (h2 : ∀ y ∈ X, (∃ z ∈ L, ordP z y = 0) ∨ ∃ z ∈ l, ordP z y = 0) : keptV L X l = true := by
  unfold keptV
  rw [Bool.and_eq_true, List.all_eq_true, List.all_eq_true]
  constructor
  · intro y hy
    cases ha : amongV l y with
    | true => rfl
    | false =>
      have hy' : y ∈ X := h1 y hy (fun z hz h0 => by
        have := (among_iff (l := l) (x := y)).2 ⟨z, hz, h0⟩
        rw [ha] at this; cases this)
      rw [get_in hX hy' (pl_ord.2 (lawP.self y))]
      simp
  · intro y hy
    rw [Bool.or_eq_true]
    rcases h2 y hy with ⟨z, hz, h0⟩ | ⟨z, hz, h0⟩
    · exact .inl (get_is.2 ⟨z, hz, pl_ord.2 h0⟩)
    · exact .inr (among_iff.2 ⟨z, hz, h0⟩)

/-- Put twice is put once; put behind one of its place is put alone. -/
theorem ins_again {α : Type} {c : α → α → Int} (hc : LawC c) {x q : α} {l : List α} (hu : Up c l) (hq : c q x = 0) : insC c x (insC c q l) = insC c x l := by
  refine up_ext hc (ins_up hc (ins_up hc hu)) (ins_up hc hu) fun y => ?_
  rw [ins_iff hc (ins_up hc hu), ins_iff hc hu, ins_iff hc hu]
  constructor
  · rintro (h | ⟨(rfl | ⟨h1, _⟩), h2⟩)
    · exact .inl h
    · exact absurd hq h2
    · exact .inr ⟨h1, h2⟩
  · rintro (h | ⟨h1, h2⟩)
    · exact .inl h
    · refine .inr ⟨.inr ⟨h1, fun h0 => h2 ?_⟩, h2⟩
      rw [hc.eqL y q x h0, hq]
/-- Two of unlike places, in either order. -/
theorem ins_swap {α : Type} {c : α → α → Int} (hc : LawC c) {x q : α} {l : List α} (hu : Up c l) (hq : c q x ≠ 0) : insC c x (insC c q l) = insC c q (insC c x l) := by
  have hq' : c x q ≠ 0 := fun h => by have := hc.swap x q; omega
  refine up_ext hc (ins_up hc (ins_up hc hu)) (ins_up hc (ins_up hc hu)) fun y => ?_
  rw [ins_iff hc (ins_up hc hu), ins_iff hc hu, ins_iff hc (ins_up hc hu), ins_iff hc hu]
  constructor
  · rintro (rfl | ⟨(rfl | ⟨h1, h3⟩), h2⟩)
    · exact .inr ⟨.inl rfl, hq'⟩
    · exact .inl rfl
    · exact .inr ⟨.inr ⟨h1, h2⟩, h3⟩
  · rintro (rfl | ⟨(rfl | ⟨h1, h3⟩), h2⟩)
    · exact .inr ⟨.inl rfl, hq⟩
    · exact .inl rfl
    · exact .inr ⟨.inr ⟨h1, h2⟩, h3⟩

/-- OffsPut, of plain lists. -/
theorem put_law {L : List Ps} {M : List Wt} {p : Ps} {L1 : List Ps} {M1 : List Wt} (h : putV L M p = (L1, M1, 0)) (_hf : L.length ≤ 100) :
    putV L1 M1 p = (L1, M1, 0) ∧ getV L1 p.g p.t p.p p.h = (p.o, true) ∧ keptV L L1 [p] = true ∧ M1.length = M.length ∧ checkV L1 M1 = 0 ∧
    (∀ q L2 M2, ordP q p = 0 → putV L M q = (L2, M2, 0) → putV L2 M2 p = (L1, M1, 0)) := by
  obtain ⟨h1, h2, rfl, rfl, h3, h4⟩ := put_ok h
  have hu := check_upL h1
  have hM := check_ok h1
  refine ⟨?_, get_in (ins_up lawP hu) ins_self (pl_ord.2 (lawP.self p)), kept_is (ins_up lawP hu) (fun y hy hz => ?_) (fun y hy => ?_), rfl, h4, fun q L2 M2 hq h5 => ?_⟩
  · have := ch_ok (L' := insC ordP p (insC ordP p L)) (M' := M1) h4 h2 (by rw [ins_again lawP hu (lawP.self p)]; exact h3) hM.2.2.2
    rw [ins_again lawP hu (lawP.self p)] at this
    unfold putV
    rw [ins_again lawP hu (lawP.self p)]
    exact this
  · refine ins_old (fun h0 => hz p (by simp) ?_) hy
    rw [lawP.swap, h0]; rfl
  · rcases ins_mem hy with rfl | hy
    · exact .inr ⟨y, by simp, lawP.self y⟩
    · exact .inl ⟨y, hy, lawP.self y⟩
  · obtain ⟨_, _, rfl, rfl, _, h6⟩ := put_ok h5
    unfold putV
    rw [ins_again lawP hu hq]
    exact ch_ok h6 h2 h3 hM.2.2.2
/-- OffsApart, of plain lists. -/
theorem apart_put {L : List Ps} {M : List Wt} {p q : Ps} {L1 L2 : List Ps} {M1 M2 : List Wt} (hf : L.length ≤ 100) (hne : ordP p q ≠ 0) (h : putV L M p = (L1, M1, 0)) (k : putV L1 M1 q = (L2, M2, 0)) :
    ∃ L3 M3, putV L M q = (L3, M3, 0) ∧ putV L3 M3 p = (L2, M2, 0) := by
  obtain ⟨h1, h2, rfl, rfl, _, _⟩ := put_ok h
  obtain ⟨_, k2, rfl, rfl, k3, _⟩ := put_ok k
  have hu := check_upL h1
  have hM := check_ok h1
  have hl := ins_len (c := ordP) (x := q) (l := L)
  have h5 : putV L M2 q = (insC ordP q L, M2, 0) := ch_ok h1 k2 (by omega) hM.2.2.2
  refine ⟨_, _, h5, ?_⟩
  obtain ⟨_, _, _, _, _, h6⟩ := put_ok h5
  have hsw := ins_swap lawP (x := q) (q := p) hu hne
  rw [hsw] at k3 ⊢
  exact ch_ok h6 h2 k3 hM.2.2.2
theorem apart_hold {L : List Ps} {M : List Wt} {p q : Ps} {a b : Int} {L1 L2 : List Ps} {M1 M2 : List Wt} (hf : M.length ≤ 100) (hne : a ≠ b) (h : holdV L M a p = (L1, M1, 0)) (k : holdV L1 M1 b q = (L2, M2, 0)) :
    ∃ L3 M3, holdV L M b q = (L3, M3, 0) ∧ holdV L3 M3 a p = (L2, M2, 0) := by
  obtain ⟨h1, h2, rfl, rfl, _, _⟩ := hold_ok h
  obtain ⟨_, k2, rfl, rfl, k3, _⟩ := hold_ok k
  have hu := check_upM h1
  have hM := check_ok h1
  have hl := ins_len (c := ordW) (x := ⟨b, q⟩) (l := M)
  have h5 : holdV L2 M b q = (L2, insC ordW ⟨b, q⟩ M, 0) := ch_ok h1 k2 hM.2.2.1 (by omega)
  refine ⟨_, _, h5, ?_⟩
  obtain ⟨_, _, _, _, _, h6⟩ := hold_ok h5
  have hsw := ins_swap lawW (x := ⟨b, q⟩) (q := ⟨a, p⟩) hu (fun h0 => hne (ordW_eq.1 h0).1)
  rw [hsw] at k3 ⊢
  exact ch_ok h6 h2 hM.2.2.1 k3

end Go.Proofs.Ytnkjkgakbgjddaa
