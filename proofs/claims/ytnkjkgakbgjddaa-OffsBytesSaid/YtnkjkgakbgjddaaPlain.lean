/- Positions: their order, and what a list of them becomes; of no function. -/
import Derived.Test.YtnkjkgakbgjddaaPsn
import Derived.Lib.Bytealg
namespace Go.Proofs.Ytnkjkgakbgjddaa
open Go.RowKit

/-- How two texts compare, and two numbers; and the first of two that is not nought. -/
def cmpS (a b : ByteArray) : Int := Lib.compareBytes a.data.toList b.data.toList
def cmpI (a b : Int) : Int := if a < b then -1 else if b < a then 1 else 0
def orI (a b : Int) : Int := if a = 0 then b else a
theorem cmpB_vals : ∀ (a b : List UInt8), Lib.compareBytes a b = -1 ∨ Lib.compareBytes a b = 0 ∨ Lib.compareBytes a b = 1
  | [], [] => .inr (.inl rfl)
  | [], _ :: _ => .inl rfl
  | _ :: _, [] => .inr (.inr rfl)
  | a :: xs, b :: ys => by
    unfold Lib.compareBytes
    split
    · exact .inl rfl
    · split
      · exact .inr (.inr rfl)
      · exact cmpB_vals xs ys
theorem cmpB_eq : ∀ (a b : List UInt8), Lib.compareBytes a b = 0 ↔ a = b
  | [], [] => by simp [Lib.compareBytes]
  | [], _ :: _ => by simp [Lib.compareBytes]
  | _ :: _, [] => by simp [Lib.compareBytes]
  | a :: xs, b :: ys => by
    unfold Lib.compareBytes
    split
    · rename_i h
      refine ⟨fun h => by omega, fun e => ?_⟩
      injection e with e1 _
      subst e1
      exact absurd h (UInt8.lt_irrefl _)
    · split
      · rename_i h
        refine ⟨fun h => by omega, fun e => ?_⟩
        injection e with e1 _
        subst e1
        exact absurd h (UInt8.lt_irrefl _)
      · rename_i h1 h2
        rw [cmpB_eq xs ys]
        have e : a = b := UInt8.le_antisymm (UInt8.not_lt.1 h2) (UInt8.not_lt.1 h1)
        subst e
        simp
theorem cmpB_swap : ∀ (a b : List UInt8), Lib.compareBytes b a = - Lib.compareBytes a b
  | [], [] => rfl
  | [], _ :: _ => rfl
  | _ :: _, [] => rfl
  | a :: xs, b :: ys => by
    unfold Lib.compareBytes
    by_cases h1 : a < b
    · have h2 : ¬ b < a := fun h => UInt8.lt_asymm h1 h
      simp only [if_pos h1, if_neg h2]
      rfl
    · by_cases h2 : b < a
      · simp only [if_neg h1, if_pos h2]
      · simp only [if_neg h1, if_neg h2]
        exact cmpB_swap xs ys
theorem cmpB_trans : ∀ (a b c : List UInt8), Lib.compareBytes a b < 0 → Lib.compareBytes b c < 0 → Lib.compareBytes a c < 0
  | [], [], _, h, _ => absurd h (by decide)
  | [], _ :: _, [], _, h => absurd h (by simp [Lib.compareBytes])
  | [], _ :: _, _ :: _, _, _ => by simp [Lib.compareBytes]
  | _ :: _, [], _, h, _ => absurd h (by simp [Lib.compareBytes])
  | _ :: _, _ :: _, [], _, h => absurd h (by simp [Lib.compareBytes])
  | a :: xs, b :: ys, c :: zs, h1, h2 => by
    unfold Lib.compareBytes at h1 h2 ⊢
    by_cases ab : a < b
    · by_cases bc : b < c
      · rw [if_pos (UInt8.lt_trans ab bc)]; decide
      · rw [if_neg bc] at h2
        by_cases cb : c < b
        · rw [if_pos cb] at h2; exact absurd h2 (by decide)
        · have e : b = c := UInt8.le_antisymm (UInt8.not_lt.1 cb) (UInt8.not_lt.1 bc)
          subst e
          rw [if_pos ab]; decide
    · rw [if_neg ab] at h1
      by_cases ba : b < a
      · rw [if_pos ba] at h1; exact absurd h1 (by decide)
      · rw [if_neg ba] at h1
        have e : a = b := UInt8.le_antisymm (UInt8.not_lt.1 ba) (UInt8.not_lt.1 ab)
        subst e
        by_cases ac : a < c
        · rw [if_pos ac]; decide
        · rw [if_neg ac] at h2 ⊢
          by_cases ca : c < a
          · rw [if_pos ca] at h2; exact absurd h2 (by decide)
          · rw [if_neg ca] at h2 ⊢
            exact cmpB_trans xs ys zs h1 h2
theorem cmpS_eq {a b : ByteArray} : cmpS a b = 0 ↔ a = b := by
  unfold cmpS
  rw [cmpB_eq]
  constructor
  · intro h
    cases a; cases b
    simp at h
    rw [h]
  · intro h; rw [h]

/-- An order, as Go's comparing functions tell it. -/
structure LawC {α : Type} (c : α → α → Int) : Prop where
  swap : ∀ a b, c b a = - c a b
  trans : ∀ a b d, c a b < 0 → c b d < 0 → c a d < 0
  eqL : ∀ a b d, c a b = 0 → c a d = c b d
theorem LawC.eqR {α : Type} {c : α → α → Int} (h : LawC c) (a b d : α) (e : c a b = 0) : c d a = c d b := by
  rw [h.swap a d, h.swap b d, h.eqL a b d e]
theorem LawC.self {α : Type} {c : α → α → Int} (h : LawC c) (a : α) : c a a = 0 := by
  have := h.swap a a; omega
theorem LawC.pull {α β : Type} {c : α → α → Int} (h : LawC c) (f : β → α) : LawC (fun a b => c (f a) (f b)) :=
  ⟨fun _ _ => h.swap _ _, fun _ _ _ => h.trans _ _ _, fun _ _ _ => h.eqL _ _ _⟩
theorem orI_eq {x y : Int} : orI x y = 0 ↔ x = 0 ∧ y = 0 := by unfold orI; split <;> omega
theorem orI_lt {x y : Int} : orI x y < 0 ↔ x < 0 ∨ x = 0 ∧ y < 0 := by unfold orI; split <;> omega
theorem LawC.orC {α : Type} {c d : α → α → Int} (h : LawC c) (k : LawC d) : LawC (fun a b => orI (c a b) (d a b)) where
  swap a b := by
    simp only [orI]
    rw [h.swap a b, k.swap a b]
    by_cases e : c a b = 0
    · rw [if_pos (by omega), if_pos e]
    · rw [if_neg (by omega), if_neg e]
  trans a b e h1 h2 := by
    simp only [orI_lt] at h1 h2 ⊢
    rcases h1 with h1 | ⟨h1, h1'⟩
    · rcases h2 with h2 | ⟨h2, _⟩
      · exact .inl (h.trans _ _ _ h1 h2)
      · left; rw [← h.eqR b e a h2]; exact h1
    · rcases h2 with h2 | ⟨h2, h2'⟩
      · left; rw [h.eqL a b e h1]; exact h2
      · right; rw [h.eqL a b e h1]; exact ⟨h2, k.trans _ _ _ h1' h2'⟩
  eqL a b e h1 := by
    simp only [orI_eq] at h1 ⊢
    rw [h.eqL a b e h1.1, k.eqL a b e h1.2]
theorem lawI : LawC cmpI where
  swap a b := by unfold cmpI; (repeat' split) <;> omega
  trans a b d := by unfold cmpI; (repeat' split) <;> omega
  eqL a b d h := by
    have : a = b := by revert h; unfold cmpI; (repeat' split) <;> omega
    rw [this]
theorem lawS : LawC cmpS where
  swap a b := cmpB_swap _ _
  trans a b d := cmpB_trans _ _ _
  eqL a b d h := by rw [cmpS_eq.1 h]
theorem cmpI_eq {a b : Int} : cmpI a b = 0 ↔ a = b := by unfold cmpI; (repeat' split) <;> omega

/-- The order of positions' places, and of those that wait. -/
def ordP (a b : Ps) : Int := orI (cmpS a.g b.g) (orI (cmpS a.t b.t) (orI (cmpI a.p b.p) (cmpI a.h b.h)))
def ordW (a b : Wt) : Int := orI (cmpI a.pid b.pid) (ordP a.pos b.pos)
theorem lawP : LawC ordP := (lawS.pull Ps.g).orC ((lawS.pull Ps.t).orC ((lawI.pull Ps.p).orC (lawI.pull Ps.h)))
theorem lawW : LawC ordW := (lawI.pull Wt.pid).orC (lawP.pull Wt.pos)
theorem ordP_eq {a b : Ps} : ordP a b = 0 ↔ a.g = b.g ∧ a.t = b.t ∧ a.p = b.p ∧ a.h = b.h := by
  unfold ordP; rw [orI_eq, orI_eq, orI_eq, cmpS_eq, cmpS_eq, cmpI_eq, cmpI_eq]
theorem ordW_eq {a b : Wt} : ordW a b = 0 ↔ a.pid = b.pid ∧ ordP a.pos b.pos = 0 := by
  unfold ordW; rw [orI_eq, cmpI_eq]

/-- A list in order, each of it right. -/
def keptB {α : Type} (r : α → Bool) (c : α → α → Int) : List α → Bool
  | [] => true
  | [a] => r a
  | a :: b :: l => r a && decide (c a b < 0) && keptB r c (b :: l)
def Up {α : Type} (c : α → α → Int) (l : List α) : Prop := l.Pairwise (fun a b => c a b < 0)
theorem kept_at {α : Type} {r : α → Bool} {c : α → α → Int} : ∀ {l : List α}, keptB r c l = true ↔ ∀ i (h : i < l.length), r l[i] = true ∧ ∀ (h0 : 0 < i), c (l[i - 1]'(by omega)) l[i] < 0
  | [] => by simp [keptB]
  | [a] => by
    simp only [keptB]
    constructor
    · intro h i hi
      simp only [List.length_singleton] at hi
      obtain rfl : i = 0 := by omega
      exact ⟨by simpa using h, fun h0 => absurd h0 (Nat.lt_irrefl _)⟩
    · intro h; exact (h 0 (by simp)).1
  | a :: b :: l => by
    simp only [keptB, Bool.and_eq_true, decide_eq_true_eq]
    rw [kept_at (l := b :: l)]
    constructor
    · rintro ⟨⟨h1, h2⟩, h3⟩ i hi
      cases i with
      | zero => exact ⟨h1, fun h0 => absurd h0 (Nat.lt_irrefl _)⟩
      | succ i =>
        obtain ⟨h4, h5⟩ := h3 i (by simpa using hi)
        refine ⟨by simpa using h4, fun _ => ?_⟩
        cases i with
        | zero => simpa using h2
        | succ i => simpa using h5 (by omega)
    · intro h
      refine ⟨⟨(h 0 (by simp)).1, ?_⟩, fun i hi => ?_⟩
      · exact (h 1 (by simp)).2 (by omega)
      · obtain ⟨h1, h2⟩ := h (i + 1) (by simp only [List.length_cons] at hi ⊢; omega)
        refine ⟨by simpa using h1, fun h0 => ?_⟩
        obtain ⟨i, rfl⟩ : ∃ j, i = j + 1 := ⟨i - 1, by omega⟩
        simpa using h2 (by omega)
theorem kept_all {α : Type} {r : α → Bool} {c : α → α → Int} {l : List α} (h : keptB r c l = true) : ∀ a ∈ l, r a = true := fun a ha => by
  obtain ⟨i, hi, rfl⟩ := List.getElem_of_mem ha
  exact (kept_at.1 h i hi).1
theorem kept_up {α : Type} {r : α → Bool} {c : α → α → Int} (hc : LawC c) : ∀ {l : List α}, keptB r c l = true → Up c l
  | [], _ => List.Pairwise.nil
  | [a], _ => List.pairwise_singleton _ _
  | a :: b :: l, h => by
    simp only [keptB, Bool.and_eq_true, decide_eq_true_eq] at h
    have hu := kept_up hc h.2
    refine List.Pairwise.cons (fun x hx => ?_) hu
    rcases List.mem_cons.1 hx with rfl | hx
    · exact h.1.2
    · exact hc.trans _ _ _ h.1.2 (List.rel_of_pairwise_cons hu hx)
theorem kept_of {α : Type} {r : α → Bool} {c : α → α → Int} : ∀ {l : List α}, (∀ a ∈ l, r a = true) → Up c l → keptB r c l = true
  | [], _, _ => rfl
  | [a], h, _ => by simpa [keptB] using h
  | a :: b :: l, h, hu => by
    simp only [keptB, Bool.and_eq_true, decide_eq_true_eq]
    exact ⟨⟨h a (by simp), List.rel_of_pairwise_cons hu (by simp)⟩, kept_of (fun x hx => h x (List.mem_cons_of_mem _ hx)) hu.of_cons⟩
theorem up_at {α : Type} {c : α → α → Int} {l : List α} (h : Up c l) {i j : Nat} (hj : j < l.length) (hi : i < j) : c (l[i]'(by omega)) l[j] < 0 :=
  List.pairwise_iff_getElem.1 h i j (by omega) hj hi

/-- A list with one in its place. -/
def insC {α : Type} (c : α → α → Int) (x : α) : List α → List α
  | [] => [x]
  | a :: l => if c a x < 0 then a :: insC c x l else if c a x = 0 then x :: l else x :: a :: l
/-- What a search by an order finds. -/
def SrchG {α : Type} (cft : α → Int) (l : List α) (i : Nat) (b : Bool) : Prop :=
  i ≤ l.length ∧ (∀ j (h : j < l.length), j < i → cft l[j] < 0) ∧ (∀ j (h : j < l.length), i ≤ j → 0 ≤ cft l[j]) ∧ (b = true ↔ ∃ h : i < l.length, cft l[i] = 0)
theorem ins_srch {α : Type} {c : α → α → Int} {x : α} : ∀ {l : List α} {i : Nat} {b : Bool}, SrchG (fun y => c y x) l i b → insC c x l = l.take i ++ x :: l.drop (if b then i + 1 else i)
  | [], i, b, h => by
    obtain ⟨h1, _, _, h4⟩ := h
    simp at h1
    subst h1
    cases b with
    | false => rfl
    | true => exact absurd (h4.1 rfl).1 (by simp)
  | a :: l, 0, b, h => by
    obtain ⟨_, _, h3, h4⟩ := h
    have h0 := h3 0 (by simp) (Nat.le_refl _)
    simp only [List.getElem_cons_zero] at h0
    unfold insC
    rw [if_neg (by omega)]
    cases b with
    | false =>
      rw [if_neg]
      · rfl
      · intro e
        have := h4.2 ⟨by simp, by simpa using e⟩
        cases this
    | true =>
      obtain ⟨_, e⟩ := h4.1 rfl
      rw [if_pos (by simpa using e)]
      rfl
  | a :: l, i + 1, b, h => by
    obtain ⟨h1, h2, h3, h4⟩ := h
    have ha := h2 0 (by simp) (by omega)
    simp only [List.getElem_cons_zero] at ha
    have ih := ins_srch (c := c) (x := x) (l := l) (i := i) (b := b) ⟨by simpa using h1, fun j hj hji => by have := h2 (j + 1) (by simpa using hj) (by omega); simpa using this,
      fun j hj hji => by have := h3 (j + 1) (by simpa using hj) (by omega); simpa using this, by simpa using h4⟩
    unfold insC
    rw [if_pos ha, ih]
    cases b <;> simp
theorem ins_mem {α : Type} {c : α → α → Int} {x y : α} : ∀ {l : List α}, y ∈ insC c x l → y = x ∨ y ∈ l
  | [], h => by simp [insC] at h; exact .inl h
  | a :: l, h => by
    unfold insC at h
    split at h
    · rcases List.mem_cons.1 h with rfl | h
      · exact .inr (by simp)
      · rcases ins_mem h with h | h
        · exact .inl h
        · exact .inr (by simp [h])
    · split at h
      · rcases List.mem_cons.1 h with rfl | h
        · exact .inl rfl
        · exact .inr (by simp [h])
      · rcases List.mem_cons.1 h with rfl | h
        · exact .inl rfl
        · exact .inr h
theorem ins_self {α : Type} {c : α → α → Int} {x : α} : ∀ {l : List α}, x ∈ insC c x l
  | [] => by simp [insC]
  | a :: l => by
    unfold insC
    split
    · exact List.mem_cons_of_mem _ ins_self
    · split <;> simp
theorem ins_old {α : Type} {c : α → α → Int} {x y : α} (hne : c y x ≠ 0) : ∀ {l : List α}, y ∈ l → y ∈ insC c x l
  | a :: l, h => by
    unfold insC
    rcases List.mem_cons.1 h with rfl | h
    · split
      · simp
      · simp
    · split
      · exact List.mem_cons_of_mem _ (ins_old hne h)
      · split
        · exact List.mem_cons_of_mem _ h
        · exact List.mem_cons_of_mem _ (List.mem_cons_of_mem _ h)
theorem ins_up {α : Type} {c : α → α → Int} (hc : LawC c) {x : α} : ∀ {l : List α}, Up c l → Up c (insC c x l)
  | [], _ => List.pairwise_singleton _ _
  | a :: l, h => by
    have h1 := fun {y} (hy : y ∈ l) => List.rel_of_pairwise_cons h hy
    have h2 := h.of_cons
    unfold insC
    split
    · rename_i hlt
      refine List.Pairwise.cons (fun y hy => ?_) (ins_up hc h2)
      rcases ins_mem hy with rfl | hy
      · exact hlt
      · exact h1 hy
    · split
      · rename_i h3
        refine List.Pairwise.cons (fun y hy => ?_) h2
        rw [← hc.eqL a x y h3]; exact h1 hy
      · have hxa : c x a < 0 := by have := hc.swap a x; omega
        refine List.Pairwise.cons (fun y hy => ?_) h
        rcases List.mem_cons.1 hy with rfl | hy
        · exact hxa
        · exact hc.trans _ _ _ hxa (h1 hy)
theorem ins_len {α : Type} {c : α → α → Int} {x : α} : ∀ {l : List α}, l.length ≤ (insC c x l).length ∧ (insC c x l).length ≤ l.length + 1
  | [] => by simp [insC]
  | a :: l => by
    have := ins_len (c := c) (x := x) (l := l)
    unfold insC
    split
    · simp only [List.length_cons]; omega
    · split <;> simp
theorem ins_pos {α : Type} {c : α → α → Int} {x : α} {l : List α} : 0 < (insC c x l).length := by
  have := ins_self (c := c) (x := x) (l := l)
  exact List.length_pos_of_mem this
/-- A list in order is what its members are. -/
theorem up_ext {α : Type} {c : α → α → Int} (hc : LawC c) : ∀ {a b : List α}, Up c a → Up c b → (∀ x, x ∈ a ↔ x ∈ b) → a = b
  | [], [], _, _, _ => rfl
  | [], y :: b, _, _, h => by have := (h y).2 (by simp); simp at this
  | x :: a, [], _, _, h => by have := (h x).1 (by simp); simp at this
  | x :: a, y :: b, ha, hb, h => by
    have h1 := fun {z} (hz : z ∈ a) => List.rel_of_pairwise_cons ha hz
    have h2 := fun {z} (hz : z ∈ b) => List.rel_of_pairwise_cons hb hz
    have irr : ∀ z, ¬ c z z < 0 := fun z => by rw [hc.self z]; decide
    have exy : x = y := by
      rcases List.mem_cons.1 ((h x).1 (by simp)) with e | hx
      · exact e
      · rcases List.mem_cons.1 ((h y).2 (by simp)) with e | hy
        · exact e.symm
        · exact absurd (hc.trans _ _ _ (h1 hy) (h2 hx)) (irr _)
    subst exy
    congr 1
    refine up_ext hc ha.of_cons hb.of_cons fun z => ⟨fun hz => ?_, fun hz => ?_⟩
    · rcases List.mem_cons.1 ((h z).1 (List.mem_cons_of_mem _ hz)) with e | h'
      · subst e; exact absurd (h1 hz) (irr _)
      · exact h'
    · rcases List.mem_cons.1 ((h z).2 (List.mem_cons_of_mem _ hz)) with e | h'
      · subst e; exact absurd (h2 hz) (irr _)
      · exact h'
/-- In a list in order whoever meets the new one's place is no more there. -/
theorem ins_gone {α : Type} {c : α → α → Int} (hc : LawC c) {x y : α} : ∀ {l : List α}, Up c l → y ∈ insC c x l → c y x = 0 → y = x
  | l, hu, hy, h0 => by
    have hi := ins_up hc (x := x) hu
    have hx := ins_self (c := c) (x := x) (l := l)
    obtain ⟨i, hi1, e1⟩ := List.getElem_of_mem hy
    obtain ⟨j, hj1, e2⟩ := List.getElem_of_mem hx
    rcases Nat.lt_trichotomy i j with h | h | h
    · have := up_at hi hj1 h
      rw [e1, e2] at this; omega
    · subst h; exact e1.symm.trans e2
    · have := up_at hi hi1 h
      rw [e1, e2, hc.swap] at this; omega
theorem ins_iff {α : Type} {c : α → α → Int} (hc : LawC c) {x y : α} {l : List α} (hu : Up c l) : y ∈ insC c x l ↔ y = x ∨ y ∈ l ∧ c y x ≠ 0 := by
  constructor
  · intro h
    by_cases h0 : c y x = 0
    · exact .inl (ins_gone hc hu h h0)
    · rcases ins_mem h with h | h
      · exact .inl h
      · exact .inr ⟨h, h0⟩
  · rintro (rfl | ⟨h, h0⟩)
    · exact ins_self
    · exact ins_old h0 h

end Go.Proofs.Ytnkjkgakbgjddaa
