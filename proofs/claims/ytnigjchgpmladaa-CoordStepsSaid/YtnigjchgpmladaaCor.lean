/- Orders, and lists in order: how texts and numbers compare, a list in order, what becomes of one more, what a search finds; of no function. Producers and their transactions: their cells, and what they are; those of a region. What a coordinator does, in plain words. Whether a coordinator may be, said of its members; what a step leaves of that. What steps of a coordinator leave as it was, in plain words. What the laws of what is taken in, ended and old say, in plain words. -/
import Derived.Test.YtnigjchgpmladaaBas
import Derived.Lib.Bytealg
namespace Go.Proofs.Ytnigjchgpmladaa
open Go.RowKit

/-- How two texts compare, and two numbers; and the first of two that is not nought. -/
def cmpS (a b : ByteArray) : Int := Lib.compareBytes a.data.toList b.data.toList
def cmpI (a b : Int) : Int := if a < b then -1 else if b < a then 1 else 0
def orI (a b : Int) : Int := if a = 0 then b else a
theorem cmpB_vals : ∀ (a b : List UInt8), Lib.compareBytes a b = -1 ∨ Lib.compareBytes a b = 0 ∨ Lib.compareBytes a b = 1
  | [], [] => .inr (.inl rfl)
  | [], _ :: _ => .inl rfl
  | _ :: _, [] => .inr (.inr rfl)
  | a :: xs, b :: ys => by
    unfold Lib.compareBytes
    split
    · exact .inl rfl
    · split
      · exact .inr (.inr rfl)
      · exact cmpB_vals xs ys
theorem cmpB_eq : ∀ (a b : List UInt8), Lib.compareBytes a b = 0 ↔ a = b
  | [], [] => by simp [Lib.compareBytes]
  | [], _ :: _ => by simp [Lib.compareBytes]
  | _ :: _, [] => by simp [Lib.compareBytes]
  | a :: xs, b :: ys => by
    unfold Lib.compareBytes
    split
    · rename_i h
      refine ⟨fun h => by omega, fun e => ?_⟩
      injection e with e1 _
      subst e1
      exact absurd h (UInt8.lt_irrefl _)
    · split
      · rename_i h
        refine ⟨fun h => by omega, fun e => ?_⟩
        injection e with e1 _
        subst e1
        exact absurd h (UInt8.lt_irrefl _)
      · rename_i h1 h2
        rw [cmpB_eq xs ys]
        have e : a = b := UInt8.le_antisymm (UInt8.not_lt.1 h2) (UInt8.not_lt.1 h1)
        subst e
        simp
theorem cmpB_swap : ∀ (a b : List UInt8), Lib.compareBytes b a = - Lib.compareBytes a b
  | [], [] => rfl
  | [], _ :: _ => rfl
  | _ :: _, [] => rfl
  | a :: xs, b :: ys => by
    unfold Lib.compareBytes
    by_cases h1 : a < b
    · have h2 : ¬ b < a := fun h => UInt8.lt_asymm h1 h
      simp only [if_pos h1, if_neg h2]
      rfl
    · by_cases h2 : b < a
      · simp only [if_neg h1, if_pos h2]
      · simp only [if_neg h1, if_neg h2]
        exact cmpB_swap xs ys
theorem cmpB_trans : ∀ (a b c : List UInt8), Lib.compareBytes a b < 0 → Lib.compareBytes b c < 0 → Lib.compareBytes a c < 0
  | [], [], _, h, _ => absurd h (by decide)
  | [], _ :: _, [], _, h => absurd h (by simp [Lib.compareBytes])
  | [], _ :: _, _ :: _, _, _ => by simp [Lib.compareBytes]
  | _ :: _, [], _, h, _ => absurd h (by simp [Lib.compareBytes])
  | _ :: _, _ :: _, [], _, h => absurd h (by simp [Lib.compareBytes])
  | a :: xs, b :: ys, c :: zs, h1, h2 => by
    unfold Lib.compareBytes at h1 h2 ⊢
    by_cases ab : a < b
    · by_cases bc : b < c
      · rw [if_pos (UInt8.lt_trans ab bc)]; decide
      · rw [if_neg bc] at h2
        by_cases cb : c < b
        · rw [if_pos cb] at h2; exact absurd h2 (by decide)
        · have e : b = c := UInt8.le_antisymm (UInt8.not_lt.1 cb) (UInt8.not_lt.1 bc)
          subst e
          rw [if_pos ab]; decide
    · rw [if_neg ab] at h1
      by_cases ba : b < a
      · rw [if_pos ba] at h1; exact absurd h1 (by decide)
      · rw [if_neg ba] at h1
        have e : a = b := UInt8.le_antisymm (UInt8.not_lt.1 ba) (UInt8.not_lt.1 ab)
        subst e
        by_cases ac : a < c
        · rw [if_pos ac]; decide
        · rw [if_neg ac] at h2 ⊢
          by_cases ca : c < a
          · rw [if_pos ca] at h2; exact absurd h2 (by decide)
          · rw [if_neg ca] at h2 ⊢
            exact cmpB_trans xs ys zs h1 h2
theorem cmpS_eq {a b : ByteArray} : cmpS a b = 0 ↔ a = b := by
  unfold cmpS
  rw [cmpB_eq]
  constructor
  · intro h
    cases a; cases b
    simp at h
    rw [h]
  · intro h; rw [h]

/-- An order, as Go's comparing functions tell it. -/
structure LawC {α : Type} (c : α → α → Int) : Prop where
  swap : ∀ a b, c b a = - c a b
  trans : ∀ a b d, c a b < 0 → c b d < 0 → c a d < 0
  eqL : ∀ a b d, c a b = 0 → c a d = c b d
theorem LawC.eqR {α : Type} {c : α → α → Int} (h : LawC c) (a b d : α) (e : c a b = 0) : c d a = c d b := by
  rw [h.swap a d, h.swap b d, h.eqL a b d e]
theorem LawC.self {α : Type} {c : α → α → Int} (h : LawC c) (a : α) : c a a = 0 := by
  have := h.swap a a; omega
theorem LawC.pull {α β : Type} {c : α → α → Int} (h : LawC c) (f : β → α) : LawC (fun a b => c (f a) (f b)) :=
  ⟨fun _ _ => h.swap _ _, fun _ _ _ => h.trans _ _ _, fun _ _ _ => h.eqL _ _ _⟩
theorem orI_eq {x y : Int} : orI x y = 0 ↔ x = 0 ∧ y = 0 := by unfold orI; split <;> omega
theorem orI_lt {x y : Int} : orI x y < 0 ↔ x < 0 ∨ x = 0 ∧ y < 0 := by unfold orI; split <;> omega
theorem LawC.orC {α : Type} {c d : α → α → Int} (h : LawC c) (k : LawC d) : LawC (fun a b => orI (c a b) (d a b)) where
  swap a b := by
    simp only [orI]
    rw [h.swap a b, k.swap a b]
    by_cases e : c a b = 0
    · rw [if_pos (by omega), if_pos e]
    · rw [if_neg (by omega), if_neg e]
  trans a b e h1 h2 := by
    simp only [orI_lt] at h1 h2 ⊢
    rcases h1 with h1 | ⟨h1, h1'⟩
    · rcases h2 with h2 | ⟨h2, _⟩
      · exact .inl (h.trans _ _ _ h1 h2)
      · left; rw [← h.eqR b e a h2]; exact h1
    · rcases h2 with h2 | ⟨h2, h2'⟩
      · left; rw [h.eqL a b e h1]; exact h2
      · right; rw [h.eqL a b e h1]; exact ⟨h2, k.trans _ _ _ h1' h2'⟩
  eqL a b e h1 := by
    simp only [orI_eq] at h1 ⊢
    rw [h.eqL a b e h1.1, k.eqL a b e h1.2]
theorem lawI : LawC cmpI where
  swap a b := by unfold cmpI; (repeat' split) <;> omega
  trans a b d := by unfold cmpI; (repeat' split) <;> omega
  eqL a b d h := by
    have : a = b := by revert h; unfold cmpI; (repeat' split) <;> omega
    rw [this]
theorem lawS : LawC cmpS where
  swap a b := cmpB_swap _ _
  trans a b d := cmpB_trans _ _ _
  eqL a b d h := by rw [cmpS_eq.1 h]
theorem cmpI_eq {a b : Int} : cmpI a b = 0 ↔ a = b := by unfold cmpI; (repeat' split) <;> omega

/-- A list in order, each of it right. -/
def keptB {α : Type} (r : α → Bool) (c : α → α → Int) : List α → Bool
  | [] => true
  | [a] => r a
  | a :: b :: l => r a && decide (c a b < 0) && keptB r c (b :: l)
def Up {α : Type} (c : α → α → Int) (l : List α) : Prop := l.Pairwise (fun a b => c a b < 0)
theorem kept_at {α : Type} {r : α → Bool} {c : α → α → Int} : ∀ {l : List α}, keptB r c l = true ↔ ∀ i (h : i < l.length), r l[i] = true ∧ ∀ (h0 : 0 < i), c (l[i - 1]'(by omega)) l[i] < 0
  | [] => by simp [keptB]
  | [a] => by
    simp only [keptB]
    constructor
    · intro h i hi
      simp only [List.length_singleton] at hi
      obtain rfl : i = 0 := by omega
      exact ⟨by simpa using h, fun h0 => absurd h0 (Nat.lt_irrefl _)⟩
    · intro h; exact (h 0 (by simp)).1
  | a :: b :: l => by
    simp only [keptB, Bool.and_eq_true, decide_eq_true_eq]
    rw [kept_at (l := b :: l)]
    constructor
    · rintro ⟨⟨h1, h2⟩, h3⟩ i hi
      cases i with
      | zero => exact ⟨h1, fun h0 => absurd h0 (Nat.lt_irrefl _)⟩
      | succ i =>
        obtain ⟨h4, h5⟩ := h3 i (by simpa using hi)
        refine ⟨by simpa using h4, fun _ => ?_⟩
        cases i with
        | zero => simpa using h2
        | succ i => simpa using h5 (by omega)
    · intro h
      refine ⟨⟨(h 0 (by simp)).1, ?_⟩, fun i hi => ?_⟩
      · exact (h 1 (by simp)).2 (by omega)
      · obtain ⟨h1, h2⟩ := h (i + 1) (by simp only [List.length_cons] at hi ⊢; omega)
        refine ⟨by simpa using h1, fun h0 => ?_⟩
        obtain ⟨i, rfl⟩ : ∃ j, i = j + 1 := ⟨i - 1, by omega⟩
        simpa using h2 (by omega)
theorem kept_all {α : Type} {r : α → Bool} {c : α → α → Int} {l : List α} (h : keptB r c l = true) : ∀ a ∈ l, r a = true := fun a ha => by
  obtain ⟨i, hi, rfl⟩ := List.getElem_of_mem ha
  exact (kept_at.1 h i hi).1
theorem kept_up {α : Type} {r : α → Bool} {c : α → α → Int} (hc : LawC c) : ∀ {l : List α}, keptB r c l = true → Up c l
  | [], _ => List.Pairwise.nil
  | [a], _ => List.pairwise_singleton _ _
  | a :: b :: l, h => by
    simp only [keptB, Bool.and_eq_true, decide_eq_true_eq] at h
    have hu := kept_up hc h.2
    refine List.Pairwise.cons (fun x hx => ?_) hu
    rcases List.mem_cons.1 hx with rfl | hx
    · exact h.1.2
    · exact hc.trans _ _ _ h.1.2 (List.rel_of_pairwise_cons hu hx)
theorem kept_of {α : Type} {r : α → Bool} {c : α → α → Int} : ∀ {l : List α}, (∀ a ∈ l, r a = true) → Up c l → keptB r c l = true
  | [], _, _ => rfl
  | [a], h, _ => by simpa [keptB] using h
  | a :: b :: l, h, hu => by
    simp only [keptB, Bool.and_eq_true, decide_eq_true_eq]
    exact ⟨⟨h a (by simp), List.rel_of_pairwise_cons hu (by simp)⟩, kept_of (fun x hx => h x (List.mem_cons_of_mem _ hx)) hu.of_cons⟩
theorem up_at {α : Type} {c : α → α → Int} {l : List α} (h : Up c l) {i j : Nat} (hj : j < l.length) (hi : i < j) : c (l[i]'(by omega)) l[j] < 0 :=
  List.pairwise_iff_getElem.1 h i j (by omega) hj hi

/-- A list with one in its place. -/
def insC {α : Type} (c : α → α → Int) (x : α) : List α → List α
  | [] => [x]
  | a :: l => if c a x < 0 then a :: insC c x l else if c a x = 0 then x :: l else x :: a :: l
/-- What a search by an order finds. -/
def SrchG {α : Type} (cft : α → Int) (l : List α) (i : Nat) (b : Bool) : Prop :=
  i ≤ l.length ∧ (∀ j (h : j < l.length), j < i → cft l[j] < 0) ∧ (∀ j (h : j < l.length), i ≤ j → 0 ≤ cft l[j]) ∧ (b = true ↔ ∃ h : i < l.length, cft l[i] = 0)
theorem ins_srch {α : Type} {c : α → α → Int} {x : α} : ∀ {l : List α} {i : Nat} {b : Bool}, SrchG (fun y => c y x) l i b → insC c x l = l.take i ++ x :: l.drop (if b then i + 1 else i)
  | [], i, b, h => by
    obtain ⟨h1, _, _, h4⟩ := h
    simp at h1
    subst h1
    cases b with
    | false => rfl
    | true => exact absurd (h4.1 rfl).1 (by simp)
  | a :: l, 0, b, h => by
    obtain ⟨_, _, h3, h4⟩ := h
    have h0 := h3 0 (by simp) (Nat.le_refl _)
    simp only [List.getElem_cons_zero] at h0
    unfold insC
    rw [if_neg (by omega)]
    cases b with
    | false =>
      rw [if_neg]
      · rfl
      · intro e
        have := h4.2 ⟨by simp, by simpa using e⟩
        cases this
    | true =>
      obtain ⟨_, e⟩ := h4.1 rfl
      rw [if_pos (by simpa using e)]
      rfl
  | a :: l, i + 1, b, h => by
    obtain ⟨h1, h2, h3, h4⟩ := h
    have ha := h2 0 (by simp) (by omega)
    simp only [List.getElem_cons_zero] at ha
    have ih := ins_srch (c := c) (x := x) (l := l) (i := i) (b := b) ⟨by simpa using h1, fun j hj hji => by have := h2 (j + 1) (by simpa using hj) (by omega); simpa using this,
      fun j hj hji => by have := h3 (j + 1) (by simpa using hj) (by omega); simpa using this, by simpa using h4⟩
    unfold insC
    rw [if_pos ha, ih]
    cases b <;> simp
theorem ins_mem {α : Type} {c : α → α → Int} {x y : α} : ∀ {l : List α}, y ∈ insC c x l → y = x ∨ y ∈ l
  | [], h => by simp [insC] at h; exact .inl h
  | a :: l, h => by
    unfold insC at h
    split at h
    · rcases List.mem_cons.1 h with rfl | h
      · exact .inr (by simp)
      · rcases ins_mem h with h | h
        · exact .inl h
        · exact .inr (by simp [h])
    · split at h
      · rcases List.mem_cons.1 h with rfl | h
        · exact .inl rfl
        · exact .inr (by simp [h])
      · rcases List.mem_cons.1 h with rfl | h
        · exact .inl rfl
        · exact .inr h
theorem ins_self {α : Type} {c : α → α → Int} {x : α} : ∀ {l : List α}, x ∈ insC c x l
  | [] => by simp [insC]
  | a :: l => by
    unfold insC
    split
    · exact List.mem_cons_of_mem _ ins_self
    · split <;> simp
theorem ins_old {α : Type} {c : α → α → Int} {x y : α} (hne : c y x ≠ 0) : ∀ {l : List α}, y ∈ l → y ∈ insC c x l
  | a :: l, h => by
    unfold insC
    rcases List.mem_cons.1 h with rfl | h
    · split
      · simp
      · simp
    · split
      · exact List.mem_cons_of_mem _ (ins_old hne h)
      · split
        · exact List.mem_cons_of_mem _ h
        · exact List.mem_cons_of_mem _ (List.mem_cons_of_mem _ h)
theorem ins_up {α : Type} {c : α → α → Int} (hc : LawC c) {x : α} : ∀ {l : List α}, Up c l → Up c (insC c x l)
  | [], _ => List.pairwise_singleton _ _
  | a :: l, h => by
    have h1 := fun {y} (hy : y ∈ l) => List.rel_of_pairwise_cons h hy
    have h2 := h.of_cons
    unfold insC
    split
    · rename_i hlt
      refine List.Pairwise.cons (fun y hy => ?_) (ins_up hc h2)
      rcases ins_mem hy with rfl | hy
      · exact hlt
      · exact h1 hy
    · split
      · rename_i h3
        refine List.Pairwise.cons (fun y hy => ?_) h2
        rw [← hc.eqL a x y h3]; exact h1 hy
      · have hxa : c x a < 0 := by have := hc.swap a x; omega
        refine List.Pairwise.cons (fun y hy => ?_) h
        rcases List.mem_cons.1 hy with rfl | hy
        · exact hxa
        · exact hc.trans _ _ _ hxa (h1 hy)
theorem ins_len {α : Type} {c : α → α → Int} {x : α} : ∀ {l : List α}, l.length ≤ (insC c x l).length ∧ (insC c x l).length ≤ l.length + 1
  | [] => by simp [insC]
  | a :: l => by
    have := ins_len (c := c) (x := x) (l := l)
    unfold insC
    split
    · simp only [List.length_cons]; omega
    · split <;> simp
theorem ins_pos {α : Type} {c : α → α → Int} {x : α} {l : List α} : 0 < (insC c x l).length := by
  have := ins_self (c := c) (x := x) (l := l)
  exact List.length_pos_of_mem this
/-- A list in order is what its members are. -/
theorem up_ext {α : Type} {c : α → α → Int} (hc : LawC c) : ∀ {a b : List α}, Up c a → Up c b → (∀ x, x ∈ a ↔ x ∈ b) → a = b
  | [], [], _, _, _ => rfl
  | [], y :: b, _, _, h => by have := (h y).2 (by simp); simp at this
  | x :: a, [], _, _, h => by have := (h x).1 (by simp); simp at this
  | x :: a, y :: b, ha, hb, h => by
    have h1 := fun {z} (hz : z ∈ a) => List.rel_of_pairwise_cons ha hz
    have h2 := fun {z} (hz : z ∈ b) => List.rel_of_pairwise_cons hb hz
    have irr : ∀ z, ¬ c z z < 0 := fun z => by rw [hc.self z]; decide
    have exy : x = y := by
      rcases List.mem_cons.1 ((h x).1 (by simp)) with e | hx
      · exact e
      · rcases List.mem_cons.1 ((h y).2 (by simp)) with e | hy
        · exact e.symm
        · exact absurd (hc.trans _ _ _ (h1 hy) (h2 hx)) (irr _)
    subst exy
    congr 1
    refine up_ext hc ha.of_cons hb.of_cons fun z => ⟨fun hz => ?_, fun hz => ?_⟩
    · rcases List.mem_cons.1 ((h z).1 (List.mem_cons_of_mem _ hz)) with e | h'
      · subst e; exact absurd (h1 hz) (irr _)
      · exact h'
    · rcases List.mem_cons.1 ((h z).2 (List.mem_cons_of_mem _ hz)) with e | h'
      · subst e; exact absurd (h2 hz) (irr _)
      · exact h'
/-- In a list in order whoever meets the new one's place is no more there. -/
theorem ins_gone {α : Type} {c : α → α → Int} (hc : LawC c) {x y : α} : ∀ {l : List α}, Up c l → y ∈ insC c x l → c y x = 0 → y = x
  | l, hu, hy, h0 => by
    have hi := ins_up hc (x := x) hu
    have hx := ins_self (c := c) (x := x) (l := l)
    obtain ⟨i, hi1, e1⟩ := List.getElem_of_mem hy
    obtain ⟨j, hj1, e2⟩ := List.getElem_of_mem hx
    rcases Nat.lt_trichotomy i j with h | h | h
    · have := up_at hi hj1 h
      rw [e1, e2] at this; omega
    · subst h; exact e1.symm.trans e2
    · have := up_at hi hi1 h
      rw [e1, e2, hc.swap] at this; omega
theorem ins_iff {α : Type} {c : α → α → Int} (hc : LawC c) {x y : α} {l : List α} (hu : Up c l) : y ∈ insC c x l ↔ y = x ∨ y ∈ l ∧ c y x ≠ 0 := by
  constructor
  · intro h
    by_cases h0 : c y x = 0
    · exact .inl (ins_gone hc hu h h0)
    · rcases ins_mem h with h | h
      · exact .inl h
      · exact .inr ⟨h, h0⟩
  · rintro (rfl | ⟨h, h0⟩)
    · exact ins_self
    · exact ins_old h0 h

end Go.Proofs.Ytnigjchgpmladaa

namespace Go.Proofs.Ytnigjchgpmladaa
open Go.RowKit

/-- A partition. -/
structure Tp where
  t : ByteArray
  p : Int
  h : Int
deriving DecidableEq
def Tp.cells (x : Tp) : List Value := [.string x.t, .int .i64 x.p, .int .i64 x.h]
abbrev Tp.v (x : Tp) : Value := .agg #[.string x.t, .int .i64 x.p, .int .i64 x.h]
def Tp.wf (x : Tp) : Prop := x.t.size ≤ maxLen ∧ (Lit.int .i64 x.p).wf = true ∧ (Lit.int .i64 x.h).wf = true
def tpK : RK Tp := ⟨3, by decide, Tp.cells, fun _ => rfl, fun _ v h => by simp [Tp.cells] at h; rcases h with rfl | rfl | rfl <;> rfl, fun _ h => h.wf, fun h _ => h⟩
theorem tp_at {w : World} {A : Option Addr} {n c k : Nat} {l : List Tp} (i : Sl tpK w A n c l) (hk : k < n) :
    ∃ b off, ∃ hl : k < l.length, A = some ⟨b, off, none⟩ ∧ b < w.heap.size ∧ w.cell? ⟨b, off + k * 3, none⟩ = some (.string l[k].t) ∧ w.cell? ⟨b, off + k * 3 + 1, none⟩ = some (.int .i64 l[k].p) ∧ w.cell? ⟨b, off + k * 3 + 2, none⟩ = some (.int .i64 l[k].h) := by
  obtain ⟨b, off, hl, rfl, hlt, hc⟩ := i.get hk
  exact ⟨b, off, hl, rfl, hlt, hc 0 (by decide), hc 1 (by decide), hc 2 (by decide)⟩
theorem str_at {w : World} {A : Option Addr} {n c k : Nat} {l : List ByteArray} (i : Sl strK w A n c l) (hk : k < n) :
    ∃ b off, ∃ hl : k < l.length, A = some ⟨b, off, none⟩ ∧ b < w.heap.size ∧ w.cell? ⟨b, off + k, none⟩ = some (.string l[k]) := by
  obtain ⟨b, off, hl, rfl, hlt, hc⟩ := i.get hk
  exact ⟨b, off, hl, rfl, hlt, by have := hc 0 (by decide); simpa [strK] using this⟩

/-- A producer with its transaction: where its partitions and groups lie, and what they are. -/
structure Tx where
  id : ByteArray
  pid : Int
  gen : Int
  no : Int
  st : Int
  PA : Option Addr
  Pn : Nat
  Pc : Nat
  P : List Tp
  GA : Option Addr
  Gn : Nat
  Gc : Nat
  G : List ByteArray
  at_ : Int
def Tx.cells (x : Tx) : List Value := [.string x.id, .int .i64 x.pid, .int .i64 x.gen, .int .i64 x.no, .int .i64 x.st, .slice x.PA x.Pn x.Pc, .slice x.GA x.Gn x.Gc, .int .i64 x.at_]
abbrev Tx.c (x : Tx) : Array Value := #[.string x.id, .int .i64 x.pid, .int .i64 x.gen, .int .i64 x.no, .int .i64 x.st, .slice x.PA x.Pn x.Pc, .slice x.GA x.Gn x.Gc, .int .i64 x.at_]
abbrev Tx.v (x : Tx) : Value := .agg #[.string x.id, .int .i64 x.pid, .int .i64 x.gen, .int .i64 x.no, .int .i64 x.st, .slice x.PA x.Pn x.Pc, .slice x.GA x.Gn x.Gc, .int .i64 x.at_]
/-- It lies in memory. -/
structure Tx.In (w : World) (x : Tx) : Prop where
  id : x.id.size ≤ maxLen
  p : Sl tpK w x.PA x.Pn x.Pc x.P
  g : Sl strK w x.GA x.Gn x.Gc x.G
def txK : RK Tx := ⟨8, by decide, Tx.cells, fun _ => rfl, fun _ v h => by simp [Tx.cells] at h; rcases h with rfl | rfl | rfl | rfl | rfl | rfl | rfl | rfl <;> rfl, Tx.In, fun h hb => ⟨h.id, h.p.below hb, h.g.below hb⟩⟩
theorem tx_at {w : World} {A : Option Addr} {n c k : Nat} {l : List Tx} (i : Sl txK w A n c l) (hk : k < n) :
    ∃ b off, ∃ hl : k < l.length, A = some ⟨b, off, none⟩ ∧ b < w.heap.size ∧ w.cell? ⟨b, off + k * 8, none⟩ = some (.string l[k].id) ∧ w.cell? ⟨b, off + k * 8 + 1, none⟩ = some (.int .i64 l[k].pid) ∧ w.cell? ⟨b, off + k * 8 + 2, none⟩ = some (.int .i64 l[k].gen) ∧
      w.cell? ⟨b, off + k * 8 + 3, none⟩ = some (.int .i64 l[k].no) ∧ w.cell? ⟨b, off + k * 8 + 4, none⟩ = some (.int .i64 l[k].st) ∧ w.cell? ⟨b, off + k * 8 + 5, none⟩ = some (.slice l[k].PA l[k].Pn l[k].Pc) ∧ w.cell? ⟨b, off + k * 8 + 6, none⟩ = some (.slice l[k].GA l[k].Gn l[k].Gc) ∧
      w.cell? ⟨b, off + k * 8 + 7, none⟩ = some (.int .i64 l[k].at_) := by
  obtain ⟨b, off, hl, rfl, hlt, hc⟩ := i.get hk
  exact ⟨b, off, hl, rfl, hlt, hc 0 (by decide), hc 1 (by decide), hc 2 (by decide), hc 3 (by decide), hc 4 (by decide), hc 5 (by decide), hc 6 (by decide), hc 7 (by decide)⟩
/-- What a producer is, its places aside. -/
structure Tv where
  id : ByteArray
  pid : Int
  gen : Int
  no : Int
  st : Int
  P : List Tp
  G : List ByteArray
  at_ : Int
deriving DecidableEq
def Tx.val (x : Tx) : Tv := ⟨x.id, x.pid, x.gen, x.no, x.st, x.P, x.G, x.at_⟩
def noX : Tx := ⟨⟨#[]⟩, 0, 0, 0, 0, none, 0, 0, [], none, 0, 0, [], 0⟩
def noT : Tv := ⟨⟨#[]⟩, 0, 0, 0, 0, [], [], 0⟩
theorem noX_val : noX.val = noT := rfl
theorem noX_in (w : World) : Tx.In w noX := ⟨by show 0 ≤ _; omega, Sl.nil _ _, Sl.nil _ _⟩

/-- All of a region: the next number, and where they lie. -/
structure Tc where
  next : Int
  A : Option Addr
  n : Nat
  c : Nat
  L : List Tx
abbrev Tc.box (o : Tc) : Array Value := #[.int .i64 o.next, .slice o.A o.n o.c]
abbrev Tc.v (o : Tc) : Value := .agg #[.int .i64 o.next, .slice o.A o.n o.c]
def Tc.At (w : World) (o : Tc) : Prop := Sl txK w o.A o.n o.c o.L
theorem Tc.At.below {w w' : World} {o : Tc} (h : Tc.At w o) (hb : Below w.heap.size w w') : Tc.At w' o := Sl.below h hb
/-- What they are, their places aside. -/
structure Cv where
  next : Int
  L : List Tv
deriving DecidableEq
def Tc.val (o : Tc) : Cv := ⟨o.next, o.L.map Tx.val⟩
def noC : Cv := ⟨0, []⟩
def noO : Tc := ⟨0, none, 0, 0, []⟩
theorem noO_at (w : World) : Tc.At w noO := Sl.nil _ _
theorem noO_val : noO.val = noC := rfl

end Go.Proofs.Ytnigjchgpmladaa

namespace Go.Proofs.Ytnigjchgpmladaa

/-- A byte that may stand in a name; a name. -/
def fineB (b : UInt8) : Bool := decide (33 ≤ b.toNat ∧ b.toNat ≤ 126)
def fineS (s : ByteArray) : Bool := s.data.toList.all fineB
def nameC (s : ByteArray) : Bool := decide (0 < s.size ∧ s.size ≤ 64) && fineS s
theorem fine_at {s : ByteArray} (h : fineS s = true) {i : Nat} (hi : i < s.size) : fineB s[i] = true := by
  unfold fineS at h
  rw [List.all_eq_true] at h
  refine h _ ?_
  rw [Array.mem_toList_iff]
  exact Array.getElem_mem _
theorem fine_of {s : ByteArray} (h : ∀ i (hi : i < s.size), fineB s[i] = true) : fineS s = true := by
  unfold fineS
  rw [List.all_eq_true]
  intro b hb
  obtain ⟨i, hi, rfl⟩ := List.getElem_of_mem hb
  have hi' : i < s.size := by simpa using hi
  have := h i hi'
  rw [Array.getElem_toList]
  exact this
/-- A number from nought to another one. -/
def inB (a m : Int) : Bool := decide (0 ≤ a) && decide (a ≤ m)
def rightT (x : Tp) : Bool := nameC x.t && inB x.p 5 && inB x.h 3
def ordT (x y : Tp) : Int := orI (cmpS x.t y.t) (orI (cmpI x.p y.p) (cmpI x.h y.h))
theorem lawT : LawC ordT := (lawS.pull Tp.t).orC ((lawI.pull Tp.p).orC (lawI.pull Tp.h))
theorem ordT_eq {a b : Tp} : ordT a b = 0 ↔ a = b := by
  unfold ordT
  rw [orI_eq, orI_eq, cmpS_eq, cmpI_eq, cmpI_eq]
  cases a; cases b
  simp
/-- May a producer be? -/
def txB (x : Tv) (next : Int) : Bool := nameC x.id && (decide (0 ≤ x.pid) && decide (x.pid < next)) && inB x.gen 1048576 && inB x.no 1048576 && inB x.st 3 && inB x.at_ 1099511627776 && keptB rightT ordT x.P && keptB nameC cmpS x.G && (decide (x.st ≠ 0) || decide (x.P.length + x.G.length = 0))
def someB (f : Nat → Bool) (k : Nat) : Bool := (List.range k).any f
def allTo (f : Nat → Bool) (k : Nat) : Bool := (List.range k).all f
theorem allTo_zero (f : Nat → Bool) : allTo f 0 = true := rfl
theorem allTo_succ (f : Nat → Bool) (k : Nat) : allTo f (k + 1) = (allTo f k && f k) := by unfold allTo; rw [List.range_succ, List.all_append]; simp
theorem allTo_no {f : Nat → Bool} {k n : Nat} (hk : k < n) (h : f k = false) : allTo f n = false := by
  unfold allTo
  rw [List.all_eq_false]
  exact ⟨k, List.mem_range.2 hk, by rw [h]; simp⟩
theorem allTo_at {f : Nat → Bool} {k n : Nat} (h : allTo f n = true) (hk : k < n) : f k = true := List.all_eq_true.1 h k (List.mem_range.2 hk)
theorem allTo_of {f : Nat → Bool} {n : Nat} (h : ∀ k, k < n → f k = true) : allTo f n = true := List.all_eq_true.2 fun k hk => h k (List.mem_range.1 hk)
def pidIn (p : Int) (l : List Tv) : Bool := l.any fun x => decide (x.pid = p)
/-- The k-th one of a region may stand where it does. -/
def rowAt (next : Int) (L : List Tv) (k : Nat) : Bool := match L[k]? with
  | some x => txB x next && (match k with | 0 => true | j + 1 => match L[j]? with | some y => decide (cmpS y.id x.id < 0) | none => true) && !pidIn x.pid (L.take k)
  | none => true
def manyB (L : List Tv) : Bool := decide (256 < L.length) || L.any fun x => decide (288 < x.P.length) || decide (64 < x.G.length)
def checkV (c : Cv) : Int := if inB c.next 1099511627776 = true ∧ allTo (rowAt c.next c.L) c.L.length = true then (if manyB c.L = true then 2 else 0) else 1
/-- Where a name stands. -/
def idAt (L : List Tv) (id : ByteArray) : Option Nat := L.findIdx? fun x => decide (x.id = id)
def ordI (x y : Tv) : Int := cmpS x.id y.id
def insI (x : Tv) (L : List Tv) : List Tv := insC ordI x L
def initV (c : Cv) (id : ByteArray) (now : Int) : Cv × Int × Int × Int :=
  if checkV c ≠ 0 then (noC, 0, 0, checkV c)
  else if ¬ (inB now 1099511627776 = true ∧ (id.size = 0 ∨ nameC id = true)) then (noC, 0, 0, 1)
  else match idAt c.L id with
    | some i => match c.L[i]? with
      | some x => if x.gen = 1048576 then (noC, 0, 0, 2) else ({ c with L := c.L.set i { x with gen := x.gen + 1, st := if x.st = 1 then 3 else x.st } }, x.pid, x.gen + 1, 0)
      | none => (noC, 0, 0, 0)
    | none => if c.next = 1099511627776 ∨ (0 < id.size ∧ c.L.length = 256) then (noC, 0, 0, 2)
      else (⟨c.next + 1, if 0 < id.size then insI ⟨id, c.next, 0, 0, 0, [], [], now⟩ c.L else c.L⟩, c.next, 0, 0)
/-- A producer that asks: what is made of it. -/
def askV (c : Cv) (id : ByteArray) (pid gen : Int) (may : Bool) (f : Tv → Tv × Int) : Cv × Int :=
  if checkV c ≠ 0 then (noC, checkV c)
  else if may = false then (noC, 1)
  else match idAt c.L id with
    | none => (noC, 230)
    | some i => match c.L[i]? with
      | none => (noC, 0)
      | some x => if x.pid = pid ∧ x.gen = gen then (if (f x).2 ≠ 0 then (noC, (f x).2) else ({ c with L := c.L.set i (f x).1 }, 0)) else (noC, 110)
def runT (x : Tv) (now : Int) : Tv := if x.st = 0 then { x with st := 1, at_ := now } else x
def addF (tp : Tp) (now : Int) (x : Tv) : Tv × Int := if 1 < x.st then (x, 211) else if 288 < (insC ordT tp x.P).length then (x, 2) else (runT { x with P := insC ordT tp x.P } now, 0)
def sendF (g : ByteArray) (now : Int) (x : Tv) : Tv × Int := if 1 < x.st then (x, 211) else if 64 < (insC cmpS g x.G).length then (x, 2) else (runT { x with G := insC cmpS g x.G } now, 0)
def endTo (yes : Bool) : Int := if yes then 2 else 3
def endF (yes : Bool) (x : Tv) : Tv × Int := if x.st = 1 ∨ x.st = endTo yes then ({ x with st := endTo yes }, 0) else (x, 210)
def addV (c : Cv) (id : ByteArray) (pid gen : Int) (tp : Tp) (now : Int) : Cv × Int := askV c id pid gen (rightT tp && inB now 1099511627776) (addF tp now)
def sendV (c : Cv) (id : ByteArray) (pid gen : Int) (g : ByteArray) (now : Int) : Cv × Int := askV c id pid gen (nameC g && inB now 1099511627776) (sendF g now)
def endV (c : Cv) (id : ByteArray) (pid gen : Int) (yes : Bool) : Cv × Int := askV c id pid gen true (endF yes)
def dueB (x : Tv) : Bool := decide (x.st = 2) || decide (x.st = 3)
def dueV (L : List Tv) : List Tv := L.filter dueB
def pidAt (L : List Tv) (pid : Int) : Option Nat := L.findIdx? fun x => decide (x.pid = pid)
def findV (L : List Tv) (pid : Int) : Tv × Bool := match L.find? (fun x => decide (x.pid = pid)) with | some x => (x, true) | none => (noT, false)
def doneV (c : Cv) (pid : Int) : Cv × Int :=
  if checkV c ≠ 0 then (noC, checkV c)
  else match pidAt c.L pid with
    | none => (noC, 210)
    | some i => match c.L[i]? with
      | none => (noC, 210)
      | some x => if dueB x = true then (if x.no = 1048576 then (noC, 2) else ({ c with L := c.L.set i ⟨x.id, x.pid, x.gen, x.no + 1, 0, [], [], x.at_⟩ }, 0)) else (noC, 210)
def oldB (now most : Int) (x : Tv) : Bool := decide (x.st = 1) && decide (x.at_ < now - most)
def oldV (c : Cv) (now most : Int) : List ByteArray := if checkV c = 0 ∧ inB now 1099511627776 = true ∧ inB most 1099511627776 = true then (c.L.filter (oldB now most)).map Tv.id else []

end Go.Proofs.Ytnigjchgpmladaa

namespace Go.Proofs.Ytnigjchgpmladaa

theorem lawId : LawC ordI := lawS.pull Tv.id
theorem row_at {next : Int} {L : List Tv} {k : Nat} (hk : k < L.length) : rowAt next L k = true ↔ txB L[k] next = true ∧ (∀ j (hj : j + 1 = k), ordI (L[j]'(by omega)) L[k] < 0) ∧ ∀ j (hj : j < k), (L[j]'(by omega)).pid ≠ L[k].pid := by
  have hp : (!pidIn L[k].pid (L.take k)) = true ↔ ∀ j (hj : j < k), (L[j]'(by omega)).pid ≠ L[k].pid := by
    unfold pidIn
    rw [Bool.not_eq_true', List.any_eq_false]
    constructor
    · intro h j hj e
      have hm : L[j]'(by omega) ∈ L.take k := by
        rw [List.mem_take_iff_getElem]
        exact ⟨j, by omega, rfl⟩
      exact h _ hm (decide_eq_true e)
    · intro h x hx e
      obtain ⟨j, hj, rfl⟩ := List.mem_take_iff_getElem.1 hx
      exact h j (by omega) (of_decide_eq_true e)
  unfold rowAt
  rw [List.getElem?_eq_getElem hk]
  simp only [Bool.and_eq_true, and_assoc]
  rw [hp]
  cases k with
  | zero => simp
  | succ j =>
    simp only [List.getElem?_eq_getElem (show j < L.length by omega), decide_eq_true_eq]
    constructor
    · rintro ⟨h1, h2, h3⟩
      exact ⟨h1, fun i hi => by obtain rfl : i = j := by omega
                                exact h2, h3⟩
    · rintro ⟨h1, h2, h3⟩
      exact ⟨h1, h2 j rfl, h3⟩
theorem rows_iff {next : Int} {L : List Tv} : allTo (rowAt next L) L.length = true ↔ (∀ x ∈ L, txB x next = true) ∧ Up ordI L ∧ L.Pairwise (fun x y => x.pid ≠ y.pid) := by
  constructor
  · intro h
    have H := fun k (hk : k < L.length) => (row_at hk).1 (allTo_at h hk)
    refine ⟨fun x hx => ?_, ?_, ?_⟩
    · obtain ⟨k, hk, rfl⟩ := List.getElem_of_mem hx
      exact (H k hk).1
    · unfold Up
      rw [List.pairwise_iff_getElem]
      intro i j hi hj hij
      induction j with
      | zero => omega
      | succ j ih =>
        have st := (H (j + 1) hj).2.1 j rfl
        rcases Nat.lt_or_ge i j with h1 | h1
        · exact lawId.trans _ _ _ (ih (by omega) h1) st
        · obtain rfl : i = j := by omega
          exact st
    · rw [List.pairwise_iff_getElem]
      intro i j hi hj hij
      exact (H j hj).2.2 i hij
  · rintro ⟨h1, h2, h3⟩
    refine allTo_of fun k hk => (row_at hk).2 ⟨h1 _ (List.getElem_mem hk), fun j hj => ?_, fun j hj => ?_⟩
    · exact (List.pairwise_iff_getElem.1 h2) j k (by omega) hk (by omega)
    · exact (List.pairwise_iff_getElem.1 h3) j k (by omega) hk (by omega)
/-- It may be. -/
structure Fine (c : Cv) : Prop where
  next : 0 ≤ c.next ∧ c.next ≤ 1099511627776
  tx : ∀ x ∈ c.L, txB x c.next = true
  up : Up ordI c.L
  pids : c.L.Pairwise (fun x y => x.pid ≠ y.pid)
  len : c.L.length ≤ 256
  few : ∀ x ∈ c.L, x.P.length ≤ 288 ∧ x.G.length ≤ 64
theorem inB_iff {a m : Int} : inB a m = true ↔ 0 ≤ a ∧ a ≤ m := by unfold inB; simp
theorem many_iff {L : List Tv} : manyB L = false ↔ L.length ≤ 256 ∧ ∀ x ∈ L, x.P.length ≤ 288 ∧ x.G.length ≤ 64 := by
  unfold manyB
  rw [Bool.or_eq_false_iff, decide_eq_false_iff_not, List.any_eq_false]
  constructor
  · rintro ⟨h1, h2⟩
    refine ⟨by omega, fun x hx => ?_⟩
    have := h2 x hx
    simp only [Bool.or_eq_true, decide_eq_true_eq] at this
    omega
  · rintro ⟨h1, h2⟩
    refine ⟨by omega, fun x hx => ?_⟩
    have := h2 x hx
    simp only [Bool.or_eq_true, decide_eq_true_eq]
    omega
theorem chk_iff {c : Cv} : checkV c = 0 ↔ Fine c := by
  unfold checkV
  constructor
  · intro h
    split at h
    · rename_i h1
      split at h
      · omega
      · rename_i h2
        obtain ⟨h3, h4⟩ := many_iff.1 (by simpa using h2)
        obtain ⟨h5, h6, h7⟩ := rows_iff.1 h1.2
        exact ⟨inB_iff.1 h1.1, h5, h6, h7, h3, h4⟩
    · omega
  · rintro ⟨h1, h2, h3, h4, h5, h6⟩
    rw [if_pos ⟨inB_iff.2 h1, rows_iff.2 ⟨h2, h3, h4⟩⟩, many_iff.2 ⟨h5, h6⟩]
    rfl

/-- What may be of a producer. -/
structure TxOk (x : Tv) (next : Int) : Prop where
  id : nameC x.id = true
  pid : 0 ≤ x.pid ∧ x.pid < next
  gen : 0 ≤ x.gen ∧ x.gen ≤ 1048576
  no : 0 ≤ x.no ∧ x.no ≤ 1048576
  st : 0 ≤ x.st ∧ x.st ≤ 3
  at_ : 0 ≤ x.at_ ∧ x.at_ ≤ 1099511627776
  p : keptB rightT ordT x.P = true
  g : keptB nameC cmpS x.G = true
  idle : x.st ≠ 0 ∨ x.P.length + x.G.length = 0
theorem tx_iff {x : Tv} {next : Int} : txB x next = true ↔ TxOk x next := by
  unfold txB
  simp only [Bool.and_eq_true, inB_iff, Bool.or_eq_true, decide_eq_true_eq]
  constructor
  · rintro ⟨⟨⟨⟨⟨⟨⟨⟨h1, h2⟩, h3⟩, h4⟩, h5⟩, h6⟩, h7⟩, h8⟩, h9⟩
    exact ⟨h1, h2, h3, h4, h5, h6, h7, h8, h9⟩
  · rintro ⟨h1, h2, h3, h4, h5, h6, h7, h8, h9⟩
    exact ⟨⟨⟨⟨⟨⟨⟨⟨h1, h2⟩, h3⟩, h4⟩, h5⟩, h6⟩, h7⟩, h8⟩, h9⟩

/-- One of a list is put in another one's place. -/
theorem mem_set_cases {α : Type} {L : List α} {i : Nat} {x y : α} (h : y ∈ L.set i x) : y = x ∨ y ∈ L := by
  rcases List.mem_or_eq_of_mem_set h with h | h
  · exact .inr h
  · exact .inl h
theorem set_pair {α : Type} {R : α → α → Prop} {L : List α} (h : L.Pairwise R) {i : Nat} (hi : i < L.length) {x : α} (h1 : ∀ y, R y L[i] → R y x) (h2 : ∀ y, R L[i] y → R x y) : (L.set i x).Pairwise R := by
  rw [List.pairwise_iff_getElem] at h ⊢
  intro a b ha hb hab
  rw [List.length_set] at ha hb
  rw [List.getElem_set, List.getElem_set]
  by_cases e1 : i = a
  · rw [if_pos e1]
    by_cases e2 : i = b
    · omega
    · rw [if_neg e2]
      exact h2 _ (by subst e1; exact h i b ha hb hab)
  · rw [if_neg e1]
    by_cases e2 : i = b
    · rw [if_pos e2]
      exact h1 _ (by subst e2; exact h a i ha hb hab)
    · rw [if_neg e2]
      exact h a b ha hb hab
/-- One producer is put in the place of one with the same name and number. -/
theorem fine_set {c : Cv} (h : Fine c) {i : Nat} (hi : i < c.L.length) {x : Tv} (h1 : x.id = c.L[i].id) (h2 : x.pid = c.L[i].pid) (h3 : TxOk x c.next) (h4 : x.P.length ≤ 288 ∧ x.G.length ≤ 64) : Fine { c with L := c.L.set i x } := by
  refine ⟨h.next, fun y hy => ?_, ?_, ?_, by show (c.L.set i x).length ≤ _; rw [List.length_set]; exact h.len, fun y hy => ?_⟩
  · rcases mem_set_cases hy with rfl | hy
    · exact tx_iff.2 h3
    · exact h.tx y hy
  · exact set_pair h.up hi (fun y hy => by unfold ordI at *; rw [h1]; exact hy) (fun y hy => by unfold ordI at *; rw [h1]; exact hy)
  · exact set_pair h.pids hi (fun y hy => by rw [h2]; exact hy) (fun y hy => by rw [h2]; exact hy)
  · rcases mem_set_cases hy with rfl | hy
    · exact h4
    · exact h.few y hy

theorem id_some {L : List Tv} {id : ByteArray} {i : Nat} (h : idAt L id = some i) : ∃ hi : i < L.length, L[i].id = id := by
  unfold idAt at h
  obtain ⟨h1, h2, _⟩ := List.findIdx?_eq_some_iff_getElem.1 h
  exact ⟨h1, of_decide_eq_true h2⟩
theorem id_none {L : List Tv} {id : ByteArray} (h : idAt L id = none) : ∀ x ∈ L, x.id ≠ id := by
  unfold idAt at h
  rw [List.findIdx?_eq_none_iff] at h
  intro x hx e
  have := h x hx
  rw [decide_eq_true e] at this
  cases this
theorem up_inj {L : List Tv} (h : Up ordI L) {x y : Tv} (hx : x ∈ L) (hy : y ∈ L) (e : x.id = y.id) : x = y := by
  obtain ⟨i, hi, rfl⟩ := List.getElem_of_mem hx
  obtain ⟨j, hj, rfl⟩ := List.getElem_of_mem hy
  have hne : ∀ {a b : Nat} (ha : a < L.length) (hb : b < L.length), a < b → L[a].id ≠ L[b].id := fun ha hb hab e => by
    have := up_at h hb hab
    unfold ordI at this
    rw [e, lawS.self] at this
    omega
  rcases Nat.lt_trichotomy i j with h1 | rfl | h1
  · exact absurd e (hne hi hj h1)
  · rfl
  · exact absurd e.symm (hne hj hi h1)
theorem id_at {L : List Tv} (h : Up ordI L) {i : Nat} (hi : i < L.length) : idAt L L[i].id = some i := by
  cases e : idAt L L[i].id with
  | none => exact absurd rfl (id_none e L[i] (List.getElem_mem hi))
  | some j =>
    obtain ⟨hj, ej⟩ := id_some e
    have hne : ∀ {a b : Nat} (ha : a < L.length) (hb : b < L.length), a < b → L[a].id ≠ L[b].id := fun ha hb hab e => by
      have := up_at h hb hab
      unfold ordI at this
      rw [e, lawS.self] at this
      omega
    rcases Nat.lt_trichotomy i j with h1 | rfl | h1
    · exact absurd ej.symm (hne hi hj h1)
    · rfl
    · exact absurd ej (hne hj hi h1)
theorem pid_inj {L : List Tv} (h : L.Pairwise (fun x y => x.pid ≠ y.pid)) {x y : Tv} (hx : x ∈ L) (hy : y ∈ L) (e : x.pid = y.pid) : x = y := by
  obtain ⟨i, hi, rfl⟩ := List.getElem_of_mem hx
  obtain ⟨j, hj, rfl⟩ := List.getElem_of_mem hy
  rw [List.pairwise_iff_getElem] at h
  rcases Nat.lt_trichotomy i j with h1 | rfl | h1
  · exact absurd e (h i j hi hj h1)
  · rfl
  · exact absurd e.symm (h j i hj hi h1)
theorem find_mem {L : List Tv} (h : L.Pairwise (fun x y => x.pid ≠ y.pid)) {x : Tv} (hx : x ∈ L) : findV L x.pid = (x, true) := by
  unfold findV
  cases e : L.find? (fun y => decide (y.pid = x.pid)) with
  | none =>
    have := List.find?_eq_none.1 e x hx
    simp at this
  | some y =>
    have h1 := List.find?_some e
    simp only [decide_eq_true_eq] at h1
    rw [pid_inj h (List.mem_of_find?_eq_some e) hx h1]

end Go.Proofs.Ytnigjchgpmladaa

namespace Go.Proofs.Ytnigjchgpmladaa

theorem TxOk.mono {x : Tv} {n m : Int} (h : TxOk x n) (hm : n ≤ m) : TxOk x m := ⟨h.id, ⟨h.pid.1, Int.lt_of_lt_of_le h.pid.2 hm⟩, h.gen, h.no, h.st, h.at_, h.p, h.g, h.idle⟩
theorem Fine.ok {c : Cv} (h : Fine c) {x : Tv} (hx : x ∈ c.L) : TxOk x c.next := tx_iff.1 (h.tx x hx)

/-- An answer that took something in. -/
theorem ask_ok {c x : Cv} {id : ByteArray} {pid gen : Int} {may : Bool} {f : Tv → Tv × Int} (h : askV c id pid gen may f = (x, 0)) :
    checkV c = 0 ∧ may = true ∧ ∃ i, ∃ hi : i < c.L.length, idAt c.L id = some i ∧ c.L[i].id = id ∧ c.L[i].pid = pid ∧ c.L[i].gen = gen ∧ (f c.L[i]).2 = 0 ∧ x = { c with L := c.L.set i (f c.L[i]).1 } := by
  unfold askV at h
  by_cases h1 : checkV c = 0
  · rw [if_neg (by simpa using h1)] at h
    cases may with
    | false => rw [if_pos rfl] at h; injection h with _ h; cases h
    | true =>
      rw [if_neg (by simp)] at h
      cases e : idAt c.L id with
      | none => rw [e] at h; injection h with _ h; cases h
      | some i =>
        rw [e] at h
        obtain ⟨hi, hid⟩ := id_some e
        simp only [List.getElem?_eq_getElem hi] at h
        by_cases h2 : c.L[i].pid = pid ∧ c.L[i].gen = gen
        · rw [if_pos h2] at h
          by_cases h3 : (f c.L[i]).2 = 0
          · rw [if_neg (by simpa using h3)] at h
            injection h with h _
            exact ⟨h1, rfl, i, hi, rfl, hid, h2.1, h2.2, h3, h.symm⟩
          · rw [if_pos h3] at h
            injection h with _ h
            exact absurd h h3
        · rw [if_neg h2] at h; injection h with _ h; cases h
  · rw [if_pos h1] at h
    injection h with _ h
    exact absurd h h1
theorem ask_yes {c : Cv} {id : ByteArray} {pid gen : Int} {f : Tv → Tv × Int} {i : Nat} (h : checkV c = 0) (h0 : idAt c.L id = some i) (hi : i < c.L.length) (h1 : c.L[i].pid = pid) (h2 : c.L[i].gen = gen) :
    askV c id pid gen true f = if (f c.L[i]).2 ≠ 0 then (noC, (f c.L[i]).2) else ({ c with L := c.L.set i (f c.L[i]).1 }, 0) := by
  unfold askV
  rw [if_neg (by simpa using h), if_neg (by simp), h0]
  simp only [List.getElem?_eq_getElem hi]
  rw [if_pos ⟨h1, h2⟩]
theorem ask_no {c : Cv} {id : ByteArray} {pid gen : Int} {f : Tv → Tv × Int} {i : Nat} {may : Bool} (h : checkV c = 0) (h0 : idAt c.L id = some i) (hi : i < c.L.length) (h1 : ¬ (c.L[i].pid = pid ∧ c.L[i].gen = gen)) :
    askV c id pid gen may f = (noC, if may = false then 1 else 110) := by
  unfold askV
  rw [if_neg (by simpa using h)]
  cases may with
  | false => rfl
  | true =>
    rw [if_neg (by simp), h0]
    simp only [List.getElem?_eq_getElem hi]
    rw [if_neg h1]
    rfl
theorem ask_fst {c x : Cv} {id : ByteArray} {pid gen : Int} {may : Bool} {f : Tv → Tv × Int} {r : Int} (h : askV c id pid gen may f = (x, r)) (hr : r ≠ 0) : x = noC := by
  unfold askV at h
  by_cases h1 : checkV c = 0
  · rw [if_neg (by simpa using h1)] at h
    cases may with
    | false => rw [if_pos rfl] at h; injection h with h _; exact h.symm
    | true =>
      rw [if_neg (by simp)] at h
      cases e : idAt c.L id with
      | none => rw [e] at h; injection h with h _; exact h.symm
      | some i =>
        rw [e] at h
        obtain ⟨hi, hid⟩ := id_some e
        simp only [List.getElem?_eq_getElem hi] at h
        split at h
        · split at h
          · injection h with h _; exact h.symm
          · injection h with _ h; exact absurd h.symm hr
        · injection h with h _; exact h.symm
  · rw [if_pos h1] at h
    injection h with h _; exact h.symm
/-- An Init that was right. -/
theorem init_ok {c x : Cv} {id : ByteArray} {now p g : Int} (h : initV c id now = (x, p, g, 0)) :
    checkV c = 0 ∧ inB now 1099511627776 = true ∧ (id.size = 0 ∨ nameC id = true) ∧
      ((∃ i, ∃ hi : i < c.L.length, idAt c.L id = some i ∧ c.L[i].id = id ∧ c.L[i].gen ≠ 1048576 ∧ p = c.L[i].pid ∧ g = c.L[i].gen + 1 ∧ x = { c with L := c.L.set i { c.L[i] with gen := c.L[i].gen + 1, st := if c.L[i].st = 1 then 3 else c.L[i].st } }) ∨
       (idAt c.L id = none ∧ c.next ≠ 1099511627776 ∧ ¬ (0 < id.size ∧ c.L.length = 256) ∧ p = c.next ∧ g = 0 ∧ x = ⟨c.next + 1, if 0 < id.size then insI ⟨id, c.next, 0, 0, 0, [], [], now⟩ c.L else c.L⟩)) := by
  unfold initV at h
  by_cases h1 : checkV c = 0
  · rw [if_neg (by simpa using h1)] at h
    by_cases h2 : inB now 1099511627776 = true ∧ (id.size = 0 ∨ nameC id = true)
    · rw [if_neg (fun hn => hn h2)] at h
      refine ⟨h1, h2.1, h2.2, ?_⟩
      cases e : idAt c.L id with
      | some i =>
        rw [e] at h
        obtain ⟨hi, hid⟩ := id_some e
        simp only [List.getElem?_eq_getElem hi] at h
        by_cases h3 : c.L[i].gen = 1048576
        · rw [if_pos h3] at h; injection h with _ h; injection h with _ h; injection h with _ h; cases h
        · rw [if_neg h3] at h
          injection h with ha h; injection h with hb h; injection h with hc h
          exact .inl ⟨i, hi, rfl, hid, h3, hb.symm, hc.symm, ha.symm⟩
      | none =>
        rw [e] at h
        simp only [] at h
        by_cases h3 : c.next = 1099511627776 ∨ (0 < id.size ∧ c.L.length = 256)
        · rw [if_pos h3] at h; injection h with _ h; injection h with _ h; injection h with _ h; cases h
        · rw [if_neg h3] at h
          injection h with ha h; injection h with hb h; injection h with hc h
          exact .inr ⟨rfl, fun e => h3 (.inl e), fun e => h3 (.inr e), hb.symm, hc.symm, ha.symm⟩
    · rw [if_pos h2] at h; injection h with _ h; injection h with _ h; injection h with _ h; cases h
  · rw [if_pos h1] at h
    injection h with _ h; injection h with _ h; injection h with _ h
    exact absurd h h1
theorem init_no {c x : Cv} {id : ByteArray} {now p g r : Int} (h : initV c id now = (x, p, g, r)) (hr : r ≠ 0) : x = noC ∧ p = 0 ∧ g = 0 := by
  have fin : ∀ {a : Int}, (noC, (0 : Int), (0 : Int), a) = (x, p, g, r) → x = noC ∧ p = 0 ∧ g = 0 := fun h => by
    injection h with ha h; injection h with hb h; injection h with hc h
    exact ⟨ha.symm, hb.symm, hc.symm⟩
  have bad : ∀ {a : Cv} {b d : Int}, (a, b, d, (0 : Int)) = (x, p, g, r) → x = noC ∧ p = 0 ∧ g = 0 := fun h => by
    injection h with ha h; injection h with hb h; injection h with hc h
    exact absurd h.symm hr
  unfold initV at h
  split at h
  · exact fin h
  · split at h
    · exact fin h
    · split at h
      · split at h
        · split at h
          · exact fin h
          · exact bad h
        · exact bad h
      · split at h
        · exact fin h
        · exact bad h

/-- What of a coordinator stands in a later one. -/
structure Kept1 (a b : Tv) : Prop where
  id : b.id = a.id
  pid : b.pid = a.pid
  no : b.no = a.no
  gen : a.gen ≤ b.gen
  st : 1 < a.st → b.st = a.st ∧ b.P = a.P ∧ b.G = a.G ∧ b.at_ = a.at_
structure Keeps (t x : Cv) : Prop where
  next : t.next ≤ x.next
  len : t.L.length ≤ x.L.length
  old : ∀ a ∈ t.L, ∃ b ∈ x.L, Kept1 a b
  new : ∀ b ∈ x.L, (∃ a ∈ t.L, a.pid = b.pid) ∨ t.next ≤ b.pid
theorem Kept1.refl (a : Tv) : Kept1 a a := ⟨rfl, rfl, rfl, Int.le_refl _, fun _ => ⟨rfl, rfl, rfl, rfl⟩⟩
theorem Kept1.trans {a b c : Tv} (h : Kept1 a b) (k : Kept1 b c) : Kept1 a c :=
  ⟨k.id.trans h.id, k.pid.trans h.pid, k.no.trans h.no, Int.le_trans h.gen k.gen, fun hs => by
    obtain ⟨h1, h2, h3, h4⟩ := h.st hs
    obtain ⟨k1, k2, k3, k4⟩ := k.st (by omega)
    exact ⟨k1.trans h1, k2.trans h2, k3.trans h3, k4.trans h4⟩⟩
theorem Keeps.refl (t : Cv) : Keeps t t := ⟨Int.le_refl _, Nat.le_refl _, fun a ha => ⟨a, ha, .refl a⟩, fun b hb => .inl ⟨b, hb, rfl⟩⟩
theorem Keeps.trans {a b c : Cv} (h : Keeps a b) (k : Keeps b c) : Keeps a c :=
  ⟨Int.le_trans h.next k.next, Nat.le_trans h.len k.len, fun x hx => by
    obtain ⟨y, hy, h1⟩ := h.old x hx
    obtain ⟨z, hz, h2⟩ := k.old y hy
    exact ⟨z, hz, h1.trans h2⟩, fun z hz => by
    rcases k.new z hz with ⟨y, hy, e⟩ | h1
    · rcases h.new y hy with ⟨x, hx, e'⟩ | h2
      · exact .inl ⟨x, hx, e'.trans e⟩
      · exact .inr (by rw [← e]; exact h2)
    · exact .inr (Int.le_trans h.next h1)⟩
theorem mem_set_old {α : Type} {L : List α} {i : Nat} (hi : i < L.length) {x y : α} (hy : y ∈ L) : y = L[i] ∨ y ∈ L.set i x := by
  obtain ⟨j, hj, rfl⟩ := List.getElem_of_mem hy
  by_cases e : i = j
  · subst e; exact .inl rfl
  · right
    rw [List.mem_iff_getElem]
    exact ⟨j, by rw [List.length_set]; exact hj, by rw [List.getElem_set_ne e]⟩
theorem mem_set_new {α : Type} {L : List α} {i : Nat} (hi : i < L.length) {x : α} : x ∈ L.set i x := List.mem_set hi x
/-- One is set in another one's place. -/
theorem keeps_set {c : Cv} {i : Nat} (hi : i < c.L.length) {x : Tv} (h : Kept1 c.L[i] x) : Keeps c { c with L := c.L.set i x } := by
  refine ⟨Int.le_refl _, by show _ ≤ (c.L.set i x).length; rw [List.length_set]; exact Nat.le_refl _, fun a ha => ?_, fun b hb => .inl ?_⟩
  · rcases mem_set_old hi (x := x) ha with rfl | h1
    · exact ⟨x, mem_set_new hi, h⟩
    · exact ⟨a, h1, .refl a⟩
  · rcases mem_set_cases hb with rfl | h1
    · exact ⟨c.L[i], List.getElem_mem hi, h.pid.symm⟩
    · exact ⟨b, h1, rfl⟩
theorem ins_perm {α : Type} {c : α → α → Int} {x : α} : ∀ {l : List α}, (∀ y ∈ l, c y x ≠ 0) → (insC c x l).Perm (x :: l)
  | [], _ => List.Perm.refl _
  | a :: l, h => by
    unfold insC
    split
    · exact ((ins_perm fun y hy => h y (List.mem_cons_of_mem _ hy)).cons a).trans (List.Perm.swap x a l)
    · rw [if_neg (h a List.mem_cons_self)]
theorem insI_perm {L : List Tv} {x : Tv} (h : idAt L x.id = none) : (insI x L).Perm (x :: L) := ins_perm fun y hy e => id_none h y hy (cmpS_eq.1 e)
/-- A name is told its first number. -/
theorem fine_ins {c : Cv} (h : Fine c) {id : ByteArray} {now : Int} (h0 : idAt c.L id = none) (h1 : nameC id = true) (h2 : inB now 1099511627776 = true) (h3 : c.next ≠ 1099511627776) (h4 : c.L.length ≠ 256) :
    Fine ⟨c.next + 1, insI ⟨id, c.next, 0, 0, 0, [], [], now⟩ c.L⟩ ∧ Keeps c ⟨c.next + 1, insI ⟨id, c.next, 0, 0, 0, [], [], now⟩ c.L⟩ := by
  have hp := insI_perm (x := ⟨id, c.next, 0, 0, 0, [], [], now⟩) h0
  have hn := h.next
  have hl := h.len
  have lt : ∀ {x : Tv}, x ∈ c.L → x.pid < c.next := fun hx => (h.ok hx).pid.2
  refine ⟨⟨by show 0 ≤ c.next + 1 ∧ c.next + 1 ≤ _; omega, fun x hx => ?_, ins_up lawId h.up, ?_, by show (insI _ _).length ≤ _; rw [hp.length_eq, List.length_cons]; omega, fun x hx => ?_⟩, by show c.next ≤ c.next + 1; omega, by show _ ≤ (insI _ _).length; rw [hp.length_eq, List.length_cons]; omega, fun a ha => ⟨a, hp.mem_iff.2 (List.mem_cons_of_mem _ ha), .refl a⟩, fun b hb => ?_⟩
  · rcases List.mem_cons.1 (hp.mem_iff.1 hx) with rfl | hx
    · exact tx_iff.2 ⟨h1, ⟨hn.1, by show c.next < c.next + 1; omega⟩, by show (0 : Int) ≤ 0 ∧ (0 : Int) ≤ 1048576; omega, by show (0 : Int) ≤ 0 ∧ (0 : Int) ≤ 1048576; omega, by show (0 : Int) ≤ 0 ∧ (0 : Int) ≤ 3; omega, inB_iff.1 h2, rfl, rfl, .inr rfl⟩
    · exact tx_iff.2 ((h.ok hx).mono (by show c.next ≤ c.next + 1; omega))
  · refine (hp.pairwise_iff (fun {a b} e => fun e' => e e'.symm)).2 (List.Pairwise.cons (fun y hy => ?_) h.pids)
    have := lt hy
    show c.next ≠ y.pid
    omega
  · rcases List.mem_cons.1 (hp.mem_iff.1 hx) with rfl | hx
    · exact ⟨by show 0 ≤ 288; omega, by show 0 ≤ 64; omega⟩
    · exact h.few x hx
  · rcases List.mem_cons.1 (hp.mem_iff.1 hb) with rfl | hx
    · exact .inr (Int.le_refl _)
    · exact .inl ⟨b, hx, rfl⟩
theorem fine_more {c : Cv} (h : Fine c) (h3 : c.next ≠ 1099511627776) : Fine ⟨c.next + 1, c.L⟩ ∧ Keeps c ⟨c.next + 1, c.L⟩ := by
  have hn := h.next
  exact ⟨⟨by show 0 ≤ c.next + 1 ∧ c.next + 1 ≤ _; omega, fun x hx => tx_iff.2 ((h.ok hx).mono (by show c.next ≤ c.next + 1; omega)), h.up, h.pids, h.len, h.few⟩,
    ⟨by show c.next ≤ c.next + 1; omega, Nat.le_refl _, fun a ha => ⟨a, ha, .refl a⟩, fun b hb => .inl ⟨b, hb, rfl⟩⟩⟩

theorem init_fine {c x : Cv} {id : ByteArray} {now p g : Int} (h : initV c id now = (x, p, g, 0)) : Fine c ∧ Fine x ∧ Keeps c x := by
  obtain ⟨h1, h2, h3, h4⟩ := init_ok h
  have hf := chk_iff.1 h1
  refine ⟨hf, ?_⟩
  rcases h4 with ⟨i, hi, _, hid, hg, _, _, rfl⟩ | ⟨h0, hn, hl, _, _, rfl⟩
  · have ho := hf.ok (List.getElem_mem hi)
    have hfw := hf.few _ (List.getElem_mem hi)
    refine ⟨fine_set hf hi rfl rfl ⟨ho.id, ho.pid, ?_, ho.no, ?_, ho.at_, ho.p, ho.g, ?_⟩ hfw, keeps_set hi ⟨rfl, rfl, rfl, by show _ ≤ c.L[i].gen + 1; omega, fun hs => ⟨by show (if c.L[i].st = 1 then 3 else c.L[i].st) = _; rw [if_neg (by omega)], rfl, rfl, rfl⟩⟩⟩
    · have := ho.gen; show 0 ≤ c.L[i].gen + 1 ∧ c.L[i].gen + 1 ≤ _; omega
    · have := ho.st; show 0 ≤ (if c.L[i].st = 1 then 3 else c.L[i].st) ∧ (if c.L[i].st = 1 then 3 else c.L[i].st) ≤ 3; split <;> omega
    · rcases ho.idle with h | h
      · left; show (if c.L[i].st = 1 then 3 else c.L[i].st) ≠ 0; split <;> omega
      · exact .inr h
  · by_cases hs : 0 < id.size
    · rw [if_pos hs]
      exact fine_ins hf h0 (h3.resolve_left (by omega)) h2 hn (fun e => hl ⟨hs, e⟩)
    · rw [if_neg hs]
      exact fine_more hf hn
/-- What a change of one producer must leave. -/
theorem ask_fine {c x : Cv} {id : ByteArray} {pid gen : Int} {may : Bool} {f : Tv → Tv × Int} (h : askV c id pid gen may f = (x, 0))
    (hf : ∀ y, may = true → TxOk y c.next → y.P.length ≤ 288 ∧ y.G.length ≤ 64 → (f y).2 = 0 → Kept1 y (f y).1 ∧ TxOk (f y).1 c.next ∧ ((f y).1.P.length ≤ 288 ∧ (f y).1.G.length ≤ 64)) : Fine c ∧ Fine x ∧ Keeps c x := by
  obtain ⟨h1, hm, i, hi, _, hid, hp, hg, h0, rfl⟩ := ask_ok h
  have hc := chk_iff.1 h1
  obtain ⟨k1, k2, k3⟩ := hf _ hm (hc.ok (List.getElem_mem hi)) (hc.few _ (List.getElem_mem hi)) h0
  exact ⟨hc, fine_set hc hi k1.id k1.pid k2 k3, keeps_set hi k1⟩
theorem kept_ins {α : Type} {r : α → Bool} {o : α → α → Int} (ho : LawC o) {x : α} {l : List α} (h : keptB r o l = true) (hx : r x = true) : keptB r o (insC o x l) = true :=
  kept_of (fun a ha => (ins_mem ha).elim (fun e => by rw [e]; exact hx) (fun ha => kept_all h a ha)) (ins_up ho (kept_up ho h))
theorem ins_ne {α : Type} {o : α → α → Int} {x : α} {l : List α} : (insC o x l).length ≠ 0 := by
  have := ins_pos (c := o) (x := x) (l := l); omega
theorem add_fine {c x : Cv} {id : ByteArray} {pid gen now : Int} {tp : Tp} (h : addV c id pid gen tp now = (x, 0)) : Fine c ∧ Fine x ∧ Keeps c x := by
  refine ask_fine h fun y hm hy hfw h0 => ?_
  simp only [Bool.and_eq_true] at hm
  unfold addF at h0 ⊢
  by_cases h1 : 1 < y.st
  · rw [if_pos h1] at h0; cases h0
  · rw [if_neg h1] at h0 ⊢
    by_cases h2 : 288 < (insC ordT tp y.P).length
    · rw [if_pos h2] at h0; cases h0
    · rw [if_neg h2]
      have hk := kept_ins lawT hy.p hm.1
      unfold runT
      have hst := hy.st
      by_cases h3 : y.st = 0
      · rw [if_pos (show ({ y with P := insC ordT tp y.P } : Tv).st = 0 from h3)]
        exact ⟨⟨rfl, rfl, rfl, Int.le_refl _, fun h => absurd h h1⟩, ⟨hy.id, hy.pid, hy.gen, hy.no, by show (0 : Int) ≤ 1 ∧ (1 : Int) ≤ 3; omega, inB_iff.1 hm.2, hk, hy.g, .inl (by show (1 : Int) ≠ 0; omega)⟩, by show (insC ordT tp y.P).length ≤ _; omega, hfw.2⟩
      · rw [if_neg (show ¬ ({ y with P := insC ordT tp y.P } : Tv).st = 0 from h3)]
        exact ⟨⟨rfl, rfl, rfl, Int.le_refl _, fun h => absurd h h1⟩, ⟨hy.id, hy.pid, hy.gen, hy.no, hy.st, hy.at_, hk, hy.g, .inl h3⟩, by show (insC ordT tp y.P).length ≤ _; omega, hfw.2⟩
theorem send_fine {c x : Cv} {id g : ByteArray} {pid gen now : Int} (h : sendV c id pid gen g now = (x, 0)) : Fine c ∧ Fine x ∧ Keeps c x := by
  refine ask_fine h fun y hm hy hfw h0 => ?_
  simp only [Bool.and_eq_true] at hm
  unfold sendF at h0 ⊢
  by_cases h1 : 1 < y.st
  · rw [if_pos h1] at h0; cases h0
  · rw [if_neg h1] at h0 ⊢
    by_cases h2 : 64 < (insC cmpS g y.G).length
    · rw [if_pos h2] at h0; cases h0
    · rw [if_neg h2]
      have hk := kept_ins lawS hy.g hm.1
      unfold runT
      have hst := hy.st
      by_cases h3 : y.st = 0
      · rw [if_pos (show ({ y with G := insC cmpS g y.G } : Tv).st = 0 from h3)]
        exact ⟨⟨rfl, rfl, rfl, Int.le_refl _, fun h => absurd h h1⟩, ⟨hy.id, hy.pid, hy.gen, hy.no, by show (0 : Int) ≤ 1 ∧ (1 : Int) ≤ 3; omega, inB_iff.1 hm.2, hy.p, hk, .inl (by show (1 : Int) ≠ 0; omega)⟩, hfw.1, by show (insC cmpS g y.G).length ≤ _; omega⟩
      · rw [if_neg (show ¬ ({ y with G := insC cmpS g y.G } : Tv).st = 0 from h3)]
        exact ⟨⟨rfl, rfl, rfl, Int.le_refl _, fun h => absurd h h1⟩, ⟨hy.id, hy.pid, hy.gen, hy.no, hy.st, hy.at_, hy.p, hk, .inl h3⟩, hfw.1, by show (insC cmpS g y.G).length ≤ _; omega⟩
theorem endTo_two (yes : Bool) : endTo yes = 2 ∨ endTo yes = 3 := by cases yes with | false => exact .inr rfl | true => exact .inl rfl
theorem end_fine {c x : Cv} {id : ByteArray} {pid gen : Int} {yes : Bool} (h : endV c id pid gen yes = (x, 0)) : Fine c ∧ Fine x ∧ Keeps c x := by
  refine ask_fine h fun y _ hy hfw h0 => ?_
  have h2 := endTo_two yes
  unfold endF at h0 ⊢
  by_cases h1 : y.st = 1 ∨ y.st = endTo yes
  · rw [if_pos h1]
    exact ⟨⟨rfl, rfl, rfl, Int.le_refl _, fun h => ⟨by show endTo yes = y.st; rcases h1 with h1 | h1 <;> omega, rfl, rfl, rfl⟩⟩, ⟨hy.id, hy.pid, hy.gen, hy.no, by show 0 ≤ endTo yes ∧ endTo yes ≤ 3; omega, hy.at_, hy.p, hy.g, .inl (by show endTo yes ≠ 0; omega)⟩, hfw⟩
  · rw [if_neg h1] at h0; cases h0

/-- A step, or none. -/
inductive Step : Cv → Cv → Prop
  | stay (c : Cv) : Step c c
  | init {c x : Cv} {id : ByteArray} {now p g : Int} : initV c id now = (x, p, g, 0) → Step c x
  | add {c x : Cv} {id : ByteArray} {pid gen now : Int} {tp : Tp} : addV c id pid gen tp now = (x, 0) → Step c x
  | send {c x : Cv} {id g : ByteArray} {pid gen now : Int} : sendV c id pid gen g now = (x, 0) → Step c x
  | fin {c x : Cv} {id : ByteArray} {pid gen : Int} {yes : Bool} : endV c id pid gen yes = (x, 0) → Step c x
inductive Steps : Cv → Cv → Prop
  | refl (c : Cv) : Steps c c
  | tail {a b c : Cv} : Steps a b → Step b c → Steps a c
theorem Step.fine {c x : Cv} (h : Step c x) (hc : Fine c) : Fine x ∧ Keeps c x := by
  cases h with
  | stay => exact ⟨hc, .refl c⟩
  | init h => exact (init_fine h).2
  | add h => exact (add_fine h).2
  | send h => exact (send_fine h).2
  | fin h => exact (end_fine h).2
theorem Steps.fine {c x : Cv} (h : Steps c x) (hc : Fine c) : Fine x ∧ Keeps c x := by
  induction h with
  | refl => exact ⟨hc, .refl c⟩
  | tail _ h ih => exact ⟨(h.fine ih.1).1, ih.2.trans (h.fine ih.1).2⟩
/-- What is few stays so. -/
theorem Step.few {c x : Cv} (h : Step c x) : x = c ∨ Fine x := by
  cases h with
  | stay => exact .inl rfl
  | init h => exact .inr (init_fine h).2.1
  | add h => exact .inr (add_fine h).2.1
  | send h => exact .inr (send_fine h).2.1
  | fin h => exact .inr (end_fine h).2.1

/-- CoordDecided, in plain words. -/
theorem decided_law {t x : Cv} (ht : Fine t) (h : Steps t x) : checkV x = 0 ∧ t.next ≤ x.next ∧ t.L.length ≤ x.L.length ∧
    ∀ a ∈ t.L, ∃ b, findV x.L a.pid = (b, true) ∧ b.id = a.id ∧ a.gen ≤ b.gen ∧ b.no = a.no ∧ (1 < a.st → { a with gen := b.gen } = b) := by
  obtain ⟨hx, hk⟩ := h.fine ht
  refine ⟨chk_iff.2 hx, hk.next, hk.len, fun a ha => ?_⟩
  obtain ⟨b, hb, k⟩ := hk.old a ha
  refine ⟨b, by rw [← k.pid]; exact find_mem hx.pids hb, k.id, k.gen, k.no, fun hs => ?_⟩
  obtain ⟨h1, h2, h3, h4⟩ := k.st hs
  have e1 := k.id; have e2 := k.pid; have e3 := k.no
  cases a; cases b
  simp_all
/-- CoordFenced: the one that stands there has a greater Gen. -/
theorem fenced_law {t x y : Cv} {was : Tv} {p g : Int} (ht : Fine t) (hw : was ∈ t.L) (h : initV t was.id 0 = (x, p, g, 0)) (hs : Steps x y) :
    p = was.pid ∧ g = was.gen + 1 ∧ ∀ may f, askV y was.id was.pid was.gen may f = (noC, if may = false then 1 else 110) := by
  obtain ⟨_, hx, _⟩ := init_fine h
  obtain ⟨_, _, _, h4⟩ := init_ok h
  obtain ⟨hy, hk⟩ := hs.fine hx
  rcases h4 with ⟨i, hi, e, hid, _, rfl, rfl, rfl⟩ | ⟨h0, _⟩
  · have ew : t.L[i] = was := up_inj ht.up (List.getElem_mem hi) hw hid
    rw [ew] at hk ⊢
    refine ⟨rfl, rfl, fun may f => ?_⟩
    obtain ⟨b, hb, k⟩ := hk.old _ (mem_set_new hi)
    obtain ⟨j, hj, rfl⟩ := List.getElem_of_mem hb
    have e1 : y.L[j].id = was.id := k.id
    have e2 : was.gen + 1 ≤ y.L[j].gen := k.gen
    exact ask_no (chk_iff.2 hy) (i := j) (by rw [← e1]; exact id_at hy.up hj) hj (by omega)
  · exact absurd rfl (id_none h0 was hw)
theorem fenced_bound {t : Cv} {was : Tv} {x : Cv} {p g r : Int} (ht : Fine t) (hw : was ∈ t.L) (h : initV t was.id 0 = (x, p, g, r)) (hr : r ≠ 0) : r = 2 := by
  obtain ⟨i, hi, rfl⟩ := List.getElem_of_mem hw
  unfold initV at h
  rw [if_neg (by simp [chk_iff.2 ht]), if_neg (fun hn => hn ⟨by decide, .inr (ht.ok (List.getElem_mem hi)).id⟩), id_at ht.up hi] at h
  simp only [List.getElem?_eq_getElem hi] at h
  split at h
  · injection h with _ h; injection h with _ h; injection h with _ h; exact h.symm
  · injection h with _ h; injection h with _ h; injection h with _ h; exact absurd h.symm hr
/-- CoordUnlike. -/
theorem unlike_law {t x y z : Cv} {a b : ByteArray} {p g q h : Int} (h1 : initV t a 0 = (x, p, g, 0)) (hs : Steps x y) (h2 : initV y b 0 = (z, q, h, 0)) :
    (a = b → 0 < a.size → p = q ∧ g < h) ∧ (¬ (a = b ∧ 0 < a.size) → p ≠ q) := by
  obtain ⟨ft, fx, kx⟩ := init_fine h1
  obtain ⟨fy, ky⟩ := hs.fine fx
  obtain ⟨_, _, ha, c1⟩ := init_ok h1
  obtain ⟨_, _, hb, c2⟩ := init_ok h2
  -- what stands of a in y
  have A : (0 < a.size → ∃ u ∈ y.L, u.id = a ∧ u.pid = p ∧ g ≤ u.gen) ∧ (a.size = 0 → ∀ u ∈ y.L, u.pid ≠ p) ∧ p < y.next := by
    rcases c1 with ⟨i, hi, _, hid, _, rfl, rfl, rfl⟩ | ⟨h0, hn, hl, rfl, rfl, rfl⟩
    · have hne : 0 < a.size := by
        have := (ft.ok (List.getElem_mem hi)).id
        rw [hid] at this
        unfold nameC at this
        simp only [Bool.and_eq_true, decide_eq_true_eq] at this
        exact this.1.1
      refine ⟨fun _ => ?_, fun e => by omega, ?_⟩
      · obtain ⟨u, hu, k⟩ := ky.old _ (mem_set_new hi)
        exact ⟨u, hu, k.id.trans hid, k.pid, k.gen⟩
      · have := (ft.ok (List.getElem_mem hi)).pid.2
        have := ky.next
        show t.L[i].pid < y.next
        have e : t.next ≤ y.next := this
        omega
    · refine ⟨fun hs => ?_, fun e u hu => ?_, ?_⟩
      · rw [if_pos hs] at ky
        obtain ⟨u, hu, k⟩ := ky.old ⟨a, t.next, 0, 0, 0, [], [], 0⟩ ins_self
        exact ⟨u, hu, k.id, k.pid, k.gen⟩
      · rw [if_neg (by omega)] at ky
        rcases ky.new u hu with ⟨v, hv, ev⟩ | hn'
        · have := (ft.ok hv).pid.2
          omega
        · have : t.next + 1 ≤ u.pid := hn'
          omega
      · have : t.next + 1 ≤ y.next := ky.next
        omega
  obtain ⟨A1, A2, A3⟩ := A
  rcases c2 with ⟨j, hj, _, hjd, _, rfl, rfl, rfl⟩ | ⟨h0, _, _, rfl, rfl, rfl⟩
  · refine ⟨fun e hp => ?_, fun hn e => ?_⟩
    · obtain ⟨u, hu, e1, e2, e3⟩ := A1 hp
      have : u = y.L[j] := up_inj fy.up hu (List.getElem_mem hj) (by rw [e1, hjd, e])
      subst this
      exact ⟨e2.symm, by omega⟩
    · by_cases hp : 0 < a.size
      · obtain ⟨u, hu, e1, e2, e3⟩ := A1 hp
        have : u = y.L[j] := pid_inj fy.pids hu (List.getElem_mem hj) (e2.trans e)
        subst this
        exact hn ⟨e1.symm.trans hjd, hp⟩
      · exact A2 (by omega) _ (List.getElem_mem hj) e.symm
  · refine ⟨fun e hp => ?_, fun hn e => by omega⟩
    obtain ⟨u, hu, e1, _⟩ := A1 hp
    exact absurd (e1.trans e) (id_none h0 u hu)

end Go.Proofs.Ytnigjchgpmladaa

namespace Go.Proofs.Ytnigjchgpmladaa

theorem find_at {L : List Tv} (h : L.Pairwise (fun x y => x.pid ≠ y.pid)) {i : Nat} (hi : i < L.length) : findV L L[i].pid = (L[i], true) := find_mem h (List.getElem_mem hi)
/-- Behind a change of one: it is found, it is asked again, and all others are as they were. -/
theorem ask_then {c x : Cv} {id : ByteArray} {pid gen : Int} {may : Bool} {f : Tv → Tv × Int} (h : askV c id pid gen may f = (x, 0)) (hx : Fine x) (hf : ∀ y, (f y).2 = 0 → (f y).1.id = y.id ∧ (f y).1.pid = y.pid ∧ (f y).1.gen = y.gen) :
    ∃ y ∈ c.L, y.pid = pid ∧ (f y).2 = 0 ∧ findV x.L pid = ((f y).1, true) ∧ (∀ g : Tv → Tv × Int, askV x id pid gen true g = if (g (f y).1).2 ≠ 0 then (noC, (g (f y).1).2) else ({ c with L := x.L.set (x.L.findIdx fun z => decide (z.pid = pid)) (g (f y).1).1 }, 0)) ∧
      x.L[x.L.findIdx fun z => decide (z.pid = pid)]? = some (f y).1 ∧ x.next = c.next ∧ x.L.length = c.L.length ∧ ∀ j (hj : j < c.L.length), c.L[j].pid ≠ pid → x.L[j]? = some c.L[j] := by
  obtain ⟨h1, hm, i, hi, _, hid, hp, hg, h0, rfl⟩ := ask_ok h
  obtain ⟨f1, f2, f3⟩ := hf _ h0
  have hi' : i < (c.L.set i (f c.L[i]).1).length := by rw [List.length_set]; exact hi
  have ei : (c.L.set i (f c.L[i]).1)[i] = (f c.L[i]).1 := by rw [List.getElem_set_self]
  have ef : (c.L.set i (f c.L[i]).1).findIdx (fun z => decide (z.pid = pid)) = i := by
    rw [List.findIdx_eq hi']
    refine ⟨by rw [ei]; exact decide_eq_true (f2.trans hp), fun j hj => decide_eq_false fun e => ?_⟩
    have hpp := (List.pairwise_iff_getElem.1 hx.pids) j i (by show j < (c.L.set i _).length; omega) hi' hj
    exact hpp (by show ((c.L.set i _)[j]'_).pid = ((c.L.set i _)[i]'_).pid; rw [ei, f2, hp]; exact e)
  refine ⟨c.L[i], List.getElem_mem hi, hp, h0, ?_, fun g => ?_, ?_, rfl, by show (c.L.set i _).length = _; rw [List.length_set], fun j hj hne => ?_⟩
  · have := find_at hx.pids hi'
    simp only [ei] at this
    rw [f2, hp] at this
    exact this
  · rw [ef]
    have hid' : idAt (c.L.set i (f c.L[i]).1) id = some i := by
      have := id_at hx.up hi'
      simp only [ei] at this
      rw [f1, hid] at this
      exact this
    have := ask_yes (f := g) (chk_iff.2 hx) hid' hi' (by simp only [ei]; rw [f2, hp]) (by simp only [ei]; rw [f3, hg])
    simp only [ei] at this
    exact this
  · simp only [ef]
    rw [List.getElem?_eq_getElem hi', ei]
  · have : i ≠ j := fun e => by subst e; exact hne hp
    show (c.L.set i _)[j]? = _
    rw [List.getElem?_set_ne this, List.getElem?_eq_getElem hj]
theorem set_at {α : Type} {L : List α} {i : Nat} {x : α} (h : L[i]? = some x) : L.set i x = L := by
  obtain ⟨hi, rfl⟩ := List.getElem?_eq_some_iff.1 h
  exact List.set_getElem_self hi
theorem noC_of {c x : Cv} {id : ByteArray} {pid gen : Int} {may : Bool} {f : Tv → Tv × Int} {r : Int} (h : askV c id pid gen may f = (x, r)) (hr : r ≠ 0) : x.L.length = 0 := by rw [ask_fst h hr]; rfl

/-- What stands once. -/
def onceN {α : Type} [DecidableEq α] (l : List α) (x : α) : Nat := (l.filter fun y => decide (y = x)).length
theorem once_up {α : Type} [DecidableEq α] {o : α → α → Int} (ho : LawC o) {l : List α} (h : Up o l) {x : α} (hx : x ∈ l) : onceN l x = 1 := by
  unfold onceN
  induction l with
  | nil => simp at hx
  | cons a l ih =>
    have h1 := fun {y} (hy : y ∈ l) => List.rel_of_pairwise_cons h hy
    by_cases e : a = x
    · subst e
      have : l.filter (fun y => decide (y = a)) = [] := by
        rw [List.filter_eq_nil_iff]
        intro y hy e
        have := h1 hy
        rw [of_decide_eq_true e, ho.self] at this
        omega
      rw [List.filter_cons_of_pos (by simp), this]; rfl
    · rw [List.filter_cons_of_neg (by simpa using e)]
      exact ih h.of_cons ((List.mem_cons.1 hx).elim (fun h' => absurd h'.symm e) id)
theorem ins_same {α : Type} {o : α → α → Int} (ho : LawC o) (he : ∀ {a b}, o a b = 0 → a = b) {x : α} : ∀ {l : List α}, Up o l → x ∈ l → insC o x l = l
  | [], _, h => by simp at h
  | a :: l, hu, h => by
    have h1 := fun {y} (hy : y ∈ l) => List.rel_of_pairwise_cons hu hy
    unfold insC
    rcases List.mem_cons.1 h with rfl | hx
    · rw [if_neg (by rw [ho.self]; omega), if_pos (ho.self _)]
    · rw [if_pos (h1 hx), ins_same ho he hu.of_cons hx]
theorem addF_keys {tp : Tp} {now : Int} {y : Tv} (_ : (addF tp now y).2 = 0) : (addF tp now y).1.id = y.id ∧ (addF tp now y).1.pid = y.pid ∧ (addF tp now y).1.gen = y.gen := by
  unfold addF runT
  split
  · exact ⟨rfl, rfl, rfl⟩
  · split
    · exact ⟨rfl, rfl, rfl⟩
    · split <;> exact ⟨rfl, rfl, rfl⟩
theorem sendF_keys {g : ByteArray} {now : Int} {y : Tv} (_ : (sendF g now y).2 = 0) : (sendF g now y).1.id = y.id ∧ (sendF g now y).1.pid = y.pid ∧ (sendF g now y).1.gen = y.gen := by
  unfold sendF runT
  split
  · exact ⟨rfl, rfl, rfl⟩
  · split
    · exact ⟨rfl, rfl, rfl⟩
    · split <;> exact ⟨rfl, rfl, rfl⟩
theorem endF_keys {yes : Bool} {y : Tv} (_ : (endF yes y).2 = 0) : (endF yes y).1.id = y.id ∧ (endF yes y).1.pid = y.pid ∧ (endF yes y).1.gen = y.gen := by
  unfold endF
  split <;> exact ⟨rfl, rfl, rfl⟩
theorem addF_twice {tp : Tp} {now : Int} {y : Tv} (hu : Up ordT y.P) (hs : 0 ≤ y.st) (h : (addF tp now y).2 = 0) : (addF tp now y).1.st = 1 ∧ onceN (addF tp now y).1.P tp = 1 ∧ addF tp now (addF tp now y).1 = ((addF tp now y).1, 0) := by
  have hi := ins_up lawT (x := tp) hu
  have hs2 : insC ordT tp (insC ordT tp y.P) = insC ordT tp y.P := ins_same lawT ordT_eq.1 hi ins_self
  have h1 : ¬ 1 < y.st := fun h1 => by unfold addF at h; rw [if_pos h1] at h; cases h
  have h2 : ¬ 288 < (insC ordT tp y.P).length := fun h2 => by unfold addF at h; rw [if_neg h1, if_pos h2] at h; cases h
  have e : addF tp now y = (runT { y with P := insC ordT tp y.P } now, 0) := by unfold addF; rw [if_neg h1, if_neg h2]
  have e1 : (runT { y with P := insC ordT tp y.P } now).st = 1 := by
    unfold runT
    by_cases h3 : y.st = 0
    · rw [if_pos (show ({ y with P := insC ordT tp y.P } : Tv).st = 0 from h3)]
    · rw [if_neg (show ¬ ({ y with P := insC ordT tp y.P } : Tv).st = 0 from h3)]; show y.st = 1; omega
  have e2 : (runT { y with P := insC ordT tp y.P } now).P = insC ordT tp y.P := by unfold runT; split <;> rfl
  rw [e]
  refine ⟨e1, by rw [e2]; exact once_up lawT hi ins_self, ?_⟩
  generalize runT { y with P := insC ordT tp y.P } now = z at *
  unfold addF runT
  rw [if_neg (show ¬ 1 < (z, (0 : Int)).1.st from by show ¬ 1 < z.st; omega), e2, hs2, if_neg h2, if_neg (show ¬ ({ z with P := insC ordT tp y.P } : Tv).st = 0 from by show ¬ z.st = 0; omega), ← e2]
theorem sendF_twice {g : ByteArray} {now : Int} {y : Tv} (hu : Up cmpS y.G) (hs : 0 ≤ y.st) (h : (sendF g now y).2 = 0) : (sendF g now y).1.st = 1 ∧ onceN (sendF g now y).1.G g = 1 ∧ sendF g now (sendF g now y).1 = ((sendF g now y).1, 0) := by
  have hi := ins_up lawS (x := g) hu
  have hs2 : insC cmpS g (insC cmpS g y.G) = insC cmpS g y.G := ins_same lawS cmpS_eq.1 hi ins_self
  have h1 : ¬ 1 < y.st := fun h1 => by unfold sendF at h; rw [if_pos h1] at h; cases h
  have h2 : ¬ 64 < (insC cmpS g y.G).length := fun h2 => by unfold sendF at h; rw [if_neg h1, if_pos h2] at h; cases h
  have e : sendF g now y = (runT { y with G := insC cmpS g y.G } now, 0) := by unfold sendF; rw [if_neg h1, if_neg h2]
  have e1 : (runT { y with G := insC cmpS g y.G } now).st = 1 := by
    unfold runT
    by_cases h3 : y.st = 0
    · rw [if_pos (show ({ y with G := insC cmpS g y.G } : Tv).st = 0 from h3)]
    · rw [if_neg (show ¬ ({ y with G := insC cmpS g y.G } : Tv).st = 0 from h3)]; show y.st = 1; omega
  have e2 : (runT { y with G := insC cmpS g y.G } now).G = insC cmpS g y.G := by unfold runT; split <;> rfl
  rw [e]
  refine ⟨e1, by rw [e2]; exact once_up lawS hi ins_self, ?_⟩
  generalize runT { y with G := insC cmpS g y.G } now = z at *
  unfold sendF runT
  rw [if_neg (show ¬ 1 < (z, (0 : Int)).1.st from by show ¬ 1 < z.st; omega), e2, hs2, if_neg h2, if_neg (show ¬ ({ z with G := insC cmpS g y.G } : Tv).st = 0 from by show ¬ z.st = 0; omega), ← e2]

/-- CoordTaken of a partition, and of a group. -/
theorem add_law {t x : Cv} {id : ByteArray} {pid gen now : Int} {tp : Tp} (h : addV t id pid gen tp now = (x, 0)) :
    ∃ p, findV x.L pid = (p, true) ∧ p.st = 1 ∧ onceN p.P tp = 1 ∧ x.next = t.next ∧ x.L.length = t.L.length ∧ (∀ j (hj : j < t.L.length), t.L[j].pid ≠ pid → x.L[j]? = some t.L[j]) ∧ addV x id pid gen tp now = (x, 0) := by
  obtain ⟨hc, hx, _⟩ := add_fine h
  obtain ⟨y, hy, _, h0, hf, hg, hs, hn, hl, ho⟩ := ask_then h hx fun y => addF_keys
  have hok := hc.ok hy
  obtain ⟨k1, k2, k3⟩ := addF_twice (kept_up lawT hok.p) hok.st.1 h0
  refine ⟨_, hf, k1, k2, hn, hl, ho, ?_⟩
  have hm := (ask_ok h).2.1
  unfold addV
  rw [hm, hg, k3]
  simp only [ne_eq, not_true_eq_false, if_false]
  rw [set_at hs, ← hn]
theorem send_law {t x : Cv} {id g : ByteArray} {pid gen now : Int} (h : sendV t id pid gen g now = (x, 0)) :
    ∃ p, findV x.L pid = (p, true) ∧ p.st = 1 ∧ onceN p.G g = 1 ∧ x.next = t.next ∧ x.L.length = t.L.length ∧ (∀ j (hj : j < t.L.length), t.L[j].pid ≠ pid → x.L[j]? = some t.L[j]) ∧ sendV x id pid gen g now = (x, 0) := by
  obtain ⟨hc, hx, _⟩ := send_fine h
  obtain ⟨y, hy, _, h0, hf, hg, hs, hn, hl, ho⟩ := ask_then h hx fun y => sendF_keys
  have hok := hc.ok hy
  obtain ⟨k1, k2, k3⟩ := sendF_twice (kept_up lawS hok.g) hok.st.1 h0
  refine ⟨_, hf, k1, k2, hn, hl, ho, ?_⟩
  have hm := (ask_ok h).2.1
  unfold sendV
  rw [hm, hg, k3]
  simp only [ne_eq, not_true_eq_false, if_false]
  rw [set_at hs, ← hn]

theorem pid_at {L : List Tv} (h : L.Pairwise (fun x y => x.pid ≠ y.pid)) {i : Nat} (hi : i < L.length) : pidAt L L[i].pid = some i := by
  unfold pidAt
  rw [List.findIdx?_eq_some_iff_getElem]
  refine ⟨hi, by simp, fun j hj => ?_⟩
  have := (List.pairwise_iff_getElem.1 h) j i (by omega) hi hj
  simpa using this
theorem filter_set {α : Type} {p : α → Bool} : ∀ {L : List α} {i : Nat} (hi : i < L.length) {x : α}, p L[i] = true → p x = false → ((L.set i x).filter p).length + 1 = (L.filter p).length
  | a :: L, 0, _, x, h1, h2 => by
    simp only [List.getElem_cons_zero] at h1
    rw [List.set_cons_zero, List.filter_cons_of_neg (by simp [h2]), List.filter_cons_of_pos h1, List.length_cons]
  | a :: L, i + 1, hi, x, h1, h2 => by
    simp only [List.getElem_cons_succ] at h1
    have ih := filter_set (by simpa using hi) h1 h2
    rw [List.set_cons_succ]
    cases e : p a with
    | false => rw [List.filter_cons_of_neg (by simp [e]), List.filter_cons_of_neg (by simp [e])]; exact ih
    | true => rw [List.filter_cons_of_pos e, List.filter_cons_of_pos e, List.length_cons, List.length_cons, ih]
/-- CoordEnds. -/
theorem end_law {t x : Cv} {id : ByteArray} {pid gen : Int} {yes : Bool} (h : endV t id pid gen yes = (x, 0)) :
    Fine x ∧ ∃ p, findV x.L pid = (p, true) ∧ p.st = endTo yes ∧ endV x id pid gen yes = (x, 0) ∧ endV x id pid gen (!yes) = (noC, 210) ∧
      (doneV x pid = (noC, 2) ∨ ∃ z q, doneV x pid = (z, 0) ∧ Fine z ∧ findV z.L pid = (q, true) ∧ q.st = 0 ∧ q.no = p.no + 1 ∧ q.P = [] ∧ q.G = [] ∧ endV z id pid gen yes = (noC, 210) ∧ (dueV z.L).length + 1 = (dueV x.L).length) := by
  obtain ⟨hc, hx, _⟩ := end_fine h
  obtain ⟨y, hy, _, h0, hf, hg, hs, hn, hl, ho⟩ := ask_then h hx fun y => endF_keys
  have ey : (endF yes y).1.st = endTo yes := by
    unfold endF at h0 ⊢
    by_cases h1 : y.st = 1 ∨ y.st = endTo yes
    · rw [if_pos h1]
    · rw [if_neg h1] at h0; cases h0
  have e2 := endTo_two yes
  generalize (endF yes y).1 = p at *
  refine ⟨hx, p, hf, ey, ?_, ?_, ?_⟩
  · unfold endV
    rw [hg]
    have : endF yes p = (p, 0) := by unfold endF; rw [if_pos (.inr ey), ← ey]
    rw [this]
    simp only [ne_eq, not_true_eq_false, if_false]
    rw [set_at hs, ← hn]
  · unfold endV
    rw [hg]
    have : endF (!yes) p = (p, 210) := by
      unfold endF
      rw [if_neg]
      cases yes <;> simp [endTo] at ey ⊢ <;> omega
    rw [this]
    rfl
  · generalize hi0 : x.L.findIdx (fun z => decide (z.pid = pid)) = i at *
    obtain ⟨hi, ei⟩ := List.getElem?_eq_some_iff.1 hs
    have hpid : p.pid = pid := by
      have := List.findIdx_getElem (w := by rw [hi0]; exact hi) (xs := x.L) (p := fun z => decide (z.pid = pid))
      simp only [hi0] at this
      rw [ei] at this
      exact of_decide_eq_true this
    have hpa : pidAt x.L pid = some i := by
      have := pid_at hx.pids hi
      rw [ei, hpid] at this
      exact this
    have hdue : dueB p = true := by unfold dueB; rw [ey]; rcases e2 with h | h <;> rw [h] <;> rfl
    have hok := hx.ok (List.getElem_mem hi)
    rw [ei] at hok
    unfold doneV
    rw [if_neg (by simp [chk_iff.2 hx]), hpa]
    simp only [hs, hdue, if_true]
    by_cases hb : p.no = 1048576
    · left; rw [if_pos hb]
    · right
      rw [if_neg hb]
      have fz : Fine { x with L := x.L.set i ⟨p.id, p.pid, p.gen, p.no + 1, 0, [], [], p.at_⟩ } :=
        fine_set hx hi (by rw [ei]) (by rw [ei]) ⟨hok.id, hok.pid, hok.gen, by have := hok.no; show 0 ≤ p.no + 1 ∧ p.no + 1 ≤ _; omega, by show (0 : Int) ≤ 0 ∧ (0 : Int) ≤ 3; omega, hok.at_, rfl, rfl, .inr rfl⟩ ⟨by show 0 ≤ 288; omega, by show 0 ≤ 64; omega⟩
      have hi' : i < (x.L.set i ⟨p.id, p.pid, p.gen, p.no + 1, 0, [], [], p.at_⟩).length := by rw [List.length_set]; exact hi
      refine ⟨_, ⟨p.id, p.pid, p.gen, p.no + 1, 0, [], [], p.at_⟩, rfl, fz, ?_, rfl, rfl, rfl, rfl, ?_, ?_⟩
      · have := find_at fz.pids hi'
        simp only [List.getElem_set_self] at this
        rw [← hpid]
        exact this
      · have hh := (ask_ok h).2.2
        obtain ⟨j, hj, _, hid, hp, hgn, _, hxe⟩ := hh
        have hj' : j < x.L.length := by rw [hxe]; show j < (t.L.set j _).length; rw [List.length_set]; exact hj
        have hxj : x.L[j].pid = pid ∧ x.L[j].id = id ∧ x.L[j].gen = gen := by
          have k := endF_keys (yes := yes) (y := t.L[j]) (by assumption)
          subst hxe
          simp only [List.getElem_set_self]
          exact ⟨k.2.1.trans hp, k.1.trans hid, k.2.2.trans hgn⟩
        have eij : x.L[j] = p := pid_inj hx.pids (List.getElem_mem hj') (by rw [← ei]; exact List.getElem_mem hi) (hxj.1.trans hpid.symm)
        rw [eij] at hxj
        have hida : idAt (x.L.set i ⟨p.id, p.pid, p.gen, p.no + 1, 0, [], [], p.at_⟩) id = some i := by
          have := id_at fz.up hi'
          simp only [List.getElem_set_self] at this
          rw [← hxj.2.1]
          exact this
        unfold endV
        rw [ask_yes (chk_iff.2 fz) hida hi' (by simp only [List.getElem_set_self]; exact hpid) (by simp only [List.getElem_set_self]; exact hxj.2.2)]
        simp only [List.getElem_set_self]
        have : ∀ z : Tv, z.st = 0 → endF yes z = (z, 210) := fun z hz => by unfold endF; rw [if_neg]; omega
        rw [this _ rfl]
        rfl
      · unfold dueV
        have := filter_set (p := dueB) hi (x := ⟨p.id, p.pid, p.gen, p.no + 1, 0, [], [], p.at_⟩) (by rw [ei]; exact hdue) rfl
        exact this

/-- CoordOld. -/
theorem old_law {t : Cv} {now long more less : Int} (h : Fine t) (h1 : inB now 1099511627776 = true) (h2 : inB long 1099511627776 = true) (h3 : 0 ≤ more) (h4 : 0 ≤ less) (h5 : now + more ≤ 1099511627776) (h6 : less ≤ long) :
    (oldV t now long).length ≤ (oldV t (now + more) (long - less)).length ∧ ∀ s ∈ oldV t now long, onceN (oldV t (now + more) (long - less)) s = 1 ∧
      ((∃ x p g, initV t s now = (x, p, g, 2)) ∨ ∃ x p g a b, initV t s now = (x, p, g, 0) ∧ Fine x ∧ findV x.L p = (a, true) ∧ findV t.L p = (b, true) ∧ b.st = 1 ∧ a.st = 3 ∧ b.id = s) := by
  have hc := chk_iff.2 h
  have i1 := inB_iff.1 h1
  have i2 := inB_iff.1 h2
  have j1 : inB (now + more) 1099511627776 = true := inB_iff.2 (by omega)
  have j2 : inB (long - less) 1099511627776 = true := inB_iff.2 (by omega)
  have hsub : ∀ x, oldB now long x = true → oldB (now + more) (long - less) x = true := fun x hx => by
    unfold oldB at hx ⊢
    simp only [Bool.and_eq_true, decide_eq_true_eq] at hx ⊢
    omega
  have upS : ∀ {p : Tv → Bool}, Up cmpS ((t.L.filter p).map Tv.id) := fun {p} => by
    unfold Up
    rw [List.pairwise_map]
    exact (h.up.filter p)
  unfold oldV
  rw [if_pos ⟨hc, h1, h2⟩, if_pos ⟨hc, j1, j2⟩]
  refine ⟨?_, fun s hs => ?_⟩
  · rw [List.length_map, List.length_map]
    have : ∀ L : List Tv, (L.filter (oldB now long)).length ≤ (L.filter (oldB (now + more) (long - less))).length := fun L => by
      induction L with
      | nil => exact Nat.le_refl _
      | cons a L ih =>
        cases e : oldB now long a with
        | true => rw [List.filter_cons_of_pos e, List.filter_cons_of_pos (hsub a e)]; simpa using ih
        | false =>
          rw [List.filter_cons_of_neg (by simp [e])]
          refine Nat.le_trans ih ?_
          rw [List.filter_cons]
          split
          · simp
          · exact Nat.le_refl _
    exact this _
  · obtain ⟨b, hb, rfl⟩ := List.mem_map.1 hs
    obtain ⟨hb1, hb2⟩ := List.mem_filter.1 hb
    refine ⟨once_up lawS upS (List.mem_map_of_mem (List.mem_filter.2 ⟨hb1, hsub b hb2⟩)), ?_⟩
    have hst : b.st = 1 := by
      unfold oldB at hb2
      simp only [Bool.and_eq_true, decide_eq_true_eq] at hb2
      exact hb2.1
    cases hv : initV t b.id now with
    | mk x r =>
    obtain ⟨p, g, r⟩ := r
    by_cases hr : r = 0
    · subst hr
      right
      obtain ⟨_, fx, _⟩ := init_fine hv
      obtain ⟨_, _, _, h4⟩ := init_ok hv
      rcases h4 with ⟨i, hi, e, hid, _, rfl, rfl, rfl⟩ | ⟨h0, _⟩
      · have eb : t.L[i] = b := up_inj h.up (List.getElem_mem hi) hb1 hid
        have hi' : i < (t.L.set i { t.L[i] with gen := t.L[i].gen + 1, st := if t.L[i].st = 1 then 3 else t.L[i].st }).length := by rw [List.length_set]; exact hi
        refine ⟨_, _, _, { t.L[i] with gen := t.L[i].gen + 1, st := if t.L[i].st = 1 then 3 else t.L[i].st }, b, rfl, fx, ?_, ?_, hst, ?_, rfl⟩
        · have := find_at fx.pids hi'
          simp only [List.getElem_set_self] at this
          exact this
        · rw [eb]; exact find_mem h.pids hb1
        · show (if t.L[i].st = 1 then 3 else t.L[i].st) = 3
          rw [eb, if_pos hst]
      · exact absurd rfl (id_none h0 b hb1)
    · left
      refine ⟨x, p, g, ?_⟩
      obtain ⟨i, hi, rfl⟩ := List.getElem_of_mem hb1
      have hv' := hv
      unfold initV at hv'
      rw [if_neg (by simp [hc]), if_neg (fun hn => hn ⟨h1, .inr (h.ok (List.getElem_mem hi)).id⟩), id_at h.up hi] at hv'
      simp only [List.getElem?_eq_getElem hi] at hv'
      split at hv'
      · injection hv' with z1 z; injection z with z2 z; injection z with z3 z4
        rw [← z4]
      · injection hv' with _ z; injection z with _ z; injection z with _ z; exact absurd z.symm hr

end Go.Proofs.Ytnigjchgpmladaa
