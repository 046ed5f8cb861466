/- The words for memory that all chapters share: a row of cells, a slice that reads as a list, a slice of the call's own; of no function. -/
import Derived.Test.YtmlgahambecamaaRows
import Derived.WalkKit
import Derived.WalkSpells
import Derived.WalkLawsBesides
import Derived.Lib.Hide
import Derived.StillTailTactics
import Derived.Deep.QuietTactic
import Derived.BigQuiet
import Derived.Lib.QuietBelow
import Derived.Deep.RegionHeld3
import Derived.Deep.AppendLies
import Derived.Deep.LoopGhost
import Derived.Lib.Walk
namespace Go.Proofs.Ytmlgahambecamaa
open Go.RowKit

theorem setCell_drewN (w : World) (n : Nat) (a : Addr) (v : Value) : (w.drewN n).setCell a v = (w.setCell a v).drewN n := rfl
theorem alloc_drewN (w : World) (n : Nat) (o : Obj) : (w.drewN n).alloc o = (w.alloc o).drewN n := rfl
theorem below_drewN {B : Nat} {a w : World} (h : Below B a w) (n : Nat) : Below B a (w.drewN n) := ⟨h.os, h.tape, h.output, h.size, h.block⟩
theorem below_from {B : Nat} {w W w1 : World} (hb : Below W.heap.size W w1) (h : Below B w W) (hB : B ≤ W.heap.size) : Below B w w1 := h.trans (hb.mono hB)
theorem bcell {W w1 : World} (hb : Below W.heap.size W w1) : (∀ b o, b < W.heap.size → w1.cell? ⟨b, o, none⟩ = W.cell? ⟨b, o, none⟩) ∧ (∀ b o, b < W.heap.size → w1.frozen? ⟨b, o, none⟩ = W.frozen? ⟨b, o, none⟩) :=
  ⟨fun b o h => hb.cell (p := ⟨b, o, none⟩) h, fun b o h => hb.frozen (p := ⟨b, o, none⟩) h⟩
theorem below_alloc1 (w : World) (o : Obj) : Below w.heap.size w (w.alloc o) := (Below.refl _ _).alloc (Nat.le_refl _) o

/-- A callee that leaves the world alone, met in a quiet region. -/
theorem quiet_same {P : Program} {f : FuncId} {args : Array Value} {w : World} {n : Nat} {v : Value} (h : Calls P f args (w.drewN n) fun e w' => e = .returned v ∧ w.drewN n = w') :
    Calls P f args (w.drewN n) fun e w'' => e = .returned v ∧ ∃ m, w'' = w.drewN m := h.mono fun _ _ ⟨he, hm⟩ => ⟨he, n, hm.symm⟩
theorem ret_bool {a b : Bool} (h : a = b) : Ending.returned (.bool a) = .returned (.bool b) := by rw [h]
theorem ret_int {k : IntKind} {a b : Int} (h : a = b) : Ending.returned (.int k a) = .returned (.int k b) := by rw [h]

theorem quiet_mono {P : Program} {ops : Array Oper} {C : World → Prop} {Q Q' : Act → Prop} (h : ∀ a, Q a → Q' a) : ∀ (l : List Oper) (a : Act), wpQuiet P ops C Q l a → wpQuiet P ops C Q' l a
  | [], a, k => h a k
  | o :: rest, a, k => by
    unfold wpQuiet at k ⊢
    by_cases hw : Region.wanted o (yielded ops a.tmps) = true
    · rw [if_pos hw] at k ⊢
      obtain ⟨v, h1, h2⟩ := k
      exact ⟨v, h1, quiet_mono h rest _ h2⟩
    · rw [if_neg hw] at k ⊢
      exact quiet_mono h rest _ k
/-- A region that draws its order, reads old memory alone and calls what leaves old memory alone: walked once. -/
theorem region_below {P : Program} {id : Nat} {Q : Exit → Act → World → Prop} {a : Act} {w : World} {l : List Oper} (hm : P.follows .mixedOrders = true) (hB : Region.lexB .any l.toArray = true)
    (h : wpQuiet P l.toArray (fun w' => ∃ p : Regrown, w' = Go.Sort.grow (redrawn w p.d) p.os) (fun a' => ∀ w1, Below w.heap.size w w1 → Q .normal a' w1) l a) : (Code.region id l.toArray true).wp P Q a w :=
  wp_region_quiet_below hm hB (by
    refine quiet_mono (fun a' ha => ?_) l a h
    rintro w' ⟨p, rfl⟩
    exact ha _ (below_regrown w p.d p.os))
/-- A cell of an old block, in every world that such a region passes through. -/
theorem at_regrown {w : World} {a : Addr} {v : Value} (h : w.cell? a = some v) : ∀ d os, (Go.Sort.grow (redrawn w d) os).cell? a = some v := fun d os => cell_regrown h d os
theorem call_regrown {P : Program} {f : FuncId} {args : Array Value} {w : World} {d : Nat} {os : Array Obj} {v : Value}
    (h : ∀ w', Below w.heap.size w w' → Calls P f args w' fun e w'' => e = .returned v ∧ Below w'.heap.size w' w'') : Calls P f args (Go.Sort.grow (redrawn w d) os) fun e w'' => e = .returned v ∧ ∃ p : Regrown, w'' = Go.Sort.grow (redrawn w p.d) p.os :=
  Calls.regrown_of (h _ (below_regrown w d os))
theorem call_regrown_same {P : Program} {f : FuncId} {args : Array Value} {w : World} {d : Nat} {os : Array Obj} {v : Value}
    (h : ∀ w', Below w.heap.size w w' → Calls P f args w' fun e w'' => e = .returned v ∧ w' = w'') : Calls P f args (Go.Sort.grow (redrawn w d) os) fun e w'' => e = .returned v ∧ ∃ p : Regrown, w'' = Go.Sort.grow (redrawn w p.d) p.os :=
  (h _ (below_regrown w d os)).mono fun _ _ ⟨he, hw⟩ => ⟨he, ⟨⟨d, os⟩, hw.symm⟩⟩

/-- A box of the call's own, and what it holds. -/
structure Has (w : World) (g : Nat) (cs : Array Value) : Prop where
  cell : ∀ i, w.cell? ⟨g, i, none⟩ = cs[i]?
  free : ∀ i, w.frozen? ⟨g, i, none⟩ = false
  lt : g < w.heap.size
theorem Has.newAt (w : World) (cs : Array Value) (t : TypeId) {g : Nat} (hg : w.heap.size = g) : Has (w.alloc (.cells cs t)) g cs :=
  ⟨fun i => hg ▸ World.cell?_alloc_new w cs t i, fun i => World.frozen?_alloc_at (w := w) cs t g i hg.symm, by simp; omega⟩
theorem Has.below {w w' : World} {g : Nat} {cs : Array Value} (h : Has w g cs) {B : Nat} (hb : Below B w w') (hg : g < B) : Has w' g cs :=
  ⟨fun i => (hb.cell (p := ⟨g, i, none⟩) hg).trans (h.cell i), fun i => (hb.frozen (p := ⟨g, i, none⟩) hg).trans (h.free i), Nat.lt_of_lt_of_le h.lt hb.size⟩
theorem Has.past {w w' : World} {g : Nat} {cs : Array Value} (h : Has w g cs) (hb : Below w.heap.size w w') : Has w' g cs := h.below hb h.lt
theorem Has.alloc {w : World} {g : Nat} {cs : Array Value} (h : Has w g cs) (o : Obj) : Has (w.alloc o) g cs := h.past (below_alloc1 w o)

theorem Has.drew {w : World} {g : Nat} {cs : Array Value} (h : Has w g cs) : Has w.drew g cs := ⟨h.cell, h.free, h.lt⟩

/-- The cells from an address on are these. -/
def Row (w : World) (A : Option Addr) (cs : List Value) : Prop :=
  cs ≠ [] → ∃ b off, A = some ⟨b, off, none⟩ ∧ b < w.heap.size ∧ ∀ j, j < cs.length → w.cell? ⟨b, off + j, none⟩ = cs[j]?

theorem Row.nil (w : World) (A : Option Addr) : Row w A [] := fun h => absurd rfl h
theorem Row.below {w w' : World} {A : Option Addr} {cs : List Value} (h : Row w A cs) (hb : Below w.heap.size w w') : Row w' A cs := fun hne => by
  obtain ⟨b, off, rfl, hlt, hc⟩ := h hne
  exact ⟨b, off, rfl, Nat.lt_of_lt_of_le hlt hb.size, fun j hj => (hb.cell (p := ⟨b, off + j, none⟩) hlt).trans (hc j hj)⟩
theorem Row.take {w : World} {A : Option Addr} {cs : List Value} (h : Row w A cs) (m : Nat) : Row w A (cs.take m) := fun hne => by
  obtain ⟨b, off, rfl, hlt, hc⟩ := h (fun e => hne (by rw [e]; simp))
  exact ⟨b, off, rfl, hlt, fun j hj => by
    rw [List.length_take] at hj
    rw [hc j (by omega), List.getElem?_take, if_pos (by omega)]⟩
theorem Row.drop {w : World} {b off : Nat} {cs : List Value} (h : Row w (some ⟨b, off, none⟩) cs) (m : Nat) : Row w (some ⟨b, off + m, none⟩) (cs.drop m) := fun hne => by
  have hlen : m < cs.length := by
    apply Nat.lt_of_not_le; intro hle; exact hne (List.drop_eq_nil_of_le hle)
  obtain ⟨b', off', e, hlt, hc⟩ := h (fun e => hne (by rw [e]; simp))
  injection e with e; injection e with e1 e2 e3
  subst e1 e2
  exact ⟨b, off + m, rfl, hlt, fun j hj => by
    rw [List.length_drop] at hj
    rw [Nat.add_assoc, hc (m + j) (by omega), List.getElem?_drop]⟩
theorem Row.of_has {w : World} {g : Nat} {cs : Array Value} (h : Has w g cs) : Row w (some ⟨g, 0, none⟩) cs.toList := fun _ =>
  ⟨g, 0, rfl, h.lt, fun j hj => by rw [Nat.zero_add, h.cell]; simp⟩

theorem flat_get {α : Type} (f : α → List Value) (s : Nat) (hs : ∀ a, (f a).length = s) : ∀ (l : List α) (i k : Nat) (hi : i < l.length), k < s → (l.flatMap f)[i * s + k]? = (f l[i])[k]?
  | [], i, _, hi, _ => by simp at hi
  | a :: l, 0, k, _, hk => by
    rw [List.flatMap_cons, List.getElem?_append_left (by rw [hs]; omega)]
    simp
  | a :: l, i + 1, k, hi, hk => by
    rw [List.flatMap_cons, List.getElem?_append_right (by rw [hs, Nat.succ_mul]; omega), hs, show (i + 1) * s + k - s = i * s + k by rw [Nat.succ_mul]; omega, flat_get f s hs l i k (by simpa using hi) hk]
    simp
theorem flat_len {α : Type} (f : α → List Value) (s : Nat) (hs : ∀ a, (f a).length = s) (l : List α) : (l.flatMap f).length = l.length * s := by
  induction l with
  | nil => simp
  | cons a l ih => rw [List.flatMap_cons, List.length_append, hs, ih, List.length_cons, Nat.succ_mul]; omega
theorem flat_take {α : Type} (f : α → List Value) (s : Nat) (hs : ∀ a, (f a).length = s) : ∀ (l : List α) (i : Nat), (l.flatMap f).take (i * s) = (l.take i).flatMap f
  | [], i => by simp
  | a :: l, 0 => by simp
  | a :: l, i + 1 => by
    rw [List.take_succ_cons, List.flatMap_cons, List.flatMap_cons, List.take_append, hs, List.take_of_length_le (by rw [hs, Nat.succ_mul]; omega), show (i + 1) * s - s = i * s by rw [Nat.succ_mul]; omega, flat_take f s hs l i]
theorem flat_drop {α : Type} (f : α → List Value) (s : Nat) (hs : ∀ a, (f a).length = s) : ∀ (l : List α) (i : Nat), (l.flatMap f).drop (i * s) = (l.drop i).flatMap f
  | [], i => by simp
  | a :: l, 0 => by simp
  | a :: l, i + 1 => by
    rw [List.drop_succ_cons, List.flatMap_cons, List.drop_append, hs, List.drop_eq_nil_of_le (by rw [hs, Nat.succ_mul]; omega), show (i + 1) * s - s = i * s by rw [Nat.succ_mul]; omega, flat_drop f s hs l i]
    rfl

/-- What an element of a slice is: its cells, and what must lie in memory besides. -/
structure RK (α : Type) where
  size : Nat
  pos : 0 < size
  cells : α → List Value
  len : ∀ a, (cells a).length = size
  one : ∀ a, ∀ v ∈ cells a, v.oneCell' = true
  In : World → α → Prop
  below : ∀ {w w' : World} {a : α}, In w a → Below w.heap.size w w' → In w' a

theorem RK.flat_one {α : Type} (K : RK α) (l : List α) : ∀ v ∈ l.flatMap K.cells, v.oneCell' = true := fun v hv => by
  obtain ⟨a, _, ha⟩ := List.mem_flatMap.1 hv
  exact K.one a v ha

/-- A slice reads as a list. -/
structure Sl {α : Type} (K : RK α) (w : World) (A : Option Addr) (n c : Nat) (l : List α) : Prop where
  len : l.length = n
  cap : n ≤ c
  max : c ≤ 9223372036854775807
  adr : A = none → n = 0 ∧ c = 0
  row : Row w A (l.flatMap K.cells)
  each : ∀ a ∈ l, K.In w a

theorem Sl.nil {α : Type} (K : RK α) (w : World) : Sl K w none 0 0 [] := ⟨rfl, Nat.le_refl _, by omega, fun _ => ⟨rfl, rfl⟩, Row.nil _ _, by simp⟩
theorem Sl.below {α : Type} {K : RK α} {w w' : World} {A : Option Addr} {n c : Nat} {l : List α} (i : Sl K w A n c l) (hb : Below w.heap.size w w') : Sl K w' A n c l :=
  ⟨i.len, i.cap, i.max, i.adr, i.row.below hb, fun h hh => K.below (i.each h hh) hb⟩
theorem Sl.alloc {α : Type} {K : RK α} {w : World} {A : Option Addr} {n c : Nat} {l : List α} (i : Sl K w A n c l) (o : Obj) : Sl K (w.alloc o) A n c l := i.below (below_alloc1 w o)
theorem Sl.take {α : Type} {K : RK α} {w : World} {A : Option Addr} {n c : Nat} {l : List α} (i : Sl K w A n c l) (m : Nat) (hm : m ≤ n) : Sl K w A m c (l.take m) :=
  ⟨by rw [List.length_take, i.len]; omega, Nat.le_trans hm i.cap, i.max, (fun h => by have := i.adr h; omega),
   by rw [← flat_take K.cells K.size K.len]; exact i.row.take _, fun a ha => i.each a (List.mem_of_mem_take ha)⟩

/-- The cells of the k-th element. -/
theorem Sl.get {α : Type} {K : RK α} {w : World} {A : Option Addr} {n c k : Nat} {l : List α} (i : Sl K w A n c l) (hk : k < n) :
    ∃ b off, ∃ hl : k < l.length, A = some ⟨b, off, none⟩ ∧ b < w.heap.size ∧ ∀ j, j < K.size → w.cell? ⟨b, off + k * K.size + j, none⟩ = (K.cells l[k])[j]? := by
  have hl : k < l.length := by rw [i.len]; exact hk
  have hfl := flat_len K.cells K.size K.len l
  have hpos : k * K.size + K.size ≤ l.length * K.size := by rw [← Nat.succ_mul]; exact Nat.mul_le_mul_right _ hl
  have hp := K.pos
  obtain ⟨b, off, rfl, hlt, hc⟩ := i.row (fun h => by rw [h] at hfl; simp only [List.length_nil] at hfl; omega)
  exact ⟨b, off, hl, rfl, hlt, fun j hj => by rw [Nat.add_assoc, hc (k * K.size + j) (by omega), flat_get K.cells K.size K.len l k j hl hj]⟩

/-- A slice of the call's own (from block B on), that reads as a list: its row may be written. -/
def Own {α : Type} (K : RK α) (E : TypeId) (w : World) (B : Nat) (A : Option Addr) (n c : Nat) (l : List α) : Prop :=
  l.length = n ∧ w.ownsRow B E K.size (.slice A n c) n (l.flatMap K.cells) ∧ ∀ a ∈ l, K.In w a

theorem Own.sl {α : Type} {K : RK α} {E : TypeId} {w : World} {B : Nat} {A : Option Addr} {n c : Nat} {l : List α} (h : Own K E w B A n c l) : Sl K w A n c l := by
  obtain ⟨h1, h2, h3⟩ := h
  obtain ⟨h4, h5⟩ := h2
  rcases h5 with ⟨e, h0⟩ | ⟨g, cap, cur, e, hB, hg, hc1, hc2, hs, ht⟩
  · injection e with e1 e2 e3
    subst e1 e3 h0
    exact ⟨h1, Nat.le_refl _, by omega, fun _ => ⟨rfl, rfl⟩, by rw [List.length_eq_zero_iff.1 h1]; exact Row.nil _ _, h3⟩
  · injection e with e1 e2 e3
    subst e1 e3
    refine ⟨h1, hc1, by simpa [maxLen] using hc2, (fun h => by cases h), fun _ => ⟨g, 0, rfl, (Array.getElem?_eq_some_iff.1 hg).1, fun j hj => ?_⟩, h3⟩
    rw [Nat.zero_add, cell_of_row w g j cur E (0, 0) hg, ← ht, List.getElem?_take, if_pos (by rw [← h4]; exact hj)]
    simp

theorem Own.kept {α : Type} {K : RK α} {E : TypeId} {w w' : World} {B : Nat} {A : Option Addr} {n c : Nat} {l : List α} (h : Own K E w B A n c l) (hb : Below w.heap.size w w') : Own K E w' B A n c l := by
  obtain ⟨h1, h2, h3⟩ := h
  exact ⟨h1, h2.kept (row := none) ⟨hb.os, hb.tape, hb.output, hb.size, fun k hk _ => hb.block k hk⟩ (by cases hv : (Value.slice A n c).ownBlock <;> simp), fun a ha => K.below (h3 a ha) hb⟩

theorem Own.lt {α : Type} {K : RK α} {E : TypeId} {w : World} {B : Nat} {A : Option Addr} {n c : Nat} {l : List α} (h : Own K E w B A n c l) {b off : Nat} (hA : A = some ⟨b, off, none⟩) : B ≤ b ∧ b < w.heap.size := by
  subst hA
  exact h.2.1.lt b rfl

end Go.Proofs.Ytmlgahambecamaa
