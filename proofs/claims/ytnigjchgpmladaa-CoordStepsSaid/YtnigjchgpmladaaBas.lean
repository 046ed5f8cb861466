/- The words for memory that all chapters share: a row of cells, a slice that reads as a list, a slice of the call's own; of no function. The plain elements of slices: bytes, numbers, texts; and what a slice that was appended to owns. The text of a slice of bytes; of no function. A row of the call's own that is written in place: copy, clear, and what the row holds behind them; of no function. A row of the call's own: one element is set, one is put in. append of a slice that reads as a list, nil or not, to a row of the call's own; of no function. Rows of the call's own whose elements lead elsewhere: the cells alone; append of one element. -/
import Derived.Test.YtnigjchgpmladaaRows
import Derived.WalkKit
import Derived.WalkSpells
import Derived.WalkLawsBesides
import Derived.Lib.Hide
import Derived.StillTailTactics
import Derived.Deep.QuietTactic
import Derived.BigQuiet
import Derived.Lib.QuietBelow
import Derived.Deep.RegionHeld3
import Derived.Deep.AppendLies
import Derived.Deep.LoopGhost
import Derived.Lib.Walk
import Derived.Laws.BytesArg
import Derived.Lib.Strings
import Derived.Deep.RegionLaw
import Derived.Lib.SliceRun
import Derived.Lib.AppendZerosOnto
import Derived.Laws.IdiomCopy
import Derived.Lib.Overlaps
import Derived.Laws.Externs
import Derived.Maps.AppendAt
namespace Go.Proofs.Ytnigjchgpmladaa
open Go.RowKit

theorem setCell_drewN (w : World) (n : Nat) (a : Addr) (v : Value) : (w.drewN n).setCell a v = (w.setCell a v).drewN n := rfl
theorem alloc_drewN (w : World) (n : Nat) (o : Obj) : (w.drewN n).alloc o = (w.alloc o).drewN n := rfl
theorem below_drewN {B : Nat} {a w : World} (h : Below B a w) (n : Nat) : Below B a (w.drewN n) := ⟨h.os, h.tape, h.output, h.size, h.block⟩
theorem below_from {B : Nat} {w W w1 : World} (hb : Below W.heap.size W w1) (h : Below B w W) (hB : B ≤ W.heap.size) : Below B w w1 := h.trans (hb.mono hB)
theorem bcell {W w1 : World} (hb : Below W.heap.size W w1) : (∀ b o, b < W.heap.size → w1.cell? ⟨b, o, none⟩ = W.cell? ⟨b, o, none⟩) ∧ (∀ b o, b < W.heap.size → w1.frozen? ⟨b, o, none⟩ = W.frozen? ⟨b, o, none⟩) :=
  ⟨fun b o h => hb.cell (p := ⟨b, o, none⟩) h, fun b o h => hb.frozen (p := ⟨b, o, none⟩) h⟩
theorem below_alloc1 (w : World) (o : Obj) : Below w.heap.size w (w.alloc o) := (Below.refl _ _).alloc (Nat.le_refl _) o

/-- A callee that leaves the world alone, met in a quiet region. -/
theorem quiet_same {P : Program} {f : FuncId} {args : Array Value} {w : World} {n : Nat} {v : Value} (h : Calls P f args (w.drewN n) fun e w' => e = .returned v ∧ w.drewN n = w') :
    Calls P f args (w.drewN n) fun e w'' => e = .returned v ∧ ∃ m, w'' = w.drewN m := h.mono fun _ _ ⟨he, hm⟩ => ⟨he, n, hm.symm⟩
theorem ret_bool {a b : Bool} (h : a = b) : Ending.returned (.bool a) = .returned (.bool b) := by rw [h]
theorem ret_int {k : IntKind} {a b : Int} (h : a = b) : Ending.returned (.int k a) = .returned (.int k b) := by rw [h]

theorem quiet_mono {P : Program} {ops : Array Oper} {C : World → Prop} {Q Q' : Act → Prop} (h : ∀ a, Q a → Q' a) : ∀ (l : List Oper) (a : Act), wpQuiet P ops C Q l a → wpQuiet P ops C Q' l a
  | [], a, k => h a k
  | o :: rest, a, k => by
    unfold wpQuiet at k ⊢
    by_cases hw : Region.wanted o (yielded ops a.tmps) = true
    · rw [if_pos hw] at k ⊢
      obtain ⟨v, h1, h2⟩ := k
      exact ⟨v, h1, quiet_mono h rest _ h2⟩
    · rw [if_neg hw] at k ⊢
      exact quiet_mono h rest _ k
/-- A region that draws its order, reads old memory alone and calls what leaves old memory alone: walked once. -/
theorem region_below {P : Program} {id : Nat} {Q : Exit → Act → World → Prop} {a : Act} {w : World} {l : List Oper} (hm : P.follows .mixedOrders = true) (hB : Region.lexB .any l.toArray = true)
    (h : wpQuiet P l.toArray (fun w' => ∃ p : Regrown, w' = Go.Sort.grow (redrawn w p.d) p.os) (fun a' => ∀ w1, Below w.heap.size w w1 → Q .normal a' w1) l a) : (Code.region id l.toArray true).wp P Q a w :=
  wp_region_quiet_below hm hB (by
    refine quiet_mono (fun a' ha => ?_) l a h
    rintro w' ⟨p, rfl⟩
    exact ha _ (below_regrown w p.d p.os))
/-- A cell of an old block, in every world that such a region passes through. -/
theorem at_regrown {w : World} {a : Addr} {v : Value} (h : w.cell? a = some v) : ∀ d os, (Go.Sort.grow (redrawn w d) os).cell? a = some v := fun d os => cell_regrown h d os
theorem call_regrown {P : Program} {f : FuncId} {args : Array Value} {w : World} {d : Nat} {os : Array Obj} {v : Value}
    (h : ∀ w', Below w.heap.size w w' → Calls P f args w' fun e w'' => e = .returned v ∧ Below w'.heap.size w' w'') : Calls P f args (Go.Sort.grow (redrawn w d) os) fun e w'' => e = .returned v ∧ ∃ p : Regrown, w'' = Go.Sort.grow (redrawn w p.d) p.os :=
  Calls.regrown_of (h _ (below_regrown w d os))
theorem call_regrown_same {P : Program} {f : FuncId} {args : Array Value} {w : World} {d : Nat} {os : Array Obj} {v : Value}
    (h : ∀ w', Below w.heap.size w w' → Calls P f args w' fun e w'' => e = .returned v ∧ w' = w'') : Calls P f args (Go.Sort.grow (redrawn w d) os) fun e w'' => e = .returned v ∧ ∃ p : Regrown, w'' = Go.Sort.grow (redrawn w p.d) p.os :=
  (h _ (below_regrown w d os)).mono fun _ _ ⟨he, hw⟩ => ⟨he, ⟨⟨d, os⟩, hw.symm⟩⟩

/-- A box of the call's own, and what it holds. -/
structure Has (w : World) (g : Nat) (cs : Array Value) : Prop where
  cell : ∀ i, w.cell? ⟨g, i, none⟩ = cs[i]?
  free : ∀ i, w.frozen? ⟨g, i, none⟩ = false
  lt : g < w.heap.size
theorem Has.newAt (w : World) (cs : Array Value) (t : TypeId) {g : Nat} (hg : w.heap.size = g) : Has (w.alloc (.cells cs t)) g cs :=
  ⟨fun i => hg ▸ World.cell?_alloc_new w cs t i, fun i => World.frozen?_alloc_at (w := w) cs t g i hg.symm, by simp; omega⟩
theorem Has.below {w w' : World} {g : Nat} {cs : Array Value} (h : Has w g cs) {B : Nat} (hb : Below B w w') (hg : g < B) : Has w' g cs :=
  ⟨fun i => (hb.cell (p := ⟨g, i, none⟩) hg).trans (h.cell i), fun i => (hb.frozen (p := ⟨g, i, none⟩) hg).trans (h.free i), Nat.lt_of_lt_of_le h.lt hb.size⟩
theorem Has.past {w w' : World} {g : Nat} {cs : Array Value} (h : Has w g cs) (hb : Below w.heap.size w w') : Has w' g cs := h.below hb h.lt
theorem Has.alloc {w : World} {g : Nat} {cs : Array Value} (h : Has w g cs) (o : Obj) : Has (w.alloc o) g cs := h.past (below_alloc1 w o)

theorem Has.drew {w : World} {g : Nat} {cs : Array Value} (h : Has w g cs) : Has w.drew g cs := ⟨h.cell, h.free, h.lt⟩

/-- The cells from an address on are these. -/
def Row (w : World) (A : Option Addr) (cs : List Value) : Prop :=
  cs ≠ [] → ∃ b off, A = some ⟨b, off, none⟩ ∧ b < w.heap.size ∧ ∀ j, j < cs.length → w.cell? ⟨b, off + j, none⟩ = cs[j]?

theorem Row.nil (w : World) (A : Option Addr) : Row w A [] := fun h => absurd rfl h
theorem Row.below {w w' : World} {A : Option Addr} {cs : List Value} (h : Row w A cs) (hb : Below w.heap.size w w') : Row w' A cs := fun hne => by
  obtain ⟨b, off, rfl, hlt, hc⟩ := h hne
  exact ⟨b, off, rfl, Nat.lt_of_lt_of_le hlt hb.size, fun j hj => (hb.cell (p := ⟨b, off + j, none⟩) hlt).trans (hc j hj)⟩
theorem Row.take {w : World} {A : Option Addr} {cs : List Value} (h : Row w A cs) (m : Nat) : Row w A (cs.take m) := fun hne => by
  obtain ⟨b, off, rfl, hlt, hc⟩ := h (fun e => hne (by rw [e]; simp))
  exact ⟨b, off, rfl, hlt, fun j hj => by
    rw [List.length_take] at hj
    rw [hc j (by omega), List.getElem?_take, if_pos (by omega)]⟩
theorem Row.drop {w : World} {b off : Nat} {cs : List Value} (h : Row w (some ⟨b, off, none⟩) cs) (m : Nat) : Row w (some ⟨b, off + m, none⟩) (cs.drop m) := fun hne => by
  have hlen : m < cs.length := by
    apply Nat.lt_of_not_le; intro hle; exact hne (List.drop_eq_nil_of_le hle)
  obtain ⟨b', off', e, hlt, hc⟩ := h (fun e => hne (by rw [e]; simp))
  injection e with e; injection e with e1 e2 e3
  subst e1 e2
  exact ⟨b, off + m, rfl, hlt, fun j hj => by
    rw [List.length_drop] at hj
    rw [Nat.add_assoc, hc (m + j) (by omega), List.getElem?_drop]⟩
theorem Row.of_has {w : World} {g : Nat} {cs : Array Value} (h : Has w g cs) : Row w (some ⟨g, 0, none⟩) cs.toList := fun _ =>
  ⟨g, 0, rfl, h.lt, fun j hj => by rw [Nat.zero_add, h.cell]; simp⟩

theorem flat_get {α : Type} (f : α → List Value) (s : Nat) (hs : ∀ a, (f a).length = s) : ∀ (l : List α) (i k : Nat) (hi : i < l.length), k < s → (l.flatMap f)[i * s + k]? = (f l[i])[k]?
  | [], i, _, hi, _ => by simp at hi
  | a :: l, 0, k, _, hk => by
    rw [List.flatMap_cons, List.getElem?_append_left (by rw [hs]; omega)]
    simp
  | a :: l, i + 1, k, hi, hk => by
    rw [List.flatMap_cons, List.getElem?_append_right (by rw [hs, Nat.succ_mul]; omega), hs, show (i + 1) * s + k - s = i * s + k by rw [Nat.succ_mul]; omega, flat_get f s hs l i k (by simpa using hi) hk]
    simp
theorem flat_len {α : Type} (f : α → List Value) (s : Nat) (hs : ∀ a, (f a).length = s) (l : List α) : (l.flatMap f).length = l.length * s := by
  induction l with
  | nil => simp
  | cons a l ih => rw [List.flatMap_cons, List.length_append, hs, ih, List.length_cons, Nat.succ_mul]; omega
theorem flat_take {α : Type} (f : α → List Value) (s : Nat) (hs : ∀ a, (f a).length = s) : ∀ (l : List α) (i : Nat), (l.flatMap f).take (i * s) = (l.take i).flatMap f
  | [], i => by simp
  | a :: l, 0 => by simp
  | a :: l, i + 1 => by
    rw [List.take_succ_cons, List.flatMap_cons, List.flatMap_cons, List.take_append, hs, List.take_of_length_le (by rw [hs, Nat.succ_mul]; omega), show (i + 1) * s - s = i * s by rw [Nat.succ_mul]; omega, flat_take f s hs l i]
theorem flat_drop {α : Type} (f : α → List Value) (s : Nat) (hs : ∀ a, (f a).length = s) : ∀ (l : List α) (i : Nat), (l.flatMap f).drop (i * s) = (l.drop i).flatMap f
  | [], i => by simp
  | a :: l, 0 => by simp
  | a :: l, i + 1 => by
    rw [List.drop_succ_cons, List.flatMap_cons, List.drop_append, hs, List.drop_eq_nil_of_le (by rw [hs, Nat.succ_mul]; omega), show (i + 1) * s - s = i * s by rw [Nat.succ_mul]; omega, flat_drop f s hs l i]
    rfl

/-- What an element of a slice is: its cells, and what must lie in memory besides. -/
structure RK (α : Type) where
  size : Nat
  pos : 0 < size
  cells : α → List Value
  len : ∀ a, (cells a).length = size
  one : ∀ a, ∀ v ∈ cells a, v.oneCell' = true
  In : World → α → Prop
  below : ∀ {w w' : World} {a : α}, In w a → Below w.heap.size w w' → In w' a

theorem RK.flat_one {α : Type} (K : RK α) (l : List α) : ∀ v ∈ l.flatMap K.cells, v.oneCell' = true := fun v hv => by
  obtain ⟨a, _, ha⟩ := List.mem_flatMap.1 hv
  exact K.one a v ha

/-- A slice reads as a list. -/
structure Sl {α : Type} (K : RK α) (w : World) (A : Option Addr) (n c : Nat) (l : List α) : Prop where
  len : l.length = n
  cap : n ≤ c
  max : c ≤ 9223372036854775807
  adr : A = none → n = 0 ∧ c = 0
  row : Row w A (l.flatMap K.cells)
  each : ∀ a ∈ l, K.In w a

theorem Sl.nil {α : Type} (K : RK α) (w : World) : Sl K w none 0 0 [] := ⟨rfl, Nat.le_refl _, by omega, fun _ => ⟨rfl, rfl⟩, Row.nil _ _, by simp⟩
theorem Sl.below {α : Type} {K : RK α} {w w' : World} {A : Option Addr} {n c : Nat} {l : List α} (i : Sl K w A n c l) (hb : Below w.heap.size w w') : Sl K w' A n c l :=
  ⟨i.len, i.cap, i.max, i.adr, i.row.below hb, fun h hh => K.below (i.each h hh) hb⟩
theorem Sl.alloc {α : Type} {K : RK α} {w : World} {A : Option Addr} {n c : Nat} {l : List α} (i : Sl K w A n c l) (o : Obj) : Sl K (w.alloc o) A n c l := i.below (below_alloc1 w o)
theorem Sl.take {α : Type} {K : RK α} {w : World} {A : Option Addr} {n c : Nat} {l : List α} (i : Sl K w A n c l) (m : Nat) (hm : m ≤ n) : Sl K w A m c (l.take m) :=
  ⟨by rw [List.length_take, i.len]; omega, Nat.le_trans hm i.cap, i.max, (fun h => by have := i.adr h; omega),
   by rw [← flat_take K.cells K.size K.len]; exact i.row.take _, fun a ha => i.each a (List.mem_of_mem_take ha)⟩

/-- The cells of the k-th element. -/
theorem Sl.get {α : Type} {K : RK α} {w : World} {A : Option Addr} {n c k : Nat} {l : List α} (i : Sl K w A n c l) (hk : k < n) :
    ∃ b off, ∃ hl : k < l.length, A = some ⟨b, off, none⟩ ∧ b < w.heap.size ∧ ∀ j, j < K.size → w.cell? ⟨b, off + k * K.size + j, none⟩ = (K.cells l[k])[j]? := by
  have hl : k < l.length := by rw [i.len]; exact hk
  have hfl := flat_len K.cells K.size K.len l
  have hpos : k * K.size + K.size ≤ l.length * K.size := by rw [← Nat.succ_mul]; exact Nat.mul_le_mul_right _ hl
  have hp := K.pos
  obtain ⟨b, off, rfl, hlt, hc⟩ := i.row (fun h => by rw [h] at hfl; simp only [List.length_nil] at hfl; omega)
  exact ⟨b, off, hl, rfl, hlt, fun j hj => by rw [Nat.add_assoc, hc (k * K.size + j) (by omega), flat_get K.cells K.size K.len l k j hl hj]⟩

/-- A slice of the call's own (from block B on), that reads as a list: its row may be written. -/
def Own {α : Type} (K : RK α) (E : TypeId) (w : World) (B : Nat) (A : Option Addr) (n c : Nat) (l : List α) : Prop :=
  l.length = n ∧ w.ownsRow B E K.size (.slice A n c) n (l.flatMap K.cells) ∧ ∀ a ∈ l, K.In w a

theorem Own.sl {α : Type} {K : RK α} {E : TypeId} {w : World} {B : Nat} {A : Option Addr} {n c : Nat} {l : List α} (h : Own K E w B A n c l) : Sl K w A n c l := by
  obtain ⟨h1, h2, h3⟩ := h
  obtain ⟨h4, h5⟩ := h2
  rcases h5 with ⟨e, h0⟩ | ⟨g, cap, cur, e, hB, hg, hc1, hc2, hs, ht⟩
  · injection e with e1 e2 e3
    subst e1 e3 h0
    exact ⟨h1, Nat.le_refl _, by omega, fun _ => ⟨rfl, rfl⟩, by rw [List.length_eq_zero_iff.1 h1]; exact Row.nil _ _, h3⟩
  · injection e with e1 e2 e3
    subst e1 e3
    refine ⟨h1, hc1, by simpa [maxLen] using hc2, (fun h => by cases h), fun _ => ⟨g, 0, rfl, (Array.getElem?_eq_some_iff.1 hg).1, fun j hj => ?_⟩, h3⟩
    rw [Nat.zero_add, cell_of_row w g j cur E (0, 0) hg, ← ht, List.getElem?_take, if_pos (by rw [← h4]; exact hj)]
    simp

theorem Own.kept {α : Type} {K : RK α} {E : TypeId} {w w' : World} {B : Nat} {A : Option Addr} {n c : Nat} {l : List α} (h : Own K E w B A n c l) (hb : Below w.heap.size w w') : Own K E w' B A n c l := by
  obtain ⟨h1, h2, h3⟩ := h
  exact ⟨h1, h2.kept (row := none) ⟨hb.os, hb.tape, hb.output, hb.size, fun k hk _ => hb.block k hk⟩ (by cases hv : (Value.slice A n c).ownBlock <;> simp), fun a ha => K.below (h3 a ha) hb⟩

theorem Own.lt {α : Type} {K : RK α} {E : TypeId} {w : World} {B : Nat} {A : Option Addr} {n c : Nat} {l : List α} (h : Own K E w B A n c l) {b off : Nat} (hA : A = some ⟨b, off, none⟩) : B ≤ b ∧ b < w.heap.size := by
  subst hA
  exact h.2.1.lt b rfl

end Go.Proofs.Ytnigjchgpmladaa

namespace Go.Proofs.Ytnigjchgpmladaa
open Go.RowKit

def byteV (x : UInt8) : Value := .int .u8 x.toNat
def u8K : RK UInt8 := ⟨1, by decide, fun x => [byteV x], fun _ => rfl, fun _ v h => by simp at h; subst h; rfl, fun _ _ => True, fun _ _ => trivial⟩
def intK : RK Int := ⟨1, by decide, fun x => [.int .i64 x], fun _ => rfl, fun _ v h => by simp at h; subst h; rfl, fun _ x => (Lit.int .i64 x).wf = true, fun h _ => h⟩
def strK : RK ByteArray := ⟨1, by decide, fun x => [.string x], fun _ => rfl, fun _ v h => by simp at h; subst h; rfl, fun _ x => x.size ≤ maxLen, fun h _ => h⟩

theorem flat_u8 (l : List UInt8) : l.flatMap u8K.cells = l.map byteV := by
  induction l with
  | nil => rfl
  | cons a l ih => rw [List.flatMap_cons, ih]; rfl
theorem flat_int (l : List Int) : l.flatMap intK.cells = l.map (Value.int .i64) := by
  induction l with
  | nil => rfl
  | cons a l ih => rw [List.flatMap_cons, ih]; rfl

/-- The cells that an append hands on: those of a slice that reads as a list. -/
theorem Sl.news {α : Type} {K : RK α} {w : World} {a : Addr} {n c : Nat} {l : List α} (i : Sl K w (some a) n c l) : ∀ j u, (l.flatMap K.cells)[j]? = some u → w.cell? (a.add j) = some u := fun j u hu => by
  have hj : j < (l.flatMap K.cells).length := (List.getElem?_eq_some_iff.1 hu).1
  obtain ⟨b', off', e, _, hc⟩ := i.row (fun e => by rw [e] at hj; simp at hj)
  injection e with e
  subst e
  rw [Addr.add_lit, hc j hj, hu]
theorem Has.news {w : World} {g : Nat} {cs : List Value} (h : Has w g cs.toArray) : ∀ j u, cs[j]? = some u → w.cell? ((⟨g, 0, none⟩ : Addr).add j) = some u := fun j u hu => by
  rw [Addr.add_lit, Nat.zero_add, h.cell]; simpa using hu
theorem Sl.flat_len {α : Type} {K : RK α} {w : World} {A : Option Addr} {n c : Nat} {l : List α} (i : Sl K w A n c l) : (l.flatMap K.cells).length = n * K.size := by
  rw [Proofs.Ytnigjchgpmladaa.flat_len K.cells K.size K.len, i.len]

theorem Own.of_row {α : Type} {K : RK α} {E : TypeId} {w : World} {B : Nat} {A : Option Addr} {n c : Nat} {l : List α} (hn : l.length = n) (h : w.ownsRow B E K.size (.slice A n c) n (l.flatMap K.cells)) (hi : ∀ a ∈ l, K.In w a) : Own K E w B A n c l := ⟨hn, h, hi⟩

/-- A value that owns a row is a slice. -/
theorem owns_form {w : World} {B : Nat} {E : TypeId} {s : Nat} {v : Value} {n : Nat} {xs : List Value} (h : w.ownsRow B E s v n xs) : ∃ A c, v = .slice A n c := by
  rcases h.2 with ⟨rfl, rfl⟩ | ⟨g, cap, cur, rfl, _⟩
  · exact ⟨none, 0, rfl⟩
  · exact ⟨_, _, rfl⟩

end Go.Proofs.Ytnigjchgpmladaa

namespace Go.Proofs.Ytnigjchgpmladaa
open Go.RowKit

theorem getD_bytes (l : List UInt8) (i : Nat) (h : i < l.length) : (l.map fun x => (x.toNat : Int)).getD i 0 = (l[i].toNat : Int) := by
  rw [List.getD_eq_getElem?_getD, List.getElem?_map, List.getElem?_eq_getElem h]; rfl
theorem str_of_bytes (l : List UInt8) : strOfNums (l.map fun x => (x.toNat : Int)) = ⟨l.toArray⟩ := by
  unfold strOfNums
  rw [List.map_map]
  congr 1
  congr 1
  conv => rhs; rw [← List.map_id l]
  exact List.map_congr_left fun x _ => by simp
/-- 'string(b)'. -/
theorem conv_bs {P : Program} {w : World} {A : Option Addr} {n c : Nat} {l : List UInt8} (hl : Sl u8K w A n c l) (T : TypeId) (ht : P.underlying T = some (.slice 5)) (h5 : P.underlying 5 = some (.int .u8)) (h9 : P.underlying 9 = some .string) :
    (convert T 9 (.slice A n c)).run P w = .ok (.string ⟨l.toArray⟩) w := by
  by_cases h0 : n = 0
  · subst h0
    have := List.length_eq_zero_iff.1 hl.len
    subst this
    cases A with
    | none => exact run_convert_bytes_nil w T 5 ht h5 0 c 9 h9
    | some a =>
      rw [run_convert_bytes_string w T 9 5 _ 0 c ht h5 h9]
      have hld : (loadCells a 0).run P w = .ok #[] w := by simpa using run_loadCells_list (P := P) w a [] (by simp)
      simp [Conv.bytesToString, hld]
      rfl
  · obtain ⟨b, off, _, rfl, _, _⟩ := hl.get (show 0 < n by omega)
    rw [← str_of_bytes l]
    refine run_convert_bytes_arg w T 5 ht h5 b off n c _ (by rw [List.length_map, hl.len]) (fun i hi => ?_) 9 h9
    obtain ⟨b', off', hk, e, _, hc⟩ := hl.get hi
    injection e with e; injection e with e1 e2 e3
    subst e1 e2
    have := hc 0 (by decide)
    rw [getD_bytes l i hk]
    simpa [u8K, byteV] using this
theorem str_eq (a b : List UInt8) : ((⟨a.toArray⟩ : ByteArray) = ⟨b.toArray⟩) ↔ a = b := by simp

/-- How the walk spells a test of two texts. -/
theorem str_ne {a b : ByteArray} (h : ¬ a = b) : (a.toList == b.toList) = false := by
  rw [beq_eq_false_iff_ne]
  intro e
  rw [Lib.toList_data, Lib.toList_data] at e
  exact h (by cases a; cases b; simp at e; subst e; rfl)

theorem str_ne' {a b : ByteArray} (h : ¬ a = b) : ¬ a.toList = b.toList := by have := str_ne h; simpa using this

end Go.Proofs.Ytnigjchgpmladaa

namespace Go.Proofs.Ytnigjchgpmladaa
open Go.RowKit

/-- What a row holds behind a store of some cells. -/
def splice (L : List Value) (o : Nat) (vs : List Value) : List Value := L.take o ++ vs ++ L.drop (o + vs.length)
theorem splice_len {L : List Value} {o : Nat} {vs : List Value} (h : o + vs.length ≤ L.length) : (splice L o vs).length = L.length := by
  unfold splice; simp; omega
theorem splice_nil (L : List Value) (o : Nat) : splice L o [] = L := by unfold splice; simp
theorem splice_take {L : List Value} {o m : Nat} {vs : List Value} (h : o + vs.length ≤ L.length) (hm : m = o + vs.length) : (splice L o vs).take m = L.take o ++ vs := by
  subst hm
  unfold splice
  rw [List.append_assoc, List.take_append, List.length_take, List.take_of_length_le (by rw [List.length_take]; omega), Nat.min_eq_left (by omega), Nat.add_sub_cancel_left, List.take_append, List.take_of_length_le (Nat.le_refl _)]
  simp
theorem splice_before {L : List Value} {o m : Nat} {vs : List Value} (h : o ≤ L.length) (hm : m ≤ o) : (splice L o vs).take m = L.take m := by
  unfold splice
  rw [List.append_assoc, List.take_append, List.length_take, List.take_take, Nat.min_eq_left hm, show m - min o L.length = 0 by omega]
  simp
theorem splice_cons (L : List Value) (o : Nat) (v : Value) (vs : List Value) (h : o < L.length) : splice (L.set o v) (o + 1) vs = splice L o (v :: vs) := by
  unfold splice
  apply List.ext_getElem?
  intro i
  simp only [List.getElem?_append, List.length_append, List.length_take, List.length_cons, List.getElem?_take, List.length_set, List.getElem?_drop, List.getElem?_set]
  by_cases h1 : i < o
  · simp [h1, show i < min (o + 1) L.length by omega, show i < min o L.length by omega, show i < o + 1 by omega, show ¬ o = i by omega, show i < min (o + 1) L.length + vs.length by omega, show i < min o L.length + (vs.length + 1) by omega]
  · by_cases h2 : i = o
    · subst h2
      simp [h, show i < min (i + 1) L.length by omega, show ¬ i < min i L.length by omega, show i < min (i + 1) L.length + vs.length by omega, show i < min i L.length + (vs.length + 1) by omega, show i - min i L.length = 0 by omega]
    · by_cases h3 : i < o + 1 + vs.length
      · simp [show ¬ i < min (o + 1) L.length by omega, show ¬ i < min o L.length by omega, show i < min (o + 1) L.length + vs.length by omega, show i < min o L.length + (vs.length + 1) by omega, show i - min o L.length = (i - min (o + 1) L.length) + 1 by omega]
      · simp only [show ¬ i < min (o + 1) L.length by omega, show ¬ i < min o L.length by omega, show ¬ i < min (o + 1) L.length + vs.length by omega, show ¬ i < min o L.length + (vs.length + 1) by omega, if_false, show ¬ o = o + 1 + vs.length + (i - (min (o + 1) L.length + vs.length)) by omega]
        congr 1; omega

theorem splice_get {L : List Value} {o : Nat} {vs : List Value} (h : o + vs.length ≤ L.length) (t : Nat) : (splice L o vs)[t]? = if t < o then L[t]? else if t < o + vs.length then vs[t - o]? else L[t]? := by
  unfold splice
  have hm : min o L.length = o := by omega
  by_cases h1 : t < o
  · rw [if_pos h1, List.append_assoc, List.getElem?_append_left (by rw [List.length_take, hm]; exact h1), List.getElem?_take, if_pos h1]
  · rw [if_neg h1]
    by_cases h2 : t < o + vs.length
    · rw [if_pos h2, List.getElem?_append_left (by rw [List.length_append, List.length_take, hm]; exact h2), List.getElem?_append_right (by rw [List.length_take, hm]; omega), List.length_take, hm]
    · rw [if_neg h2, List.getElem?_append_right (by rw [List.length_append, List.length_take, hm]; omega), List.length_append, List.length_take, hm, List.getElem?_drop]
      congr 1; omega
/-- A row whose end was moved up, and into whose gap something was laid. -/
theorem splice_gap {L xs D ns : List Value} {a k n : Nat} (hL : n + k ≤ L.length) (hx : L.take n = xs) (ha : a ≤ n) (hD : D = xs.drop a) (hk : ns.length = k) :
    (splice (splice L (a + k) D) a ns).take (n + k) = xs.take a ++ ns ++ xs.drop a := by
  have hxl : xs.length = n := by rw [← hx, List.length_take]; omega
  have hDl : D.length = n - a := by rw [hD, List.length_drop, hxl]
  have f1 : a + k + D.length ≤ L.length := by omega
  have f2 : a + ns.length ≤ (splice L (a + k) D).length := by rw [splice_len f1]; omega
  have hxg : ∀ t, t < n → xs[t]? = L[t]? := fun t ht => by rw [← hx, List.getElem?_take, if_pos ht]
  apply List.ext_getElem?
  intro t
  rw [List.getElem?_take]
  by_cases ht : t < n + k
  · rw [if_pos ht, splice_get f2, splice_get f1, hk]
    by_cases h1 : t < a
    · rw [if_pos h1, if_pos (by omega), List.append_assoc, List.getElem?_append_left (by rw [List.length_take]; omega), List.getElem?_take, if_pos h1, hxg t (by omega)]
    · rw [if_neg h1]
      by_cases h2 : t < a + k
      · rw [if_pos h2, List.getElem?_append_left (by rw [List.length_append, List.length_take]; omega), List.getElem?_append_right (by rw [List.length_take]; omega), List.length_take, hxl, Nat.min_eq_left ha]
      · rw [if_neg h2, if_neg (by omega), if_pos (by omega), List.getElem?_append_right (by rw [List.length_append, List.length_take]; omega), List.length_append, List.length_take, hxl, Nat.min_eq_left ha, hD, hk]
  · rw [if_neg ht, List.getElem?_eq_none (by simp only [List.length_append, List.length_take, List.length_drop]; omega)]

theorem setCell_heap {w : World} {g o : Nat} {cur : Array Value} {t : TypeId} {fr : Nat × Nat} (hg : w.heap[g]? = some (.cells cur t fr)) (_ho : o < cur.size) (v : Value) :
    (w.setCell ⟨g, o, none⟩ v).heap[g]? = some (.cells (cur.setIfInBounds o v) t fr) := by
  simp [World.setCell, Array.getElem?_modify, hg]
theorem setCells_heap {g : Nat} {t : TypeId} {fr : Nat × Nat} : ∀ (vs : List Value) (o : Nat) (w : World) (cur : Array Value), w.heap[g]? = some (.cells cur t fr) → o + vs.length ≤ cur.size →
    (w.setCells g o vs).heap[g]? = some (.cells (splice cur.toList o vs).toArray t fr)
  | [], o, w, cur, hg, _ => by rw [splice_nil]; simpa [World.setCells] using hg
  | v :: vs, o, w, cur, hg, h => by
    rw [List.length_cons] at h
    rw [World.setCells, setCells_heap vs (o + 1) _ _ (setCell_heap hg (by omega) v) (by simp; omega)]
    rw [← splice_cons _ _ _ _ (by simpa using (show o < cur.size by omega))]
    simp
theorem setCell_size (w : World) (a : Addr) (v : Value) : (w.setCell a v).heap.size = w.heap.size := by simp [World.setCell]
theorem setCells_grown (g : Nat) : ∀ (vs : List Value) (o : Nat) (w : World), w.grownBy (w.setCells g o vs) (some g)
  | [], _, _ => ⟨rfl, rfl, rfl, Nat.le_refl _, fun _ _ _ => rfl⟩
  | v :: vs, o, w => by
    obtain ⟨h1, h2, h3, h4, h5⟩ := setCells_grown g vs (o + 1) (w.setCell ⟨g, o, none⟩ v)
    rw [setCell_size] at h4 h5
    exact ⟨h1, h2, h3, h4, fun k hk hne => (h5 k hk hne).trans (Below.heap_setCell w _ _ _ (fun e => hne (by rw [e])))⟩

theorem grown_trans {a b c : World} {g : Nat} (h : a.grownBy b (some g)) (k : b.grownBy c (some g)) : a.grownBy c (some g) :=
  ⟨k.os.trans h.os, k.tape.trans h.tape, k.output.trans h.output, Nat.le_trans h.size k.size, fun i hi hn => (k.block i (Nat.lt_of_lt_of_le hi h.size) hn).trans (h.block i hi hn)⟩
theorem grown_then {a b c : World} {r : Option Nat} (h : a.grownBy b r) (k : Below a.heap.size b c) : a.grownBy c r :=
  ⟨k.os.trans h.os, k.tape.trans h.tape, k.output.trans h.output, Nat.le_trans h.size k.size, fun i hi hn => (k.block i hi).trans (h.block i hi hn)⟩
theorem grown_drew {a b : World} {r : Option Nat} (h : a.grownBy b r) : a.grownBy b.drew r := ⟨h.os, h.tape, h.output, h.size, h.block⟩
theorem grown_refl (a : World) (r : Option Nat) : a.grownBy a r := ⟨rfl, rfl, rfl, Nat.le_refl _, fun _ _ _ => rfl⟩
theorem grown_of_below {a b : World} (h : Below a.heap.size a b) (r : Option Nat) : a.grownBy b r := ⟨h.os, h.tape, h.output, h.size, fun k hk _ => h.block k hk⟩
theorem grown_below {B : Nat} {a b : World} {r : Option Nat} (h : a.grownBy b r) (hB : B ≤ a.heap.size) (hr : ∀ k, r = some k → B ≤ k) : Below B a b := (Below.refl B a).grown h hB hr
/-- What lies in another block than the one that was written. -/
theorem Row.grown {w w' : World} {g b off : Nat} {cs : List Value} (h : Row w (some ⟨b, off, none⟩) cs) (hg : w.grownBy w' (some g)) (hne : b ≠ g) : Row w' (some ⟨b, off, none⟩) cs := fun hn => by
  obtain ⟨b', off', e, hlt, hc⟩ := h hn
  injection e with e; injection e with e1 e2 e3
  subst e1 e2
  exact ⟨b, off, rfl, Nat.lt_of_lt_of_le hlt hg.size, fun j hj => (hg.cell_far ⟨b, off + j, none⟩ hlt (by simpa using hne)).trans (hc j hj)⟩
theorem Has.grown {w w' : World} {g b : Nat} {cs : Array Value} (h : Has w b cs) (hg : w.grownBy w' (some g)) (hne : b ≠ g) : Has w' b cs :=
  ⟨fun i => (hg.cell_far ⟨b, i, none⟩ h.lt (by simpa using hne)).trans (h.cell i), fun i => (hg.frozen_far ⟨b, i, none⟩ h.lt (by simpa using hne)).trans (h.free i), Nat.lt_of_lt_of_le h.lt hg.size⟩

theorem run_copy_row {P : Program} (w : World) (dT sT ty elem : TypeId) (s b o dLen dCap : Nat) (a : Addr) (sLen sCap : Nat) (cs : List Value)
    (hu : P.underlying dT = some (.slice elem)) (hs : (P.info? elem).map (·.size) = some s) (hn : cs.length = Nat.min sLen dLen * s)
    (hsrc : ∀ j v, cs[j]? = some v → w.cell? (a.add j) = some v) (hc : ∀ j, j < cs.length → (w.cell? ⟨b, o + j, none⟩).isSome = true) (hf : ∀ j, j < cs.length → w.frozen? ⟨b, o + j, none⟩ = false) (h1 : ∀ v ∈ cs, v.oneCell' = true) :
    (Builtin.copy_ #[dT, sT] ty #[.slice (some ⟨b, o, none⟩) dLen dCap, .slice (some a) sLen sCap]).run P w = .ok (goInt (Nat.min sLen dLen)) (w.setCells b o cs) := by
  have hl := run_loadCells_list (P := P) w a cs hsrc
  have hst := run_storeCells_cells (P := P) b o cs 0 w (by simpa using hc) (by simpa using hf) h1
  cases hq : P.info? elem with
  | none => simp [hq] at hs
  | some i =>
    have hi : i.size = s := by simpa [hq] using hs
    rw [hn] at hl
    simp [Builtin.copy_, run_underlying hu, Builtin.lenOf, Builtin.firstCells, sizeOf, typeInfo, hq, hi, hl, hst]

/-- The cells of n zero values. -/
def zrow (z : Value) (n : Nat) : List Value := (Builtin.zeroCells z.cells n).toList
theorem zrow_len (z : Value) (n : Nat) : (zrow z n).length = n * z.cells.size := by unfold zrow; rw [Array.length_toList, size_zeroCells]
theorem zrow_one {z : Value} (n : Nat) (h : ∀ v ∈ z.cells, v.oneCell' = true) : ∀ v ∈ zrow z n, v.oneCell' = true := by
  intro v hv
  unfold zrow Builtin.zeroCells at hv
  simp only [Array.mem_toList_iff, Array.mem_map, Array.mem_range] at hv
  obtain ⟨i, hi, rfl⟩ := hv
  have hpos : 0 < z.cells.size := by
    apply Nat.pos_of_ne_zero; intro h0; rw [h0] at hi; simp at hi
  have hlt : i % z.cells.size < z.cells.size := Nat.mod_lt _ hpos
  rw [getElem!_pos z.cells _ hlt]
  exact h _ (Array.getElem_mem hlt)
theorem run_clear_row {P : Program} (w : World) (t e ty : TypeId) (z : Value) (ht : P.underlying t = some (.slice e)) (hv : ∀ w, (zeroValue e).run P w = .ok z w) (h1 : ∀ v ∈ z.cells, v.oneCell' = true) (b o n c : Nat) (hn : 0 < n)
    (hc : ∀ j, j < n * z.cells.size → (w.cell? ⟨b, o + j, none⟩).isSome = true) (hf : ∀ j, j < n * z.cells.size → w.frozen? ⟨b, o + j, none⟩ = false) :
    (Builtin.clear_ #[t] ty #[.slice (some ⟨b, o, none⟩) n c]).run P w = .ok (.tuple #[]) (w.setCells b o (zrow z n)) := by
  have hst := run_storeCells_cells (P := P) b o (zrow z n) 0 w (by rw [zrow_len]; simpa using hc) (by rw [zrow_len]; simpa using hf) (zrow_one n h1)
  simp only [Nat.add_zero] at hst
  obtain ⟨m, rfl⟩ : ∃ m, n = m + 1 := ⟨n - 1, by omega⟩
  unfold zrow at hst ⊢
  simp [Builtin.clear_, run_underlying ht, hv, hst]

/-- A row of the call's own, its block laid open. -/
theorem owns_open {w : World} {B : Nat} {E : TypeId} {s : Nat} {A : Option Addr} {n c : Nat} {xs : List Value} (h : w.ownsRow B E s (.slice A n c) n xs) (hn : 0 < n) :
    ∃ g cur, A = some ⟨g, 0, none⟩ ∧ B ≤ g ∧ g < w.heap.size ∧ w.heap[g]? = some (.cells cur E (0, 0)) ∧ n ≤ c ∧ c ≤ maxLen ∧ cur.size = c * s ∧ cur.toList.take (n * s) = xs := by
  rcases h.2 with ⟨_, h0⟩ | ⟨g, cap, cur, e, hB, hg, hc1, hc2, hs, ht⟩
  · omega
  · injection e with e1 e2 e3
    subst e1 e3
    exact ⟨g, cur, rfl, hB, (Array.getElem?_eq_some_iff.1 hg).1, hg, hc1, hc2, hs, ht⟩
theorem owns_mk {w : World} {B : Nat} {E : TypeId} {s g n c : Nat} {cur : Array Value} {xs : List Value} (hB : B ≤ g) (hg : w.heap[g]? = some (.cells cur E (0, 0))) (hc1 : n ≤ c) (hc2 : c ≤ maxLen) (hs : cur.size = c * s) (ht : cur.toList.take (n * s) = xs) :
    w.ownsRow B E s (.slice (some ⟨g, 0, none⟩) n c) n xs := by
  refine ⟨?_, .inr ⟨g, c, cur, rfl, hB, hg, hc1, hc2, hs, ht⟩⟩
  rw [← ht, List.length_take, Array.length_toList, hs]
  exact Nat.min_eq_left (Nat.mul_le_mul_right _ hc1)
theorem row_cell {w : World} {g : Nat} {cur : Array Value} {t : TypeId} (hg : w.heap[g]? = some (.cells cur t (0, 0))) (j : Nat) : w.cell? ⟨g, j, none⟩ = cur[j]? := cell_of_row w g j cur t (0, 0) hg
theorem row_free {w : World} {g : Nat} {cur : Array Value} {t : TypeId} (hg : w.heap[g]? = some (.cells cur t (0, 0))) (j : Nat) : w.frozen? ⟨g, j, none⟩ = false := frozen_of_row w g j cur t hg

theorem owns_base {w : World} {B B' : Nat} {E : TypeId} {s : Nat} {v : Value} {n : Nat} {xs : List Value} (h : w.ownsRow B E s v n xs) (hB : B' ≤ B) : w.ownsRow B' E s v n xs := by
  refine ⟨h.1, ?_⟩
  rcases h.2 with h | ⟨g, cap, cur, e, hb, r⟩
  · exact .inl h
  · exact .inr ⟨g, cap, cur, e, Nat.le_trans hB hb, r⟩
theorem Own.base {α : Type} {K : RK α} {E : TypeId} {w : World} {B B' : Nat} {A : Option Addr} {n c : Nat} {l : List α} (h : Own K E w B A n c l) (hB : B' ≤ B) : Own K E w B' A n c l := ⟨h.1, owns_base h.2.1 hB, h.2.2⟩
/-- A box that is written anew, whole. -/
theorem Has.set {w : World} {g : Nat} {cs : Array Value} (h : Has w g cs) (vs : List Value) (hv : vs.length = cs.size) : Has (w.setCells g 0 vs) g vs.toArray := by
  have hsome : ∀ j, j < vs.length → (w.cell? ⟨g, 0 + j, none⟩).isSome = true := fun j hj => by rw [Nat.zero_add, h.cell, Array.getElem?_eq_getElem (by omega)]; rfl
  refine ⟨fun i => ?_, fun i => by rw [World.frozen?_setCells]; exact h.free i, Nat.lt_of_lt_of_le h.lt (setCells_grown g vs 0 w).size⟩
  by_cases hi : i < vs.length
  · have := World.cell?_setCells_in g vs 0 w hsome i hi
    rw [Nat.zero_add] at this
    rw [this]; simp [hi]
  · rw [World.cell?_setCells_out g vs 0 w ⟨g, i, none⟩ (fun _ _ => .inr (by show 0 + vs.length ≤ i; omega)), h.cell, Array.getElem?_eq_none (by omega), Array.getElem?_eq_none (by simp; omega)]
/-- A box of which one cell is written anew. -/
theorem Has.setAt {w : World} {g : Nat} {cs : Array Value} (h : Has w g cs) (o : Nat) (v : Value) (ho : o < cs.size) : Has (w.setCell ⟨g, o, none⟩ v) g (cs.setIfInBounds o v) := by
  have hsome : ∀ j, j < [v].length → (w.cell? ⟨g, o + j, none⟩).isSome = true := fun j hj => by
    simp at hj; subst hj; rw [Nat.add_zero, h.cell, Array.getElem?_eq_getElem ho]; rfl
  refine ⟨fun i => ?_, fun i => ?_, Nat.lt_of_lt_of_le h.lt (setCells_grown g [v] o w).size⟩
  · by_cases hi : i = o
    · subst hi
      have := World.cell?_setCells_in g [v] i w hsome 0 (by simp)
      rw [Nat.add_zero] at this
      rw [show w.setCell ⟨g, i, none⟩ v = w.setCells g i [v] from rfl, this]
      simp [ho]
    · rw [show w.setCell ⟨g, o, none⟩ v = w.setCells g o [v] from rfl, World.cell?_setCells_out g [v] o w ⟨g, i, none⟩ (fun _ _ => by simp only [List.length_singleton]; omega), h.cell, Array.getElem?_setIfInBounds, if_neg (by omega)]
  · rw [show w.setCell ⟨g, o, none⟩ v = w.setCells g o [v] from rfl, World.frozen?_setCells]; exact h.free i
theorem Own.grown {α : Type} {K : RK α} {E : TypeId} {w w' : World} {B g : Nat} {A : Option Addr} {n c : Nat} {l : List α} (h : Own K E w B A n c l) (hg : w.grownBy w' (some g)) (hgB : g < B) (hin : ∀ a ∈ l, K.In w' a) : Own K E w' B A n c l := by
  refine ⟨h.1, h.2.1.kept hg ?_, hin⟩
  cases hv : (Value.slice A n c).ownBlock with
  | none => exact .inl rfl
  | some q => exact .inr (fun e => by injection e with e; have := (h.2.1.lt q hv).1; omega)
theorem Own.apart {α : Type} {K : RK α} {E : TypeId} {w w' : World} {B g : Nat} {A : Option Addr} {n c : Nat} {l : List α} (h : Own K E w B A n c l) (hg : w.grownBy w' (some g)) (hne : (Value.slice A n c).ownBlock ≠ some g) (hin : ∀ a ∈ l, K.In w' a) : Own K E w' B A n c l :=
  ⟨h.1, h.2.1.kept hg (.inr hne), hin⟩
theorem Sl.apart {α : Type} {K : RK α} {w w' : World} {row : Option Nat} {A : Option Addr} {n c : Nat} {l : List α} (h : Sl K w A n c l) (hg : w.grownBy w' row) (hne : ∀ b off, A = some ⟨b, off, none⟩ → some b ≠ row) (hin : ∀ a ∈ l, K.In w' a) : Sl K w' A n c l := by
  refine ⟨h.len, h.cap, h.max, h.adr, fun hn => ?_, hin⟩
  obtain ⟨b, off, rfl, hlt, hc⟩ := h.row hn
  exact ⟨b, off, rfl, Nat.lt_of_lt_of_le hlt hg.size, fun j hj => (hg.cell_far ⟨b, off + j, none⟩ hlt (hne b off rfl)).trans (hc j hj)⟩
/-- What was written in place lies from B on. -/
theorem owns_below {w w' : World} {B : Nat} {E : TypeId} {s : Nat} {v : Value} {n : Nat} {xs : List Value} (h : w.ownsRow B E s v n xs) (hg : w.grownBy w' v.ownBlock) (hB : B ≤ w.heap.size) : Below B w w' :=
  grown_below hg hB (fun k hk => (h.lt k hk).1)

end Go.Proofs.Ytnigjchgpmladaa

namespace Go.Proofs.Ytnigjchgpmladaa
open Go.RowKit

theorem splice_mid {L a z d vs : List Value} {N : Nat} (h : L.take N = a ++ z ++ d) (hv : vs.length = z.length) (hN : N ≤ L.length) : (splice L a.length vs).take N = a ++ vs ++ d := by
  have hl : a.length + z.length + d.length = N := by
    have := congrArg List.length h; simp at this; omega
  have e : L = (a ++ z) ++ (d ++ L.drop N) := by
    conv => lhs; rw [← List.take_append_drop N L, h]
    simp
  have t1 : L.take a.length = a := by rw [e, List.append_assoc, List.take_left]
  have t2 : L.drop (a.length + vs.length) = d ++ L.drop N := by
    conv => lhs; rw [e]
    exact List.drop_left' (by rw [List.length_append, hv])
  unfold splice
  rw [t1, t2, ← List.append_assoc]
  exact List.take_left' (by simp; omega)

theorem own_set {α : Type} {K : RK α} {E : TypeId} {w : World} {B : Nat} {A : Option Addr} {n c i : Nat} {l : List α} (h : Own K E w B A n c l) (hi : i < n) (x : α) (hx : K.In w x) (hin : ∀ w' a, K.In w a → K.In w' a) :
    ∃ g, A = some ⟨g, 0, none⟩ ∧ B ≤ g ∧ g < w.heap.size ∧ (∀ j, w.frozen? ⟨g, j, none⟩ = false) ∧ Own K E (w.setCells g (i * K.size) (K.cells x)) B A n c (l.take i ++ x :: l.drop (i + 1)) ∧ w.grownBy (w.setCells g (i * K.size) (K.cells x)) (some g) := by
  obtain ⟨g, cur, rfl, hB, hgl, hg, hnc, hcm, hcs, htk⟩ := owns_open h.2.1 (by omega)
  have hlen := h.1
  have hil : i < l.length := by omega
  have hfit : i * K.size + (K.cells x).length ≤ cur.size := by
    rw [K.len, hcs, ← Nat.succ_mul]; exact Nat.mul_le_mul_right _ (by omega)
  refine ⟨g, rfl, hB, hgl, fun j => row_free hg j, ⟨?_, ?_, ?_⟩, setCells_grown g _ _ w⟩
  · rw [List.length_append, List.length_cons, List.length_take, List.length_drop]; omega
  · have hg2 := setCells_heap (K.cells x) (i * K.size) w cur hg hfit
    refine owns_mk hB hg2 hnc hcm (by rw [List.size_toArray, splice_len (by rw [Array.length_toList]; exact hfit), Array.length_toList, hcs]) ?_
    have e0 : l = l.take i ++ (l[i] :: l.drop (i + 1)) := by rw [List.getElem_cons_drop, List.take_append_drop]
    have e1 : ((l.take i).flatMap K.cells).length = i * K.size := by rw [flat_len K.cells K.size K.len, List.length_take, Nat.min_eq_left (by omega)]
    have htk' : cur.toList.take (n * K.size) = (l.take i).flatMap K.cells ++ K.cells l[i] ++ (l.drop (i + 1)).flatMap K.cells := by
      rw [htk]
      conv => lhs; rw [e0]
      rw [List.flatMap_append, List.flatMap_cons, List.append_assoc]
    have := splice_mid (vs := K.cells x) htk' (by rw [K.len, K.len]) (by rw [Array.length_toList, hcs]; exact Nat.mul_le_mul_right _ hnc)
    rw [e1] at this
    rw [List.toList_toArray, this, List.flatMap_append, List.flatMap_cons, List.append_assoc]
  · intro a ha
    rcases List.mem_append.1 ha with ha | ha
    · exact hin _ _ (h.2.2 a (List.mem_of_mem_take ha))
    · rcases List.mem_cons.1 ha with rfl | ha
      · exact hin _ _ hx
      · exact hin _ _ (h.2.2 a (List.mem_of_mem_drop ha))
/-- What a row reads as, where one was put in. -/
theorem own_ins {α : Type} {K : RK α} {E : TypeId} {w w' : World} {B : Nat} {A A' : Option Addr} {n c c' i : Nat} {l : List α} (h : Own K E w B A n c l) (hi : i ≤ n) (x : α) (hx : K.In w x) (hin : ∀ w' a, K.In w a → K.In w' a)
    (ho : w'.ownsRow B E K.size (.slice A' (n + 1) c') (n + 1) ((l.flatMap K.cells).take (i * K.size) ++ K.cells x ++ (l.flatMap K.cells).drop (i * K.size))) : Own K E w' B A' (n + 1) c' (l.take i ++ x :: l.drop i) := by
  have hlen := h.1
  refine ⟨?_, ?_, ?_⟩
  · rw [List.length_append, List.length_cons, List.length_take, List.length_drop]; omega
  · rw [List.flatMap_append, List.flatMap_cons, ← List.append_assoc, ← flat_take K.cells K.size K.len, ← flat_drop K.cells K.size K.len]
    exact ho
  · intro a ha
    rcases List.mem_append.1 ha with ha | ha
    · exact hin _ _ (h.2.2 a (List.mem_of_mem_take ha))
    · rcases List.mem_cons.1 ha with rfl | ha
      · exact hin _ _ hx
      · exact hin _ _ (h.2.2 a (List.mem_of_mem_drop ha))

/-- A box beside a row that grew. -/
theorem Has.beside {w w' : World} {b : Nat} {cs : Array Value} {r : Option Nat} (h : Has w b cs) (hg : w.grownBy w' r) (hne : some b ≠ r) : Has w' b cs :=
  ⟨fun i => (hg.cell_far ⟨b, i, none⟩ h.lt hne).trans (h.cell i), fun i => (hg.frozen_far ⟨b, i, none⟩ h.lt hne).trans (h.free i), Nat.lt_of_lt_of_le h.lt hg.size⟩

end Go.Proofs.Ytnigjchgpmladaa

namespace Go.Proofs.Ytnigjchgpmladaa
open Go.RowKit

theorem run_append_none {P : Program} (w : World) (t ty e : TypeId) (i : TypeInfo) (ht : P.underlying t = some (.slice e)) (hi : P.info? e = some i) (A : Option Addr) (n c : Nat) (hnc : n ≤ c) :
    (Builtin.append_ #[t, t] ty #[.slice A n c, .slice none 0 0]).run P w = .ok (.slice A n c) w := by
  cases A <;> simp [Builtin.append_, run_underlying ht, Builtin.firstCells, Builtin.lenOf, sizeOf, typeInfo, hi, hnc, storeCells]

theorem wpList_append_sl {α : Type} {K : RK α} {P : Program} (w : World) {ops : Array Oper} {rest : List Oper} {o : Oper} {a : Act} {Q : Exit → Act → World → Prop} (hgd : o.guard = none) (s x : Operand) (t : TypeId)
    (ho : o.op = .call { callee := .builtin .append, args := #[s, x], argTypes := #[t, t] })
    (base : Nat) (e : TypeId) (i : TypeInfo) (z : Value) (bytes : Nat) (ht : P.underlying t = some (.slice e)) (hi : P.info? e = some i) (hz : i.zero = some z)
    (hsize : i.size = K.size) (hby : i.bytes = bytes) (hzs : z.cells.size = K.size)
    (A0 : Option Addr) (n c : Nat) (xs : List Value) (hs : a.eval s = .slice A0 n c) (hown : w.ownsRow base e K.size (.slice A0 n c) n xs)
    (A : Option Addr) (m cm : Nat) (l : List α) (hx : a.eval x = .slice A m cm) (hsl : Sl K w A m cm l)
    (h63 : n + m ≤ maxLen) (hbytes : (n + m) * bytes ≤ 140737488355328) (hbase : base ≤ w.heap.size)
    (h : ∀ A' c' w', w'.ownsRow base e K.size (.slice A' (n + m) c') (n + m) (xs ++ l.flatMap K.cells) → w.grownBy w' (Value.slice A0 n c).ownBlock →
      ((Value.slice A' (n + m) c').ownBlock = (Value.slice A0 n c).ownBlock ∨ (Value.slice A' (n + m) c').ownBlock = some w.heap.size) → wpList P ops Q rest (a.put o.dst (.slice A' (n + m) c')) w') :
    wpList P ops Q (o :: rest) a w := by
  cases A with
  | none =>
    obtain ⟨rfl, rfl⟩ := hsl.adr rfl
    obtain rfl : l = [] := List.length_eq_zero_iff.1 hsl.len
    have hnc : n ≤ c := by
      rcases hown.2 with ⟨e1, h0⟩ | ⟨g, cap, cur, e1, _, _, h6, _⟩
      · omega
      · injection e1 with _ _ e3; omega
    refine wpList_plain hgd fun Kn hK => ?_
    unfold Oper.wp execOp
    simp only [ho, resolve, invoke, builtin, Sem.run_bind, Sem.run_pure, Result.andThen_ok, List.map_toArray, List.map_cons, List.map_nil, hs, hx, run_append_none w t o.type e i ht hi A0 n c hnc]
    refine hK _ _ ?_
    have := h A0 c w (by simpa using hown) ⟨rfl, rfl, rfl, Nat.le_refl _, fun _ _ _ => rfl⟩ (.inl rfl)
    simpa using this
  | some ad =>
    refine wpList_append_own_at w hgd s x t ho base e i z K.size bytes ht hi hz hsize hby hzs K.pos (.slice A0 n c) n xs hs hown ad m cm (l.flatMap K.cells) hx hsl.flat_len hsl.news (RK.flat_one K l) h63 hbytes hbase ?_
    intro v' w' h2 h3 _ h5
    obtain ⟨A', n2, c', rfl⟩ : ∃ A' n2 c', v' = .slice A' n2 c' := by obtain ⟨A', c', e⟩ := owns_form h2; exact ⟨A', _, c', e⟩
    have hn2 : n2 = n + m := by
      rcases h2.2 with ⟨e1, h0⟩ | ⟨g, cap, cur, e1, _, _, h6, _⟩
      · injection e1 with _ e3 _; omega
      · injection e1 with _ e3 _
    subst hn2
    exact h A' c' w' h2 h3 h5

/-- append of one element, out of a box of its own, to a row of the call's own. -/
theorem wpList_app1 {α : Type} {K : RK α} {P : Program} (w : World) {ops : Array Oper} {rest : List Oper} {o : Oper} {a : Act} {Q : Exit → Act → World → Prop} (hgd : o.guard = none) (s x : Operand) (t : TypeId)
    (ho : o.op = .call { callee := .builtin .append, args := #[s, x], argTypes := #[t, t] })
    (base : Nat) (e : TypeId) (i : TypeInfo) (z : Value) (bytes : Nat) (ht : P.underlying t = some (.slice e)) (hi : P.info? e = some i) (hz : i.zero = some z)
    (hsize : i.size = K.size) (hby : i.bytes = bytes) (hzs : z.cells.size = K.size)
    (A : Option Addr) (n c : Nat) (l : List α) (hs : a.eval s = .slice A n c) (hown : Own K e w base A n c l)
    (g : Nat) (hx : a.eval x = .slice (some ⟨g, 0, none⟩) 1 1) (y : α) (hg : ∀ j, j < K.size → w.cell? ⟨g, j, none⟩ = (K.cells y)[j]?) (hy : K.In w y) (hin : ∀ w' a, K.In w a → K.In w' a)
    (hmax : n + 1 ≤ maxLen) (hbytes : (n + 1) * bytes ≤ 140737488355328) (hbase : base ≤ w.heap.size)
    (h : ∀ A' c' w', Own K e w' base A' (n + 1) c' (l ++ [y]) → w.grownBy w' (Value.slice A n c).ownBlock →
      ((Value.slice A' (n + 1) c').ownBlock = (Value.slice A n c).ownBlock ∨ (Value.slice A' (n + 1) c').ownBlock = some w.heap.size) → wpList P ops Q rest (a.put o.dst (.slice A' (n + 1) c')) w') :
    wpList P ops Q (o :: rest) a w := by
  refine wpList_append_own_at w hgd s x t ho base e i z K.size bytes ht hi hz hsize hby hzs K.pos (.slice A n c) n _ hs hown.2.1 ⟨g, 0, none⟩ 1 1 (K.cells y) hx (by rw [K.len, Nat.one_mul]) ?_ (K.one y) hmax hbytes hbase ?_
  · intro j u hu
    have hj : j < K.size := by have := (List.getElem?_eq_some_iff.1 hu).1; rwa [K.len] at this
    rw [Addr.add_lit, Nat.zero_add, hg j hj, hu]
  intro v' w' h2 h3 _ h5
  obtain ⟨A', n2, c', rfl⟩ : ∃ A' n2 c', v' = .slice A' n2 c' := by obtain ⟨A', c', e⟩ := owns_form h2; exact ⟨A', _, c', e⟩
  have hn2 : n2 = n + 1 := by
    rcases h2.2 with ⟨e1, h0⟩ | ⟨g, cap, cur, e1, _, _, h6, _⟩
    · injection e1 with _ e3 _; omega
    · injection e1 with _ e3 _
  subst hn2
  refine h A' c' w' ⟨by rw [List.length_append, hown.1]; rfl, ?_, fun b hb => ?_⟩ h3 h5
  · rw [List.flatMap_append, List.flatMap_cons, List.flatMap_nil, List.append_nil]; exact h2
  · rcases List.mem_append.1 hb with hb | hb
    · exact hin _ _ (hown.2.2 b hb)
    · simp only [List.mem_singleton] at hb; subst hb; exact hin _ _ hy

end Go.Proofs.Ytnigjchgpmladaa

namespace Go.Proofs.Ytnigjchgpmladaa
open Go.RowKit

/-- A row of the call's own: its cells alone. -/
def ROwn {α : Type} (K : RK α) (E : TypeId) (w : World) (B : Nat) (A : Option Addr) (n c : Nat) (l : List α) : Prop := l.length = n ∧ w.ownsRow B E K.size (.slice A n c) n (l.flatMap K.cells)
theorem ROwn.nil {α : Type} (K : RK α) (E : TypeId) (w : World) (B : Nat) : ROwn K E w B none 0 0 [] := ⟨rfl, World.ownsRow_nil _ _ _ _⟩
theorem ROwn.own {α : Type} {K : RK α} {E : TypeId} {w : World} {B : Nat} {A : Option Addr} {n c : Nat} {l : List α} (h : ROwn K E w B A n c l) (hi : ∀ a ∈ l, K.In w a) : Own K E w B A n c l := ⟨h.1, h.2, hi⟩
theorem Own.rown {α : Type} {K : RK α} {E : TypeId} {w : World} {B : Nat} {A : Option Addr} {n c : Nat} {l : List α} (h : Own K E w B A n c l) : ROwn K E w B A n c l := ⟨h.1, h.2.1⟩
theorem ROwn.kept {α : Type} {K : RK α} {E : TypeId} {w w' : World} {B : Nat} {A : Option Addr} {n c : Nat} {l : List α} (h : ROwn K E w B A n c l) (hb : Below w.heap.size w w') : ROwn K E w' B A n c l :=
  ⟨h.1, h.2.kept (row := none) ⟨hb.os, hb.tape, hb.output, hb.size, fun k hk _ => hb.block k hk⟩ (by cases hv : (Value.slice A n c).ownBlock <;> simp)⟩
theorem ROwn.apart {α : Type} {K : RK α} {E : TypeId} {w w' : World} {B : Nat} {A : Option Addr} {n c : Nat} {l : List α} {r : Option Nat} (h : ROwn K E w B A n c l) (hg : w.grownBy w' r) (hne : ∀ b, (Value.slice A n c).ownBlock = some b → r ≠ some b) : ROwn K E w' B A n c l := by
  refine ⟨h.1, h.2.kept hg ?_⟩
  cases hv : (Value.slice A n c).ownBlock with
  | none => exact .inl rfl
  | some q => exact .inr (fun e => hne q hv e.symm)
theorem ROwn.grown {α : Type} {K : RK α} {E : TypeId} {w w' : World} {B g : Nat} {A : Option Addr} {n c : Nat} {l : List α} (h : ROwn K E w B A n c l) (hg : w.grownBy w' (some g)) (hgB : g < B) : ROwn K E w' B A n c l :=
  h.apart hg (fun b hb e => by injection e with e; have := (h.2.lt b hb).1; omega)
theorem ROwn.base {α : Type} {K : RK α} {E : TypeId} {w : World} {B B' : Nat} {A : Option Addr} {n c : Nat} {l : List α} (h : ROwn K E w B A n c l) (hB : B' ≤ B) : ROwn K E w B' A n c l := ⟨h.1, owns_base h.2 hB⟩

theorem wpList_app1R {α : Type} {K : RK α} {P : Program} (w : World) {ops : Array Oper} {rest : List Oper} {o : Oper} {a : Act} {Q : Exit → Act → World → Prop} (hgd : o.guard = none) (s x : Operand) (t : TypeId)
    (ho : o.op = .call { callee := .builtin .append, args := #[s, x], argTypes := #[t, t] })
    (base : Nat) (e : TypeId) (i : TypeInfo) (z : Value) (bytes : Nat) (ht : P.underlying t = some (.slice e)) (hi : P.info? e = some i) (hz : i.zero = some z)
    (hsize : i.size = K.size) (hby : i.bytes = bytes) (hzs : z.cells.size = K.size)
    (A : Option Addr) (n c : Nat) (l : List α) (hs : a.eval s = .slice A n c) (hown : ROwn K e w base A n c l)
    (g : Nat) (hx : a.eval x = .slice (some ⟨g, 0, none⟩) 1 1) (y : α) (hg : ∀ j, j < K.size → w.cell? ⟨g, j, none⟩ = (K.cells y)[j]?)
    (hmax : n + 1 ≤ maxLen) (hbytes : (n + 1) * bytes ≤ 140737488355328) (hbase : base ≤ w.heap.size)
    (h : ∀ A' c' w', ROwn K e w' base A' (n + 1) c' (l ++ [y]) → w.grownBy w' (Value.slice A n c).ownBlock →
      ((Value.slice A' (n + 1) c').ownBlock = (Value.slice A n c).ownBlock ∨ (Value.slice A' (n + 1) c').ownBlock = some w.heap.size) → wpList P ops Q rest (a.put o.dst (.slice A' (n + 1) c')) w') :
    wpList P ops Q (o :: rest) a w := by
  refine wpList_append_own_at w hgd s x t ho base e i z K.size bytes ht hi hz hsize hby hzs K.pos (.slice A n c) n _ hs hown.2 ⟨g, 0, none⟩ 1 1 (K.cells y) hx (by rw [K.len, Nat.one_mul]) ?_ (K.one y) hmax hbytes hbase ?_
  · intro j u hu
    have hj : j < K.size := by have := (List.getElem?_eq_some_iff.1 hu).1; rwa [K.len] at this
    rw [Addr.add_lit, Nat.zero_add, hg j hj, hu]
  intro v' w' h2 h3 _ h5
  obtain ⟨A', n2, c', rfl⟩ : ∃ A' n2 c', v' = .slice A' n2 c' := by obtain ⟨A', c', e⟩ := owns_form h2; exact ⟨A', _, c', e⟩
  have hn2 : n2 = n + 1 := by
    rcases h2.2 with ⟨e1, h0⟩ | ⟨g, cap, cur, e1, _, _, h6, _⟩
    · injection e1 with _ e3 _; omega
    · injection e1 with _ e3 _
  subst hn2
  refine h A' c' w' ⟨by rw [List.length_append, hown.1]; rfl, ?_⟩ h3 h5
  rw [List.flatMap_append, List.flatMap_cons, List.flatMap_nil, List.append_nil]; exact h2

end Go.Proofs.Ytnigjchgpmladaa
