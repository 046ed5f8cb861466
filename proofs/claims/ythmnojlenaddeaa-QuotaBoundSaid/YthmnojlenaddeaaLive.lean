/- The document's example of layer 20 holds. -/
import Derived.Test.YthmnojlenaddeaaAny
namespace Go.Proofs.Ythmnojlenaddeaa
open Go.RowKit Q

theorem live_new (w : World) : Calls Try.prog 12 #[.agg #[.string ⟨#[119]⟩, .int .i64 10, .int .i64 100], .int .i64 0] w fun e w' =>
    e = .returned (.tuple #[.agg #[.string ⟨#[119]⟩, .int .i64 10, .int .i64 100, .int .i64 100, .int .i64 0], .int .i64 0]) ∧ Below w.heap.size w w' := new_ok ⟨#[119]⟩ 10 100 0 w (by decide)
theorem live_take (w : World) : Calls Try.prog 20 #[.agg #[.string ⟨#[119]⟩, .int .i64 10, .int .i64 100, .int .i64 100, .int .i64 0], .int .i64 2, .int .i64 130] w fun e w' =>
    e = .returned (.tuple #[.agg #[.string ⟨#[119]⟩, .int .i64 10, .int .i64 100, .int .i64 (-30), .int .i64 2], .int .i64 3, .int .i64 0]) ∧ Below w.heap.size w w' := take_in ⟨#[119]⟩ 10 100 100 0 2 130 w (by decide) (by decide) (by decide) (by decide) (by decide) (by decide)
theorem live_fill (w : World) : Calls Try.prog 18 #[.agg #[.string ⟨#[119]⟩, .int .i64 10, .int .i64 100, .int .i64 (-30), .int .i64 2], .int .i64 5] w fun e w' =>
    e = .returned (.tuple #[.agg #[.string ⟨#[119]⟩, .int .i64 10, .int .i64 100, .int .i64 0, .int .i64 5], .int .i64 0]) ∧ Below w.heap.size w w' := fill_ok ⟨#[119]⟩ 10 100 (-30) 2 5 w (by decide)
theorem live_back (w : World) : Calls Try.prog 18 #[.agg #[.string ⟨#[119]⟩, .int .i64 10, .int .i64 100, .int .i64 (-30), .int .i64 2], .int .i64 1] w fun e w' =>
    e = .returned (.tuple #[.agg #[.string ⟨#[]⟩, .int .i64 0, .int .i64 0, .int .i64 0, .int .i64 0], .int .i64 71]) ∧ Below w.heap.size w w' := fill_err ⟨#[119]⟩ 10 100 (-30) 2 1 w (by decide)
theorem live_set (w : World) : Calls Try.prog 14 #[.agg #[.string ⟨#[119]⟩, .int .i64 10, .int .i64 100, .int .i64 0, .int .i64 5], .agg #[.string ⟨#[119]⟩, .int .i64 1, .int .i64 5], .int .i64 6] w fun e w' =>
    e = .returned (.tuple #[.agg #[.string ⟨#[119]⟩, .int .i64 1, .int .i64 5, .int .i64 5, .int .i64 6], .int .i64 0]) ∧ Below w.heap.size w w' := set_ok ⟨#[119]⟩ 10 100 0 5 1 5 6 w (by decide) (by decide) (by decide) (by decide)

/-- A box of the call's own, and what it holds. -/
structure Has (w : World) (g : Nat) (cs : Array Value) : Prop where
  cell : ∀ i, w.cell? ⟨g, i, none⟩ = cs[i]?
  lt : g < w.heap.size
theorem Has.new (w : World) (cs : Array Value) (t : TypeId) : Has (w.alloc (.cells cs t)) w.heap.size cs := ⟨fun i => World.cell?_alloc_new w cs t i, by simp⟩
theorem Has.newAt (w : World) (cs : Array Value) (t : TypeId) {g : Nat} (hg : w.heap.size = g) : Has (w.alloc (.cells cs t)) g cs := hg ▸ Has.new w cs t
theorem Has.alloc {w : World} {g : Nat} {cs : Array Value} (h : Has w g cs) (o : Obj) : Has (w.alloc o) g cs := ⟨fun i => (World.cell?_alloc_lt w o _ h.lt).trans (h.cell i), by simp; exact Nat.lt_succ_of_lt h.lt⟩
theorem Has.below {w w' : World} {g : Nat} {cs : Array Value} (hb : Below w.heap.size w w') (h : Has w g cs) : Has w' g cs := ⟨fun i => (hb.cell (p := ⟨g, i, none⟩) h.lt).trans (h.cell i), Nat.lt_of_lt_of_le h.lt hb.size⟩

theorem kept_alloc {w : World} {g : Nat} {cs : Array Value} {o : Obj} (h : ∀ i, w.cell? ⟨g, i, none⟩ = cs[i]?) (hg : g < w.heap.size) : ∀ i, (w.alloc o).cell? ⟨g, i, none⟩ = cs[i]? :=
  fun i => (World.cell?_alloc_lt w o _ hg).trans (h i)
theorem kept_below {w w' : World} {g B : Nat} {cs : Array Value} (hb : Below B w w') (h : ∀ i, w.cell? ⟨g, i, none⟩ = cs[i]?) (hg : g < B) : ∀ i, w'.cell? ⟨g, i, none⟩ = cs[i]? :=
  fun i => (hb.cell (p := ⟨g, i, none⟩) hg).trans (h i)
theorem new_box (w : World) (cs : Array Value) (t : TypeId) : ∀ i, (w.alloc (.cells cs t)).cell? ⟨w.heap.size, i, none⟩ = cs[i]? := fun i => World.cell?_alloc_new w cs t i

set_option maxHeartbeats 2000000 in
theorem live_any (w : World) : Calls Try.prog 11 #[] w fun e w' => e = .returned (.bool true) ∧ Below w.heap.size w w' := by
  go_enter Try.func11, Try.ntmps11
  go_wp2_with fail
  refine (live_new _).mono ?_
  rintro e w1 ⟨rfl, hb1⟩
  go_wp2_with fail
  have k1 := new_box w1 #[.string ⟨#[119]⟩, .int .i64 10, .int .i64 100, .int .i64 100, .int .i64 0] 23
  refine (live_take _).mono ?_
  rintro e w2 ⟨rfl, hb2⟩
  have z2 := hb2.size
  simp at z2
  have n12 : w1.heap.size < w2.heap.size := by omega
  have k12 := kept_below hb2 k1 (by simp)
  go_wp2_with fail
  have k3 := new_box w2 #[.string ⟨#[119]⟩, .int .i64 10, .int .i64 100, .int .i64 (-30), .int .i64 2] 23
  have k13 := kept_alloc (o := .cells #[.string ⟨#[119]⟩, .int .i64 10, .int .i64 100, .int .i64 (-30), .int .i64 2] 23) k12 (by omega)
  refine (live_fill _).mono ?_
  rintro e w3 ⟨rfl, hb3⟩
  have z3 := hb3.size
  simp at z3
  have n13 : w1.heap.size < w3.heap.size := by omega
  have n23 : w2.heap.size < w3.heap.size := by omega
  have k33 := kept_below hb3 k3 (by simp)
  have k133 := kept_below hb3 k13 (by simp; omega)
  go_wp2_with fail
  have k6 := new_box w3 #[.string ⟨#[119]⟩, .int .i64 10, .int .i64 100, .int .i64 0, .int .i64 5] 23
  have k134 := kept_alloc (o := .cells #[.string ⟨#[119]⟩, .int .i64 10, .int .i64 100, .int .i64 0, .int .i64 5] 23) k133 (by omega)
  have k34 := kept_alloc (o := .cells #[.string ⟨#[119]⟩, .int .i64 10, .int .i64 100, .int .i64 0, .int .i64 5] 23) k33 (by omega)
  refine (live_set _).mono ?_
  rintro e w4 ⟨rfl, hb4⟩
  have z4 := hb4.size
  simp at z4
  have n14 : w1.heap.size < w4.heap.size := by omega
  have n24 : w2.heap.size < w4.heap.size := by omega
  have n34 : w3.heap.size < w4.heap.size := by omega
  have k64 := kept_below hb4 k6 (by simp)
  have k35 := kept_below hb4 k34 (by simp; omega)
  have k135 := kept_below hb4 k134 (by simp; omega)
  clear k1 k12 k13 k133 k134 k3 k33 k34 k6
  go_wp2_with fail
  have k8 := new_box w4 #[.string ⟨#[119]⟩, .int .i64 1, .int .i64 5, .int .i64 5, .int .i64 6] 23
  have k65 := kept_alloc (o := .cells #[.string ⟨#[119]⟩, .int .i64 1, .int .i64 5, .int .i64 5, .int .i64 6] 23) k64 (by omega)
  have k36 := kept_alloc (o := .cells #[.string ⟨#[119]⟩, .int .i64 1, .int .i64 5, .int .i64 5, .int .i64 6] 23) k35 (by omega)
  have k136 := kept_alloc (o := .cells #[.string ⟨#[119]⟩, .int .i64 1, .int .i64 5, .int .i64 5, .int .i64 6] 23) k135 (by omega)
  refine (live_back _).mono ?_
  rintro e w5 ⟨rfl, hb5⟩
  have z5 := hb5.size
  simp at z5
  have n15 : w1.heap.size < w5.heap.size := by omega
  have n25 : w2.heap.size < w5.heap.size := by omega
  have n35 : w3.heap.size < w5.heap.size := by omega
  have n45 : w4.heap.size < w5.heap.size := by omega
  have k87 := kept_below hb5 k8 (by simp)
  have k67 := kept_below hb5 k65 (by simp; omega)
  have k37 := kept_below hb5 k36 (by simp; omega)
  have k137 := kept_below hb5 k136 (by simp; omega)
  clear k8 k64 k65 k35 k36 k135 k136
  have c1 : chk 1 10 100 100 0 = 0 := by decide
  have c2 : chk 0 0 0 0 0 = 1 := by decide
  go_wp2_with (go_at_call 16; refine (check_any _ _ _ _ _ _).mono ?_; rintro e w' ⟨rfl, rfl⟩)
  go_ret
  refine ⟨?_, ?_⟩
  · rfl
  · have B1 : Below w.heap.size w (w1.alloc (.cells #[.string ⟨#[119]⟩, .int .i64 10, .int .i64 100, .int .i64 100, .int .i64 0] 23)) := hb1.alloc hb1.size _
    have B2 := (below_from hb2 B1 B1.size).alloc (by have := B1.size; simp at this; omega) (.cells #[.string ⟨#[119]⟩, .int .i64 10, .int .i64 100, .int .i64 (-30), .int .i64 2] 23)
    have B3 := (below_from hb3 B2 B2.size).alloc (by have := B2.size; simp at this; omega) (.cells #[.string ⟨#[119]⟩, .int .i64 10, .int .i64 100, .int .i64 0, .int .i64 5] 23)
    have B4 := (below_from hb4 B3 B3.size).alloc (by have := B3.size; simp at this; omega) (.cells #[.string ⟨#[119]⟩, .int .i64 1, .int .i64 5, .int .i64 5, .int .i64 6] 23)
    have B5 := below_from hb5 B4 B4.size
    have z6 := B5.size
    repeat (first | with_reducible exact B5 | (refine Below.alloc ?_ (by first | omega | (simp <;> omega)) _))

end Go.Proofs.Ythmnojlenaddeaa
