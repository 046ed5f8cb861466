/- slices.Repeat of one message, nought, one or two times; bits.Mul. -/
import Derived.Test.YtmlgahambecamaaRes
import Derived.Test.YtmlgahambecamaaInM
import Derived.Laws.BitsAllLaws
namespace Go.Proofs.Ytmlgahambecamaa
open Go.RowKit Go.Shelf

theorem and1 : bits .and .u64 1 4294967295 = 1 := by decide
theorem and0 : bits .and .u64 0 4294967295 = 0 := by decide
theorem and2 : bits .and .u64 2 4294967295 = 2 := by decide

theorem mul64_0 (w : World) : Calls Try.prog 80 #[.int .u64 1, .int .u64 0] w fun e w' => e = .returned (.tuple #[.int .u64 0, .int .u64 0]) ∧ w = w' := by
  have h1 := and1
  have h0 := and0
  have h2 := and2
  go_enter Try.func80, Try.ntmps80
  go_wp2
  go_ret2
  exact ⟨rfl, rfl⟩
theorem mul_0 (w : World) : Calls Try.prog 72 #[.int .u64 1, .int .u64 0] w fun e w' => e = .returned (.tuple #[.int .u64 0, .int .u64 0]) ∧ w = w' := by
  go_enter Try.func72, Try.ntmps72
  go_wp2_with (go_at_call 80; refine (mul64_0 _).mono ?_; rintro e w' ⟨rfl, rfl⟩)
  go_ret2
  exact ⟨rfl, rfl⟩

theorem mul64_1 (w : World) : Calls Try.prog 80 #[.int .u64 1, .int .u64 1] w fun e w' => e = .returned (.tuple #[.int .u64 0, .int .u64 1]) ∧ w = w' := by
  have h1 := and1
  have h0 := and0
  have h2 := and2
  go_enter Try.func80, Try.ntmps80
  go_wp2
  go_ret2
  exact ⟨rfl, rfl⟩
theorem mul_1 (w : World) : Calls Try.prog 72 #[.int .u64 1, .int .u64 1] w fun e w' => e = .returned (.tuple #[.int .u64 0, .int .u64 1]) ∧ w = w' := by
  go_enter Try.func72, Try.ntmps72
  go_wp2_with (go_at_call 80; refine (mul64_1 _).mono ?_; rintro e w' ⟨rfl, rfl⟩)
  go_ret2
  exact ⟨rfl, rfl⟩

theorem mul64_2 (w : World) : Calls Try.prog 80 #[.int .u64 1, .int .u64 2] w fun e w' => e = .returned (.tuple #[.int .u64 0, .int .u64 2]) ∧ w = w' := by
  have h1 := and1
  have h0 := and0
  have h2 := and2
  go_enter Try.func80, Try.ntmps80
  go_wp2
  go_ret2
  exact ⟨rfl, rfl⟩
theorem mul_2 (w : World) : Calls Try.prog 72 #[.int .u64 1, .int .u64 2] w fun e w' => e = .returned (.tuple #[.int .u64 0, .int .u64 2]) ∧ w = w' := by
  go_enter Try.func72, Try.ntmps72
  go_wp2_with (go_at_call 80; refine (mul64_2 _).mono ?_; rintro e w' ⟨rfl, rfl⟩)
  go_ret2
  exact ⟨rfl, rfl⟩

/-- What Repeat hands back: a row of its own. -/
def RepR (m : Mg) (c : Nat) (w : World) (e : Ending) (w' : World) : Prop := ∃ (b : Nat) (cv : Array Value), e = .returned (.slice (some ⟨b, 0, none⟩) c c) ∧ w'.heap[b]? = some (.cells cv 40 (0, 0)) ∧ cv.toList.take (c * 5) = (List.replicate c m).flatMap mgK.cells ∧ w.heap.size ≤ b

theorem make_0 (w : World) : (Instr.makeSlice 22 (.int .i64 0) (.int .i64 0)).run Try.prog w = .ok (.slice (some ⟨w.heap.size, 0, none⟩) 0 0) (w.alloc (.cells #[] 40)) := by kernel_rfl

theorem make_1 (w : World) : (Instr.makeSlice 22 (.int .i64 1) (.int .i64 1)).run Try.prog w = .ok (.slice (some ⟨w.heap.size, 0, none⟩) 1 1) (w.alloc (.cells #[.int .i64 0, .int .i64 0, .int .i64 0, .int .i64 0, .slice none 0 0] 40)) := by kernel_rfl

theorem make_2 (w : World) : (Instr.makeSlice 22 (.int .i64 2) (.int .i64 2)).run Try.prog w = .ok (.slice (some ⟨w.heap.size, 0, none⟩) 2 2) (w.alloc (.cells #[.int .i64 0, .int .i64 0, .int .i64 0, .int .i64 0, .slice none 0 0, .int .i64 0, .int .i64 0, .int .i64 0, .int .i64 0, .slice none 0 0] 40)) := by kernel_rfl

set_option maxHeartbeats 4000000 in
set_option maxRecDepth 100000 in
/-- Repeat, 0 times. -/
theorem rep_0 (g : Nat) (m : Mg) (w : World) (hm : Has w g #[.int .i64 m.t, .int .i64 m.no, .int .i64 m.frm, .int .i64 m.dst, .slice m.A m.n m.c]) : Calls Try.prog 48 #[.slice (some ⟨g, 0, none⟩) 1 1, .int .i64 0] w fun e w' => RepR m 0 w e w' ∧ Below w.heap.size w w' := by
  have mk := make_0 w
  have hg1 : (w.alloc (.cells #[] 40)).heap[w.heap.size]? = some (.cells #[] 40 (0, 0)) := heap_alloc_new w _
  have hM1 : Has (w.alloc (.cells #[] 40)) g #[.int .i64 m.t, .int .i64 m.no, .int .i64 m.frm, .int .i64 m.dst, .slice m.A m.n m.c] := hm.alloc _
  have b1 : Below w.heap.size w (w.alloc (.cells #[] 40)) := below_alloc1 w _
  have hcp : ∀ ty, (Builtin.copy_ #[22, 22] ty #[.slice (some ⟨w.heap.size, 0, none⟩) 0 0, .slice (some ⟨g, 0, none⟩) 1 1]).run Try.prog (w.alloc (.cells #[] 40)) = .ok (goInt (Nat.min 1 0)) ((w.alloc (.cells #[] 40)).setCells w.heap.size 0 []) := fun ty =>
    run_copy_row (w.alloc (.cells #[] 40)) 22 22 ty 40 5 w.heap.size 0 0 0 ⟨g, 0, none⟩ 1 1 [] Try.underlying22 sz40 (by simp)
      (fun j v hj => by rw [Addr.add_lit, Nat.zero_add, hM1.cell]; simp at hj)
      (fun j hj => by rw [Nat.zero_add, row_cell hg1]; simp at hj) (fun j hj => row_free hg1 _) (by simp)
  have hf0 : 0 + ([] : List Value).length ≤ (#[] : Array Value).size := by simp
  have hg2 := setCells_heap [] 0 (w.alloc (.cells #[] 40)) _ hg1 hf0
  have G2 := setCells_grown w.heap.size [] 0 (w.alloc (.cells #[] 40))
  obtain ⟨W2, hW2⟩ : ∃ W2, W2 = (w.alloc (.cells #[] 40)).setCells w.heap.size 0 [] := ⟨_, rfl⟩
  rw [← hW2] at hcp hg2 G2
  have b2 : Below w.heap.size w W2 := b1.trans (grown_below G2 b1.size (fun q hq => by injection hq with hq; omega))
  clear hW2 hM1 hg1 hm hf0 G2
  go_enter Try.func48, Try.ntmps48
  go_wp2_with (first | (go_at_call 72; refine (mul_0 _).mono ?_; rintro e w' ⟨rfl, rfl⟩) | (at_builtin; refine wpList_copy_runI _ rfl _ _ 22 22 rfl _ _ rfl rfl (hcp _) ?_))
  go_loopg [8] 0 (fun gg s wr => s = .int .i64 0 ∧ W2 = wr)
  case atStart => exact ⟨by first | rfl | simp [goInt], rfl⟩
  case round =>
    obtain ⟨rfl, rfl⟩ := hrel
    go_wp2_with fail
    go_ret
    exact ⟨⟨w.heap.size, _, rfl, hg2, by simp [splice, mgK, List.replicate], Nat.le_refl _⟩, b2⟩

set_option maxHeartbeats 4000000 in
set_option maxRecDepth 100000 in
/-- Repeat, 1 times. -/
theorem rep_1 (g : Nat) (m : Mg) (w : World) (hm : Has w g #[.int .i64 m.t, .int .i64 m.no, .int .i64 m.frm, .int .i64 m.dst, .slice m.A m.n m.c]) : Calls Try.prog 48 #[.slice (some ⟨g, 0, none⟩) 1 1, .int .i64 1] w fun e w' => RepR m 1 w e w' ∧ Below w.heap.size w w' := by
  have mk := make_1 w
  have hg1 : (w.alloc (.cells #[.int .i64 0, .int .i64 0, .int .i64 0, .int .i64 0, .slice none 0 0] 40)).heap[w.heap.size]? = some (.cells #[.int .i64 0, .int .i64 0, .int .i64 0, .int .i64 0, .slice none 0 0] 40 (0, 0)) := heap_alloc_new w _
  have hM1 : Has (w.alloc (.cells #[.int .i64 0, .int .i64 0, .int .i64 0, .int .i64 0, .slice none 0 0] 40)) g #[.int .i64 m.t, .int .i64 m.no, .int .i64 m.frm, .int .i64 m.dst, .slice m.A m.n m.c] := hm.alloc _
  have b1 : Below w.heap.size w (w.alloc (.cells #[.int .i64 0, .int .i64 0, .int .i64 0, .int .i64 0, .slice none 0 0] 40)) := below_alloc1 w _
  have hcp : ∀ ty, (Builtin.copy_ #[22, 22] ty #[.slice (some ⟨w.heap.size, 0, none⟩) 1 1, .slice (some ⟨g, 0, none⟩) 1 1]).run Try.prog (w.alloc (.cells #[.int .i64 0, .int .i64 0, .int .i64 0, .int .i64 0, .slice none 0 0] 40)) = .ok (goInt (Nat.min 1 1)) ((w.alloc (.cells #[.int .i64 0, .int .i64 0, .int .i64 0, .int .i64 0, .slice none 0 0] 40)).setCells w.heap.size 0 [.int .i64 m.t, .int .i64 m.no, .int .i64 m.frm, .int .i64 m.dst, .slice m.A m.n m.c]) := fun ty =>
    run_copy_row (w.alloc (.cells #[.int .i64 0, .int .i64 0, .int .i64 0, .int .i64 0, .slice none 0 0] 40)) 22 22 ty 40 5 w.heap.size 0 1 1 ⟨g, 0, none⟩ 1 1 [.int .i64 m.t, .int .i64 m.no, .int .i64 m.frm, .int .i64 m.dst, .slice m.A m.n m.c] Try.underlying22 sz40 (by simp)
      (fun j v hj => by rw [Addr.add_lit, Nat.zero_add, hM1.cell]; simpa using hj)
      (fun j hj => by rw [Nat.zero_add, row_cell hg1]; simp at hj; rw [Array.getElem?_eq_getElem (by simp; omega)]; rfl) (fun j hj => row_free hg1 _) (mgK.one m)
  have hf0 : 0 + ([.int .i64 m.t, .int .i64 m.no, .int .i64 m.frm, .int .i64 m.dst, .slice m.A m.n m.c] : List Value).length ≤ (#[.int .i64 0, .int .i64 0, .int .i64 0, .int .i64 0, .slice none 0 0] : Array Value).size := by simp
  have hg2 := setCells_heap [.int .i64 m.t, .int .i64 m.no, .int .i64 m.frm, .int .i64 m.dst, .slice m.A m.n m.c] 0 (w.alloc (.cells #[.int .i64 0, .int .i64 0, .int .i64 0, .int .i64 0, .slice none 0 0] 40)) _ hg1 hf0
  have G2 := setCells_grown w.heap.size [.int .i64 m.t, .int .i64 m.no, .int .i64 m.frm, .int .i64 m.dst, .slice m.A m.n m.c] 0 (w.alloc (.cells #[.int .i64 0, .int .i64 0, .int .i64 0, .int .i64 0, .slice none 0 0] 40))
  obtain ⟨W2, hW2⟩ : ∃ W2, W2 = (w.alloc (.cells #[.int .i64 0, .int .i64 0, .int .i64 0, .int .i64 0, .slice none 0 0] 40)).setCells w.heap.size 0 [.int .i64 m.t, .int .i64 m.no, .int .i64 m.frm, .int .i64 m.dst, .slice m.A m.n m.c] := ⟨_, rfl⟩
  rw [← hW2] at hcp hg2 G2
  have b2 : Below w.heap.size w W2 := b1.trans (grown_below G2 b1.size (fun q hq => by injection hq with hq; omega))
  clear hW2 hM1 hg1 hm hf0 G2
  go_enter Try.func48, Try.ntmps48
  go_wp2_with (first | (go_at_call 72; refine (mul_1 _).mono ?_; rintro e w' ⟨rfl, rfl⟩) | (at_builtin; refine wpList_copy_runI _ rfl _ _ 22 22 rfl _ _ rfl rfl (hcp _) ?_))
  go_loopg [8] 0 (fun gg s wr => s = .int .i64 1 ∧ W2 = wr)
  case atStart => exact ⟨by first | rfl | simp [goInt], rfl⟩
  case round =>
    obtain ⟨rfl, rfl⟩ := hrel
    go_wp2_with fail
    go_ret
    exact ⟨⟨w.heap.size, _, rfl, hg2, by simp [splice, mgK, Mg.cells, List.replicate], Nat.le_refl _⟩, b2⟩

set_option maxHeartbeats 4000000 in
set_option maxRecDepth 100000 in
/-- Repeat, 2 times. -/
theorem rep_2 (g : Nat) (m : Mg) (w : World) (hm : Has w g #[.int .i64 m.t, .int .i64 m.no, .int .i64 m.frm, .int .i64 m.dst, .slice m.A m.n m.c]) : Calls Try.prog 48 #[.slice (some ⟨g, 0, none⟩) 1 1, .int .i64 2] w fun e w' => RepR m 2 w e w' ∧ Below w.heap.size w w' := by
  have mk := make_2 w
  have hg1 : (w.alloc (.cells #[.int .i64 0, .int .i64 0, .int .i64 0, .int .i64 0, .slice none 0 0, .int .i64 0, .int .i64 0, .int .i64 0, .int .i64 0, .slice none 0 0] 40)).heap[w.heap.size]? = some (.cells #[.int .i64 0, .int .i64 0, .int .i64 0, .int .i64 0, .slice none 0 0, .int .i64 0, .int .i64 0, .int .i64 0, .int .i64 0, .slice none 0 0] 40 (0, 0)) := heap_alloc_new w _
  have hM1 : Has (w.alloc (.cells #[.int .i64 0, .int .i64 0, .int .i64 0, .int .i64 0, .slice none 0 0, .int .i64 0, .int .i64 0, .int .i64 0, .int .i64 0, .slice none 0 0] 40)) g #[.int .i64 m.t, .int .i64 m.no, .int .i64 m.frm, .int .i64 m.dst, .slice m.A m.n m.c] := hm.alloc _
  have b1 : Below w.heap.size w (w.alloc (.cells #[.int .i64 0, .int .i64 0, .int .i64 0, .int .i64 0, .slice none 0 0, .int .i64 0, .int .i64 0, .int .i64 0, .int .i64 0, .slice none 0 0] 40)) := below_alloc1 w _
  have hcp : ∀ ty, (Builtin.copy_ #[22, 22] ty #[.slice (some ⟨w.heap.size, 0, none⟩) 2 2, .slice (some ⟨g, 0, none⟩) 1 1]).run Try.prog (w.alloc (.cells #[.int .i64 0, .int .i64 0, .int .i64 0, .int .i64 0, .slice none 0 0, .int .i64 0, .int .i64 0, .int .i64 0, .int .i64 0, .slice none 0 0] 40)) = .ok (goInt (Nat.min 1 2)) ((w.alloc (.cells #[.int .i64 0, .int .i64 0, .int .i64 0, .int .i64 0, .slice none 0 0, .int .i64 0, .int .i64 0, .int .i64 0, .int .i64 0, .slice none 0 0] 40)).setCells w.heap.size 0 [.int .i64 m.t, .int .i64 m.no, .int .i64 m.frm, .int .i64 m.dst, .slice m.A m.n m.c]) := fun ty =>
    run_copy_row (w.alloc (.cells #[.int .i64 0, .int .i64 0, .int .i64 0, .int .i64 0, .slice none 0 0, .int .i64 0, .int .i64 0, .int .i64 0, .int .i64 0, .slice none 0 0] 40)) 22 22 ty 40 5 w.heap.size 0 2 2 ⟨g, 0, none⟩ 1 1 [.int .i64 m.t, .int .i64 m.no, .int .i64 m.frm, .int .i64 m.dst, .slice m.A m.n m.c] Try.underlying22 sz40 (by simp)
      (fun j v hj => by rw [Addr.add_lit, Nat.zero_add, hM1.cell]; simpa using hj)
      (fun j hj => by rw [Nat.zero_add, row_cell hg1]; simp at hj; rw [Array.getElem?_eq_getElem (by simp; omega)]; rfl) (fun j hj => row_free hg1 _) (mgK.one m)
  have hf0 : 0 + ([.int .i64 m.t, .int .i64 m.no, .int .i64 m.frm, .int .i64 m.dst, .slice m.A m.n m.c] : List Value).length ≤ (#[.int .i64 0, .int .i64 0, .int .i64 0, .int .i64 0, .slice none 0 0, .int .i64 0, .int .i64 0, .int .i64 0, .int .i64 0, .slice none 0 0] : Array Value).size := by simp
  have hg2 := setCells_heap [.int .i64 m.t, .int .i64 m.no, .int .i64 m.frm, .int .i64 m.dst, .slice m.A m.n m.c] 0 (w.alloc (.cells #[.int .i64 0, .int .i64 0, .int .i64 0, .int .i64 0, .slice none 0 0, .int .i64 0, .int .i64 0, .int .i64 0, .int .i64 0, .slice none 0 0] 40)) _ hg1 hf0
  have G2 := setCells_grown w.heap.size [.int .i64 m.t, .int .i64 m.no, .int .i64 m.frm, .int .i64 m.dst, .slice m.A m.n m.c] 0 (w.alloc (.cells #[.int .i64 0, .int .i64 0, .int .i64 0, .int .i64 0, .slice none 0 0, .int .i64 0, .int .i64 0, .int .i64 0, .int .i64 0, .slice none 0 0] 40))
  obtain ⟨W2, hW2⟩ : ∃ W2, W2 = (w.alloc (.cells #[.int .i64 0, .int .i64 0, .int .i64 0, .int .i64 0, .slice none 0 0, .int .i64 0, .int .i64 0, .int .i64 0, .int .i64 0, .slice none 0 0] 40)).setCells w.heap.size 0 [.int .i64 m.t, .int .i64 m.no, .int .i64 m.frm, .int .i64 m.dst, .slice m.A m.n m.c] := ⟨_, rfl⟩
  rw [← hW2] at hcp hg2 G2
  have b2 : Below w.heap.size w W2 := b1.trans (grown_below G2 b1.size (fun q hq => by injection hq with hq; omega))
  clear hW2 hM1 hg1 hm hf0 G2
  have hcp2 : ∀ ty, (Builtin.copy_ #[22, 22] ty #[.slice (some ⟨w.heap.size, 5, none⟩) 1 1, .slice (some ⟨w.heap.size, 0, none⟩) 1 2]).run Try.prog W2.drew = .ok (goInt (Nat.min 1 1)) (W2.drew.setCells w.heap.size 5 [.int .i64 m.t, .int .i64 m.no, .int .i64 m.frm, .int .i64 m.dst, .slice m.A m.n m.c]) := fun ty =>
    run_copy_row W2.drew 22 22 ty 40 5 w.heap.size 5 1 1 ⟨w.heap.size, 0, none⟩ 1 2 [.int .i64 m.t, .int .i64 m.no, .int .i64 m.frm, .int .i64 m.dst, .slice m.A m.n m.c] Try.underlying22 sz40 (by simp)
      (fun j v hj => by rw [Addr.add_lit, Nat.zero_add]; show W2.cell? _ = _; rw [row_cell hg2, ← hj]; have hl := (List.getElem?_eq_some_iff.1 hj).1; simp at hl; rw [List.getElem?_toArray]; simp only [splice, List.take_zero, List.nil_append]; rw [List.getElem?_append_left (by simp; omega)])
      (fun j hj => by show (W2.cell? _).isSome = true; rw [row_cell hg2, Array.getElem?_eq_getElem (by simp [splice] at hj ⊢; omega)]; rfl) (fun j hj => row_free (w := W2) hg2 _) (mgK.one m)
  have hf2 : 5 + ([.int .i64 m.t, .int .i64 m.no, .int .i64 m.frm, .int .i64 m.dst, .slice m.A m.n m.c] : List Value).length ≤ (splice #[.int .i64 0, .int .i64 0, .int .i64 0, .int .i64 0, .slice none 0 0, .int .i64 0, .int .i64 0, .int .i64 0, .int .i64 0, .slice none 0 0].toList 0 [.int .i64 m.t, .int .i64 m.no, .int .i64 m.frm, .int .i64 m.dst, .slice m.A m.n m.c]).toArray.size := by simp [splice]
  have hg3 := setCells_heap [.int .i64 m.t, .int .i64 m.no, .int .i64 m.frm, .int .i64 m.dst, .slice m.A m.n m.c] 5 W2.drew _ hg2 hf2
  have G3 := setCells_grown w.heap.size [.int .i64 m.t, .int .i64 m.no, .int .i64 m.frm, .int .i64 m.dst, .slice m.A m.n m.c] 5 W2.drew
  obtain ⟨W3, hW3⟩ : ∃ W3, W3 = W2.drew.setCells w.heap.size 5 [.int .i64 m.t, .int .i64 m.no, .int .i64 m.frm, .int .i64 m.dst, .slice m.A m.n m.c] := ⟨_, rfl⟩
  rw [← hW3] at hcp2 hg3 G3
  have b3 : Below w.heap.size w W3 := b2.drew.trans (grown_below G3 b2.drew.size (fun q hq => by injection hq with hq; omega))
  clear hW3 hf2 G3 hg2
  go_enter Try.func48, Try.ntmps48
  go_wp2_with (first | (go_at_call 72; refine (mul_2 _).mono ?_; rintro e w' ⟨rfl, rfl⟩) | (at_builtin; refine wpList_copy_runI _ rfl _ _ 22 22 rfl _ _ rfl rfl (hcp _) ?_))
  go_loopg [8] 1 (fun gg s wr => (s = .int .i64 1 ∧ W2 = wr ∧ gg = 1) ∨ (s = .int .i64 2 ∧ W3 = wr))
  case atStart => exact .inl ⟨by first | rfl | simp [goInt], rfl, rfl⟩
  case round =>
    rcases hrel with ⟨rfl, rfl, rfl⟩ | ⟨rfl, rfl⟩
    · go_wp2_with fail
      go_region_law (refine step_copy_runI rfl _ _ 22 22 rfl _ _ (by simp [Act.eval, Act.put]) (by simp [Act.eval, Act.put]) (hcp2 _) ?_)
      go_wp2_with fail
      go_roundg 0
      case measure => omega
      case rel => exact .inr ⟨by first | rfl | go_num, rfl⟩
    · go_wp2_with fail
      go_ret
      exact ⟨⟨w.heap.size, _, rfl, hg3, by simp [splice, mgK, Mg.cells, List.replicate], Nat.le_refl _⟩, b3⟩

end Go.Proofs.Ytmlgahambecamaa
