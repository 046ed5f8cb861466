/- How positions' places compare; those that wait. -/
import Derived.Test.YtnkjkgakbgjddaaRight
import Derived.Test.YtnkjkgakbgjddaaSeg
import Derived.Test.YtnkjkgakbgjddaaFork
namespace Go.Proofs.Ytnkjkgakbgjddaa
open Go.RowKit

theorem int_row {w : World} {g n : Nat} {l : List Int} (h : Has w g (l.map (Value.int .i64)).toArray) (hn : l.length = n) (hm : n ≤ 9223372036854775807) (hw : ∀ a ∈ l, (Lit.int .i64 a).wf = true) : Sl intK w (some ⟨g, 0, none⟩) n n l :=
  ⟨hn, Nat.le_refl _, hm, fun e => (by cases e), by rw [flat_int]; simpa using Row.of_has h, hw⟩
theorem cmpI_wf (a b : Int) : (Lit.int .i64 (cmpI a b)).wf = true := by unfold cmpI; (repeat' split) <;> decide
theorem cmpS_wf (a b : ByteArray) : (Lit.int .i64 (cmpS a b)).wf = true := by
  unfold cmpS
  rcases cmpB_vals a.data.toList b.data.toList with h | h | h <;> rw [h] <;> decide
theorem ordP_orL (a b : Ps) : ordP a b = orL [cmpS a.g b.g, cmpS a.t b.t, cmpI a.p b.p, cmpI a.h b.h] := by
  unfold ordP orL orL orL orL orL orI
  (repeat' split) <;> first | rfl | omega | simp_all
theorem ordP_wf (a b : Ps) : (Lit.int .i64 (ordP a b)).wf = true := by
  unfold ordP orI
  (repeat' split) <;> first | exact cmpS_wf _ _ | exact cmpI_wf _ _
theorem ordW_orL (a b : Wt) : ordW a b = orL [cmpI a.pid b.pid, ordP a.pos b.pos] := by
  unfold ordW orL orL orL orI
  (repeat' split) <;> first | rfl | omega | simp_all

set_option maxRecDepth 100000 in
set_option maxHeartbeats 8000000 in
theorem order_any (a b : Ps) (w : World) : Calls Try.prog 38 #[a.v, b.v] w fun e w' => e = .returned (.int .i64 (ordP a b)) ∧ Below w.heap.size w w' := by
  rw [ordP_orL]
  unfold Ps.v
  have B0 := Lib.hid (show Below w.heap.size w ((w.alloc (.cells (boxP a) 29)).alloc (.cells (boxP b) 29)) from ((Below.refl _ w).alloc (Nat.le_refl _) _).alloc (by simp) _)
  have ca := (((Has.newAt w (boxP a) 29 rfl).alloc (.cells (boxP b) 29)).drew).cell
  have cb := ((Has.newAt (w.alloc (.cells (boxP a) 29)) (boxP b) 29 (g := w.heap.size + 1) (by simp)).drew).cell
  unfold boxP at ca cb B0
  go_enter Try.func38, Try.ntmps38
  go_wp2_with fail
  refine region_seg (fun w' => w'.cell? ⟨w.heap.size, 0, none⟩ = some (.string a.g) ∧ w'.cell? ⟨w.heap.size, 1, none⟩ = some (.string a.t) ∧ w'.cell? ⟨w.heap.size, 2, none⟩ = some (.int .i64 a.p) ∧ w'.cell? ⟨w.heap.size, 3, none⟩ = some (.int .i64 a.h) ∧ w'.cell? ⟨w.heap.size + 1, 0, none⟩ = some (.string b.g) ∧ w'.cell? ⟨w.heap.size + 1, 1, none⟩ = some (.string b.t) ∧ w'.cell? ⟨w.heap.size + 1, 2, none⟩ = some (.int .i64 b.p) ∧ w'.cell? ⟨w.heap.size + 1, 3, none⟩ = some (.int .i64 b.h)) 26 [(0, true), (1, true), (2, true), (3, true), (5, true), (6, true), (7, true), (8, true), (9, true), (10, true), (12, true), (13, true), (14, true), (15, true), (16, true), (17, true), (19, true), (20, true), (21, true), (22, true), (23, true), (24, true), (4, false), (11, false), (18, false), (25, false)] (by kernel_rfl) (by kernel_rfl) ⟨ca 0, ca 1, ca 2, ca 3, cb 0, cb 1, cb 2, cb 3⟩ (fun hHeld => ?_)
  iterate 22
    refine seg_take (v := ?_) (by simp only [List.getElem?_toArray, List.getElem?_cons_succ, List.getElem?_cons_zero]; rfl) (Or.inl ⟨by rfl, ?_⟩) ?_
    rotate_left 1
    · intro w hSw
      try dsimp only at hSw
      go_simp
      try with_reducible rfl
    try simp only [Act.put, List.setIfInBounds_toArray, List.set_cons_zero, List.set_cons_succ]
  refine seg_op (by simp only [List.getElem?_toArray, List.getElem?_cons_succ, List.getElem?_cons_zero]; rfl) (fun K hK => ?_)
  go_wp2_with (first | (go_at_call 66; refine (compare_any _ _ _).mono ?_; rintro e w' ⟨rfl, rfl⟩) | (go_at_call 67; refine (cmpint_any _ _ _).mono ?_; rintro e w' ⟨rfl, rfl⟩))
  clear hHeld
  refine hK.out _ _ ⟨ca 0, ca 1, ca 2, ca 3, cb 0, cb 1, cb 2, cb 3⟩ (fun hHeld => ?_)
  clear hK K
  try simp only [Act.put, List.setIfInBounds_toArray, List.set_cons_zero, List.set_cons_succ]
  refine seg_op (by simp only [List.getElem?_toArray, List.getElem?_cons_succ, List.getElem?_cons_zero]; rfl) (fun K hK => ?_)
  go_wp2_with (first | (go_at_call 66; refine (compare_any _ _ _).mono ?_; rintro e w' ⟨rfl, rfl⟩) | (go_at_call 67; refine (cmpint_any _ _ _).mono ?_; rintro e w' ⟨rfl, rfl⟩))
  clear hHeld
  refine hK.out _ _ ⟨ca 0, ca 1, ca 2, ca 3, cb 0, cb 1, cb 2, cb 3⟩ (fun hHeld => ?_)
  clear hK K
  try simp only [Act.put, List.setIfInBounds_toArray, List.set_cons_zero, List.set_cons_succ]
  refine seg_op (by simp only [List.getElem?_toArray, List.getElem?_cons_succ, List.getElem?_cons_zero]; rfl) (fun K hK => ?_)
  go_wp2_with (first | (go_at_call 66; refine (compare_any _ _ _).mono ?_; rintro e w' ⟨rfl, rfl⟩) | (go_at_call 67; refine (cmpint_any _ _ _).mono ?_; rintro e w' ⟨rfl, rfl⟩))
  clear hHeld
  refine hK.out _ _ ⟨ca 0, ca 1, ca 2, ca 3, cb 0, cb 1, cb 2, cb 3⟩ (fun hHeld => ?_)
  clear hK K
  try simp only [Act.put, List.setIfInBounds_toArray, List.set_cons_zero, List.set_cons_succ]
  refine seg_op (by simp only [List.getElem?_toArray, List.getElem?_cons_succ, List.getElem?_cons_zero]; rfl) (fun K hK => ?_)
  go_wp2_with (first | (go_at_call 66; refine (compare_any _ _ _).mono ?_; rintro e w' ⟨rfl, rfl⟩) | (go_at_call 67; refine (cmpint_any _ _ _).mono ?_; rintro e w' ⟨rfl, rfl⟩))
  clear hHeld
  refine hK.out _ _ ⟨ca 0, ca 1, ca 2, ca 3, cb 0, cb 1, cb 2, cb 3⟩ (fun hHeld => ?_)
  clear hK K
  try simp only [Act.put, List.setIfInBounds_toArray, List.set_cons_zero, List.set_cons_succ]
  refine seg_tail rfl ?_
  clear hHeld
  go_wp2_with fail
  have RW := int_row (g := w.heap.size + 1 + 1) (l := [cmpS a.g b.g, cmpS a.t b.t, cmpI a.p b.p, cmpI a.h b.h]) (n := 4) (Has.newAt ((w.alloc (.cells #[.string a.g, .string a.t, .int .i64 a.p, .int .i64 a.h, .int .i64 a.o] 29)).alloc (.cells #[.string b.g, .string b.t, .int .i64 b.p, .int .i64 b.h, .int .i64 b.o] 29)) _ 3 (by simp)).drew rfl (by omega) (by
    simp only [List.mem_cons, List.not_mem_nil, or_false]
    rintro x (rfl | rfl | rfl | rfl) <;> first | exact cmpS_wf _ _ | exact cmpI_wf _ _)
  refine (or_any _ _ _ _ _ RW).mono ?_
  rintro e w' ⟨rfl, rfl⟩
  clear RW ca cb
  go_wp2_with fail
  go_ret
  exact ⟨rfl, (B0.out.alloc B0.out.size _).drew⟩

set_option maxRecDepth 100000 in
set_option maxHeartbeats 8000000 in
theorem orderW_any (a b : Wt) (w : World) : Calls Try.prog 44 #[a.v, b.v] w fun e w' => e = .returned (.int .i64 (ordW a b)) ∧ Below w.heap.size w w' := by
  rw [ordW_orL]
  unfold Wt.v
  have B0 := Lib.hid (show Below w.heap.size w ((w.alloc (.cells #[.int .i64 a.pid, .string a.pos.g, .string a.pos.t, .int .i64 a.pos.p, .int .i64 a.pos.h, .int .i64 a.pos.o] 52)).alloc (.cells #[.int .i64 b.pid, .string b.pos.g, .string b.pos.t, .int .i64 b.pos.p, .int .i64 b.pos.h, .int .i64 b.pos.o] 52)).drew from (((Below.refl _ w).alloc (Nat.le_refl _) _).alloc (by simp) _).drew)
  have HA := Lib.hid (((Has.newAt w #[.int .i64 a.pid, .string a.pos.g, .string a.pos.t, .int .i64 a.pos.p, .int .i64 a.pos.h, .int .i64 a.pos.o] 52 rfl).alloc (.cells #[.int .i64 b.pid, .string b.pos.g, .string b.pos.t, .int .i64 b.pos.p, .int .i64 b.pos.h, .int .i64 b.pos.o] 52)).drew)
  have HB := Lib.hid ((Has.newAt (w.alloc (.cells #[.int .i64 a.pid, .string a.pos.g, .string a.pos.t, .int .i64 a.pos.p, .int .i64 a.pos.h, .int .i64 a.pos.o] 52)) #[.int .i64 b.pid, .string b.pos.g, .string b.pos.t, .int .i64 b.pos.p, .int .i64 b.pos.h, .int .i64 b.pos.o] 52 (g := w.heap.size + 1) (by simp)).drew)
  have ca := HA.out.cell
  have cb := HB.out.cell
  go_enter Try.func44, Try.ntmps44
  go_wp2_with fail
  refine region_seg (fun w' => w'.cell? ⟨w.heap.size, 0, none⟩ = some (.int .i64 a.pid) ∧ w'.cell? ⟨w.heap.size, 1, none⟩ = some (.string a.pos.g) ∧ w'.cell? ⟨w.heap.size, 2, none⟩ = some (.string a.pos.t) ∧ w'.cell? ⟨w.heap.size, 3, none⟩ = some (.int .i64 a.pos.p) ∧ w'.cell? ⟨w.heap.size, 4, none⟩ = some (.int .i64 a.pos.h) ∧ w'.cell? ⟨w.heap.size, 5, none⟩ = some (.int .i64 a.pos.o) ∧ w'.cell? ⟨w.heap.size + 1, 0, none⟩ = some (.int .i64 b.pid) ∧ w'.cell? ⟨w.heap.size + 1, 1, none⟩ = some (.string b.pos.g) ∧ w'.cell? ⟨w.heap.size + 1, 2, none⟩ = some (.string b.pos.t) ∧ w'.cell? ⟨w.heap.size + 1, 3, none⟩ = some (.int .i64 b.pos.p) ∧ w'.cell? ⟨w.heap.size + 1, 4, none⟩ = some (.int .i64 b.pos.h) ∧ w'.cell? ⟨w.heap.size + 1, 5, none⟩ = some (.int .i64 b.pos.o)) 10 [(0, true), (1, true), (2, true), (3, true), (5, true), (6, true), (7, true), (8, true), (4, false), (9, false)] (by kernel_rfl) (by kernel_rfl) ⟨ca 0, ca 1, ca 2, ca 3, ca 4, ca 5, cb 0, cb 1, cb 2, cb 3, cb 4, cb 5⟩ (fun hHeld => ?_)
  iterate 8
    refine seg_take (v := ?_) (by simp only [List.getElem?_toArray, List.getElem?_cons_succ, List.getElem?_cons_zero]; rfl) (Or.inl ⟨by rfl, ?_⟩) ?_
    rotate_left 1
    · intro w hSw
      try dsimp only at hSw
      go_simp
      try with_reducible rfl
    try simp only [Act.put, List.setIfInBounds_toArray, List.set_cons_zero, List.set_cons_succ]
  refine seg_op (by simp only [List.getElem?_toArray, List.getElem?_cons_succ, List.getElem?_cons_zero]; rfl) (fun K hK => ?_)
  go_wp2_with (first | (go_at_call 66; refine (compare_any _ _ _).mono ?_; rintro e w' ⟨rfl, rfl⟩) | (go_at_call 67; refine (cmpint_any _ _ _).mono ?_; rintro e w' ⟨rfl, rfl⟩))
  clear hHeld
  refine hK.out _ _ ⟨ca 0, ca 1, ca 2, ca 3, ca 4, ca 5, cb 0, cb 1, cb 2, cb 3, cb 4, cb 5⟩ (fun hHeld => ?_)
  clear hK K
  try simp only [Act.put, List.setIfInBounds_toArray, List.set_cons_zero, List.set_cons_succ]
  refine seg_op (by simp only [List.getElem?_toArray, List.getElem?_cons_succ, List.getElem?_cons_zero]; rfl) (fun K hK => ?_)
  go_wp2_with (go_at_call 38; refine (order_any a.pos b.pos _).mono ?_; rintro e w2 ⟨rfl, hb2⟩)
  clear hHeld
  refine hK.out _ _ ⟨(HA.out.past hb2).cell 0, (HA.out.past hb2).cell 1, (HA.out.past hb2).cell 2, (HA.out.past hb2).cell 3, (HA.out.past hb2).cell 4, (HA.out.past hb2).cell 5, (HB.out.past hb2).cell 0, (HB.out.past hb2).cell 1, (HB.out.past hb2).cell 2, (HB.out.past hb2).cell 3, (HB.out.past hb2).cell 4, (HB.out.past hb2).cell 5⟩ (fun hHeld => ?_)
  clear hK K
  try simp only [Act.put, List.setIfInBounds_toArray, List.set_cons_zero, List.set_cons_succ]
  refine seg_tail rfl ?_
  clear hHeld
  have B2 := Lib.hid (below_from hb2 B0.out B0.out.size)
  clear ca cb HA HB hb2
  go_wp2_with fail
  have RW := int_row (w := w2.alloc (.cells #[.int .i64 (cmpI a.pid b.pid), .int .i64 (ordP a.pos b.pos)] 3)) (g := w2.heap.size) (l := [cmpI a.pid b.pid, ordP a.pos b.pos]) (n := 2) (Has.newAt w2 _ 3 rfl) rfl (by omega) (by
    simp only [List.mem_cons, List.not_mem_nil, or_false]
    rintro x (rfl | rfl) <;> first | exact cmpI_wf _ _ | exact ordP_wf _ _)
  refine (or_any _ _ _ _ _ RW).mono ?_
  rintro e w' ⟨rfl, rfl⟩
  clear RW
  go_wp2_with fail
  go_ret
  exact ⟨rfl, B2.out.alloc B2.out.size _⟩

end Go.Proofs.Ytnkjkgakbgjddaa
