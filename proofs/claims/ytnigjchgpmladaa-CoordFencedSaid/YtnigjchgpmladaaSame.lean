/- Are two regions' producers the same. -/
import Derived.Test.YtnigjchgpmladaaSameL
import Derived.Deep.DeepCutAuto
namespace Go.Proofs.Ytnigjchgpmladaa
open Go.RowKit Go.Shelf

set_option maxRecDepth 100000 in
set_option maxHeartbeats 16000000 in
theorem same_any (o q : Tc) (w : World) (ho : Tc.At w o) (hq : Tc.At w q) : Calls Try.prog 17 #[o.v, q.v] w fun e w' => e = .returned (.bool (decide (o.val = q.val))) ∧ Below w.heap.size w w' := by
  obtain ⟨W0, hW0⟩ : ∃ W0, W0 = (w.alloc (.cells #[.int .i64 o.next, .slice o.A o.n o.c] 24)).alloc (.cells #[.int .i64 q.next, .slice q.A q.n q.c] 24) := ⟨_, rfl⟩
  have B0 := Lib.hid (show Below w.heap.size w W0 from by rw [hW0]; exact (below_alloc1 w _).alloc (by simp) _)
  have S0 := Lib.hid (show Has W0 w.heap.size #[.int .i64 o.next, .slice o.A o.n o.c] from by rw [hW0]; exact (Has.newAt w _ 24 rfl).alloc _)
  have T0 := Lib.hid (show Has W0 (w.heap.size + 1) #[.int .i64 q.next, .slice q.A q.n q.c] from by rw [hW0]; exact Has.newAt _ _ 24 (by simp))
  have SL := Lib.hid (fun w' (h : Below W0.heap.size W0 w') => samel_any o.A o.n o.c o.L q.A q.n q.c q.L w' ((show Sl txK w o.A o.n o.c o.L from ho).below (below_from h B0.out B0.out.size)) ((show Sl txK w q.A q.n q.c q.L from hq).below (below_from h B0.out B0.out.size)))
  have HW0 := Lib.hid hW0
  clear ho hq hW0
  have rs0 := at_regrown (v := .int .i64 o.next) (S0.out.cell 0)
  have rs1 := at_regrown (v := .slice o.A o.n o.c) (S0.out.cell 1)
  have rt0 := at_regrown (v := .int .i64 q.next) (T0.out.cell 0)
  have rt1 := at_regrown (v := .slice q.A q.n q.c) (T0.out.cell 1)
  have s0l := S0.out.lt
  have t0l := T0.out.lt
  by_cases e : o.next = q.next
  · have d0 : (o.next == q.next) = true := by rw [beq_iff_eq]; exact e
    have R := Lib.hid (show decide (o.val = q.val) = decide (o.L.map Tx.val = q.L.map Tx.val) from by
      unfold Tc.val
      simp [e])
    clear e
    go_enter Try.func17, Try.ntmps17
    go_upto_region 1 with (fail)
    rw [← HW0.out]
    have s0c := S0.out.cell
    have t0c := T0.out.cell
    go_wp2_with (go_at_call 21; refine (SL.out _ (Below.refl _ _)).mono ?_; rintro e w3 ⟨rfl, hb3⟩)
    have B3 := Lib.hid (below_from hb3 B0.out B0.out.size)
    clear hb3 s0c t0c
    try go_wp2_with fail
    go_ret
    exact ⟨ret_bool R.out.symm, B3.out⟩
  · have d0 : (o.next == q.next) = false := by rw [beq_eq_false_iff_ne]; exact e
    have R := Lib.hid (show decide (o.val = q.val) = false from decide_eq_false (fun h => e (congrArg Cv.next h)))
    clear e
    go_enter Try.func17, Try.ntmps17
    go_upto_region 1 with (fail)
    rw [← HW0.out]
    have s0c := S0.out.cell
    have t0c := T0.out.cell
    go_wp2_with fail
    go_ret
    exact ⟨ret_bool R.out.symm, B0.out⟩

end Go.Proofs.Ytnigjchgpmladaa
