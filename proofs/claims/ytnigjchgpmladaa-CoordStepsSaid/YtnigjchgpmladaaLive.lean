/- live: the chapter's example. -/
import Derived.Test.YtnigjchgpmladaaAt
import Derived.Deep.DeepCutAuto
namespace Go.Proofs.Ytnigjchgpmladaa
open Go.RowKit Go.Shelf

abbrev LA : Cv := ⟨1, [⟨⟨#[112]⟩, 0, 0, 0, 0, [], [], 5⟩]⟩
abbrev LB : Cv := ⟨1, [⟨⟨#[112]⟩, 0, 0, 0, 1, [⟨⟨#[116]⟩, 0, 0⟩], [], 6⟩]⟩
abbrev LC : Cv := ⟨1, [⟨⟨#[112]⟩, 0, 1, 0, 3, [⟨⟨#[116]⟩, 0, 0⟩], [], 6⟩]⟩
abbrev LD : Cv := ⟨1, [⟨⟨#[112]⟩, 0, 1, 1, 0, [], [], 6⟩]⟩
abbrev LE : Cv := ⟨2, [⟨⟨#[112]⟩, 0, 1, 1, 0, [], [], 6⟩]⟩
theorem lv1 : initV noC ⟨#[112]⟩ 5 = (LA, 0, 0, 0) := by decide +kernel
theorem lv2 : addV LA ⟨#[112]⟩ 0 0 ⟨⟨#[116]⟩, 0, 0⟩ 6 = (LB, 0) := by decide +kernel
theorem lv3 : initV LB ⟨#[112]⟩ 7 = (LC, 0, 1, 0) := by decide +kernel
theorem lv4 : addV LC ⟨#[112]⟩ 0 0 ⟨⟨#[116]⟩, 0, 0⟩ 8 = (noC, 110) := by decide +kernel
theorem lv5 : addV LC ⟨#[112]⟩ 0 1 ⟨⟨#[116]⟩, 0, 0⟩ 8 = (noC, 211) := by decide +kernel
theorem lv6 : doneV LC 0 = (LD, 0) := by decide +kernel
theorem lv7 : findV LD.L 0 = (⟨⟨#[112]⟩, 0, 1, 1, 0, [], [], 6⟩, true) := by decide +kernel
theorem lv8 : findV LB.L 0 = (⟨⟨#[112]⟩, 0, 0, 0, 1, [⟨⟨#[116]⟩, 0, 0⟩], [], 6⟩, true) := by decide +kernel
theorem lv9 : endV LD ⟨#[112]⟩ 0 1 true = (noC, 210) := by decide +kernel
theorem lv10 : initV LD ⟨#[]⟩ 9 = (LE, 1, 0, 0) := by decide +kernel
theorem lv11 : (dueV LC.L).length = 1 := by decide +kernel
theorem lv12 : oldV LB 10 3 = [⟨#[112]⟩] := by decide +kernel
theorem lv13 : oldV LB 10 4 = [] := by decide +kernel
theorem lv14 : checkV LD = 0 := by decide +kernel
theorem lv15 : checkV ⟨-1, []⟩ = 1 := by decide +kernel
theorem lf {V : Cv} (h : checkV V = 0) : FewV V := (chk_iff.1 h).fewV
theorem lfA : FewV LA := lf (by decide +kernel)
theorem lfB : FewV LB := lf (by decide +kernel)
theorem lfC : FewV LC := lf (by decide +kernel)
theorem lfD : FewV LD := lf (by decide +kernel)
theorem tp_wf : (⟨⟨#[116]⟩, 0, 0⟩ : Tp).wf := ⟨by decide, by decide, by decide⟩

set_option maxHeartbeats 8000000 in
set_option maxRecDepth 100000 in
theorem live_any (w : World) : Calls Try.prog 11 #[] w fun e w' => e = .returned (.bool true) ∧ Below w.heap.size w w' := by
  have B0 := Lib.hid (below_alloc1 w (.cells #[.string ⟨#[116]⟩, .int .i64 0, .int .i64 0] 45))
  have TP0 := Lib.hid (Has.newAt w #[.string ⟨#[116]⟩, .int .i64 0, .int .i64 0] 45 (g := w.heap.size) rfl)
  have cTP0 := TP0.out.cell
  have lTP0 := TP0.out.lt
  go_enter Try.func11, Try.ntmps11
  go_wp2_with fail
  refine (init_at (noO_is _) noC_few (by decide) lv1).mono ?_
  intro e w1 hx
  obtain ⟨o1, rfl, ha, hb⟩ := hx
  have bk1 := hb.alloc hb.size (.cells #[.int .i64 o1.next, .slice o1.A o1.n o1.c] 24)
  have B1 := Lib.hid (below_from bk1 B0.out B0.out.size)
  have TP1 := Lib.hid (TP0.out.past bk1)
  have cTP1 := TP1.out.cell
  have lTP1 := TP1.out.lt
  have O1_1 := Lib.hid (ha.past (below_alloc1 w1 (.cells #[.int .i64 o1.next, .slice o1.A o1.n o1.c] 24)))
  have S1_1 := Lib.hid (Has.newAt w1 #[.int .i64 o1.next, .slice o1.A o1.n o1.c] 24 (g := w1.heap.size) rfl)
  have cS1_1 := S1_1.out.cell
  have lS1_1 := S1_1.out.lt
  clear cTP0 lTP0 hb ha bk1
  go_wp2_with fail
  refine (add_at O1_1.out lfA tp_wf lv2).mono ?_
  intro e w2 hx
  obtain ⟨o2, rfl, ha, hb⟩ := hx
  have bk2 := hb.alloc hb.size (.cells #[.int .i64 o2.next, .slice o2.A o2.n o2.c] 24)
  have B2 := Lib.hid (below_from bk2 B1.out B1.out.size)
  have TP2 := Lib.hid (TP1.out.past bk2)
  have cTP2 := TP2.out.cell
  have lTP2 := TP2.out.lt
  have O1_2 := Lib.hid (Tc.Is.past O1_1.out bk2)
  have S1_2 := Lib.hid (S1_1.out.past bk2)
  have cS1_2 := S1_2.out.cell
  have lS1_2 := S1_2.out.lt
  have O2_2 := Lib.hid (ha.past (below_alloc1 w2 (.cells #[.int .i64 o2.next, .slice o2.A o2.n o2.c] 24)))
  have S2_2 := Lib.hid (Has.newAt w2 #[.int .i64 o2.next, .slice o2.A o2.n o2.c] 24 (g := w2.heap.size) rfl)
  have cS2_2 := S2_2.out.cell
  have lS2_2 := S2_2.out.lt
  clear cTP1 lTP1 cS1_1 lS1_1 hb ha bk2
  go_wp2_with fail
  refine (init_at O2_2.out lfB (by decide) lv3).mono ?_
  intro e w3 hx
  obtain ⟨o3, rfl, ha, hb⟩ := hx
  have bk3 := hb.alloc hb.size (.cells #[.int .i64 o3.next, .slice o3.A o3.n o3.c] 24)
  have B3 := Lib.hid (below_from bk3 B2.out B2.out.size)
  have TP3 := Lib.hid (TP2.out.past bk3)
  have cTP3 := TP3.out.cell
  have lTP3 := TP3.out.lt
  have O1_3 := Lib.hid (Tc.Is.past O1_2.out bk3)
  have S1_3 := Lib.hid (S1_2.out.past bk3)
  have cS1_3 := S1_3.out.cell
  have lS1_3 := S1_3.out.lt
  have O2_3 := Lib.hid (Tc.Is.past O2_2.out bk3)
  have S2_3 := Lib.hid (S2_2.out.past bk3)
  have cS2_3 := S2_3.out.cell
  have lS2_3 := S2_3.out.lt
  have O3_3 := Lib.hid (ha.past (below_alloc1 w3 (.cells #[.int .i64 o3.next, .slice o3.A o3.n o3.c] 24)))
  have S3_3 := Lib.hid (Has.newAt w3 #[.int .i64 o3.next, .slice o3.A o3.n o3.c] 24 (g := w3.heap.size) rfl)
  have cS3_3 := S3_3.out.cell
  have lS3_3 := S3_3.out.lt
  clear cTP2 lTP2 cS1_2 lS1_2 cS2_2 lS2_2 hb ha bk3
  go_wp2_with fail
  refine (add_at O3_3.out lfC tp_wf lv4).mono ?_
  intro e w4 hx
  obtain ⟨o4, rfl, ha, hb⟩ := hx
  have bk4 := hb.alloc hb.size (.cells #[.int .i64 o4.next, .slice o4.A o4.n o4.c] 24)
  have B4 := Lib.hid (below_from bk4 B3.out B3.out.size)
  have TP4 := Lib.hid (TP3.out.past bk4)
  have cTP4 := TP4.out.cell
  have lTP4 := TP4.out.lt
  have O1_4 := Lib.hid (Tc.Is.past O1_3.out bk4)
  have S1_4 := Lib.hid (S1_3.out.past bk4)
  have cS1_4 := S1_4.out.cell
  have lS1_4 := S1_4.out.lt
  have O2_4 := Lib.hid (Tc.Is.past O2_3.out bk4)
  have S2_4 := Lib.hid (S2_3.out.past bk4)
  have cS2_4 := S2_4.out.cell
  have lS2_4 := S2_4.out.lt
  have O3_4 := Lib.hid (Tc.Is.past O3_3.out bk4)
  have S3_4 := Lib.hid (S3_3.out.past bk4)
  have cS3_4 := S3_4.out.cell
  have lS3_4 := S3_4.out.lt
  have O4_4 := Lib.hid (ha.past (below_alloc1 w4 (.cells #[.int .i64 o4.next, .slice o4.A o4.n o4.c] 24)))
  have S4_4 := Lib.hid (Has.newAt w4 #[.int .i64 o4.next, .slice o4.A o4.n o4.c] 24 (g := w4.heap.size) rfl)
  have cS4_4 := S4_4.out.cell
  have lS4_4 := S4_4.out.lt
  clear cTP3 lTP3 cS1_3 lS1_3 cS2_3 lS2_3 cS3_3 lS3_3 hb ha bk4
  go_wp2_with fail
  refine (add_at O3_4.out lfC tp_wf lv5).mono ?_
  intro e w5 hx
  obtain ⟨o5, rfl, ha, hb⟩ := hx
  have bk5 := hb.alloc hb.size (.cells #[.int .i64 o5.next, .slice o5.A o5.n o5.c] 24)
  have B5 := Lib.hid (below_from bk5 B4.out B4.out.size)
  have TP5 := Lib.hid (TP4.out.past bk5)
  have cTP5 := TP5.out.cell
  have lTP5 := TP5.out.lt
  have O1_5 := Lib.hid (Tc.Is.past O1_4.out bk5)
  have S1_5 := Lib.hid (S1_4.out.past bk5)
  have cS1_5 := S1_5.out.cell
  have lS1_5 := S1_5.out.lt
  have O2_5 := Lib.hid (Tc.Is.past O2_4.out bk5)
  have S2_5 := Lib.hid (S2_4.out.past bk5)
  have cS2_5 := S2_5.out.cell
  have lS2_5 := S2_5.out.lt
  have O3_5 := Lib.hid (Tc.Is.past O3_4.out bk5)
  have S3_5 := Lib.hid (S3_4.out.past bk5)
  have cS3_5 := S3_5.out.cell
  have lS3_5 := S3_5.out.lt
  have O4_5 := Lib.hid (Tc.Is.past O4_4.out bk5)
  have S4_5 := Lib.hid (S4_4.out.past bk5)
  have cS4_5 := S4_5.out.cell
  have lS4_5 := S4_5.out.lt
  have O5_5 := Lib.hid (ha.past (below_alloc1 w5 (.cells #[.int .i64 o5.next, .slice o5.A o5.n o5.c] 24)))
  have S5_5 := Lib.hid (Has.newAt w5 #[.int .i64 o5.next, .slice o5.A o5.n o5.c] 24 (g := w5.heap.size) rfl)
  have cS5_5 := S5_5.out.cell
  have lS5_5 := S5_5.out.lt
  clear cTP4 lTP4 cS1_4 lS1_4 cS2_4 lS2_4 cS3_4 lS3_4 cS4_4 lS4_4 hb ha bk5
  go_wp2_with fail
  refine (done_at O3_5.out lfC lv6).mono ?_
  intro e w6 hx
  obtain ⟨o6, rfl, ha, hb⟩ := hx
  have bk6 := hb.alloc hb.size (.cells #[.int .i64 o6.next, .slice o6.A o6.n o6.c] 24)
  have B6 := Lib.hid (below_from bk6 B5.out B5.out.size)
  have TP6 := Lib.hid (TP5.out.past bk6)
  have cTP6 := TP6.out.cell
  have lTP6 := TP6.out.lt
  have O1_6 := Lib.hid (Tc.Is.past O1_5.out bk6)
  have S1_6 := Lib.hid (S1_5.out.past bk6)
  have cS1_6 := S1_6.out.cell
  have lS1_6 := S1_6.out.lt
  have O2_6 := Lib.hid (Tc.Is.past O2_5.out bk6)
  have S2_6 := Lib.hid (S2_5.out.past bk6)
  have cS2_6 := S2_6.out.cell
  have lS2_6 := S2_6.out.lt
  have O3_6 := Lib.hid (Tc.Is.past O3_5.out bk6)
  have S3_6 := Lib.hid (S3_5.out.past bk6)
  have cS3_6 := S3_6.out.cell
  have lS3_6 := S3_6.out.lt
  have O4_6 := Lib.hid (Tc.Is.past O4_5.out bk6)
  have S4_6 := Lib.hid (S4_5.out.past bk6)
  have cS4_6 := S4_6.out.cell
  have lS4_6 := S4_6.out.lt
  have O5_6 := Lib.hid (Tc.Is.past O5_5.out bk6)
  have S5_6 := Lib.hid (S5_5.out.past bk6)
  have cS5_6 := S5_6.out.cell
  have lS5_6 := S5_6.out.lt
  have O6_6 := Lib.hid (ha.past (below_alloc1 w6 (.cells #[.int .i64 o6.next, .slice o6.A o6.n o6.c] 24)))
  have S6_6 := Lib.hid (Has.newAt w6 #[.int .i64 o6.next, .slice o6.A o6.n o6.c] 24 (g := w6.heap.size) rfl)
  have cS6_6 := S6_6.out.cell
  have lS6_6 := S6_6.out.lt
  clear cTP5 lTP5 cS1_5 lS1_5 cS2_5 lS2_5 cS3_5 lS3_5 cS4_5 lS4_5 cS5_5 lS5_5 hb ha bk6
  go_wp2_with fail
  refine (findc_at O6_6.out lv7).mono ?_
  intro e w7 hx
  obtain ⟨x7, rfl, ha, hb⟩ := hx
  have bk7 := hb.alloc hb.size (.cells #[.string x7.id, .int .i64 x7.pid, .int .i64 x7.gen, .int .i64 x7.no, .int .i64 x7.st, .slice x7.PA x7.Pn x7.Pc, .slice x7.GA x7.Gn x7.Gc, .int .i64 x7.at_] 33)
  have B7 := Lib.hid (below_from bk7 B6.out B6.out.size)
  have TP7 := Lib.hid (TP6.out.past bk7)
  have cTP7 := TP7.out.cell
  have lTP7 := TP7.out.lt
  have O1_7 := Lib.hid (Tc.Is.past O1_6.out bk7)
  have S1_7 := Lib.hid (S1_6.out.past bk7)
  have cS1_7 := S1_7.out.cell
  have lS1_7 := S1_7.out.lt
  have O2_7 := Lib.hid (Tc.Is.past O2_6.out bk7)
  have S2_7 := Lib.hid (S2_6.out.past bk7)
  have cS2_7 := S2_7.out.cell
  have lS2_7 := S2_7.out.lt
  have O3_7 := Lib.hid (Tc.Is.past O3_6.out bk7)
  have S3_7 := Lib.hid (S3_6.out.past bk7)
  have cS3_7 := S3_7.out.cell
  have lS3_7 := S3_7.out.lt
  have O4_7 := Lib.hid (Tc.Is.past O4_6.out bk7)
  have S4_7 := Lib.hid (S4_6.out.past bk7)
  have cS4_7 := S4_7.out.cell
  have lS4_7 := S4_7.out.lt
  have O5_7 := Lib.hid (Tc.Is.past O5_6.out bk7)
  have S5_7 := Lib.hid (S5_6.out.past bk7)
  have cS5_7 := S5_7.out.cell
  have lS5_7 := S5_7.out.lt
  have O6_7 := Lib.hid (Tc.Is.past O6_6.out bk7)
  have S6_7 := Lib.hid (S6_6.out.past bk7)
  have cS6_7 := S6_7.out.cell
  have lS6_7 := S6_7.out.lt
  have X7_7 := Lib.hid (ha.past (below_alloc1 w7 (.cells #[.string x7.id, .int .i64 x7.pid, .int .i64 x7.gen, .int .i64 x7.no, .int .i64 x7.st, .slice x7.PA x7.Pn x7.Pc, .slice x7.GA x7.Gn x7.Gc, .int .i64 x7.at_] 33)))
  have T7_7 := Lib.hid (Has.newAt w7 #[.string x7.id, .int .i64 x7.pid, .int .i64 x7.gen, .int .i64 x7.no, .int .i64 x7.st, .slice x7.PA x7.Pn x7.Pc, .slice x7.GA x7.Gn x7.Gc, .int .i64 x7.at_] 33 (g := w7.heap.size) rfl)
  have cT7_7 := T7_7.out.cell
  have lT7_7 := T7_7.out.lt
  clear cTP6 lTP6 cS1_6 lS1_6 cS2_6 lS2_6 cS3_6 lS3_6 cS4_6 lS4_6 cS5_6 lS5_6 cS6_6 lS6_6 hb ha bk7
  go_wp2_with fail
  refine (findc_at O2_7.out lv8).mono ?_
  intro e w8 hx
  obtain ⟨x8, rfl, ha, hb⟩ := hx
  have bk8 := hb.alloc hb.size (.cells #[.string x8.id, .int .i64 x8.pid, .int .i64 x8.gen, .int .i64 x8.no, .int .i64 x8.st, .slice x8.PA x8.Pn x8.Pc, .slice x8.GA x8.Gn x8.Gc, .int .i64 x8.at_] 33)
  have B8 := Lib.hid (below_from bk8 B7.out B7.out.size)
  have TP8 := Lib.hid (TP7.out.past bk8)
  have cTP8 := TP8.out.cell
  have lTP8 := TP8.out.lt
  have O1_8 := Lib.hid (Tc.Is.past O1_7.out bk8)
  have S1_8 := Lib.hid (S1_7.out.past bk8)
  have cS1_8 := S1_8.out.cell
  have lS1_8 := S1_8.out.lt
  have O2_8 := Lib.hid (Tc.Is.past O2_7.out bk8)
  have S2_8 := Lib.hid (S2_7.out.past bk8)
  have cS2_8 := S2_8.out.cell
  have lS2_8 := S2_8.out.lt
  have O3_8 := Lib.hid (Tc.Is.past O3_7.out bk8)
  have S3_8 := Lib.hid (S3_7.out.past bk8)
  have cS3_8 := S3_8.out.cell
  have lS3_8 := S3_8.out.lt
  have O4_8 := Lib.hid (Tc.Is.past O4_7.out bk8)
  have S4_8 := Lib.hid (S4_7.out.past bk8)
  have cS4_8 := S4_8.out.cell
  have lS4_8 := S4_8.out.lt
  have O5_8 := Lib.hid (Tc.Is.past O5_7.out bk8)
  have S5_8 := Lib.hid (S5_7.out.past bk8)
  have cS5_8 := S5_8.out.cell
  have lS5_8 := S5_8.out.lt
  have O6_8 := Lib.hid (Tc.Is.past O6_7.out bk8)
  have S6_8 := Lib.hid (S6_7.out.past bk8)
  have cS6_8 := S6_8.out.cell
  have lS6_8 := S6_8.out.lt
  have X7_8 := Lib.hid (Tx.Is.past X7_7.out bk8)
  have T7_8 := Lib.hid (T7_7.out.past bk8)
  have cT7_8 := T7_8.out.cell
  have lT7_8 := T7_8.out.lt
  have X8_8 := Lib.hid (ha.past (below_alloc1 w8 (.cells #[.string x8.id, .int .i64 x8.pid, .int .i64 x8.gen, .int .i64 x8.no, .int .i64 x8.st, .slice x8.PA x8.Pn x8.Pc, .slice x8.GA x8.Gn x8.Gc, .int .i64 x8.at_] 33)))
  have T8_8 := Lib.hid (Has.newAt w8 #[.string x8.id, .int .i64 x8.pid, .int .i64 x8.gen, .int .i64 x8.no, .int .i64 x8.st, .slice x8.PA x8.Pn x8.Pc, .slice x8.GA x8.Gn x8.Gc, .int .i64 x8.at_] 33 (g := w8.heap.size) rfl)
  have cT8_8 := T8_8.out.cell
  have lT8_8 := T8_8.out.lt
  clear cTP7 lTP7 cS1_7 lS1_7 cS2_7 lS2_7 cS3_7 lS3_7 cS4_7 lS4_7 cS5_7 lS5_7 cS6_7 lS6_7 cT7_7 lT7_7 hb ha bk8
  go_wp2_with fail
  refine (end_at O6_8.out lfD lv9).mono ?_
  intro e w9 hx
  obtain ⟨o9, rfl, ha, hb⟩ := hx
  have bk9 := hb.alloc hb.size (.cells #[.int .i64 o9.next, .slice o9.A o9.n o9.c] 24)
  have B9 := Lib.hid (below_from bk9 B8.out B8.out.size)
  have TP9 := Lib.hid (TP8.out.past bk9)
  have cTP9 := TP9.out.cell
  have lTP9 := TP9.out.lt
  have O1_9 := Lib.hid (Tc.Is.past O1_8.out bk9)
  have S1_9 := Lib.hid (S1_8.out.past bk9)
  have cS1_9 := S1_9.out.cell
  have lS1_9 := S1_9.out.lt
  have O2_9 := Lib.hid (Tc.Is.past O2_8.out bk9)
  have S2_9 := Lib.hid (S2_8.out.past bk9)
  have cS2_9 := S2_9.out.cell
  have lS2_9 := S2_9.out.lt
  have O3_9 := Lib.hid (Tc.Is.past O3_8.out bk9)
  have S3_9 := Lib.hid (S3_8.out.past bk9)
  have cS3_9 := S3_9.out.cell
  have lS3_9 := S3_9.out.lt
  have O4_9 := Lib.hid (Tc.Is.past O4_8.out bk9)
  have S4_9 := Lib.hid (S4_8.out.past bk9)
  have cS4_9 := S4_9.out.cell
  have lS4_9 := S4_9.out.lt
  have O5_9 := Lib.hid (Tc.Is.past O5_8.out bk9)
  have S5_9 := Lib.hid (S5_8.out.past bk9)
  have cS5_9 := S5_9.out.cell
  have lS5_9 := S5_9.out.lt
  have O6_9 := Lib.hid (Tc.Is.past O6_8.out bk9)
  have S6_9 := Lib.hid (S6_8.out.past bk9)
  have cS6_9 := S6_9.out.cell
  have lS6_9 := S6_9.out.lt
  have X7_9 := Lib.hid (Tx.Is.past X7_8.out bk9)
  have T7_9 := Lib.hid (T7_8.out.past bk9)
  have cT7_9 := T7_9.out.cell
  have lT7_9 := T7_9.out.lt
  have X8_9 := Lib.hid (Tx.Is.past X8_8.out bk9)
  have T8_9 := Lib.hid (T8_8.out.past bk9)
  have cT8_9 := T8_9.out.cell
  have lT8_9 := T8_9.out.lt
  have O9_9 := Lib.hid (ha.past (below_alloc1 w9 (.cells #[.int .i64 o9.next, .slice o9.A o9.n o9.c] 24)))
  have S9_9 := Lib.hid (Has.newAt w9 #[.int .i64 o9.next, .slice o9.A o9.n o9.c] 24 (g := w9.heap.size) rfl)
  have cS9_9 := S9_9.out.cell
  have lS9_9 := S9_9.out.lt
  clear cTP8 lTP8 cS1_8 lS1_8 cS2_8 lS2_8 cS3_8 lS3_8 cS4_8 lS4_8 cS5_8 lS5_8 cS6_8 lS6_8 cT7_8 lT7_8 cT8_8 lT8_8 hb ha bk9
  go_wp2_with fail
  refine (init_at O6_9.out lfD (by decide) lv10).mono ?_
  intro e w10 hx
  obtain ⟨o10, rfl, ha, hb⟩ := hx
  have bk10 := hb.alloc hb.size (.cells #[.int .i64 o10.next, .slice o10.A o10.n o10.c] 24)
  have B10 := Lib.hid (below_from bk10 B9.out B9.out.size)
  have TP10 := Lib.hid (TP9.out.past bk10)
  have cTP10 := TP10.out.cell
  have lTP10 := TP10.out.lt
  have O1_10 := Lib.hid (Tc.Is.past O1_9.out bk10)
  have S1_10 := Lib.hid (S1_9.out.past bk10)
  have cS1_10 := S1_10.out.cell
  have lS1_10 := S1_10.out.lt
  have O2_10 := Lib.hid (Tc.Is.past O2_9.out bk10)
  have S2_10 := Lib.hid (S2_9.out.past bk10)
  have cS2_10 := S2_10.out.cell
  have lS2_10 := S2_10.out.lt
  have O3_10 := Lib.hid (Tc.Is.past O3_9.out bk10)
  have S3_10 := Lib.hid (S3_9.out.past bk10)
  have cS3_10 := S3_10.out.cell
  have lS3_10 := S3_10.out.lt
  have O4_10 := Lib.hid (Tc.Is.past O4_9.out bk10)
  have S4_10 := Lib.hid (S4_9.out.past bk10)
  have cS4_10 := S4_10.out.cell
  have lS4_10 := S4_10.out.lt
  have O5_10 := Lib.hid (Tc.Is.past O5_9.out bk10)
  have S5_10 := Lib.hid (S5_9.out.past bk10)
  have cS5_10 := S5_10.out.cell
  have lS5_10 := S5_10.out.lt
  have O6_10 := Lib.hid (Tc.Is.past O6_9.out bk10)
  have S6_10 := Lib.hid (S6_9.out.past bk10)
  have cS6_10 := S6_10.out.cell
  have lS6_10 := S6_10.out.lt
  have X7_10 := Lib.hid (Tx.Is.past X7_9.out bk10)
  have T7_10 := Lib.hid (T7_9.out.past bk10)
  have cT7_10 := T7_10.out.cell
  have lT7_10 := T7_10.out.lt
  have X8_10 := Lib.hid (Tx.Is.past X8_9.out bk10)
  have T8_10 := Lib.hid (T8_9.out.past bk10)
  have cT8_10 := T8_10.out.cell
  have lT8_10 := T8_10.out.lt
  have O9_10 := Lib.hid (Tc.Is.past O9_9.out bk10)
  have S9_10 := Lib.hid (S9_9.out.past bk10)
  have cS9_10 := S9_10.out.cell
  have lS9_10 := S9_10.out.lt
  have O10_10 := Lib.hid (ha.past (below_alloc1 w10 (.cells #[.int .i64 o10.next, .slice o10.A o10.n o10.c] 24)))
  have S10_10 := Lib.hid (Has.newAt w10 #[.int .i64 o10.next, .slice o10.A o10.n o10.c] 24 (g := w10.heap.size) rfl)
  have cS10_10 := S10_10.out.cell
  have lS10_10 := S10_10.out.lt
  clear cTP9 lTP9 cS1_9 lS1_9 cS2_9 lS2_9 cS3_9 lS3_9 cS4_9 lS4_9 cS5_9 lS5_9 cS6_9 lS6_9 cT7_9 lT7_9 cT8_9 lT8_9 cS9_9 lS9_9 hb ha bk10
  have z1 : x7.no = 1 := congrArg Tv.no X7_10.out.2
  have z2 : x7.st = 0 := congrArg Tv.st X7_10.out.2
  have z3 : x8.st = 1 := congrArg Tv.st X8_10.out.2
  have z4 : x8.at_ = 6 := congrArg Tv.at_ X8_10.out.2
  have z5 : x7.Pn = 0 := by
    have h1 := X7_10.out.1.p.len
    have h2 : x7.P = [] := congrArg Tv.P X7_10.out.2
    rw [h2] at h1
    exact h1.symm
  rw [z1, z2, z5] at cT7_10
  rw [z3, z4] at cT8_10
  clear z1 z2 z3 z4 z5
  go_upto_region 14 with (fail)
  obtain ⟨W9, hW9⟩ : ∃ W, W = w10.alloc (.cells #[.int .i64 o10.next, .slice o10.A o10.n o10.c] 24) := ⟨_, rfl⟩
  rw [← hW9] at B10 S2_10 S6_10 O2_10 O3_10 O6_10 cT7_10 cT8_10 cS2_10 cS6_10 cS3_10 lT7_10 lT8_10 lS2_10 lS6_10 lS3_10 S3_10
  rw [← hW9]
  clear hW9
  have F0 := Lib.hid (Below.refl W9.heap.size W9)
  have DU := Lib.hid (fun W (h : Below W9.heap.size W9 W) => due_at (O3_10.out.past h) lfC lv11)
  have OL := Lib.hid (fun W (h : Below W9.heap.size W9 W) => old_at (O2_10.out.past h) lfB lv12 rfl)
  have OM := Lib.hid (fun W (h : Below W9.heap.size W9 W) => old_at (O2_10.out.past h) lfB lv13 rfl)
  have CA := Lib.hid (fun W (h : Below W9.heap.size W9 W) => check_at (O6_10.out.past h) lfD lv14)
  have CB := Lib.hid (fun W => check_at (w := W) (o := ⟨-1, none, 0, 0, []⟩) (V := ⟨-1, []⟩) (c := 1) ⟨Sl.nil _ _, rfl⟩ ⟨by decide, by simp⟩ lv15)
  go_wp2_with (first
    | (go_at_call 22; refine (DU.out _ F0.out).mono ?_; rintro e w11 ⟨A1, c1, l1, rfl, _, hb⟩; have F1 := Lib.hid (below_from hb F0.out F0.out.size); have g2 := (S2_10.out.past F1.out).cell; have g6 := (S6_10.out.past F1.out).cell; have m2 := (S2_10.out.past F1.out).lt; have m6 := (S6_10.out.past F1.out).lt; clear hb cT7_10 cT8_10 cS2_10 cS6_10 cS3_10 lT7_10 lT8_10 lS2_10 lS6_10 lS3_10)
    | (go_at_call 25; have F2' := F2; refine (OM.out _ F2.out).mono ?_; rintro e w13 ⟨A3, c3, rfl, _, hb⟩; have F3 := Lib.hid (below_from hb F2.out F2.out.size); have k6 := (S6_10.out.past F3.out).cell; have n6 := (S6_10.out.past F3.out).lt; clear hb h2_ h6_ j2 j6 F2')
    | (go_at_call 25; refine (OL.out _ F1.out).mono ?_; rintro e w12 ⟨A2, c2, rfl, _, hb⟩; have F2 := Lib.hid (below_from hb F1.out F1.out.size); have h2_ := (S2_10.out.past F2.out).cell; have h6_ := (S6_10.out.past F2.out).cell; have j2 := (S2_10.out.past F2.out).lt; have j6 := (S6_10.out.past F2.out).lt; clear hb g2 g6 m2 m6)
    | (go_at_call 18; have F4' := F4; refine (CB.out _).mono ?_; rintro e w15 ⟨rfl, hb⟩; have F5 := Lib.hid (below_from hb F4.out F4.out.size); clear hb F4')
    | (go_at_call 18; refine (CA.out _ F3.out).mono ?_; rintro e w14 ⟨rfl, hb⟩; have F4 := Lib.hid (below_from hb F3.out F3.out.size); clear hb k6 n6))
  go_ret
  exact ⟨rfl, below_from F5.out B10.out B10.out.size⟩

end Go.Proofs.Ytnigjchgpmladaa
