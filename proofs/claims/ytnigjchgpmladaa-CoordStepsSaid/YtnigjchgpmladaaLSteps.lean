/- CoordSteps: as the document's. -/
import Derived.Test.YtnigjchgpmladaaRAt
import Derived.Test.YtnigjchgpmladaaAv
import Derived.Test.YtnigjchgpmladaaLive
import Derived.Deep.DeepCutAuto
namespace Go.Proofs.Ytnigjchgpmladaa
open Go.RowKit Go.Shelf

set_option maxHeartbeats 16000000 in
set_option maxRecDepth 100000 in
theorem lsteps_any (o : Tc) (a : Av) (w : World) (ho : Tc.At w o) (ha : a.wf) : Calls Try.prog 6 #[o.v, a.v] w fun e w' => e = .returned (.bool true) ∧ Below w.heap.size w w' := by
  have bw : Below w.heap.size w ((w.alloc (.cells #[.int .i64 o.next, .slice o.A o.n o.c] 24)).alloc (.cells #[.string a.id, .int .i64 a.pid, .int .i64 a.gen, .string a.tp.t, .int .i64 a.tp.p, .int .i64 a.tp.h, .string a.g, .bool a.yes, .int .i64 a.now] 47)) := (below_alloc1 w _).alloc (by simp) _
  obtain ⟨W0, hW0⟩ : ∃ W, W = ((w.alloc (.cells #[.int .i64 o.next, .slice o.A o.n o.c] 24)).alloc (.cells #[.string a.id, .int .i64 a.pid, .int .i64 a.gen, .string a.tp.t, .int .i64 a.tp.p, .int .i64 a.tp.h, .string a.g, .bool a.yes, .int .i64 a.now] 47)) := ⟨_, rfl⟩
  rw [← hW0] at bw
  have B0 := Lib.hid bw
  have SO0 := Lib.hid (show Has W0 w.heap.size #[.int .i64 o.next, .slice o.A o.n o.c] from by rw [hW0]; exact (Has.newAt w _ 24 rfl).alloc _)
  have cSO0 := SO0.out.cell
  have lSO0 := SO0.out.lt
  have SA0 := Lib.hid (show Has W0 (w.heap.size + 1) #[.string a.id, .int .i64 a.pid, .int .i64 a.gen, .string a.tp.t, .int .i64 a.tp.p, .int .i64 a.tp.h, .string a.g, .bool a.yes, .int .i64 a.now] from by rw [hW0]; exact Has.newAt _ _ 47 (by simp))
  have cSA0 := SA0.out.cell
  have lSA0 := SA0.out.lt
  have O0 := Lib.hid (show Tc.Is W0 o o.val from ⟨ho.below bw, rfl⟩)
  have HWW := Lib.hid hW0
  have LV := Lib.hid live_any
  have HA := Lib.hid ha
  clear bw ho hW0  ha
  go_enter Try.func6, Try.ntmps6
  go_upto_region 1 with (fail)
  rw [← HWW.out]
  go_wp2_with fail
  refine (LV.out _).mono ?_
  intro e w1 hx
  obtain ⟨rfl, hb⟩ := hx
  have B1 := Lib.hid (below_from hb B0.out B0.out.size)
  have SO1 := Lib.hid (SO0.out.past hb)
  have cSO1 := SO1.out.cell
  have lSO1 := SO1.out.lt
  have SA1 := Lib.hid (SA0.out.past hb)
  have cSA1 := SA1.out.cell
  have lSA1 := SA1.out.lt
  have O1 := Lib.hid (Tc.Is.past O0.out hb)
  clear cSO0 lSO0 cSA0 lSA0 hb
  go_wp2_with fail
  cases hfw : fewB o.val with
  | false =>
    refine (few_at O1.out hfw).mono ?_
    intro e w2 hx
    obtain ⟨rfl, hb⟩ := hx
    have B2 := Lib.hid (below_from hb B1.out B1.out.size)
    have SO2 := Lib.hid (SO1.out.past hb)
    have cSO2 := SO2.out.cell
    have lSO2 := SO2.out.lt
    have SA2 := Lib.hid (SA1.out.past hb)
    have cSA2 := SA2.out.cell
    have lSA2 := SA2.out.lt
    have O2 := Lib.hid (Tc.Is.past O1.out hb)
    clear cSO1 lSO1 cSA1 lSA1 hb
    go_wp2_with fail
    go_ret
    exact ⟨rfl, B2.out⟩
  | true =>
  have FEW := Lib.hid (fewB_few hfw)
  refine (few_at O1.out hfw).mono ?_
  intro e w2 hx
  obtain ⟨rfl, hb⟩ := hx
  have B2 := Lib.hid (below_from hb B1.out B1.out.size)
  have SO2 := Lib.hid (SO1.out.past hb)
  have cSO2 := SO2.out.cell
  have lSO2 := SO2.out.lt
  have SA2 := Lib.hid (SA1.out.past hb)
  have cSA2 := SA2.out.cell
  have lSA2 := SA2.out.lt
  have O2 := Lib.hid (Tc.Is.past O1.out hb)
  clear cSO1 lSO1 cSA1 lSA1 hb hfw
  go_wp2_with fail
  cases hsh : shortB a with
  | false =>
    have SH := Lib.hid (short_any a)
    rw [hsh] at SH
    clear hsh
    refine (SH.out _).mono ?_
    intro e w3 hx
    obtain ⟨rfl, hb⟩ := hx
    have B3 := Lib.hid (below_from hb B2.out B2.out.size)
    have SO3 := Lib.hid (SO2.out.past hb)
    have cSO3 := SO3.out.cell
    have lSO3 := SO3.out.lt
    have SA3 := Lib.hid (SA2.out.past hb)
    have cSA3 := SA3.out.cell
    have lSA3 := SA3.out.lt
    have O3 := Lib.hid (Tc.Is.past O2.out hb)
    clear cSO2 lSO2 cSA2 lSA2 hb
    go_wp2_with fail
    go_ret
    exact ⟨rfl, B3.out⟩
  | true =>
  have SH := Lib.hid (short_any a)
  rw [hsh] at SH
  clear hsh
  refine (SH.out _).mono ?_
  intro e w3 hx
  obtain ⟨rfl, hb⟩ := hx
  have B3 := Lib.hid (below_from hb B2.out B2.out.size)
  have SO3 := Lib.hid (SO2.out.past hb)
  have cSO3 := SO3.out.cell
  have lSO3 := SO3.out.lt
  have SA3 := Lib.hid (SA2.out.past hb)
  have cSA3 := SA3.out.cell
  have lSA3 := SA3.out.lt
  have O3 := Lib.hid (Tc.Is.past O2.out hb)
  clear cSO2 lSO2 cSA2 lSA2 hb
  obtain ⟨V1, hV1⟩ : ∃ V, addV o.val a.id a.pid a.gen a.tp a.now = V := ⟨_, rfl⟩
  obtain ⟨V1, e1⟩ := V1
  have H1 := Lib.hid hV1
  clear hV1
  obtain ⟨V2, hV2⟩ : ∃ V, sendV o.val a.id a.pid a.gen a.g a.now = V := ⟨_, rfl⟩
  obtain ⟨V2, e2⟩ := V2
  have H2 := Lib.hid hV2
  clear hV2
  obtain ⟨V3, hV3⟩ : ∃ V, endV o.val a.id a.pid a.gen a.yes = V := ⟨_, rfl⟩
  obtain ⟨V3, e3⟩ := V3
  have H3 := Lib.hid hV3
  clear hV3
  obtain ⟨V4, hV4⟩ : ∃ V, doneV o.val a.pid = V := ⟨_, rfl⟩
  obtain ⟨V4, e4⟩ := V4
  have H4 := Lib.hid hV4
  clear hV4
  go_wp2_with fail
  refine (add_at O3.out FEW.out HA.out.tp H1.out).mono ?_
  intro e w4 hx
  obtain ⟨o1, rfl, ha, hb⟩ := hx
  have bk4 := hb.alloc hb.size (.cells #[.int .i64 o1.next, .slice o1.A o1.n o1.c] 24)
  have B4 := Lib.hid (below_from bk4 B3.out B3.out.size)
  have SO4 := Lib.hid (SO3.out.past bk4)
  have cSO4 := SO4.out.cell
  have lSO4 := SO4.out.lt
  have SA4 := Lib.hid (SA3.out.past bk4)
  have cSA4 := SA4.out.cell
  have lSA4 := SA4.out.lt
  have O4 := Lib.hid (Tc.Is.past O3.out bk4)
  have O1_4 := Lib.hid (ha.past (below_alloc1 w4 (.cells #[.int .i64 o1.next, .slice o1.A o1.n o1.c] 24)))
  have S1_4 := Lib.hid (Has.newAt w4 #[.int .i64 o1.next, .slice o1.A o1.n o1.c] 24 (g := w4.heap.size) rfl)
  have cS1_4 := S1_4.out.cell
  have lS1_4 := S1_4.out.lt
  clear cSO3 lSO3 cSA3 lSA3 hb ha bk4
  go_wp2_with fail
  refine (radd_at O4.out FEW.out HA.out.tp H1.out).mono ?_
  intro e w5 hx
  obtain ⟨o2, rfl, ha, hb⟩ := hx
  have bk5 := hb.alloc hb.size (.cells #[.int .i64 o2.next, .slice o2.A o2.n o2.c] 24)
  have B5 := Lib.hid (below_from bk5 B4.out B4.out.size)
  have SO5 := Lib.hid (SO4.out.past bk5)
  have cSO5 := SO5.out.cell
  have lSO5 := SO5.out.lt
  have SA5 := Lib.hid (SA4.out.past bk5)
  have cSA5 := SA5.out.cell
  have lSA5 := SA5.out.lt
  have O5 := Lib.hid (Tc.Is.past O4.out bk5)
  have O1_5 := Lib.hid (Tc.Is.past O1_4.out bk5)
  have S1_5 := Lib.hid (S1_4.out.past bk5)
  have cS1_5 := S1_5.out.cell
  have lS1_5 := S1_5.out.lt
  have O2_5 := Lib.hid (ha.past (below_alloc1 w5 (.cells #[.int .i64 o2.next, .slice o2.A o2.n o2.c] 24)))
  have S2_5 := Lib.hid (Has.newAt w5 #[.int .i64 o2.next, .slice o2.A o2.n o2.c] 24 (g := w5.heap.size) rfl)
  have cS2_5 := S2_5.out.cell
  have lS2_5 := S2_5.out.lt
  clear cSO4 lSO4 cSA4 lSA4 cS1_4 lS1_4 hb ha bk5
  go_wp2_with fail
  refine (send_at O5.out FEW.out HA.out.g H2.out).mono ?_
  intro e w6 hx
  obtain ⟨o3, rfl, ha, hb⟩ := hx
  have bk6 := hb.alloc hb.size (.cells #[.int .i64 o3.next, .slice o3.A o3.n o3.c] 24)
  have B6 := Lib.hid (below_from bk6 B5.out B5.out.size)
  have SO6 := Lib.hid (SO5.out.past bk6)
  have cSO6 := SO6.out.cell
  have lSO6 := SO6.out.lt
  have SA6 := Lib.hid (SA5.out.past bk6)
  have cSA6 := SA6.out.cell
  have lSA6 := SA6.out.lt
  have O6 := Lib.hid (Tc.Is.past O5.out bk6)
  have O1_6 := Lib.hid (Tc.Is.past O1_5.out bk6)
  have S1_6 := Lib.hid (S1_5.out.past bk6)
  have cS1_6 := S1_6.out.cell
  have lS1_6 := S1_6.out.lt
  have O2_6 := Lib.hid (Tc.Is.past O2_5.out bk6)
  have S2_6 := Lib.hid (S2_5.out.past bk6)
  have cS2_6 := S2_6.out.cell
  have lS2_6 := S2_6.out.lt
  have O3_6 := Lib.hid (ha.past (below_alloc1 w6 (.cells #[.int .i64 o3.next, .slice o3.A o3.n o3.c] 24)))
  have S3_6 := Lib.hid (Has.newAt w6 #[.int .i64 o3.next, .slice o3.A o3.n o3.c] 24 (g := w6.heap.size) rfl)
  have cS3_6 := S3_6.out.cell
  have lS3_6 := S3_6.out.lt
  clear cSO5 lSO5 cSA5 lSA5 cS1_5 lS1_5 cS2_5 lS2_5 hb ha bk6
  go_wp2_with fail
  refine (rsend_at O6.out FEW.out HA.out.g H2.out).mono ?_
  intro e w7 hx
  obtain ⟨o4, rfl, ha, hb⟩ := hx
  have bk7 := hb.alloc hb.size (.cells #[.int .i64 o4.next, .slice o4.A o4.n o4.c] 24)
  have B7 := Lib.hid (below_from bk7 B6.out B6.out.size)
  have SO7 := Lib.hid (SO6.out.past bk7)
  have cSO7 := SO7.out.cell
  have lSO7 := SO7.out.lt
  have SA7 := Lib.hid (SA6.out.past bk7)
  have cSA7 := SA7.out.cell
  have lSA7 := SA7.out.lt
  have O7 := Lib.hid (Tc.Is.past O6.out bk7)
  have O1_7 := Lib.hid (Tc.Is.past O1_6.out bk7)
  have S1_7 := Lib.hid (S1_6.out.past bk7)
  have cS1_7 := S1_7.out.cell
  have lS1_7 := S1_7.out.lt
  have O2_7 := Lib.hid (Tc.Is.past O2_6.out bk7)
  have S2_7 := Lib.hid (S2_6.out.past bk7)
  have cS2_7 := S2_7.out.cell
  have lS2_7 := S2_7.out.lt
  have O3_7 := Lib.hid (Tc.Is.past O3_6.out bk7)
  have S3_7 := Lib.hid (S3_6.out.past bk7)
  have cS3_7 := S3_7.out.cell
  have lS3_7 := S3_7.out.lt
  have O4_7 := Lib.hid (ha.past (below_alloc1 w7 (.cells #[.int .i64 o4.next, .slice o4.A o4.n o4.c] 24)))
  have S4_7 := Lib.hid (Has.newAt w7 #[.int .i64 o4.next, .slice o4.A o4.n o4.c] 24 (g := w7.heap.size) rfl)
  have cS4_7 := S4_7.out.cell
  have lS4_7 := S4_7.out.lt
  clear cSO6 lSO6 cSA6 lSA6 cS1_6 lS1_6 cS2_6 lS2_6 cS3_6 lS3_6 hb ha bk7
  go_wp2_with fail
  refine (end_at O7.out FEW.out H3.out).mono ?_
  intro e w8 hx
  obtain ⟨o5, rfl, ha, hb⟩ := hx
  have bk8 := hb.alloc hb.size (.cells #[.int .i64 o5.next, .slice o5.A o5.n o5.c] 24)
  have B8 := Lib.hid (below_from bk8 B7.out B7.out.size)
  have SO8 := Lib.hid (SO7.out.past bk8)
  have cSO8 := SO8.out.cell
  have lSO8 := SO8.out.lt
  have SA8 := Lib.hid (SA7.out.past bk8)
  have cSA8 := SA8.out.cell
  have lSA8 := SA8.out.lt
  have O8 := Lib.hid (Tc.Is.past O7.out bk8)
  have O1_8 := Lib.hid (Tc.Is.past O1_7.out bk8)
  have S1_8 := Lib.hid (S1_7.out.past bk8)
  have cS1_8 := S1_8.out.cell
  have lS1_8 := S1_8.out.lt
  have O2_8 := Lib.hid (Tc.Is.past O2_7.out bk8)
  have S2_8 := Lib.hid (S2_7.out.past bk8)
  have cS2_8 := S2_8.out.cell
  have lS2_8 := S2_8.out.lt
  have O3_8 := Lib.hid (Tc.Is.past O3_7.out bk8)
  have S3_8 := Lib.hid (S3_7.out.past bk8)
  have cS3_8 := S3_8.out.cell
  have lS3_8 := S3_8.out.lt
  have O4_8 := Lib.hid (Tc.Is.past O4_7.out bk8)
  have S4_8 := Lib.hid (S4_7.out.past bk8)
  have cS4_8 := S4_8.out.cell
  have lS4_8 := S4_8.out.lt
  have O5_8 := Lib.hid (ha.past (below_alloc1 w8 (.cells #[.int .i64 o5.next, .slice o5.A o5.n o5.c] 24)))
  have S5_8 := Lib.hid (Has.newAt w8 #[.int .i64 o5.next, .slice o5.A o5.n o5.c] 24 (g := w8.heap.size) rfl)
  have cS5_8 := S5_8.out.cell
  have lS5_8 := S5_8.out.lt
  clear cSO7 lSO7 cSA7 lSA7 cS1_7 lS1_7 cS2_7 lS2_7 cS3_7 lS3_7 cS4_7 lS4_7 hb ha bk8
  go_wp2_with fail
  refine (rend_at O8.out FEW.out H3.out).mono ?_
  intro e w9 hx
  obtain ⟨o6, rfl, ha, hb⟩ := hx
  have bk9 := hb.alloc hb.size (.cells #[.int .i64 o6.next, .slice o6.A o6.n o6.c] 24)
  have B9 := Lib.hid (below_from bk9 B8.out B8.out.size)
  have SO9 := Lib.hid (SO8.out.past bk9)
  have cSO9 := SO9.out.cell
  have lSO9 := SO9.out.lt
  have SA9 := Lib.hid (SA8.out.past bk9)
  have cSA9 := SA9.out.cell
  have lSA9 := SA9.out.lt
  have O9 := Lib.hid (Tc.Is.past O8.out bk9)
  have O1_9 := Lib.hid (Tc.Is.past O1_8.out bk9)
  have S1_9 := Lib.hid (S1_8.out.past bk9)
  have cS1_9 := S1_9.out.cell
  have lS1_9 := S1_9.out.lt
  have O2_9 := Lib.hid (Tc.Is.past O2_8.out bk9)
  have S2_9 := Lib.hid (S2_8.out.past bk9)
  have cS2_9 := S2_9.out.cell
  have lS2_9 := S2_9.out.lt
  have O3_9 := Lib.hid (Tc.Is.past O3_8.out bk9)
  have S3_9 := Lib.hid (S3_8.out.past bk9)
  have cS3_9 := S3_9.out.cell
  have lS3_9 := S3_9.out.lt
  have O4_9 := Lib.hid (Tc.Is.past O4_8.out bk9)
  have S4_9 := Lib.hid (S4_8.out.past bk9)
  have cS4_9 := S4_9.out.cell
  have lS4_9 := S4_9.out.lt
  have O5_9 := Lib.hid (Tc.Is.past O5_8.out bk9)
  have S5_9 := Lib.hid (S5_8.out.past bk9)
  have cS5_9 := S5_9.out.cell
  have lS5_9 := S5_9.out.lt
  have O6_9 := Lib.hid (ha.past (below_alloc1 w9 (.cells #[.int .i64 o6.next, .slice o6.A o6.n o6.c] 24)))
  have S6_9 := Lib.hid (Has.newAt w9 #[.int .i64 o6.next, .slice o6.A o6.n o6.c] 24 (g := w9.heap.size) rfl)
  have cS6_9 := S6_9.out.cell
  have lS6_9 := S6_9.out.lt
  clear cSO8 lSO8 cSA8 lSA8 cS1_8 lS1_8 cS2_8 lS2_8 cS3_8 lS3_8 cS4_8 lS4_8 cS5_8 lS5_8 hb ha bk9
  go_wp2_with fail
  refine (done_at O9.out FEW.out H4.out).mono ?_
  intro e w10 hx
  obtain ⟨o7, rfl, ha, hb⟩ := hx
  have bk10 := hb.alloc hb.size (.cells #[.int .i64 o7.next, .slice o7.A o7.n o7.c] 24)
  have B10 := Lib.hid (below_from bk10 B9.out B9.out.size)
  have SO10 := Lib.hid (SO9.out.past bk10)
  have cSO10 := SO10.out.cell
  have lSO10 := SO10.out.lt
  have SA10 := Lib.hid (SA9.out.past bk10)
  have cSA10 := SA10.out.cell
  have lSA10 := SA10.out.lt
  have O10 := Lib.hid (Tc.Is.past O9.out bk10)
  have O1_10 := Lib.hid (Tc.Is.past O1_9.out bk10)
  have S1_10 := Lib.hid (S1_9.out.past bk10)
  have cS1_10 := S1_10.out.cell
  have lS1_10 := S1_10.out.lt
  have O2_10 := Lib.hid (Tc.Is.past O2_9.out bk10)
  have S2_10 := Lib.hid (S2_9.out.past bk10)
  have cS2_10 := S2_10.out.cell
  have lS2_10 := S2_10.out.lt
  have O3_10 := Lib.hid (Tc.Is.past O3_9.out bk10)
  have S3_10 := Lib.hid (S3_9.out.past bk10)
  have cS3_10 := S3_10.out.cell
  have lS3_10 := S3_10.out.lt
  have O4_10 := Lib.hid (Tc.Is.past O4_9.out bk10)
  have S4_10 := Lib.hid (S4_9.out.past bk10)
  have cS4_10 := S4_10.out.cell
  have lS4_10 := S4_10.out.lt
  have O5_10 := Lib.hid (Tc.Is.past O5_9.out bk10)
  have S5_10 := Lib.hid (S5_9.out.past bk10)
  have cS5_10 := S5_10.out.cell
  have lS5_10 := S5_10.out.lt
  have O6_10 := Lib.hid (Tc.Is.past O6_9.out bk10)
  have S6_10 := Lib.hid (S6_9.out.past bk10)
  have cS6_10 := S6_10.out.cell
  have lS6_10 := S6_10.out.lt
  have O7_10 := Lib.hid (ha.past (below_alloc1 w10 (.cells #[.int .i64 o7.next, .slice o7.A o7.n o7.c] 24)))
  have S7_10 := Lib.hid (Has.newAt w10 #[.int .i64 o7.next, .slice o7.A o7.n o7.c] 24 (g := w10.heap.size) rfl)
  have cS7_10 := S7_10.out.cell
  have lS7_10 := S7_10.out.lt
  clear cSO9 lSO9 cSA9 lSA9 cS1_9 lS1_9 cS2_9 lS2_9 cS3_9 lS3_9 cS4_9 lS4_9 cS5_9 lS5_9 cS6_9 lS6_9 hb ha bk10
  go_wp2_with fail
  refine (rdone_at O10.out FEW.out H4.out).mono ?_
  intro e w11 hx
  obtain ⟨o8, rfl, ha, hb⟩ := hx
  have bk11 := hb.alloc hb.size (.cells #[.int .i64 o8.next, .slice o8.A o8.n o8.c] 24)
  have B11 := Lib.hid (below_from bk11 B10.out B10.out.size)
  have SO11 := Lib.hid (SO10.out.past bk11)
  have cSO11 := SO11.out.cell
  have lSO11 := SO11.out.lt
  have SA11 := Lib.hid (SA10.out.past bk11)
  have cSA11 := SA11.out.cell
  have lSA11 := SA11.out.lt
  have O11 := Lib.hid (Tc.Is.past O10.out bk11)
  have O1_11 := Lib.hid (Tc.Is.past O1_10.out bk11)
  have S1_11 := Lib.hid (S1_10.out.past bk11)
  have cS1_11 := S1_11.out.cell
  have lS1_11 := S1_11.out.lt
  have O2_11 := Lib.hid (Tc.Is.past O2_10.out bk11)
  have S2_11 := Lib.hid (S2_10.out.past bk11)
  have cS2_11 := S2_11.out.cell
  have lS2_11 := S2_11.out.lt
  have O3_11 := Lib.hid (Tc.Is.past O3_10.out bk11)
  have S3_11 := Lib.hid (S3_10.out.past bk11)
  have cS3_11 := S3_11.out.cell
  have lS3_11 := S3_11.out.lt
  have O4_11 := Lib.hid (Tc.Is.past O4_10.out bk11)
  have S4_11 := Lib.hid (S4_10.out.past bk11)
  have cS4_11 := S4_11.out.cell
  have lS4_11 := S4_11.out.lt
  have O5_11 := Lib.hid (Tc.Is.past O5_10.out bk11)
  have S5_11 := Lib.hid (S5_10.out.past bk11)
  have cS5_11 := S5_11.out.cell
  have lS5_11 := S5_11.out.lt
  have O6_11 := Lib.hid (Tc.Is.past O6_10.out bk11)
  have S6_11 := Lib.hid (S6_10.out.past bk11)
  have cS6_11 := S6_11.out.cell
  have lS6_11 := S6_11.out.lt
  have O7_11 := Lib.hid (Tc.Is.past O7_10.out bk11)
  have S7_11 := Lib.hid (S7_10.out.past bk11)
  have cS7_11 := S7_11.out.cell
  have lS7_11 := S7_11.out.lt
  have O8_11 := Lib.hid (ha.past (below_alloc1 w11 (.cells #[.int .i64 o8.next, .slice o8.A o8.n o8.c] 24)))
  have S8_11 := Lib.hid (Has.newAt w11 #[.int .i64 o8.next, .slice o8.A o8.n o8.c] 24 (g := w11.heap.size) rfl)
  have cS8_11 := S8_11.out.cell
  have lS8_11 := S8_11.out.lt
  clear cSO10 lSO10 cSA10 lSA10 cS1_10 lS1_10 cS2_10 lS2_10 cS3_10 lS3_10 cS4_10 lS4_10 cS5_10 lS5_10 cS6_10 lS6_10 cS7_10 lS7_10 hb ha bk11
  go_wp2_with fail
  refine (same_at O1_11.out O2_11.out).mono ?_
  intro e w13 hx
  obtain ⟨rfl, hb⟩ := hx
  have B12 := Lib.hid (below_from hb B11.out B11.out.size)
  have SO12 := Lib.hid (SO11.out.past hb)
  have cSO12 := SO12.out.cell
  have lSO12 := SO12.out.lt
  have SA12 := Lib.hid (SA11.out.past hb)
  have cSA12 := SA12.out.cell
  have lSA12 := SA12.out.lt
  have O12 := Lib.hid (Tc.Is.past O11.out hb)
  have O1_12 := Lib.hid (Tc.Is.past O1_11.out hb)
  have S1_12 := Lib.hid (S1_11.out.past hb)
  have cS1_12 := S1_12.out.cell
  have lS1_12 := S1_12.out.lt
  have O2_12 := Lib.hid (Tc.Is.past O2_11.out hb)
  have S2_12 := Lib.hid (S2_11.out.past hb)
  have cS2_12 := S2_12.out.cell
  have lS2_12 := S2_12.out.lt
  have O3_12 := Lib.hid (Tc.Is.past O3_11.out hb)
  have S3_12 := Lib.hid (S3_11.out.past hb)
  have cS3_12 := S3_12.out.cell
  have lS3_12 := S3_12.out.lt
  have O4_12 := Lib.hid (Tc.Is.past O4_11.out hb)
  have S4_12 := Lib.hid (S4_11.out.past hb)
  have cS4_12 := S4_12.out.cell
  have lS4_12 := S4_12.out.lt
  have O5_12 := Lib.hid (Tc.Is.past O5_11.out hb)
  have S5_12 := Lib.hid (S5_11.out.past hb)
  have cS5_12 := S5_12.out.cell
  have lS5_12 := S5_12.out.lt
  have O6_12 := Lib.hid (Tc.Is.past O6_11.out hb)
  have S6_12 := Lib.hid (S6_11.out.past hb)
  have cS6_12 := S6_12.out.cell
  have lS6_12 := S6_12.out.lt
  have O7_12 := Lib.hid (Tc.Is.past O7_11.out hb)
  have S7_12 := Lib.hid (S7_11.out.past hb)
  have cS7_12 := S7_12.out.cell
  have lS7_12 := S7_12.out.lt
  have O8_12 := Lib.hid (Tc.Is.past O8_11.out hb)
  have S8_12 := Lib.hid (S8_11.out.past hb)
  have cS8_12 := S8_12.out.cell
  have lS8_12 := S8_12.out.lt
  clear cSO11 lSO11 cSA11 lSA11 cS1_11 lS1_11 cS2_11 lS2_11 cS3_11 lS3_11 cS4_11 lS4_11 cS5_11 lS5_11 cS6_11 lS6_11 cS7_11 lS7_11 cS8_11 lS8_11 hb
  go_wp2_with fail
  refine (same_at O3_12.out O4_12.out).mono ?_
  intro e w15 hx
  obtain ⟨rfl, hb⟩ := hx
  have B13 := Lib.hid (below_from hb B12.out B12.out.size)
  have SO13 := Lib.hid (SO12.out.past hb)
  have cSO13 := SO13.out.cell
  have lSO13 := SO13.out.lt
  have SA13 := Lib.hid (SA12.out.past hb)
  have cSA13 := SA13.out.cell
  have lSA13 := SA13.out.lt
  have O13 := Lib.hid (Tc.Is.past O12.out hb)
  have O1_13 := Lib.hid (Tc.Is.past O1_12.out hb)
  have S1_13 := Lib.hid (S1_12.out.past hb)
  have cS1_13 := S1_13.out.cell
  have lS1_13 := S1_13.out.lt
  have O2_13 := Lib.hid (Tc.Is.past O2_12.out hb)
  have S2_13 := Lib.hid (S2_12.out.past hb)
  have cS2_13 := S2_13.out.cell
  have lS2_13 := S2_13.out.lt
  have O3_13 := Lib.hid (Tc.Is.past O3_12.out hb)
  have S3_13 := Lib.hid (S3_12.out.past hb)
  have cS3_13 := S3_13.out.cell
  have lS3_13 := S3_13.out.lt
  have O4_13 := Lib.hid (Tc.Is.past O4_12.out hb)
  have S4_13 := Lib.hid (S4_12.out.past hb)
  have cS4_13 := S4_13.out.cell
  have lS4_13 := S4_13.out.lt
  have O5_13 := Lib.hid (Tc.Is.past O5_12.out hb)
  have S5_13 := Lib.hid (S5_12.out.past hb)
  have cS5_13 := S5_13.out.cell
  have lS5_13 := S5_13.out.lt
  have O6_13 := Lib.hid (Tc.Is.past O6_12.out hb)
  have S6_13 := Lib.hid (S6_12.out.past hb)
  have cS6_13 := S6_13.out.cell
  have lS6_13 := S6_13.out.lt
  have O7_13 := Lib.hid (Tc.Is.past O7_12.out hb)
  have S7_13 := Lib.hid (S7_12.out.past hb)
  have cS7_13 := S7_13.out.cell
  have lS7_13 := S7_13.out.lt
  have O8_13 := Lib.hid (Tc.Is.past O8_12.out hb)
  have S8_13 := Lib.hid (S8_12.out.past hb)
  have cS8_13 := S8_13.out.cell
  have lS8_13 := S8_13.out.lt
  clear cSO12 lSO12 cSA12 lSA12 cS1_12 lS1_12 cS2_12 lS2_12 cS3_12 lS3_12 cS4_12 lS4_12 cS5_12 lS5_12 cS6_12 lS6_12 cS7_12 lS7_12 cS8_12 lS8_12 hb
  go_wp2_with fail
  refine (same_at O5_13.out O6_13.out).mono ?_
  intro e w17 hx
  obtain ⟨rfl, hb⟩ := hx
  have B14 := Lib.hid (below_from hb B13.out B13.out.size)
  have SO14 := Lib.hid (SO13.out.past hb)
  have cSO14 := SO14.out.cell
  have lSO14 := SO14.out.lt
  have SA14 := Lib.hid (SA13.out.past hb)
  have cSA14 := SA14.out.cell
  have lSA14 := SA14.out.lt
  have O14 := Lib.hid (Tc.Is.past O13.out hb)
  have O1_14 := Lib.hid (Tc.Is.past O1_13.out hb)
  have S1_14 := Lib.hid (S1_13.out.past hb)
  have cS1_14 := S1_14.out.cell
  have lS1_14 := S1_14.out.lt
  have O2_14 := Lib.hid (Tc.Is.past O2_13.out hb)
  have S2_14 := Lib.hid (S2_13.out.past hb)
  have cS2_14 := S2_14.out.cell
  have lS2_14 := S2_14.out.lt
  have O3_14 := Lib.hid (Tc.Is.past O3_13.out hb)
  have S3_14 := Lib.hid (S3_13.out.past hb)
  have cS3_14 := S3_14.out.cell
  have lS3_14 := S3_14.out.lt
  have O4_14 := Lib.hid (Tc.Is.past O4_13.out hb)
  have S4_14 := Lib.hid (S4_13.out.past hb)
  have cS4_14 := S4_14.out.cell
  have lS4_14 := S4_14.out.lt
  have O5_14 := Lib.hid (Tc.Is.past O5_13.out hb)
  have S5_14 := Lib.hid (S5_13.out.past hb)
  have cS5_14 := S5_14.out.cell
  have lS5_14 := S5_14.out.lt
  have O6_14 := Lib.hid (Tc.Is.past O6_13.out hb)
  have S6_14 := Lib.hid (S6_13.out.past hb)
  have cS6_14 := S6_14.out.cell
  have lS6_14 := S6_14.out.lt
  have O7_14 := Lib.hid (Tc.Is.past O7_13.out hb)
  have S7_14 := Lib.hid (S7_13.out.past hb)
  have cS7_14 := S7_14.out.cell
  have lS7_14 := S7_14.out.lt
  have O8_14 := Lib.hid (Tc.Is.past O8_13.out hb)
  have S8_14 := Lib.hid (S8_13.out.past hb)
  have cS8_14 := S8_14.out.cell
  have lS8_14 := S8_14.out.lt
  clear cSO13 lSO13 cSA13 lSA13 cS1_13 lS1_13 cS2_13 lS2_13 cS3_13 lS3_13 cS4_13 lS4_13 cS5_13 lS5_13 cS6_13 lS6_13 cS7_13 lS7_13 cS8_13 lS8_13 hb
  go_wp2_with fail
  refine (same_at O7_14.out O8_14.out).mono ?_
  intro e w19 hx
  obtain ⟨rfl, hb⟩ := hx
  have B15 := Lib.hid (below_from hb B14.out B14.out.size)
  have SO15 := Lib.hid (SO14.out.past hb)
  have cSO15 := SO15.out.cell
  have lSO15 := SO15.out.lt
  have SA15 := Lib.hid (SA14.out.past hb)
  have cSA15 := SA15.out.cell
  have lSA15 := SA15.out.lt
  have O15 := Lib.hid (Tc.Is.past O14.out hb)
  have O1_15 := Lib.hid (Tc.Is.past O1_14.out hb)
  have S1_15 := Lib.hid (S1_14.out.past hb)
  have cS1_15 := S1_15.out.cell
  have lS1_15 := S1_15.out.lt
  have O2_15 := Lib.hid (Tc.Is.past O2_14.out hb)
  have S2_15 := Lib.hid (S2_14.out.past hb)
  have cS2_15 := S2_15.out.cell
  have lS2_15 := S2_15.out.lt
  have O3_15 := Lib.hid (Tc.Is.past O3_14.out hb)
  have S3_15 := Lib.hid (S3_14.out.past hb)
  have cS3_15 := S3_15.out.cell
  have lS3_15 := S3_15.out.lt
  have O4_15 := Lib.hid (Tc.Is.past O4_14.out hb)
  have S4_15 := Lib.hid (S4_14.out.past hb)
  have cS4_15 := S4_15.out.cell
  have lS4_15 := S4_15.out.lt
  have O5_15 := Lib.hid (Tc.Is.past O5_14.out hb)
  have S5_15 := Lib.hid (S5_14.out.past hb)
  have cS5_15 := S5_15.out.cell
  have lS5_15 := S5_15.out.lt
  have O6_15 := Lib.hid (Tc.Is.past O6_14.out hb)
  have S6_15 := Lib.hid (S6_14.out.past hb)
  have cS6_15 := S6_15.out.cell
  have lS6_15 := S6_15.out.lt
  have O7_15 := Lib.hid (Tc.Is.past O7_14.out hb)
  have S7_15 := Lib.hid (S7_14.out.past hb)
  have cS7_15 := S7_15.out.cell
  have lS7_15 := S7_15.out.lt
  have O8_15 := Lib.hid (Tc.Is.past O8_14.out hb)
  have S8_15 := Lib.hid (S8_14.out.past hb)
  have cS8_15 := S8_15.out.cell
  have lS8_15 := S8_15.out.lt
  clear cSO14 lSO14 cSA14 lSA14 cS1_14 lS1_14 cS2_14 lS2_14 cS3_14 lS3_14 cS4_14 lS4_14 cS5_14 lS5_14 cS6_14 lS6_14 cS7_14 lS7_14 cS8_14 lS8_14 hb
  go_wp2_with fail
  go_ret
  exact ⟨rfl, B15.out⟩

end Go.Proofs.Ytnigjchgpmladaa
