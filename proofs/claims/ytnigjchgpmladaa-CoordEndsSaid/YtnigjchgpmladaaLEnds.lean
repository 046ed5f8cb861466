/- CoordEnds: an end, and what is done. -/
import Derived.Test.YtnigjchgpmladaaCnt
import Derived.Test.YtnigjchgpmladaaLive
import Derived.Deep.DeepCutAuto
namespace Go.Proofs.Ytnigjchgpmladaa
open Go.RowKit Go.Shelf

set_option maxHeartbeats 16000000 in
set_option maxRecDepth 100000 in
theorem lends_any (o : Tc) (a : Av) (w : World) (ho : Tc.At w o) (ha : a.wf) : Calls Try.prog 4 #[o.v, a.v] w fun e w' => e = .returned (.bool true) ∧ Below w.heap.size w w' := by
  have bw : Below w.heap.size w ((w.alloc (.cells #[.int .i64 o.next, .slice o.A o.n o.c] 24)).alloc (.cells #[.string a.id, .int .i64 a.pid, .int .i64 a.gen, .string a.tp.t, .int .i64 a.tp.p, .int .i64 a.tp.h, .string a.g, .bool a.yes, .int .i64 a.now] 47)) := (below_alloc1 w _).alloc (by simp) _
  obtain ⟨W0, hW0⟩ : ∃ W, W = ((w.alloc (.cells #[.int .i64 o.next, .slice o.A o.n o.c] 24)).alloc (.cells #[.string a.id, .int .i64 a.pid, .int .i64 a.gen, .string a.tp.t, .int .i64 a.tp.p, .int .i64 a.tp.h, .string a.g, .bool a.yes, .int .i64 a.now] 47)) := ⟨_, rfl⟩
  rw [← hW0] at bw
  have B0 := Lib.hid bw
  have SO0 := Lib.hid (show Has W0 w.heap.size #[.int .i64 o.next, .slice o.A o.n o.c] from by rw [hW0]; exact (Has.newAt w _ 24 rfl).alloc _)
  have cSO0 := SO0.out.cell
  have lSO0 := SO0.out.lt
  have SA0 := Lib.hid (show Has W0 (w.heap.size + 1) #[.string a.id, .int .i64 a.pid, .int .i64 a.gen, .string a.tp.t, .int .i64 a.tp.p, .int .i64 a.tp.h, .string a.g, .bool a.yes, .int .i64 a.now] from by rw [hW0]; exact Has.newAt _ _ 47 (by simp))
  have cSA0 := SA0.out.cell
  have lSA0 := SA0.out.lt
  have O0 := Lib.hid (show Tc.Is W0 o o.val from ⟨ho.below bw, rfl⟩)
  have HWW := Lib.hid hW0
  have LV := Lib.hid live_any
  have HA := Lib.hid ha
  clear bw ho hW0  ha
  go_enter Try.func4, Try.ntmps4
  go_upto_region 1 with (fail)
  rw [← HWW.out]
  go_wp2_with fail
  refine (LV.out _).mono ?_
  intro e w1 hx
  obtain ⟨rfl, hb⟩ := hx
  have B1 := Lib.hid (below_from hb B0.out B0.out.size)
  have SO1 := Lib.hid (SO0.out.past hb)
  have cSO1 := SO1.out.cell
  have lSO1 := SO1.out.lt
  have SA1 := Lib.hid (SA0.out.past hb)
  have cSA1 := SA1.out.cell
  have lSA1 := SA1.out.lt
  have O1 := Lib.hid (Tc.Is.past O0.out hb)
  clear cSO0 lSO0 cSA0 lSA0 hb
  go_wp2_with fail
  cases hfw : fewB o.val with
  | false =>
    refine (few_at O1.out hfw).mono ?_
    intro e w2 hx
    obtain ⟨rfl, hb⟩ := hx
    have B2 := Lib.hid (below_from hb B1.out B1.out.size)
    have SO2 := Lib.hid (SO1.out.past hb)
    have cSO2 := SO2.out.cell
    have lSO2 := SO2.out.lt
    have SA2 := Lib.hid (SA1.out.past hb)
    have cSA2 := SA2.out.cell
    have lSA2 := SA2.out.lt
    have O2 := Lib.hid (Tc.Is.past O1.out hb)
    clear cSO1 lSO1 cSA1 lSA1 hb
    go_wp2_with fail
    go_ret
    exact ⟨rfl, B2.out⟩
  | true =>
  have FEW := Lib.hid (fewB_few hfw)
  refine (few_at O1.out hfw).mono ?_
  intro e w2 hx
  obtain ⟨rfl, hb⟩ := hx
  have B2 := Lib.hid (below_from hb B1.out B1.out.size)
  have SO2 := Lib.hid (SO1.out.past hb)
  have cSO2 := SO2.out.cell
  have lSO2 := SO2.out.lt
  have SA2 := Lib.hid (SA1.out.past hb)
  have cSA2 := SA2.out.cell
  have lSA2 := SA2.out.lt
  have O2 := Lib.hid (Tc.Is.past O1.out hb)
  clear cSO1 lSO1 cSA1 lSA1 hb hfw
  go_wp2_with fail
  cases hsh : shortB a with
  | false =>
    have SH := Lib.hid (short_any a)
    rw [hsh] at SH
    clear hsh
    refine (SH.out _).mono ?_
    intro e w3 hx
    obtain ⟨rfl, hb⟩ := hx
    have B3 := Lib.hid (below_from hb B2.out B2.out.size)
    have SO3 := Lib.hid (SO2.out.past hb)
    have cSO3 := SO3.out.cell
    have lSO3 := SO3.out.lt
    have SA3 := Lib.hid (SA2.out.past hb)
    have cSA3 := SA3.out.cell
    have lSA3 := SA3.out.lt
    have O3 := Lib.hid (Tc.Is.past O2.out hb)
    clear cSO2 lSO2 cSA2 lSA2 hb
    go_wp2_with fail
    go_ret
    exact ⟨rfl, B3.out⟩
  | true =>
  have SH := Lib.hid (short_any a)
  rw [hsh] at SH
  clear hsh
  refine (SH.out _).mono ?_
  intro e w3 hx
  obtain ⟨rfl, hb⟩ := hx
  have B3 := Lib.hid (below_from hb B2.out B2.out.size)
  have SO3 := Lib.hid (SO2.out.past hb)
  have cSO3 := SO3.out.cell
  have lSO3 := SO3.out.lt
  have SA3 := Lib.hid (SA2.out.past hb)
  have cSA3 := SA3.out.cell
  have lSA3 := SA3.out.lt
  have O3 := Lib.hid (Tc.Is.past O2.out hb)
  clear cSO2 lSO2 cSA2 lSA2 hb
  obtain ⟨V1, hV1⟩ : ∃ V, endV o.val a.id a.pid a.gen a.yes = V := ⟨_, rfl⟩
  obtain ⟨V1, e1⟩ := V1
  have H1 := Lib.hid hV1
  go_wp2_with fail
  by_cases hne : e1 = 0
  · subst hne
    obtain ⟨fx, p, k1, k2, k3, k4, k5⟩ := end_law hV1
    have FX := Lib.hid fx
    have K1 := Lib.hid k1
    have K2 := Lib.hid k2
    have K3 := Lib.hid k3
    have K4 := Lib.hid k4
    have NO := Lib.hid (fx.ok (show p ∈ V1.L from by
      unfold findV at k1
      split at k1
      · rename_i y hy; injection k1 with k1 _; subst k1; exact List.mem_of_find?_eq_some hy
      · injection k1 with _ k1; cases k1)).no
    clear k1 k2 k3 k4 fx hV1
    refine (end_at O3.out FEW.out H1.out).mono ?_
    intro e w4 hx
    obtain ⟨o1, rfl, ha, hb⟩ := hx
    have bk4 := hb.alloc hb.size (.cells #[.int .i64 o1.next, .slice o1.A o1.n o1.c] 24)
    have B4 := Lib.hid (below_from bk4 B3.out B3.out.size)
    have SO4 := Lib.hid (SO3.out.past bk4)
    have cSO4 := SO4.out.cell
    have lSO4 := SO4.out.lt
    have SA4 := Lib.hid (SA3.out.past bk4)
    have cSA4 := SA4.out.cell
    have lSA4 := SA4.out.lt
    have O4 := Lib.hid (Tc.Is.past O3.out bk4)
    have O1_4 := Lib.hid (ha.past (below_alloc1 w4 (.cells #[.int .i64 o1.next, .slice o1.A o1.n o1.c] 24)))
    have S1_4 := Lib.hid (Has.newAt w4 #[.int .i64 o1.next, .slice o1.A o1.n o1.c] 24 (g := w4.heap.size) rfl)
    have cS1_4 := S1_4.out.cell
    have lS1_4 := S1_4.out.lt
    clear cSO3 lSO3 cSA3 lSA3 hb ha bk4
    go_wp2_with fail
    refine (findc_at O1_4.out K1.out).mono ?_
    intro e w5 hx
    obtain ⟨x2, rfl, ha, hb⟩ := hx
    have bk5 := hb.alloc hb.size (.cells #[.string x2.id, .int .i64 x2.pid, .int .i64 x2.gen, .int .i64 x2.no, .int .i64 x2.st, .slice x2.PA x2.Pn x2.Pc, .slice x2.GA x2.Gn x2.Gc, .int .i64 x2.at_] 33)
    have B5 := Lib.hid (below_from bk5 B4.out B4.out.size)
    have SO5 := Lib.hid (SO4.out.past bk5)
    have cSO5 := SO5.out.cell
    have lSO5 := SO5.out.lt
    have SA5 := Lib.hid (SA4.out.past bk5)
    have cSA5 := SA5.out.cell
    have lSA5 := SA5.out.lt
    have O5 := Lib.hid (Tc.Is.past O4.out bk5)
    have O1_5 := Lib.hid (Tc.Is.past O1_4.out bk5)
    have S1_5 := Lib.hid (S1_4.out.past bk5)
    have cS1_5 := S1_5.out.cell
    have lS1_5 := S1_5.out.lt
    have X2_5 := Lib.hid (ha.past (below_alloc1 w5 (.cells #[.string x2.id, .int .i64 x2.pid, .int .i64 x2.gen, .int .i64 x2.no, .int .i64 x2.st, .slice x2.PA x2.Pn x2.Pc, .slice x2.GA x2.Gn x2.Gc, .int .i64 x2.at_] 33)))
    have T2_5 := Lib.hid (Has.newAt w5 #[.string x2.id, .int .i64 x2.pid, .int .i64 x2.gen, .int .i64 x2.no, .int .i64 x2.st, .slice x2.PA x2.Pn x2.Pc, .slice x2.GA x2.Gn x2.Gc, .int .i64 x2.at_] 33 (g := w5.heap.size) rfl)
    have cT2_5 := T2_5.out.cell
    have lT2_5 := T2_5.out.lt
    clear cSO4 lSO4 cSA4 lSA4 cS1_4 lS1_4 hb ha bk5
    go_wp2_with fail
    refine (end_at O1_5.out FX.out.fewV K3.out).mono ?_
    intro e w6 hx
    obtain ⟨o3, rfl, ha, hb⟩ := hx
    have bk6 := hb.alloc hb.size (.cells #[.int .i64 o3.next, .slice o3.A o3.n o3.c] 24)
    have B6 := Lib.hid (below_from bk6 B5.out B5.out.size)
    have SO6 := Lib.hid (SO5.out.past bk6)
    have cSO6 := SO6.out.cell
    have lSO6 := SO6.out.lt
    have SA6 := Lib.hid (SA5.out.past bk6)
    have cSA6 := SA6.out.cell
    have lSA6 := SA6.out.lt
    have O6 := Lib.hid (Tc.Is.past O5.out bk6)
    have O1_6 := Lib.hid (Tc.Is.past O1_5.out bk6)
    have S1_6 := Lib.hid (S1_5.out.past bk6)
    have cS1_6 := S1_6.out.cell
    have lS1_6 := S1_6.out.lt
    have X2_6 := Lib.hid (Tx.Is.past X2_5.out bk6)
    have T2_6 := Lib.hid (T2_5.out.past bk6)
    have cT2_6 := T2_6.out.cell
    have lT2_6 := T2_6.out.lt
    have O3_6 := Lib.hid (ha.past (below_alloc1 w6 (.cells #[.int .i64 o3.next, .slice o3.A o3.n o3.c] 24)))
    have S3_6 := Lib.hid (Has.newAt w6 #[.int .i64 o3.next, .slice o3.A o3.n o3.c] 24 (g := w6.heap.size) rfl)
    have cS3_6 := S3_6.out.cell
    have lS3_6 := S3_6.out.lt
    clear cSO5 lSO5 cSA5 lSA5 cS1_5 lS1_5 cT2_5 lT2_5 hb ha bk6
    go_wp2_with fail
    refine (end_at O1_6.out FX.out.fewV K4.out).mono ?_
    intro e w7 hx
    obtain ⟨o4, rfl, ha, hb⟩ := hx
    have bk7 := hb.alloc hb.size (.cells #[.int .i64 o4.next, .slice o4.A o4.n o4.c] 24)
    have B7 := Lib.hid (below_from bk7 B6.out B6.out.size)
    have SO7 := Lib.hid (SO6.out.past bk7)
    have cSO7 := SO7.out.cell
    have lSO7 := SO7.out.lt
    have SA7 := Lib.hid (SA6.out.past bk7)
    have cSA7 := SA7.out.cell
    have lSA7 := SA7.out.lt
    have O7 := Lib.hid (Tc.Is.past O6.out bk7)
    have O1_7 := Lib.hid (Tc.Is.past O1_6.out bk7)
    have S1_7 := Lib.hid (S1_6.out.past bk7)
    have cS1_7 := S1_7.out.cell
    have lS1_7 := S1_7.out.lt
    have X2_7 := Lib.hid (Tx.Is.past X2_6.out bk7)
    have T2_7 := Lib.hid (T2_6.out.past bk7)
    have cT2_7 := T2_7.out.cell
    have lT2_7 := T2_7.out.lt
    have O3_7 := Lib.hid (Tc.Is.past O3_6.out bk7)
    have S3_7 := Lib.hid (S3_6.out.past bk7)
    have cS3_7 := S3_7.out.cell
    have lS3_7 := S3_7.out.lt
    have O4_7 := Lib.hid (ha.past (below_alloc1 w7 (.cells #[.int .i64 o4.next, .slice o4.A o4.n o4.c] 24)))
    have S4_7 := Lib.hid (Has.newAt w7 #[.int .i64 o4.next, .slice o4.A o4.n o4.c] 24 (g := w7.heap.size) rfl)
    have cS4_7 := S4_7.out.cell
    have lS4_7 := S4_7.out.lt
    clear cSO6 lSO6 cSA6 lSA6 cS1_6 lS1_6 cT2_6 lT2_6 cS3_6 lS3_6 hb ha bk7
    rcases k5 with k5 | ⟨z, q, k5, k6, k7, k8, k9, k10, k11, k12, k13⟩
    · have K5 := Lib.hid k5
      clear k5
      go_wp2_with fail
      refine (done_at O1_7.out FX.out.fewV K5.out).mono ?_
      intro e w8 hx
      obtain ⟨o5, rfl, ha, hb⟩ := hx
      have bk8 := hb.alloc hb.size (.cells #[.int .i64 o5.next, .slice o5.A o5.n o5.c] 24)
      have B8 := Lib.hid (below_from bk8 B7.out B7.out.size)
      have SO8 := Lib.hid (SO7.out.past bk8)
      have cSO8 := SO8.out.cell
      have lSO8 := SO8.out.lt
      have SA8 := Lib.hid (SA7.out.past bk8)
      have cSA8 := SA8.out.cell
      have lSA8 := SA8.out.lt
      have O8 := Lib.hid (Tc.Is.past O7.out bk8)
      have O1_8 := Lib.hid (Tc.Is.past O1_7.out bk8)
      have S1_8 := Lib.hid (S1_7.out.past bk8)
      have cS1_8 := S1_8.out.cell
      have lS1_8 := S1_8.out.lt
      have X2_8 := Lib.hid (Tx.Is.past X2_7.out bk8)
      have T2_8 := Lib.hid (T2_7.out.past bk8)
      have cT2_8 := T2_8.out.cell
      have lT2_8 := T2_8.out.lt
      have O3_8 := Lib.hid (Tc.Is.past O3_7.out bk8)
      have S3_8 := Lib.hid (S3_7.out.past bk8)
      have cS3_8 := S3_8.out.cell
      have lS3_8 := S3_8.out.lt
      have O4_8 := Lib.hid (Tc.Is.past O4_7.out bk8)
      have S4_8 := Lib.hid (S4_7.out.past bk8)
      have cS4_8 := S4_8.out.cell
      have lS4_8 := S4_8.out.lt
      have O5_8 := Lib.hid (ha.past (below_alloc1 w8 (.cells #[.int .i64 o5.next, .slice o5.A o5.n o5.c] 24)))
      have S5_8 := Lib.hid (Has.newAt w8 #[.int .i64 o5.next, .slice o5.A o5.n o5.c] 24 (g := w8.heap.size) rfl)
      have cS5_8 := S5_8.out.cell
      have lS5_8 := S5_8.out.lt
      clear cSO7 lSO7 cSA7 lSA7 cS1_7 lS1_7 cT2_7 lT2_7 cS3_7 lS3_7 cS4_7 lS4_7 hb ha bk8
      have z1 : x2.st = endTo a.yes := (congrArg Tv.st X2_8.out.2).trans K2.out
      rw [z1] at cT2_8
      clear z1
      have ya : a.yes = true ∨ a.yes = false := by cases a.yes <;> simp
      go_upto_region 11 with (fail)
      have w2e : (endTo a.yes == 2) = a.yes := by cases a.yes <;> rfl
      have w2d : decide (endTo a.yes = 2) = a.yes := by cases a.yes <;> rfl
      have w2l : decide (endTo a.yes < 2) = false := by cases a.yes <;> rfl
      have w2b : (a.yes != a.yes) = false := by cases a.yes <;> rfl
      have SM := Lib.hid (same_at O1_8.out O3_8.out)
      have z1 : x2.st = endTo a.yes := (congrArg Tv.st X2_8.out.2).trans K2.out
      go_upto_region 13 with (go_at_call 17; refine SM.out.mono ?_; rintro e w9 ⟨rfl, hb⟩; have BZ := Lib.hid hb; have cs2 := (T2_8.out.past hb).cell; have ls2 := (T2_8.out.past hb).lt; rw [z1] at cs2; have csA := (SA8.out.past hb).cell; have lsA := (SA8.out.past hb).lt; clear hb z1)
      have hb := BZ.out
      clear BZ cs2 ls2 csA lsA w2e w2d w2l w2b ya
      have B9 := Lib.hid (below_from hb B8.out B8.out.size)
      have SO9 := Lib.hid (SO8.out.past hb)
      have cSO9 := SO9.out.cell
      have lSO9 := SO9.out.lt
      have SA9 := Lib.hid (SA8.out.past hb)
      have cSA9 := SA9.out.cell
      have lSA9 := SA9.out.lt
      have O9 := Lib.hid (Tc.Is.past O8.out hb)
      have O1_9 := Lib.hid (Tc.Is.past O1_8.out hb)
      have S1_9 := Lib.hid (S1_8.out.past hb)
      have cS1_9 := S1_9.out.cell
      have lS1_9 := S1_9.out.lt
      have X2_9 := Lib.hid (Tx.Is.past X2_8.out hb)
      have T2_9 := Lib.hid (T2_8.out.past hb)
      have cT2_9 := T2_9.out.cell
      have lT2_9 := T2_9.out.lt
      have O3_9 := Lib.hid (Tc.Is.past O3_8.out hb)
      have S3_9 := Lib.hid (S3_8.out.past hb)
      have cS3_9 := S3_9.out.cell
      have lS3_9 := S3_9.out.lt
      have O4_9 := Lib.hid (Tc.Is.past O4_8.out hb)
      have S4_9 := Lib.hid (S4_8.out.past hb)
      have cS4_9 := S4_9.out.cell
      have lS4_9 := S4_9.out.lt
      have O5_9 := Lib.hid (Tc.Is.past O5_8.out hb)
      have S5_9 := Lib.hid (S5_8.out.past hb)
      have cS5_9 := S5_9.out.cell
      have lS5_9 := S5_9.out.lt
      clear cSO8 lSO8 cSA8 lSA8 cS1_8 lS1_8 cT2_8 lT2_8 cS3_8 lS3_8 cS4_8 lS4_8 cS5_8 lS5_8 hb
      go_wp2_with fail
      go_ret
      exact ⟨rfl, B9.out⟩
    · have K5 := Lib.hid k5
      have FZ := Lib.hid k6
      have K7 := Lib.hid k7
      have K8 := Lib.hid k8
      have K9 := Lib.hid k9
      have K10 := Lib.hid k10
      have K11 := Lib.hid k11
      have K12 := Lib.hid k12
      have K13 := Lib.hid k13
      clear k5 k6 k7 k8 k9 k10 k11 k12 k13
      go_wp2_with fail
      refine (done_at O1_7.out FX.out.fewV K5.out).mono ?_
      intro e w8 hx
      obtain ⟨o5, rfl, ha, hb⟩ := hx
      have bk8 := hb.alloc hb.size (.cells #[.int .i64 o5.next, .slice o5.A o5.n o5.c] 24)
      have B8 := Lib.hid (below_from bk8 B7.out B7.out.size)
      have SO8 := Lib.hid (SO7.out.past bk8)
      have cSO8 := SO8.out.cell
      have lSO8 := SO8.out.lt
      have SA8 := Lib.hid (SA7.out.past bk8)
      have cSA8 := SA8.out.cell
      have lSA8 := SA8.out.lt
      have O8 := Lib.hid (Tc.Is.past O7.out bk8)
      have O1_8 := Lib.hid (Tc.Is.past O1_7.out bk8)
      have S1_8 := Lib.hid (S1_7.out.past bk8)
      have cS1_8 := S1_8.out.cell
      have lS1_8 := S1_8.out.lt
      have X2_8 := Lib.hid (Tx.Is.past X2_7.out bk8)
      have T2_8 := Lib.hid (T2_7.out.past bk8)
      have cT2_8 := T2_8.out.cell
      have lT2_8 := T2_8.out.lt
      have O3_8 := Lib.hid (Tc.Is.past O3_7.out bk8)
      have S3_8 := Lib.hid (S3_7.out.past bk8)
      have cS3_8 := S3_8.out.cell
      have lS3_8 := S3_8.out.lt
      have O4_8 := Lib.hid (Tc.Is.past O4_7.out bk8)
      have S4_8 := Lib.hid (S4_7.out.past bk8)
      have cS4_8 := S4_8.out.cell
      have lS4_8 := S4_8.out.lt
      have O5_8 := Lib.hid (ha.past (below_alloc1 w8 (.cells #[.int .i64 o5.next, .slice o5.A o5.n o5.c] 24)))
      have S5_8 := Lib.hid (Has.newAt w8 #[.int .i64 o5.next, .slice o5.A o5.n o5.c] 24 (g := w8.heap.size) rfl)
      have cS5_8 := S5_8.out.cell
      have lS5_8 := S5_8.out.lt
      clear cSO7 lSO7 cSA7 lSA7 cS1_7 lS1_7 cT2_7 lT2_7 cS3_7 lS3_7 cS4_7 lS4_7 hb ha bk8
      have z1 : x2.st = endTo a.yes := (congrArg Tv.st X2_8.out.2).trans K2.out
      rw [z1] at cT2_8
      clear z1
      have ya : a.yes = true ∨ a.yes = false := by cases a.yes <;> simp
      go_upto_region 11 with (fail)
      have w2e : (endTo a.yes == 2) = a.yes := by cases a.yes <;> rfl
      have w2d : decide (endTo a.yes = 2) = a.yes := by cases a.yes <;> rfl
      have w2l : decide (endTo a.yes < 2) = false := by cases a.yes <;> rfl
      have w2b : (a.yes != a.yes) = false := by cases a.yes <;> rfl
      have SM := Lib.hid (same_at O1_8.out O3_8.out)
      have z1 : x2.st = endTo a.yes := (congrArg Tv.st X2_8.out.2).trans K2.out
      go_upto_region 13 with (go_at_call 17; refine SM.out.mono ?_; rintro e w9 ⟨rfl, hb⟩; have BZ := Lib.hid hb; have cs2 := (T2_8.out.past hb).cell; have ls2 := (T2_8.out.past hb).lt; rw [z1] at cs2; have csA := (SA8.out.past hb).cell; have lsA := (SA8.out.past hb).lt; clear hb z1)
      have hb := BZ.out
      clear BZ cs2 ls2 csA lsA w2e w2d w2l w2b ya
      have B9 := Lib.hid (below_from hb B8.out B8.out.size)
      have SO9 := Lib.hid (SO8.out.past hb)
      have cSO9 := SO9.out.cell
      have lSO9 := SO9.out.lt
      have SA9 := Lib.hid (SA8.out.past hb)
      have cSA9 := SA9.out.cell
      have lSA9 := SA9.out.lt
      have O9 := Lib.hid (Tc.Is.past O8.out hb)
      have O1_9 := Lib.hid (Tc.Is.past O1_8.out hb)
      have S1_9 := Lib.hid (S1_8.out.past hb)
      have cS1_9 := S1_9.out.cell
      have lS1_9 := S1_9.out.lt
      have X2_9 := Lib.hid (Tx.Is.past X2_8.out hb)
      have T2_9 := Lib.hid (T2_8.out.past hb)
      have cT2_9 := T2_9.out.cell
      have lT2_9 := T2_9.out.lt
      have O3_9 := Lib.hid (Tc.Is.past O3_8.out hb)
      have S3_9 := Lib.hid (S3_8.out.past hb)
      have cS3_9 := S3_9.out.cell
      have lS3_9 := S3_9.out.lt
      have O4_9 := Lib.hid (Tc.Is.past O4_8.out hb)
      have S4_9 := Lib.hid (S4_8.out.past hb)
      have cS4_9 := S4_9.out.cell
      have lS4_9 := S4_9.out.lt
      have O5_9 := Lib.hid (Tc.Is.past O5_8.out hb)
      have S5_9 := Lib.hid (S5_8.out.past hb)
      have cS5_9 := S5_9.out.cell
      have lS5_9 := S5_9.out.lt
      clear cSO8 lSO8 cSA8 lSA8 cS1_8 lS1_8 cT2_8 lT2_8 cS3_8 lS3_8 cS4_8 lS4_8 cS5_8 lS5_8 hb
      go_wp2_with fail
      refine (findc_at O5_9.out K7.out).mono ?_
      intro e w10 hx
      obtain ⟨x6, rfl, ha, hb⟩ := hx
      have bk10 := hb.alloc hb.size (.cells #[.string x6.id, .int .i64 x6.pid, .int .i64 x6.gen, .int .i64 x6.no, .int .i64 x6.st, .slice x6.PA x6.Pn x6.Pc, .slice x6.GA x6.Gn x6.Gc, .int .i64 x6.at_] 33)
      have B10 := Lib.hid (below_from bk10 B9.out B9.out.size)
      have SO10 := Lib.hid (SO9.out.past bk10)
      have cSO10 := SO10.out.cell
      have lSO10 := SO10.out.lt
      have SA10 := Lib.hid (SA9.out.past bk10)
      have cSA10 := SA10.out.cell
      have lSA10 := SA10.out.lt
      have O10 := Lib.hid (Tc.Is.past O9.out bk10)
      have O1_10 := Lib.hid (Tc.Is.past O1_9.out bk10)
      have S1_10 := Lib.hid (S1_9.out.past bk10)
      have cS1_10 := S1_10.out.cell
      have lS1_10 := S1_10.out.lt
      have X2_10 := Lib.hid (Tx.Is.past X2_9.out bk10)
      have T2_10 := Lib.hid (T2_9.out.past bk10)
      have cT2_10 := T2_10.out.cell
      have lT2_10 := T2_10.out.lt
      have O3_10 := Lib.hid (Tc.Is.past O3_9.out bk10)
      have S3_10 := Lib.hid (S3_9.out.past bk10)
      have cS3_10 := S3_10.out.cell
      have lS3_10 := S3_10.out.lt
      have O4_10 := Lib.hid (Tc.Is.past O4_9.out bk10)
      have S4_10 := Lib.hid (S4_9.out.past bk10)
      have cS4_10 := S4_10.out.cell
      have lS4_10 := S4_10.out.lt
      have O5_10 := Lib.hid (Tc.Is.past O5_9.out bk10)
      have S5_10 := Lib.hid (S5_9.out.past bk10)
      have cS5_10 := S5_10.out.cell
      have lS5_10 := S5_10.out.lt
      have X6_10 := Lib.hid (ha.past (below_alloc1 w10 (.cells #[.string x6.id, .int .i64 x6.pid, .int .i64 x6.gen, .int .i64 x6.no, .int .i64 x6.st, .slice x6.PA x6.Pn x6.Pc, .slice x6.GA x6.Gn x6.Gc, .int .i64 x6.at_] 33)))
      have T6_10 := Lib.hid (Has.newAt w10 #[.string x6.id, .int .i64 x6.pid, .int .i64 x6.gen, .int .i64 x6.no, .int .i64 x6.st, .slice x6.PA x6.Pn x6.Pc, .slice x6.GA x6.Gn x6.Gc, .int .i64 x6.at_] 33 (g := w10.heap.size) rfl)
      have cT6_10 := T6_10.out.cell
      have lT6_10 := T6_10.out.lt
      clear cSO9 lSO9 cSA9 lSA9 cS1_9 lS1_9 cT2_9 lT2_9 cS3_9 lS3_9 cS4_9 lS4_9 cS5_9 lS5_9 hb ha bk10
      go_wp2_with fail
      refine (end_at O5_10.out FZ.out.fewV K12.out).mono ?_
      intro e w11 hx
      obtain ⟨o7, rfl, ha, hb⟩ := hx
      have bk11 := hb.alloc hb.size (.cells #[.int .i64 o7.next, .slice o7.A o7.n o7.c] 24)
      have B11 := Lib.hid (below_from bk11 B10.out B10.out.size)
      have SO11 := Lib.hid (SO10.out.past bk11)
      have cSO11 := SO11.out.cell
      have lSO11 := SO11.out.lt
      have SA11 := Lib.hid (SA10.out.past bk11)
      have cSA11 := SA11.out.cell
      have lSA11 := SA11.out.lt
      have O11 := Lib.hid (Tc.Is.past O10.out bk11)
      have O1_11 := Lib.hid (Tc.Is.past O1_10.out bk11)
      have S1_11 := Lib.hid (S1_10.out.past bk11)
      have cS1_11 := S1_11.out.cell
      have lS1_11 := S1_11.out.lt
      have X2_11 := Lib.hid (Tx.Is.past X2_10.out bk11)
      have T2_11 := Lib.hid (T2_10.out.past bk11)
      have cT2_11 := T2_11.out.cell
      have lT2_11 := T2_11.out.lt
      have O3_11 := Lib.hid (Tc.Is.past O3_10.out bk11)
      have S3_11 := Lib.hid (S3_10.out.past bk11)
      have cS3_11 := S3_11.out.cell
      have lS3_11 := S3_11.out.lt
      have O4_11 := Lib.hid (Tc.Is.past O4_10.out bk11)
      have S4_11 := Lib.hid (S4_10.out.past bk11)
      have cS4_11 := S4_11.out.cell
      have lS4_11 := S4_11.out.lt
      have O5_11 := Lib.hid (Tc.Is.past O5_10.out bk11)
      have S5_11 := Lib.hid (S5_10.out.past bk11)
      have cS5_11 := S5_11.out.cell
      have lS5_11 := S5_11.out.lt
      have X6_11 := Lib.hid (Tx.Is.past X6_10.out bk11)
      have T6_11 := Lib.hid (T6_10.out.past bk11)
      have cT6_11 := T6_11.out.cell
      have lT6_11 := T6_11.out.lt
      have O7_11 := Lib.hid (ha.past (below_alloc1 w11 (.cells #[.int .i64 o7.next, .slice o7.A o7.n o7.c] 24)))
      have S7_11 := Lib.hid (Has.newAt w11 #[.int .i64 o7.next, .slice o7.A o7.n o7.c] 24 (g := w11.heap.size) rfl)
      have cS7_11 := S7_11.out.cell
      have lS7_11 := S7_11.out.lt
      clear cSO10 lSO10 cSA10 lSA10 cS1_10 lS1_10 cT2_10 lT2_10 cS3_10 lS3_10 cS4_10 lS4_10 cS5_10 lS5_10 cT6_10 lT6_10 hb ha bk11
      go_upto_region 17 with (fail)
      obtain ⟨Wz, hWz⟩ : ∃ W, W = w11.alloc (.cells #[.int .i64 o7.next, .slice o7.A o7.n o7.c] 24) := ⟨_, rfl⟩
      rw [← hWz]
      rw [← hWz] at B11 O1_11 O5_11 S1_11 S5_11 T2_11 T6_11
      clear hWz cSO11 lSO11 cSA11 lSA11 cS1_11 lS1_11 cT2_11 lT2_11 cS3_11 lS3_11 cS4_11 lS4_11 cS5_11 lS5_11 cT6_11 lT6_11 cS7_11 lS7_11
      obtain ⟨k0, hk0⟩ : ∃ k, (dueV z.L).length = k := ⟨_, rfl⟩
      have HK0 := Lib.hid hk0
      have HK1 := Lib.hid (show (dueV V1.L).length = k0 + 1 from by rw [← hk0]; exact K13.out.symm)
      have DA := Lib.hid (fun W (h : Below Wz.heap.size Wz W) => due_at (O5_11.out.past h) FZ.out.fewV HK0.out)
      have DB := Lib.hid (fun W (h : Below Wz.heap.size Wz W) => due_at (O1_11.out.past h) FX.out.fewV HK1.out)
      have D1 := Lib.hid (show Below Wz.heap.size Wz Wz.drew from (Below.refl _ Wz).drew)
      have z1 := congrArg Tv.st X6_11.out.2
      have z2 : x6.no = x2.no + 1 := (congrArg Tv.no X6_11.out.2).trans (K9.out.trans (by rw [← X2_11.out.2]; rfl))
      have z3 : x6.Pn = 0 := by
        have h1 := X6_11.out.1.p.len
        rw [show x6.P = [] from (congrArg Tv.P X6_11.out.2).trans K10.out] at h1
        exact h1.symm
      have z4 : x6.Gn = 0 := by
        have h1 := X6_11.out.1.g.len
        rw [show x6.G = [] from (congrArg Tv.G X6_11.out.2).trans K11.out] at h1
        exact h1.symm
      have z5 : x6.st = 0 := z1.trans K8.out
      have wr1 : IntKind.i64.wrap (x2.no + 1) = x2.no + 1 := IntWalk.i64_in _ (by
        have h1 := NO.out
        rw [← X2_11.out.2] at h1
        have h2 : 0 ≤ x2.no ∧ x2.no ≤ 1048576 := h1
        omega)
      have lk : (k0 : Int) ≤ 50000 := by
        have h1 := FZ.out.len
        have h2 : (dueV z.L).length ≤ z.L.length := List.length_filter_le _ _
        omega
      have wr2 : IntKind.i64.wrap (((k0 + 1 : Nat) : Int) - 1) = (k0 : Int) := by rw [IntWalk.i64_in _ (by omega)]; omega
      have wr3 : IntKind.i64.wrap ((k0 : Int) + 1 - 1) = (k0 : Int) := by rw [IntWalk.i64_in _ (by omega)]; omega
      have wr4 : wrap64 (k0 : Int) = (k0 : Int) := IntWalk.wrap64_in _ (by omega)
      have T6q := T6_11.out
      rw [z5, z2, z3, z4] at T6q
      have TQ := Lib.hid T6q
      clear T6q z1 z2 z3 z4 z5 hk0 lk
      refine region_tr (fun w' => (w'.cell? ⟨w10.heap.size, 4, none⟩ = some (.int .i64 0) ∧ w'.cell? ⟨w10.heap.size, 3, none⟩ = some (.int .i64 (x2.no + 1)) ∧ w'.cell? ⟨w10.heap.size, 5, none⟩ = some (.slice x6.PA 0 x6.Pc) ∧ w'.cell? ⟨w10.heap.size, 6, none⟩ = some (.slice x6.GA 0 x6.Gc)) ∧ w'.cell? ⟨w5.heap.size, 3, none⟩ = some (.int .i64 x2.no) ∧ (w'.cell? ⟨w8.heap.size, 0, none⟩ = some (.int .i64 o5.next) ∧ w'.cell? ⟨w8.heap.size, 1, none⟩ = some (.slice o5.A o5.n o5.c)) ∧ (w'.cell? ⟨w4.heap.size, 0, none⟩ = some (.int .i64 o1.next) ∧ w'.cell? ⟨w4.heap.size, 1, none⟩ = some (.slice o1.A o1.n o1.c))) 45 (.take 0 (.take 1 (.take 2 (.take 3 (.take 4 (.take 5 (.take 6 (.take 7 (.take 8 (.take 9 (.take 10 (.take 11 (.take 12 (.take 13 (.take 14 (.take 15 (.take 16 (.take 17 (.take 18 (.take 19 (.take 20 (.take 21 (.take 22 (.take 23 (.take 24 (.take 25 (.take 26 (.take 27 (.take 28 (.take 29 (.take 30 (.take 31 (.take 32 (.take 33 (.take 34 (.take 35 (.take 36 (.take 39 (.op 37 (.take 38 (.op 40 (.take 41 (.take 42 (.take 43 (.take 44 .tail))))))))))))))))))))))))))))))))))))))))))))) (by kernel_rfl) (by kernel_rfl) ⟨⟨(TQ.out.past D1.out).cell 4, (TQ.out.past D1.out).cell 3, (TQ.out.past D1.out).cell 5, (TQ.out.past D1.out).cell 6⟩, (T2_11.out.past D1.out).cell 3, ⟨(S5_11.out.past D1.out).cell 0, (S5_11.out.past D1.out).cell 1⟩, ⟨(S1_11.out.past D1.out).cell 0, (S1_11.out.past D1.out).cell 1⟩⟩ (fun hHeld => ?_)
      iterate 38
        refine tr_take (v := ?_) (by simp only [List.getElem?_toArray, List.getElem?_cons_succ, List.getElem?_cons_zero]; rfl) (Or.inl ⟨by rfl, ?_⟩) ?_
        rotate_left 1
        · intro w hSw
          try dsimp only at hSw
          go_simp
          try with_reducible rfl
        try simp only [Act.put, List.setIfInBounds_toArray, List.set_cons_zero, List.set_cons_succ]
      refine tr_op (by simp only [List.getElem?_toArray, List.getElem?_cons_succ, List.getElem?_cons_zero]; rfl) (fun K hK => ?_)
      go_wp2_with (go_at_call 22; refine (DA.out _ D1.out).mono ?_; rintro e w12 ⟨A1, c1, l1, rfl, _, hb⟩)
      clear hHeld
      have F1 := Lib.hid (below_from hb D1.out D1.out.size)
      clear hb
      refine hK.out _ _ ⟨⟨(TQ.out.past F1.out).cell 4, (TQ.out.past F1.out).cell 3, (TQ.out.past F1.out).cell 5, (TQ.out.past F1.out).cell 6⟩, (T2_11.out.past F1.out).cell 3, ⟨(S5_11.out.past F1.out).cell 0, (S5_11.out.past F1.out).cell 1⟩, ⟨(S1_11.out.past F1.out).cell 0, (S1_11.out.past F1.out).cell 1⟩⟩ (fun hHeld => ?_)
      clear hK K
      try simp only [Act.put, List.setIfInBounds_toArray, List.set_cons_zero, List.set_cons_succ]
      iterate 1
        refine tr_take (v := ?_) (by simp only [List.getElem?_toArray, List.getElem?_cons_succ, List.getElem?_cons_zero]; rfl) (Or.inl ⟨by rfl, ?_⟩) ?_
        rotate_left 1
        · intro w hSw
          try dsimp only at hSw
          go_simp
          try with_reducible rfl
        try simp only [Act.put, List.setIfInBounds_toArray, List.set_cons_zero, List.set_cons_succ]
      refine tr_op (by simp only [List.getElem?_toArray, List.getElem?_cons_succ, List.getElem?_cons_zero]; rfl) (fun K hK => ?_)
      go_wp2_with (go_at_call 22; refine (DB.out _ F1.out).mono ?_; rintro e w13 ⟨A2, c2, l2, rfl, _, hb⟩)
      clear hHeld
      have F2 := Lib.hid (below_from hb F1.out F1.out.size)
      clear hb
      refine hK.out _ _ ⟨⟨(TQ.out.past F2.out).cell 4, (TQ.out.past F2.out).cell 3, (TQ.out.past F2.out).cell 5, (TQ.out.past F2.out).cell 6⟩, (T2_11.out.past F2.out).cell 3, ⟨(S5_11.out.past F2.out).cell 0, (S5_11.out.past F2.out).cell 1⟩, ⟨(S1_11.out.past F2.out).cell 0, (S1_11.out.past F2.out).cell 1⟩⟩ (fun hHeld => ?_)
      clear hK K
      try simp only [Act.put, List.setIfInBounds_toArray, List.set_cons_zero, List.set_cons_succ]
      iterate 4
        refine tr_take (v := ?_) (by simp only [List.getElem?_toArray, List.getElem?_cons_succ, List.getElem?_cons_zero]; rfl) (Or.inl ⟨by rfl, ?_⟩) ?_
        rotate_left 1
        · intro w hSw
          try dsimp only at hSw
          go_simp
          try with_reducible rfl
        try simp only [Act.put, List.setIfInBounds_toArray, List.set_cons_zero, List.set_cons_succ]
      refine tr_tail rfl ?_
      clear hHeld
      go_wp2_with fail
      go_ret
      exact ⟨ret_bool (by rw [wr4]; simp), below_from F2.out B11.out B11.out.size⟩
  · have LZ := Lib.hid (noC_of (show askV o.val a.id a.pid a.gen true (endF a.yes) = (V1, e1) from hV1) hne)
    have n1 : (e1 != 0) = true := by rw [bne_iff_ne]; exact hne
    have n2 : (e1 == 0) = false := by rw [beq_eq_false_iff_ne]; exact hne
    have n3 : decide (e1 = 0) = false := decide_eq_false hne
    clear hV1 hne
    refine (end_at O3.out FEW.out H1.out).mono ?_
    intro e w4 hx
    obtain ⟨o1, rfl, ha, hb⟩ := hx
    have bk4 := hb.alloc hb.size (.cells #[.int .i64 o1.next, .slice o1.A o1.n o1.c] 24)
    have B4 := Lib.hid (below_from bk4 B3.out B3.out.size)
    have SO4 := Lib.hid (SO3.out.past bk4)
    have cSO4 := SO4.out.cell
    have lSO4 := SO4.out.lt
    have SA4 := Lib.hid (SA3.out.past bk4)
    have cSA4 := SA4.out.cell
    have lSA4 := SA4.out.lt
    have O4 := Lib.hid (Tc.Is.past O3.out bk4)
    have O1_4 := Lib.hid (ha.past (below_alloc1 w4 (.cells #[.int .i64 o1.next, .slice o1.A o1.n o1.c] 24)))
    have S1_4 := Lib.hid (Has.newAt w4 #[.int .i64 o1.next, .slice o1.A o1.n o1.c] 24 (g := w4.heap.size) rfl)
    have cS1_4 := S1_4.out.cell
    have lS1_4 := S1_4.out.lt
    clear cSO3 lSO3 cSA3 lSA3 hb ha bk4
    have z1 : o1.n = 0 := O1_4.out.num.trans LZ.out
    have Z1 := Lib.hid z1
    clear z1
    go_wp2_with fail
    go_ret
    exact ⟨ret_bool (by rw [Z1.out]; rfl), B4.out⟩

end Go.Proofs.Ytnigjchgpmladaa
