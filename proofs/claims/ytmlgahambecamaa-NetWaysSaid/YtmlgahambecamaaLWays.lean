/- NetWays: whether any way is open, any way cut and healed, and any clock. -/
import Derived.Test.YtmlgahambecamaaLawL
import Derived.Test.YtmlgahambecamaaCutH
import Derived.Test.YtmlgahambecamaaRCutH
namespace Go.Proofs.Ytmlgahambecamaa
open Go.RowKit Go.Shelf

set_option maxHeartbeats 16000000 in
set_option maxRecDepth 100000 in
theorem lways_any (o : Nt) (a b : Int) (w : World) (ho : Nt.At w o) : Calls Try.prog 10 #[o.v, .int .i64 a, .int .i64 b] w fun e w' => e = .returned (.bool true) ∧ Below w.heap.size w w' := by
  have bw := below_alloc1 w (.cells #[.int .i64 o.now, .int .i64 o.next, .slice o.LA o.Ln o.Lc, .slice o.SA o.Sn o.Sc, .slice o.CA o.Cn o.Cc, .slice o.KA o.Kn o.Kc] 27)
  have B0 := Lib.hid bw
  have SO0 := Lib.hid (Has.newAt w #[.int .i64 o.now, .int .i64 o.next, .slice o.LA o.Ln o.Lc, .slice o.SA o.Sn o.Sc, .slice o.CA o.Cn o.Cc, .slice o.KA o.Kn o.Kc] 27 (g := w.heap.size) rfl)
  have cSO0 := SO0.out.cell
  have lSO0 := SO0.out.lt
  have O0 := Lib.hid (show Nt.Is (w.alloc (.cells #[.int .i64 o.now, .int .i64 o.next, .slice o.LA o.Ln o.Lc, .slice o.SA o.Sn o.Sc, .slice o.CA o.Cn o.Cc, .slice o.KA o.Kn o.Kc] 27)) o o.val from ⟨ho.below bw, rfl⟩)
  have LV := Lib.hid live_any
  have FW := Lib.hid few_any
  have CU := Lib.hid cut_any
  have HE := Lib.hid heal_any
  have RU := Lib.hid rcut2_any
  have RH := Lib.hid rheal_any
  have CL := Lib.hid clock_any
  have RL := Lib.hid rclock_any
  have OP := Lib.hid open_any
  have RO := Lib.hid ropen_any
  clear bw ho 
  go_enter Try.func10, Try.ntmps10
  go_wp2_with fail
  refine (LV.out _).mono ?_
  intro e w1 hx
  obtain ⟨rfl, hb⟩ := hx
  have B1 := Lib.hid (below_from hb B0.out B0.out.size)
  have SO1 := Lib.hid (SO0.out.past hb)
  have cSO1 := SO1.out.cell
  have lSO1 := SO1.out.lt
  have O1 := Lib.hid (Nt.past O0.out hb)
  clear cSO0 lSO0 hb
  go_wp2_with fail
  refine (FW.out o _ O1.out.1).mono ?_
  intro e w2 hx
  obtain ⟨⟨bf, rfl, hf⟩, hb⟩ := hx
  have HF := Lib.hid hf
  clear hf
  have B2 := Lib.hid (below_from hb B1.out B1.out.size)
  have SO2 := Lib.hid (SO1.out.past hb)
  have cSO2 := SO2.out.cell
  have lSO2 := SO2.out.lt
  have O2 := Lib.hid (Nt.past O1.out hb)
  clear cSO1 lSO1 hb
  cases bf with
  | false =>
    go_wp2_with fail
    go_ret
    exact ⟨rfl, B2.out⟩
  | true =>
  have HF := Lib.hid (HF.out rfl)
  have FEW := Lib.hid (show o.Few from ⟨by have := HF.out; omega, by have := HF.out; omega, by have := HF.out; omega, by have := HF.out; omega⟩)
  go_wp2_with fail
  refine (net_at (V := (waysV o.val a b true).1) (c := (waysV o.val a b true).2) (CU.out o a b _ O2.out.1 FEW.out) rfl).mono ?_
  intro e w3 hx
  obtain ⟨o1, rfl, ha, hb⟩ := hx
  have bk3 := hb.alloc hb.size (.cells #[.int .i64 o1.now, .int .i64 o1.next, .slice o1.LA o1.Ln o1.Lc, .slice o1.SA o1.Sn o1.Sc, .slice o1.CA o1.Cn o1.Cc, .slice o1.KA o1.Kn o1.Kc] 27)
  have B3 := Lib.hid (below_from bk3 B2.out B2.out.size)
  have SO3 := Lib.hid (SO2.out.past bk3)
  have cSO3 := SO3.out.cell
  have lSO3 := SO3.out.lt
  have O3 := Lib.hid (Nt.past O2.out bk3)
  have O1_3 := Lib.hid (Nt.past ha (below_alloc1 w3 (.cells #[.int .i64 o1.now, .int .i64 o1.next, .slice o1.LA o1.Ln o1.Lc, .slice o1.SA o1.Sn o1.Sc, .slice o1.CA o1.Cn o1.Cc, .slice o1.KA o1.Kn o1.Kc] 27)))
  have S1_3 := Lib.hid (Has.newAt w3 #[.int .i64 o1.now, .int .i64 o1.next, .slice o1.LA o1.Ln o1.Lc, .slice o1.SA o1.Sn o1.Sc, .slice o1.CA o1.Cn o1.Cc, .slice o1.KA o1.Kn o1.Kc] 27 (g := w3.heap.size) rfl)
  have cS1_3 := S1_3.out.cell
  have lS1_3 := S1_3.out.lt
  clear cSO2 lSO2 hb ha bk3
  go_wp2_with fail
  refine (net_at (V := (waysV o.val a b true).1) (c := (waysV o.val a b true).2) (RU.out o a b _ O3.out.1 FEW.out) rfl).mono ?_
  intro e w4 hx
  obtain ⟨o2, rfl, ha, hb⟩ := hx
  have bk4 := hb.alloc hb.size (.cells #[.int .i64 o2.now, .int .i64 o2.next, .slice o2.LA o2.Ln o2.Lc, .slice o2.SA o2.Sn o2.Sc, .slice o2.CA o2.Cn o2.Cc, .slice o2.KA o2.Kn o2.Kc] 27)
  have B4 := Lib.hid (below_from bk4 B3.out B3.out.size)
  have SO4 := Lib.hid (SO3.out.past bk4)
  have cSO4 := SO4.out.cell
  have lSO4 := SO4.out.lt
  have O4 := Lib.hid (Nt.past O3.out bk4)
  have O1_4 := Lib.hid (Nt.past O1_3.out bk4)
  have S1_4 := Lib.hid (S1_3.out.past bk4)
  have cS1_4 := S1_4.out.cell
  have lS1_4 := S1_4.out.lt
  have O2_4 := Lib.hid (Nt.past ha (below_alloc1 w4 (.cells #[.int .i64 o2.now, .int .i64 o2.next, .slice o2.LA o2.Ln o2.Lc, .slice o2.SA o2.Sn o2.Sc, .slice o2.CA o2.Cn o2.Cc, .slice o2.KA o2.Kn o2.Kc] 27)))
  have S2_4 := Lib.hid (Has.newAt w4 #[.int .i64 o2.now, .int .i64 o2.next, .slice o2.LA o2.Ln o2.Lc, .slice o2.SA o2.Sn o2.Sc, .slice o2.CA o2.Cn o2.Cc, .slice o2.KA o2.Kn o2.Kc] 27 (g := w4.heap.size) rfl)
  have cS2_4 := S2_4.out.cell
  have lS2_4 := S2_4.out.lt
  clear cSO3 lSO3 cS1_3 lS1_3 hb ha bk4
  go_wp2_with fail
  refine (net_at (V := (waysV o.val a b false).1) (c := (waysV o.val a b false).2) (HE.out o a b _ O4.out.1 FEW.out) rfl).mono ?_
  intro e w5 hx
  obtain ⟨o3, rfl, ha, hb⟩ := hx
  have bk5 := hb.alloc hb.size (.cells #[.int .i64 o3.now, .int .i64 o3.next, .slice o3.LA o3.Ln o3.Lc, .slice o3.SA o3.Sn o3.Sc, .slice o3.CA o3.Cn o3.Cc, .slice o3.KA o3.Kn o3.Kc] 27)
  have B5 := Lib.hid (below_from bk5 B4.out B4.out.size)
  have SO5 := Lib.hid (SO4.out.past bk5)
  have cSO5 := SO5.out.cell
  have lSO5 := SO5.out.lt
  have O5 := Lib.hid (Nt.past O4.out bk5)
  have O1_5 := Lib.hid (Nt.past O1_4.out bk5)
  have S1_5 := Lib.hid (S1_4.out.past bk5)
  have cS1_5 := S1_5.out.cell
  have lS1_5 := S1_5.out.lt
  have O2_5 := Lib.hid (Nt.past O2_4.out bk5)
  have S2_5 := Lib.hid (S2_4.out.past bk5)
  have cS2_5 := S2_5.out.cell
  have lS2_5 := S2_5.out.lt
  have O3_5 := Lib.hid (Nt.past ha (below_alloc1 w5 (.cells #[.int .i64 o3.now, .int .i64 o3.next, .slice o3.LA o3.Ln o3.Lc, .slice o3.SA o3.Sn o3.Sc, .slice o3.CA o3.Cn o3.Cc, .slice o3.KA o3.Kn o3.Kc] 27)))
  have S3_5 := Lib.hid (Has.newAt w5 #[.int .i64 o3.now, .int .i64 o3.next, .slice o3.LA o3.Ln o3.Lc, .slice o3.SA o3.Sn o3.Sc, .slice o3.CA o3.Cn o3.Cc, .slice o3.KA o3.Kn o3.Kc] 27 (g := w5.heap.size) rfl)
  have cS3_5 := S3_5.out.cell
  have lS3_5 := S3_5.out.lt
  clear cSO4 lSO4 cS1_4 lS1_4 cS2_4 lS2_4 hb ha bk5
  go_wp2_with fail
  refine (net_at (V := (waysV o.val a b false).1) (c := (waysV o.val a b false).2) (RH.out o a b _ O5.out.1 FEW.out) rfl).mono ?_
  intro e w6 hx
  obtain ⟨o4, rfl, ha, hb⟩ := hx
  have bk6 := hb.alloc hb.size (.cells #[.int .i64 o4.now, .int .i64 o4.next, .slice o4.LA o4.Ln o4.Lc, .slice o4.SA o4.Sn o4.Sc, .slice o4.CA o4.Cn o4.Cc, .slice o4.KA o4.Kn o4.Kc] 27)
  have B6 := Lib.hid (below_from bk6 B5.out B5.out.size)
  have SO6 := Lib.hid (SO5.out.past bk6)
  have cSO6 := SO6.out.cell
  have lSO6 := SO6.out.lt
  have O6 := Lib.hid (Nt.past O5.out bk6)
  have O1_6 := Lib.hid (Nt.past O1_5.out bk6)
  have S1_6 := Lib.hid (S1_5.out.past bk6)
  have cS1_6 := S1_6.out.cell
  have lS1_6 := S1_6.out.lt
  have O2_6 := Lib.hid (Nt.past O2_5.out bk6)
  have S2_6 := Lib.hid (S2_5.out.past bk6)
  have cS2_6 := S2_6.out.cell
  have lS2_6 := S2_6.out.lt
  have O3_6 := Lib.hid (Nt.past O3_5.out bk6)
  have S3_6 := Lib.hid (S3_5.out.past bk6)
  have cS3_6 := S3_6.out.cell
  have lS3_6 := S3_6.out.lt
  have O4_6 := Lib.hid (Nt.past ha (below_alloc1 w6 (.cells #[.int .i64 o4.now, .int .i64 o4.next, .slice o4.LA o4.Ln o4.Lc, .slice o4.SA o4.Sn o4.Sc, .slice o4.CA o4.Cn o4.Cc, .slice o4.KA o4.Kn o4.Kc] 27)))
  have S4_6 := Lib.hid (Has.newAt w6 #[.int .i64 o4.now, .int .i64 o4.next, .slice o4.LA o4.Ln o4.Lc, .slice o4.SA o4.Sn o4.Sc, .slice o4.CA o4.Cn o4.Cc, .slice o4.KA o4.Kn o4.Kc] 27 (g := w6.heap.size) rfl)
  have cS4_6 := S4_6.out.cell
  have lS4_6 := S4_6.out.lt
  clear cSO5 lSO5 cS1_5 lS1_5 cS2_5 lS2_5 cS3_5 lS3_5 hb ha bk6
  go_wp2_with fail
  refine (CL.out o a _ O6.out.1 (by have := FEW.out.s; omega)).mono ?_
  intro e w7 hx
  obtain ⟨rfl, hb⟩ := hx
  have B7 := Lib.hid (below_from hb B6.out B6.out.size)
  have SO7 := Lib.hid (SO6.out.past hb)
  have cSO7 := SO7.out.cell
  have lSO7 := SO7.out.lt
  have O7 := Lib.hid (Nt.past O6.out hb)
  have O1_7 := Lib.hid (Nt.past O1_6.out hb)
  have S1_7 := Lib.hid (S1_6.out.past hb)
  have cS1_7 := S1_7.out.cell
  have lS1_7 := S1_7.out.lt
  have O2_7 := Lib.hid (Nt.past O2_6.out hb)
  have S2_7 := Lib.hid (S2_6.out.past hb)
  have cS2_7 := S2_7.out.cell
  have lS2_7 := S2_7.out.lt
  have O3_7 := Lib.hid (Nt.past O3_6.out hb)
  have S3_7 := Lib.hid (S3_6.out.past hb)
  have cS3_7 := S3_7.out.cell
  have lS3_7 := S3_7.out.lt
  have O4_7 := Lib.hid (Nt.past O4_6.out hb)
  have S4_7 := Lib.hid (S4_6.out.past hb)
  have cS4_7 := S4_7.out.cell
  have lS4_7 := S4_7.out.lt
  clear cSO6 lSO6 cS1_6 lS1_6 cS2_6 lS2_6 cS3_6 lS3_6 cS4_6 lS4_6 hb
  go_wp2_with fail
  refine (RL.out o a _ O7.out.1).mono ?_
  intro e w8 hx
  obtain ⟨rfl, hb⟩ := hx
  have B8 := Lib.hid (below_from hb B7.out B7.out.size)
  have SO8 := Lib.hid (SO7.out.past hb)
  have cSO8 := SO8.out.cell
  have lSO8 := SO8.out.lt
  have O8 := Lib.hid (Nt.past O7.out hb)
  have O1_8 := Lib.hid (Nt.past O1_7.out hb)
  have S1_8 := Lib.hid (S1_7.out.past hb)
  have cS1_8 := S1_8.out.cell
  have lS1_8 := S1_8.out.lt
  have O2_8 := Lib.hid (Nt.past O2_7.out hb)
  have S2_8 := Lib.hid (S2_7.out.past hb)
  have cS2_8 := S2_8.out.cell
  have lS2_8 := S2_8.out.lt
  have O3_8 := Lib.hid (Nt.past O3_7.out hb)
  have S3_8 := Lib.hid (S3_7.out.past hb)
  have cS3_8 := S3_8.out.cell
  have lS3_8 := S3_8.out.lt
  have O4_8 := Lib.hid (Nt.past O4_7.out hb)
  have S4_8 := Lib.hid (S4_7.out.past hb)
  have cS4_8 := S4_8.out.cell
  have lS4_8 := S4_8.out.lt
  clear cSO7 lSO7 cS1_7 lS1_7 cS2_7 lS2_7 cS3_7 lS3_7 cS4_7 lS4_7 hb
  have SA := Lib.hid (fun W h => same_at (Nt.past O1_8.out h) (Nt.past O2_8.out h) (w := W))
  have SB := Lib.hid (fun W h => same_at (Nt.past O3_8.out h) (Nt.past O4_8.out h) (w := W))
  have OA := Lib.hid (fun W (h : Below w8.heap.size w8 W) => OP.out o a b W (O8.out.1.below h) (by have := FEW.out.s; omega))
  have OB := Lib.hid (fun W (h : Below w8.heap.size w8 W) => RO.out o a b W (O8.out.1.below h))
  have rS1_0 := at_regrown (S1_8.out.cell 0)
  have rS1_1 := at_regrown (S1_8.out.cell 1)
  have rS1_2 := at_regrown (S1_8.out.cell 2)
  have rS1_3 := at_regrown (S1_8.out.cell 3)
  have rS1_4 := at_regrown (S1_8.out.cell 4)
  have rS1_5 := at_regrown (S1_8.out.cell 5)
  have qS1_ := S1_8.out.lt
  have rS2_0 := at_regrown (S2_8.out.cell 0)
  have rS2_1 := at_regrown (S2_8.out.cell 1)
  have rS2_2 := at_regrown (S2_8.out.cell 2)
  have rS2_3 := at_regrown (S2_8.out.cell 3)
  have rS2_4 := at_regrown (S2_8.out.cell 4)
  have rS2_5 := at_regrown (S2_8.out.cell 5)
  have qS2_ := S2_8.out.lt
  have rS3_0 := at_regrown (S3_8.out.cell 0)
  have rS3_1 := at_regrown (S3_8.out.cell 1)
  have rS3_2 := at_regrown (S3_8.out.cell 2)
  have rS3_3 := at_regrown (S3_8.out.cell 3)
  have rS3_4 := at_regrown (S3_8.out.cell 4)
  have rS3_5 := at_regrown (S3_8.out.cell 5)
  have qS3_ := S3_8.out.lt
  have rS4_0 := at_regrown (S4_8.out.cell 0)
  have rS4_1 := at_regrown (S4_8.out.cell 1)
  have rS4_2 := at_regrown (S4_8.out.cell 2)
  have rS4_3 := at_regrown (S4_8.out.cell 3)
  have rS4_4 := at_regrown (S4_8.out.cell 4)
  have rS4_5 := at_regrown (S4_8.out.cell 5)
  have qS4_ := S4_8.out.lt
  have rSO0 := at_regrown (SO8.out.cell 0)
  have rSO1 := at_regrown (SO8.out.cell 1)
  have rSO2 := at_regrown (SO8.out.cell 2)
  have rSO3 := at_regrown (SO8.out.cell 3)
  have rSO4 := at_regrown (SO8.out.cell 4)
  have rSO5 := at_regrown (SO8.out.cell 5)
  have qSO := SO8.out.lt
  obtain ⟨op, hop⟩ : ∃ x, openB o.val a b = x := ⟨_, rfl⟩
  rw [hop] at OA OB
  clear hop
  generalize (waysV o.val a b true).2 = e1 at *
  generalize (waysV o.val a b false).2 = e2 at *
  generalize (clockV o.val a).2 = e3 at *
  generalize (clockV o.val a).1 = e4 at *
  go_wp2_with fail
  refine region_below (by kernel_rfl) (by kernel_rfl) ?_
  iterate 11 (go_big_quiet_step ((go_at_call 17; exact call_regrown SA.out)))
  iterate 5 (go_big_quiet_step ((go_at_call 17; exact call_regrown SB.out)))
  repeat (go_big_quiet_step ((first | (go_at_call 25; exact call_regrown OA.out) | (go_at_call 31; exact call_regrown OB.out))))
  refine wpQuiet_nil ?_
  intro w9 hb
  have BE := Lib.hid (below_from hb B8.out B8.out.size)
  clear hb
  go_wp2_with fail
  go_ret
  exact ⟨rfl, BE.out⟩

end Go.Proofs.Ytmlgahambecamaa
