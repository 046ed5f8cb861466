/- NetLooks: whether any net may be, and any one made. -/
import Derived.Test.YtmlgahambecamaaLawL
import Derived.Test.YtmlgahambecamaaRNew
namespace Go.Proofs.Ytmlgahambecamaa
open Go.RowKit Go.Shelf

set_option maxHeartbeats 16000000 in
set_option maxRecDepth 100000 in
theorem llooks_any (o : Nt) (m : Int) (SA : Option Addr) (Sn Sc : Nat) (S : List Sp) (KA : Option Addr) (Kn Kc : Nat) (K : List Int) (w : World) (ho : Nt.At w o) (hs : Sl spK w SA Sn Sc S) (hk : Sl intK w KA Kn Kc K) : Calls Try.prog 3 #[o.v, .int .i64 m, .slice SA Sn Sc, .slice KA Kn Kc] w fun e w' => e = .returned (.bool true) ∧ Below w.heap.size w w' := by
  have bw := below_alloc1 w (.cells #[.int .i64 o.now, .int .i64 o.next, .slice o.LA o.Ln o.Lc, .slice o.SA o.Sn o.Sc, .slice o.CA o.Cn o.Cc, .slice o.KA o.Kn o.Kc] 27)
  have B0 := Lib.hid bw
  have SO0 := Lib.hid (Has.newAt w #[.int .i64 o.now, .int .i64 o.next, .slice o.LA o.Ln o.Lc, .slice o.SA o.Sn o.Sc, .slice o.CA o.Cn o.Cc, .slice o.KA o.Kn o.Kc] 27 (g := w.heap.size) rfl)
  have cSO0 := SO0.out.cell
  have lSO0 := SO0.out.lt
  have O0 := Lib.hid (show Nt.Is (w.alloc (.cells #[.int .i64 o.now, .int .i64 o.next, .slice o.LA o.Ln o.Lc, .slice o.SA o.Sn o.Sc, .slice o.CA o.Cn o.Cc, .slice o.KA o.Kn o.Kc] 27)) o o.val from ⟨ho.below bw, rfl⟩)
  have S0 := Lib.hid (hs.below bw)
  have K0 := Lib.hid (hk.below bw)
  have LV := Lib.hid live_any
  have FW := Lib.hid few_any
  have NW := Lib.hid new_any
  have RN := Lib.hid rnew_any
  have CK := Lib.hid check_any
  have RC := Lib.hid rcheck_any
  clear bw ho hs hk
  go_enter Try.func3, Try.ntmps3
  go_wp2_with fail
  refine (LV.out _).mono ?_
  intro e w1 hx
  obtain ⟨rfl, hb⟩ := hx
  have B1 := Lib.hid (below_from hb B0.out B0.out.size)
  have SO1 := Lib.hid (SO0.out.past hb)
  have cSO1 := SO1.out.cell
  have lSO1 := SO1.out.lt
  have O1 := Lib.hid (Nt.past O0.out hb)
  have S1 := Lib.hid (S0.out.below hb)
  have K1 := Lib.hid (K0.out.below hb)
  clear cSO0 lSO0 hb
  go_wp2_with fail
  refine (FW.out o _ O1.out.1).mono ?_
  intro e w2 hx
  obtain ⟨⟨bf, rfl, hf⟩, hb⟩ := hx
  have HF := Lib.hid hf
  clear hf
  have B2 := Lib.hid (below_from hb B1.out B1.out.size)
  have SO2 := Lib.hid (SO1.out.past hb)
  have cSO2 := SO2.out.cell
  have lSO2 := SO2.out.lt
  have O2 := Lib.hid (Nt.past O1.out hb)
  have S2 := Lib.hid (S1.out.below hb)
  have K2 := Lib.hid (K1.out.below hb)
  clear cSO1 lSO1 hb
  cases bf with
  | false =>
    go_wp2_with fail
    go_ret
    exact ⟨rfl, B2.out⟩
  | true =>
  have HF := Lib.hid (HF.out rfl)
  by_cases h1 : 60 < Sn
  · have d1 : decide ((60 : Int) < (Sn : Int)) = true := decide_eq_true (by omega)
    have d2 : decide (60 < Sn) = true := decide_eq_true h1
    go_wp2_with fail
    go_ret
    exact ⟨rfl, B2.out⟩
  have dh11 : decide ((60 : Int) < (Sn : Int)) = false := decide_eq_false (by omega)
  have dh12 : decide (60 < Sn) = false := decide_eq_false h1
  by_cases h2 : 40 < Kn
  · have d1 : decide ((40 : Int) < (Kn : Int)) = true := decide_eq_true (by omega)
    have d2 : decide (40 < Kn) = true := decide_eq_true h2
    go_wp2_with fail
    go_ret
    exact ⟨rfl, B2.out⟩
  have dh21 : decide ((40 : Int) < (Kn : Int)) = false := decide_eq_false (by omega)
  have dh22 : decide (40 < Kn) = false := decide_eq_false h2
  have FEW := Lib.hid (show o.Few from ⟨by have := HF.out; omega, by have := HF.out; omega, by have := HF.out; omega, by have := HF.out; omega⟩)
  go_wp2_with fail
  refine (net_at (V := (newV m S K).1) (c := (newV m S K).2) (NW.out m _ _ _ _ _ _ _ _ _ S2.out K2.out (by omega) (by omega)) rfl).mono ?_
  intro e w3 hx
  obtain ⟨o1, rfl, ha, hb⟩ := hx
  have bk3 := hb.alloc hb.size (.cells #[.int .i64 o1.now, .int .i64 o1.next, .slice o1.LA o1.Ln o1.Lc, .slice o1.SA o1.Sn o1.Sc, .slice o1.CA o1.Cn o1.Cc, .slice o1.KA o1.Kn o1.Kc] 27)
  have B3 := Lib.hid (below_from bk3 B2.out B2.out.size)
  have SO3 := Lib.hid (SO2.out.past bk3)
  have cSO3 := SO3.out.cell
  have lSO3 := SO3.out.lt
  have O3 := Lib.hid (Nt.past O2.out bk3)
  have S3 := Lib.hid (S2.out.below bk3)
  have K3 := Lib.hid (K2.out.below bk3)
  have O1_3 := Lib.hid (Nt.past ha (below_alloc1 w3 (.cells #[.int .i64 o1.now, .int .i64 o1.next, .slice o1.LA o1.Ln o1.Lc, .slice o1.SA o1.Sn o1.Sc, .slice o1.CA o1.Cn o1.Cc, .slice o1.KA o1.Kn o1.Kc] 27)))
  have S1_3 := Lib.hid (Has.newAt w3 #[.int .i64 o1.now, .int .i64 o1.next, .slice o1.LA o1.Ln o1.Lc, .slice o1.SA o1.Sn o1.Sc, .slice o1.CA o1.Cn o1.Cc, .slice o1.KA o1.Kn o1.Kc] 27 (g := w3.heap.size) rfl)
  have cS1_3 := S1_3.out.cell
  have lS1_3 := S1_3.out.lt
  clear cSO2 lSO2 hb ha bk3
  go_wp2_with fail
  refine (net_at (V := (newV m S K).1) (c := (newV m S K).2) (RN.out m _ _ _ _ _ _ _ _ _ S3.out K3.out (by omega) (by omega)) rfl).mono ?_
  intro e w4 hx
  obtain ⟨o2, rfl, ha, hb⟩ := hx
  have bk4 := hb.alloc hb.size (.cells #[.int .i64 o2.now, .int .i64 o2.next, .slice o2.LA o2.Ln o2.Lc, .slice o2.SA o2.Sn o2.Sc, .slice o2.CA o2.Cn o2.Cc, .slice o2.KA o2.Kn o2.Kc] 27)
  have B4 := Lib.hid (below_from bk4 B3.out B3.out.size)
  have SO4 := Lib.hid (SO3.out.past bk4)
  have cSO4 := SO4.out.cell
  have lSO4 := SO4.out.lt
  have O4 := Lib.hid (Nt.past O3.out bk4)
  have S4 := Lib.hid (S3.out.below bk4)
  have K4 := Lib.hid (K3.out.below bk4)
  have O1_4 := Lib.hid (Nt.past O1_3.out bk4)
  have S1_4 := Lib.hid (S1_3.out.past bk4)
  have cS1_4 := S1_4.out.cell
  have lS1_4 := S1_4.out.lt
  have O2_4 := Lib.hid (Nt.past ha (below_alloc1 w4 (.cells #[.int .i64 o2.now, .int .i64 o2.next, .slice o2.LA o2.Ln o2.Lc, .slice o2.SA o2.Sn o2.Sc, .slice o2.CA o2.Cn o2.Cc, .slice o2.KA o2.Kn o2.Kc] 27)))
  have S2_4 := Lib.hid (Has.newAt w4 #[.int .i64 o2.now, .int .i64 o2.next, .slice o2.LA o2.Ln o2.Lc, .slice o2.SA o2.Sn o2.Sc, .slice o2.CA o2.Cn o2.Cc, .slice o2.KA o2.Kn o2.Kc] 27 (g := w4.heap.size) rfl)
  have cS2_4 := S2_4.out.cell
  have lS2_4 := S2_4.out.lt
  clear cSO3 lSO3 cS1_3 lS1_3 hb ha bk4
  go_wp2_with fail
  obtain ⟨W5, hW5⟩ : ∃ W, W = (w4.alloc (.cells #[.int .i64 o2.now, .int .i64 o2.next, .slice o2.LA o2.Ln o2.Lc, .slice o2.SA o2.Sn o2.Sc, .slice o2.CA o2.Cn o2.Cc, .slice o2.KA o2.Kn o2.Kc] 27)) := ⟨_, rfl⟩
  have SA := Lib.hid (fun W (h : Below (w4.alloc (.cells #[.int .i64 o2.now, .int .i64 o2.next, .slice o2.LA o2.Ln o2.Lc, .slice o2.SA o2.Sn o2.Sc, .slice o2.CA o2.Cn o2.Cc, .slice o2.KA o2.Kn o2.Kc] 27)).heap.size (w4.alloc (.cells #[.int .i64 o2.now, .int .i64 o2.next, .slice o2.LA o2.Ln o2.Lc, .slice o2.SA o2.Sn o2.Sc, .slice o2.CA o2.Cn o2.Cc, .slice o2.KA o2.Kn o2.Kc] 27)) W) => same_at (Nt.past O1_4.out h) (Nt.past O2_4.out h) (w := W))
  have CA := Lib.hid (fun W (h : Below (w4.alloc (.cells #[.int .i64 o2.now, .int .i64 o2.next, .slice o2.LA o2.Ln o2.Lc, .slice o2.SA o2.Sn o2.Sc, .slice o2.CA o2.Cn o2.Cc, .slice o2.KA o2.Kn o2.Kc] 27)).heap.size (w4.alloc (.cells #[.int .i64 o2.now, .int .i64 o2.next, .slice o2.LA o2.Ln o2.Lc, .slice o2.SA o2.Sn o2.Sc, .slice o2.CA o2.Cn o2.Cc, .slice o2.KA o2.Kn o2.Kc] 27)) W) => CK.out o W (O4.out.1.below h) (by have := FEW.out.s; omega))
  have CB := Lib.hid (fun W (h : Below (w4.alloc (.cells #[.int .i64 o2.now, .int .i64 o2.next, .slice o2.LA o2.Ln o2.Lc, .slice o2.SA o2.Sn o2.Sc, .slice o2.CA o2.Cn o2.Cc, .slice o2.KA o2.Kn o2.Kc] 27)).heap.size (w4.alloc (.cells #[.int .i64 o2.now, .int .i64 o2.next, .slice o2.LA o2.Ln o2.Lc, .slice o2.SA o2.Sn o2.Sc, .slice o2.CA o2.Cn o2.Cc, .slice o2.KA o2.Kn o2.Kc] 27)) W) => RC.out o W (O4.out.1.below h))
  rw [← hW5] at SA CA CB B4 S1_4 S2_4 SO4 O4 O1_4 O2_4 cS1_4 cS2_4 cSO4 lS1_4 lS2_4 lSO4
  rw [← hW5]
  clear hW5
  have rS1_0 := at_regrown (S1_4.out.cell 0)
  have rS1_1 := at_regrown (S1_4.out.cell 1)
  have rS1_2 := at_regrown (S1_4.out.cell 2)
  have rS1_3 := at_regrown (S1_4.out.cell 3)
  have rS1_4 := at_regrown (S1_4.out.cell 4)
  have rS1_5 := at_regrown (S1_4.out.cell 5)
  have qS1_ := S1_4.out.lt
  have rS2_0 := at_regrown (S2_4.out.cell 0)
  have rS2_1 := at_regrown (S2_4.out.cell 1)
  have rS2_2 := at_regrown (S2_4.out.cell 2)
  have rS2_3 := at_regrown (S2_4.out.cell 3)
  have rS2_4 := at_regrown (S2_4.out.cell 4)
  have rS2_5 := at_regrown (S2_4.out.cell 5)
  have qS2_ := S2_4.out.lt
  have rSO0 := at_regrown (SO4.out.cell 0)
  have rSO1 := at_regrown (SO4.out.cell 1)
  have rSO2 := at_regrown (SO4.out.cell 2)
  have rSO3 := at_regrown (SO4.out.cell 3)
  have rSO4 := at_regrown (SO4.out.cell 4)
  have rSO5 := at_regrown (SO4.out.cell 5)
  have qSO := SO4.out.lt
  generalize (newV m S K).2 = e1 at *
  generalize checkI o.val = e2 at *
  refine region_below (by kernel_rfl) (by kernel_rfl) ?_
  repeat (go_big_quiet_step ((first | (go_at_call 15; exact call_regrown CA.out) | (go_at_call 16; exact call_regrown CB.out) | (go_at_call 17; exact call_regrown SA.out))))
  refine wpQuiet_nil ?_
  intro w9 hb
  have BE := Lib.hid (below_from hb B4.out B4.out.size)
  clear hb
  go_wp2_with fail
  go_ret
  exact ⟨rfl, BE.out⟩

end Go.Proofs.Ytmlgahambecamaa
