/- CoordUnlike: no two are told the same. -/
import Derived.Test.YtnigjchgpmladaaAll
import Derived.Deep.DeepCutAuto
namespace Go.Proofs.Ytnigjchgpmladaa
open Go.RowKit Go.Shelf

set_option maxHeartbeats 16000000 in
set_option maxRecDepth 100000 in
theorem lunlike_any (o : Tc) (a : ByteArray) (A : Option Addr) (n c : Nat) (l : List Dv) (b : ByteArray) (w : World) (ho : Tc.At w o) (hsa : a.size ≤ maxLen) (hl : Sl dvK w A n c l) (hsb : b.size ≤ maxLen) : Calls Try.prog 9 #[o.v, .string a, .slice A n c, .string b] w fun e w' => e = .returned (.bool true) ∧ Below w.heap.size w w' := by
  have HSA := Lib.hid hsa
  have HSB := Lib.hid hsb
  clear hsa hsb
  have bw := below_alloc1 w (.cells #[.int .i64 o.next, .slice o.A o.n o.c] 24)
  obtain ⟨W0, hW0⟩ : ∃ W, W = (w.alloc (.cells #[.int .i64 o.next, .slice o.A o.n o.c] 24)) := ⟨_, rfl⟩
  rw [← hW0] at bw
  have B0 := Lib.hid bw
  have SO0 := Lib.hid (show Has W0 w.heap.size #[.int .i64 o.next, .slice o.A o.n o.c] from by rw [hW0]; exact (Has.newAt w _ 24 rfl))
  have cSO0 := SO0.out.cell
  have lSO0 := SO0.out.lt
  have O0 := Lib.hid (show Tc.Is W0 o o.val from ⟨ho.below bw, rfl⟩)
  have LS0 := Lib.hid (hl.below bw)
  have HWW := Lib.hid hW0
  have LV := Lib.hid live_any
  clear bw ho hW0 hl 
  go_enter Try.func9, Try.ntmps9
  go_upto_region 1 with (fail)
  rw [← HWW.out]
  go_wp2_with fail
  refine (LV.out _).mono ?_
  intro e w1 hx
  obtain ⟨rfl, hb⟩ := hx
  have B1 := Lib.hid (below_from hb B0.out B0.out.size)
  have SO1 := Lib.hid (SO0.out.past hb)
  have cSO1 := SO1.out.cell
  have lSO1 := SO1.out.lt
  have O1 := Lib.hid (Tc.Is.past O0.out hb)
  have LS1 := Lib.hid (LS0.out.below hb)
  clear cSO0 lSO0 hb
  go_wp2_with fail
  cases hfw : fewB o.val with
  | false =>
    refine (few_at O1.out hfw).mono ?_
    intro e w2 hx
    obtain ⟨rfl, hb⟩ := hx
    have B2 := Lib.hid (below_from hb B1.out B1.out.size)
    have SO2 := Lib.hid (SO1.out.past hb)
    have cSO2 := SO2.out.cell
    have lSO2 := SO2.out.lt
    have O2 := Lib.hid (Tc.Is.past O1.out hb)
    have LS2 := Lib.hid (LS1.out.below hb)
    clear cSO1 lSO1 hb
    go_wp2_with fail
    go_ret
    exact ⟨rfl, B2.out⟩
  | true =>
  have FEW := Lib.hid (fewB_few hfw)
  refine (few_at O1.out hfw).mono ?_
  intro e w2 hx
  obtain ⟨rfl, hb⟩ := hx
  have B2 := Lib.hid (below_from hb B1.out B1.out.size)
  have SO2 := Lib.hid (SO1.out.past hb)
  have cSO2 := SO2.out.cell
  have lSO2 := SO2.out.lt
  have O2 := Lib.hid (Tc.Is.past O1.out hb)
  have LS2 := Lib.hid (LS1.out.below hb)
  clear cSO1 lSO1 hb hfw
  go_wp2_with fail
  refine (fewd_any A n c l _ LS2.out).mono ?_
  intro e w3 hx
  obtain ⟨bf, rfl, hb⟩ := hx
  have B3 := Lib.hid (below_from hb B2.out B2.out.size)
  have SO3 := Lib.hid (SO2.out.past hb)
  have cSO3 := SO3.out.cell
  have lSO3 := SO3.out.lt
  have O3 := Lib.hid (Tc.Is.past O2.out hb)
  have LS3 := Lib.hid (LS2.out.below hb)
  clear cSO2 lSO2 hb
  cases bf with
  | false =>
    go_wp2_with fail
    go_ret
    exact ⟨rfl, B3.out⟩
  | true =>
  by_cases g1 : 100 < a.size
  · have dg1 : decide ((100 : Int) < (a.size : Int)) = true := decide_eq_true (by omega)
    have dg1b : decide (100 < a.size) = true := decide_eq_true g1
    clear g1
    go_wp2_with fail
    go_ret
    exact ⟨rfl, B3.out⟩
  have dg1 : decide ((100 : Int) < (a.size : Int)) = false := decide_eq_false (by omega)
  have dg1b : decide (100 < a.size) = false := decide_eq_false g1
  by_cases g2 : 100 < b.size
  · have dg2 : decide ((100 : Int) < (b.size : Int)) = true := decide_eq_true (by omega)
    have dg2b : decide (100 < b.size) = true := decide_eq_true g2
    clear g2
    go_wp2_with fail
    go_ret
    exact ⟨rfl, B3.out⟩
  have dg2 : decide ((100 : Int) < (b.size : Int)) = false := decide_eq_false (by omega)
  have dg2b : decide (100 < b.size) = false := decide_eq_false g2
  obtain ⟨V1, hV1⟩ : ∃ V, initV o.val a 0 = V := ⟨_, rfl⟩
  obtain ⟨V1, p, g, e1⟩ := V1
  have H1 := Lib.hid hV1
  clear g1 g2
  go_wp2_with fail
  by_cases hne : e1 = 0
  · subst hne
    have FX := Lib.hid (init_fine hV1).2.1.fewV
    clear hV1
    refine (init_at O3.out FEW.out HSA.out H1.out).mono ?_
    intro e w4 hx
    obtain ⟨o1, rfl, ha, hb⟩ := hx
    have bk4 := hb.alloc hb.size (.cells #[.int .i64 o1.next, .slice o1.A o1.n o1.c] 24)
    have B4 := Lib.hid (below_from bk4 B3.out B3.out.size)
    have SO4 := Lib.hid (SO3.out.past bk4)
    have cSO4 := SO4.out.cell
    have lSO4 := SO4.out.lt
    have O4 := Lib.hid (Tc.Is.past O3.out bk4)
    have LS4 := Lib.hid (LS3.out.below bk4)
    have O1_4 := Lib.hid (ha.past (below_alloc1 w4 (.cells #[.int .i64 o1.next, .slice o1.A o1.n o1.c] 24)))
    have S1_4 := Lib.hid (Has.newAt w4 #[.int .i64 o1.next, .slice o1.A o1.n o1.c] 24 (g := w4.heap.size) rfl)
    have cS1_4 := S1_4.out.cell
    have lS1_4 := S1_4.out.lt
    clear cSO3 lSO3 hb ha bk4
    go_wp2_with fail
    refine (all_steps o1 A n c l _ O1_4.out.1 (by rw [O1_4.out.2]; exact FX.out) LS4.out).mono ?_
    intro e w5 hx
    obtain ⟨o2, rfl, ha, hst, hfq, hb⟩ := hx
    rw [O1_4.out.2] at hst
    have ST2 := Lib.hid hst
    have FQ2 := Lib.hid hfq
    clear hst hfq
    have B5 := Lib.hid (below_from hb B4.out B4.out.size)
    have SO5 := Lib.hid (SO4.out.past hb)
    have cSO5 := SO5.out.cell
    have lSO5 := SO5.out.lt
    have O5 := Lib.hid (Tc.Is.past O4.out hb)
    have LS5 := Lib.hid (LS4.out.below hb)
    have O1_5 := Lib.hid (Tc.Is.past O1_4.out hb)
    have S1_5 := Lib.hid (S1_4.out.past hb)
    have cS1_5 := S1_5.out.cell
    have lS1_5 := S1_5.out.lt
    have Q2 := Lib.hid ha
    clear cSO4 lSO4 cS1_4 lS1_4 hb ha
    obtain ⟨V3, hV3⟩ : ∃ V, initV o2.val b 0 = V := ⟨_, rfl⟩
    obtain ⟨V3, q, h, f1⟩ := V3
    have H3 := Lib.hid hV3
    clear hV3
    go_wp2_with fail
    refine (init_at (⟨Q2.out, rfl⟩ : Tc.Is _ o2 o2.val) FQ2.out HSB.out H3.out).mono ?_
    intro e w6 hx
    obtain ⟨o3, rfl, ha, hb⟩ := hx
    have bk6 := hb.alloc hb.size (.cells #[.int .i64 o3.next, .slice o3.A o3.n o3.c] 24)
    have B6 := Lib.hid (below_from bk6 B5.out B5.out.size)
    have SO6 := Lib.hid (SO5.out.past bk6)
    have cSO6 := SO6.out.cell
    have lSO6 := SO6.out.lt
    have O6 := Lib.hid (Tc.Is.past O5.out bk6)
    have LS6 := Lib.hid (LS5.out.below bk6)
    have O1_6 := Lib.hid (Tc.Is.past O1_5.out bk6)
    have S1_6 := Lib.hid (S1_5.out.past bk6)
    have cS1_6 := S1_6.out.cell
    have lS1_6 := S1_6.out.lt
    have O3_6 := Lib.hid (ha.past (below_alloc1 w6 (.cells #[.int .i64 o3.next, .slice o3.A o3.n o3.c] 24)))
    have S3_6 := Lib.hid (Has.newAt w6 #[.int .i64 o3.next, .slice o3.A o3.n o3.c] 24 (g := w6.heap.size) rfl)
    have cS3_6 := S3_6.out.cell
    have lS3_6 := S3_6.out.lt
    clear cSO5 lSO5 cS1_5 lS1_5 hb ha bk6
    by_cases hf : f1 = 0
    · subst hf
      obtain ⟨U1, U2⟩ := unlike_law H1.out ST2.out H3.out
      by_cases hab : a = b ∧ 0 < a.size
      · obtain ⟨hab, hpos⟩ := hab
        obtain ⟨e1, e2⟩ := U1 hab hpos
        have d1 : (a.toList == b.toList) = true := by rw [hab]; simp
        have d1b : decide (a.toList = b.toList) = true := decide_eq_true (by rw [hab])
        have d2 : a.toList.isEmpty = false := by rw [size_empty]; exact decide_eq_false (by omega)
        have d3 : (p == q) = true := by rw [beq_iff_eq]; exact e1
        have d3b : decide (p = q) = true := decide_eq_true e1
        have d4 : decide (g < h) = true := decide_eq_true e2
        clear hab hpos e1 e2 U1 U2
        go_wp2_with fail
        go_ret
        exact ⟨rfl, B6.out⟩
      · have e1 := U2 hab
        have d3 : (p != q) = true := by rw [bne_iff_ne]; exact e1
        have d3b : decide (p = q) = false := decide_eq_false e1
        have d3c : (p == q) = false := by rw [beq_eq_false_iff_ne]; exact e1
        clear U1 U2 e1
        by_cases h1 : a = b
        · have z : a.size = 0 := by
            have : ¬ 0 < a.size := fun h => hab ⟨h1, h⟩
            omega
          have d1 : (a.toList == b.toList) = true := by rw [h1]; simp
          have d1b : decide (a.toList = b.toList) = true := decide_eq_true (by rw [h1])
          have d2 : a.toList.isEmpty = true := by rw [size_empty]; exact decide_eq_true z
          clear h1 z hab
          go_wp2_with fail
          go_ret
          exact ⟨rfl, B6.out⟩
        · obtain ⟨d1, d1b, d1c⟩ := str_nes h1
          clear h1 hab
          go_wp2_with fail
          go_ret
          exact ⟨rfl, B6.out⟩
    · have n1 : (f1 != 0) = true := by rw [bne_iff_ne]; exact hf
      have n2 : (f1 == 0) = false := by rw [beq_eq_false_iff_ne]; exact hf
      clear hf
      go_wp2_with fail
      go_ret
      exact ⟨rfl, B6.out⟩
  · obtain ⟨_, rfl, rfl⟩ := init_no hV1 hne
    have n1 : (e1 != 0) = true := by rw [bne_iff_ne]; exact hne
    have n2 : (e1 == 0) = false := by rw [beq_eq_false_iff_ne]; exact hne
    have n3 : decide (e1 = 0) = false := decide_eq_false hne
    clear hV1 hne
    refine (init_at O3.out FEW.out HSA.out H1.out).mono ?_
    intro e w4 hx
    obtain ⟨o1, rfl, ha, hb⟩ := hx
    have bk4 := hb.alloc hb.size (.cells #[.int .i64 o1.next, .slice o1.A o1.n o1.c] 24)
    have B4 := Lib.hid (below_from bk4 B3.out B3.out.size)
    have SO4 := Lib.hid (SO3.out.past bk4)
    have cSO4 := SO4.out.cell
    have lSO4 := SO4.out.lt
    have O4 := Lib.hid (Tc.Is.past O3.out bk4)
    have LS4 := Lib.hid (LS3.out.below bk4)
    have O1_4 := Lib.hid (ha.past (below_alloc1 w4 (.cells #[.int .i64 o1.next, .slice o1.A o1.n o1.c] 24)))
    have S1_4 := Lib.hid (Has.newAt w4 #[.int .i64 o1.next, .slice o1.A o1.n o1.c] 24 (g := w4.heap.size) rfl)
    have cS1_4 := S1_4.out.cell
    have lS1_4 := S1_4.out.lt
    clear cSO3 lSO3 hb ha bk4
    go_wp2_with fail
    go_ret
    exact ⟨rfl, B4.out⟩

end Go.Proofs.Ytnigjchgpmladaa
