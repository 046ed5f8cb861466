/- NetSplit: while a way is cut nothing that is sent comes over it, either way; healed, it does again. -/
import Derived.Test.YtmlgahambecamaaLawL
import Derived.Test.YtmlgahambecamaaCutH
import Derived.Test.YtmlgahambecamaaSplitP
namespace Go.Proofs.Ytmlgahambecamaa
open Go.RowKit Go.Shelf

set_option maxHeartbeats 16000000 in
set_option maxRecDepth 100000 in
theorem lsplit_any (o : Nt) (a b c d t : Int) (w : World) (ho : Nt.At w o) : Calls Try.prog 9 #[o.v, .int .i64 a, .int .i64 b, .int .i64 c, .int .i64 d, .int .i64 t] w fun e w' => e = .returned (.bool true) ∧ Below w.heap.size w w' := by
  have hk := Nat.le_trans ho.k.cap ho.k.max
  have LK := Lib.hid ho.k.len
  have LS := Lib.hid ho.s.len
  have LC := Lib.hid ho.c.len
  have LL := Lib.hid ho.l.len
  have bw := below_alloc1 w (.cells #[.int .i64 o.now, .int .i64 o.next, .slice o.LA o.Ln o.Lc, .slice o.SA o.Sn o.Sc, .slice o.CA o.Cn o.Cc, .slice o.KA o.Kn o.Kc] 27)
  have B0 := Lib.hid bw
  have SO0 := Lib.hid (Has.newAt w #[.int .i64 o.now, .int .i64 o.next, .slice o.LA o.Ln o.Lc, .slice o.SA o.Sn o.Sc, .slice o.CA o.Cn o.Cc, .slice o.KA o.Kn o.Kc] 27 (g := w.heap.size) rfl)
  have cSO0 := SO0.out.cell
  have lSO0 := SO0.out.lt
  have O0 := Lib.hid (show Nt.Is (w.alloc (.cells #[.int .i64 o.now, .int .i64 o.next, .slice o.LA o.Ln o.Lc, .slice o.SA o.Sn o.Sc, .slice o.CA o.Cn o.Cc, .slice o.KA o.Kn o.Kc] 27)) o o.val from ⟨ho.below bw, rfl⟩)
  have LV := Lib.hid live_any
  have FW := Lib.hid few_any
  have CU := Lib.hid cut_any
  have HE := Lib.hid heal_any
  have CK := Lib.hid check_any
  have OP := Lib.hid open_any
  have SD := Lib.hid send_any
  clear bw ho 
  go_enter Try.func9, Try.ntmps9
  go_wp2_with fail
  refine (LV.out _).mono ?_
  intro e w1 hx
  obtain ⟨rfl, hb⟩ := hx
  have B1 := Lib.hid (below_from hb B0.out B0.out.size)
  have SO1 := Lib.hid (SO0.out.past hb)
  have cSO1 := SO1.out.cell
  have lSO1 := SO1.out.lt
  have O1 := Lib.hid (Nt.past O0.out hb)
  clear cSO0 lSO0 hb
  go_wp2_with fail
  refine (FW.out o _ O1.out.1).mono ?_
  intro e w2 hx
  obtain ⟨⟨bf, rfl, hf⟩, hb⟩ := hx
  have HF := Lib.hid hf
  clear hf
  have B2 := Lib.hid (below_from hb B1.out B1.out.size)
  have SO2 := Lib.hid (SO1.out.past hb)
  have cSO2 := SO2.out.cell
  have lSO2 := SO2.out.lt
  have O2 := Lib.hid (Nt.past O1.out hb)
  clear cSO1 lSO1 hb
  cases bf with
  | false =>
    go_wp2_with fail
    go_ret
    exact ⟨rfl, B2.out⟩
  | true =>
  have HF := Lib.hid (HF.out rfl)
  have FEW := Lib.hid (show o.Few from ⟨by have := HF.out; omega, by have := HF.out; omega, by have := HF.out; omega, by have := HF.out; omega⟩)
  go_wp2_with fail
  rcases ways_cases o.val a b true with ⟨ev, hno⟩ | ⟨ck, ra, rb, hab, ev, ck1⟩
  · skip
    have HN := Lib.hid hno
    have EV := Lib.hid ev
    clear hno ev
    refine (net_at (V := noV) (c := 1) (CU.out o a b _ O2.out.1 FEW.out) EV.out).mono ?_
    intro e w3 hx
    obtain ⟨o1, rfl, ha, hb⟩ := hx
    have bk3 := hb.alloc hb.size (.cells #[.int .i64 o1.now, .int .i64 o1.next, .slice o1.LA o1.Ln o1.Lc, .slice o1.SA o1.Sn o1.Sc, .slice o1.CA o1.Cn o1.Cc, .slice o1.KA o1.Kn o1.Kc] 27)
    have B3 := Lib.hid (below_from bk3 B2.out B2.out.size)
    have SO3 := Lib.hid (SO2.out.past bk3)
    have cSO3 := SO3.out.cell
    have lSO3 := SO3.out.lt
    have O3 := Lib.hid (Nt.past O2.out bk3)
    have O1_3 := Lib.hid (Nt.past ha (below_alloc1 w3 (.cells #[.int .i64 o1.now, .int .i64 o1.next, .slice o1.LA o1.Ln o1.Lc, .slice o1.SA o1.Sn o1.Sc, .slice o1.CA o1.Cn o1.Cc, .slice o1.KA o1.Kn o1.Kc] 27)))
    have S1_3 := Lib.hid (Has.newAt w3 #[.int .i64 o1.now, .int .i64 o1.next, .slice o1.LA o1.Ln o1.Lc, .slice o1.SA o1.Sn o1.Sc, .slice o1.CA o1.Cn o1.Cc, .slice o1.KA o1.Kn o1.Kc] 27 (g := w3.heap.size) rfl)
    have cS1_3 := S1_3.out.cell
    have lS1_3 := S1_3.out.lt
    clear cSO2 lSO2 hb ha bk3
    go_wp2_with fail
    have SA := Lib.hid (same_at O1_3.out (show Nt.Is _ noN noV from ⟨noN_at _, rfl⟩))
    refine (SA.out).mono ?_
    intro e w4 hx
    obtain ⟨rfl, hb⟩ := hx
    have B4 := Lib.hid (below_from hb B3.out B3.out.size)
    have SO4 := Lib.hid (SO3.out.past hb)
    have cSO4 := SO4.out.cell
    have lSO4 := SO4.out.lt
    have O4 := Lib.hid (Nt.past O3.out hb)
    have O1_4 := Lib.hid (Nt.past O1_3.out hb)
    have S1_4 := Lib.hid (S1_3.out.past hb)
    have cS1_4 := S1_4.out.cell
    have lS1_4 := S1_4.out.lt
    clear cSO3 lSO3 cS1_3 lS1_3 hb
    have CA := Lib.hid (CK.out o w4 O4.out.1 (by have := FEW.out.s; omega))
    cases hc : checkB o.val with
    | false =>
      rw [checkI_one hc] at CA
      clear hc
      go_wp2_with (go_at_call 15; refine CA.out.mono ?_; rintro e w5 ⟨rfl, hb⟩; have BE := Lib.hid (below_from hb B4.out B4.out.size); have s5 := SO4.out.past hb; have c5 := s5.cell; have l5 := s5.lt; clear hb s5)
      go_ret
      exact ⟨rfl, BE.out⟩
    | true =>
    rw [checkI_nil hc] at CA
    have hn := HN.out
    unfold endB at hn
    rw [show o.val.K.length = o.Kn from LK.out] at hn
    simp only [Bool.and_eq_true, decide_eq_true_eq] at hn
    have HC := Lib.hid hc
    by_cases g1 : a = b
    · have d1 : (a == b) = true := by rw [beq_iff_eq]; exact g1
      clear g1 hn hc
      go_wp2_with (go_at_call 15; refine CA.out.mono ?_; rintro e w5 ⟨rfl, hb⟩; have BE := Lib.hid (below_from hb B4.out B4.out.size); have s5 := SO4.out.past hb; have c5 := s5.cell; have l5 := s5.lt; clear hb s5)
      go_ret
      exact ⟨rfl, BE.out⟩
    have d1 : (a == b) = false := by rw [beq_eq_false_iff_ne]; exact g1
    by_cases g2 : a < 0
    · have d2 : decide (a < 0) = true := decide_eq_true g2
      clear g2 hn hc
      go_wp2_with (go_at_call 15; refine CA.out.mono ?_; rintro e w5 ⟨rfl, hb⟩; have BE := Lib.hid (below_from hb B4.out B4.out.size); have s5 := SO4.out.past hb; have c5 := s5.cell; have l5 := s5.lt; clear hb s5)
      go_ret
      exact ⟨rfl, BE.out⟩
    have d2 : decide (a < 0) = false := decide_eq_false g2
    by_cases g3 : b < 0
    · have d3 : decide (b < 0) = true := decide_eq_true g3
      clear g3 hn hc
      go_wp2_with (go_at_call 15; refine CA.out.mono ?_; rintro e w5 ⟨rfl, hb⟩; have BE := Lib.hid (below_from hb B4.out B4.out.size); have s5 := SO4.out.past hb; have c5 := s5.cell; have l5 := s5.lt; clear hb s5)
      go_ret
      exact ⟨rfl, BE.out⟩
    have d3 : decide (b < 0) = false := decide_eq_false g3
    by_cases g4 : (o.Kn : Int) ≤ a
    · have d4 : decide ((o.Kn : Int) ≤ a) = true := decide_eq_true g4
      clear g4 hn hc
      go_wp2_with (go_at_call 15; refine CA.out.mono ?_; rintro e w5 ⟨rfl, hb⟩; have BE := Lib.hid (below_from hb B4.out B4.out.size); have s5 := SO4.out.past hb; have c5 := s5.cell; have l5 := s5.lt; clear hb s5)
      go_ret
      exact ⟨rfl, BE.out⟩
    have d4 : decide ((o.Kn : Int) ≤ a) = false := decide_eq_false g4
    by_cases g5 : (o.Kn : Int) ≤ b
    · have d5 : decide ((o.Kn : Int) ≤ b) = true := decide_eq_true g5
      clear g5 hn hc
      go_wp2_with (go_at_call 15; refine CA.out.mono ?_; rintro e w5 ⟨rfl, hb⟩; have BE := Lib.hid (below_from hb B4.out B4.out.size); have s5 := SO4.out.past hb; have c5 := s5.cell; have l5 := s5.lt; clear hb s5)
      go_ret
      exact ⟨rfl, BE.out⟩
    have d5 : decide ((o.Kn : Int) ≤ b) = false := decide_eq_false g5
    exact absurd ⟨hc, ⟨by omega, by omega⟩, ⟨by omega, by omega⟩, g1⟩ hn
  · skip
    obtain ⟨V1, hV1⟩ : ∃ V : Nv, V = { o.val with C := waysC o.val.C (pairP a b) true } := ⟨_, rfl⟩
    rw [← hV1] at ev ck1
    obtain ⟨V2, ev2, l2, s2, k2, c2, p1, p2, p3, p4, p5, p6⟩ := split_law ck ra rb hab hV1
    have EV := Lib.hid ev
    have EV2 := Lib.hid ev2
    have P1 := Lib.hid p1
    have P2 := Lib.hid p2
    have P3 := Lib.hid p3
    have P4 := Lib.hid p4
    have P5 := Lib.hid p5
    have P6 := Lib.hid p6
    have HAB := Lib.hid hab
    have S0 := Lib.hid (show o.val.S.length ≤ 50000 from by have := LS.out; have := FEW.out.s; show o.S.length ≤ _; omega)
    have S1 := Lib.hid (show V1.S.length ≤ 50000 from by rw [hV1]; exact S0.out)
    have S2 := Lib.hid (show V2.S.length ≤ 50000 from by rw [s2]; exact S0.out)
    have F1 := Lib.hid (show V1.L.length ≤ 2000 ∧ V1.S.length ≤ 100 ∧ V1.C.length ≤ 400 ∧ V1.K.length ≤ 100 from by
      obtain ⟨z1, z2, z3, z4⟩ : o.Ln ≤ 1100 ∧ o.Sn ≤ 60 ∧ o.Cn ≤ 200 ∧ o.Kn ≤ 40 := HF.out trivial
      have q1 := waysC_len o.C (pairP a b) true
      have q2 := LK.out; have q3 := LS.out; have q4 := LC.out; have q5 := LL.out
      rw [hV1]
      refine ⟨?_, ?_, ?_, ?_⟩
      · show (o.L.map Mg.val).length ≤ _; rw [List.length_map]; omega
      · show o.S.length ≤ _; omega
      · show (waysC o.C (pairP a b) true).length ≤ _; omega
      · show o.K.length ≤ _; omega)
    clear ev ev2 l2 s2 k2 c2 p1 p2 p3 p4 p5 p6 ck ra rb hV1 ck1
    refine (net_at (V := V1) (c := 0) (CU.out o a b _ O2.out.1 FEW.out) EV.out).mono ?_
    intro e w3 hx
    obtain ⟨o1, rfl, ha, hb⟩ := hx
    have bk3 := hb.alloc hb.size (.cells #[.int .i64 o1.now, .int .i64 o1.next, .slice o1.LA o1.Ln o1.Lc, .slice o1.SA o1.Sn o1.Sc, .slice o1.CA o1.Cn o1.Cc, .slice o1.KA o1.Kn o1.Kc] 27)
    have B3 := Lib.hid (below_from bk3 B2.out B2.out.size)
    have SO3 := Lib.hid (SO2.out.past bk3)
    have cSO3 := SO3.out.cell
    have lSO3 := SO3.out.lt
    have O3 := Lib.hid (Nt.past O2.out bk3)
    have O1_3 := Lib.hid (Nt.past ha (below_alloc1 w3 (.cells #[.int .i64 o1.now, .int .i64 o1.next, .slice o1.LA o1.Ln o1.Lc, .slice o1.SA o1.Sn o1.Sc, .slice o1.CA o1.Cn o1.Cc, .slice o1.KA o1.Kn o1.Kc] 27)))
    have S1_3 := Lib.hid (Has.newAt w3 #[.int .i64 o1.now, .int .i64 o1.next, .slice o1.LA o1.Ln o1.Lc, .slice o1.SA o1.Sn o1.Sc, .slice o1.CA o1.Cn o1.Cc, .slice o1.KA o1.Kn o1.Kc] 27 (g := w3.heap.size) rfl)
    have cS1_3 := S1_3.out.cell
    have lS1_3 := S1_3.out.lt
    clear cSO2 lSO2 hb ha bk3
    go_wp2_with fail
    refine (net_at (V := V2) (c := 0) (HE.out o1 b a _ O1_3.out.1 (O1_3.out.few F1.out.1 F1.out.2.1 F1.out.2.2.1 F1.out.2.2.2)) (by rw [O1_3.out.2]; exact EV2.out)).mono ?_
    intro e w4 hx
    obtain ⟨o2, rfl, ha, hb⟩ := hx
    have bk4 := hb.alloc hb.size (.cells #[.int .i64 o2.now, .int .i64 o2.next, .slice o2.LA o2.Ln o2.Lc, .slice o2.SA o2.Sn o2.Sc, .slice o2.CA o2.Cn o2.Cc, .slice o2.KA o2.Kn o2.Kc] 27)
    have B4 := Lib.hid (below_from bk4 B3.out B3.out.size)
    have SO4 := Lib.hid (SO3.out.past bk4)
    have cSO4 := SO4.out.cell
    have lSO4 := SO4.out.lt
    have O4 := Lib.hid (Nt.past O3.out bk4)
    have O1_4 := Lib.hid (Nt.past O1_3.out bk4)
    have S1_4 := Lib.hid (S1_3.out.past bk4)
    have cS1_4 := S1_4.out.cell
    have lS1_4 := S1_4.out.lt
    have O2_4 := Lib.hid (Nt.past ha (below_alloc1 w4 (.cells #[.int .i64 o2.now, .int .i64 o2.next, .slice o2.LA o2.Ln o2.Lc, .slice o2.SA o2.Sn o2.Sc, .slice o2.CA o2.Cn o2.Cc, .slice o2.KA o2.Kn o2.Kc] 27)))
    have S2_4 := Lib.hid (Has.newAt w4 #[.int .i64 o2.now, .int .i64 o2.next, .slice o2.LA o2.Ln o2.Lc, .slice o2.SA o2.Sn o2.Sc, .slice o2.CA o2.Cn o2.Cc, .slice o2.KA o2.Kn o2.Kc] 27 (g := w4.heap.size) rfl)
    have cS2_4 := S2_4.out.cell
    have lS2_4 := S2_4.out.lt
    clear cSO3 lSO3 cS1_3 lS1_3 hb ha bk4
    go_wp2_with fail
    refine (open_at O1_4.out S1.out P1.out).mono ?_
    intro e w5 hx
    obtain ⟨rfl, hb⟩ := hx
    have B5 := Lib.hid (below_from hb B4.out B4.out.size)
    have SO5 := Lib.hid (SO4.out.past hb)
    have cSO5 := SO5.out.cell
    have lSO5 := SO5.out.lt
    have O5 := Lib.hid (Nt.past O4.out hb)
    have O1_5 := Lib.hid (Nt.past O1_4.out hb)
    have S1_5 := Lib.hid (S1_4.out.past hb)
    have cS1_5 := S1_5.out.cell
    have lS1_5 := S1_5.out.lt
    have O2_5 := Lib.hid (Nt.past O2_4.out hb)
    have S2_5 := Lib.hid (S2_4.out.past hb)
    have cS2_5 := S2_5.out.cell
    have lS2_5 := S2_5.out.lt
    clear cSO4 lSO4 cS1_4 lS1_4 cS2_4 lS2_4 hb
    go_wp2_with fail
    refine (open_at O1_5.out S1.out P2.out).mono ?_
    intro e w6 hx
    obtain ⟨rfl, hb⟩ := hx
    have B6 := Lib.hid (below_from hb B5.out B5.out.size)
    have SO6 := Lib.hid (SO5.out.past hb)
    have cSO6 := SO6.out.cell
    have lSO6 := SO6.out.lt
    have O6 := Lib.hid (Nt.past O5.out hb)
    have O1_6 := Lib.hid (Nt.past O1_5.out hb)
    have S1_6 := Lib.hid (S1_5.out.past hb)
    have cS1_6 := S1_6.out.cell
    have lS1_6 := S1_6.out.lt
    have O2_6 := Lib.hid (Nt.past O2_5.out hb)
    have S2_6 := Lib.hid (S2_5.out.past hb)
    have cS2_6 := S2_6.out.cell
    have lS2_6 := S2_6.out.lt
    clear cSO5 lSO5 cS1_5 lS1_5 cS2_5 lS2_5 hb
    go_wp2_with fail
    refine (open_at O2_6.out S2.out P3.out).mono ?_
    intro e w7 hx
    obtain ⟨rfl, hb⟩ := hx
    have B7 := Lib.hid (below_from hb B6.out B6.out.size)
    have SO7 := Lib.hid (SO6.out.past hb)
    have cSO7 := SO7.out.cell
    have lSO7 := SO7.out.lt
    have O7 := Lib.hid (Nt.past O6.out hb)
    have O1_7 := Lib.hid (Nt.past O1_6.out hb)
    have S1_7 := Lib.hid (S1_6.out.past hb)
    have cS1_7 := S1_7.out.cell
    have lS1_7 := S1_7.out.lt
    have O2_7 := Lib.hid (Nt.past O2_6.out hb)
    have S2_7 := Lib.hid (S2_6.out.past hb)
    have cS2_7 := S2_7.out.cell
    have lS2_7 := S2_7.out.lt
    clear cSO6 lSO6 cS1_6 lS1_6 cS2_6 lS2_6 hb
    go_wp2_with fail
    refine (open_at O2_7.out S2.out P4.out).mono ?_
    intro e w8 hx
    obtain ⟨rfl, hb⟩ := hx
    have B8 := Lib.hid (below_from hb B7.out B7.out.size)
    have SO8 := Lib.hid (SO7.out.past hb)
    have cSO8 := SO8.out.cell
    have lSO8 := SO8.out.lt
    have O8 := Lib.hid (Nt.past O7.out hb)
    have O1_8 := Lib.hid (Nt.past O1_7.out hb)
    have S1_8 := Lib.hid (S1_7.out.past hb)
    have cS1_8 := S1_8.out.cell
    have lS1_8 := S1_8.out.lt
    have O2_8 := Lib.hid (Nt.past O2_7.out hb)
    have S2_8 := Lib.hid (S2_7.out.past hb)
    have cS2_8 := S2_8.out.cell
    have lS2_8 := S2_8.out.lt
    clear cSO7 lSO7 cS1_7 lS1_7 cS2_7 lS2_7 hb
    go_upto_region 11 with (fail)
    have PX := P5.out c d
    have HP := Lib.hid PX
    clear PX
    go_cut [142] (fun s wx => s = .bool false ∧ Hid (Below w8.heap.size w8 wx))
    case first =>
      by_cases g1 : c = a
      · skip
        by_cases g2 : d = b
        · skip
          have n1a : (c != a) = false := by simp only [bne_eq_false_iff_eq]; omega
          have n1b : (c == a) = true := by rw [beq_iff_eq]; omega
          have n2a : (d != b) = false := by simp only [bne_eq_false_iff_eq]; omega
          have n2b : (d == b) = true := by rw [beq_iff_eq]; omega
          clear g1 g2 hab
          have rS1_0 := at_regrown (S1_8.out.cell 0)
          have rS1_1 := at_regrown (S1_8.out.cell 1)
          have rS1_2 := at_regrown (S1_8.out.cell 2)
          have rS1_3 := at_regrown (S1_8.out.cell 3)
          have rS1_4 := at_regrown (S1_8.out.cell 4)
          have rS1_5 := at_regrown (S1_8.out.cell 5)
          have qS1_ := S1_8.out.lt
          have rS2_0 := at_regrown (S2_8.out.cell 0)
          have rS2_1 := at_regrown (S2_8.out.cell 1)
          have rS2_2 := at_regrown (S2_8.out.cell 2)
          have rS2_3 := at_regrown (S2_8.out.cell 3)
          have rS2_4 := at_regrown (S2_8.out.cell 4)
          have rS2_5 := at_regrown (S2_8.out.cell 5)
          have qS2_ := S2_8.out.lt
          have rSO0 := at_regrown (SO8.out.cell 0)
          have rSO1 := at_regrown (SO8.out.cell 1)
          have rSO2 := at_regrown (SO8.out.cell 2)
          have rSO3 := at_regrown (SO8.out.cell 3)
          have rSO4 := at_regrown (SO8.out.cell 4)
          have rSO5 := at_regrown (SO8.out.cell 5)
          have qSO := SO8.out.lt
          go_wp2_with fail
          refine region_below (by kernel_rfl) (by kernel_rfl) ?_
          repeat (go_big_quiet_step (fail))
          refine wpQuiet_nil ?_
          intro w9 hb
          have BE := Lib.hid hb
          clear hb
          go_wp2_with fail
          go_meet
          exact ⟨rfl, BE⟩
        · skip
          have n1a : (c != a) = false := by simp only [bne_eq_false_iff_eq]; omega
          have n1b : (c == a) = true := by rw [beq_iff_eq]; omega
          have n2a : (d != b) = true := by rw [bne_iff_ne]; omega
          have n2b : (d == b) = false := by rw [beq_eq_false_iff_ne]; omega
          have n3a : (c != b) = true := by rw [bne_iff_ne]; omega
          have n3b : (c == b) = false := by rw [beq_eq_false_iff_ne]; omega
          have HX1 := Lib.hid (show c ≠ a ∨ d ≠ b from by omega)
          have HX2 := Lib.hid (show c ≠ b ∨ d ≠ a from by omega)
          clear g1 g2 hab
          have Q := HP.out HX1.out HX2.out
          obtain ⟨r, hr⟩ : ∃ r, openB o.val c d = r := ⟨_, rfl⟩
          have A1 := Lib.hid (fun W (h : Below w8.heap.size w8 W) => open_at (r := r) (a := c) (b := d) (Nt.past O1_8.out h) S1.out (by rw [Q.1]; exact hr))
          have A2 := Lib.hid (fun W (h : Below w8.heap.size w8 W) => open_at (r := r) (a := c) (b := d) (Nt.past O8.out h) S0.out hr)
          have A3 := Lib.hid (fun W (h : Below w8.heap.size w8 W) => open_at (r := r) (a := c) (b := d) (Nt.past O2_8.out h) S2.out (by rw [Q.2]; exact hr))
          clear Q hr HX1 HX2
          cases r
          · skip
            have rS1_0 := at_regrown (S1_8.out.cell 0)
            have rS1_1 := at_regrown (S1_8.out.cell 1)
            have rS1_2 := at_regrown (S1_8.out.cell 2)
            have rS1_3 := at_regrown (S1_8.out.cell 3)
            have rS1_4 := at_regrown (S1_8.out.cell 4)
            have rS1_5 := at_regrown (S1_8.out.cell 5)
            have qS1_ := S1_8.out.lt
            have rS2_0 := at_regrown (S2_8.out.cell 0)
            have rS2_1 := at_regrown (S2_8.out.cell 1)
            have rS2_2 := at_regrown (S2_8.out.cell 2)
            have rS2_3 := at_regrown (S2_8.out.cell 3)
            have rS2_4 := at_regrown (S2_8.out.cell 4)
            have rS2_5 := at_regrown (S2_8.out.cell 5)
            have qS2_ := S2_8.out.lt
            have rSO0 := at_regrown (SO8.out.cell 0)
            have rSO1 := at_regrown (SO8.out.cell 1)
            have rSO2 := at_regrown (SO8.out.cell 2)
            have rSO3 := at_regrown (SO8.out.cell 3)
            have rSO4 := at_regrown (SO8.out.cell 4)
            have rSO5 := at_regrown (SO8.out.cell 5)
            have qSO := SO8.out.lt
            go_wp2_with fail
            refine region_below (by kernel_rfl) (by kernel_rfl) ?_
            iterate 23 (go_big_quiet_step ((go_at_call 25; exact call_regrown A1.out)))
            iterate 4 (go_big_quiet_step ((go_at_call 25; exact call_regrown A2.out)))
            iterate 6 (go_big_quiet_step ((go_at_call 25; exact call_regrown A3.out)))
            repeat (go_big_quiet_step ((go_at_call 25; exact call_regrown A2.out)))
            refine wpQuiet_nil ?_
            intro w9 hb
            have BE := Lib.hid hb
            clear hb
            go_wp2_with fail
            go_meet
            exact ⟨rfl, BE⟩
          · skip
            have rS1_0 := at_regrown (S1_8.out.cell 0)
            have rS1_1 := at_regrown (S1_8.out.cell 1)
            have rS1_2 := at_regrown (S1_8.out.cell 2)
            have rS1_3 := at_regrown (S1_8.out.cell 3)
            have rS1_4 := at_regrown (S1_8.out.cell 4)
            have rS1_5 := at_regrown (S1_8.out.cell 5)
            have qS1_ := S1_8.out.lt
            have rS2_0 := at_regrown (S2_8.out.cell 0)
            have rS2_1 := at_regrown (S2_8.out.cell 1)
            have rS2_2 := at_regrown (S2_8.out.cell 2)
            have rS2_3 := at_regrown (S2_8.out.cell 3)
            have rS2_4 := at_regrown (S2_8.out.cell 4)
            have rS2_5 := at_regrown (S2_8.out.cell 5)
            have qS2_ := S2_8.out.lt
            have rSO0 := at_regrown (SO8.out.cell 0)
            have rSO1 := at_regrown (SO8.out.cell 1)
            have rSO2 := at_regrown (SO8.out.cell 2)
            have rSO3 := at_regrown (SO8.out.cell 3)
            have rSO4 := at_regrown (SO8.out.cell 4)
            have rSO5 := at_regrown (SO8.out.cell 5)
            have qSO := SO8.out.lt
            go_wp2_with fail
            refine region_below (by kernel_rfl) (by kernel_rfl) ?_
            iterate 23 (go_big_quiet_step ((go_at_call 25; exact call_regrown A1.out)))
            iterate 4 (go_big_quiet_step ((go_at_call 25; exact call_regrown A2.out)))
            iterate 6 (go_big_quiet_step ((go_at_call 25; exact call_regrown A3.out)))
            repeat (go_big_quiet_step ((go_at_call 25; exact call_regrown A2.out)))
            refine wpQuiet_nil ?_
            intro w9 hb
            have BE := Lib.hid hb
            clear hb
            go_wp2_with fail
            go_meet
            exact ⟨rfl, BE⟩
      · skip
        by_cases g2 : c = b
        · skip
          by_cases g3 : d = a
          · skip
            have n1a : (c != a) = true := by rw [bne_iff_ne]; omega
            have n1b : (c == a) = false := by rw [beq_eq_false_iff_ne]; omega
            have n3a : (c != b) = false := by simp only [bne_eq_false_iff_eq]; omega
            have n3b : (c == b) = true := by rw [beq_iff_eq]; omega
            have n4a : (d != a) = false := by simp only [bne_eq_false_iff_eq]; omega
            have n4b : (d == a) = true := by rw [beq_iff_eq]; omega
            clear g1 g2 g3 hab
            have rS1_0 := at_regrown (S1_8.out.cell 0)
            have rS1_1 := at_regrown (S1_8.out.cell 1)
            have rS1_2 := at_regrown (S1_8.out.cell 2)
            have rS1_3 := at_regrown (S1_8.out.cell 3)
            have rS1_4 := at_regrown (S1_8.out.cell 4)
            have rS1_5 := at_regrown (S1_8.out.cell 5)
            have qS1_ := S1_8.out.lt
            have rS2_0 := at_regrown (S2_8.out.cell 0)
            have rS2_1 := at_regrown (S2_8.out.cell 1)
            have rS2_2 := at_regrown (S2_8.out.cell 2)
            have rS2_3 := at_regrown (S2_8.out.cell 3)
            have rS2_4 := at_regrown (S2_8.out.cell 4)
            have rS2_5 := at_regrown (S2_8.out.cell 5)
            have qS2_ := S2_8.out.lt
            have rSO0 := at_regrown (SO8.out.cell 0)
            have rSO1 := at_regrown (SO8.out.cell 1)
            have rSO2 := at_regrown (SO8.out.cell 2)
            have rSO3 := at_regrown (SO8.out.cell 3)
            have rSO4 := at_regrown (SO8.out.cell 4)
            have rSO5 := at_regrown (SO8.out.cell 5)
            have qSO := SO8.out.lt
            go_wp2_with fail
            refine region_below (by kernel_rfl) (by kernel_rfl) ?_
            repeat (go_big_quiet_step (fail))
            refine wpQuiet_nil ?_
            intro w9 hb
            have BE := Lib.hid hb
            clear hb
            go_wp2_with fail
            go_meet
            exact ⟨rfl, BE⟩
          · skip
            have n1a : (c != a) = true := by rw [bne_iff_ne]; omega
            have n1b : (c == a) = false := by rw [beq_eq_false_iff_ne]; omega
            have n3a : (c != b) = false := by simp only [bne_eq_false_iff_eq]; omega
            have n3b : (c == b) = true := by rw [beq_iff_eq]; omega
            have n4a : (d != a) = true := by rw [bne_iff_ne]; omega
            have n4b : (d == a) = false := by rw [beq_eq_false_iff_ne]; omega
            have HX1 := Lib.hid (show c ≠ a ∨ d ≠ b from by omega)
            have HX2 := Lib.hid (show c ≠ b ∨ d ≠ a from by omega)
            clear g1 g2 g3 hab
            have Q := HP.out HX1.out HX2.out
            obtain ⟨r, hr⟩ : ∃ r, openB o.val c d = r := ⟨_, rfl⟩
            have A1 := Lib.hid (fun W (h : Below w8.heap.size w8 W) => open_at (r := r) (a := c) (b := d) (Nt.past O1_8.out h) S1.out (by rw [Q.1]; exact hr))
            have A2 := Lib.hid (fun W (h : Below w8.heap.size w8 W) => open_at (r := r) (a := c) (b := d) (Nt.past O8.out h) S0.out hr)
            have A3 := Lib.hid (fun W (h : Below w8.heap.size w8 W) => open_at (r := r) (a := c) (b := d) (Nt.past O2_8.out h) S2.out (by rw [Q.2]; exact hr))
            clear Q hr HX1 HX2
            cases r
            · skip
              have rS1_0 := at_regrown (S1_8.out.cell 0)
              have rS1_1 := at_regrown (S1_8.out.cell 1)
              have rS1_2 := at_regrown (S1_8.out.cell 2)
              have rS1_3 := at_regrown (S1_8.out.cell 3)
              have rS1_4 := at_regrown (S1_8.out.cell 4)
              have rS1_5 := at_regrown (S1_8.out.cell 5)
              have qS1_ := S1_8.out.lt
              have rS2_0 := at_regrown (S2_8.out.cell 0)
              have rS2_1 := at_regrown (S2_8.out.cell 1)
              have rS2_2 := at_regrown (S2_8.out.cell 2)
              have rS2_3 := at_regrown (S2_8.out.cell 3)
              have rS2_4 := at_regrown (S2_8.out.cell 4)
              have rS2_5 := at_regrown (S2_8.out.cell 5)
              have qS2_ := S2_8.out.lt
              have rSO0 := at_regrown (SO8.out.cell 0)
              have rSO1 := at_regrown (SO8.out.cell 1)
              have rSO2 := at_regrown (SO8.out.cell 2)
              have rSO3 := at_regrown (SO8.out.cell 3)
              have rSO4 := at_regrown (SO8.out.cell 4)
              have rSO5 := at_regrown (SO8.out.cell 5)
              have qSO := SO8.out.lt
              go_wp2_with fail
              refine region_below (by kernel_rfl) (by kernel_rfl) ?_
              iterate 23 (go_big_quiet_step ((go_at_call 25; exact call_regrown A1.out)))
              iterate 4 (go_big_quiet_step ((go_at_call 25; exact call_regrown A2.out)))
              iterate 6 (go_big_quiet_step ((go_at_call 25; exact call_regrown A3.out)))
              repeat (go_big_quiet_step ((go_at_call 25; exact call_regrown A2.out)))
              refine wpQuiet_nil ?_
              intro w9 hb
              have BE := Lib.hid hb
              clear hb
              go_wp2_with fail
              go_meet
              exact ⟨rfl, BE⟩
            · skip
              have rS1_0 := at_regrown (S1_8.out.cell 0)
              have rS1_1 := at_regrown (S1_8.out.cell 1)
              have rS1_2 := at_regrown (S1_8.out.cell 2)
              have rS1_3 := at_regrown (S1_8.out.cell 3)
              have rS1_4 := at_regrown (S1_8.out.cell 4)
              have rS1_5 := at_regrown (S1_8.out.cell 5)
              have qS1_ := S1_8.out.lt
              have rS2_0 := at_regrown (S2_8.out.cell 0)
              have rS2_1 := at_regrown (S2_8.out.cell 1)
              have rS2_2 := at_regrown (S2_8.out.cell 2)
              have rS2_3 := at_regrown (S2_8.out.cell 3)
              have rS2_4 := at_regrown (S2_8.out.cell 4)
              have rS2_5 := at_regrown (S2_8.out.cell 5)
              have qS2_ := S2_8.out.lt
              have rSO0 := at_regrown (SO8.out.cell 0)
              have rSO1 := at_regrown (SO8.out.cell 1)
              have rSO2 := at_regrown (SO8.out.cell 2)
              have rSO3 := at_regrown (SO8.out.cell 3)
              have rSO4 := at_regrown (SO8.out.cell 4)
              have rSO5 := at_regrown (SO8.out.cell 5)
              have qSO := SO8.out.lt
              go_wp2_with fail
              refine region_below (by kernel_rfl) (by kernel_rfl) ?_
              iterate 23 (go_big_quiet_step ((go_at_call 25; exact call_regrown A1.out)))
              iterate 4 (go_big_quiet_step ((go_at_call 25; exact call_regrown A2.out)))
              iterate 6 (go_big_quiet_step ((go_at_call 25; exact call_regrown A3.out)))
              repeat (go_big_quiet_step ((go_at_call 25; exact call_regrown A2.out)))
              refine wpQuiet_nil ?_
              intro w9 hb
              have BE := Lib.hid hb
              clear hb
              go_wp2_with fail
              go_meet
              exact ⟨rfl, BE⟩
        · skip
          have n1a : (c != a) = true := by rw [bne_iff_ne]; omega
          have n1b : (c == a) = false := by rw [beq_eq_false_iff_ne]; omega
          have n3a : (c != b) = true := by rw [bne_iff_ne]; omega
          have n3b : (c == b) = false := by rw [beq_eq_false_iff_ne]; omega
          have HX1 := Lib.hid (show c ≠ a ∨ d ≠ b from by omega)
          have HX2 := Lib.hid (show c ≠ b ∨ d ≠ a from by omega)
          clear g1 g2 hab
          have Q := HP.out HX1.out HX2.out
          obtain ⟨r, hr⟩ : ∃ r, openB o.val c d = r := ⟨_, rfl⟩
          have A1 := Lib.hid (fun W (h : Below w8.heap.size w8 W) => open_at (r := r) (a := c) (b := d) (Nt.past O1_8.out h) S1.out (by rw [Q.1]; exact hr))
          have A2 := Lib.hid (fun W (h : Below w8.heap.size w8 W) => open_at (r := r) (a := c) (b := d) (Nt.past O8.out h) S0.out hr)
          have A3 := Lib.hid (fun W (h : Below w8.heap.size w8 W) => open_at (r := r) (a := c) (b := d) (Nt.past O2_8.out h) S2.out (by rw [Q.2]; exact hr))
          clear Q hr HX1 HX2
          cases r
          · skip
            have rS1_0 := at_regrown (S1_8.out.cell 0)
            have rS1_1 := at_regrown (S1_8.out.cell 1)
            have rS1_2 := at_regrown (S1_8.out.cell 2)
            have rS1_3 := at_regrown (S1_8.out.cell 3)
            have rS1_4 := at_regrown (S1_8.out.cell 4)
            have rS1_5 := at_regrown (S1_8.out.cell 5)
            have qS1_ := S1_8.out.lt
            have rS2_0 := at_regrown (S2_8.out.cell 0)
            have rS2_1 := at_regrown (S2_8.out.cell 1)
            have rS2_2 := at_regrown (S2_8.out.cell 2)
            have rS2_3 := at_regrown (S2_8.out.cell 3)
            have rS2_4 := at_regrown (S2_8.out.cell 4)
            have rS2_5 := at_regrown (S2_8.out.cell 5)
            have qS2_ := S2_8.out.lt
            have rSO0 := at_regrown (SO8.out.cell 0)
            have rSO1 := at_regrown (SO8.out.cell 1)
            have rSO2 := at_regrown (SO8.out.cell 2)
            have rSO3 := at_regrown (SO8.out.cell 3)
            have rSO4 := at_regrown (SO8.out.cell 4)
            have rSO5 := at_regrown (SO8.out.cell 5)
            have qSO := SO8.out.lt
            go_wp2_with fail
            refine region_below (by kernel_rfl) (by kernel_rfl) ?_
            iterate 23 (go_big_quiet_step ((go_at_call 25; exact call_regrown A1.out)))
            iterate 4 (go_big_quiet_step ((go_at_call 25; exact call_regrown A2.out)))
            iterate 6 (go_big_quiet_step ((go_at_call 25; exact call_regrown A3.out)))
            repeat (go_big_quiet_step ((go_at_call 25; exact call_regrown A2.out)))
            refine wpQuiet_nil ?_
            intro w9 hb
            have BE := Lib.hid hb
            clear hb
            go_wp2_with fail
            go_meet
            exact ⟨rfl, BE⟩
          · skip
            have rS1_0 := at_regrown (S1_8.out.cell 0)
            have rS1_1 := at_regrown (S1_8.out.cell 1)
            have rS1_2 := at_regrown (S1_8.out.cell 2)
            have rS1_3 := at_regrown (S1_8.out.cell 3)
            have rS1_4 := at_regrown (S1_8.out.cell 4)
            have rS1_5 := at_regrown (S1_8.out.cell 5)
            have qS1_ := S1_8.out.lt
            have rS2_0 := at_regrown (S2_8.out.cell 0)
            have rS2_1 := at_regrown (S2_8.out.cell 1)
            have rS2_2 := at_regrown (S2_8.out.cell 2)
            have rS2_3 := at_regrown (S2_8.out.cell 3)
            have rS2_4 := at_regrown (S2_8.out.cell 4)
            have rS2_5 := at_regrown (S2_8.out.cell 5)
            have qS2_ := S2_8.out.lt
            have rSO0 := at_regrown (SO8.out.cell 0)
            have rSO1 := at_regrown (SO8.out.cell 1)
            have rSO2 := at_regrown (SO8.out.cell 2)
            have rSO3 := at_regrown (SO8.out.cell 3)
            have rSO4 := at_regrown (SO8.out.cell 4)
            have rSO5 := at_regrown (SO8.out.cell 5)
            have qSO := SO8.out.lt
            go_wp2_with fail
            refine region_below (by kernel_rfl) (by kernel_rfl) ?_
            iterate 23 (go_big_quiet_step ((go_at_call 25; exact call_regrown A1.out)))
            iterate 4 (go_big_quiet_step ((go_at_call 25; exact call_regrown A2.out)))
            iterate 6 (go_big_quiet_step ((go_at_call 25; exact call_regrown A3.out)))
            repeat (go_big_quiet_step ((go_at_call 25; exact call_regrown A2.out)))
            refine wpQuiet_nil ?_
            intro w9 hb
            have BE := Lib.hid hb
            clear hb
            go_wp2_with fail
            go_meet
            exact ⟨rfl, BE⟩
    case rest =>
      obtain ⟨rfl, hbx⟩ := hcut
      have hb := hbx.out
      clear hbx
      clear cS1_8 lS1_8 cS2_8 lS2_8 cSO8 lSO8
      have B9 := Lib.hid (below_from hb B8.out B8.out.size)
      have SO9 := Lib.hid (SO8.out.past hb)
      have cSO9 := SO9.out.cell
      have lSO9 := SO9.out.lt
      have O9 := Lib.hid (Nt.past O8.out hb)
      have O1_9 := Lib.hid (Nt.past O1_8.out hb)
      have S1_9 := Lib.hid (S1_8.out.past hb)
      have cS1_9 := S1_9.out.cell
      have lS1_9 := S1_9.out.lt
      have O2_9 := Lib.hid (Nt.past O2_8.out hb)
      have S2_9 := Lib.hid (S2_8.out.past hb)
      have cS2_9 := S2_9.out.cell
      have lS2_9 := S2_9.out.lt
      clear hb
      obtain ⟨VZ, hVZ⟩ : ∃ V, sendV V1 a b t [] = V := ⟨_, rfl⟩
      obtain ⟨VZ, g⟩ := VZ
      have HZ := Lib.hid hVZ
      have HG := Lib.hid (P6.out t [] VZ g hVZ)
      clear hVZ
      go_wp2_with fail
      refine (net_at (V := VZ) (c := g) (SD.out o1 a b t none 0 0 [] _ O1_9.out.1 (O1_9.out.few F1.out.1 F1.out.2.1 F1.out.2.2.1 F1.out.2.2.2) (Sl.nil _ _)) (by rw [O1_9.out.2]; exact HZ.out)).mono ?_
      intro e w10 hx
      obtain ⟨o3, rfl, ha, hb⟩ := hx
      have bk10 := hb.alloc hb.size (.cells #[.int .i64 o3.now, .int .i64 o3.next, .slice o3.LA o3.Ln o3.Lc, .slice o3.SA o3.Sn o3.Sc, .slice o3.CA o3.Cn o3.Cc, .slice o3.KA o3.Kn o3.Kc] 27)
      have B10 := Lib.hid (below_from bk10 B9.out B9.out.size)
      have SO10 := Lib.hid (SO9.out.past bk10)
      have cSO10 := SO10.out.cell
      have lSO10 := SO10.out.lt
      have O10 := Lib.hid (Nt.past O9.out bk10)
      have O1_10 := Lib.hid (Nt.past O1_9.out bk10)
      have S1_10 := Lib.hid (S1_9.out.past bk10)
      have cS1_10 := S1_10.out.cell
      have lS1_10 := S1_10.out.lt
      have O2_10 := Lib.hid (Nt.past O2_9.out bk10)
      have S2_10 := Lib.hid (S2_9.out.past bk10)
      have cS2_10 := S2_10.out.cell
      have lS2_10 := S2_10.out.lt
      have O3_10 := Lib.hid (Nt.past ha (below_alloc1 w10 (.cells #[.int .i64 o3.now, .int .i64 o3.next, .slice o3.LA o3.Ln o3.Lc, .slice o3.SA o3.Sn o3.Sc, .slice o3.CA o3.Cn o3.Cc, .slice o3.KA o3.Kn o3.Kc] 27)))
      have S3_10 := Lib.hid (Has.newAt w10 #[.int .i64 o3.now, .int .i64 o3.next, .slice o3.LA o3.Ln o3.Lc, .slice o3.SA o3.Sn o3.Sc, .slice o3.CA o3.Cn o3.Cc, .slice o3.KA o3.Kn o3.Kc] 27 (g := w10.heap.size) rfl)
      have cS3_10 := S3_10.out.cell
      have lS3_10 := S3_10.out.lt
      clear cSO9 lSO9 cS1_9 lS1_9 cS2_9 lS2_9 hb ha bk10
      by_cases hg : g = 0
      · subst hg
        have E1 : o3.Ln = o1.Ln := by
          rw [O3_10.out.lens.1, O1_10.out.lens.1]
          exact HG.out.resolve_left (fun h => h rfl)
        have s3 := S3_10.out.cell 2
        have E2 := Lib.hid E1
        clear E1 s3
        go_wp2_with fail
        go_ret
        exact ⟨ret_bool (by rw [E2.out]; simp), B10.out⟩
      · have d1 : (g != 0) = true := by rw [bne_iff_ne]; exact hg
        have d2 : (g == 0) = false := by rw [beq_eq_false_iff_ne]; exact hg
        clear hg
        go_wp2_with fail
        go_ret
        exact ⟨rfl, B10.out⟩

end Go.Proofs.Ytmlgahambecamaa
