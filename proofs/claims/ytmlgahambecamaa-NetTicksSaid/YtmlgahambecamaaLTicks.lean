/- NetTicks: what comes when any time goes by, and what stays, or why not; it stays as it was. -/
import Derived.Test.YtmlgahambecamaaLawL
import Derived.Test.YtmlgahambecamaaRTick
namespace Go.Proofs.Ytmlgahambecamaa
open Go.RowKit Go.Shelf

set_option maxHeartbeats 16000000 in
set_option maxRecDepth 100000 in
theorem lticks_any (o : Nt) (d : Int) (w : World) (ho : Nt.At w o) : Calls Try.prog 5 #[o.v, .int .i64 d] w fun e w' => e = .returned (.bool true) ∧ Below w.heap.size w w' := by
  have bw := below_alloc1 w (.cells #[.int .i64 o.now, .int .i64 o.next, .slice o.LA o.Ln o.Lc, .slice o.SA o.Sn o.Sc, .slice o.CA o.Cn o.Cc, .slice o.KA o.Kn o.Kc] 27)
  have B0 := Lib.hid bw
  have SO0 := Lib.hid (Has.newAt w #[.int .i64 o.now, .int .i64 o.next, .slice o.LA o.Ln o.Lc, .slice o.SA o.Sn o.Sc, .slice o.CA o.Cn o.Cc, .slice o.KA o.Kn o.Kc] 27 (g := w.heap.size) rfl)
  have cSO0 := SO0.out.cell
  have lSO0 := SO0.out.lt
  have O0 := Lib.hid (show Nt.Is (w.alloc (.cells #[.int .i64 o.now, .int .i64 o.next, .slice o.LA o.Ln o.Lc, .slice o.SA o.Sn o.Sc, .slice o.CA o.Cn o.Cc, .slice o.KA o.Kn o.Kc] 27)) o o.val from ⟨ho.below bw, rfl⟩)
  have LV := Lib.hid live_any
  have FW := Lib.hid few_any
  have CP := Lib.hid copy_any
  have TK := Lib.hid tick_any
  have RT := Lib.hid rtick_any
  clear bw ho 
  go_enter Try.func5, Try.ntmps5
  go_wp2_with fail
  refine (LV.out _).mono ?_
  intro e w1 hx
  obtain ⟨rfl, hb⟩ := hx
  have B1 := Lib.hid (below_from hb B0.out B0.out.size)
  have SO1 := Lib.hid (SO0.out.past hb)
  have cSO1 := SO1.out.cell
  have lSO1 := SO1.out.lt
  have O1 := Lib.hid (Nt.past O0.out hb)
  clear cSO0 lSO0 hb
  go_wp2_with fail
  refine (FW.out o _ O1.out.1).mono ?_
  intro e w2 hx
  obtain ⟨⟨bf, rfl, hf⟩, hb⟩ := hx
  have HF := Lib.hid hf
  clear hf
  have B2 := Lib.hid (below_from hb B1.out B1.out.size)
  have SO2 := Lib.hid (SO1.out.past hb)
  have cSO2 := SO2.out.cell
  have lSO2 := SO2.out.lt
  have O2 := Lib.hid (Nt.past O1.out hb)
  clear cSO1 lSO1 hb
  cases bf with
  | false =>
    go_wp2_with fail
    go_ret
    exact ⟨rfl, B2.out⟩
  | true =>
  have HF := Lib.hid (HF.out rfl)
  have FEW := Lib.hid (show o.Few from ⟨by have := HF.out; omega, by have := HF.out; omega, by have := HF.out; omega, by have := HF.out; omega⟩)
  go_wp2_with fail
  refine (CP.out o _ O2.out.1 FEW.out).mono ?_
  intro e w3 hx
  obtain ⟨o3, rfl, hL, hO, hb⟩ := hx
  have ha : Nt.Is w3 o3 o.val := ⟨hO.at_, hL.val⟩
  have bk3 := hb.alloc hb.size (.cells #[.int .i64 o3.now, .int .i64 o3.next, .slice o3.LA o3.Ln o3.Lc, .slice o3.SA o3.Sn o3.Sc, .slice o3.CA o3.Cn o3.Cc, .slice o3.KA o3.Kn o3.Kc] 27)
  have B3 := Lib.hid (below_from bk3 B2.out B2.out.size)
  have SO3 := Lib.hid (SO2.out.past bk3)
  have cSO3 := SO3.out.cell
  have lSO3 := SO3.out.lt
  have O3 := Lib.hid (Nt.past O2.out bk3)
  have O3_3 := Lib.hid (Nt.past ha (below_alloc1 w3 (.cells #[.int .i64 o3.now, .int .i64 o3.next, .slice o3.LA o3.Ln o3.Lc, .slice o3.SA o3.Sn o3.Sc, .slice o3.CA o3.Cn o3.Cc, .slice o3.KA o3.Kn o3.Kc] 27)))
  have S3_3 := Lib.hid (Has.newAt w3 #[.int .i64 o3.now, .int .i64 o3.next, .slice o3.LA o3.Ln o3.Lc, .slice o3.SA o3.Sn o3.Sc, .slice o3.CA o3.Cn o3.Cc, .slice o3.KA o3.Kn o3.Kc] 27 (g := w3.heap.size) rfl)
  have cS3_3 := S3_3.out.cell
  have lS3_3 := S3_3.out.lt
  clear cSO2 lSO2 hb ha hL hO
  go_wp2_with fail
  obtain ⟨W5, hW5⟩ : ∃ W, W = (w3.alloc (.cells #[.int .i64 o3.now, .int .i64 o3.next, .slice o3.LA o3.Ln o3.Lc, .slice o3.SA o3.Sn o3.Sc, .slice o3.CA o3.Cn o3.Cc, .slice o3.KA o3.Kn o3.Kc] 27)) := ⟨_, rfl⟩
  rw [← hW5] at B3 SO3 cSO3 lSO3 O3 O3_3 S3_3 cS3_3 lS3_3
  rw [← hW5]
  clear hW5
  obtain ⟨V, hV⟩ : ∃ V, tickV o.val d = V := ⟨_, rfl⟩
  obtain ⟨V, M, e1⟩ := V
  have HV := Lib.hid hV
  clear hV
  refine (tick_own (V := V) (M := M) (c := e1) (TK.out o d _ O3.out.1 FEW.out) HV.out).mono ?_
  intro e w4 hx
  obtain ⟨o1, A1, n1, c1, l1, rfl, ⟨ha, hr⟩, ⟨hm, hr2, hap⟩, hb⟩ := hx
  have BW0 := hb.alloc hb.size (.cells #[.int .i64 o1.now, .int .i64 o1.next, .slice o1.LA o1.Ln o1.Lc, .slice o1.SA o1.Sn o1.Sc, .slice o1.CA o1.Cn o1.Cc, .slice o1.KA o1.Kn o1.Kc] 27)
  have bk4 := BW0
  have B4 := Lib.hid (below_from bk4 B3.out B3.out.size)
  have SO4 := Lib.hid (SO3.out.past bk4)
  have cSO4 := SO4.out.cell
  have lSO4 := SO4.out.lt
  have O4 := Lib.hid (Nt.past O3.out bk4)
  have O3_4 := Lib.hid (Nt.past O3_3.out bk4)
  have S3_4 := Lib.hid (S3_3.out.past bk4)
  have cS3_4 := S3_4.out.cell
  have lS3_4 := S3_4.out.lt
  have O1_4 := Lib.hid (Nt.past ha (below_alloc1 w4 (.cells #[.int .i64 o1.now, .int .i64 o1.next, .slice o1.LA o1.Ln o1.Lc, .slice o1.SA o1.Sn o1.Sc, .slice o1.CA o1.Cn o1.Cc, .slice o1.KA o1.Kn o1.Kc] 27)))
  have R4 := Lib.hid (hr.kept (below_alloc1 w4 (.cells #[.int .i64 o1.now, .int .i64 o1.next, .slice o1.LA o1.Ln o1.Lc, .slice o1.SA o1.Sn o1.Sc, .slice o1.CA o1.Cn o1.Cc, .slice o1.KA o1.Kn o1.Kc] 27)))
  have M1_4 := Lib.hid (Ms.past hm (below_alloc1 w4 (.cells #[.int .i64 o1.now, .int .i64 o1.next, .slice o1.LA o1.Ln o1.Lc, .slice o1.SA o1.Sn o1.Sc, .slice o1.CA o1.Cn o1.Cc, .slice o1.KA o1.Kn o1.Kc] 27)))
  have Q4 := Lib.hid (hr2.kept (below_alloc1 w4 (.cells #[.int .i64 o1.now, .int .i64 o1.next, .slice o1.LA o1.Ln o1.Lc, .slice o1.SA o1.Sn o1.Sc, .slice o1.CA o1.Cn o1.Cc, .slice o1.KA o1.Kn o1.Kc] 27)))
  have AP := Lib.hid hap
  have RL := Lib.hid (show ∀ b, (Value.slice o1.LA o1.Ln o1.Lc).ownBlock = some b → b < w4.heap.size from fun b h => (hr.2.lt b h).2)
  have S1_4 := Lib.hid (Has.newAt w4 #[.int .i64 o1.now, .int .i64 o1.next, .slice o1.LA o1.Ln o1.Lc, .slice o1.SA o1.Sn o1.Sc, .slice o1.CA o1.Cn o1.Cc, .slice o1.KA o1.Kn o1.Kc] 27 (g := w4.heap.size) rfl)
  have cS1_4 := S1_4.out.cell
  have lS1_4 := S1_4.out.lt
  have BW4 := Lib.hid BW0
  clear cSO3 lSO3 cS3_3 lS3_3 hb ha hr hm hr2 hap BW0 bk4
  go_wp2_with fail
  refine (tick_at (V := V) (M := M) (c := e1) (RT.out o d _ O4.out.1 FEW.out) HV.out).mono ?_
  intro e w5 hx
  obtain ⟨o2, A2, n2, c2, l2, rfl, ha, hm, hb⟩ := hx
  have bk5 := hb.alloc hb.size (.cells #[.int .i64 o2.now, .int .i64 o2.next, .slice o2.LA o2.Ln o2.Lc, .slice o2.SA o2.Sn o2.Sc, .slice o2.CA o2.Cn o2.Cc, .slice o2.KA o2.Kn o2.Kc] 27)
  have B5 := Lib.hid (below_from bk5 B4.out B4.out.size)
  have SO5 := Lib.hid (SO4.out.past bk5)
  have cSO5 := SO5.out.cell
  have lSO5 := SO5.out.lt
  have O5 := Lib.hid (Nt.past O4.out bk5)
  have O3_5 := Lib.hid (Nt.past O3_4.out bk5)
  have S3_5 := Lib.hid (S3_4.out.past bk5)
  have cS3_5 := S3_5.out.cell
  have lS3_5 := S3_5.out.lt
  have O1_5 := Lib.hid (Nt.past O1_4.out bk5)
  have R5 := Lib.hid (R4.out.kept bk5)
  have BW5 := Lib.hid (below_from bk5 BW4.out BW4.out.size)
  have M1_5 := Lib.hid (Ms.past M1_4.out bk5)
  have Q5 := Lib.hid (Q4.out.kept bk5)
  have S1_5 := Lib.hid (S1_4.out.past bk5)
  have cS1_5 := S1_5.out.cell
  have lS1_5 := S1_5.out.lt
  have O2_5 := Lib.hid (Nt.past ha (below_alloc1 w5 (.cells #[.int .i64 o2.now, .int .i64 o2.next, .slice o2.LA o2.Ln o2.Lc, .slice o2.SA o2.Sn o2.Sc, .slice o2.CA o2.Cn o2.Cc, .slice o2.KA o2.Kn o2.Kc] 27)))
  have M2_5 := Lib.hid (Ms.past hm (below_alloc1 w5 (.cells #[.int .i64 o2.now, .int .i64 o2.next, .slice o2.LA o2.Ln o2.Lc, .slice o2.SA o2.Sn o2.Sc, .slice o2.CA o2.Cn o2.Cc, .slice o2.KA o2.Kn o2.Kc] 27)))
  have S2_5 := Lib.hid (Has.newAt w5 #[.int .i64 o2.now, .int .i64 o2.next, .slice o2.LA o2.Ln o2.Lc, .slice o2.SA o2.Sn o2.Sc, .slice o2.CA o2.Cn o2.Cc, .slice o2.KA o2.Kn o2.Kc] 27 (g := w5.heap.size) rfl)
  have cS2_5 := S2_5.out.cell
  have lS2_5 := S2_5.out.lt
  clear cSO4 lSO4 cS3_4 lS3_4 cS1_4 lS1_4 hb ha hm bk5
  have SA := Lib.hid (same_at O1_5.out O2_5.out)
  go_wp2_with fail
  refine (SA.out).mono ?_
  intro e w6 hx
  obtain ⟨rfl, hb⟩ := hx
  have B6 := Lib.hid (below_from hb B5.out B5.out.size)
  have SO6 := Lib.hid (SO5.out.past hb)
  have cSO6 := SO6.out.cell
  have lSO6 := SO6.out.lt
  have O6 := Lib.hid (Nt.past O5.out hb)
  have O3_6 := Lib.hid (Nt.past O3_5.out hb)
  have S3_6 := Lib.hid (S3_5.out.past hb)
  have cS3_6 := S3_6.out.cell
  have lS3_6 := S3_6.out.lt
  have O1_6 := Lib.hid (Nt.past O1_5.out hb)
  have R6 := Lib.hid (R5.out.kept hb)
  have BW6 := Lib.hid (below_from hb BW5.out BW5.out.size)
  have M1_6 := Lib.hid (Ms.past M1_5.out hb)
  have Q6 := Lib.hid (Q5.out.kept hb)
  have S1_6 := Lib.hid (S1_5.out.past hb)
  have cS1_6 := S1_6.out.cell
  have lS1_6 := S1_6.out.lt
  have O2_6 := Lib.hid (Nt.past O2_5.out hb)
  have M2_6 := Lib.hid (Ms.past M2_5.out hb)
  have S2_6 := Lib.hid (S2_5.out.past hb)
  have cS2_6 := S2_6.out.cell
  have lS2_6 := S2_6.out.lt
  clear cSO5 lSO5 cS3_5 lS3_5 cS1_5 lS1_5 cS2_5 lS2_5 hb
  have MA := Lib.hid (msgs_at M1_6.out M2_6.out)
  go_wp2_with fail
  refine (MA.out).mono ?_
  intro e w7 hx
  obtain ⟨rfl, hb⟩ := hx
  have B7 := Lib.hid (below_from hb B6.out B6.out.size)
  have SO7 := Lib.hid (SO6.out.past hb)
  have cSO7 := SO7.out.cell
  have lSO7 := SO7.out.lt
  have O7 := Lib.hid (Nt.past O6.out hb)
  have O3_7 := Lib.hid (Nt.past O3_6.out hb)
  have S3_7 := Lib.hid (S3_6.out.past hb)
  have cS3_7 := S3_7.out.cell
  have lS3_7 := S3_7.out.lt
  have O1_7 := Lib.hid (Nt.past O1_6.out hb)
  have R7 := Lib.hid (R6.out.kept hb)
  have BW7 := Lib.hid (below_from hb BW6.out BW6.out.size)
  have M1_7 := Lib.hid (Ms.past M1_6.out hb)
  have Q7 := Lib.hid (Q6.out.kept hb)
  have S1_7 := Lib.hid (S1_6.out.past hb)
  have cS1_7 := S1_7.out.cell
  have lS1_7 := S1_7.out.lt
  have O2_7 := Lib.hid (Nt.past O2_6.out hb)
  have M2_7 := Lib.hid (Ms.past M2_6.out hb)
  have S2_7 := Lib.hid (S2_6.out.past hb)
  have cS2_7 := S2_7.out.cell
  have lS2_7 := S2_7.out.lt
  clear cSO6 lSO6 cS3_6 lS3_6 cS1_6 lS1_6 cS2_6 lS2_6 hb
  obtain ⟨LA, hLA⟩ : ∃ A, o1.LA = A := ⟨_, rfl⟩
  obtain ⟨Ln, hLn⟩ : ∃ A, o1.Ln = A := ⟨_, rfl⟩
  obtain ⟨Lc, hLc⟩ : ∃ A, o1.Lc = A := ⟨_, rfl⟩
  have BL := BW7
  have BU := Lib.hid (Bump.mk_of R7.out)
  have DU := Lib.hid (Bump.mk_of Q7.out)
  have XC := Lib.hid (S1_7.out.cell 2)
  have XL := Lib.hid S1_7.out.lt
  rw [hLA, hLn, hLc] at RL BU AP
  replace XC : Hid (w7.cell? ⟨w4.heap.size, 2, none⟩ = some (.slice LA Ln Lc)) := Lib.hid (by rw [← hLA, ← hLn, ← hLc]; exact XC.out)
  have xc := XC.out
  have xl := XL.out
  clear hLA hLn hLc cS1_7 lS1_7
  go_wp2_with fail
  clear xc xl
  go_loopg [52] Ln (fun gg s wr => ∃ k : Nat, k ≤ Ln ∧ Ln - k ≤ gg ∧ s = .int .i64 k ∧ Hid (Below W5.heap.size W5 wr) ∧ Hid (wr.cell? ⟨w4.heap.size, 2, none⟩ = some (.slice LA Ln Lc)) ∧ Hid (w4.heap.size < wr.heap.size) ∧ Hid (Bump wr W5.heap.size LA Ln Lc) ∧ Hid (Bump wr W5.heap.size A1 n1 c1))
  case atStart => exact ⟨0, Nat.zero_le _, by omega, rfl, BL, XC, XL, BU, DU⟩
  case round =>
    obtain ⟨k, hk, hgg, rfl, B1, XC1, XL1, BU1, D1⟩ := hrel
    have xc := XC1.out
    have xl := XL1.out
    by_cases hlt : k < Ln
    · skip
      obtain ⟨g, t, hA, hB, hg, x0, xf, ⟨hnc, hcm⟩, hst⟩ := BU1.out.at hlt
      obtain ⟨u, hu⟩ : ∃ u, IntKind.i64.wrap (t + 1) = u := ⟨_, rfl⟩
      have ST := Lib.hid (hst u)
      clear hst
      have hne : w4.heap.size ≠ g := by
        have := RL.out g (by rw [hA]; rfl)
        omega
      have hne2 : g ≠ w4.heap.size := fun e => hne e.symm
      have D2 := Lib.hid (D1.out.apart ST.out.2 (fun b hb e => AP.out b hb (by rw [hA]; injection e with e; rw [← e]; rfl)))
      have XC2 := Lib.hid ((grown_cell (i := 2) ST.out.2 xl hne).trans xc)
      have XL2 := Lib.hid (Nat.lt_of_lt_of_le xl ST.out.2.size)
      have B2 := Lib.hid (B1.out.trans (grown_below ST.out.2 B1.out.size (fun j hj => by injection hj with hj; omega)))
      have ST1 := Lib.hid ST.out.1
      clear ST
      subst hA
      go_wp2_with fail
      clear hu
      go_roundg (Ln - (k + 1))
      case measure => omega
      case rel => exact ⟨k + 1, by omega, by omega, by go_num, B2, XC2, XL2, ST1, D2⟩
    · skip
      obtain rfl : Ln = k := by omega
      have B0 := B1
      clear xc xl
      go_wp2_with fail
      go_loopg [67] n1 (fun gg s wr => ∃ k : Nat, k ≤ n1 ∧ n1 - k ≤ gg ∧ s = .int .i64 k ∧ Hid (Below W5.heap.size W5 wr) ∧ Hid (Bump wr W5.heap.size A1 n1 c1))
      case atStart => exact ⟨0, Nat.zero_le _, by omega, rfl, B0, D1⟩
      case round =>
        obtain ⟨k, hk, hgg, rfl, B1, BU1⟩ := hrel
        by_cases hlt : k < n1
        · skip
          obtain ⟨g, t, hA, hB, hg, x0, xf, ⟨hnc, hcm⟩, hst⟩ := BU1.out.at hlt
          obtain ⟨u, hu⟩ : ∃ u, IntKind.i64.wrap (t + 1) = u := ⟨_, rfl⟩
          have ST := Lib.hid (hst u)
          clear hst
          have B2 := Lib.hid (B1.out.trans (grown_below ST.out.2 B1.out.size (fun j hj => by injection hj with hj; omega)))
          have ST1 := Lib.hid ST.out.1
          clear ST
          subst hA
          go_wp2_with fail
          clear hu
          go_roundg (n1 - (k + 1))
          case measure => omega
          case rel => exact ⟨k + 1, by omega, by omega, by go_num, B2, ST1⟩
        · skip
          obtain rfl : n1 = k := by omega
          have OA := Nt.past O3.out B1.out
          have OB := Nt.past O3_3.out B1.out
          have so := SO3.out.past B1.out
          have s3 := S3_3.out.past B1.out
          have SE := Lib.hid (same_at OA OB)
          have c1 := so.cell
          have l1 := so.lt
          have c2 := s3.cell
          have l2 := s3.lt
          have BF := Lib.hid (below_from B1.out B3.out B3.out.size)
          clear OA OB so s3
          go_wp2_with (go_at_call 17; refine SE.out.mono ?_; rintro e w9 ⟨rfl, hb⟩; have BE := Lib.hid (below_from hb BF.out BF.out.size); clear hb)
          go_ret
          exact ⟨rfl, BE.out⟩

end Go.Proofs.Ytmlgahambecamaa
