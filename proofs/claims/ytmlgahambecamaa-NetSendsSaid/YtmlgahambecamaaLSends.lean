/- NetSends: any message sent over any net, or why not; it stays as it was. -/
import Derived.Test.YtmlgahambecamaaLawL
import Derived.Test.YtmlgahambecamaaRSend
namespace Go.Proofs.Ytmlgahambecamaa
open Go.RowKit Go.Shelf

set_option maxHeartbeats 16000000 in
set_option maxRecDepth 100000 in
theorem lsends_any (o : Nt) (frm dst d : Int) (A : Option Addr) (n c : Nat) (bs : List UInt8) (w : World) (ho : Nt.At w o) (hy : Sl u8K w A n c bs) : Calls Try.prog 4 #[o.v, .int .i64 frm, .int .i64 dst, .int .i64 d, .slice A n c] w fun e w' => e = .returned (.bool true) ∧ Below w.heap.size w w' := by
  have bw := below_alloc1 w (.cells #[.int .i64 o.now, .int .i64 o.next, .slice o.LA o.Ln o.Lc, .slice o.SA o.Sn o.Sc, .slice o.CA o.Cn o.Cc, .slice o.KA o.Kn o.Kc] 27)
  have B0 := Lib.hid bw
  have SO0 := Lib.hid (Has.newAt w #[.int .i64 o.now, .int .i64 o.next, .slice o.LA o.Ln o.Lc, .slice o.SA o.Sn o.Sc, .slice o.CA o.Cn o.Cc, .slice o.KA o.Kn o.Kc] 27 (g := w.heap.size) rfl)
  have cSO0 := SO0.out.cell
  have lSO0 := SO0.out.lt
  have O0 := Lib.hid (show Nt.Is (w.alloc (.cells #[.int .i64 o.now, .int .i64 o.next, .slice o.LA o.Ln o.Lc, .slice o.SA o.Sn o.Sc, .slice o.CA o.Cn o.Cc, .slice o.KA o.Kn o.Kc] 27)) o o.val from ⟨ho.below bw, rfl⟩)
  have Y0 := Lib.hid (hy.below bw)
  have LV := Lib.hid live_any
  have FW := Lib.hid few_any
  have CP := Lib.hid copy_any
  have SD := Lib.hid send_any
  have RS := Lib.hid rsend_any
  clear bw ho hy
  go_enter Try.func4, Try.ntmps4
  go_wp2_with fail
  refine (LV.out _).mono ?_
  intro e w1 hx
  obtain ⟨rfl, hb⟩ := hx
  have B1 := Lib.hid (below_from hb B0.out B0.out.size)
  have SO1 := Lib.hid (SO0.out.past hb)
  have cSO1 := SO1.out.cell
  have lSO1 := SO1.out.lt
  have O1 := Lib.hid (Nt.past O0.out hb)
  have Y1 := Lib.hid (Y0.out.below hb)
  clear cSO0 lSO0 hb
  go_wp2_with fail
  refine (FW.out o _ O1.out.1).mono ?_
  intro e w2 hx
  obtain ⟨⟨bf, rfl, hf⟩, hb⟩ := hx
  have HF := Lib.hid hf
  clear hf
  have B2 := Lib.hid (below_from hb B1.out B1.out.size)
  have SO2 := Lib.hid (SO1.out.past hb)
  have cSO2 := SO2.out.cell
  have lSO2 := SO2.out.lt
  have O2 := Lib.hid (Nt.past O1.out hb)
  have Y2 := Lib.hid (Y1.out.below hb)
  clear cSO1 lSO1 hb
  cases bf with
  | false =>
    go_wp2_with fail
    go_ret
    exact ⟨rfl, B2.out⟩
  | true =>
  have HF := Lib.hid (HF.out rfl)
  by_cases h1 : 5000 < n
  · have d1 : decide ((5000 : Int) < (n : Int)) = true := decide_eq_true (by omega)
    have d2 : decide (5000 < n) = true := decide_eq_true h1
    go_wp2_with fail
    go_ret
    exact ⟨rfl, B2.out⟩
  have dh11 : decide ((5000 : Int) < (n : Int)) = false := decide_eq_false (by omega)
  have dh12 : decide (5000 < n) = false := decide_eq_false h1
  have FEW := Lib.hid (show o.Few from ⟨by have := HF.out; omega, by have := HF.out; omega, by have := HF.out; omega, by have := HF.out; omega⟩)
  go_wp2_with fail
  refine (CP.out o _ O2.out.1 FEW.out).mono ?_
  intro e w3 hx
  obtain ⟨o3, rfl, hL, hO, hb⟩ := hx
  have ha : Nt.Is w3 o3 o.val := ⟨hO.at_, hL.val⟩
  have bk3 := hb.alloc hb.size (.cells #[.int .i64 o3.now, .int .i64 o3.next, .slice o3.LA o3.Ln o3.Lc, .slice o3.SA o3.Sn o3.Sc, .slice o3.CA o3.Cn o3.Cc, .slice o3.KA o3.Kn o3.Kc] 27)
  have B3 := Lib.hid (below_from bk3 B2.out B2.out.size)
  have SO3 := Lib.hid (SO2.out.past bk3)
  have cSO3 := SO3.out.cell
  have lSO3 := SO3.out.lt
  have O3 := Lib.hid (Nt.past O2.out bk3)
  have Y3 := Lib.hid (Y2.out.below bk3)
  have O3_3 := Lib.hid (Nt.past ha (below_alloc1 w3 (.cells #[.int .i64 o3.now, .int .i64 o3.next, .slice o3.LA o3.Ln o3.Lc, .slice o3.SA o3.Sn o3.Sc, .slice o3.CA o3.Cn o3.Cc, .slice o3.KA o3.Kn o3.Kc] 27)))
  have S3_3 := Lib.hid (Has.newAt w3 #[.int .i64 o3.now, .int .i64 o3.next, .slice o3.LA o3.Ln o3.Lc, .slice o3.SA o3.Sn o3.Sc, .slice o3.CA o3.Cn o3.Cc, .slice o3.KA o3.Kn o3.Kc] 27 (g := w3.heap.size) rfl)
  have cS3_3 := S3_3.out.cell
  have lS3_3 := S3_3.out.lt
  clear cSO2 lSO2 hb ha hL hO
  go_wp2_with fail
  obtain ⟨W5, hW5⟩ : ∃ W, W = (w3.alloc (.cells #[.int .i64 o3.now, .int .i64 o3.next, .slice o3.LA o3.Ln o3.Lc, .slice o3.SA o3.Sn o3.Sc, .slice o3.CA o3.Cn o3.Cc, .slice o3.KA o3.Kn o3.Kc] 27)) := ⟨_, rfl⟩
  rw [← hW5] at B3 SO3 cSO3 lSO3 O3 Y3 O3_3 S3_3 cS3_3 lS3_3
  rw [← hW5]
  clear hW5
  obtain ⟨V, hV⟩ : ∃ V, sendV o.val frm dst d bs = V := ⟨_, rfl⟩
  obtain ⟨V, e1⟩ := V
  have HV := Lib.hid hV
  clear hV
  refine (net_own (V := V) (c := e1) (SD.out o frm dst d A n c bs _ O3.out.1 FEW.out Y3.out) HV.out).mono ?_
  intro e w4 hx
  obtain ⟨o1, rfl, ⟨ha, hr⟩, hb⟩ := hx
  have BW0 := hb.alloc hb.size (.cells #[.int .i64 o1.now, .int .i64 o1.next, .slice o1.LA o1.Ln o1.Lc, .slice o1.SA o1.Sn o1.Sc, .slice o1.CA o1.Cn o1.Cc, .slice o1.KA o1.Kn o1.Kc] 27)
  have bk4 := BW0
  have B4 := Lib.hid (below_from bk4 B3.out B3.out.size)
  have SO4 := Lib.hid (SO3.out.past bk4)
  have cSO4 := SO4.out.cell
  have lSO4 := SO4.out.lt
  have O4 := Lib.hid (Nt.past O3.out bk4)
  have Y4 := Lib.hid (Y3.out.below bk4)
  have O3_4 := Lib.hid (Nt.past O3_3.out bk4)
  have S3_4 := Lib.hid (S3_3.out.past bk4)
  have cS3_4 := S3_4.out.cell
  have lS3_4 := S3_4.out.lt
  have O1_4 := Lib.hid (Nt.past ha (below_alloc1 w4 (.cells #[.int .i64 o1.now, .int .i64 o1.next, .slice o1.LA o1.Ln o1.Lc, .slice o1.SA o1.Sn o1.Sc, .slice o1.CA o1.Cn o1.Cc, .slice o1.KA o1.Kn o1.Kc] 27)))
  have R4 := Lib.hid (hr.kept (below_alloc1 w4 (.cells #[.int .i64 o1.now, .int .i64 o1.next, .slice o1.LA o1.Ln o1.Lc, .slice o1.SA o1.Sn o1.Sc, .slice o1.CA o1.Cn o1.Cc, .slice o1.KA o1.Kn o1.Kc] 27)))
  have RL := Lib.hid (show ∀ b, (Value.slice o1.LA o1.Ln o1.Lc).ownBlock = some b → b < w4.heap.size from fun b h => (hr.2.lt b h).2)
  have S1_4 := Lib.hid (Has.newAt w4 #[.int .i64 o1.now, .int .i64 o1.next, .slice o1.LA o1.Ln o1.Lc, .slice o1.SA o1.Sn o1.Sc, .slice o1.CA o1.Cn o1.Cc, .slice o1.KA o1.Kn o1.Kc] 27 (g := w4.heap.size) rfl)
  have cS1_4 := S1_4.out.cell
  have lS1_4 := S1_4.out.lt
  have BW4 := Lib.hid BW0
  clear cSO3 lSO3 cS3_3 lS3_3 hb ha hr BW0 bk4
  go_wp2_with fail
  refine (net_at (V := V) (c := e1) (RS.out o frm dst d A n c bs _ O4.out.1 FEW.out Y4.out) HV.out).mono ?_
  intro e w5 hx
  obtain ⟨o2, rfl, ha, hb⟩ := hx
  have bk5 := hb.alloc hb.size (.cells #[.int .i64 o2.now, .int .i64 o2.next, .slice o2.LA o2.Ln o2.Lc, .slice o2.SA o2.Sn o2.Sc, .slice o2.CA o2.Cn o2.Cc, .slice o2.KA o2.Kn o2.Kc] 27)
  have B5 := Lib.hid (below_from bk5 B4.out B4.out.size)
  have SO5 := Lib.hid (SO4.out.past bk5)
  have cSO5 := SO5.out.cell
  have lSO5 := SO5.out.lt
  have O5 := Lib.hid (Nt.past O4.out bk5)
  have Y5 := Lib.hid (Y4.out.below bk5)
  have O3_5 := Lib.hid (Nt.past O3_4.out bk5)
  have S3_5 := Lib.hid (S3_4.out.past bk5)
  have cS3_5 := S3_5.out.cell
  have lS3_5 := S3_5.out.lt
  have O1_5 := Lib.hid (Nt.past O1_4.out bk5)
  have R5 := Lib.hid (R4.out.kept bk5)
  have BW5 := Lib.hid (below_from bk5 BW4.out BW4.out.size)
  have S1_5 := Lib.hid (S1_4.out.past bk5)
  have cS1_5 := S1_5.out.cell
  have lS1_5 := S1_5.out.lt
  have O2_5 := Lib.hid (Nt.past ha (below_alloc1 w5 (.cells #[.int .i64 o2.now, .int .i64 o2.next, .slice o2.LA o2.Ln o2.Lc, .slice o2.SA o2.Sn o2.Sc, .slice o2.CA o2.Cn o2.Cc, .slice o2.KA o2.Kn o2.Kc] 27)))
  have S2_5 := Lib.hid (Has.newAt w5 #[.int .i64 o2.now, .int .i64 o2.next, .slice o2.LA o2.Ln o2.Lc, .slice o2.SA o2.Sn o2.Sc, .slice o2.CA o2.Cn o2.Cc, .slice o2.KA o2.Kn o2.Kc] 27 (g := w5.heap.size) rfl)
  have cS2_5 := S2_5.out.cell
  have lS2_5 := S2_5.out.lt
  clear cSO4 lSO4 cS3_4 lS3_4 cS1_4 lS1_4 hb ha bk5
  have SA := same_at O1_5.out O2_5.out
  have SA := Lib.hid SA
  go_wp2_with fail
  refine (SA.out).mono ?_
  intro e w6 hx
  obtain ⟨rfl, hb⟩ := hx
  have B6 := Lib.hid (below_from hb B5.out B5.out.size)
  have SO6 := Lib.hid (SO5.out.past hb)
  have cSO6 := SO6.out.cell
  have lSO6 := SO6.out.lt
  have O6 := Lib.hid (Nt.past O5.out hb)
  have Y6 := Lib.hid (Y5.out.below hb)
  have O3_6 := Lib.hid (Nt.past O3_5.out hb)
  have S3_6 := Lib.hid (S3_5.out.past hb)
  have cS3_6 := S3_6.out.cell
  have lS3_6 := S3_6.out.lt
  have O1_6 := Lib.hid (Nt.past O1_5.out hb)
  have R6 := Lib.hid (R5.out.kept hb)
  have BW6 := Lib.hid (below_from hb BW5.out BW5.out.size)
  have S1_6 := Lib.hid (S1_5.out.past hb)
  have cS1_6 := S1_6.out.cell
  have lS1_6 := S1_6.out.lt
  have O2_6 := Lib.hid (Nt.past O2_5.out hb)
  have S2_6 := Lib.hid (S2_5.out.past hb)
  have cS2_6 := S2_6.out.cell
  have lS2_6 := S2_6.out.lt
  clear cSO5 lSO5 cS3_5 lS3_5 cS1_5 lS1_5 cS2_5 lS2_5 hb
  obtain ⟨LA, hLA⟩ : ∃ A, o1.LA = A := ⟨_, rfl⟩
  obtain ⟨Ln, hLn⟩ : ∃ A, o1.Ln = A := ⟨_, rfl⟩
  obtain ⟨Lc, hLc⟩ : ∃ A, o1.Lc = A := ⟨_, rfl⟩
  have BL := BW6
  have BU := Lib.hid (Bump.mk_of R6.out)
  have XC := Lib.hid (S1_6.out.cell 2)
  have XL := Lib.hid S1_6.out.lt
  rw [hLA, hLn, hLc] at RL BU
  replace XC : Hid (w6.cell? ⟨w4.heap.size, 2, none⟩ = some (.slice LA Ln Lc)) := Lib.hid (by rw [← hLA, ← hLn, ← hLc]; exact XC.out)
  have xc := XC.out
  have xl := XL.out
  clear hLA hLn hLc cS1_6 lS1_6
  go_wp2_with fail
  clear xc xl
  go_loopg [59] Ln (fun gg s wr => ∃ k : Nat, k ≤ Ln ∧ Ln - k ≤ gg ∧ s = .int .i64 k ∧ Hid (Below W5.heap.size W5 wr) ∧ Hid (wr.cell? ⟨w4.heap.size, 2, none⟩ = some (.slice LA Ln Lc)) ∧ Hid (w4.heap.size < wr.heap.size) ∧ Hid (Bump wr W5.heap.size LA Ln Lc))
  case atStart => exact ⟨0, Nat.zero_le _, by omega, rfl, BL, XC, XL, BU⟩
  case round =>
    obtain ⟨k, hk, hgg, rfl, B1, XC1, XL1, BU1⟩ := hrel
    have xc := XC1.out
    have xl := XL1.out
    by_cases hlt : k < Ln
    · skip
      obtain ⟨g, t, hA, hB, hg, x0, xf, ⟨hnc, hcm⟩, hst⟩ := BU1.out.at hlt
      obtain ⟨u, hu⟩ : ∃ u, IntKind.i64.wrap (t + 1) = u := ⟨_, rfl⟩
      have ST := Lib.hid (hst u)
      clear hst
      have hne : w4.heap.size ≠ g := by
        have := RL.out g (by rw [hA]; rfl)
        omega
      have hne2 : g ≠ w4.heap.size := fun e => hne e.symm
      have XC2 := Lib.hid ((grown_cell (i := 2) ST.out.2 xl hne).trans xc)
      have XL2 := Lib.hid (Nat.lt_of_lt_of_le xl ST.out.2.size)
      have B2 := Lib.hid (B1.out.trans (grown_below ST.out.2 B1.out.size (fun j hj => by injection hj with hj; omega)))
      have ST1 := Lib.hid ST.out.1
      clear ST
      subst hA
      go_wp2_with fail
      clear hu
      go_roundg (Ln - (k + 1))
      case measure => omega
      case rel => exact ⟨k + 1, by omega, by omega, by go_num, B2, XC2, XL2, ST1⟩
    · skip
      obtain rfl : Ln = k := by omega
      have OA := Nt.past O3.out B1.out
      have OB := Nt.past O3_3.out B1.out
      have so := SO3.out.past B1.out
      have s3 := S3_3.out.past B1.out
      have SE := Lib.hid (same_at OA OB)
      have c1 := so.cell
      have l1 := so.lt
      have c2 := s3.cell
      have l2 := s3.lt
      have BF := Lib.hid (below_from B1.out B3.out B3.out.size)
      clear OA OB so s3 xc xl
      go_wp2_with (go_at_call 17; refine SE.out.mono ?_; rintro e w9 ⟨rfl, hb⟩; have BE := Lib.hid (below_from hb BF.out BF.out.size); clear hb)
      go_ret
      exact ⟨rfl, BE.out⟩

end Go.Proofs.Ytmlgahambecamaa
