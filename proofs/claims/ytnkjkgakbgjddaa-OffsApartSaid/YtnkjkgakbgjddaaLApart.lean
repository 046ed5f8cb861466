/- OffsApart: unlike places do not meet. -/
import Derived.Test.YtnkjkgakbgjddaaLPut
import Derived.Deep.DeepCutAuto
namespace Go.Proofs.Ytnkjkgakbgjddaa
open Go.RowKit

set_option maxHeartbeats 16000000 in
set_option maxRecDepth 100000 in
theorem lapart_any (o : Of) (p q : Ps) (a b : Int) (w : World) (ho : Of.At w o) (hp : p.wf) (hq : q.wf) (ha : (Lit.int .i64 a).wf = true) (hb : (Lit.int .i64 b).wf = true) : Calls Try.prog 8 #[o.v, p.v, q.v, .int .i64 a, .int .i64 b] w fun e w' => e = .returned (.bool true) ∧ Below w.heap.size w w' := by
  obtain ⟨L0, eL0⟩ : ∃ L, o.L = L := ⟨_, rfl⟩
  obtain ⟨M0, eM0⟩ : ∃ M, o.M = M := ⟨_, rfl⟩
  have hL0 := Lib.hid eL0
  have hM0 := Lib.hid eM0
  have HO := Lib.hid ho
  have HP := Lib.hid hp
  have HQ := Lib.hid hq
  have WA := Lib.hid ha
  have WB := Lib.hid hb
  obtain ⟨V1, hV1⟩ : ∃ V, putV L0 M0 p = V := ⟨_, rfl⟩
  obtain ⟨L1, M1, e1⟩ := V1
  have V1 := Lib.hid hV1
  clear hV1
  obtain ⟨V2, hV2⟩ : ∃ V, putV L1 M1 q = V := ⟨_, rfl⟩
  obtain ⟨L2, M2, e2⟩ := V2
  have V2 := Lib.hid hV2
  clear hV2
  obtain ⟨V3, hV3⟩ : ∃ V, putV L0 M0 q = V := ⟨_, rfl⟩
  obtain ⟨L3, M3, e3⟩ := V3
  have V3 := Lib.hid hV3
  clear hV3
  obtain ⟨V4, hV4⟩ : ∃ V, putV L3 M3 p = V := ⟨_, rfl⟩
  obtain ⟨L4, M4, e4⟩ := V4
  have V4 := Lib.hid hV4
  clear hV4
  obtain ⟨V5, hV5⟩ : ∃ V, holdV L0 M0 a p = V := ⟨_, rfl⟩
  obtain ⟨L5, M5, e5⟩ := V5
  have V5 := Lib.hid hV5
  clear hV5
  obtain ⟨V6, hV6⟩ : ∃ V, holdV L5 M5 b q = V := ⟨_, rfl⟩
  obtain ⟨L6, M6, e6⟩ := V6
  have V6 := Lib.hid hV6
  clear hV6
  obtain ⟨V7, hV7⟩ : ∃ V, holdV L0 M0 b q = V := ⟨_, rfl⟩
  obtain ⟨L7, M7, e7⟩ := V7
  have V7 := Lib.hid hV7
  clear hV7
  obtain ⟨V8, hV8⟩ : ∃ V, holdV L7 M7 a p = V := ⟨_, rfl⟩
  obtain ⟨L8, M8, e8⟩ := V8
  have V8 := Lib.hid hV8
  clear hV8
  obtain ⟨W0, hW0⟩ : ∃ W0, W0 = (((w.alloc (.cells #[.slice o.A o.n o.c, .slice o.A' o.n' o.c'] 25)).alloc (.cells #[.string p.g, .string p.t, .int .i64 p.p, .int .i64 p.h, .int .i64 p.o] 29)).alloc (.cells #[.string q.g, .string q.t, .int .i64 q.p, .int .i64 q.h, .int .i64 q.o] 29)) := ⟨_, rfl⟩
  have bw : Below w.heap.size w W0 := by rw [hW0]; exact Below.alloc (Below.alloc (below_alloc1 w _) (by simp <;> omega) _) (by simp <;> omega) _
  have B0 := Lib.hid bw
  have So0 := Lib.hid (show Has W0 (w.heap.size) #[.slice o.A o.n o.c, .slice o.A' o.n' o.c'] from by rw [hW0]; exact ((Has.newAt w _ 25 rfl).alloc _).alloc _)
  have cSo0 := So0.out.cell
  have lSo0 := So0.out.lt
  have Sp0 := Lib.hid (show Has W0 (w.heap.size + 1) #[.string p.g, .string p.t, .int .i64 p.p, .int .i64 p.h, .int .i64 p.o] from by rw [hW0]; exact (Has.newAt _ _ 29 (by simp)).alloc _)
  have cSp0 := Sp0.out.cell
  have lSp0 := Sp0.out.lt
  have Sq0 := Lib.hid (show Has W0 (w.heap.size + 1 + 1) #[.string q.g, .string q.t, .int .i64 q.p, .int .i64 q.h, .int .i64 q.o] from by rw [hW0]; exact Has.newAt _ _ 29 (by simp))
  have cSq0 := Sq0.out.cell
  have lSq0 := Sq0.out.lt
  have O0 := Lib.hid (Of.At.past (show Of.At w o ∧ o.L = L0 ∧ o.M = M0 from ⟨ho, eL0, eM0⟩) bw)
  have LV := Lib.hid live_any
  have FW := Lib.hid few_any
  have FP := Lib.hid fewP_any
  have PT := Lib.hid put_any
  have HD := Lib.hid hold_any
  have MK := Lib.hid mark_any
  have GE := Lib.hid @get_any
  have LE := Lib.hid @least_calls
  have SM := Lib.hid same_any
  have CK := Lib.hid check_any
  have KL := Lib.hid keptL_any
  have HE := Lib.hid held_any
  have SV := Lib.hid save_any
  have LD := Lib.hid load_any
  have AM := Lib.hid among_any
  have HW0 := Lib.hid hW0
  clear bw hW0 ho hp hq ha hb eL0 eM0
  try unfold Ps.v
  go_enter Try.func8, Try.ntmps8
  go_wp2_with fail
  rw [← HW0.out]
  refine (LV.out _).mono ?_
  intro e w1 hx
  obtain ⟨rfl, hb⟩ := hx
  have B1 := Lib.hid (below_from hb B0.out B0.out.size)
  have So1 := Lib.hid (So0.out.past hb)
  have cSo1 := So1.out.cell
  have lSo1 := So1.out.lt
  have Sp1 := Lib.hid (Sp0.out.past hb)
  have cSp1 := Sp1.out.cell
  have lSp1 := Sp1.out.lt
  have Sq1 := Lib.hid (Sq0.out.past hb)
  have cSq1 := Sq1.out.cell
  have lSq1 := Sq1.out.lt
  have O1 := Lib.hid (Of.At.past O0.out hb)
  clear cSo0 lSo0 cSp0 lSp0 cSq0 lSq0 hb
  go_wp2_with fail
  refine (FW.out o _).mono ?_
  intro e w2 hx
  obtain ⟨rfl, hb⟩ := hx
  have B2 := Lib.hid (below_from hb B1.out B1.out.size)
  have So2 := Lib.hid (So1.out.past hb)
  have cSo2 := So2.out.cell
  have lSo2 := So2.out.lt
  have Sp2 := Lib.hid (Sp1.out.past hb)
  have cSp2 := Sp2.out.cell
  have lSp2 := Sp2.out.lt
  have Sq2 := Lib.hid (Sq1.out.past hb)
  have cSq2 := Sq2.out.cell
  have lSq2 := Sq2.out.lt
  have O2 := Lib.hid (Of.At.past O1.out hb)
  clear cSo1 lSo1 cSp1 lSp1 cSq1 lSq1 hb
  obtain ⟨bf1, hbf1⟩ : ∃ b, fewO o = b := ⟨_, rfl⟩
  rw [hbf1]
  have HF1 := Lib.hid hbf1
  clear hbf1
  cases bf1 with
  | false =>
    go_wp2_with fail
    go_ret
    exact ⟨rfl, B2.out⟩
  | true => ?_
  go_wp2_with fail
  refine (FP.out p _).mono ?_
  intro e w3 hx
  obtain ⟨rfl, hb⟩ := hx
  have B3 := Lib.hid (below_from hb B2.out B2.out.size)
  have So3 := Lib.hid (So2.out.past hb)
  have cSo3 := So3.out.cell
  have lSo3 := So3.out.lt
  have Sp3 := Lib.hid (Sp2.out.past hb)
  have cSp3 := Sp3.out.cell
  have lSp3 := Sp3.out.lt
  have Sq3 := Lib.hid (Sq2.out.past hb)
  have cSq3 := Sq3.out.cell
  have lSq3 := Sq3.out.lt
  have O3 := Lib.hid (Of.At.past O2.out hb)
  clear cSo2 lSo2 cSp2 lSp2 cSq2 lSq2 hb
  obtain ⟨bf2, hbf2⟩ : ∃ b, fewP p = b := ⟨_, rfl⟩
  rw [hbf2]
  have HF2 := Lib.hid hbf2
  clear hbf2
  cases bf2 with
  | false =>
    go_wp2_with fail
    go_ret
    exact ⟨rfl, B3.out⟩
  | true => ?_
  go_wp2_with fail
  refine (FP.out q _).mono ?_
  intro e w4 hx
  obtain ⟨rfl, hb⟩ := hx
  have B4 := Lib.hid (below_from hb B3.out B3.out.size)
  have So4 := Lib.hid (So3.out.past hb)
  have cSo4 := So4.out.cell
  have lSo4 := So4.out.lt
  have Sp4 := Lib.hid (Sp3.out.past hb)
  have cSp4 := Sp4.out.cell
  have lSp4 := Sp4.out.lt
  have Sq4 := Lib.hid (Sq3.out.past hb)
  have cSq4 := Sq4.out.cell
  have lSq4 := Sq4.out.lt
  have O4 := Lib.hid (Of.At.past O3.out hb)
  clear cSo3 lSo3 cSp3 lSp3 cSq3 lSq3 hb
  obtain ⟨bf3, hbf3⟩ : ∃ b, fewP q = b := ⟨_, rfl⟩
  rw [hbf3]
  have HF3 := Lib.hid hbf3
  clear hbf3
  cases bf3 with
  | false =>
    go_wp2_with fail
    go_ret
    exact ⟨rfl, B4.out⟩
  | true => ?_
  go_wp2_with fail
  refine (ch_at (L := L1) (M := M1) (e := e1) (PT.out o p _ O4.out.1 HP.out) (by rw [O4.out.2.1, O4.out.2.2]; exact V1.out)).mono ?_
  intro e w5 hx
  obtain ⟨o1, rfl, ha, hb⟩ := hx
  have bk5 := hb.alloc hb.size (.cells #[.slice o1.A o1.n o1.c, .slice o1.A' o1.n' o1.c'] 25)
  have B5 := Lib.hid (below_from bk5 B4.out B4.out.size)
  have So5 := Lib.hid (So4.out.past bk5)
  have cSo5 := So5.out.cell
  have lSo5 := So5.out.lt
  have Sp5 := Lib.hid (Sp4.out.past bk5)
  have cSp5 := Sp5.out.cell
  have lSp5 := Sp5.out.lt
  have Sq5 := Lib.hid (Sq4.out.past bk5)
  have cSq5 := Sq5.out.cell
  have lSq5 := Sq5.out.lt
  have O5 := Lib.hid (Of.At.past O4.out bk5)
  have O1_5 := Lib.hid (Of.At.past ha (below_alloc1 w5 (.cells #[.slice o1.A o1.n o1.c, .slice o1.A' o1.n' o1.c'] 25)))
  have S1_5 := Lib.hid (Has.newAt w5 #[.slice o1.A o1.n o1.c, .slice o1.A' o1.n' o1.c'] 25 (g := w5.heap.size) rfl)
  have cS1_5 := S1_5.out.cell
  have lS1_5 := S1_5.out.lt
  clear cSo4 lSo4 cSp4 lSp4 cSq4 lSq4 hb ha bk5
  go_wp2_with fail
  refine (ch_at (L := L2) (M := M2) (e := e2) (PT.out o1 q _ O1_5.out.1 HQ.out) (by rw [O1_5.out.2.1, O1_5.out.2.2]; exact V2.out)).mono ?_
  intro e w6 hx
  obtain ⟨o2, rfl, ha, hb⟩ := hx
  have bk6 := hb.alloc hb.size (.cells #[.slice o2.A o2.n o2.c, .slice o2.A' o2.n' o2.c'] 25)
  have B6 := Lib.hid (below_from bk6 B5.out B5.out.size)
  have So6 := Lib.hid (So5.out.past bk6)
  have cSo6 := So6.out.cell
  have lSo6 := So6.out.lt
  have Sp6 := Lib.hid (Sp5.out.past bk6)
  have cSp6 := Sp6.out.cell
  have lSp6 := Sp6.out.lt
  have Sq6 := Lib.hid (Sq5.out.past bk6)
  have cSq6 := Sq6.out.cell
  have lSq6 := Sq6.out.lt
  have O6 := Lib.hid (Of.At.past O5.out bk6)
  have O1_6 := Lib.hid (Of.At.past O1_5.out bk6)
  have S1_6 := Lib.hid (S1_5.out.past bk6)
  have cS1_6 := S1_6.out.cell
  have lS1_6 := S1_6.out.lt
  have O2_6 := Lib.hid (Of.At.past ha (below_alloc1 w6 (.cells #[.slice o2.A o2.n o2.c, .slice o2.A' o2.n' o2.c'] 25)))
  have S2_6 := Lib.hid (Has.newAt w6 #[.slice o2.A o2.n o2.c, .slice o2.A' o2.n' o2.c'] 25 (g := w6.heap.size) rfl)
  have cS2_6 := S2_6.out.cell
  have lS2_6 := S2_6.out.lt
  clear cSo5 lSo5 cSp5 lSp5 cSq5 lSq5 cS1_5 lS1_5 hb ha bk6
  go_wp2_with fail
  refine (ch_at (L := L3) (M := M3) (e := e3) (PT.out o q _ O6.out.1 HQ.out) (by rw [O6.out.2.1, O6.out.2.2]; exact V3.out)).mono ?_
  intro e w7 hx
  obtain ⟨o3, rfl, ha, hb⟩ := hx
  have bk7 := hb.alloc hb.size (.cells #[.slice o3.A o3.n o3.c, .slice o3.A' o3.n' o3.c'] 25)
  have B7 := Lib.hid (below_from bk7 B6.out B6.out.size)
  have So7 := Lib.hid (So6.out.past bk7)
  have cSo7 := So7.out.cell
  have lSo7 := So7.out.lt
  have Sp7 := Lib.hid (Sp6.out.past bk7)
  have cSp7 := Sp7.out.cell
  have lSp7 := Sp7.out.lt
  have Sq7 := Lib.hid (Sq6.out.past bk7)
  have cSq7 := Sq7.out.cell
  have lSq7 := Sq7.out.lt
  have O7 := Lib.hid (Of.At.past O6.out bk7)
  have O1_7 := Lib.hid (Of.At.past O1_6.out bk7)
  have S1_7 := Lib.hid (S1_6.out.past bk7)
  have cS1_7 := S1_7.out.cell
  have lS1_7 := S1_7.out.lt
  have O2_7 := Lib.hid (Of.At.past O2_6.out bk7)
  have S2_7 := Lib.hid (S2_6.out.past bk7)
  have cS2_7 := S2_7.out.cell
  have lS2_7 := S2_7.out.lt
  have O3_7 := Lib.hid (Of.At.past ha (below_alloc1 w7 (.cells #[.slice o3.A o3.n o3.c, .slice o3.A' o3.n' o3.c'] 25)))
  have S3_7 := Lib.hid (Has.newAt w7 #[.slice o3.A o3.n o3.c, .slice o3.A' o3.n' o3.c'] 25 (g := w7.heap.size) rfl)
  have cS3_7 := S3_7.out.cell
  have lS3_7 := S3_7.out.lt
  clear cSo6 lSo6 cSp6 lSp6 cSq6 lSq6 cS1_6 lS1_6 cS2_6 lS2_6 hb ha bk7
  go_wp2_with fail
  refine (ch_at (L := L4) (M := M4) (e := e4) (PT.out o3 p _ O3_7.out.1 HP.out) (by rw [O3_7.out.2.1, O3_7.out.2.2]; exact V4.out)).mono ?_
  intro e w8 hx
  obtain ⟨o4, rfl, ha, hb⟩ := hx
  have bk8 := hb.alloc hb.size (.cells #[.slice o4.A o4.n o4.c, .slice o4.A' o4.n' o4.c'] 25)
  have B8 := Lib.hid (below_from bk8 B7.out B7.out.size)
  have So8 := Lib.hid (So7.out.past bk8)
  have cSo8 := So8.out.cell
  have lSo8 := So8.out.lt
  have Sp8 := Lib.hid (Sp7.out.past bk8)
  have cSp8 := Sp8.out.cell
  have lSp8 := Sp8.out.lt
  have Sq8 := Lib.hid (Sq7.out.past bk8)
  have cSq8 := Sq8.out.cell
  have lSq8 := Sq8.out.lt
  have O8 := Lib.hid (Of.At.past O7.out bk8)
  have O1_8 := Lib.hid (Of.At.past O1_7.out bk8)
  have S1_8 := Lib.hid (S1_7.out.past bk8)
  have cS1_8 := S1_8.out.cell
  have lS1_8 := S1_8.out.lt
  have O2_8 := Lib.hid (Of.At.past O2_7.out bk8)
  have S2_8 := Lib.hid (S2_7.out.past bk8)
  have cS2_8 := S2_8.out.cell
  have lS2_8 := S2_8.out.lt
  have O3_8 := Lib.hid (Of.At.past O3_7.out bk8)
  have S3_8 := Lib.hid (S3_7.out.past bk8)
  have cS3_8 := S3_8.out.cell
  have lS3_8 := S3_8.out.lt
  have O4_8 := Lib.hid (Of.At.past ha (below_alloc1 w8 (.cells #[.slice o4.A o4.n o4.c, .slice o4.A' o4.n' o4.c'] 25)))
  have S4_8 := Lib.hid (Has.newAt w8 #[.slice o4.A o4.n o4.c, .slice o4.A' o4.n' o4.c'] 25 (g := w8.heap.size) rfl)
  have cS4_8 := S4_8.out.cell
  have lS4_8 := S4_8.out.lt
  clear cSo7 lSo7 cSp7 lSp7 cSq7 lSq7 cS1_7 lS1_7 cS2_7 lS2_7 cS3_7 lS3_7 hb ha bk8
  go_upto_region 8 with fail
  go_cut [20] (fun s20 wx => ∃ ap : Bool, s20 = .bool ap ∧ Hid (ap = true → ordP p q ≠ 0) ∧ wx = (w8.alloc (.cells #[.slice o4.A o4.n o4.c, .slice o4.A' o4.n' o4.c'] 25)))
  case first =>
    by_cases h1 : p.g = q.g
    · have d1 : (p.g.toList == q.g.toList) = true := by rw [h1]; exact beq_self_eq_true _
      by_cases h2 : p.t = q.t
      · have d2 : (p.t.toList == q.t.toList) = true := by rw [h2]; exact beq_self_eq_true _
        by_cases h3 : p.p = q.p
        · have d3 : (p.p == q.p) = true := by rw [h3]; exact beq_self_eq_true _
          by_cases h4 : p.h = q.h
          · have d4 : (p.h == q.h) = true := by rw [h4]; exact beq_self_eq_true _
            clear h1 h2 h3 h4
            go_wp2_with fail
            go_meet
            exact ⟨false, rfl, Lib.hid (fun h => by cases h), rfl⟩
          · obtain ⟨d5, d6⟩ := int_ne h4
            have HH := Lib.hid h4
            clear h1 h2 h3 h4
            go_wp2_with fail
            go_meet
            exact ⟨true, rfl, Lib.hid (fun _ h0 => HH.out (ordP_eq.1 h0).2.2.2), rfl⟩
        · obtain ⟨d5, d6⟩ := int_ne h3
          have HH := Lib.hid h3
          clear h1 h2 h3
          go_wp2_with fail
          go_meet
          exact ⟨true, rfl, Lib.hid (fun _ h0 => HH.out (ordP_eq.1 h0).2.2.1), rfl⟩
      · obtain ⟨d5, d6, d7⟩ := str_nes h2
        have HH := Lib.hid h2
        clear h1 h2
        go_wp2_with fail
        go_meet
        exact ⟨true, rfl, Lib.hid (fun _ h0 => HH.out (ordP_eq.1 h0).2.1), rfl⟩
    · obtain ⟨d5, d6, d7⟩ := str_nes h1
      have HH := Lib.hid h1
      clear h1
      go_wp2_with fail
      go_meet
      exact ⟨true, rfl, Lib.hid (fun _ h0 => HH.out (ordP_eq.1 h0).1), rfl⟩
  case rest =>
    obtain ⟨ap, rfl, hap, rfl⟩ := hcut
    go_upto_region 9 with fail
    go_cut [102] (fun s102 wx => s102 = .bool false ∧ Hid (Below ((w8.alloc (.cells #[.slice o4.A o4.n o4.c, .slice o4.A' o4.n' o4.c'] 25))).heap.size (w8.alloc (.cells #[.slice o4.A o4.n o4.c, .slice o4.A' o4.n' o4.c'] 25)) wx))
    case first =>
      cases ap with
      | false =>
        go_wp2_with fail
        go_meet
        exact ⟨rfl, Lib.hid (Below.refl _ _)⟩
      | true =>
        by_cases h1 : e1 = 0
        · subst h1
          by_cases h2 : e2 = 0
          · subst h2
            obtain ⟨L9, M9, h9, h9'⟩ := apart_put (by have := of_few HF1.out; rw [← hL0.out, HO.out.1.len]; exact this.1) (hap.out rfl) V1.out V2.out
            rw [V3.out] at h9
            injection h9 with z1 z2
            injection z2 with z2 z3
            subst z1 z2 z3
            rw [V4.out] at h9'
            injection h9' with z1 z2
            injection z2 with z2 z3
            subst z1 z2 z3
            have SE := same_at O2_8.out O4_8.out
            rw [show sameO L4 M4 L4 M4 = true from by unfold sameO; simp] at SE
            have SE := Lib.hid SE
            go_wp2_with (refine SE.out.mono ?_; rintro e wz ⟨rfl, hb⟩; have BZ := Lib.hid hb; clear hb)
            go_meet
            exact ⟨rfl, BZ.out⟩
          · have n2a : (e2 == 0) = false := by rw [beq_eq_false_iff_ne]; exact h2
            have n2b : decide (e2 = 0) = false := decide_eq_false h2
            have n2c : (e2 != 0) = true := by rw [bne_iff_ne]; exact h2
            clear h2
            go_wp2_with fail
            go_meet
            exact ⟨rfl, Lib.hid (Below.refl _ _)⟩
        · have n1a : (e1 == 0) = false := by rw [beq_eq_false_iff_ne]; exact h1
          have n1b : decide (e1 = 0) = false := decide_eq_false h1
          have n1c : (e1 != 0) = true := by rw [bne_iff_ne]; exact h1
          clear h1
          go_wp2_with fail
          go_meet
          exact ⟨rfl, Lib.hid (Below.refl _ _)⟩
    case rest =>
      obtain ⟨rfl, hw9⟩ := hcut
      have bw9 := hw9.out
      have B9 := Lib.hid (below_from bw9 B8.out B8.out.size)
      have So9 := Lib.hid (So8.out.past bw9)
      have cSo9 := So9.out.cell
      have lSo9 := So9.out.lt
      have Sp9 := Lib.hid (Sp8.out.past bw9)
      have cSp9 := Sp9.out.cell
      have lSp9 := Sp9.out.lt
      have Sq9 := Lib.hid (Sq8.out.past bw9)
      have cSq9 := Sq9.out.cell
      have lSq9 := Sq9.out.lt
      have O9 := Lib.hid (Of.At.past O8.out bw9)
      clear bw9 hw9 hap cSo8 lSo8 cSp8 lSp8 cSq8 lSq8
      go_wp2_with fail
      refine (ch_at (L := L5) (M := M5) (e := e5) (HD.out o a p _ O9.out.1 HP.out WA.out) (by rw [O9.out.2.1, O9.out.2.2]; exact V5.out)).mono ?_
      intro e w10 hx
      obtain ⟨o5, rfl, ha, hb⟩ := hx
      have bk10 := hb.alloc hb.size (.cells #[.slice o5.A o5.n o5.c, .slice o5.A' o5.n' o5.c'] 25)
      have B10 := Lib.hid (below_from bk10 B9.out B9.out.size)
      have So10 := Lib.hid (So9.out.past bk10)
      have cSo10 := So10.out.cell
      have lSo10 := So10.out.lt
      have Sp10 := Lib.hid (Sp9.out.past bk10)
      have cSp10 := Sp10.out.cell
      have lSp10 := Sp10.out.lt
      have Sq10 := Lib.hid (Sq9.out.past bk10)
      have cSq10 := Sq10.out.cell
      have lSq10 := Sq10.out.lt
      have O10 := Lib.hid (Of.At.past O9.out bk10)
      have O5_10 := Lib.hid (Of.At.past ha (below_alloc1 w10 (.cells #[.slice o5.A o5.n o5.c, .slice o5.A' o5.n' o5.c'] 25)))
      have S5_10 := Lib.hid (Has.newAt w10 #[.slice o5.A o5.n o5.c, .slice o5.A' o5.n' o5.c'] 25 (g := w10.heap.size) rfl)
      have cS5_10 := S5_10.out.cell
      have lS5_10 := S5_10.out.lt
      clear cSo9 lSo9 cSp9 lSp9 cSq9 lSq9 hb ha bk10
      go_wp2_with fail
      refine (ch_at (L := L6) (M := M6) (e := e6) (HD.out o5 b q _ O5_10.out.1 HQ.out WB.out) (by rw [O5_10.out.2.1, O5_10.out.2.2]; exact V6.out)).mono ?_
      intro e w11 hx
      obtain ⟨o6, rfl, ha, hb⟩ := hx
      have bk11 := hb.alloc hb.size (.cells #[.slice o6.A o6.n o6.c, .slice o6.A' o6.n' o6.c'] 25)
      have B11 := Lib.hid (below_from bk11 B10.out B10.out.size)
      have So11 := Lib.hid (So10.out.past bk11)
      have cSo11 := So11.out.cell
      have lSo11 := So11.out.lt
      have Sp11 := Lib.hid (Sp10.out.past bk11)
      have cSp11 := Sp11.out.cell
      have lSp11 := Sp11.out.lt
      have Sq11 := Lib.hid (Sq10.out.past bk11)
      have cSq11 := Sq11.out.cell
      have lSq11 := Sq11.out.lt
      have O11 := Lib.hid (Of.At.past O10.out bk11)
      have O5_11 := Lib.hid (Of.At.past O5_10.out bk11)
      have S5_11 := Lib.hid (S5_10.out.past bk11)
      have cS5_11 := S5_11.out.cell
      have lS5_11 := S5_11.out.lt
      have O6_11 := Lib.hid (Of.At.past ha (below_alloc1 w11 (.cells #[.slice o6.A o6.n o6.c, .slice o6.A' o6.n' o6.c'] 25)))
      have S6_11 := Lib.hid (Has.newAt w11 #[.slice o6.A o6.n o6.c, .slice o6.A' o6.n' o6.c'] 25 (g := w11.heap.size) rfl)
      have cS6_11 := S6_11.out.cell
      have lS6_11 := S6_11.out.lt
      clear cSo10 lSo10 cSp10 lSp10 cSq10 lSq10 cS5_10 lS5_10 hb ha bk11
      go_wp2_with fail
      refine (ch_at (L := L7) (M := M7) (e := e7) (HD.out o b q _ O11.out.1 HQ.out WB.out) (by rw [O11.out.2.1, O11.out.2.2]; exact V7.out)).mono ?_
      intro e w12 hx
      obtain ⟨o7, rfl, ha, hb⟩ := hx
      have bk12 := hb.alloc hb.size (.cells #[.slice o7.A o7.n o7.c, .slice o7.A' o7.n' o7.c'] 25)
      have B12 := Lib.hid (below_from bk12 B11.out B11.out.size)
      have So12 := Lib.hid (So11.out.past bk12)
      have cSo12 := So12.out.cell
      have lSo12 := So12.out.lt
      have Sp12 := Lib.hid (Sp11.out.past bk12)
      have cSp12 := Sp12.out.cell
      have lSp12 := Sp12.out.lt
      have Sq12 := Lib.hid (Sq11.out.past bk12)
      have cSq12 := Sq12.out.cell
      have lSq12 := Sq12.out.lt
      have O12 := Lib.hid (Of.At.past O11.out bk12)
      have O5_12 := Lib.hid (Of.At.past O5_11.out bk12)
      have S5_12 := Lib.hid (S5_11.out.past bk12)
      have cS5_12 := S5_12.out.cell
      have lS5_12 := S5_12.out.lt
      have O6_12 := Lib.hid (Of.At.past O6_11.out bk12)
      have S6_12 := Lib.hid (S6_11.out.past bk12)
      have cS6_12 := S6_12.out.cell
      have lS6_12 := S6_12.out.lt
      have O7_12 := Lib.hid (Of.At.past ha (below_alloc1 w12 (.cells #[.slice o7.A o7.n o7.c, .slice o7.A' o7.n' o7.c'] 25)))
      have S7_12 := Lib.hid (Has.newAt w12 #[.slice o7.A o7.n o7.c, .slice o7.A' o7.n' o7.c'] 25 (g := w12.heap.size) rfl)
      have cS7_12 := S7_12.out.cell
      have lS7_12 := S7_12.out.lt
      clear cSo11 lSo11 cSp11 lSp11 cSq11 lSq11 cS5_11 lS5_11 cS6_11 lS6_11 hb ha bk12
      go_wp2_with fail
      refine (ch_at (L := L8) (M := M8) (e := e8) (HD.out o7 a p _ O7_12.out.1 HP.out WA.out) (by rw [O7_12.out.2.1, O7_12.out.2.2]; exact V8.out)).mono ?_
      intro e w13 hx
      obtain ⟨o8, rfl, ha, hb⟩ := hx
      have bk13 := hb.alloc hb.size (.cells #[.slice o8.A o8.n o8.c, .slice o8.A' o8.n' o8.c'] 25)
      have B13 := Lib.hid (below_from bk13 B12.out B12.out.size)
      have So13 := Lib.hid (So12.out.past bk13)
      have cSo13 := So13.out.cell
      have lSo13 := So13.out.lt
      have Sp13 := Lib.hid (Sp12.out.past bk13)
      have cSp13 := Sp13.out.cell
      have lSp13 := Sp13.out.lt
      have Sq13 := Lib.hid (Sq12.out.past bk13)
      have cSq13 := Sq13.out.cell
      have lSq13 := Sq13.out.lt
      have O13 := Lib.hid (Of.At.past O12.out bk13)
      have O5_13 := Lib.hid (Of.At.past O5_12.out bk13)
      have S5_13 := Lib.hid (S5_12.out.past bk13)
      have cS5_13 := S5_13.out.cell
      have lS5_13 := S5_13.out.lt
      have O6_13 := Lib.hid (Of.At.past O6_12.out bk13)
      have S6_13 := Lib.hid (S6_12.out.past bk13)
      have cS6_13 := S6_13.out.cell
      have lS6_13 := S6_13.out.lt
      have O7_13 := Lib.hid (Of.At.past O7_12.out bk13)
      have S7_13 := Lib.hid (S7_12.out.past bk13)
      have cS7_13 := S7_13.out.cell
      have lS7_13 := S7_13.out.lt
      have O8_13 := Lib.hid (Of.At.past ha (below_alloc1 w13 (.cells #[.slice o8.A o8.n o8.c, .slice o8.A' o8.n' o8.c'] 25)))
      have S8_13 := Lib.hid (Has.newAt w13 #[.slice o8.A o8.n o8.c, .slice o8.A' o8.n' o8.c'] 25 (g := w13.heap.size) rfl)
      have cS8_13 := S8_13.out.cell
      have lS8_13 := S8_13.out.lt
      clear cSo12 lSo12 cSp12 lSp12 cSq12 lSq12 cS5_12 lS5_12 cS6_12 lS6_12 cS7_12 lS7_12 hb ha bk13
      by_cases hab : a = b
      · have d1 : (a == b) = true := by rw [hab]; exact beq_self_eq_true _
        have d2 : decide (a = b) = true := decide_eq_true hab
        clear hab
        go_wp2_with fail
        go_ret
        exact ⟨ret_bool (by first | rfl | simp), B13.out⟩
      · obtain ⟨d1, d2⟩ := int_ne hab
        have HAB := Lib.hid hab
        clear hab
        by_cases h5 : e5 = 0
        · subst h5
          by_cases h6 : e6 = 0
          · subst h6
            obtain ⟨L9, M9, h9, h9'⟩ := apart_hold (by have := of_few HF1.out; rw [← hM0.out, HO.out.2.len]; exact this.2) HAB.out V5.out V6.out
            rw [V7.out] at h9
            injection h9 with z1 z2
            injection z2 with z2 z3
            subst z1 z2 z3
            rw [V8.out] at h9'
            injection h9' with z1 z2
            injection z2 with z2 z3
            subst z1 z2 z3
            have SE := same_at O6_13.out O8_13.out
            rw [show sameO L8 M8 L8 M8 = true from by unfold sameO; simp] at SE
            have SE := Lib.hid SE
            go_wp2_with (refine SE.out.mono ?_; rintro e wz ⟨rfl, hb⟩; have BZ := Lib.hid (below_from hb B13.out B13.out.size); clear hb)
            go_ret
            exact ⟨ret_bool (by first | rfl | simp), BZ.out⟩
          · have n6a : (e6 == 0) = false := by rw [beq_eq_false_iff_ne]; exact h6
            have n6b : decide (e6 = 0) = false := decide_eq_false h6
            have n6c : (e6 != 0) = true := by rw [bne_iff_ne]; exact h6
            clear h6
            go_wp2_with fail
            go_ret
            exact ⟨ret_bool (by first | rfl | simp), B13.out⟩
        · have n5a : (e5 == 0) = false := by rw [beq_eq_false_iff_ne]; exact h5
          have n5b : decide (e5 = 0) = false := decide_eq_false h5
          have n5c : (e5 != 0) = true := by rw [bne_iff_ne]; exact h5
          clear h5
          go_wp2_with fail
          go_ret
          exact ⟨ret_bool (by first | rfl | simp), B13.out⟩

end Go.Proofs.Ytnkjkgakbgjddaa
