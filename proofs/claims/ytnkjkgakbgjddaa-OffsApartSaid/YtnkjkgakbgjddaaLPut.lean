/- OffsPut: the last one counts. -/
import Derived.Test.YtnkjkgakbgjddaaHeld
import Derived.Test.YtnkjkgakbgjddaaLawL
namespace Go.Proofs.Ytnkjkgakbgjddaa
open Go.RowKit

theorem ch_no {L : List Ps} {M : List Wt} {p : Ps} {L1 : List Ps} {M1 : List Wt} {e : Int} (h : putV L M p = (L1, M1, e)) (he : e ≠ 0) : L1 = [] ∧ M1 = [] := put_no h he
theorem of_few {o : Of} (h : fewO o = true) : o.n ≤ 100 ∧ o.n' ≤ 100 := by unfold fewO at h; simpa using h

set_option maxHeartbeats 16000000 in
set_option maxRecDepth 100000 in
theorem lput_any (o : Of) (p : Ps) (off : Int) (w : World) (ho : Of.At w o) (hp : p.wf) (hoff : (Lit.int .i64 off).wf = true) : Calls Try.prog 7 #[o.v, p.v, .int .i64 off] w fun e w' => e = .returned (.bool true) ∧ Below w.heap.size w w' := by
  obtain ⟨L0, eL0⟩ : ∃ L, o.L = L := ⟨_, rfl⟩
  obtain ⟨M0, eM0⟩ : ∃ M, o.M = M := ⟨_, rfl⟩
  have hL0 := Lib.hid eL0
  have hM0 := Lib.hid eM0
  have HO := Lib.hid ho
  obtain ⟨V1, hV1⟩ : ∃ V, putV L0 M0 p = V := ⟨_, rfl⟩
  obtain ⟨L1, M1, e1⟩ := V1
  have V1 := Lib.hid hV1
  have HP := Lib.hid hp
  have HOFF := Lib.hid hoff
  obtain ⟨W0, hW0⟩ : ∃ W0, W0 = ((w.alloc (.cells #[.slice o.A o.n o.c, .slice o.A' o.n' o.c'] 25)).alloc (.cells #[.string p.g, .string p.t, .int .i64 p.p, .int .i64 p.h, .int .i64 p.o] 29)) := ⟨_, rfl⟩
  have bw : Below w.heap.size w W0 := by rw [hW0]; exact Below.alloc (below_alloc1 w _) (by simp <;> omega) _
  have B0 := Lib.hid bw
  have So0 := Lib.hid (show Has W0 (w.heap.size) #[.slice o.A o.n o.c, .slice o.A' o.n' o.c'] from by rw [hW0]; exact (Has.newAt w _ 25 rfl).alloc _)
  have cSo0 := So0.out.cell
  have lSo0 := So0.out.lt
  have Sp0 := Lib.hid (show Has W0 (w.heap.size + 1) #[.string p.g, .string p.t, .int .i64 p.p, .int .i64 p.h, .int .i64 p.o] from by rw [hW0]; exact Has.newAt _ _ 29 (by simp))
  have cSp0 := Sp0.out.cell
  have lSp0 := Sp0.out.lt
  have O0 := Lib.hid (Of.At.past (show Of.At w o ∧ o.L = L0 ∧ o.M = M0 from ⟨ho, eL0, eM0⟩) bw)
  have LV := Lib.hid live_any
  have FW := Lib.hid few_any
  have FP := Lib.hid fewP_any
  have PT := Lib.hid put_any
  have HD := Lib.hid hold_any
  have MK := Lib.hid mark_any
  have GE := Lib.hid @get_any
  have LE := Lib.hid @least_calls
  have SM := Lib.hid same_any
  have CK := Lib.hid check_any
  have KL := Lib.hid keptL_any
  have HE := Lib.hid held_any
  have SV := Lib.hid save_any
  have LD := Lib.hid load_any
  have AM := Lib.hid among_any
  have HW0 := Lib.hid hW0
  clear bw hW0 ho hp hoff hV1 eL0 eM0
  try unfold Ps.v
  go_enter Try.func7, Try.ntmps7
  go_wp2_with fail
  rw [← HW0.out]
  refine (LV.out _).mono ?_
  intro e w1 hx
  obtain ⟨rfl, hb⟩ := hx
  have B1 := Lib.hid (below_from hb B0.out B0.out.size)
  have So1 := Lib.hid (So0.out.past hb)
  have cSo1 := So1.out.cell
  have lSo1 := So1.out.lt
  have Sp1 := Lib.hid (Sp0.out.past hb)
  have cSp1 := Sp1.out.cell
  have lSp1 := Sp1.out.lt
  have O1 := Lib.hid (Of.At.past O0.out hb)
  clear cSo0 lSo0 cSp0 lSp0 hb
  go_wp2_with fail
  refine (FW.out o _).mono ?_
  intro e w2 hx
  obtain ⟨rfl, hb⟩ := hx
  have B2 := Lib.hid (below_from hb B1.out B1.out.size)
  have So2 := Lib.hid (So1.out.past hb)
  have cSo2 := So2.out.cell
  have lSo2 := So2.out.lt
  have Sp2 := Lib.hid (Sp1.out.past hb)
  have cSp2 := Sp2.out.cell
  have lSp2 := Sp2.out.lt
  have O2 := Lib.hid (Of.At.past O1.out hb)
  clear cSo1 lSo1 cSp1 lSp1 hb
  obtain ⟨bf1, hbf1⟩ : ∃ b, fewO o = b := ⟨_, rfl⟩
  rw [hbf1]
  have HF1 := Lib.hid hbf1
  clear hbf1
  cases bf1 with
  | false =>
    go_wp2_with fail
    go_ret
    exact ⟨rfl, B2.out⟩
  | true => ?_
  go_wp2_with fail
  refine (FP.out p _).mono ?_
  intro e w3 hx
  obtain ⟨rfl, hb⟩ := hx
  have B3 := Lib.hid (below_from hb B2.out B2.out.size)
  have So3 := Lib.hid (So2.out.past hb)
  have cSo3 := So3.out.cell
  have lSo3 := So3.out.lt
  have Sp3 := Lib.hid (Sp2.out.past hb)
  have cSp3 := Sp3.out.cell
  have lSp3 := Sp3.out.lt
  have O3 := Lib.hid (Of.At.past O2.out hb)
  clear cSo2 lSo2 cSp2 lSp2 hb
  obtain ⟨bf2, hbf2⟩ : ∃ b, fewP p = b := ⟨_, rfl⟩
  rw [hbf2]
  have HF2 := Lib.hid hbf2
  clear hbf2
  cases bf2 with
  | false =>
    go_wp2_with fail
    go_ret
    exact ⟨rfl, B3.out⟩
  | true => ?_
  go_wp2_with fail
  refine (ch_at (L := L1) (M := M1) (e := e1) (PT.out o p _ O3.out.1 HP.out) (by rw [O3.out.2.1, O3.out.2.2]; exact V1.out)).mono ?_
  intro e w4 hx
  obtain ⟨o1, rfl, ha, hb⟩ := hx
  have bk4 := hb.alloc hb.size (.cells #[.slice o1.A o1.n o1.c, .slice o1.A' o1.n' o1.c'] 25)
  have B4 := Lib.hid (below_from bk4 B3.out B3.out.size)
  have So4 := Lib.hid (So3.out.past bk4)
  have cSo4 := So4.out.cell
  have lSo4 := So4.out.lt
  have Sp4 := Lib.hid (Sp3.out.past bk4)
  have cSp4 := Sp4.out.cell
  have lSp4 := Sp4.out.lt
  have O4 := Lib.hid (Of.At.past O3.out bk4)
  have O1_4 := Lib.hid (Of.At.past ha (below_alloc1 w4 (.cells #[.slice o1.A o1.n o1.c, .slice o1.A' o1.n' o1.c'] 25)))
  have S1_4 := Lib.hid (Has.newAt w4 #[.slice o1.A o1.n o1.c, .slice o1.A' o1.n' o1.c'] 25 (g := w4.heap.size) rfl)
  have cS1_4 := S1_4.out.cell
  have lS1_4 := S1_4.out.lt
  clear cSo3 lSo3 cSp3 lSp3 hb ha bk4
  by_cases he : e1 ≠ 0
  · obtain ⟨hL1, hM1⟩ := ch_no V1.out he
    have d1 : (e1 == 0) = false := by rw [beq_eq_false_iff_ne]; exact he
    have d2 : decide (e1 = 0) = false := decide_eq_false he
    have d3 : (e1 != 0) = true := by rw [bne_iff_ne]; exact he
    clear he
    have hn : o1.n = 0 := by rw [← O1_4.out.1.1.len, O1_4.out.2.1, hL1]; rfl
    have hn' : o1.n' = 0 := by rw [← O1_4.out.1.2.len, O1_4.out.2.2, hM1]; rfl
    have HN1 := Lib.hid hn
    have HN2 := Lib.hid hn'
    clear hn hn' hL1 hM1
    go_wp2_with fail
    go_ret
    exact ⟨ret_bool (by first | rfl | (simp; rw [HN1.out, HN2.out]; unfold wrap64; omega)), B4.out⟩
  obtain rfl : e1 = 0 := Classical.not_not.1 he
  clear he
  obtain ⟨f1, f2, f3, f4, f5, f6⟩ := put_law V1.out (by have := of_few HF1.out; rw [← hL0.out, HO.out.1.len]; exact this.1)
  have F1 := Lib.hid f1
  have F2 := Lib.hid f2
  have F3 := Lib.hid f3
  have F4 := Lib.hid f4
  have F5 := Lib.hid f5
  have F6 := Lib.hid f6
  clear f1 f2 f3 f4 f5 f6
  go_wp2_with fail
  refine (ch_at (L := L1) (M := M1) (e := 0) (PT.out o1 p _ O1_4.out.1 HP.out) (by rw [O1_4.out.2.1, O1_4.out.2.2]; exact F1.out)).mono ?_
  intro e w5 hx
  obtain ⟨o2, rfl, ha, hb⟩ := hx
  have bk5 := hb.alloc hb.size (.cells #[.slice o2.A o2.n o2.c, .slice o2.A' o2.n' o2.c'] 25)
  have B5 := Lib.hid (below_from bk5 B4.out B4.out.size)
  have So5 := Lib.hid (So4.out.past bk5)
  have cSo5 := So5.out.cell
  have lSo5 := So5.out.lt
  have Sp5 := Lib.hid (Sp4.out.past bk5)
  have cSp5 := Sp5.out.cell
  have lSp5 := Sp5.out.lt
  have O5 := Lib.hid (Of.At.past O4.out bk5)
  have O1_5 := Lib.hid (Of.At.past O1_4.out bk5)
  have S1_5 := Lib.hid (S1_4.out.past bk5)
  have cS1_5 := S1_5.out.cell
  have lS1_5 := S1_5.out.lt
  have O2_5 := Lib.hid (Of.At.past ha (below_alloc1 w5 (.cells #[.slice o2.A o2.n o2.c, .slice o2.A' o2.n' o2.c'] 25)))
  have S2_5 := Lib.hid (Has.newAt w5 #[.slice o2.A o2.n o2.c, .slice o2.A' o2.n' o2.c'] 25 (g := w5.heap.size) rfl)
  have cS2_5 := S2_5.out.cell
  have lS2_5 := S2_5.out.lt
  clear cSo4 lSo4 cSp4 lSp4 cS1_4 lS1_4 hb ha bk5
  go_wp2_with fail
  refine (get_at O1_5.out F2.out).mono ?_
  intro e w6 hx
  obtain ⟨rfl, hb⟩ := hx
  have B6 := Lib.hid (below_from hb B5.out B5.out.size)
  have So6 := Lib.hid (So5.out.past hb)
  have cSo6 := So6.out.cell
  have lSo6 := So6.out.lt
  have Sp6 := Lib.hid (Sp5.out.past hb)
  have cSp6 := Sp6.out.cell
  have lSp6 := Sp6.out.lt
  have O6 := Lib.hid (Of.At.past O5.out hb)
  have O1_6 := Lib.hid (Of.At.past O1_5.out hb)
  have S1_6 := Lib.hid (S1_5.out.past hb)
  have cS1_6 := S1_6.out.cell
  have lS1_6 := S1_6.out.lt
  have O2_6 := Lib.hid (Of.At.past O2_5.out hb)
  have S2_6 := Lib.hid (S2_5.out.past hb)
  have cS2_6 := S2_6.out.cell
  have lS2_6 := S2_6.out.lt
  clear cSo5 lSo5 cSp5 lSp5 cS1_5 lS1_5 cS2_5 lS2_5 hb
  go_wp2_with fail
  have bk7 := below_alloc1 w6 (.cells #[.string p.g, .string p.t, .int .i64 p.p, .int .i64 p.h, .int .i64 off] 29)
  have B7 := Lib.hid (below_from bk7 B6.out B6.out.size)
  have So7 := Lib.hid (So6.out.past bk7)
  have cSo7 := So7.out.cell
  have lSo7 := So7.out.lt
  have Sp7 := Lib.hid (Sp6.out.past bk7)
  have cSp7 := Sp7.out.cell
  have lSp7 := Sp7.out.lt
  have O7 := Lib.hid (Of.At.past O6.out bk7)
  have O1_7 := Lib.hid (Of.At.past O1_6.out bk7)
  have S1_7 := Lib.hid (S1_6.out.past bk7)
  have cS1_7 := S1_7.out.cell
  have lS1_7 := S1_7.out.lt
  have O2_7 := Lib.hid (Of.At.past O2_6.out bk7)
  have S2_7 := Lib.hid (S2_6.out.past bk7)
  have cS2_7 := S2_7.out.cell
  have lS2_7 := S2_7.out.lt
  have Q7 := Lib.hid (Has.newAt w6 #[.string p.g, .string p.t, .int .i64 p.p, .int .i64 p.h, .int .i64 off] 29 (g := w6.heap.size) rfl)
  clear cSo6 lSo6 cSp6 lSp6 cS1_6 lS1_6 cS2_6 lS2_6 bk7
  have cQ7 := Q7.out.cell
  have lQ7 := Q7.out.lt
  obtain ⟨V3, hV3⟩ : ∃ V, putV L0 M0 ⟨p.g, p.t, p.p, p.h, off⟩ = V := ⟨_, rfl⟩
  obtain ⟨L3, M3, e3⟩ := V3
  have V3 := Lib.hid hV3
  clear hV3
  refine (ch_at (L := L3) (M := M3) (e := e3) (PT.out o ⟨p.g, p.t, p.p, p.h, off⟩ _ O7.out.1 ⟨HP.out.1, HP.out.2.1, HP.out.2.2.1, HP.out.2.2.2.1, HOFF.out⟩) (by rw [O7.out.2.1, O7.out.2.2]; exact V3.out)).mono ?_
  intro e w7 hx
  obtain ⟨o3, rfl, ha, hb⟩ := hx
  have bk8 := hb.alloc hb.size (.cells #[.slice o3.A o3.n o3.c, .slice o3.A' o3.n' o3.c'] 25)
  have B8 := Lib.hid (below_from bk8 B7.out B7.out.size)
  have So8 := Lib.hid (So7.out.past bk8)
  have cSo8 := So8.out.cell
  have lSo8 := So8.out.lt
  have Sp8 := Lib.hid (Sp7.out.past bk8)
  have cSp8 := Sp8.out.cell
  have lSp8 := Sp8.out.lt
  have O8 := Lib.hid (Of.At.past O7.out bk8)
  have O1_8 := Lib.hid (Of.At.past O1_7.out bk8)
  have S1_8 := Lib.hid (S1_7.out.past bk8)
  have cS1_8 := S1_8.out.cell
  have lS1_8 := S1_8.out.lt
  have O2_8 := Lib.hid (Of.At.past O2_7.out bk8)
  have S2_8 := Lib.hid (S2_7.out.past bk8)
  have cS2_8 := S2_8.out.cell
  have lS2_8 := S2_8.out.lt
  have Q8 := Lib.hid (Q7.out.past bk8)
  have cQ8 := Q8.out.cell
  have lQ8 := Q8.out.lt
  have O3_8 := Lib.hid (Of.At.past ha (below_alloc1 w7 (.cells #[.slice o3.A o3.n o3.c, .slice o3.A' o3.n' o3.c'] 25)))
  have S3_8 := Lib.hid (Has.newAt w7 #[.slice o3.A o3.n o3.c, .slice o3.A' o3.n' o3.c'] 25 (g := w7.heap.size) rfl)
  have cS3_8 := S3_8.out.cell
  have lS3_8 := S3_8.out.lt
  clear cSo7 lSo7 cSp7 lSp7 cS1_7 lS1_7 cS2_7 lS2_7 cQ7 lQ7 hb ha bk8
  go_wp2_with fail
  obtain ⟨V4, hV4⟩ : ∃ V, putV L3 M3 p = V := ⟨_, rfl⟩
  obtain ⟨L4, M4, e4⟩ := V4
  have V4 := Lib.hid hV4
  clear hV4
  refine (ch_at (L := L4) (M := M4) (e := e4) (PT.out o3 p _ O3_8.out.1 HP.out) (by rw [O3_8.out.2.1, O3_8.out.2.2]; exact V4.out)).mono ?_
  intro e w8 hx
  obtain ⟨o4, rfl, ha, hb⟩ := hx
  have bk9 := hb.alloc hb.size (.cells #[.slice o4.A o4.n o4.c, .slice o4.A' o4.n' o4.c'] 25)
  have B9 := Lib.hid (below_from bk9 B8.out B8.out.size)
  have So9 := Lib.hid (So8.out.past bk9)
  have cSo9 := So9.out.cell
  have lSo9 := So9.out.lt
  have Sp9 := Lib.hid (Sp8.out.past bk9)
  have cSp9 := Sp9.out.cell
  have lSp9 := Sp9.out.lt
  have O9 := Lib.hid (Of.At.past O8.out bk9)
  have O1_9 := Lib.hid (Of.At.past O1_8.out bk9)
  have S1_9 := Lib.hid (S1_8.out.past bk9)
  have cS1_9 := S1_9.out.cell
  have lS1_9 := S1_9.out.lt
  have O2_9 := Lib.hid (Of.At.past O2_8.out bk9)
  have S2_9 := Lib.hid (S2_8.out.past bk9)
  have cS2_9 := S2_9.out.cell
  have lS2_9 := S2_9.out.lt
  have Q9 := Lib.hid (Q8.out.past bk9)
  have cQ9 := Q9.out.cell
  have lQ9 := Q9.out.lt
  have O3_9 := Lib.hid (Of.At.past O3_8.out bk9)
  have S3_9 := Lib.hid (S3_8.out.past bk9)
  have cS3_9 := S3_9.out.cell
  have lS3_9 := S3_9.out.lt
  have O4_9 := Lib.hid (Of.At.past ha (below_alloc1 w8 (.cells #[.slice o4.A o4.n o4.c, .slice o4.A' o4.n' o4.c'] 25)))
  have S4_9 := Lib.hid (Has.newAt w8 #[.slice o4.A o4.n o4.c, .slice o4.A' o4.n' o4.c'] 25 (g := w8.heap.size) rfl)
  have cS4_9 := S4_9.out.cell
  have lS4_9 := S4_9.out.lt
  clear cSo8 lSo8 cSp8 lSp8 cS1_8 lS1_8 cS2_8 lS2_8 cQ8 lQ8 cS3_8 lS3_8 hb ha bk9
  go_wp2_with fail
  have ST : sameO L1 M1 L1 M1 = true := by unfold sameO; simp
  have SE := same_at O1_9.out O2_9.out
  rw [ST] at SE
  have SE := Lib.hid SE
  clear ST
  refine (SE.out).mono ?_
  intro e w9 hx
  obtain ⟨rfl, hb⟩ := hx
  have B10 := Lib.hid (below_from hb B9.out B9.out.size)
  have So10 := Lib.hid (So9.out.past hb)
  have cSo10 := So10.out.cell
  have lSo10 := So10.out.lt
  have Sp10 := Lib.hid (Sp9.out.past hb)
  have cSp10 := Sp10.out.cell
  have lSp10 := Sp10.out.lt
  have O10 := Lib.hid (Of.At.past O9.out hb)
  have O1_10 := Lib.hid (Of.At.past O1_9.out hb)
  have S1_10 := Lib.hid (S1_9.out.past hb)
  have cS1_10 := S1_10.out.cell
  have lS1_10 := S1_10.out.lt
  have O2_10 := Lib.hid (Of.At.past O2_9.out hb)
  have S2_10 := Lib.hid (S2_9.out.past hb)
  have cS2_10 := S2_10.out.cell
  have lS2_10 := S2_10.out.lt
  have Q10 := Lib.hid (Q9.out.past hb)
  have cQ10 := Q10.out.cell
  have lQ10 := Q10.out.lt
  have O3_10 := Lib.hid (Of.At.past O3_9.out hb)
  have S3_10 := Lib.hid (S3_9.out.past hb)
  have cS3_10 := S3_10.out.cell
  have lS3_10 := S3_10.out.lt
  have O4_10 := Lib.hid (Of.At.past O4_9.out hb)
  have S4_10 := Lib.hid (S4_9.out.past hb)
  have cS4_10 := S4_10.out.cell
  have lS4_10 := S4_10.out.lt
  clear cSo9 lSo9 cSp9 lSp9 cS1_9 lS1_9 cS2_9 lS2_9 cQ9 lQ9 cS3_9 lS3_9 cS4_9 lS4_9 hb
  go_wp2_with fail
  have bk11 := below_alloc1 w9 (.cells #[.string p.g, .string p.t, .int .i64 p.p, .int .i64 p.h, .int .i64 p.o] 29)
  have B11 := Lib.hid (below_from bk11 B10.out B10.out.size)
  have So11 := Lib.hid (So10.out.past bk11)
  have cSo11 := So11.out.cell
  have lSo11 := So11.out.lt
  have Sp11 := Lib.hid (Sp10.out.past bk11)
  have cSp11 := Sp11.out.cell
  have lSp11 := Sp11.out.lt
  have O11 := Lib.hid (Of.At.past O10.out bk11)
  have O1_11 := Lib.hid (Of.At.past O1_10.out bk11)
  have S1_11 := Lib.hid (S1_10.out.past bk11)
  have cS1_11 := S1_11.out.cell
  have lS1_11 := S1_11.out.lt
  have O2_11 := Lib.hid (Of.At.past O2_10.out bk11)
  have S2_11 := Lib.hid (S2_10.out.past bk11)
  have cS2_11 := S2_11.out.cell
  have lS2_11 := S2_11.out.lt
  have Q11 := Lib.hid (Q10.out.past bk11)
  have cQ11 := Q11.out.cell
  have lQ11 := Q11.out.lt
  have O3_11 := Lib.hid (Of.At.past O3_10.out bk11)
  have S3_11 := Lib.hid (S3_10.out.past bk11)
  have cS3_11 := S3_11.out.cell
  have lS3_11 := S3_11.out.lt
  have O4_11 := Lib.hid (Of.At.past O4_10.out bk11)
  have S4_11 := Lib.hid (S4_10.out.past bk11)
  have cS4_11 := S4_11.out.cell
  have lS4_11 := S4_11.out.lt
  have K11 := Lib.hid (Has.newAt w9 #[.string p.g, .string p.t, .int .i64 p.p, .int .i64 p.h, .int .i64 p.o] 29 (g := w9.heap.size) rfl)
  clear cSo10 lSo10 cSp10 lSp10 cS1_10 lS1_10 cS2_10 lS2_10 cQ10 lQ10 cS3_10 lS3_10 cS4_10 lS4_10 bk11
  have SK : Sl psK (w9.alloc (.cells #[.string p.g, .string p.t, .int .i64 p.p, .int .i64 p.h, .int .i64 p.o] 29)) (some ⟨w9.heap.size, 0, none⟩) 1 1 [p] := ⟨rfl, Nat.le_refl _, by omega, fun e => (by cases e), Row.of_has K11.out, fun a ha => by rw [List.mem_singleton.1 ha]; exact HP.out⟩
  have KE := KL.out o o1 _ 1 1 [p] _ O11.out.1 O1_11.out.1 SK
  rw [O11.out.2.1, O1_11.out.2.1, F3.out] at KE
  have KE := Lib.hid KE
  clear SK
  have EN : o1.n' = o.n' := by rw [← O1_11.out.1.2.len, ← O11.out.1.2.len, O1_11.out.2.2, O11.out.2.2]; exact F4.out
  have d5 : ((o1.n' : Int) == (o.n' : Int)) = true := by rw [EN]; exact beq_self_eq_true _
  have d6 : decide ((o1.n' : Int) = (o.n' : Int)) = true := by rw [EN]; exact decide_eq_true rfl
  clear EN
  refine (KE.out).mono ?_
  intro e w10 hx
  obtain ⟨rfl, hb⟩ := hx
  have B12 := Lib.hid (below_from hb B11.out B11.out.size)
  have So12 := Lib.hid (So11.out.past hb)
  have cSo12 := So12.out.cell
  have lSo12 := So12.out.lt
  have Sp12 := Lib.hid (Sp11.out.past hb)
  have cSp12 := Sp12.out.cell
  have lSp12 := Sp12.out.lt
  have O12 := Lib.hid (Of.At.past O11.out hb)
  have O1_12 := Lib.hid (Of.At.past O1_11.out hb)
  have S1_12 := Lib.hid (S1_11.out.past hb)
  have cS1_12 := S1_12.out.cell
  have lS1_12 := S1_12.out.lt
  have O2_12 := Lib.hid (Of.At.past O2_11.out hb)
  have S2_12 := Lib.hid (S2_11.out.past hb)
  have cS2_12 := S2_12.out.cell
  have lS2_12 := S2_12.out.lt
  have Q12 := Lib.hid (Q11.out.past hb)
  have cQ12 := Q12.out.cell
  have lQ12 := Q12.out.lt
  have O3_12 := Lib.hid (Of.At.past O3_11.out hb)
  have S3_12 := Lib.hid (S3_11.out.past hb)
  have cS3_12 := S3_12.out.cell
  have lS3_12 := S3_12.out.lt
  have O4_12 := Lib.hid (Of.At.past O4_11.out hb)
  have S4_12 := Lib.hid (S4_11.out.past hb)
  have cS4_12 := S4_12.out.cell
  have lS4_12 := S4_12.out.lt
  have K12 := Lib.hid (K11.out.past hb)
  clear cSo11 lSo11 cSp11 lSp11 cS1_11 lS1_11 cS2_11 lS2_11 cQ11 lQ11 cS3_11 lS3_11 cS4_11 lS4_11 hb
  go_wp2_with fail
  refine (check_at O1_12.out F5.out).mono ?_
  intro e w11 hx
  obtain ⟨rfl, hb⟩ := hx
  have B13 := Lib.hid (below_from hb B12.out B12.out.size)
  have So13 := Lib.hid (So12.out.past hb)
  have cSo13 := So13.out.cell
  have lSo13 := So13.out.lt
  have Sp13 := Lib.hid (Sp12.out.past hb)
  have cSp13 := Sp13.out.cell
  have lSp13 := Sp13.out.lt
  have O13 := Lib.hid (Of.At.past O12.out hb)
  have O1_13 := Lib.hid (Of.At.past O1_12.out hb)
  have S1_13 := Lib.hid (S1_12.out.past hb)
  have cS1_13 := S1_13.out.cell
  have lS1_13 := S1_13.out.lt
  have O2_13 := Lib.hid (Of.At.past O2_12.out hb)
  have S2_13 := Lib.hid (S2_12.out.past hb)
  have cS2_13 := S2_13.out.cell
  have lS2_13 := S2_13.out.lt
  have Q13 := Lib.hid (Q12.out.past hb)
  have cQ13 := Q13.out.cell
  have lQ13 := Q13.out.lt
  have O3_13 := Lib.hid (Of.At.past O3_12.out hb)
  have S3_13 := Lib.hid (S3_12.out.past hb)
  have cS3_13 := S3_13.out.cell
  have lS3_13 := S3_13.out.lt
  have O4_13 := Lib.hid (Of.At.past O4_12.out hb)
  have S4_13 := Lib.hid (S4_12.out.past hb)
  have cS4_13 := S4_13.out.cell
  have lS4_13 := S4_13.out.lt
  have K13 := Lib.hid (K12.out.past hb)
  clear cSo12 lSo12 cSp12 lSp12 cS1_12 lS1_12 cS2_12 lS2_12 cQ12 lQ12 cS3_12 lS3_12 cS4_12 lS4_12 hb
  by_cases h3 : e3 = 0
  · subst h3
    obtain ⟨rfl, rfl, rfl⟩ : L4 = L1 ∧ M4 = M1 ∧ e4 = 0 := by
      have := F6.out ⟨p.g, p.t, p.p, p.h, off⟩ L3 M3 (by rw [ordP_eq]; exact ⟨rfl, rfl, rfl, rfl⟩) V3.out
      rw [V4.out] at this
      injection this with h1 h2
      injection h2 with h2 h3
      exact ⟨h1, h2, h3⟩
    go_wp2_with fail
    refine (same_at O4_13.out O1_13.out).mono ?_
    intro e w12 hx
    obtain ⟨rfl, hb⟩ := hx
    have BE := Lib.hid (below_from hb B13.out B13.out.size)
    have ST := Lib.hid (show sameO L4 M4 L4 M4 = true from by unfold sameO; simp)
    rw [ST.out]
    clear hb
    go_wp2_with fail
    go_ret
    exact ⟨ret_bool (by first | rfl | simp), BE.out⟩
  · have e1 : (e3 == 0) = false := by rw [beq_eq_false_iff_ne]; exact h3
    have e2 : decide (e3 = 0) = false := decide_eq_false h3
    have e3 : (e3 != 0) = true := by rw [bne_iff_ne]; exact h3
    clear h3
    go_wp2_with fail
    go_ret
    exact ⟨ret_bool (by first | rfl | simp), B13.out⟩

end Go.Proofs.Ytnkjkgakbgjddaa
