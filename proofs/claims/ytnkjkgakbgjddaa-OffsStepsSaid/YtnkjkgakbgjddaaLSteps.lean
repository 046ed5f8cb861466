/- OffsSteps: each step as the document has it. -/
import Derived.Test.YtnkjkgakbgjddaaHeld
import Derived.Test.YtnkjkgakbgjddaaLawL
import Derived.Test.YtnkjkgakbgjddaaRMark
namespace Go.Proofs.Ytnkjkgakbgjddaa
open Go.RowKit

theorem rcheck_at {o : Of} {w : World} {L : List Ps} {M : List Wt} (h : Of.At w o ∧ o.L = L ∧ o.M = M) {e : Int} (hr : checkV L M = e) : Calls Try.prog 21 #[o.v] w fun x w' => x = .returned (.int .i64 e) ∧ Below w.heap.size w w' := by
  have := rcheck_any o w h.1
  rw [h.2.1, h.2.2, hr] at this
  exact this
theorem rholdO2 (o : Of) (pid : Int) (p : Ps) (w : World) (ho : Of.At w o) (hp : p.wf) (hi : (Lit.int .i64 pid).wf = true) : Calls Try.prog 17 #[o.v, .int .i64 pid, p.v] w (ChRes o (holdV o.L o.M pid p) w) := rholdO_any o ⟨pid, p⟩ w ho ⟨hi, hp⟩

set_option maxHeartbeats 16000000 in
set_option maxRecDepth 100000 in
theorem lsteps_any (o : Of) (pid : Int) (p : Ps) (yes : Bool) (w : World) (ho : Of.At w o) (hi : (Lit.int .i64 pid).wf = true) (hp : p.wf) : Calls Try.prog 3 #[o.v, .int .i64 pid, p.v, .bool yes] w fun e w' => e = .returned (.bool true) ∧ Below w.heap.size w w' := by
  obtain ⟨L0, eL0⟩ : ∃ L, o.L = L := ⟨_, rfl⟩
  obtain ⟨M0, eM0⟩ : ∃ M, o.M = M := ⟨_, rfl⟩
  have hL0 := Lib.hid eL0
  have hM0 := Lib.hid eM0
  have HO := Lib.hid ho
  obtain ⟨V1, hV1⟩ : ∃ V, putV L0 M0 p = V := ⟨_, rfl⟩
  obtain ⟨L1, M1, e1⟩ := V1
  have V1 := Lib.hid hV1
  clear hV1
  obtain ⟨V2, hV2⟩ : ∃ V, holdV L0 M0 pid p = V := ⟨_, rfl⟩
  obtain ⟨L2, M2, e2⟩ := V2
  have V2 := Lib.hid hV2
  clear hV2
  obtain ⟨V3, hV3⟩ : ∃ V, markV L0 M0 pid yes = V := ⟨_, rfl⟩
  obtain ⟨L3, M3, e3⟩ := V3
  have V3 := Lib.hid hV3
  clear hV3
  have HP := Lib.hid hp
  have HI := Lib.hid hi
  obtain ⟨W0, hW0⟩ : ∃ W0, W0 = ((w.alloc (.cells #[.slice o.A o.n o.c, .slice o.A' o.n' o.c'] 25)).alloc (.cells #[.string p.g, .string p.t, .int .i64 p.p, .int .i64 p.h, .int .i64 p.o] 29)) := ⟨_, rfl⟩
  have bw : Below w.heap.size w W0 := by rw [hW0]; exact Below.alloc (below_alloc1 w _) (by simp <;> omega) _
  have B0 := Lib.hid bw
  have So0 := Lib.hid (show Has W0 (w.heap.size) #[.slice o.A o.n o.c, .slice o.A' o.n' o.c'] from by rw [hW0]; exact (Has.newAt w _ 25 rfl).alloc _)
  have cSo0 := So0.out.cell
  have lSo0 := So0.out.lt
  have Sp0 := Lib.hid (show Has W0 (w.heap.size + 1) #[.string p.g, .string p.t, .int .i64 p.p, .int .i64 p.h, .int .i64 p.o] from by rw [hW0]; exact Has.newAt _ _ 29 (by simp))
  have cSp0 := Sp0.out.cell
  have lSp0 := Sp0.out.lt
  have O0 := Lib.hid (Of.At.past (show Of.At w o ∧ o.L = L0 ∧ o.M = M0 from ⟨ho, eL0, eM0⟩) bw)
  have LV := Lib.hid live_any
  have FW := Lib.hid few_any
  have FP := Lib.hid fewP_any
  have PT := Lib.hid put_any
  have HD := Lib.hid hold_any
  have MK := Lib.hid mark_any
  have CK := Lib.hid check_any
  have RP := Lib.hid rputO_any
  have RH := Lib.hid rholdO2
  have RK := Lib.hid rmarkO_any
  have RC := Lib.hid rcheck_any
  have HW0 := Lib.hid hW0
  clear bw hW0 ho hp hi eL0 eM0
  try unfold Ps.v
  go_enter Try.func3, Try.ntmps3
  go_wp2_with fail
  rw [← HW0.out]
  refine (LV.out _).mono ?_
  intro e w1 hx
  obtain ⟨rfl, hb⟩ := hx
  have B1 := Lib.hid (below_from hb B0.out B0.out.size)
  have So1 := Lib.hid (So0.out.past hb)
  have cSo1 := So1.out.cell
  have lSo1 := So1.out.lt
  have Sp1 := Lib.hid (Sp0.out.past hb)
  have cSp1 := Sp1.out.cell
  have lSp1 := Sp1.out.lt
  have O1 := Lib.hid (Of.At.past O0.out hb)
  clear cSo0 lSo0 cSp0 lSp0 hb
  go_wp2_with fail
  refine (FW.out o _).mono ?_
  intro e w2 hx
  obtain ⟨rfl, hb⟩ := hx
  have B2 := Lib.hid (below_from hb B1.out B1.out.size)
  have So2 := Lib.hid (So1.out.past hb)
  have cSo2 := So2.out.cell
  have lSo2 := So2.out.lt
  have Sp2 := Lib.hid (Sp1.out.past hb)
  have cSp2 := Sp2.out.cell
  have lSp2 := Sp2.out.lt
  have O2 := Lib.hid (Of.At.past O1.out hb)
  clear cSo1 lSo1 cSp1 lSp1 hb
  obtain ⟨bf1, hbf1⟩ : ∃ b, fewO o = b := ⟨_, rfl⟩
  rw [hbf1]
  have HF1 := Lib.hid hbf1
  clear hbf1
  cases bf1 with
  | false =>
    go_wp2_with fail
    go_ret
    exact ⟨rfl, B2.out⟩
  | true => ?_
  go_wp2_with fail
  refine (FP.out p _).mono ?_
  intro e w3 hx
  obtain ⟨rfl, hb⟩ := hx
  have B3 := Lib.hid (below_from hb B2.out B2.out.size)
  have So3 := Lib.hid (So2.out.past hb)
  have cSo3 := So3.out.cell
  have lSo3 := So3.out.lt
  have Sp3 := Lib.hid (Sp2.out.past hb)
  have cSp3 := Sp3.out.cell
  have lSp3 := Sp3.out.lt
  have O3 := Lib.hid (Of.At.past O2.out hb)
  clear cSo2 lSo2 cSp2 lSp2 hb
  obtain ⟨bf2, hbf2⟩ : ∃ b, fewP p = b := ⟨_, rfl⟩
  rw [hbf2]
  have HF2 := Lib.hid hbf2
  clear hbf2
  cases bf2 with
  | false =>
    go_wp2_with fail
    go_ret
    exact ⟨rfl, B3.out⟩
  | true => ?_
  go_wp2_with fail
  refine (ch_at (L := L1) (M := M1) (e := e1) (PT.out o p _ O3.out.1 HP.out) (by rw [O3.out.2.1, O3.out.2.2]; exact V1.out)).mono ?_
  intro e w4 hx
  obtain ⟨o1, rfl, ha, hb⟩ := hx
  have bk4 := hb.alloc hb.size (.cells #[.slice o1.A o1.n o1.c, .slice o1.A' o1.n' o1.c'] 25)
  have B4 := Lib.hid (below_from bk4 B3.out B3.out.size)
  have So4 := Lib.hid (So3.out.past bk4)
  have cSo4 := So4.out.cell
  have lSo4 := So4.out.lt
  have Sp4 := Lib.hid (Sp3.out.past bk4)
  have cSp4 := Sp4.out.cell
  have lSp4 := Sp4.out.lt
  have O4 := Lib.hid (Of.At.past O3.out bk4)
  have O1_4 := Lib.hid (Of.At.past ha (below_alloc1 w4 (.cells #[.slice o1.A o1.n o1.c, .slice o1.A' o1.n' o1.c'] 25)))
  have S1_4 := Lib.hid (Has.newAt w4 #[.slice o1.A o1.n o1.c, .slice o1.A' o1.n' o1.c'] 25 (g := w4.heap.size) rfl)
  have cS1_4 := S1_4.out.cell
  have lS1_4 := S1_4.out.lt
  clear cSo3 lSo3 cSp3 lSp3 hb ha bk4
  go_wp2_with fail
  refine (ch_at (L := L1) (M := M1) (e := e1) (RP.out o p _ O4.out.1 HP.out) (by rw [O4.out.2.1, O4.out.2.2]; exact V1.out)).mono ?_
  intro e w5 hx
  obtain ⟨o2, rfl, ha, hb⟩ := hx
  have bk5 := hb.alloc hb.size (.cells #[.slice o2.A o2.n o2.c, .slice o2.A' o2.n' o2.c'] 25)
  have B5 := Lib.hid (below_from bk5 B4.out B4.out.size)
  have So5 := Lib.hid (So4.out.past bk5)
  have cSo5 := So5.out.cell
  have lSo5 := So5.out.lt
  have Sp5 := Lib.hid (Sp4.out.past bk5)
  have cSp5 := Sp5.out.cell
  have lSp5 := Sp5.out.lt
  have O5 := Lib.hid (Of.At.past O4.out bk5)
  have O1_5 := Lib.hid (Of.At.past O1_4.out bk5)
  have S1_5 := Lib.hid (S1_4.out.past bk5)
  have cS1_5 := S1_5.out.cell
  have lS1_5 := S1_5.out.lt
  have O2_5 := Lib.hid (Of.At.past ha (below_alloc1 w5 (.cells #[.slice o2.A o2.n o2.c, .slice o2.A' o2.n' o2.c'] 25)))
  have S2_5 := Lib.hid (Has.newAt w5 #[.slice o2.A o2.n o2.c, .slice o2.A' o2.n' o2.c'] 25 (g := w5.heap.size) rfl)
  have cS2_5 := S2_5.out.cell
  have lS2_5 := S2_5.out.lt
  clear cSo4 lSo4 cSp4 lSp4 cS1_4 lS1_4 hb ha bk5
  go_wp2_with fail
  refine (ch_at (L := L2) (M := M2) (e := e2) (HD.out o pid p _ O5.out.1 HP.out HI.out) (by rw [O5.out.2.1, O5.out.2.2]; exact V2.out)).mono ?_
  intro e w6 hx
  obtain ⟨o3, rfl, ha, hb⟩ := hx
  have bk6 := hb.alloc hb.size (.cells #[.slice o3.A o3.n o3.c, .slice o3.A' o3.n' o3.c'] 25)
  have B6 := Lib.hid (below_from bk6 B5.out B5.out.size)
  have So6 := Lib.hid (So5.out.past bk6)
  have cSo6 := So6.out.cell
  have lSo6 := So6.out.lt
  have Sp6 := Lib.hid (Sp5.out.past bk6)
  have cSp6 := Sp6.out.cell
  have lSp6 := Sp6.out.lt
  have O6 := Lib.hid (Of.At.past O5.out bk6)
  have O1_6 := Lib.hid (Of.At.past O1_5.out bk6)
  have S1_6 := Lib.hid (S1_5.out.past bk6)
  have cS1_6 := S1_6.out.cell
  have lS1_6 := S1_6.out.lt
  have O2_6 := Lib.hid (Of.At.past O2_5.out bk6)
  have S2_6 := Lib.hid (S2_5.out.past bk6)
  have cS2_6 := S2_6.out.cell
  have lS2_6 := S2_6.out.lt
  have O3_6 := Lib.hid (Of.At.past ha (below_alloc1 w6 (.cells #[.slice o3.A o3.n o3.c, .slice o3.A' o3.n' o3.c'] 25)))
  have S3_6 := Lib.hid (Has.newAt w6 #[.slice o3.A o3.n o3.c, .slice o3.A' o3.n' o3.c'] 25 (g := w6.heap.size) rfl)
  have cS3_6 := S3_6.out.cell
  have lS3_6 := S3_6.out.lt
  clear cSo5 lSo5 cSp5 lSp5 cS1_5 lS1_5 cS2_5 lS2_5 hb ha bk6
  go_wp2_with fail
  refine (ch_at (L := L2) (M := M2) (e := e2) (RH.out o pid p _ O6.out.1 HP.out HI.out) (by rw [O6.out.2.1, O6.out.2.2]; exact V2.out)).mono ?_
  intro e w7 hx
  obtain ⟨o4, rfl, ha, hb⟩ := hx
  have bk7 := hb.alloc hb.size (.cells #[.slice o4.A o4.n o4.c, .slice o4.A' o4.n' o4.c'] 25)
  have B7 := Lib.hid (below_from bk7 B6.out B6.out.size)
  have So7 := Lib.hid (So6.out.past bk7)
  have cSo7 := So7.out.cell
  have lSo7 := So7.out.lt
  have Sp7 := Lib.hid (Sp6.out.past bk7)
  have cSp7 := Sp7.out.cell
  have lSp7 := Sp7.out.lt
  have O7 := Lib.hid (Of.At.past O6.out bk7)
  have O1_7 := Lib.hid (Of.At.past O1_6.out bk7)
  have S1_7 := Lib.hid (S1_6.out.past bk7)
  have cS1_7 := S1_7.out.cell
  have lS1_7 := S1_7.out.lt
  have O2_7 := Lib.hid (Of.At.past O2_6.out bk7)
  have S2_7 := Lib.hid (S2_6.out.past bk7)
  have cS2_7 := S2_7.out.cell
  have lS2_7 := S2_7.out.lt
  have O3_7 := Lib.hid (Of.At.past O3_6.out bk7)
  have S3_7 := Lib.hid (S3_6.out.past bk7)
  have cS3_7 := S3_7.out.cell
  have lS3_7 := S3_7.out.lt
  have O4_7 := Lib.hid (Of.At.past ha (below_alloc1 w7 (.cells #[.slice o4.A o4.n o4.c, .slice o4.A' o4.n' o4.c'] 25)))
  have S4_7 := Lib.hid (Has.newAt w7 #[.slice o4.A o4.n o4.c, .slice o4.A' o4.n' o4.c'] 25 (g := w7.heap.size) rfl)
  have cS4_7 := S4_7.out.cell
  have lS4_7 := S4_7.out.lt
  clear cSo6 lSo6 cSp6 lSp6 cS1_6 lS1_6 cS2_6 lS2_6 cS3_6 lS3_6 hb ha bk7
  go_wp2_with fail
  refine (ch_at (L := L3) (M := M3) (e := e3) (MK.out o pid yes _ O7.out.1) (by rw [O7.out.2.1, O7.out.2.2]; exact V3.out)).mono ?_
  intro e w8 hx
  obtain ⟨o5, rfl, ha, hb⟩ := hx
  have bk8 := hb.alloc hb.size (.cells #[.slice o5.A o5.n o5.c, .slice o5.A' o5.n' o5.c'] 25)
  have B8 := Lib.hid (below_from bk8 B7.out B7.out.size)
  have So8 := Lib.hid (So7.out.past bk8)
  have cSo8 := So8.out.cell
  have lSo8 := So8.out.lt
  have Sp8 := Lib.hid (Sp7.out.past bk8)
  have cSp8 := Sp8.out.cell
  have lSp8 := Sp8.out.lt
  have O8 := Lib.hid (Of.At.past O7.out bk8)
  have O1_8 := Lib.hid (Of.At.past O1_7.out bk8)
  have S1_8 := Lib.hid (S1_7.out.past bk8)
  have cS1_8 := S1_8.out.cell
  have lS1_8 := S1_8.out.lt
  have O2_8 := Lib.hid (Of.At.past O2_7.out bk8)
  have S2_8 := Lib.hid (S2_7.out.past bk8)
  have cS2_8 := S2_8.out.cell
  have lS2_8 := S2_8.out.lt
  have O3_8 := Lib.hid (Of.At.past O3_7.out bk8)
  have S3_8 := Lib.hid (S3_7.out.past bk8)
  have cS3_8 := S3_8.out.cell
  have lS3_8 := S3_8.out.lt
  have O4_8 := Lib.hid (Of.At.past O4_7.out bk8)
  have S4_8 := Lib.hid (S4_7.out.past bk8)
  have cS4_8 := S4_8.out.cell
  have lS4_8 := S4_8.out.lt
  have O5_8 := Lib.hid (Of.At.past ha (below_alloc1 w8 (.cells #[.slice o5.A o5.n o5.c, .slice o5.A' o5.n' o5.c'] 25)))
  have S5_8 := Lib.hid (Has.newAt w8 #[.slice o5.A o5.n o5.c, .slice o5.A' o5.n' o5.c'] 25 (g := w8.heap.size) rfl)
  have cS5_8 := S5_8.out.cell
  have lS5_8 := S5_8.out.lt
  clear cSo7 lSo7 cSp7 lSp7 cS1_7 lS1_7 cS2_7 lS2_7 cS3_7 lS3_7 cS4_7 lS4_7 hb ha bk8
  go_wp2_with fail
  refine (ch_at (L := L3) (M := M3) (e := e3) (RK.out o pid yes _ O8.out.1) (by rw [O8.out.2.1, O8.out.2.2]; exact V3.out)).mono ?_
  intro e w9 hx
  obtain ⟨o6, rfl, ha, hb⟩ := hx
  have bk9 := hb.alloc hb.size (.cells #[.slice o6.A o6.n o6.c, .slice o6.A' o6.n' o6.c'] 25)
  have B9 := Lib.hid (below_from bk9 B8.out B8.out.size)
  have So9 := Lib.hid (So8.out.past bk9)
  have cSo9 := So9.out.cell
  have lSo9 := So9.out.lt
  have Sp9 := Lib.hid (Sp8.out.past bk9)
  have cSp9 := Sp9.out.cell
  have lSp9 := Sp9.out.lt
  have O9 := Lib.hid (Of.At.past O8.out bk9)
  have O1_9 := Lib.hid (Of.At.past O1_8.out bk9)
  have S1_9 := Lib.hid (S1_8.out.past bk9)
  have cS1_9 := S1_9.out.cell
  have lS1_9 := S1_9.out.lt
  have O2_9 := Lib.hid (Of.At.past O2_8.out bk9)
  have S2_9 := Lib.hid (S2_8.out.past bk9)
  have cS2_9 := S2_9.out.cell
  have lS2_9 := S2_9.out.lt
  have O3_9 := Lib.hid (Of.At.past O3_8.out bk9)
  have S3_9 := Lib.hid (S3_8.out.past bk9)
  have cS3_9 := S3_9.out.cell
  have lS3_9 := S3_9.out.lt
  have O4_9 := Lib.hid (Of.At.past O4_8.out bk9)
  have S4_9 := Lib.hid (S4_8.out.past bk9)
  have cS4_9 := S4_9.out.cell
  have lS4_9 := S4_9.out.lt
  have O5_9 := Lib.hid (Of.At.past O5_8.out bk9)
  have S5_9 := Lib.hid (S5_8.out.past bk9)
  have cS5_9 := S5_9.out.cell
  have lS5_9 := S5_9.out.lt
  have O6_9 := Lib.hid (Of.At.past ha (below_alloc1 w9 (.cells #[.slice o6.A o6.n o6.c, .slice o6.A' o6.n' o6.c'] 25)))
  have S6_9 := Lib.hid (Has.newAt w9 #[.slice o6.A o6.n o6.c, .slice o6.A' o6.n' o6.c'] 25 (g := w9.heap.size) rfl)
  have cS6_9 := S6_9.out.cell
  have lS6_9 := S6_9.out.lt
  clear cSo8 lSo8 cSp8 lSp8 cS1_8 lS1_8 cS2_8 lS2_8 cS3_8 lS3_8 cS4_8 lS4_8 cS5_8 lS5_8 hb ha bk9
  obtain ⟨K, hK⟩ : ∃ K, checkV L0 M0 = K := ⟨_, rfl⟩
  have CKR := Lib.hid (fun W' (h : Below (w9.alloc (.cells #[.slice o6.A o6.n o6.c, .slice o6.A' o6.n' o6.c'] 25)).heap.size (w9.alloc (.cells #[.slice o6.A o6.n o6.c, .slice o6.A' o6.n' o6.c'] 25)) W') => check_at (Of.At.past O9.out h) hK)
  have RCR := Lib.hid (fun W' (h : Below (w9.alloc (.cells #[.slice o6.A o6.n o6.c, .slice o6.A' o6.n' o6.c'] 25)).heap.size (w9.alloc (.cells #[.slice o6.A o6.n o6.c, .slice o6.A' o6.n' o6.c'] 25)) W') => rcheck_at (Of.At.past O9.out h) hK)

  have SMA := Lib.hid (fun W' (h : Below (w9.alloc (.cells #[.slice o6.A o6.n o6.c, .slice o6.A' o6.n' o6.c'] 25)).heap.size (w9.alloc (.cells #[.slice o6.A o6.n o6.c, .slice o6.A' o6.n' o6.c'] 25)) W') => (show Calls Try.prog 22 #[o1.v, o2.v] W' fun e w' => e = .returned (.bool true) ∧ Below W'.heap.size W' w' from by have := same_at (Of.At.past O1_9.out h) (Of.At.past O2_9.out h); rw [show sameO L1 M1 L1 M1 = true by unfold sameO; simp] at this; exact this))
  have SMB := Lib.hid (fun W' (h : Below (w9.alloc (.cells #[.slice o6.A o6.n o6.c, .slice o6.A' o6.n' o6.c'] 25)).heap.size (w9.alloc (.cells #[.slice o6.A o6.n o6.c, .slice o6.A' o6.n' o6.c'] 25)) W') => (show Calls Try.prog 22 #[o3.v, o4.v] W' fun e w' => e = .returned (.bool true) ∧ Below W'.heap.size W' w' from by have := same_at (Of.At.past O3_9.out h) (Of.At.past O4_9.out h); rw [show sameO L2 M2 L2 M2 = true by unfold sameO; simp] at this; exact this))
  have SMC := Lib.hid (fun W' (h : Below (w9.alloc (.cells #[.slice o6.A o6.n o6.c, .slice o6.A' o6.n' o6.c'] 25)).heap.size (w9.alloc (.cells #[.slice o6.A o6.n o6.c, .slice o6.A' o6.n' o6.c'] 25)) W') => (show Calls Try.prog 22 #[o5.v, o6.v] W' fun e w' => e = .returned (.bool true) ∧ Below W'.heap.size W' w' from by have := same_at (Of.At.past O5_9.out h) (Of.At.past O6_9.out h); rw [show sameO L3 M3 L3 M3 = true by unfold sameO; simp] at this; exact this))
  have rg0a := at_regrown (So9.out.cell 0)
  have rg0b := at_regrown (So9.out.cell 1)
  have rg1a := at_regrown (S1_9.out.cell 0)
  have rg1b := at_regrown (S1_9.out.cell 1)
  have rg2a := at_regrown (S2_9.out.cell 0)
  have rg2b := at_regrown (S2_9.out.cell 1)
  have rg3a := at_regrown (S3_9.out.cell 0)
  have rg3b := at_regrown (S3_9.out.cell 1)
  have rg4a := at_regrown (S4_9.out.cell 0)
  have rg4b := at_regrown (S4_9.out.cell 1)
  have rg5a := at_regrown (S5_9.out.cell 0)
  have rg5b := at_regrown (S5_9.out.cell 1)
  have rg6a := at_regrown (S6_9.out.cell 0)
  have rg6b := at_regrown (S6_9.out.cell 1)
  clear cSo9 lSo9 cS1_9 lS1_9 cS2_9 lS2_9 cS3_9 lS3_9 cS4_9 lS4_9 cS5_9 lS5_9 cS6_9 lS6_9 cSp9 lSp9 hK
  go_wp2_with fail
  refine region_below (by kernel_rfl) (by kernel_rfl) ?_
  iterate 4 (go_big_quiet_step (exact call_regrown CKR.out))
  iterate 3 (go_big_quiet_step (exact call_regrown RCR.out))
  iterate 10 (go_big_quiet_step (exact call_regrown SMA.out))
  iterate 10 (go_big_quiet_step (exact call_regrown SMB.out))
  repeat (go_big_quiet_step (exact call_regrown SMC.out))
  refine wpQuiet_nil ?_
  intro wz hbz
  have BZ := Lib.hid (B9.out.trans (hbz.mono B9.out.size))
  clear hbz
  go_wp2_with fail
  go_ret
  exact ⟨ret_bool (by first | rfl | simp), BZ.out⟩

end Go.Proofs.Ytnkjkgakbgjddaa
