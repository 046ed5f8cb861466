/- OffsBytes: its bytes, and which position bytes are, as the document has it. -/
import Derived.Test.YtnkjkgakbgjddaaLive
import Derived.Test.YtnkjkgakbgjddaaRSave
import Derived.Test.YtnkjkgakbgjddaaRLoad
import Derived.Deep.DeepCutAuto
import Derived.Laws.StructEq
namespace Go.Proofs.Ytnkjkgakbgjddaa
open Go.RowKit

theorem rsave_at {p : Ps} {w : World} (hp : p.wf) {l : List UInt8} {e : Int} (hr : saveV p = (l, e)) : Calls Try.prog 28 #[p.v] w fun x w' => ∃ A n c, x = .returned (.tuple #[.slice A n c, .int .i64 e]) ∧ Sl u8K w' A n c l ∧ Below w.heap.size w w' := by
  have := rsave_any p w hp
  rw [hr] at this
  exact this
theorem rload_at {A : Option Addr} {n c : Nat} {bs : List UInt8} {i : Int} {w : World} (hl : Sl u8K w A n c bs) {p : Ps} {m e : Int} (hr : loadV bs i = (p, m, e)) : Calls Try.prog 30 #[.slice A n c, .int .i64 i] w fun x w' => x = .returned (.tuple #[p.v, .int .i64 m, .int .i64 e]) ∧ Below w.heap.size w w' := by
  have := rload_any A n c bs i w hl
  rw [hr] at this
  exact this

set_option maxHeartbeats 16000000 in
set_option maxRecDepth 100000 in
theorem lbytes_any (p : Ps) (A : Option Addr) (n c : Nat) (bs : List UInt8) (at0 : Int) (w : World) (hp : p.wf) (hb : Sl u8K w A n c bs) : Calls Try.prog 5 #[p.v, .slice A n c, .int .i64 at0] w fun e w' => e = .returned (.bool true) ∧ Below w.heap.size w w' := by
  have HP := Lib.hid hp
  have mb := hb.max
  have nb := hb.cap
  obtain ⟨VL, hVL⟩ : ∃ V, loadV bs at0 = V := ⟨_, rfl⟩
  obtain ⟨q, nx, e⟩ := VL
  have VL := Lib.hid hVL
  obtain ⟨VP, hVP⟩ : ∃ V, saveV p = V := ⟨_, rfl⟩
  obtain ⟨lp, ep⟩ := VP
  have VP := Lib.hid hVP
  obtain ⟨W0, hW0⟩ : ∃ W0, W0 = (w.alloc (.cells #[.string p.g, .string p.t, .int .i64 p.p, .int .i64 p.h, .int .i64 p.o] 29)) := ⟨_, rfl⟩
  have bw : Below w.heap.size w W0 := by rw [hW0]; exact below_alloc1 w _
  have B0 := Lib.hid bw
  have Sp0 := Lib.hid (show Has W0 (w.heap.size) #[.string p.g, .string p.t, .int .i64 p.p, .int .i64 p.h, .int .i64 p.o] from by rw [hW0]; exact Has.newAt w _ 29 rfl)
  have cSp0 := Sp0.out.cell
  have lSp0 := Sp0.out.lt
  have YB0 := Lib.hid (hb.below bw)
  have LV := Lib.hid live_any
  have FW := Lib.hid few_any
  have FP := Lib.hid fewP_any
  have SV := Lib.hid save_any
  have LD := Lib.hid load_any
  have HW0 := Lib.hid hW0
  clear bw hW0 hb hp hVL hVP
  try unfold Ps.v
  go_enter Try.func5, Try.ntmps5
  go_wp2_with fail
  rw [← HW0.out]
  refine (LV.out _).mono ?_
  intro e w1 hx
  obtain ⟨rfl, hb⟩ := hx
  have B1 := Lib.hid (below_from hb B0.out B0.out.size)
  have Sp1 := Lib.hid (Sp0.out.past hb)
  have cSp1 := Sp1.out.cell
  have lSp1 := Sp1.out.lt
  have YB1 := Lib.hid (YB0.out.below hb)
  clear cSp0 lSp0 hb
  go_wp2_with fail
  refine (FP.out p _).mono ?_
  intro e w2 hx
  obtain ⟨rfl, hb⟩ := hx
  have B2 := Lib.hid (below_from hb B1.out B1.out.size)
  have Sp2 := Lib.hid (Sp1.out.past hb)
  have cSp2 := Sp2.out.cell
  have lSp2 := Sp2.out.lt
  have YB2 := Lib.hid (YB1.out.below hb)
  clear cSp1 lSp1 hb
  obtain ⟨bf1, hbf1⟩ : ∃ b, fewP p = b := ⟨_, rfl⟩
  rw [hbf1]
  have HF1 := Lib.hid hbf1
  clear hbf1
  cases bf1 with
  | false =>
    go_wp2_with fail
    go_ret
    exact ⟨rfl, B2.out⟩
  | true => ?_
  by_cases g2 : 500 < n
  · have d2 : decide ((500 : Int) < (n : Int)) = true := decide_eq_true (by omega)
    clear g2
    go_wp2_with fail
    go_ret
    exact ⟨rfl, B2.out⟩
  have d2 : decide ((500 : Int) < (n : Int)) = false := decide_eq_false (by omega)
  have G2 := Lib.hid g2
  clear g2
  go_wp2_with fail
  refine ((show Calls Try.prog 27 #[p.v] _ _ from save_at HP.out VP.out)).mono ?_
  intro e w3 hx
  obtain ⟨A8, n8, c8, rfl, hs, hb⟩ := hx
  have B3 := Lib.hid (below_from hb B2.out B2.out.size)
  have Sp3 := Lib.hid (Sp2.out.past hb)
  have cSp3 := Sp3.out.cell
  have lSp3 := Sp3.out.lt
  have YB3 := Lib.hid (YB2.out.below hb)
  have Y83 := Lib.hid (hs)
  clear cSp2 lSp2 hb hs
  go_wp2_with fail
  refine ((show Calls Try.prog 28 #[p.v] _ _ from rsave_at HP.out VP.out)).mono ?_
  intro e w4 hx
  obtain ⟨A9, n9, c9, rfl, hs, hb⟩ := hx
  have B4 := Lib.hid (below_from hb B3.out B3.out.size)
  have Sp4 := Lib.hid (Sp3.out.past hb)
  have cSp4 := Sp4.out.cell
  have lSp4 := Sp4.out.lt
  have YB4 := Lib.hid (YB3.out.below hb)
  have Y84 := Lib.hid (Y83.out.below hb)
  have Y94 := Lib.hid (hs)
  clear cSp3 lSp3 hb hs
  go_wp2_with fail
  refine (show Calls _ _ _ _ (fun x w' => x = .returned (.tuple #[.agg #[.string q.g, .string q.t, .int .i64 q.p, .int .i64 q.h, .int .i64 q.o], .int .i64 nx, .int .i64 e]) ∧ Below _ _ w') from load_at YB4.out VL.out).mono ?_
  intro e w5 hx
  obtain ⟨rfl, hb⟩ := hx
  have bk5 := hb.alloc hb.size (.cells #[.string q.g, .string q.t, .int .i64 q.p, .int .i64 q.h, .int .i64 q.o] 29)
  have B5 := Lib.hid (below_from bk5 B4.out B4.out.size)
  have Sp5 := Lib.hid (Sp4.out.past bk5)
  have cSp5 := Sp5.out.cell
  have lSp5 := Sp5.out.lt
  have YB5 := Lib.hid (YB4.out.below bk5)
  have Y85 := Lib.hid (Y84.out.below bk5)
  have Y95 := Lib.hid (Y94.out.below bk5)
  have X5 := Lib.hid (Has.newAt w5 #[.string q.g, .string q.t, .int .i64 q.p, .int .i64 q.h, .int .i64 q.o] 29 (g := w5.heap.size) rfl)
  have cX5 := X5.out.cell
  have lX5 := X5.out.lt
  clear bk5
  clear cSp4 lSp4 hb
  go_wp2_with fail
  refine (show Calls _ _ _ _ (fun x w' => x = .returned (.tuple #[.agg #[.string q.g, .string q.t, .int .i64 q.p, .int .i64 q.h, .int .i64 q.o], .int .i64 nx, .int .i64 e]) ∧ Below _ _ w') from rload_at YB5.out VL.out).mono ?_
  intro e w6 hx
  obtain ⟨rfl, hb⟩ := hx
  have bk6 := hb.alloc hb.size (.cells #[.string q.g, .string q.t, .int .i64 q.p, .int .i64 q.h, .int .i64 q.o] 29)
  have B6 := Lib.hid (below_from bk6 B5.out B5.out.size)
  have Sp6 := Lib.hid (Sp5.out.past bk6)
  have cSp6 := Sp6.out.cell
  have lSp6 := Sp6.out.lt
  have YB6 := Lib.hid (YB5.out.below bk6)
  have Y86 := Lib.hid (Y85.out.below bk6)
  have Y96 := Lib.hid (Y95.out.below bk6)
  have X6 := Lib.hid (X5.out.past bk6)
  have cX6 := X6.out.cell
  have lX6 := X6.out.lt
  have Z6 := Lib.hid (Has.newAt w6 #[.string q.g, .string q.t, .int .i64 q.p, .int .i64 q.h, .int .i64 q.o] 29 (g := w6.heap.size) rfl)
  have cZ6 := Z6.out.cell
  have lZ6 := Z6.out.lt
  clear bk6
  clear cSp5 lSp5 cX5 lX5 hb
  have cv1 := conv_bs (P := Try.prog) Y86.out 45 Try.underlying45 Try.underlying5 Try.underlying9
  have cv2 := conv_bs (P := Try.prog) Y96.out 45 Try.underlying45 Try.underlying5 Try.underlying9
  go_wp2_with fail
  go_ret
  exact ⟨ret_bool (by first | rfl | simp), B6.out⟩

end Go.Proofs.Ytnkjkgakbgjddaa
