/- A step of the laws: done; all; whether steps are few, and short. -/
import Derived.Test.YtnigjchgpmladaaDv
import Derived.Test.YtnigjchgpmladaaCor
import Derived.Test.YtnigjchgpmladaaLive
namespace Go.Proofs.Ytnigjchgpmladaa
open Go.RowKit Go.Shelf

def StepRes (w : World) (V : Cv) (e : Ending) (w' : World) : Prop := ∃ q : Tc, e = .returned q.v ∧ Tc.At w' q ∧ Step V q.val ∧ Below w.heap.size w w'
set_option maxRecDepth 100000 in
set_option maxHeartbeats 16000000 in
theorem done_step (o : Tc) (d : Dv) (w : World) (ho : Tc.At w o) (hf : FewV o.val) (hd : d.a.wf) : Calls Try.prog 75 #[o.v, d.v] w fun e w' => StepRes w o.val e w' := by
  obtain ⟨W0, hW0⟩ : ∃ W0, W0 = (((w.alloc (.cells #[.int .i64 o.next, .slice o.A o.n o.c] 24)).alloc (.cells #[.int .i64 d.kind, .bool d.own, .string d.a.id, .int .i64 d.a.pid, .int .i64 d.a.gen, .string d.a.tp.t, .int .i64 d.a.tp.p, .int .i64 d.a.tp.h, .string d.a.g, .bool d.a.yes, .int .i64 d.a.now] 95)).alloc (.cells #[.int .i64 0, .slice none 0 0] 24)).alloc (.cells #[.string d.a.id, .int .i64 d.a.pid, .int .i64 d.a.gen, .string d.a.tp.t, .int .i64 d.a.tp.p, .int .i64 d.a.tp.h, .string d.a.g, .bool d.a.yes, .int .i64 d.a.now] 47) := ⟨_, rfl⟩
  have b1 := below_alloc1 w (.cells #[.int .i64 o.next, .slice o.A o.n o.c] 24)
  have b2 := b1.alloc b1.size (.cells #[.int .i64 d.kind, .bool d.own, .string d.a.id, .int .i64 d.a.pid, .int .i64 d.a.gen, .string d.a.tp.t, .int .i64 d.a.tp.p, .int .i64 d.a.tp.h, .string d.a.g, .bool d.a.yes, .int .i64 d.a.now] 95)
  have b3 := b2.alloc b2.size (.cells #[.int .i64 0, .slice none 0 0] 24)
  have B0 := Lib.hid (show Below w.heap.size w W0 from by rw [hW0]; exact b3.alloc b3.size _)
  have S0 := Lib.hid (show Has W0 w.heap.size #[.int .i64 o.next, .slice o.A o.n o.c] from by rw [hW0]; exact (((Has.newAt w _ 24 rfl).alloc _).alloc _).alloc _)
  have D0 := Lib.hid (show Has W0 (w.heap.size + 1) #[.int .i64 d.kind, .bool d.own, .string d.a.id, .int .i64 d.a.pid, .int .i64 d.a.gen, .string d.a.tp.t, .int .i64 d.a.tp.p, .int .i64 d.a.tp.h, .string d.a.g, .bool d.a.yes, .int .i64 d.a.now] from by rw [hW0]; exact ((Has.newAt _ _ 95 (by simp)).alloc _).alloc _)
  have R0 := Lib.hid (show Has W0 (w.heap.size + 1 + 1) #[.int .i64 0, .slice none 0 0] from by rw [hW0]; exact (Has.newAt _ _ 24 (by simp)).alloc _)
  have A0 := Lib.hid (show Has W0 (w.heap.size + 1 + 1 + 1) #[.string d.a.id, .int .i64 d.a.pid, .int .i64 d.a.gen, .string d.a.tp.t, .int .i64 d.a.tp.p, .int .i64 d.a.tp.h, .string d.a.g, .bool d.a.yes, .int .i64 d.a.now] from by rw [hW0]; exact Has.newAt _ _ 47 (by simp))
  have HW := Lib.hid hW0
  have HO := Lib.hid ho
  have HL := Lib.hid (show Sl txK w o.A o.n o.c o.L from ho)
  have FW := Lib.hid hf
  have WF := Lib.hid hd
  have hcap := ho.cap
  have hmax := ho.max
  clear ho hf hd hW0 b1 b2 b3
  go_enter Try.func75, Try.ntmps75
  go_upto_region 2 with (fail)
  rw [← HW.out]
  obtain ⟨CA, hCA⟩ : ∃ A, o.A = A := ⟨_, rfl⟩
  rw [hCA] at HL S0
  have HCA := Lib.hid hCA
  clear hCA
  go_wp2_with fail
  go_loopg [6] o.n (fun gg s6 wr => ∃ (k : Nat) (pid gen : Int), k ≤ o.n ∧ o.n - k ≤ gg ∧ s6 = .int .i64 k ∧ Hid (Has wr w.heap.size #[.int .i64 o.next, .slice CA o.n o.c]) ∧ Hid (Has wr (w.heap.size + 1) #[.int .i64 d.kind, .bool d.own, .string d.a.id, .int .i64 d.a.pid, .int .i64 d.a.gen, .string d.a.tp.t, .int .i64 d.a.tp.p, .int .i64 d.a.tp.h, .string d.a.g, .bool d.a.yes, .int .i64 d.a.now]) ∧ Hid (Has wr (w.heap.size + 1 + 1) #[.int .i64 0, .slice none 0 0]) ∧ Hid (Has wr (w.heap.size + 1 + 1 + 1) #[.string d.a.id, .int .i64 pid, .int .i64 gen, .string d.a.tp.t, .int .i64 d.a.tp.p, .int .i64 d.a.tp.h, .string d.a.g, .bool d.a.yes, .int .i64 d.a.now]) ∧ Hid (Below w.heap.size w wr))
  case atStart => exact ⟨0, d.a.pid, d.a.gen, Nat.zero_le _, by omega, rfl, S0, D0, R0, A0, B0⟩
  case round =>
    obtain ⟨k, pid, gen, hk, hgg, rfl, S1, D1, R1, A1, B1⟩ := hrel
    have s1c := S1.out.cell
    have s1l := S1.out.lt
    have d1c := D1.out.cell
    have d1l := D1.out.lt
    by_cases hgo : k < o.n ∧ d.own = true
    · obtain ⟨hlt, hown⟩ := hgo
      have hon : d.own = true := hown
      obtain ⟨b, off, hkl, rfl, hbl, x0, x1, x2, x3, x4, x5, x6, x7⟩ := tx_at (HL.out.below B1.out) hlt
      have XL := Lib.hid hbl
      generalize o.L[k] = x at *
      have q0 : (0 : Int) ≤ (k : Int) := by omega
      have q1 : (k : Int) < (o.n : Int) := by omega
      have X0 := Lib.hid x0
      have X1 := Lib.hid x1
      have X2 := Lib.hid x2
      have r0 := at_regrown x0
      have r1 := at_regrown (w := wr) (v := .slice (some ⟨b, off, none⟩) o.n o.c) (S1.out.cell 1)
      have r2 := at_regrown (w := wr) (v := .string d.a.id) (A1.out.cell 0)
      have al := A1.out.lt
      have TB := Lib.hid (show b < w.heap.size ∨ True from .inr trivial)
      have OLD := Lib.hid (show ∃ z, w.cell? ⟨b, off + k * 8, none⟩ = some z from by
        obtain ⟨b', off', hkl', e', hbl', y0, _⟩ := tx_at HL.out hlt
        injection e' with e'; injection e' with e1 e2 _
        exact ⟨_, by rw [e1, e2]; exact y0⟩)
      have BO := Lib.hid (show b < w.heap.size from by
        obtain ⟨z, hz⟩ := OLD.out
        exact World.block_lt_of_cell? w ⟨b, off + k * 8, none⟩ (by rw [hz]))
      clear x0 x1 x2 x3 x4 x5 x6 x7 TB
      by_cases e : x.id = d.a.id
      · have y1 : (x.id.toList == d.a.id.toList) = true := by rw [e]; simp
        have y2 : decide (x.id.toList = d.a.id.toList) = true := decide_eq_true (by rw [e])
        clear e hown
        go_wp2_with fail
        refine region_below (by kernel_rfl) (by kernel_rfl) ?_
        repeat (go_big_quiet_step (fail))
        refine wpQuiet_nil ?_
        intro w2 hb2
        have B2 := Lib.hid (below_from hb2 B1.out B1.out.size)
        have S2 := Lib.hid (S1.out.past hb2)
        have D2 := Lib.hid (D1.out.past hb2)
        have R2 := Lib.hid (R1.out.past hb2)
        have A2 := Lib.hid (A1.out.past hb2)
        have v1 := (hb2.cell (p := ⟨b, off + k * 8 + 1, none⟩) XL.out).trans X1.out
        have V2 := Lib.hid ((hb2.cell (p := ⟨b, off + k * 8 + 2, none⟩) XL.out).trans X2.out)
        have vl := Nat.lt_of_lt_of_le XL.out hb2.size
        have BL := Lib.hid vl
        clear hb2 r0 r1 r2 al s1c s1l d1c d1l
        have s2c := S2.out.cell
        have s2l := S2.out.lt
        have a2c := A2.out.cell
        have a2l := A2.out.lt
        have a2f := A2.out.free
        go_upto_region 7 with (fail)
        have G := setCells_grown (w.heap.size + 1 + 1 + 1) [.int .i64 x.pid] 1 w2
        obtain ⟨w3, hw3⟩ : ∃ W, W = w2.setCells (w.heap.size + 1 + 1 + 1) 1 [.int .i64 x.pid] := ⟨_, rfl⟩
        have A3 := Lib.hid (show Has w3 (w.heap.size + 1 + 1 + 1) #[.string d.a.id, .int .i64 x.pid, .int .i64 gen, .string d.a.tp.t, .int .i64 d.a.tp.p, .int .i64 d.a.tp.h, .string d.a.g, .bool d.a.yes, .int .i64 d.a.now] from by
          have := A2.out.setAt 1 (.int .i64 x.pid) (by simp)
          rw [hw3]
          simpa [World.setCells] using this)
        rw [← hw3] at G
        have B3 := Lib.hid (B2.out.trans (grown_below G B2.out.size (fun k hk => by injection hk with hk; omega)))
        have S3 := Lib.hid (S2.out.grown G (by omega))
        have D3 := Lib.hid (D2.out.grown G (by omega))
        have R3 := Lib.hid (R2.out.grown G (by omega))
        have v2 : w3.cell? ⟨b, off + k * 8 + 2, none⟩ = some (.int .i64 x.gen) := (G.cell_far ⟨b, off + k * 8 + 2, none⟩ BL.out (by have := BO.out; simp; omega)).trans V2.out
        have vl3 : b < w3.heap.size := Nat.lt_of_lt_of_le BL.out G.size
        rw [show w2.setCell ⟨w.heap.size + 1 + 1 + 1, 1, none⟩ (.int .i64 x.pid) = w3 from hw3.symm]
        clear hw3 G s2c s2l a2c a2l a2f v1 vl
        have s3c := S3.out.cell
        have s3l := S3.out.lt
        have a3c := A3.out.cell
        have a3l := A3.out.lt
        have a3f := A3.out.free
        go_wp2_with fail
        have G := setCells_grown (w.heap.size + 1 + 1 + 1) [.int .i64 x.gen] 2 w3
        go_roundg (o.n - (k + 1))
        case measure => omega
        case rel =>
          refine ⟨k + 1, x.pid, x.gen, by omega, by omega, by go_num, Lib.hid (S3.out.grown G (by omega)), Lib.hid (D3.out.grown G (by omega)), Lib.hid (R3.out.grown G (by omega)), Lib.hid ?_, Lib.hid (B3.out.trans (grown_below G B3.out.size (fun k hk => by injection hk with hk; omega)))⟩
          have := A3.out.setAt 2 (.int .i64 x.gen) (by simp)
          simpa using this
      · obtain ⟨y1, y2, y3⟩ := str_nes e
        clear e hown
        go_wp2_with fail
        refine region_below (by kernel_rfl) (by kernel_rfl) ?_
        repeat (go_big_quiet_step (fail))
        refine wpQuiet_nil ?_
        intro w2 hb2
        have B2 := Lib.hid (below_from hb2 B1.out B1.out.size)
        have S2 := Lib.hid (S1.out.past hb2)
        have D2 := Lib.hid (D1.out.past hb2)
        have R2 := Lib.hid (R1.out.past hb2)
        have A2 := Lib.hid (A1.out.past hb2)
        clear hb2 r0 r1 r2 al s1c s1l d1c d1l
        go_wp2_with fail
        go_roundg (o.n - (k + 1))
        case measure => omega
        case rel => exact ⟨k + 1, pid, gen, by omega, by omega, by go_num, S2, D2, R2, A2, B2⟩
    · have GO := Lib.hid hgo
      have HIS := Lib.hid (show ∀ W, Below w.heap.size w W → Tc.Is W o o.val from fun W h => ⟨HO.out.below h, rfl⟩)
      rw [← HCA.out] at S1 s1c
      clear hgo
      -- out of the loop
      have brk : (decide ((k : Int) < (o.n : Int)) = false) ∨ (decide ((k : Int) < (o.n : Int)) = true ∧ d.own = false) := by
        by_cases h : k < o.n
        · right
          refine ⟨decide_eq_true (by omega), ?_⟩
          cases hh : d.own with
          | false => rfl
          | true => exact absurd ⟨h, hh⟩ GO.out
        · left; exact decide_eq_false (by omega)
      rcases brk with b1 | ⟨b1, b2⟩
      · have b1' : decide (k < o.n) = false := by have h := of_decide_eq_false b1; exact decide_eq_false (by omega)
        go_upto_region 8 with (fail)
        go_upto_region 9 with (fail)
        obtain ⟨w2, hw2⟩ : ∃ W, W = wr.alloc (.cells #[.int .i64 o.next, .slice o.A o.n o.c] 24) := ⟨_, rfl⟩
        have hb2 : Below wr.heap.size wr w2 := by rw [hw2]; exact below_alloc1 wr _
        have X2 := Lib.hid (show Has w2 wr.heap.size #[.int .i64 o.next, .slice o.A o.n o.c] from by rw [hw2]; exact Has.newAt wr _ 24 rfl)
        have B2 := Lib.hid (below_from hb2 B1.out B1.out.size)
        have S2 := Lib.hid (S1.out.past hb2)
        have D2 := Lib.hid (D1.out.past hb2)
        have R2 := Lib.hid (R1.out.past hb2)
        have A2 := Lib.hid (A1.out.past hb2)
        rw [← hw2]
        clear hw2 hb2 s1c s1l d1c d1l b1 b1' 
        have s2c := S2.out.cell
        have s2l := S2.out.lt
        have x2c := X2.out.cell
        have x2l := X2.out.lt
        have a2c := A2.out.cell
        have a2l := A2.out.lt
        have d2c := D2.out.cell
        have d2l := D2.out.lt
        go_upto_region 11 with (fail)
        clear d2c d2l
        by_cases c0 : d.kind = 0
        · have y0 : (d.kind == 0) = true := by rw [beq_iff_eq]; exact c0
          have z0 : decide (d.kind = 0) = true := decide_eq_true c0
          obtain ⟨RV, hRV⟩ : ∃ V, initV o.val d.a.id d.a.now = V := ⟨_, rfl⟩
          obtain ⟨V1, p1, g1, e1⟩ := RV
          have H1 := Lib.hid hRV
          clear hRV c0
          go_upto_region 19 with (
            go_at_call 13; refine (init_at (HIS.out _ B2.out) FW.out WF.out.id H1.out).mono ?_; rintro e w5 ⟨q, rfl, ha, hb⟩; have Q5 := Lib.hid ha; have B5 := Lib.hid (below_from hb B2.out B2.out.size); have S5 := Lib.hid (S2.out.past hb); have R5 := Lib.hid (R2.out.past hb); have X5 := Lib.hid (X2.out.past hb); have x5c := X5.out.cell; have x5f := X5.out.free; have x5l := X5.out.lt; clear ha hb s2c s2l a2c a2l x2c x2l)
          have G := setCells_grown wr.heap.size [.int .i64 q.next, .slice q.A q.n q.c] 0 w5
          obtain ⟨w6, hw6⟩ : ∃ W, W = w5.setCells wr.heap.size 0 [.int .i64 q.next, .slice q.A q.n q.c] := ⟨_, rfl⟩
          rw [← hw6] at G
          have X6 := Lib.hid (show Has w6 wr.heap.size #[.int .i64 q.next, .slice q.A q.n q.c] from by rw [hw6]; exact X5.out.set [.int .i64 q.next, .slice q.A q.n q.c] rfl)
          have B6 := Lib.hid (B5.out.trans (grown_below G B5.out.size (fun k hk => by injection hk with hk; have := B1.out.size; omega)))
          have S6 := Lib.hid (S5.out.grown G (by have := R1.out.lt; omega))
          have R6 := Lib.hid (R5.out.grown G (by have := R1.out.lt; omega))
          have Q6 := Lib.hid (Q5.out.beside X5.out (tc_texts _ _ _ _) G)
          rw [show (w5.setCell ⟨wr.heap.size, 0, none⟩ (.int .i64 q.next)).setCell ⟨wr.heap.size, 1, none⟩ (.slice q.A q.n q.c) = w6 from hw6.symm]
          clear hw6 G x5c x5f x5l
          by_cases hne : e1 = 0
          · subst hne
            have s6c := S6.out.cell
            have s6l := S6.out.lt
            have x6c := X6.out.cell
            have x6l := X6.out.lt
            have r6c := R6.out.cell
            have r6l := R6.out.lt
            have r6f := R6.out.free
            go_wp2_with fail
            have G := setCells_grown (w.heap.size + 1 + 1) [.int .i64 q.next, .slice q.A q.n q.c] 0 w6
            have BB := B6.out.trans (grown_below G B6.out.size (fun k hk => by injection hk with hk; omega))
            refine bodyPost_ret (v := q.v) (results_cell Try.results75 (g := w.heap.size + 1 + 1) rfl (load24 (R6.out.set [.int .i64 q.next, .slice q.A q.n q.c] rfl))) rfl ?_
            exact ⟨q, rfl, Q6.out.1.beside R6.out (tc_texts _ _ _ _) G, Step.init (show initV o.val d.a.id d.a.now = (q.val, p1, g1, 0) from by rw [Q6.out.2]; exact H1.out), BB⟩
          · have n1 : (e1 != 0) = true := by rw [bne_iff_ne]; exact hne
            have n2 : (e1 == 0) = false := by rw [beq_eq_false_iff_ne]; exact hne
            clear hne
            have s6c := S6.out.cell
            have s6l := S6.out.lt
            have x6c := X6.out.cell
            have x6l := X6.out.lt
            have r6c := R6.out.cell
            have r6l := R6.out.lt
            have r6f := R6.out.free
            go_wp2_with fail
            have G := setCells_grown (w.heap.size + 1 + 1) [.int .i64 o.next, .slice o.A o.n o.c] 0 w6
            have BB := B6.out.trans (grown_below G B6.out.size (fun k hk => by injection hk with hk; omega))
            refine bodyPost_ret (v := o.v) (results_cell Try.results75 (g := w.heap.size + 1 + 1) rfl (load24 (R6.out.set [.int .i64 o.next, .slice o.A o.n o.c] rfl))) rfl ?_
            exact ⟨o, rfl, HO.out.below BB, .stay _, BB⟩
        have y0 : (d.kind == 0) = false := by rw [beq_eq_false_iff_ne]; exact c0
        by_cases c1 : d.kind = 1
        · have y1 : (d.kind == 1) = true := by rw [beq_iff_eq]; exact c1
          have z1 : decide (d.kind = 1) = true := decide_eq_true c1
          obtain ⟨RV, hRV⟩ : ∃ V, addV o.val d.a.id pid gen d.a.tp d.a.now = V := ⟨_, rfl⟩
          obtain ⟨V1, e1⟩ := RV
          have H1 := Lib.hid hRV
          clear hRV c0 c1
          go_upto_region 19 with (
            go_at_call 31; refine (add_at (HIS.out _ B2.out) FW.out WF.out.tp H1.out).mono ?_; rintro e w5 ⟨q, rfl, ha, hb⟩; have Q5 := Lib.hid ha; have B5 := Lib.hid (below_from hb B2.out B2.out.size); have S5 := Lib.hid (S2.out.past hb); have R5 := Lib.hid (R2.out.past hb); have X5 := Lib.hid (X2.out.past hb); have x5c := X5.out.cell; have x5f := X5.out.free; have x5l := X5.out.lt; clear ha hb s2c s2l a2c a2l x2c x2l)
          have G := setCells_grown wr.heap.size [.int .i64 q.next, .slice q.A q.n q.c] 0 w5
          obtain ⟨w6, hw6⟩ : ∃ W, W = w5.setCells wr.heap.size 0 [.int .i64 q.next, .slice q.A q.n q.c] := ⟨_, rfl⟩
          rw [← hw6] at G
          have X6 := Lib.hid (show Has w6 wr.heap.size #[.int .i64 q.next, .slice q.A q.n q.c] from by rw [hw6]; exact X5.out.set [.int .i64 q.next, .slice q.A q.n q.c] rfl)
          have B6 := Lib.hid (B5.out.trans (grown_below G B5.out.size (fun k hk => by injection hk with hk; have := B1.out.size; omega)))
          have S6 := Lib.hid (S5.out.grown G (by have := R1.out.lt; omega))
          have R6 := Lib.hid (R5.out.grown G (by have := R1.out.lt; omega))
          have Q6 := Lib.hid (Q5.out.beside X5.out (tc_texts _ _ _ _) G)
          rw [show (w5.setCell ⟨wr.heap.size, 0, none⟩ (.int .i64 q.next)).setCell ⟨wr.heap.size, 1, none⟩ (.slice q.A q.n q.c) = w6 from hw6.symm]
          clear hw6 G x5c x5f x5l
          by_cases hne : e1 = 0
          · subst hne
            have s6c := S6.out.cell
            have s6l := S6.out.lt
            have x6c := X6.out.cell
            have x6l := X6.out.lt
            have r6c := R6.out.cell
            have r6l := R6.out.lt
            have r6f := R6.out.free
            go_wp2_with fail
            have G := setCells_grown (w.heap.size + 1 + 1) [.int .i64 q.next, .slice q.A q.n q.c] 0 w6
            have BB := B6.out.trans (grown_below G B6.out.size (fun k hk => by injection hk with hk; omega))
            refine bodyPost_ret (v := q.v) (results_cell Try.results75 (g := w.heap.size + 1 + 1) rfl (load24 (R6.out.set [.int .i64 q.next, .slice q.A q.n q.c] rfl))) rfl ?_
            exact ⟨q, rfl, Q6.out.1.beside R6.out (tc_texts _ _ _ _) G, Step.add (show addV o.val d.a.id pid gen d.a.tp d.a.now = (q.val, 0) from by rw [Q6.out.2]; exact H1.out), BB⟩
          · have n1 : (e1 != 0) = true := by rw [bne_iff_ne]; exact hne
            have n2 : (e1 == 0) = false := by rw [beq_eq_false_iff_ne]; exact hne
            clear hne
            have s6c := S6.out.cell
            have s6l := S6.out.lt
            have x6c := X6.out.cell
            have x6l := X6.out.lt
            have r6c := R6.out.cell
            have r6l := R6.out.lt
            have r6f := R6.out.free
            go_wp2_with fail
            have G := setCells_grown (w.heap.size + 1 + 1) [.int .i64 o.next, .slice o.A o.n o.c] 0 w6
            have BB := B6.out.trans (grown_below G B6.out.size (fun k hk => by injection hk with hk; omega))
            refine bodyPost_ret (v := o.v) (results_cell Try.results75 (g := w.heap.size + 1 + 1) rfl (load24 (R6.out.set [.int .i64 o.next, .slice o.A o.n o.c] rfl))) rfl ?_
            exact ⟨o, rfl, HO.out.below BB, .stay _, BB⟩
        have y1 : (d.kind == 1) = false := by rw [beq_eq_false_iff_ne]; exact c1
        by_cases c2 : d.kind = 2
        · have y2 : (d.kind == 2) = true := by rw [beq_iff_eq]; exact c2
          have z2 : decide (d.kind = 2) = true := decide_eq_true c2
          obtain ⟨RV, hRV⟩ : ∃ V, sendV o.val d.a.id pid gen d.a.g d.a.now = V := ⟨_, rfl⟩
          obtain ⟨V1, e1⟩ := RV
          have H1 := Lib.hid hRV
          clear hRV c0 c1 c2
          go_upto_region 19 with (
            go_at_call 33; refine (send_at (HIS.out _ B2.out) FW.out WF.out.g H1.out).mono ?_; rintro e w5 ⟨q, rfl, ha, hb⟩; have Q5 := Lib.hid ha; have B5 := Lib.hid (below_from hb B2.out B2.out.size); have S5 := Lib.hid (S2.out.past hb); have R5 := Lib.hid (R2.out.past hb); have X5 := Lib.hid (X2.out.past hb); have x5c := X5.out.cell; have x5f := X5.out.free; have x5l := X5.out.lt; clear ha hb s2c s2l a2c a2l x2c x2l)
          have G := setCells_grown wr.heap.size [.int .i64 q.next, .slice q.A q.n q.c] 0 w5
          obtain ⟨w6, hw6⟩ : ∃ W, W = w5.setCells wr.heap.size 0 [.int .i64 q.next, .slice q.A q.n q.c] := ⟨_, rfl⟩
          rw [← hw6] at G
          have X6 := Lib.hid (show Has w6 wr.heap.size #[.int .i64 q.next, .slice q.A q.n q.c] from by rw [hw6]; exact X5.out.set [.int .i64 q.next, .slice q.A q.n q.c] rfl)
          have B6 := Lib.hid (B5.out.trans (grown_below G B5.out.size (fun k hk => by injection hk with hk; have := B1.out.size; omega)))
          have S6 := Lib.hid (S5.out.grown G (by have := R1.out.lt; omega))
          have R6 := Lib.hid (R5.out.grown G (by have := R1.out.lt; omega))
          have Q6 := Lib.hid (Q5.out.beside X5.out (tc_texts _ _ _ _) G)
          rw [show (w5.setCell ⟨wr.heap.size, 0, none⟩ (.int .i64 q.next)).setCell ⟨wr.heap.size, 1, none⟩ (.slice q.A q.n q.c) = w6 from hw6.symm]
          clear hw6 G x5c x5f x5l
          by_cases hne : e1 = 0
          · subst hne
            have s6c := S6.out.cell
            have s6l := S6.out.lt
            have x6c := X6.out.cell
            have x6l := X6.out.lt
            have r6c := R6.out.cell
            have r6l := R6.out.lt
            have r6f := R6.out.free
            go_wp2_with fail
            have G := setCells_grown (w.heap.size + 1 + 1) [.int .i64 q.next, .slice q.A q.n q.c] 0 w6
            have BB := B6.out.trans (grown_below G B6.out.size (fun k hk => by injection hk with hk; omega))
            refine bodyPost_ret (v := q.v) (results_cell Try.results75 (g := w.heap.size + 1 + 1) rfl (load24 (R6.out.set [.int .i64 q.next, .slice q.A q.n q.c] rfl))) rfl ?_
            exact ⟨q, rfl, Q6.out.1.beside R6.out (tc_texts _ _ _ _) G, Step.send (show sendV o.val d.a.id pid gen d.a.g d.a.now = (q.val, 0) from by rw [Q6.out.2]; exact H1.out), BB⟩
          · have n1 : (e1 != 0) = true := by rw [bne_iff_ne]; exact hne
            have n2 : (e1 == 0) = false := by rw [beq_eq_false_iff_ne]; exact hne
            clear hne
            have s6c := S6.out.cell
            have s6l := S6.out.lt
            have x6c := X6.out.cell
            have x6l := X6.out.lt
            have r6c := R6.out.cell
            have r6l := R6.out.lt
            have r6f := R6.out.free
            go_wp2_with fail
            have G := setCells_grown (w.heap.size + 1 + 1) [.int .i64 o.next, .slice o.A o.n o.c] 0 w6
            have BB := B6.out.trans (grown_below G B6.out.size (fun k hk => by injection hk with hk; omega))
            refine bodyPost_ret (v := o.v) (results_cell Try.results75 (g := w.heap.size + 1 + 1) rfl (load24 (R6.out.set [.int .i64 o.next, .slice o.A o.n o.c] rfl))) rfl ?_
            exact ⟨o, rfl, HO.out.below BB, .stay _, BB⟩
        have y2 : (d.kind == 2) = false := by rw [beq_eq_false_iff_ne]; exact c2
        by_cases c3 : d.kind = 3
        · have y3 : (d.kind == 3) = true := by rw [beq_iff_eq]; exact c3
          have z3 : decide (d.kind = 3) = true := decide_eq_true c3
          obtain ⟨RV, hRV⟩ : ∃ V, endV o.val d.a.id pid gen d.a.yes = V := ⟨_, rfl⟩
          obtain ⟨V1, e1⟩ := RV
          have H1 := Lib.hid hRV
          clear hRV c0 c1 c2 c3
          go_upto_region 19 with (
            go_at_call 28; refine (end_at (HIS.out _ B2.out) FW.out H1.out).mono ?_; rintro e w5 ⟨q, rfl, ha, hb⟩; have Q5 := Lib.hid ha; have B5 := Lib.hid (below_from hb B2.out B2.out.size); have S5 := Lib.hid (S2.out.past hb); have R5 := Lib.hid (R2.out.past hb); have X5 := Lib.hid (X2.out.past hb); have x5c := X5.out.cell; have x5f := X5.out.free; have x5l := X5.out.lt; clear ha hb s2c s2l a2c a2l x2c x2l)
          have G := setCells_grown wr.heap.size [.int .i64 q.next, .slice q.A q.n q.c] 0 w5
          obtain ⟨w6, hw6⟩ : ∃ W, W = w5.setCells wr.heap.size 0 [.int .i64 q.next, .slice q.A q.n q.c] := ⟨_, rfl⟩
          rw [← hw6] at G
          have X6 := Lib.hid (show Has w6 wr.heap.size #[.int .i64 q.next, .slice q.A q.n q.c] from by rw [hw6]; exact X5.out.set [.int .i64 q.next, .slice q.A q.n q.c] rfl)
          have B6 := Lib.hid (B5.out.trans (grown_below G B5.out.size (fun k hk => by injection hk with hk; have := B1.out.size; omega)))
          have S6 := Lib.hid (S5.out.grown G (by have := R1.out.lt; omega))
          have R6 := Lib.hid (R5.out.grown G (by have := R1.out.lt; omega))
          have Q6 := Lib.hid (Q5.out.beside X5.out (tc_texts _ _ _ _) G)
          rw [show (w5.setCell ⟨wr.heap.size, 0, none⟩ (.int .i64 q.next)).setCell ⟨wr.heap.size, 1, none⟩ (.slice q.A q.n q.c) = w6 from hw6.symm]
          clear hw6 G x5c x5f x5l
          by_cases hne : e1 = 0
          · subst hne
            have s6c := S6.out.cell
            have s6l := S6.out.lt
            have x6c := X6.out.cell
            have x6l := X6.out.lt
            have r6c := R6.out.cell
            have r6l := R6.out.lt
            have r6f := R6.out.free
            go_wp2_with fail
            have G := setCells_grown (w.heap.size + 1 + 1) [.int .i64 q.next, .slice q.A q.n q.c] 0 w6
            have BB := B6.out.trans (grown_below G B6.out.size (fun k hk => by injection hk with hk; omega))
            refine bodyPost_ret (v := q.v) (results_cell Try.results75 (g := w.heap.size + 1 + 1) rfl (load24 (R6.out.set [.int .i64 q.next, .slice q.A q.n q.c] rfl))) rfl ?_
            exact ⟨q, rfl, Q6.out.1.beside R6.out (tc_texts _ _ _ _) G, Step.fin (show endV o.val d.a.id pid gen d.a.yes = (q.val, 0) from by rw [Q6.out.2]; exact H1.out), BB⟩
          · have n1 : (e1 != 0) = true := by rw [bne_iff_ne]; exact hne
            have n2 : (e1 == 0) = false := by rw [beq_eq_false_iff_ne]; exact hne
            clear hne
            have s6c := S6.out.cell
            have s6l := S6.out.lt
            have x6c := X6.out.cell
            have x6l := X6.out.lt
            have r6c := R6.out.cell
            have r6l := R6.out.lt
            have r6f := R6.out.free
            go_wp2_with fail
            have G := setCells_grown (w.heap.size + 1 + 1) [.int .i64 o.next, .slice o.A o.n o.c] 0 w6
            have BB := B6.out.trans (grown_below G B6.out.size (fun k hk => by injection hk with hk; omega))
            refine bodyPost_ret (v := o.v) (results_cell Try.results75 (g := w.heap.size + 1 + 1) rfl (load24 (R6.out.set [.int .i64 o.next, .slice o.A o.n o.c] rfl))) rfl ?_
            exact ⟨o, rfl, HO.out.below BB, .stay _, BB⟩
        have y3 : (d.kind == 3) = false := by rw [beq_eq_false_iff_ne]; exact c3
        clear c0 c1 c2 c3
        go_upto_region 19 with (fail)
        have w6e : w2 = w2 := rfl
        obtain ⟨w6, hw6⟩ : ∃ W, W = w2 := ⟨_, rfl⟩
        rw [← hw6] at S2 R2 X2 B2 ⊢
        have S6 := S2
        have R6 := R2
        have X6 := X2
        have B6 := B2
        clear hw6 w6e s2c s2l a2c a2l x2c x2l
        have s6c := S6.out.cell
        have s6l := S6.out.lt
        have x6c := X6.out.cell
        have x6l := X6.out.lt
        have r6c := R6.out.cell
        have r6l := R6.out.lt
        have r6f := R6.out.free
        go_wp2_with fail
        have G := setCells_grown (w.heap.size + 1 + 1) [.int .i64 o.next, .slice o.A o.n o.c] 0 w6
        have BB := B6.out.trans (grown_below G B6.out.size (fun k hk => by injection hk with hk; omega))
        refine bodyPost_ret (v := o.v) (results_cell Try.results75 (g := w.heap.size + 1 + 1) rfl (load24 (R6.out.set [.int .i64 o.next, .slice o.A o.n o.c] rfl))) rfl ?_
        exact ⟨o, rfl, HO.out.below BB, .stay _, BB⟩
      · have b1' : decide (k < o.n) = true := by have h := of_decide_eq_true b1; exact decide_eq_true (by omega)
        go_upto_region 8 with (fail)
        go_upto_region 9 with (fail)
        obtain ⟨w2, hw2⟩ : ∃ W, W = wr.alloc (.cells #[.int .i64 o.next, .slice o.A o.n o.c] 24) := ⟨_, rfl⟩
        have hb2 : Below wr.heap.size wr w2 := by rw [hw2]; exact below_alloc1 wr _
        have X2 := Lib.hid (show Has w2 wr.heap.size #[.int .i64 o.next, .slice o.A o.n o.c] from by rw [hw2]; exact Has.newAt wr _ 24 rfl)
        have B2 := Lib.hid (below_from hb2 B1.out B1.out.size)
        have S2 := Lib.hid (S1.out.past hb2)
        have D2 := Lib.hid (D1.out.past hb2)
        have R2 := Lib.hid (R1.out.past hb2)
        have A2 := Lib.hid (A1.out.past hb2)
        rw [← hw2]
        clear hw2 hb2 s1c s1l d1c d1l b1 b1' b2
        have s2c := S2.out.cell
        have s2l := S2.out.lt
        have x2c := X2.out.cell
        have x2l := X2.out.lt
        have a2c := A2.out.cell
        have a2l := A2.out.lt
        have d2c := D2.out.cell
        have d2l := D2.out.lt
        go_upto_region 11 with (fail)
        clear d2c d2l
        by_cases c0 : d.kind = 0
        · have y0 : (d.kind == 0) = true := by rw [beq_iff_eq]; exact c0
          have z0 : decide (d.kind = 0) = true := decide_eq_true c0
          obtain ⟨RV, hRV⟩ : ∃ V, initV o.val d.a.id d.a.now = V := ⟨_, rfl⟩
          obtain ⟨V1, p1, g1, e1⟩ := RV
          have H1 := Lib.hid hRV
          clear hRV c0
          go_upto_region 19 with (
            go_at_call 13; refine (init_at (HIS.out _ B2.out) FW.out WF.out.id H1.out).mono ?_; rintro e w5 ⟨q, rfl, ha, hb⟩; have Q5 := Lib.hid ha; have B5 := Lib.hid (below_from hb B2.out B2.out.size); have S5 := Lib.hid (S2.out.past hb); have R5 := Lib.hid (R2.out.past hb); have X5 := Lib.hid (X2.out.past hb); have x5c := X5.out.cell; have x5f := X5.out.free; have x5l := X5.out.lt; clear ha hb s2c s2l a2c a2l x2c x2l)
          have G := setCells_grown wr.heap.size [.int .i64 q.next, .slice q.A q.n q.c] 0 w5
          obtain ⟨w6, hw6⟩ : ∃ W, W = w5.setCells wr.heap.size 0 [.int .i64 q.next, .slice q.A q.n q.c] := ⟨_, rfl⟩
          rw [← hw6] at G
          have X6 := Lib.hid (show Has w6 wr.heap.size #[.int .i64 q.next, .slice q.A q.n q.c] from by rw [hw6]; exact X5.out.set [.int .i64 q.next, .slice q.A q.n q.c] rfl)
          have B6 := Lib.hid (B5.out.trans (grown_below G B5.out.size (fun k hk => by injection hk with hk; have := B1.out.size; omega)))
          have S6 := Lib.hid (S5.out.grown G (by have := R1.out.lt; omega))
          have R6 := Lib.hid (R5.out.grown G (by have := R1.out.lt; omega))
          have Q6 := Lib.hid (Q5.out.beside X5.out (tc_texts _ _ _ _) G)
          rw [show (w5.setCell ⟨wr.heap.size, 0, none⟩ (.int .i64 q.next)).setCell ⟨wr.heap.size, 1, none⟩ (.slice q.A q.n q.c) = w6 from hw6.symm]
          clear hw6 G x5c x5f x5l
          by_cases hne : e1 = 0
          · subst hne
            have s6c := S6.out.cell
            have s6l := S6.out.lt
            have x6c := X6.out.cell
            have x6l := X6.out.lt
            have r6c := R6.out.cell
            have r6l := R6.out.lt
            have r6f := R6.out.free
            go_wp2_with fail
            have G := setCells_grown (w.heap.size + 1 + 1) [.int .i64 q.next, .slice q.A q.n q.c] 0 w6
            have BB := B6.out.trans (grown_below G B6.out.size (fun k hk => by injection hk with hk; omega))
            refine bodyPost_ret (v := q.v) (results_cell Try.results75 (g := w.heap.size + 1 + 1) rfl (load24 (R6.out.set [.int .i64 q.next, .slice q.A q.n q.c] rfl))) rfl ?_
            exact ⟨q, rfl, Q6.out.1.beside R6.out (tc_texts _ _ _ _) G, Step.init (show initV o.val d.a.id d.a.now = (q.val, p1, g1, 0) from by rw [Q6.out.2]; exact H1.out), BB⟩
          · have n1 : (e1 != 0) = true := by rw [bne_iff_ne]; exact hne
            have n2 : (e1 == 0) = false := by rw [beq_eq_false_iff_ne]; exact hne
            clear hne
            have s6c := S6.out.cell
            have s6l := S6.out.lt
            have x6c := X6.out.cell
            have x6l := X6.out.lt
            have r6c := R6.out.cell
            have r6l := R6.out.lt
            have r6f := R6.out.free
            go_wp2_with fail
            have G := setCells_grown (w.heap.size + 1 + 1) [.int .i64 o.next, .slice o.A o.n o.c] 0 w6
            have BB := B6.out.trans (grown_below G B6.out.size (fun k hk => by injection hk with hk; omega))
            refine bodyPost_ret (v := o.v) (results_cell Try.results75 (g := w.heap.size + 1 + 1) rfl (load24 (R6.out.set [.int .i64 o.next, .slice o.A o.n o.c] rfl))) rfl ?_
            exact ⟨o, rfl, HO.out.below BB, .stay _, BB⟩
        have y0 : (d.kind == 0) = false := by rw [beq_eq_false_iff_ne]; exact c0
        by_cases c1 : d.kind = 1
        · have y1 : (d.kind == 1) = true := by rw [beq_iff_eq]; exact c1
          have z1 : decide (d.kind = 1) = true := decide_eq_true c1
          obtain ⟨RV, hRV⟩ : ∃ V, addV o.val d.a.id pid gen d.a.tp d.a.now = V := ⟨_, rfl⟩
          obtain ⟨V1, e1⟩ := RV
          have H1 := Lib.hid hRV
          clear hRV c0 c1
          go_upto_region 19 with (
            go_at_call 31; refine (add_at (HIS.out _ B2.out) FW.out WF.out.tp H1.out).mono ?_; rintro e w5 ⟨q, rfl, ha, hb⟩; have Q5 := Lib.hid ha; have B5 := Lib.hid (below_from hb B2.out B2.out.size); have S5 := Lib.hid (S2.out.past hb); have R5 := Lib.hid (R2.out.past hb); have X5 := Lib.hid (X2.out.past hb); have x5c := X5.out.cell; have x5f := X5.out.free; have x5l := X5.out.lt; clear ha hb s2c s2l a2c a2l x2c x2l)
          have G := setCells_grown wr.heap.size [.int .i64 q.next, .slice q.A q.n q.c] 0 w5
          obtain ⟨w6, hw6⟩ : ∃ W, W = w5.setCells wr.heap.size 0 [.int .i64 q.next, .slice q.A q.n q.c] := ⟨_, rfl⟩
          rw [← hw6] at G
          have X6 := Lib.hid (show Has w6 wr.heap.size #[.int .i64 q.next, .slice q.A q.n q.c] from by rw [hw6]; exact X5.out.set [.int .i64 q.next, .slice q.A q.n q.c] rfl)
          have B6 := Lib.hid (B5.out.trans (grown_below G B5.out.size (fun k hk => by injection hk with hk; have := B1.out.size; omega)))
          have S6 := Lib.hid (S5.out.grown G (by have := R1.out.lt; omega))
          have R6 := Lib.hid (R5.out.grown G (by have := R1.out.lt; omega))
          have Q6 := Lib.hid (Q5.out.beside X5.out (tc_texts _ _ _ _) G)
          rw [show (w5.setCell ⟨wr.heap.size, 0, none⟩ (.int .i64 q.next)).setCell ⟨wr.heap.size, 1, none⟩ (.slice q.A q.n q.c) = w6 from hw6.symm]
          clear hw6 G x5c x5f x5l
          by_cases hne : e1 = 0
          · subst hne
            have s6c := S6.out.cell
            have s6l := S6.out.lt
            have x6c := X6.out.cell
            have x6l := X6.out.lt
            have r6c := R6.out.cell
            have r6l := R6.out.lt
            have r6f := R6.out.free
            go_wp2_with fail
            have G := setCells_grown (w.heap.size + 1 + 1) [.int .i64 q.next, .slice q.A q.n q.c] 0 w6
            have BB := B6.out.trans (grown_below G B6.out.size (fun k hk => by injection hk with hk; omega))
            refine bodyPost_ret (v := q.v) (results_cell Try.results75 (g := w.heap.size + 1 + 1) rfl (load24 (R6.out.set [.int .i64 q.next, .slice q.A q.n q.c] rfl))) rfl ?_
            exact ⟨q, rfl, Q6.out.1.beside R6.out (tc_texts _ _ _ _) G, Step.add (show addV o.val d.a.id pid gen d.a.tp d.a.now = (q.val, 0) from by rw [Q6.out.2]; exact H1.out), BB⟩
          · have n1 : (e1 != 0) = true := by rw [bne_iff_ne]; exact hne
            have n2 : (e1 == 0) = false := by rw [beq_eq_false_iff_ne]; exact hne
            clear hne
            have s6c := S6.out.cell
            have s6l := S6.out.lt
            have x6c := X6.out.cell
            have x6l := X6.out.lt
            have r6c := R6.out.cell
            have r6l := R6.out.lt
            have r6f := R6.out.free
            go_wp2_with fail
            have G := setCells_grown (w.heap.size + 1 + 1) [.int .i64 o.next, .slice o.A o.n o.c] 0 w6
            have BB := B6.out.trans (grown_below G B6.out.size (fun k hk => by injection hk with hk; omega))
            refine bodyPost_ret (v := o.v) (results_cell Try.results75 (g := w.heap.size + 1 + 1) rfl (load24 (R6.out.set [.int .i64 o.next, .slice o.A o.n o.c] rfl))) rfl ?_
            exact ⟨o, rfl, HO.out.below BB, .stay _, BB⟩
        have y1 : (d.kind == 1) = false := by rw [beq_eq_false_iff_ne]; exact c1
        by_cases c2 : d.kind = 2
        · have y2 : (d.kind == 2) = true := by rw [beq_iff_eq]; exact c2
          have z2 : decide (d.kind = 2) = true := decide_eq_true c2
          obtain ⟨RV, hRV⟩ : ∃ V, sendV o.val d.a.id pid gen d.a.g d.a.now = V := ⟨_, rfl⟩
          obtain ⟨V1, e1⟩ := RV
          have H1 := Lib.hid hRV
          clear hRV c0 c1 c2
          go_upto_region 19 with (
            go_at_call 33; refine (send_at (HIS.out _ B2.out) FW.out WF.out.g H1.out).mono ?_; rintro e w5 ⟨q, rfl, ha, hb⟩; have Q5 := Lib.hid ha; have B5 := Lib.hid (below_from hb B2.out B2.out.size); have S5 := Lib.hid (S2.out.past hb); have R5 := Lib.hid (R2.out.past hb); have X5 := Lib.hid (X2.out.past hb); have x5c := X5.out.cell; have x5f := X5.out.free; have x5l := X5.out.lt; clear ha hb s2c s2l a2c a2l x2c x2l)
          have G := setCells_grown wr.heap.size [.int .i64 q.next, .slice q.A q.n q.c] 0 w5
          obtain ⟨w6, hw6⟩ : ∃ W, W = w5.setCells wr.heap.size 0 [.int .i64 q.next, .slice q.A q.n q.c] := ⟨_, rfl⟩
          rw [← hw6] at G
          have X6 := Lib.hid (show Has w6 wr.heap.size #[.int .i64 q.next, .slice q.A q.n q.c] from by rw [hw6]; exact X5.out.set [.int .i64 q.next, .slice q.A q.n q.c] rfl)
          have B6 := Lib.hid (B5.out.trans (grown_below G B5.out.size (fun k hk => by injection hk with hk; have := B1.out.size; omega)))
          have S6 := Lib.hid (S5.out.grown G (by have := R1.out.lt; omega))
          have R6 := Lib.hid (R5.out.grown G (by have := R1.out.lt; omega))
          have Q6 := Lib.hid (Q5.out.beside X5.out (tc_texts _ _ _ _) G)
          rw [show (w5.setCell ⟨wr.heap.size, 0, none⟩ (.int .i64 q.next)).setCell ⟨wr.heap.size, 1, none⟩ (.slice q.A q.n q.c) = w6 from hw6.symm]
          clear hw6 G x5c x5f x5l
          by_cases hne : e1 = 0
          · subst hne
            have s6c := S6.out.cell
            have s6l := S6.out.lt
            have x6c := X6.out.cell
            have x6l := X6.out.lt
            have r6c := R6.out.cell
            have r6l := R6.out.lt
            have r6f := R6.out.free
            go_wp2_with fail
            have G := setCells_grown (w.heap.size + 1 + 1) [.int .i64 q.next, .slice q.A q.n q.c] 0 w6
            have BB := B6.out.trans (grown_below G B6.out.size (fun k hk => by injection hk with hk; omega))
            refine bodyPost_ret (v := q.v) (results_cell Try.results75 (g := w.heap.size + 1 + 1) rfl (load24 (R6.out.set [.int .i64 q.next, .slice q.A q.n q.c] rfl))) rfl ?_
            exact ⟨q, rfl, Q6.out.1.beside R6.out (tc_texts _ _ _ _) G, Step.send (show sendV o.val d.a.id pid gen d.a.g d.a.now = (q.val, 0) from by rw [Q6.out.2]; exact H1.out), BB⟩
          · have n1 : (e1 != 0) = true := by rw [bne_iff_ne]; exact hne
            have n2 : (e1 == 0) = false := by rw [beq_eq_false_iff_ne]; exact hne
            clear hne
            have s6c := S6.out.cell
            have s6l := S6.out.lt
            have x6c := X6.out.cell
            have x6l := X6.out.lt
            have r6c := R6.out.cell
            have r6l := R6.out.lt
            have r6f := R6.out.free
            go_wp2_with fail
            have G := setCells_grown (w.heap.size + 1 + 1) [.int .i64 o.next, .slice o.A o.n o.c] 0 w6
            have BB := B6.out.trans (grown_below G B6.out.size (fun k hk => by injection hk with hk; omega))
            refine bodyPost_ret (v := o.v) (results_cell Try.results75 (g := w.heap.size + 1 + 1) rfl (load24 (R6.out.set [.int .i64 o.next, .slice o.A o.n o.c] rfl))) rfl ?_
            exact ⟨o, rfl, HO.out.below BB, .stay _, BB⟩
        have y2 : (d.kind == 2) = false := by rw [beq_eq_false_iff_ne]; exact c2
        by_cases c3 : d.kind = 3
        · have y3 : (d.kind == 3) = true := by rw [beq_iff_eq]; exact c3
          have z3 : decide (d.kind = 3) = true := decide_eq_true c3
          obtain ⟨RV, hRV⟩ : ∃ V, endV o.val d.a.id pid gen d.a.yes = V := ⟨_, rfl⟩
          obtain ⟨V1, e1⟩ := RV
          have H1 := Lib.hid hRV
          clear hRV c0 c1 c2 c3
          go_upto_region 19 with (
            go_at_call 28; refine (end_at (HIS.out _ B2.out) FW.out H1.out).mono ?_; rintro e w5 ⟨q, rfl, ha, hb⟩; have Q5 := Lib.hid ha; have B5 := Lib.hid (below_from hb B2.out B2.out.size); have S5 := Lib.hid (S2.out.past hb); have R5 := Lib.hid (R2.out.past hb); have X5 := Lib.hid (X2.out.past hb); have x5c := X5.out.cell; have x5f := X5.out.free; have x5l := X5.out.lt; clear ha hb s2c s2l a2c a2l x2c x2l)
          have G := setCells_grown wr.heap.size [.int .i64 q.next, .slice q.A q.n q.c] 0 w5
          obtain ⟨w6, hw6⟩ : ∃ W, W = w5.setCells wr.heap.size 0 [.int .i64 q.next, .slice q.A q.n q.c] := ⟨_, rfl⟩
          rw [← hw6] at G
          have X6 := Lib.hid (show Has w6 wr.heap.size #[.int .i64 q.next, .slice q.A q.n q.c] from by rw [hw6]; exact X5.out.set [.int .i64 q.next, .slice q.A q.n q.c] rfl)
          have B6 := Lib.hid (B5.out.trans (grown_below G B5.out.size (fun k hk => by injection hk with hk; have := B1.out.size; omega)))
          have S6 := Lib.hid (S5.out.grown G (by have := R1.out.lt; omega))
          have R6 := Lib.hid (R5.out.grown G (by have := R1.out.lt; omega))
          have Q6 := Lib.hid (Q5.out.beside X5.out (tc_texts _ _ _ _) G)
          rw [show (w5.setCell ⟨wr.heap.size, 0, none⟩ (.int .i64 q.next)).setCell ⟨wr.heap.size, 1, none⟩ (.slice q.A q.n q.c) = w6 from hw6.symm]
          clear hw6 G x5c x5f x5l
          by_cases hne : e1 = 0
          · subst hne
            have s6c := S6.out.cell
            have s6l := S6.out.lt
            have x6c := X6.out.cell
            have x6l := X6.out.lt
            have r6c := R6.out.cell
            have r6l := R6.out.lt
            have r6f := R6.out.free
            go_wp2_with fail
            have G := setCells_grown (w.heap.size + 1 + 1) [.int .i64 q.next, .slice q.A q.n q.c] 0 w6
            have BB := B6.out.trans (grown_below G B6.out.size (fun k hk => by injection hk with hk; omega))
            refine bodyPost_ret (v := q.v) (results_cell Try.results75 (g := w.heap.size + 1 + 1) rfl (load24 (R6.out.set [.int .i64 q.next, .slice q.A q.n q.c] rfl))) rfl ?_
            exact ⟨q, rfl, Q6.out.1.beside R6.out (tc_texts _ _ _ _) G, Step.fin (show endV o.val d.a.id pid gen d.a.yes = (q.val, 0) from by rw [Q6.out.2]; exact H1.out), BB⟩
          · have n1 : (e1 != 0) = true := by rw [bne_iff_ne]; exact hne
            have n2 : (e1 == 0) = false := by rw [beq_eq_false_iff_ne]; exact hne
            clear hne
            have s6c := S6.out.cell
            have s6l := S6.out.lt
            have x6c := X6.out.cell
            have x6l := X6.out.lt
            have r6c := R6.out.cell
            have r6l := R6.out.lt
            have r6f := R6.out.free
            go_wp2_with fail
            have G := setCells_grown (w.heap.size + 1 + 1) [.int .i64 o.next, .slice o.A o.n o.c] 0 w6
            have BB := B6.out.trans (grown_below G B6.out.size (fun k hk => by injection hk with hk; omega))
            refine bodyPost_ret (v := o.v) (results_cell Try.results75 (g := w.heap.size + 1 + 1) rfl (load24 (R6.out.set [.int .i64 o.next, .slice o.A o.n o.c] rfl))) rfl ?_
            exact ⟨o, rfl, HO.out.below BB, .stay _, BB⟩
        have y3 : (d.kind == 3) = false := by rw [beq_eq_false_iff_ne]; exact c3
        clear c0 c1 c2 c3
        go_upto_region 19 with (fail)
        have w6e : w2 = w2 := rfl
        obtain ⟨w6, hw6⟩ : ∃ W, W = w2 := ⟨_, rfl⟩
        rw [← hw6] at S2 R2 X2 B2 ⊢
        have S6 := S2
        have R6 := R2
        have X6 := X2
        have B6 := B2
        clear hw6 w6e s2c s2l a2c a2l x2c x2l
        have s6c := S6.out.cell
        have s6l := S6.out.lt
        have x6c := X6.out.cell
        have x6l := X6.out.lt
        have r6c := R6.out.cell
        have r6l := R6.out.lt
        have r6f := R6.out.free
        go_wp2_with fail
        have G := setCells_grown (w.heap.size + 1 + 1) [.int .i64 o.next, .slice o.A o.n o.c] 0 w6
        have BB := B6.out.trans (grown_below G B6.out.size (fun k hk => by injection hk with hk; omega))
        refine bodyPost_ret (v := o.v) (results_cell Try.results75 (g := w.heap.size + 1 + 1) rfl (load24 (R6.out.set [.int .i64 o.next, .slice o.A o.n o.c] rfl))) rfl ?_
        exact ⟨o, rfl, HO.out.below BB, .stay _, BB⟩

end Go.Proofs.Ytnigjchgpmladaa
