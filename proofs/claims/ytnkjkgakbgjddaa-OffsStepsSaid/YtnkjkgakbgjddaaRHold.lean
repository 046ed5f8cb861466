/- The document's Hold. -/
import Derived.Test.YtnkjkgakbgjddaaRPutO
namespace Go.Proofs.Ytnkjkgakbgjddaa
open Go.RowKit

set_option maxRecDepth 100000 in
set_option maxHeartbeats 16000000 in
theorem rholdO_any (o : Of) (v : Wt) (w : World) (ho : Of.At w o) (hv : v.wf) : Calls Try.prog 17 #[o.v, .int .i64 v.pid, v.pos.v] w (ChRes o (holdV o.L o.M v.pid v.pos) w) := by
  obtain ⟨A, n, c, L, A', n', c', M⟩ := o
  obtain ⟨W0, hW0⟩ : ∃ W0, W0 = ((w.alloc (.cells #[.slice A n c, .slice A' n' c'] 25)).alloc (.cells #[.string v.pos.g, .string v.pos.t, .int .i64 v.pos.p, .int .i64 v.pos.h, .int .i64 v.pos.o] 29)).alloc (.cells #[.slice none 0 0, .slice none 0 0] 25) := ⟨_, rfl⟩
  have B0 := Lib.hid (show Below w.heap.size w W0 from by rw [hW0]; exact (((below_alloc1 w _).alloc (by simp) _).alloc (by simp <;> omega) _))
  have S0 := Lib.hid (show Has W0 w.heap.size #[.slice A n c, .slice A' n' c'] from by rw [hW0]; exact (((Has.newAt w _ 25 rfl).alloc _).alloc _))
  have P0 := Lib.hid (show Has W0 (w.heap.size + 1) #[.string v.pos.g, .string v.pos.t, .int .i64 v.pos.p, .int .i64 v.pos.h, .int .i64 v.pos.o] from by rw [hW0]; exact ((Has.newAt _ _ 29 (by simp)).alloc _))
  have R0 := Lib.hid (show Has W0 (w.heap.size + 1 + 1) #[.slice none 0 0, .slice none 0 0] from by rw [hW0]; exact (Has.newAt _ _ 25 (by simp)))
  have z0 := Lib.hid (show w.heap.size + 3 ≤ W0.heap.size from by rw [hW0]; exact Nat.le_of_eq (by simp))
  have CK := Lib.hid (fun W (h : Below w.heap.size w W) => rcheck_any ⟨A, n, c, L, A', n', c', M⟩ W (ho.below h))
  have RT := Lib.hid (fun W => rpos_any v.pos W hv.2.1 hv.2.2.1)
  have HO := Lib.hid ho
  have HO' := HO
  have HM := Lib.hid (show Sl wtK w A' n' c' M from ho.2)
  have HX := Lib.hid hv
  obtain ⟨i0, hi, hz0, hz1, hz2⟩ := info_parts inf52
  have s0c := S0.out.cell
  have s0l := S0.out.lt
  have s0f := S0.out.free
  have p0c := P0.out.cell
  have p0l := P0.out.lt
  have p0f := P0.out.free
  have r0c := R0.out.cell
  have r0l := R0.out.lt
  have r0f := R0.out.free
  have HW0 := Lib.hid hW0
  have m1 : c ≤ _ := ho.1.max
  have m2 : n ≤ c := ho.1.cap
  have m3 : c' ≤ _ := ho.2.max
  have m4 : n' ≤ c' := ho.2.cap
  clear hW0
  obtain ⟨k, hk⟩ : ∃ k, checkV L M = k := ⟨_, rfl⟩
  obtain ⟨r, hr⟩ : ∃ r, rightP v.pos = r := ⟨_, rfl⟩
  obtain ⟨V, hV⟩ : ∃ V, holdV L M v.pid v.pos = V := ⟨_, rfl⟩
  show Calls Try.prog 17 _ w (ChRes ⟨A, n, c, L, A', n', c', M⟩ (holdV L M v.pid v.pos) w)
  rw [hV]
  simp only [hk] at CK
  rw [hr] at RT
  have hV2 : chV L M (rightW v) L (insC ordW v M) = V := hV
  unfold Ps.v at RT
  unfold Ps.v
  by_cases h0 : k = 0
  · subst h0
    have BADV : rightW v = false → V = ([], [], 1) := fun h => by rw [← hV2]; unfold chV; rw [if_pos hk, h, if_neg (by decide)]
    by_cases p1 : v.pid < 0
    · have e1 : decide (v.pid < 0) = true := decide_eq_true p1
      have HR := Lib.hid (BADV (by unfold rightW; rw [decide_eq_false (by omega)]; rfl))
      clear p1 BADV hV2
      clear hk hV hr ho hv
      go_enter Try.func17, Try.ntmps17
      go_wp2_with fail
      rw [← HW0.out]
      obtain ⟨ov, hov⟩ : ∃ x, Of.v ⟨A, n, c, L, A', n', c', M⟩ = x := ⟨_, rfl⟩
      rw [hov]
      clear hov
      go_wp2_with (first
        | (go_at_call 21
           refine (CK.out _ B0.out).mono ?_
           rintro e w1 ⟨rfl, hb⟩
           have B1 := Lib.hid (below_from hb B0.out B0.out.size)
           have z1 := Lib.hid (Nat.le_trans z0.out hb.size)
           have S1 := Lib.hid (S0.out.past hb)
           have s1c := S1.out.cell
           have s1l := S1.out.lt
           have s1f := S1.out.free
           have P1 := Lib.hid (P0.out.past hb)
           have p1c := P1.out.cell
           have p1l := P1.out.lt
           have p1f := P1.out.free
           have R1 := Lib.hid (R0.out.past hb)
           have r1c := R1.out.cell
           have r1l := R1.out.lt
           have r1f := R1.out.free
           clear s0c s0l s0f
           clear p0c p0l p0f
           clear r0c r0l r0f

           clear hb))
      refine bodyPost_ret (v := .tuple #[ofV none 0 0 none 0 0, .int .i64 1]) (by simp [results, Try.results17, go_sem, r1c]) rfl ?_
      exact chRes_no HR.out (B1.out.trans (grown_below (setCells_grown (w.heap.size + 1 + 1) [.slice none 0 0, .slice none 0 0] 0 w1) B1.out.size (fun k hk => by injection hk with hk; omega)))
    · by_cases p2 : 1099511627776 < v.pid
      · have e1 : decide (v.pid < 0) = false := decide_eq_false p1
        have e2 : decide (1099511627776 < v.pid) = true := decide_eq_true p2
        have HR := Lib.hid (BADV (by unfold rightW; rw [decide_eq_false (by omega)]; rfl))
        clear p1 p2 BADV hV2
        clear hk hV hr ho hv
        go_enter Try.func17, Try.ntmps17
        go_wp2_with fail
        rw [← HW0.out]
        obtain ⟨ov, hov⟩ : ∃ x, Of.v ⟨A, n, c, L, A', n', c', M⟩ = x := ⟨_, rfl⟩
        rw [hov]
        clear hov
        go_wp2_with (first
          | (go_at_call 21
             refine (CK.out _ B0.out).mono ?_
             rintro e w1 ⟨rfl, hb⟩
             have B1 := Lib.hid (below_from hb B0.out B0.out.size)
             have z1 := Lib.hid (Nat.le_trans z0.out hb.size)
             have S1 := Lib.hid (S0.out.past hb)
             have s1c := S1.out.cell
             have s1l := S1.out.lt
             have s1f := S1.out.free
             have P1 := Lib.hid (P0.out.past hb)
             have p1c := P1.out.cell
             have p1l := P1.out.lt
             have p1f := P1.out.free
             have R1 := Lib.hid (R0.out.past hb)
             have r1c := R1.out.cell
             have r1l := R1.out.lt
             have r1f := R1.out.free
             clear s0c s0l s0f
             clear p0c p0l p0f
             clear r0c r0l r0f

             clear hb))
        refine bodyPost_ret (v := .tuple #[ofV none 0 0 none 0 0, .int .i64 1]) (by simp [results, Try.results17, go_sem, r1c]) rfl ?_
        exact chRes_no HR.out (B1.out.trans (grown_below (setCells_grown (w.heap.size + 1 + 1) [.slice none 0 0, .slice none 0 0] 0 w1) B1.out.size (fun k hk => by injection hk with hk; omega)))
      · have e1 : decide (v.pid < 0) = false := decide_eq_false p1
        have e2 : decide (1099511627776 < v.pid) = false := decide_eq_false p2
        have RE : rightW v = rightP v.pos := by unfold rightW; rw [decide_eq_true (show 0 ≤ v.pid ∧ v.pid ≤ 1099511627776 by omega)]; rfl
        cases r with
        | false =>
          have HR := Lib.hid (BADV (by rw [RE, hr]))
          clear p1 p2 BADV hV2 RE
          clear hk hV hr ho hv
          go_enter Try.func17, Try.ntmps17
          go_wp2_with fail
          rw [← HW0.out]
          obtain ⟨ov, hov⟩ : ∃ x, Of.v ⟨A, n, c, L, A', n', c', M⟩ = x := ⟨_, rfl⟩
          rw [hov]
          clear hov
          go_wp2_with (first
            | (go_at_call 21
               refine (CK.out _ B0.out).mono ?_
               rintro e w1 ⟨rfl, hb⟩
               have B1 := Lib.hid (below_from hb B0.out B0.out.size)
               have z1 := Lib.hid (Nat.le_trans z0.out hb.size)
               have S1 := Lib.hid (S0.out.past hb)
               have s1c := S1.out.cell
               have s1l := S1.out.lt
               have s1f := S1.out.free
               have P1 := Lib.hid (P0.out.past hb)
               have p1c := P1.out.cell
               have p1l := P1.out.lt
               have p1f := P1.out.free
               have R1 := Lib.hid (R0.out.past hb)
               have r1c := R1.out.cell
               have r1l := R1.out.lt
               have r1f := R1.out.free
               clear s0c s0l s0f
               clear p0c p0l p0f
               clear r0c r0l r0f

               clear hb)
            | (go_at_call 39
               refine (RT.out _).mono ?_
               rintro e w2 ⟨rfl, hb⟩
               have B2 := Lib.hid (below_from hb B1.out B1.out.size)
               have z2 := Lib.hid (Nat.le_trans z1.out hb.size)
               have S2 := Lib.hid (S1.out.past hb)
               have s2c := S2.out.cell
               have s2l := S2.out.lt
               have s2f := S2.out.free
               have P2 := Lib.hid (P1.out.past hb)
               have p2c := P2.out.cell
               have p2l := P2.out.lt
               have p2f := P2.out.free
               have R2 := Lib.hid (R1.out.past hb)
               have r2c := R2.out.cell
               have r2l := R2.out.lt
               have r2f := R2.out.free
               clear s1c s1l s1f
               clear p1c p1l p1f
               clear r1c r1l r1f

               clear hb))
          refine bodyPost_ret (v := .tuple #[ofV none 0 0 none 0 0, .int .i64 1]) (by simp [results, Try.results17, go_sem, r2c]) rfl ?_
          exact chRes_no HR.out (B2.out.trans (grown_below (setCells_grown (w.heap.size + 1 + 1) [.slice none 0 0, .slice none 0 0] 0 w2) B2.out.size (fun k hk => by injection hk with hk; omega)))
        | true =>
          have HV := Lib.hid (show V = capV L (insC ordW v M) from by rw [← hV2]; unfold chV; rw [if_pos hk, if_pos (by rw [RE, hr])])
          have CL := check_ok hk
          have LL := Lib.hid (show ¬ 4096 < L.length from fun h => by omega)
          have hn' : n' ≤ 4096 := by have : M.length = n' := ho.2.len; omega
          have HU := Lib.hid (check_upM hk)
          clear p1 p2 BADV hV2 RE hk hV hr ho hv CL
          go_enter Try.func17, Try.ntmps17
          go_wp2_with fail
          rw [← HW0.out]
          obtain ⟨ov, hov⟩ : ∃ x, Of.v ⟨A, n, c, L, A', n', c', M⟩ = x := ⟨_, rfl⟩
          rw [hov]
          clear hov
          go_wp2_with (first
            | (go_at_call 21
               refine (CK.out _ B0.out).mono ?_
               rintro e w1 ⟨rfl, hb⟩
               have B1 := Lib.hid (below_from hb B0.out B0.out.size)
               have z1 := Lib.hid (Nat.le_trans z0.out hb.size)
               have S1 := Lib.hid (S0.out.past hb)
               have s1c := S1.out.cell
               have s1l := S1.out.lt
               have s1f := S1.out.free
               have P1 := Lib.hid (P0.out.past hb)
               have p1c := P1.out.cell
               have p1l := P1.out.lt
               have p1f := P1.out.free
               have R1 := Lib.hid (R0.out.past hb)
               have r1c := R1.out.cell
               have r1l := R1.out.lt
               have r1f := R1.out.free
               clear s0c s0l s0f
               clear p0c p0l p0f
               clear r0c r0l r0f

               clear hb)
            | (go_at_call 39
               refine (RT.out _).mono ?_
               rintro e w2 ⟨rfl, hb⟩
               have B2 := Lib.hid (below_from hb B1.out B1.out.size)
               have z2 := Lib.hid (Nat.le_trans z1.out hb.size)
               have S2 := Lib.hid (S1.out.past hb)
               have s2c := S2.out.cell
               have s2l := S2.out.lt
               have s2f := S2.out.free
               have P2 := Lib.hid (P1.out.past hb)
               have p2c := P2.out.cell
               have p2l := P2.out.lt
               have p2f := P2.out.free
               have R2 := Lib.hid (R1.out.past hb)
               have r2c := R2.out.cell
               have r2l := R2.out.lt
               have r2f := R2.out.free
               clear s1c s1l s1f
               clear p1c p1l p1f
               clear r1c r1l r1f
               obtain ⟨W3, hW3⟩ : ∃ W3, W3 = w2.alloc (.cells #[.int .i64 v.pid, .string v.pos.g, .string v.pos.t, .int .i64 v.pos.p, .int .i64 v.pos.h, .int .i64 v.pos.o] 52) := ⟨_, rfl⟩
               have B3 := Lib.hid (show Below w.heap.size w W3 from by rw [hW3]; exact B2.out.alloc B2.out.size _)
               have S3 := Lib.hid (show Has W3 w.heap.size #[.slice A n c, .slice A' n' c'] from by rw [hW3]; exact S2.out.alloc _)
               have R3 := Lib.hid (show Has W3 (w.heap.size + 1 + 1) #[.slice none 0 0, .slice none 0 0] from by rw [hW3]; exact R2.out.alloc _)
               have X3 := Lib.hid (show Has W3 w2.heap.size #[.int .i64 v.pid, .string v.pos.g, .string v.pos.t, .int .i64 v.pos.p, .int .i64 v.pos.h, .int .i64 v.pos.o] from by rw [hW3]; exact Has.newAt _ _ 52 rfl)
               have zz3 := Lib.hid (show w.heap.size + 3 ≤ W3.heap.size from by rw [hW3]; exact Nat.le_trans z2.out (below_alloc1 _ _).size)
               have HW3 := Lib.hid hW3
               clear hW3
               clear hb))
          rw [← HW3.out]
          clear s2c s2l s2f p2c p2l p2f r2c r2l r2f
          have LN := Lib.hid (show M.length = n' from HM.out.len)
          go_loopg [10] n' (fun gg s5 wr => ∃ k : Nat, k ≤ n' ∧ n' - k ≤ gg ∧ s5 = .int .i64 k ∧ Hid (Below W3.heap.size W3 wr) ∧ Hid (∀ j (h : j < M.length), j < k → ordW M[j] v < 0))
          case atStart => exact ⟨0, Nat.zero_le _, by omega, rfl, Lib.hid (Below.refl _ _), Lib.hid (fun i _ hi => absurd hi (Nat.not_lt_zero _))⟩
          case round =>
            obtain ⟨k, hk, hgg, rfl, hb, hok⟩ := hrel
            have BW := Lib.hid (B3.out.trans (hb.out.mono B3.out.size))
            by_cases hlt : k < n'
            · obtain ⟨bb, off, hkl, hA, hbl, u0, u1, u2, u3, u4, u5⟩ := Wts.at_ (HM.out.below BW.out) hlt
              subst hA
              obtain ⟨x, hx⟩ : ∃ x, M[k] = x := ⟨_, rfl⟩
              rw [hx] at u0 u1 u2 u3 u4 u5
              have k0 : (0 : Int) ≤ (k : Int) := by omega
              have k1 : (k : Int) < (n' : Int) := by omega
              have dk : decide ((k : Int) < (n' : Int)) = true := decide_eq_true k1
              have dk' : decide (k < n') = true := decide_eq_true hlt
              obtain ⟨q, hq⟩ : ∃ q, decide (ordW x v < 0) = q := ⟨_, rfl⟩
              have OD := Lib.hid (fun W' (_ : Below wr.heap.size wr W') => rlessW_any x v W')
              rw [hq] at OD
              obtain ⟨q2, hq2⟩ : ∃ q, decide (ordW v x < 0) = q := ⟨_, rfl⟩
              unfold Wt.v at OD
              have rs := at_regrown ((S3.out.past (hb.out)).cell 1)
              have rsl := (S3.out.past (hb.out)).lt
              have rxl := (X3.out.past (hb.out)).lt
              have rv0 := at_regrown ((X3.out.past (hb.out)).cell 0)
              have rv1 := at_regrown ((X3.out.past (hb.out)).cell 1)
              have rv2 := at_regrown ((X3.out.past (hb.out)).cell 2)
              have rv3 := at_regrown ((X3.out.past (hb.out)).cell 3)
              have rv4 := at_regrown ((X3.out.past (hb.out)).cell 4)
              have rv5 := at_regrown ((X3.out.past (hb.out)).cell 5)
              have rx0 := at_regrown u0
              have rx1 := at_regrown u1
              have rx2 := at_regrown u2
              have rx3 := at_regrown u3
              have rx4 := at_regrown u4
              have rx5 := at_regrown u5
              cases q with
              | true =>
                have YS := Lib.hid (show ∀ j (h : j < M.length), j < k + 1 → ordW M[j] v < 0 from fun j hj hjk => by
                  rcases Nat.lt_or_ge j k with h' | h'
                  · exact hok.out j hj h'
                  · obtain rfl : j = k := by omega
                    rw [hx]; exact of_decide_eq_true hq)
                clear hq hq2 hx
                go_wp2_with fail
                refine region_below (by kernel_rfl) (by kernel_rfl) ?_
                repeat (go_big_quiet_step (first | exact call_regrown OD.out | exact call_regrown OE.out))
                refine wpQuiet_nil ?_
                intro wz hbz
                have BZ := Lib.hid (below_from hbz hb.out hb.out.size)
                clear hbz
                go_wp2_with fail
                go_roundg (n' - (k + 1))
                case measure => omega
                case rel => exact ⟨k + 1, by omega, by omega, by go_num, BZ, YS⟩
              | false =>
                have SR := Lib.hid (show SrchG (fun y => ordW y v) M k (!q2) from srch_of lawW HU.out (by omega) hok.out (fun h => by rw [hx]; exact of_decide_eq_false hq) _ (by
                  rw [← hq2]
                  simp only [Bool.not_eq_true', decide_eq_false_iff_not]
                  exact ⟨fun h => ⟨hkl, by rw [hx]; exact h⟩, fun ⟨_, h⟩ => by rw [hx] at h; exact h⟩))
                clear hq hx
                go_wp2_with fail
                refine region_below (by kernel_rfl) (by kernel_rfl) ?_
                repeat (go_big_quiet_step (first | exact call_regrown OD.out | exact call_regrown OE.out))
                refine wpQuiet_nil ?_
                intro wz hbz
                have WB := Lib.hid hbz
                clear hbz
                have OE := Lib.hid (fun W' (_ : Below wz.heap.size wz W') => rlessW_any v x W')
                rw [hq2] at OE
                unfold Wt.v at OE
                clear hq2 OD
                clear rs rsl rxl rv0 rv1 rv2 rv3 rv4 rv5
                clear rx0 rx1 rx2 rx3 rx4 rx5
                have rs := at_regrown ((S3.out.past (Below.trans hb.out (WB.out.mono hb.out.size))).cell 1)
                have rsl := (S3.out.past (Below.trans hb.out (WB.out.mono hb.out.size))).lt
                have rxl := (X3.out.past (Below.trans hb.out (WB.out.mono hb.out.size))).lt
                have rv0 := at_regrown ((X3.out.past (Below.trans hb.out (WB.out.mono hb.out.size))).cell 0)
                have rv1 := at_regrown ((X3.out.past (Below.trans hb.out (WB.out.mono hb.out.size))).cell 1)
                have rv2 := at_regrown ((X3.out.past (Below.trans hb.out (WB.out.mono hb.out.size))).cell 2)
                have rv3 := at_regrown ((X3.out.past (Below.trans hb.out (WB.out.mono hb.out.size))).cell 3)
                have rv4 := at_regrown ((X3.out.past (Below.trans hb.out (WB.out.mono hb.out.size))).cell 4)
                have rv5 := at_regrown ((X3.out.past (Below.trans hb.out (WB.out.mono hb.out.size))).cell 5)
                have rx0 := at_regrown ((WB.out.cell hbl).trans u0)
                have rx1 := at_regrown ((WB.out.cell hbl).trans u1)
                have rx2 := at_regrown ((WB.out.cell hbl).trans u2)
                have rx3 := at_regrown ((WB.out.cell hbl).trans u3)
                have rx4 := at_regrown ((WB.out.cell hbl).trans u4)
                have rx5 := at_regrown ((WB.out.cell hbl).trans u5)
                have BX := Lib.hid (Below.trans BW.out (WB.out.mono BW.out.size))
                cases q2 with
                | true =>
                  go_wp2_with fail
                  refine region_below (by kernel_rfl) (by kernel_rfl) ?_
                  repeat (go_big_quiet_step (first | exact call_regrown OD.out | exact call_regrown OE.out))
                  refine wpQuiet_nil ?_
                  intro wz2 hbz
                  clear rs rsl rxl rv0 rv1 rv2 rv3 rv4 rv5
                  clear rx0 rx1 rx2 rx3 rx4 rx5
                  clear OE
                  obtain ⟨W5, hW5⟩ : ∃ W5, wz2 = W5 := ⟨_, rfl⟩
                  rw [hW5] at hbz ⊢
                  clear hW5
                  have B5 := Lib.hid (BX.out.trans (hbz.mono BX.out.size))
                  have z5 := B5.out.size
                  have S5 := Lib.hid ((S3.out.past (Below.trans hb.out (WB.out.mono hb.out.size))).past hbz)
                  have s5c := S5.out.cell
                  have s5l := S5.out.lt
                  have s5f := S5.out.free
                  have X5 := Lib.hid ((X3.out.past (Below.trans hb.out (WB.out.mono hb.out.size))).past hbz)
                  have x5c := X5.out.cell
                  have x5l := X5.out.lt
                  have x5f := X5.out.free
                  have R5 := Lib.hid ((R3.out.past (Below.trans hb.out (WB.out.mono hb.out.size))).past hbz)
                  have r5c := R5.out.cell
                  have r5l := R5.out.lt
                  have r5f := R5.out.free
                  have z3w : w.heap.size + 3 ≤ W5.heap.size := Nat.le_trans zz3.out (Nat.le_trans hb.out.size (Nat.le_trans WB.out.size hbz.size))
                  clear hbz
                  obtain ⟨a0, ha0⟩ : ∃ a : Addr, (⟨bb, off, none⟩ : Addr) = a := ⟨_, rfl⟩
                  rw [ha0] at HM HO' S5 s5c
                  have SLI := Lib.hid ((HM.out.below B5.out).take (k) (by omega))
                  go_wp2_with (at_builtin; refine wpList_append_sl (K := wtK) _ rfl _ _ 23 rfl W5.heap.size 52 i0 _ 64 Try.underlying23 hi hz0 hz1 hz2 rfl none 0 0 [] rfl (World.ownsRow_nil _ _ _ _) (some a0) (k) c' (M.take (k)) rfl SLI.out (by unfold maxLen; omega) (by omega) (Nat.le_refl _) ?_)
                  intro A1 c1 W6 ho hg _
                  have g6 := hg.size
                  have B6 := Lib.hid (B5.out.trans (grown_below hg z5 (fun q hq => by cases hq)))
                  have O1 := Lib.hid (show Own wtK 52 W6 W5.heap.size A1 (k) c1 (M.take (k)) from ⟨SLI.out.len, ho, SLI.out.each⟩)
                  have S6 := Lib.hid (S5.out.beside hg (fun e => by cases e))
                  have s6c := S6.out.cell
                  have s6l := S6.out.lt
                  have s6f := S6.out.free
                  have X6 := Lib.hid (X5.out.beside hg (fun e => by cases e))
                  have x6c := X6.out.cell
                  have x6l := X6.out.lt
                  have x6f := X6.out.free
                  have R6 := Lib.hid (R5.out.beside hg (fun e => by cases e))
                  have r6c := R6.out.cell
                  have r6l := R6.out.lt
                  have r6f := R6.out.free
                  clear s5c s5l s5f x5c x5l x5f r5c r5l r5f
                  clear ho hg
                  have OK := O1.out.kept (below_alloc1 W6 (.cells #[.int .i64 v.pid, .string v.pos.g, .string v.pos.t, .int .i64 v.pos.p, .int .i64 v.pos.h, .int .i64 v.pos.o] 52))
                  have gg := (below_alloc1 W6 (.cells #[.int .i64 v.pid, .string v.pos.g, .string v.pos.t, .int .i64 v.pos.p, .int .i64 v.pos.h, .int .i64 v.pos.o] 52)).size
                  have OKH := Lib.hid OK
                  clear OK
                  go_wp2_with (at_builtin; refine wpList_app1 (K := wtK) _ rfl _ _ 23 rfl W5.heap.size 52 i0 _ 64 Try.underlying23 hi hz0 hz1 hz2 rfl A1 (k) c1 _ rfl OKH.out W6.heap.size rfl v (fun j _ => ((Has.newAt W6 #[.int .i64 v.pid, .string v.pos.g, .string v.pos.t, .int .i64 v.pos.p, .int .i64 v.pos.h, .int .i64 v.pos.o] 52 (g := W6.heap.size) rfl).cell j).trans (by simp; rfl)) HX.out (fun _ _ h => h) ?qc2 ?qc3 ?qc4 ?_)
                  case qc2 => unfold maxLen; omega
                  case qc3 => omega
                  case qc4 => exact Nat.le_trans g6 gg
                  intro A2 c2 W7 ho hg _
                  have O2 := Lib.hid ho
                  have g7 := hg.size
                  have zz7 : W5.heap.size ≤ W7.heap.size := by omega
                  have b2 := B6.out.trans ((below_alloc1 W6 (.cells #[.int .i64 v.pid, .string v.pos.g, .string v.pos.t, .int .i64 v.pos.p, .int .i64 v.pos.h, .int .i64 v.pos.o] 52)).mono B6.out.size)
                  have B7 := Lib.hid (b2.trans (grown_below hg b2.size (fun q hq => Nat.le_trans z5 (O1.out.2.1.lt q hq).1)))
                  have S7 := Lib.hid ((S6.out.alloc _).beside hg (fun e => by have h1 := (O1.out.2.1.lt _ e.symm).1; have h2 := S5.out.lt; omega))
                  have s7c := S7.out.cell
                  have s7l := S7.out.lt
                  have s7f := S7.out.free
                  have X7 := Lib.hid ((X6.out.alloc _).beside hg (fun e => by have h1 := (O1.out.2.1.lt _ e.symm).1; have h2 := X5.out.lt; omega))
                  have x7c := X7.out.cell
                  have x7l := X7.out.lt
                  have x7f := X7.out.free
                  have R7 := Lib.hid ((R6.out.alloc _).beside hg (fun e => by have h1 := (O1.out.2.1.lt _ e.symm).1; have h2 := R5.out.lt; omega))
                  have r7c := R7.out.cell
                  have r7l := R7.out.lt
                  have r7f := R7.out.free
                  clear s6c s6l s6f x6c x6l x6f r6c r6l r6f
                  clear ho hg b2
                  by_cases hcm : c' = k
                  · exfalso; omega
                  · have SLR := Lib.hid (show Sl wtK W7 (some (a0.add ((k) * wtK.size))) (n' - (k)) (c' - (k)) (M.drop (k)) from by have := sl_dropA (HM.out.below B7.out) (k) (by omega); rw [if_neg hcm] at this; exact this)
                    have HD := Lib.hid True.intro
                    go_wp2_with (at_builtin; refine wpList_append_sl (K := wtK) _ rfl _ _ 23 rfl W5.heap.size 52 i0 _ 64 Try.underlying23 hi hz0 hz1 hz2 rfl A2 _ c2 _ rfl O2.out.2.1 _ (n' - (k)) _ (M.drop (k)) (by first | rfl | (go_simp; rfl)) SLR.out (by unfold maxLen; omega) (by omega) zz7 ?_)
                    intro A3 c3 W8 ho hg _
                    have S8 := Lib.hid (S7.out.beside hg (fun e => by have h1 := (O2.out.2.1.lt _ e.symm).1; have h2 := S5.out.lt; omega))
                    have s8c := S8.out.cell
                    have s8l := S8.out.lt
                    have s8f := S8.out.free
                    have X8 := Lib.hid (X7.out.beside hg (fun e => by have h1 := (O2.out.2.1.lt _ e.symm).1; have h2 := X5.out.lt; omega))
                    have x8c := X8.out.cell
                    have x8l := X8.out.lt
                    have x8f := X8.out.free
                    have R8 := Lib.hid (R7.out.beside hg (fun e => by have h1 := (O2.out.2.1.lt _ e.symm).1; have h2 := R5.out.lt; omega))
                    have r8c := R8.out.cell
                    have r8l := R8.out.lt
                    have r8f := R8.out.free
                    clear s7c s7l s7f x7c x7l x7f r7c r7l r7f
                    have B8 := Lib.hid (B7.out.trans (grown_below hg B7.out.size (fun q hq => Nat.le_trans z5 (O2.out.2.1.lt q hq).1)))
                    have O3 := Lib.hid (show Own wtK 52 W8 W5.heap.size A3 (k + 1 + (n' - k)) c3 (insC ordW v M) from by
                      rw [ins_srch SR.out]
                      refine ⟨by simp only [List.length_append, List.length_cons, List.length_take, List.length_drop]; have := HM.out.len; simp <;> omega, by simpa [List.flatMap_append, HD.out] using ho, fun y hy => ?_⟩
                      have hy2 : y ∈ insC ordW v M := by rw [ins_srch SR.out]; exact hy
                      rcases ins_mem hy2 with rfl | hy2
                      · exact HX.out
                      · exact HM.out.each y hy2)
                    clear ho hg
                    obtain ⟨n3, hn3, hsv⟩ : ∃ m, m = k + 1 + (n' - k) ∧ Value.slice A3 (k + 1 + (n' - k)) c3 = Value.slice A3 m c3 := ⟨_, rfl, rfl⟩
                    rw [hsv]
                    rw [← hn3] at O3
                    clear hsv
                    have hn4 : n3 ≤ 60001 := by omega
                    clear hn3
                    by_cases h1 : 4096 < n3
                    · have HR := Lib.hid (show V = ([], [], 2) from by rw [HV.out]; unfold capV; rw [if_pos (.inr (by rw [O3.out.1]; exact h1))])
                      have dc : decide ((4096 : Int) < (n3 : Int)) = true := decide_eq_true (by omega)
                      clear h1
                      go_wp2_with fail
                      refine bodyPost_ret (v := .tuple #[ofV none 0 0 none 0 0, .int .i64 2]) (by simp [results, Try.results17, go_sem, r8c]) rfl ?_
                      exact chRes_no HR.out (B8.out.trans (grown_below (setCells_grown (w.heap.size + 1 + 1) [.slice none 0 0, .slice none 0 0] 0 W8) B8.out.size (fun k hk => by injection hk with hk; omega)))
                    · have HR := Lib.hid (show V = (L, insC ordW v M, 0) from by rw [HV.out]; unfold capV; rw [if_neg (fun h => h.elim LL.out (by rw [O3.out.1]; exact h1))])
                      have dc : decide ((4096 : Int) < (n3 : Int)) = false := decide_eq_false (by omega)
                      clear h1
                      have NEW : Hid (Of.At W8 ⟨A, n, c, L, A3, n3, c3, insC ordW v M⟩) := Lib.hid ⟨HO.out.1.below B8.out, O3.out.sl⟩
                      have OL := Lib.hid (fun b off (e : A3 = some (⟨b, off, none⟩ : Addr)) => Nat.le_trans z3w (O3.out.lt e).1)
                      go_wp2_with fail
                      have G2 := setCells_grown (w.heap.size + 1 + 1) [.slice A n c, .slice A3 n3 c3] 0 W8
                      refine bodyPost_ret (v := .tuple #[(⟨A, n, c, L, A3, n3, c3, insC ordW v M⟩ : Of).v, .int .i64 0]) (by simp [results, Try.results17, go_sem, r8c]) rfl ?_
                      have b2 := B8.out.trans (grown_below G2 B8.out.size (fun k hk => by injection hk with hk; omega))
                      rw [HR.out]
                      have KP := fun hf => Of.At.kept (D := w.heap.size + 3) NEW.out hf HO.out b2 G2 (by omega)
                      exact ⟨⟨A, n, c, L, A3, n3, c3, insC ordW v M⟩, rfl, KP ⟨.inl ⟨rfl, rfl, rfl, rfl⟩, .inr OL.out⟩, rfl, rfl, ⟨.inl ⟨rfl, rfl, rfl, rfl⟩, .inr fun b off e => Nat.le_trans (by omega) (OL.out b off e)⟩, b2⟩
                | false =>
                  go_wp2_with fail
                  refine region_below (by kernel_rfl) (by kernel_rfl) ?_
                  repeat (go_big_quiet_step (first | exact call_regrown OD.out | exact call_regrown OE.out))
                  refine wpQuiet_nil ?_
                  intro wz2 hbz
                  clear rs rsl rxl rv0 rv1 rv2 rv3 rv4 rv5
                  clear rx0 rx1 rx2 rx3 rx4 rx5
                  clear OE
                  obtain ⟨W5, hW5⟩ : ∃ W5, wz2 = W5 := ⟨_, rfl⟩
                  rw [hW5] at hbz ⊢
                  clear hW5
                  have B5 := Lib.hid (BX.out.trans (hbz.mono BX.out.size))
                  have z5 := B5.out.size
                  have S5 := Lib.hid ((S3.out.past (Below.trans hb.out (WB.out.mono hb.out.size))).past hbz)
                  have s5c := S5.out.cell
                  have s5l := S5.out.lt
                  have s5f := S5.out.free
                  have X5 := Lib.hid ((X3.out.past (Below.trans hb.out (WB.out.mono hb.out.size))).past hbz)
                  have x5c := X5.out.cell
                  have x5l := X5.out.lt
                  have x5f := X5.out.free
                  have R5 := Lib.hid ((R3.out.past (Below.trans hb.out (WB.out.mono hb.out.size))).past hbz)
                  have r5c := R5.out.cell
                  have r5l := R5.out.lt
                  have r5f := R5.out.free
                  have z3w : w.heap.size + 3 ≤ W5.heap.size := Nat.le_trans zz3.out (Nat.le_trans hb.out.size (Nat.le_trans WB.out.size hbz.size))
                  clear hbz
                  obtain ⟨a0, ha0⟩ : ∃ a : Addr, (⟨bb, off, none⟩ : Addr) = a := ⟨_, rfl⟩
                  rw [ha0] at HM HO' S5 s5c
                  have SLI := Lib.hid ((HM.out.below B5.out).take (k) (by omega))
                  go_wp2_with (at_builtin; refine wpList_append_sl (K := wtK) _ rfl _ _ 23 rfl W5.heap.size 52 i0 _ 64 Try.underlying23 hi hz0 hz1 hz2 rfl none 0 0 [] rfl (World.ownsRow_nil _ _ _ _) (some a0) (k) c' (M.take (k)) rfl SLI.out (by unfold maxLen; omega) (by omega) (Nat.le_refl _) ?_)
                  intro A1 c1 W6 ho hg _
                  have g6 := hg.size
                  have B6 := Lib.hid (B5.out.trans (grown_below hg z5 (fun q hq => by cases hq)))
                  have O1 := Lib.hid (show Own wtK 52 W6 W5.heap.size A1 (k) c1 (M.take (k)) from ⟨SLI.out.len, ho, SLI.out.each⟩)
                  have S6 := Lib.hid (S5.out.beside hg (fun e => by cases e))
                  have s6c := S6.out.cell
                  have s6l := S6.out.lt
                  have s6f := S6.out.free
                  have X6 := Lib.hid (X5.out.beside hg (fun e => by cases e))
                  have x6c := X6.out.cell
                  have x6l := X6.out.lt
                  have x6f := X6.out.free
                  have R6 := Lib.hid (R5.out.beside hg (fun e => by cases e))
                  have r6c := R6.out.cell
                  have r6l := R6.out.lt
                  have r6f := R6.out.free
                  clear s5c s5l s5f x5c x5l x5f r5c r5l r5f
                  clear ho hg
                  have OK := O1.out.kept (below_alloc1 W6 (.cells #[.int .i64 v.pid, .string v.pos.g, .string v.pos.t, .int .i64 v.pos.p, .int .i64 v.pos.h, .int .i64 v.pos.o] 52))
                  have gg := (below_alloc1 W6 (.cells #[.int .i64 v.pid, .string v.pos.g, .string v.pos.t, .int .i64 v.pos.p, .int .i64 v.pos.h, .int .i64 v.pos.o] 52)).size
                  have OKH := Lib.hid OK
                  clear OK
                  go_wp2_with (at_builtin; refine wpList_app1 (K := wtK) _ rfl _ _ 23 rfl W5.heap.size 52 i0 _ 64 Try.underlying23 hi hz0 hz1 hz2 rfl A1 (k) c1 _ rfl OKH.out W6.heap.size rfl v (fun j _ => ((Has.newAt W6 #[.int .i64 v.pid, .string v.pos.g, .string v.pos.t, .int .i64 v.pos.p, .int .i64 v.pos.h, .int .i64 v.pos.o] 52 (g := W6.heap.size) rfl).cell j).trans (by simp; rfl)) HX.out (fun _ _ h => h) ?qc2 ?qc3 ?qc4 ?_)
                  case qc2 => unfold maxLen; omega
                  case qc3 => omega
                  case qc4 => exact Nat.le_trans g6 gg
                  intro A2 c2 W7 ho hg _
                  have O2 := Lib.hid ho
                  have g7 := hg.size
                  have zz7 : W5.heap.size ≤ W7.heap.size := by omega
                  have b2 := B6.out.trans ((below_alloc1 W6 (.cells #[.int .i64 v.pid, .string v.pos.g, .string v.pos.t, .int .i64 v.pos.p, .int .i64 v.pos.h, .int .i64 v.pos.o] 52)).mono B6.out.size)
                  have B7 := Lib.hid (b2.trans (grown_below hg b2.size (fun q hq => Nat.le_trans z5 (O1.out.2.1.lt q hq).1)))
                  have S7 := Lib.hid ((S6.out.alloc _).beside hg (fun e => by have h1 := (O1.out.2.1.lt _ e.symm).1; have h2 := S5.out.lt; omega))
                  have s7c := S7.out.cell
                  have s7l := S7.out.lt
                  have s7f := S7.out.free
                  have X7 := Lib.hid ((X6.out.alloc _).beside hg (fun e => by have h1 := (O1.out.2.1.lt _ e.symm).1; have h2 := X5.out.lt; omega))
                  have x7c := X7.out.cell
                  have x7l := X7.out.lt
                  have x7f := X7.out.free
                  have R7 := Lib.hid ((R6.out.alloc _).beside hg (fun e => by have h1 := (O1.out.2.1.lt _ e.symm).1; have h2 := R5.out.lt; omega))
                  have r7c := R7.out.cell
                  have r7l := R7.out.lt
                  have r7f := R7.out.free
                  clear s6c s6l s6f x6c x6l x6f r6c r6l r6f
                  clear ho hg b2
                  by_cases hcm : c' = k + 1
                  · have hnr : n' = k + 1 := by omega
                    have SLR := Lib.hid (show Sl wtK W7 (some a0) 0 0 ([] : List Wt) from sl_zeroA (Nat.zero_le _) rfl)
                    have HD := Lib.hid (show M.drop (k + 1) = [] from List.drop_eq_nil_of_le (by rw [HM.out.len]; omega))
                    
                    subst hcm hnr
                    go_wp2_with (at_builtin; refine wpList_append_sl (K := wtK) _ rfl _ _ 23 rfl W5.heap.size 52 i0 _ 64 Try.underlying23 hi hz0 hz1 hz2 rfl A2 _ c2 _ rfl O2.out.2.1 _ 0 _ ([] : List Wt) (by first | rfl | (go_simp; rfl)) SLR.out (by unfold maxLen; omega) (by omega) zz7 ?_)
                    intro A3 c3 W8 ho hg _
                    have S8 := Lib.hid (S7.out.beside hg (fun e => by have h1 := (O2.out.2.1.lt _ e.symm).1; have h2 := S5.out.lt; omega))
                    have s8c := S8.out.cell
                    have s8l := S8.out.lt
                    have s8f := S8.out.free
                    have X8 := Lib.hid (X7.out.beside hg (fun e => by have h1 := (O2.out.2.1.lt _ e.symm).1; have h2 := X5.out.lt; omega))
                    have x8c := X8.out.cell
                    have x8l := X8.out.lt
                    have x8f := X8.out.free
                    have R8 := Lib.hid (R7.out.beside hg (fun e => by have h1 := (O2.out.2.1.lt _ e.symm).1; have h2 := R5.out.lt; omega))
                    have r8c := R8.out.cell
                    have r8l := R8.out.lt
                    have r8f := R8.out.free
                    clear s7c s7l s7f x7c x7l x7f r7c r7l r7f
                    have B8 := Lib.hid (B7.out.trans (grown_below hg B7.out.size (fun q hq => Nat.le_trans z5 (O2.out.2.1.lt q hq).1)))
                    have O3 := Lib.hid (show Own wtK 52 W8 W5.heap.size A3 (k + 1) c3 (insC ordW v M) from by
                      rw [ins_srch SR.out]
                      refine ⟨by simp only [List.length_append, List.length_cons, List.length_take, List.length_drop]; have := HM.out.len; simp <;> omega, by simpa [List.flatMap_append, HD.out] using ho, fun y hy => ?_⟩
                      have hy2 : y ∈ insC ordW v M := by rw [ins_srch SR.out]; exact hy
                      rcases ins_mem hy2 with rfl | hy2
                      · exact HX.out
                      · exact HM.out.each y hy2)
                    clear ho hg
                    obtain ⟨n3, hn3, hsv⟩ : ∃ m, m = k + 1 ∧ Value.slice A3 (k + 1) c3 = Value.slice A3 m c3 := ⟨_, rfl, rfl⟩
                    rw [hsv]
                    rw [← hn3] at O3
                    clear hsv
                    have hn4 : n3 ≤ 60001 := by omega
                    clear hn3
                    by_cases h1 : 4096 < n3
                    · have HR := Lib.hid (show V = ([], [], 2) from by rw [HV.out]; unfold capV; rw [if_pos (.inr (by rw [O3.out.1]; exact h1))])
                      have dc : decide ((4096 : Int) < (n3 : Int)) = true := decide_eq_true (by omega)
                      clear h1
                      go_wp2_with fail
                      refine bodyPost_ret (v := .tuple #[ofV none 0 0 none 0 0, .int .i64 2]) (by simp [results, Try.results17, go_sem, r8c]) rfl ?_
                      exact chRes_no HR.out (B8.out.trans (grown_below (setCells_grown (w.heap.size + 1 + 1) [.slice none 0 0, .slice none 0 0] 0 W8) B8.out.size (fun k hk => by injection hk with hk; omega)))
                    · have HR := Lib.hid (show V = (L, insC ordW v M, 0) from by rw [HV.out]; unfold capV; rw [if_neg (fun h => h.elim LL.out (by rw [O3.out.1]; exact h1))])
                      have dc : decide ((4096 : Int) < (n3 : Int)) = false := decide_eq_false (by omega)
                      clear h1
                      have NEW : Hid (Of.At W8 ⟨A, n, c, L, A3, n3, c3, insC ordW v M⟩) := Lib.hid ⟨HO.out.1.below B8.out, O3.out.sl⟩
                      have OL := Lib.hid (fun b off (e : A3 = some (⟨b, off, none⟩ : Addr)) => Nat.le_trans z3w (O3.out.lt e).1)
                      go_wp2_with fail
                      have G2 := setCells_grown (w.heap.size + 1 + 1) [.slice A n c, .slice A3 n3 c3] 0 W8
                      refine bodyPost_ret (v := .tuple #[(⟨A, n, c, L, A3, n3, c3, insC ordW v M⟩ : Of).v, .int .i64 0]) (by simp [results, Try.results17, go_sem, r8c]) rfl ?_
                      have b2 := B8.out.trans (grown_below G2 B8.out.size (fun k hk => by injection hk with hk; omega))
                      rw [HR.out]
                      have KP := fun hf => Of.At.kept (D := w.heap.size + 3) NEW.out hf HO.out b2 G2 (by omega)
                      exact ⟨⟨A, n, c, L, A3, n3, c3, insC ordW v M⟩, rfl, KP ⟨.inl ⟨rfl, rfl, rfl, rfl⟩, .inr OL.out⟩, rfl, rfl, ⟨.inl ⟨rfl, rfl, rfl, rfl⟩, .inr fun b off e => Nat.le_trans (by omega) (OL.out b off e)⟩, b2⟩
                  · have SLR := Lib.hid (show Sl wtK W7 (some (a0.add ((k + 1) * wtK.size))) (n' - (k + 1)) (c' - (k + 1)) (M.drop (k + 1)) from by have := sl_dropA (HM.out.below B7.out) (k + 1) (by omega); rw [if_neg hcm] at this; exact this)
                    have HD := Lib.hid True.intro
                    go_wp2_with (at_builtin; refine wpList_append_sl (K := wtK) _ rfl _ _ 23 rfl W5.heap.size 52 i0 _ 64 Try.underlying23 hi hz0 hz1 hz2 rfl A2 _ c2 _ rfl O2.out.2.1 _ (n' - (k + 1)) _ (M.drop (k + 1)) (by first | rfl | (go_simp; rfl)) SLR.out (by unfold maxLen; omega) (by omega) zz7 ?_)
                    intro A3 c3 W8 ho hg _
                    have S8 := Lib.hid (S7.out.beside hg (fun e => by have h1 := (O2.out.2.1.lt _ e.symm).1; have h2 := S5.out.lt; omega))
                    have s8c := S8.out.cell
                    have s8l := S8.out.lt
                    have s8f := S8.out.free
                    have X8 := Lib.hid (X7.out.beside hg (fun e => by have h1 := (O2.out.2.1.lt _ e.symm).1; have h2 := X5.out.lt; omega))
                    have x8c := X8.out.cell
                    have x8l := X8.out.lt
                    have x8f := X8.out.free
                    have R8 := Lib.hid (R7.out.beside hg (fun e => by have h1 := (O2.out.2.1.lt _ e.symm).1; have h2 := R5.out.lt; omega))
                    have r8c := R8.out.cell
                    have r8l := R8.out.lt
                    have r8f := R8.out.free
                    clear s7c s7l s7f x7c x7l x7f r7c r7l r7f
                    have B8 := Lib.hid (B7.out.trans (grown_below hg B7.out.size (fun q hq => Nat.le_trans z5 (O2.out.2.1.lt q hq).1)))
                    have O3 := Lib.hid (show Own wtK 52 W8 W5.heap.size A3 (k + 1 + (n' - (k + 1))) c3 (insC ordW v M) from by
                      rw [ins_srch SR.out]
                      refine ⟨by simp only [List.length_append, List.length_cons, List.length_take, List.length_drop]; have := HM.out.len; simp <;> omega, by simpa [List.flatMap_append, HD.out] using ho, fun y hy => ?_⟩
                      have hy2 : y ∈ insC ordW v M := by rw [ins_srch SR.out]; exact hy
                      rcases ins_mem hy2 with rfl | hy2
                      · exact HX.out
                      · exact HM.out.each y hy2)
                    clear ho hg
                    obtain ⟨n3, hn3, hsv⟩ : ∃ m, m = k + 1 + (n' - (k + 1)) ∧ Value.slice A3 (k + 1 + (n' - (k + 1))) c3 = Value.slice A3 m c3 := ⟨_, rfl, rfl⟩
                    rw [hsv]
                    rw [← hn3] at O3
                    clear hsv
                    have hn4 : n3 ≤ 60001 := by omega
                    clear hn3
                    by_cases h1 : 4096 < n3
                    · have HR := Lib.hid (show V = ([], [], 2) from by rw [HV.out]; unfold capV; rw [if_pos (.inr (by rw [O3.out.1]; exact h1))])
                      have dc : decide ((4096 : Int) < (n3 : Int)) = true := decide_eq_true (by omega)
                      clear h1
                      go_wp2_with fail
                      refine bodyPost_ret (v := .tuple #[ofV none 0 0 none 0 0, .int .i64 2]) (by simp [results, Try.results17, go_sem, r8c]) rfl ?_
                      exact chRes_no HR.out (B8.out.trans (grown_below (setCells_grown (w.heap.size + 1 + 1) [.slice none 0 0, .slice none 0 0] 0 W8) B8.out.size (fun k hk => by injection hk with hk; omega)))
                    · have HR := Lib.hid (show V = (L, insC ordW v M, 0) from by rw [HV.out]; unfold capV; rw [if_neg (fun h => h.elim LL.out (by rw [O3.out.1]; exact h1))])
                      have dc : decide ((4096 : Int) < (n3 : Int)) = false := decide_eq_false (by omega)
                      clear h1
                      have NEW : Hid (Of.At W8 ⟨A, n, c, L, A3, n3, c3, insC ordW v M⟩) := Lib.hid ⟨HO.out.1.below B8.out, O3.out.sl⟩
                      have OL := Lib.hid (fun b off (e : A3 = some (⟨b, off, none⟩ : Addr)) => Nat.le_trans z3w (O3.out.lt e).1)
                      go_wp2_with fail
                      have G2 := setCells_grown (w.heap.size + 1 + 1) [.slice A n c, .slice A3 n3 c3] 0 W8
                      refine bodyPost_ret (v := .tuple #[(⟨A, n, c, L, A3, n3, c3, insC ordW v M⟩ : Of).v, .int .i64 0]) (by simp [results, Try.results17, go_sem, r8c]) rfl ?_
                      have b2 := B8.out.trans (grown_below G2 B8.out.size (fun k hk => by injection hk with hk; omega))
                      rw [HR.out]
                      have KP := fun hf => Of.At.kept (D := w.heap.size + 3) NEW.out hf HO.out b2 G2 (by omega)
                      exact ⟨⟨A, n, c, L, A3, n3, c3, insC ordW v M⟩, rfl, KP ⟨.inl ⟨rfl, rfl, rfl, rfl⟩, .inr OL.out⟩, rfl, rfl, ⟨.inl ⟨rfl, rfl, rfl, rfl⟩, .inr fun b off e => Nat.le_trans (by omega) (OL.out b off e)⟩, b2⟩
            · have jn : n' = k := by omega
              subst jn
              have dk : decide ((n' : Int) < (n' : Int)) = false := decide_eq_false (by omega)
              have dk' : decide (n' < n') = false := decide_eq_false (by omega)
              have SR := Lib.hid (show SrchG (fun y => ordW y v) M n' false from srch_of lawW HU.out (by rw [LN.out]; exact Nat.le_refl _) hok.out (fun h => by have := LN.out; omega) _ ⟨fun h => (by cases h), fun ⟨h, _⟩ => (by have := LN.out; omega)⟩)
              clear hok hgg hk hlt
              have rs := at_regrown ((S3.out.past (hb.out)).cell 1)
              have rsl := (S3.out.past (hb.out)).lt
              have rxl := (X3.out.past (hb.out)).lt
              have rv0 := at_regrown ((X3.out.past (hb.out)).cell 0)
              have rv1 := at_regrown ((X3.out.past (hb.out)).cell 1)
              have rv2 := at_regrown ((X3.out.past (hb.out)).cell 2)
              have rv3 := at_regrown ((X3.out.past (hb.out)).cell 3)
              have rv4 := at_regrown ((X3.out.past (hb.out)).cell 4)
              have rv5 := at_regrown ((X3.out.past (hb.out)).cell 5)
              go_wp2_with fail
              refine region_below (by kernel_rfl) (by kernel_rfl) ?_
              repeat (go_big_quiet_step (fail))
              refine wpQuiet_nil ?_
              intro wz hbz
              have WB := Lib.hid hbz
              clear hbz
              clear rs rsl rxl rv0 rv1 rv2 rv3 rv4 rv5
              have rs := at_regrown ((S3.out.past (Below.trans hb.out (WB.out.mono hb.out.size))).cell 1)
              have rsl := (S3.out.past (Below.trans hb.out (WB.out.mono hb.out.size))).lt
              have rxl := (X3.out.past (Below.trans hb.out (WB.out.mono hb.out.size))).lt
              have rv0 := at_regrown ((X3.out.past (Below.trans hb.out (WB.out.mono hb.out.size))).cell 0)
              have rv1 := at_regrown ((X3.out.past (Below.trans hb.out (WB.out.mono hb.out.size))).cell 1)
              have rv2 := at_regrown ((X3.out.past (Below.trans hb.out (WB.out.mono hb.out.size))).cell 2)
              have rv3 := at_regrown ((X3.out.past (Below.trans hb.out (WB.out.mono hb.out.size))).cell 3)
              have rv4 := at_regrown ((X3.out.past (Below.trans hb.out (WB.out.mono hb.out.size))).cell 4)
              have rv5 := at_regrown ((X3.out.past (Below.trans hb.out (WB.out.mono hb.out.size))).cell 5)
              have BX := Lib.hid (Below.trans BW.out (WB.out.mono BW.out.size))
              go_wp2_with fail
              refine region_below (by kernel_rfl) (by kernel_rfl) ?_
              repeat (go_big_quiet_step (fail))
              refine wpQuiet_nil ?_
              intro wz2 hbz
              clear rs rsl rxl rv0 rv1 rv2 rv3 rv4 rv5
              obtain ⟨W5, hW5⟩ : ∃ W5, wz2 = W5 := ⟨_, rfl⟩
              rw [hW5] at hbz ⊢
              clear hW5
              have B5 := Lib.hid (BX.out.trans (hbz.mono BX.out.size))
              have z5 := B5.out.size
              have S5 := Lib.hid ((S3.out.past (Below.trans hb.out (WB.out.mono hb.out.size))).past hbz)
              have s5c := S5.out.cell
              have s5l := S5.out.lt
              have s5f := S5.out.free
              have X5 := Lib.hid ((X3.out.past (Below.trans hb.out (WB.out.mono hb.out.size))).past hbz)
              have x5c := X5.out.cell
              have x5l := X5.out.lt
              have x5f := X5.out.free
              have R5 := Lib.hid ((R3.out.past (Below.trans hb.out (WB.out.mono hb.out.size))).past hbz)
              have r5c := R5.out.cell
              have r5l := R5.out.lt
              have r5f := R5.out.free
              have z3w : w.heap.size + 3 ≤ W5.heap.size := Nat.le_trans zz3.out (Nat.le_trans hb.out.size (Nat.le_trans WB.out.size hbz.size))
              clear hbz
              rcases A' with _ | a0
              · obtain ⟨e1, e2⟩ := HM.out.adr rfl
                subst e1 e2
                have e3 : M = [] := List.length_eq_zero_iff.1 LN.out
                subst e3
                have SLI := Lib.hid ((HM.out.below B5.out).take (0) (by omega))
                go_wp2_with (at_builtin; refine wpList_append_sl (K := wtK) _ rfl _ _ 23 rfl W5.heap.size 52 i0 _ 64 Try.underlying23 hi hz0 hz1 hz2 rfl none 0 0 [] rfl (World.ownsRow_nil _ _ _ _) none (0) 0 (([] : List Wt).take (0)) rfl SLI.out (by unfold maxLen; omega) (by omega) (Nat.le_refl _) ?_)
                intro A1 c1 W6 ho hg _
                have g6 := hg.size
                have B6 := Lib.hid (B5.out.trans (grown_below hg z5 (fun q hq => by cases hq)))
                have O1 := Lib.hid (show Own wtK 52 W6 W5.heap.size A1 (0) c1 (([] : List Wt).take (0)) from ⟨SLI.out.len, by simpa using ho, SLI.out.each⟩)
                have S6 := Lib.hid (S5.out.beside hg (fun e => by cases e))
                have s6c := S6.out.cell
                have s6l := S6.out.lt
                have s6f := S6.out.free
                have X6 := Lib.hid (X5.out.beside hg (fun e => by cases e))
                have x6c := X6.out.cell
                have x6l := X6.out.lt
                have x6f := X6.out.free
                have R6 := Lib.hid (R5.out.beside hg (fun e => by cases e))
                have r6c := R6.out.cell
                have r6l := R6.out.lt
                have r6f := R6.out.free
                clear s5c s5l s5f x5c x5l x5f r5c r5l r5f
                clear ho hg
                have OK := O1.out.kept (below_alloc1 W6 (.cells #[.int .i64 v.pid, .string v.pos.g, .string v.pos.t, .int .i64 v.pos.p, .int .i64 v.pos.h, .int .i64 v.pos.o] 52))
                have gg := (below_alloc1 W6 (.cells #[.int .i64 v.pid, .string v.pos.g, .string v.pos.t, .int .i64 v.pos.p, .int .i64 v.pos.h, .int .i64 v.pos.o] 52)).size
                have OKH := Lib.hid OK
                clear OK
                go_wp2_with (at_builtin; refine wpList_app1 (K := wtK) _ rfl _ _ 23 rfl W5.heap.size 52 i0 _ 64 Try.underlying23 hi hz0 hz1 hz2 rfl A1 (0) c1 _ rfl OKH.out W6.heap.size rfl v (fun j _ => ((Has.newAt W6 #[.int .i64 v.pid, .string v.pos.g, .string v.pos.t, .int .i64 v.pos.p, .int .i64 v.pos.h, .int .i64 v.pos.o] 52 (g := W6.heap.size) rfl).cell j).trans (by simp; rfl)) HX.out (fun _ _ h => h) ?qc2 ?qc3 ?qc4 ?_)
                case qc2 => unfold maxLen; omega
                case qc3 => omega
                case qc4 => exact Nat.le_trans g6 gg
                intro A2 c2 W7 ho hg _
                have O2 := Lib.hid ho
                have g7 := hg.size
                have zz7 : W5.heap.size ≤ W7.heap.size := by omega
                have b2 := B6.out.trans ((below_alloc1 W6 (.cells #[.int .i64 v.pid, .string v.pos.g, .string v.pos.t, .int .i64 v.pos.p, .int .i64 v.pos.h, .int .i64 v.pos.o] 52)).mono B6.out.size)
                have B7 := Lib.hid (b2.trans (grown_below hg b2.size (fun q hq => Nat.le_trans z5 (O1.out.2.1.lt q hq).1)))
                have S7 := Lib.hid ((S6.out.alloc _).beside hg (fun e => by have h1 := (O1.out.2.1.lt _ e.symm).1; have h2 := S5.out.lt; omega))
                have s7c := S7.out.cell
                have s7l := S7.out.lt
                have s7f := S7.out.free
                have X7 := Lib.hid ((X6.out.alloc _).beside hg (fun e => by have h1 := (O1.out.2.1.lt _ e.symm).1; have h2 := X5.out.lt; omega))
                have x7c := X7.out.cell
                have x7l := X7.out.lt
                have x7f := X7.out.free
                have R7 := Lib.hid ((R6.out.alloc _).beside hg (fun e => by have h1 := (O1.out.2.1.lt _ e.symm).1; have h2 := R5.out.lt; omega))
                have r7c := R7.out.cell
                have r7l := R7.out.lt
                have r7f := R7.out.free
                clear s6c s6l s6f x6c x6l x6f r6c r6l r6f
                clear ho hg b2
                have SLR := Lib.hid (show Sl wtK W7 none 0 0 ([].drop 0) from by rw [List.drop_nil]; exact Sl.nil _ _)
                go_wp2_with (at_builtin; refine wpList_append_sl (K := wtK) _ rfl _ _ 23 rfl W5.heap.size 52 i0 _ 64 Try.underlying23 hi hz0 hz1 hz2 rfl A2 _ c2 _ rfl O2.out.2.1 _ 0 _ (([] : List Wt).drop (0)) (by first | rfl | (go_simp; rfl)) SLR.out (by unfold maxLen; omega) (by omega) zz7 ?_)
                intro A3 c3 W8 ho hg _
                have S8 := Lib.hid (S7.out.beside hg (fun e => by have h1 := (O2.out.2.1.lt _ e.symm).1; have h2 := S5.out.lt; omega))
                have s8c := S8.out.cell
                have s8l := S8.out.lt
                have s8f := S8.out.free
                have X8 := Lib.hid (X7.out.beside hg (fun e => by have h1 := (O2.out.2.1.lt _ e.symm).1; have h2 := X5.out.lt; omega))
                have x8c := X8.out.cell
                have x8l := X8.out.lt
                have x8f := X8.out.free
                have R8 := Lib.hid (R7.out.beside hg (fun e => by have h1 := (O2.out.2.1.lt _ e.symm).1; have h2 := R5.out.lt; omega))
                have r8c := R8.out.cell
                have r8l := R8.out.lt
                have r8f := R8.out.free
                clear s7c s7l s7f x7c x7l x7f r7c r7l r7f
                have B8 := Lib.hid (B7.out.trans (grown_below hg B7.out.size (fun q hq => Nat.le_trans z5 (O2.out.2.1.lt q hq).1)))
                have O3 := Lib.hid (show Own wtK 52 W8 W5.heap.size A3 (1) c3 (insC ordW v []) from by
                  rw [ins_srch SR.out]
                  refine ⟨by simp only [List.length_append, List.length_cons, List.length_take, List.length_drop]; have := HM.out.len; simp <;> omega, by simpa [List.flatMap_append] using ho, fun y hy => ?_⟩
                  have hy2 : y ∈ insC ordW v [] := by rw [ins_srch SR.out]; exact hy
                  rcases ins_mem hy2 with rfl | hy2
                  · exact HX.out
                  · exact HM.out.each y hy2)
                clear ho hg
                obtain ⟨n3, hn3, hsv⟩ : ∃ m, m = 1 ∧ Value.slice A3 (1) c3 = Value.slice A3 m c3 := ⟨_, rfl, rfl⟩
                rw [hsv]
                rw [← hn3] at O3
                clear hsv
                have hn4 : n3 ≤ 60001 := by omega
                clear hn3
                by_cases h1 : 4096 < n3
                · have HR := Lib.hid (show V = ([], [], 2) from by rw [HV.out]; unfold capV; rw [if_pos (.inr (by rw [O3.out.1]; exact h1))])
                  have dc : decide ((4096 : Int) < (n3 : Int)) = true := decide_eq_true (by omega)
                  clear h1
                  go_wp2_with fail
                  refine bodyPost_ret (v := .tuple #[ofV none 0 0 none 0 0, .int .i64 2]) (by simp [results, Try.results17, go_sem, r8c]) rfl ?_
                  exact chRes_no HR.out (B8.out.trans (grown_below (setCells_grown (w.heap.size + 1 + 1) [.slice none 0 0, .slice none 0 0] 0 W8) B8.out.size (fun k hk => by injection hk with hk; omega)))
                · have HR := Lib.hid (show V = (L, insC ordW v [], 0) from by rw [HV.out]; unfold capV; rw [if_neg (fun h => h.elim LL.out (by rw [O3.out.1]; exact h1))])
                  have dc : decide ((4096 : Int) < (n3 : Int)) = false := decide_eq_false (by omega)
                  clear h1
                  have NEW : Hid (Of.At W8 ⟨A, n, c, L, A3, n3, c3, insC ordW v []⟩) := Lib.hid ⟨HO.out.1.below B8.out, O3.out.sl⟩
                  have OL := Lib.hid (fun b off (e : A3 = some (⟨b, off, none⟩ : Addr)) => Nat.le_trans z3w (O3.out.lt e).1)
                  go_wp2_with fail
                  have G2 := setCells_grown (w.heap.size + 1 + 1) [.slice A n c, .slice A3 n3 c3] 0 W8
                  refine bodyPost_ret (v := .tuple #[(⟨A, n, c, L, A3, n3, c3, insC ordW v []⟩ : Of).v, .int .i64 0]) (by simp [results, Try.results17, go_sem, r8c]) rfl ?_
                  have b2 := B8.out.trans (grown_below G2 B8.out.size (fun k hk => by injection hk with hk; omega))
                  rw [HR.out]
                  have KP := fun hf => Of.At.kept (D := w.heap.size + 3) NEW.out hf HO.out b2 G2 (by omega)
                  exact ⟨⟨A, n, c, L, A3, n3, c3, insC ordW v []⟩, rfl, KP ⟨.inl ⟨rfl, rfl, rfl, rfl⟩, .inr OL.out⟩, rfl, rfl, ⟨.inl ⟨rfl, rfl, rfl, rfl⟩, .inr fun b off e => Nat.le_trans (by omega) (OL.out b off e)⟩, b2⟩
              · have SLI := Lib.hid ((HM.out.below B5.out).take (n') (by omega))
                go_wp2_with (at_builtin; refine wpList_append_sl (K := wtK) _ rfl _ _ 23 rfl W5.heap.size 52 i0 _ 64 Try.underlying23 hi hz0 hz1 hz2 rfl none 0 0 [] rfl (World.ownsRow_nil _ _ _ _) (some a0) (n') c' (M.take (n')) rfl SLI.out (by unfold maxLen; omega) (by omega) (Nat.le_refl _) ?_)
                intro A1 c1 W6 ho hg _
                have g6 := hg.size
                have B6 := Lib.hid (B5.out.trans (grown_below hg z5 (fun q hq => by cases hq)))
                have O1 := Lib.hid (show Own wtK 52 W6 W5.heap.size A1 (n') c1 (M.take (n')) from ⟨SLI.out.len, ho, SLI.out.each⟩)
                have S6 := Lib.hid (S5.out.beside hg (fun e => by cases e))
                have s6c := S6.out.cell
                have s6l := S6.out.lt
                have s6f := S6.out.free
                have X6 := Lib.hid (X5.out.beside hg (fun e => by cases e))
                have x6c := X6.out.cell
                have x6l := X6.out.lt
                have x6f := X6.out.free
                have R6 := Lib.hid (R5.out.beside hg (fun e => by cases e))
                have r6c := R6.out.cell
                have r6l := R6.out.lt
                have r6f := R6.out.free
                clear s5c s5l s5f x5c x5l x5f r5c r5l r5f
                clear ho hg
                have OK := O1.out.kept (below_alloc1 W6 (.cells #[.int .i64 v.pid, .string v.pos.g, .string v.pos.t, .int .i64 v.pos.p, .int .i64 v.pos.h, .int .i64 v.pos.o] 52))
                have gg := (below_alloc1 W6 (.cells #[.int .i64 v.pid, .string v.pos.g, .string v.pos.t, .int .i64 v.pos.p, .int .i64 v.pos.h, .int .i64 v.pos.o] 52)).size
                have OKH := Lib.hid OK
                clear OK
                go_wp2_with (at_builtin; refine wpList_app1 (K := wtK) _ rfl _ _ 23 rfl W5.heap.size 52 i0 _ 64 Try.underlying23 hi hz0 hz1 hz2 rfl A1 (n') c1 _ rfl OKH.out W6.heap.size rfl v (fun j _ => ((Has.newAt W6 #[.int .i64 v.pid, .string v.pos.g, .string v.pos.t, .int .i64 v.pos.p, .int .i64 v.pos.h, .int .i64 v.pos.o] 52 (g := W6.heap.size) rfl).cell j).trans (by simp; rfl)) HX.out (fun _ _ h => h) ?qc2 ?qc3 ?qc4 ?_)
                case qc2 => unfold maxLen; omega
                case qc3 => omega
                case qc4 => exact Nat.le_trans g6 gg
                intro A2 c2 W7 ho hg _
                have O2 := Lib.hid ho
                have g7 := hg.size
                have zz7 : W5.heap.size ≤ W7.heap.size := by omega
                have b2 := B6.out.trans ((below_alloc1 W6 (.cells #[.int .i64 v.pid, .string v.pos.g, .string v.pos.t, .int .i64 v.pos.p, .int .i64 v.pos.h, .int .i64 v.pos.o] 52)).mono B6.out.size)
                have B7 := Lib.hid (b2.trans (grown_below hg b2.size (fun q hq => Nat.le_trans z5 (O1.out.2.1.lt q hq).1)))
                have S7 := Lib.hid ((S6.out.alloc _).beside hg (fun e => by have h1 := (O1.out.2.1.lt _ e.symm).1; have h2 := S5.out.lt; omega))
                have s7c := S7.out.cell
                have s7l := S7.out.lt
                have s7f := S7.out.free
                have X7 := Lib.hid ((X6.out.alloc _).beside hg (fun e => by have h1 := (O1.out.2.1.lt _ e.symm).1; have h2 := X5.out.lt; omega))
                have x7c := X7.out.cell
                have x7l := X7.out.lt
                have x7f := X7.out.free
                have R7 := Lib.hid ((R6.out.alloc _).beside hg (fun e => by have h1 := (O1.out.2.1.lt _ e.symm).1; have h2 := R5.out.lt; omega))
                have r7c := R7.out.cell
                have r7l := R7.out.lt
                have r7f := R7.out.free
                clear s6c s6l s6f x6c x6l x6f r6c r6l r6f
                clear ho hg b2
                by_cases hcm : c' = n'
                · have hnr : n' = n' := by omega
                  have SLR := Lib.hid (show Sl wtK W7 (some a0) 0 0 ([] : List Wt) from sl_zeroA (Nat.zero_le _) rfl)
                  have HD := Lib.hid (show M.drop (n') = [] from List.drop_eq_nil_of_le (by rw [HM.out.len]; omega))
                  have hcm2 := hcm.symm
                  subst hcm2
                  go_wp2_with (at_builtin; refine wpList_append_sl (K := wtK) _ rfl _ _ 23 rfl W5.heap.size 52 i0 _ 64 Try.underlying23 hi hz0 hz1 hz2 rfl A2 _ c2 _ rfl O2.out.2.1 _ 0 _ ([] : List Wt) (by first | rfl | (go_simp; rfl)) SLR.out (by unfold maxLen; omega) (by omega) zz7 ?_)
                  intro A3 c3 W8 ho hg _
                  have S8 := Lib.hid (S7.out.beside hg (fun e => by have h1 := (O2.out.2.1.lt _ e.symm).1; have h2 := S5.out.lt; omega))
                  have s8c := S8.out.cell
                  have s8l := S8.out.lt
                  have s8f := S8.out.free
                  have X8 := Lib.hid (X7.out.beside hg (fun e => by have h1 := (O2.out.2.1.lt _ e.symm).1; have h2 := X5.out.lt; omega))
                  have x8c := X8.out.cell
                  have x8l := X8.out.lt
                  have x8f := X8.out.free
                  have R8 := Lib.hid (R7.out.beside hg (fun e => by have h1 := (O2.out.2.1.lt _ e.symm).1; have h2 := R5.out.lt; omega))
                  have r8c := R8.out.cell
                  have r8l := R8.out.lt
                  have r8f := R8.out.free
                  clear s7c s7l s7f x7c x7l x7f r7c r7l r7f
                  have B8 := Lib.hid (B7.out.trans (grown_below hg B7.out.size (fun q hq => Nat.le_trans z5 (O2.out.2.1.lt q hq).1)))
                  have O3 := Lib.hid (show Own wtK 52 W8 W5.heap.size A3 (n' + 1) c3 (insC ordW v M) from by
                    rw [ins_srch SR.out]
                    refine ⟨by simp only [List.length_append, List.length_cons, List.length_take, List.length_drop]; have := HM.out.len; simp <;> omega, by simpa [List.flatMap_append, HD.out] using ho, fun y hy => ?_⟩
                    have hy2 : y ∈ insC ordW v M := by rw [ins_srch SR.out]; exact hy
                    rcases ins_mem hy2 with rfl | hy2
                    · exact HX.out
                    · exact HM.out.each y hy2)
                  clear ho hg
                  obtain ⟨n3, hn3, hsv⟩ : ∃ m, m = n' + 1 ∧ Value.slice A3 (n' + 1) c3 = Value.slice A3 m c3 := ⟨_, rfl, rfl⟩
                  rw [hsv]
                  rw [← hn3] at O3
                  clear hsv
                  have hn4 : n3 ≤ 60001 := by omega
                  clear hn3
                  by_cases h1 : 4096 < n3
                  · have HR := Lib.hid (show V = ([], [], 2) from by rw [HV.out]; unfold capV; rw [if_pos (.inr (by rw [O3.out.1]; exact h1))])
                    have dc : decide ((4096 : Int) < (n3 : Int)) = true := decide_eq_true (by omega)
                    clear h1
                    go_wp2_with fail
                    refine bodyPost_ret (v := .tuple #[ofV none 0 0 none 0 0, .int .i64 2]) (by simp [results, Try.results17, go_sem, r8c]) rfl ?_
                    exact chRes_no HR.out (B8.out.trans (grown_below (setCells_grown (w.heap.size + 1 + 1) [.slice none 0 0, .slice none 0 0] 0 W8) B8.out.size (fun k hk => by injection hk with hk; omega)))
                  · have HR := Lib.hid (show V = (L, insC ordW v M, 0) from by rw [HV.out]; unfold capV; rw [if_neg (fun h => h.elim LL.out (by rw [O3.out.1]; exact h1))])
                    have dc : decide ((4096 : Int) < (n3 : Int)) = false := decide_eq_false (by omega)
                    clear h1
                    have NEW : Hid (Of.At W8 ⟨A, n, c, L, A3, n3, c3, insC ordW v M⟩) := Lib.hid ⟨HO.out.1.below B8.out, O3.out.sl⟩
                    have OL := Lib.hid (fun b off (e : A3 = some (⟨b, off, none⟩ : Addr)) => Nat.le_trans z3w (O3.out.lt e).1)
                    go_wp2_with fail
                    have G2 := setCells_grown (w.heap.size + 1 + 1) [.slice A n c, .slice A3 n3 c3] 0 W8
                    refine bodyPost_ret (v := .tuple #[(⟨A, n, c, L, A3, n3, c3, insC ordW v M⟩ : Of).v, .int .i64 0]) (by simp [results, Try.results17, go_sem, r8c]) rfl ?_
                    have b2 := B8.out.trans (grown_below G2 B8.out.size (fun k hk => by injection hk with hk; omega))
                    rw [HR.out]
                    have KP := fun hf => Of.At.kept (D := w.heap.size + 3) NEW.out hf HO.out b2 G2 (by omega)
                    exact ⟨⟨A, n, c, L, A3, n3, c3, insC ordW v M⟩, rfl, KP ⟨.inl ⟨rfl, rfl, rfl, rfl⟩, .inr OL.out⟩, rfl, rfl, ⟨.inl ⟨rfl, rfl, rfl, rfl⟩, .inr fun b off e => Nat.le_trans (by omega) (OL.out b off e)⟩, b2⟩
                · have SLR := Lib.hid (show Sl wtK W7 (some (a0.add ((n') * wtK.size))) (n' - (n')) (c' - (n')) (M.drop (n')) from by have := sl_dropA (HM.out.below B7.out) (n') (by omega); rw [if_neg hcm] at this; exact this)
                  have HD := Lib.hid True.intro
                  go_wp2_with (at_builtin; refine wpList_append_sl (K := wtK) _ rfl _ _ 23 rfl W5.heap.size 52 i0 _ 64 Try.underlying23 hi hz0 hz1 hz2 rfl A2 _ c2 _ rfl O2.out.2.1 _ (n' - (n')) _ (M.drop (n')) (by first | rfl | (go_simp; rfl)) SLR.out (by unfold maxLen; omega) (by omega) zz7 ?_)
                  intro A3 c3 W8 ho hg _
                  have S8 := Lib.hid (S7.out.beside hg (fun e => by have h1 := (O2.out.2.1.lt _ e.symm).1; have h2 := S5.out.lt; omega))
                  have s8c := S8.out.cell
                  have s8l := S8.out.lt
                  have s8f := S8.out.free
                  have X8 := Lib.hid (X7.out.beside hg (fun e => by have h1 := (O2.out.2.1.lt _ e.symm).1; have h2 := X5.out.lt; omega))
                  have x8c := X8.out.cell
                  have x8l := X8.out.lt
                  have x8f := X8.out.free
                  have R8 := Lib.hid (R7.out.beside hg (fun e => by have h1 := (O2.out.2.1.lt _ e.symm).1; have h2 := R5.out.lt; omega))
                  have r8c := R8.out.cell
                  have r8l := R8.out.lt
                  have r8f := R8.out.free
                  clear s7c s7l s7f x7c x7l x7f r7c r7l r7f
                  have B8 := Lib.hid (B7.out.trans (grown_below hg B7.out.size (fun q hq => Nat.le_trans z5 (O2.out.2.1.lt q hq).1)))
                  have O3 := Lib.hid (show Own wtK 52 W8 W5.heap.size A3 (n' + 1) c3 (insC ordW v M) from by
                    rw [ins_srch SR.out]
                    refine ⟨by simp only [List.length_append, List.length_cons, List.length_take, List.length_drop]; have := HM.out.len; simp <;> omega, by simpa [List.flatMap_append, HD.out] using ho, fun y hy => ?_⟩
                    have hy2 : y ∈ insC ordW v M := by rw [ins_srch SR.out]; exact hy
                    rcases ins_mem hy2 with rfl | hy2
                    · exact HX.out
                    · exact HM.out.each y hy2)
                  clear ho hg
                  obtain ⟨n3, hn3, hsv⟩ : ∃ m, m = n' + 1 ∧ Value.slice A3 (n' + 1) c3 = Value.slice A3 m c3 := ⟨_, rfl, rfl⟩
                  rw [hsv]
                  rw [← hn3] at O3
                  clear hsv
                  have hn4 : n3 ≤ 60001 := by omega
                  clear hn3
                  by_cases h1 : 4096 < n3
                  · have HR := Lib.hid (show V = ([], [], 2) from by rw [HV.out]; unfold capV; rw [if_pos (.inr (by rw [O3.out.1]; exact h1))])
                    have dc : decide ((4096 : Int) < (n3 : Int)) = true := decide_eq_true (by omega)
                    clear h1
                    go_wp2_with fail
                    refine bodyPost_ret (v := .tuple #[ofV none 0 0 none 0 0, .int .i64 2]) (by simp [results, Try.results17, go_sem, r8c]) rfl ?_
                    exact chRes_no HR.out (B8.out.trans (grown_below (setCells_grown (w.heap.size + 1 + 1) [.slice none 0 0, .slice none 0 0] 0 W8) B8.out.size (fun k hk => by injection hk with hk; omega)))
                  · have HR := Lib.hid (show V = (L, insC ordW v M, 0) from by rw [HV.out]; unfold capV; rw [if_neg (fun h => h.elim LL.out (by rw [O3.out.1]; exact h1))])
                    have dc : decide ((4096 : Int) < (n3 : Int)) = false := decide_eq_false (by omega)
                    clear h1
                    have NEW : Hid (Of.At W8 ⟨A, n, c, L, A3, n3, c3, insC ordW v M⟩) := Lib.hid ⟨HO.out.1.below B8.out, O3.out.sl⟩
                    have OL := Lib.hid (fun b off (e : A3 = some (⟨b, off, none⟩ : Addr)) => Nat.le_trans z3w (O3.out.lt e).1)
                    go_wp2_with fail
                    have G2 := setCells_grown (w.heap.size + 1 + 1) [.slice A n c, .slice A3 n3 c3] 0 W8
                    refine bodyPost_ret (v := .tuple #[(⟨A, n, c, L, A3, n3, c3, insC ordW v M⟩ : Of).v, .int .i64 0]) (by simp [results, Try.results17, go_sem, r8c]) rfl ?_
                    have b2 := B8.out.trans (grown_below G2 B8.out.size (fun k hk => by injection hk with hk; omega))
                    rw [HR.out]
                    have KP := fun hf => Of.At.kept (D := w.heap.size + 3) NEW.out hf HO.out b2 G2 (by omega)
                    exact ⟨⟨A, n, c, L, A3, n3, c3, insC ordW v M⟩, rfl, KP ⟨.inl ⟨rfl, rfl, rfl, rfl⟩, .inr OL.out⟩, rfl, rfl, ⟨.inl ⟨rfl, rfl, rfl, rfl⟩, .inr fun b off e => Nat.le_trans (by omega) (OL.out b off e)⟩, b2⟩
  · have HR := Lib.hid (show V = ([], [], k) from by rw [← hV]; unfold holdV chV; rw [if_neg (by rw [hk]; exact h0), hk])
    have d1 : decide (k = 0) = false := decide_eq_false h0
    have d2 : (k != 0) = true := by rw [bne_iff_ne]; exact h0
    have d3 : (k == 0) = false := by rw [beq_eq_false_iff_ne]; exact h0
    clear hk hV hr ho hv h0 hV2
    go_enter Try.func17, Try.ntmps17
    go_wp2_with fail
    rw [← HW0.out]
    obtain ⟨ov, hov⟩ : ∃ x, Of.v ⟨A, n, c, L, A', n', c', M⟩ = x := ⟨_, rfl⟩
    rw [hov]
    clear hov
    go_wp2_with (first
      | (go_at_call 21
         refine (CK.out _ B0.out).mono ?_
         rintro e w1 ⟨rfl, hb⟩
         have B1 := Lib.hid (below_from hb B0.out B0.out.size)
         have z1 := Lib.hid (Nat.le_trans z0.out hb.size)
         have S1 := Lib.hid (S0.out.past hb)
         have s1c := S1.out.cell
         have s1l := S1.out.lt
         have s1f := S1.out.free
         have P1 := Lib.hid (P0.out.past hb)
         have p1c := P1.out.cell
         have p1l := P1.out.lt
         have p1f := P1.out.free
         have R1 := Lib.hid (R0.out.past hb)
         have r1c := R1.out.cell
         have r1l := R1.out.lt
         have r1f := R1.out.free
         clear s0c s0l s0f
         clear p0c p0l p0f
         clear r0c r0l r0f

         clear hb))
    refine bodyPost_ret (v := .tuple #[ofV none 0 0 none 0 0, .int .i64 k]) (by simp [results, Try.results17, go_sem, r1c]) rfl ?_
    exact chRes_no HR.out (B1.out.trans (grown_below (setCells_grown (w.heap.size + 1 + 1) [.slice none 0 0, .slice none 0 0] 0 w1) B1.out.size (fun k hk => by injection hk with hk; omega)))

end Go.Proofs.Ytnkjkgakbgjddaa
