/- The document's Check. -/
import Derived.Test.YtnkjkgakbgjddaaRNm
namespace Go.Proofs.Ytnkjkgakbgjddaa
open Go.RowKit

set_option maxRecDepth 100000 in
set_option maxHeartbeats 16000000 in
theorem rcheck_any (o : Of) (w : World) (ho : Of.At w o) : Calls Try.prog 21 #[o.v] w fun e w' => e = .returned (.int .i64 (checkV o.L o.M)) ∧ Below w.heap.size w w' := by
  obtain ⟨A, n, c, L, A', n', c', M⟩ := o
  obtain ⟨W0, hW0⟩ : ∃ W0, W0 = w.alloc (.cells #[.slice A n c, .slice A' n' c'] 25) := ⟨_, rfl⟩
  have B0 := Lib.hid (show Below w.heap.size w W0 from by rw [hW0]; exact below_alloc1 w _)
  have S0 := Lib.hid (show Has W0 w.heap.size #[.slice A n c, .slice A' n' c'] from by rw [hW0]; exact Has.newAt w _ 25 rfl)
  have HW0 := Lib.hid hW0
  have HL := Lib.hid (show Sl psK w A n c L from ho.1)
  have HM := Lib.hid (show Sl wtK w A' n' c' M from ho.2)
  have LN := Lib.hid (show L.length = n from ho.1.len)
  have LM := Lib.hid (show M.length = n' from ho.2.len)
  have l1 : c ≤ _ := ho.1.max
  have l2 : n ≤ c := ho.1.cap
  have l3 : c' ≤ _ := ho.2.max
  have l4 : n' ≤ c' := ho.2.cap
  clear ho hW0
  obtain ⟨V, hV⟩ : ∃ V, checkV L M = V := ⟨_, rfl⟩
  have HV := Lib.hid hV
  simp only [hV]
  clear hV
  go_enter Try.func21, Try.ntmps21
  go_wp2_with fail
  rw [← HW0.out]
  obtain ⟨ov, hov⟩ : ∃ v, Of.v ⟨A, n, c, L, A', n', c', M⟩ = v := ⟨_, rfl⟩
  rw [hov]
  clear hov
  go_loopg [3] n (fun gg s3 wr => ∃ k : Nat, k ≤ n ∧ n - k ≤ gg ∧ s3 = .int .i64 k ∧ Hid (Below W0.heap.size W0 wr) ∧ Hid (∀ i (h : i < L.length), i < k → rightP L[i] = true ∧ ∀ (h0 : 0 < i), ordP (L[i - 1]'(by omega)) L[i] < 0))
  case atStart => exact ⟨0, Nat.zero_le _, by omega, rfl, Lib.hid (Below.refl _ _), Lib.hid (fun i _ hi => absurd hi (Nat.not_lt_zero _))⟩
  case round =>
    obtain ⟨k, hk, hgg, rfl, hb, hok⟩ := hrel
    have sc := (S0.out.past hb.out).cell
    have sl := (S0.out.past hb.out).lt
    by_cases hlt : k < n
    · obtain ⟨bb, off, hkl, hA, hbl, u0, u1, u2, u3, u4⟩ := Pss.at_ (HL.out.below (B0.out.trans (hb.out.mono B0.out.size))) hlt
      obtain ⟨x, hx⟩ : ∃ x, L[k] = x := ⟨_, rfl⟩
      have XW := Lib.hid (show x.wf from by have := HL.out.each _ (List.getElem_mem hkl); rw [hx] at this; exact this)
      rw [hx] at u0 u1 u2 u3 u4
      have YES := Lib.hid (show ((rightP x = true ∧ ∀ (h0 : 0 < k), ordP (L[k - 1]'(by omega)) x < 0) → (∀ i (h : i < L.length), i < k + 1 → rightP L[i] = true ∧ ∀ (h0 : 0 < i), ordP (L[i - 1]'(by omega)) L[i] < 0)) from fun hn i hi hik => by
        rcases Nat.lt_or_ge i k with h' | h'
        · exact hok.out i hi h'
        · obtain rfl : i = k := by omega
          rw [hx]; exact hn)
      have NOV := Lib.hid (show ((rightP x = false ∨ (0 < k ∧ ∀ (h0 : 0 < k), ¬ ordP (L[k - 1]'(by omega)) x < 0)) → V = 1) from fun hn => by
        rw [← HV.out]
        unfold checkV
        rw [if_neg]
        intro hk2
        have h3 := kept_at.1 hk2.1 k hkl
        rw [hx] at h3
        rcases hn with hn | ⟨h0, hn⟩
        · rw [hn] at h3; cases h3.1
        · exact hn h0 (h3.2 h0))
      have sc0 : wr.cell? ⟨w.heap.size, 0, none⟩ = some (.slice (some ⟨bb, off, none⟩) n c) := (sc 0).trans (by rw [hA]; rfl)
      have k0 : (0 : Int) ≤ (k : Int) := by omega
      have k1 : (k : Int) < (n : Int) := by omega
      clear hx

      have rs := at_regrown sc0
      have rx0 := at_regrown u0
      have rx1 := at_regrown u1
      have rx2 := at_regrown u2
      have rx3 := at_regrown u3
      have rx4 := at_regrown u4
      obtain ⟨r, hr⟩ : ∃ r, rightP x = r := ⟨_, rfl⟩
      have RT := Lib.hid (fun W' (_ : Below wr.heap.size wr W') => rpos_any x W' XW.out.1 XW.out.2.1)
      rw [hr] at RT NOV YES
      unfold Ps.v at RT
      cases r with
      | false =>
        clear hr
        have RV := Lib.hid (NOV.out (.inl rfl))
        clear NOV YES
        go_wp2_with fail
        refine region_below (by kernel_rfl) (by kernel_rfl) ?_
        repeat (go_big_quiet_step (exact call_regrown RT.out))
        refine wpQuiet_nil ?_
        intro wz hbz
        have BZ := Lib.hid (below_from hbz hb.out hb.out.size)
        clear hbz
        go_wp2_with fail
        go_ret
        exact ⟨ret_int (by rw [RV.out]), (Below.trans B0.out (BZ.out.mono B0.out.size))⟩
      | true =>
        clear hr
        rcases (show k = 0 ∨ ∃ j, j + 1 = k by cases k with | zero => exact .inl rfl | succ j => exact .inr ⟨j, rfl⟩) with k00 | ⟨j, hjk⟩
        · have d0 : decide ((0 : Int) < (k : Int)) = false := decide_eq_false (by omega)
          have d0' : decide (0 < k) = false := decide_eq_false (by omega)
          have YS := Lib.hid (YES.out ⟨rfl, fun h0 => absurd k00 (by omega)⟩)
          clear NOV YES
          clear k00
          go_wp2_with fail
          refine region_below (by kernel_rfl) (by kernel_rfl) ?_
          repeat (go_big_quiet_step (exact call_regrown RT.out))
          refine wpQuiet_nil ?_
          intro wz hbz
          have BZ := Lib.hid (below_from hbz hb.out hb.out.size)
          clear hbz
          go_wp2_with fail
          go_roundg (n - (k + 1))
          case measure => omega
          case rel => exact ⟨k + 1, by omega, by omega, by go_num, BZ, YS⟩
        · have d0 : decide ((0 : Int) < (k : Int)) = true := decide_eq_true (by omega)
          have d0' : decide (0 < k) = true := decide_eq_true (by omega)
          obtain ⟨bb2, off2, hjl, hA2, _, v0, v1, v2, v3, v4⟩ := Pss.at_ (HL.out.below (B0.out.trans (hb.out.mono B0.out.size))) (show j < n by omega)
          rw [hA] at hA2
          injection hA2 with hE; injection hE with hE1 hE2; subst hE1; subst hE2
          obtain ⟨y, hy⟩ : ∃ y, L[j] = y := ⟨_, rfl⟩
          rw [hy] at v0 v1 v2 v3 v4
          have wj : IntKind.i64.wrap ((k : Int) - 1) = (j : Int) := by rw [IntWalk.i64_in _ (by omega)]; omega
          have wj2 : (k : Int) - 1 = (j : Int) := by omega
          have j0 : (0 : Int) ≤ (j : Int) := by omega
          have j1 : (j : Int) < (n : Int) := by omega
          have ry0 := at_regrown v0
          have ry1 := at_regrown v1
          have ry2 := at_regrown v2
          have ry3 := at_regrown v3
          have ry4 := at_regrown v4
          obtain ⟨q, hq⟩ : ∃ q, decide (ordP y x < 0) = q := ⟨_, rfl⟩
          have OD := Lib.hid (fun W' (_ : Below wr.heap.size wr W') => rless_any y x W')
          rw [hq] at OD
          unfold Ps.v at OD
          have PQ := Lib.hid (show ∀ h0 : 0 < k, ordP (L[k - 1]'(by omega)) x < 0 ↔ q = true from fun h0 => by
            subst hjk
            rw [← hq, decide_eq_true_iff]
            simp only [Nat.add_sub_cancel, hy])
          clear hq hy v0 v1 v2 v3 v4 hjl
          cases q with
          | true =>
            have YS := Lib.hid (YES.out ⟨rfl, fun h0 => (PQ.out h0).2 rfl⟩)
            clear NOV YES
            clear PQ
            go_wp2_with fail
            refine region_below (by kernel_rfl) (by kernel_rfl) ?_
            repeat (go_big_quiet_step (first | exact call_regrown RT.out | exact call_regrown OD.out))
            refine wpQuiet_nil ?_
            intro wz hbz
            have BZ := Lib.hid (below_from hbz hb.out hb.out.size)
            clear hbz
            go_wp2_with fail
            go_roundg (n - (k + 1))
            case measure => omega
            case rel => exact ⟨k + 1, by omega, by omega, by go_num, BZ, YS⟩
          | false =>
            have RV := Lib.hid (NOV.out (.inr ⟨by omega, fun h0 h => by cases (PQ.out h0).1 h⟩))
            clear NOV YES
            clear PQ
            go_wp2_with fail
            refine region_below (by kernel_rfl) (by kernel_rfl) ?_
            repeat (go_big_quiet_step (first | exact call_regrown RT.out | exact call_regrown OD.out))
            refine wpQuiet_nil ?_
            intro wz hbz
            have BZ := Lib.hid (below_from hbz hb.out hb.out.size)
            clear hbz
            go_wp2_with fail
            go_ret
            exact ⟨ret_int (by rw [RV.out]), (Below.trans B0.out (BZ.out.mono B0.out.size))⟩
    · have jn : n = k := by omega
      subst jn
      have KL := Lib.hid (show keptB rightP ordP L = true from kept_at.2 fun i hi => hok.out i hi (by rw [← LN.out]; exact hi))
      clear hok hgg hk hlt
      go_wp2_with fail
      go_loopg [4] n' (fun gg s3 wr => ∃ k : Nat, k ≤ n' ∧ n' - k ≤ gg ∧ s3 = .int .i64 k ∧ Hid (Below W0.heap.size W0 wr) ∧ Hid (∀ i (h : i < M.length), i < k → rightW M[i] = true ∧ ∀ (h0 : 0 < i), ordW (M[i - 1]'(by omega)) M[i] < 0))
      case atStart => exact ⟨0, Nat.zero_le _, by omega, rfl, hb, Lib.hid (fun i _ hi => absurd hi (Nat.not_lt_zero _))⟩
      case round =>
        obtain ⟨k, hk, hgg, rfl, hb, hok⟩ := hrel
        have sc := (S0.out.past hb.out).cell
        have sl := (S0.out.past hb.out).lt
        by_cases hlt : k < n'
        · obtain ⟨bb, off, hkl, hA, hbl, u0, u1, u2, u3, u4, u5⟩ := Wts.at_ (HM.out.below (B0.out.trans (hb.out.mono B0.out.size))) hlt
          obtain ⟨x, hx⟩ : ∃ x, M[k] = x := ⟨_, rfl⟩
          have XW := Lib.hid (show x.wf from by have := HM.out.each _ (List.getElem_mem hkl); rw [hx] at this; exact this)
          rw [hx] at u0 u1 u2 u3 u4 u5
          have YES := Lib.hid (show ((rightW x = true ∧ ∀ (h0 : 0 < k), ordW (M[k - 1]'(by omega)) x < 0) → (∀ i (h : i < M.length), i < k + 1 → rightW M[i] = true ∧ ∀ (h0 : 0 < i), ordW (M[i - 1]'(by omega)) M[i] < 0)) from fun hn i hi hik => by
            rcases Nat.lt_or_ge i k with h' | h'
            · exact hok.out i hi h'
            · obtain rfl : i = k := by omega
              rw [hx]; exact hn)
          have NOV := Lib.hid (show ((rightW x = false ∨ (0 < k ∧ ∀ (h0 : 0 < k), ¬ ordW (M[k - 1]'(by omega)) x < 0)) → V = 1) from fun hn => by
            rw [← HV.out]
            unfold checkV
            rw [if_neg]
            intro hk2
            have h3 := kept_at.1 hk2.2 k hkl
            rw [hx] at h3
            rcases hn with hn | ⟨h0, hn⟩
            · rw [hn] at h3; cases h3.1
            · exact hn h0 (h3.2 h0))
          have sc0 : wr.cell? ⟨w.heap.size, 1, none⟩ = some (.slice (some ⟨bb, off, none⟩) n' c') := (sc 1).trans (by rw [hA]; rfl)
          have k0 : (0 : Int) ≤ (k : Int) := by omega
          have k1 : (k : Int) < (n' : Int) := by omega
          clear hx
          obtain ⟨W, hW⟩ : ∃ W, W = wr.alloc (.cells #[.int .i64 x.pid, .string x.pos.g, .string x.pos.t, .int .i64 x.pos.p, .int .i64 x.pos.h, .int .i64 x.pos.o] 52) := ⟨_, rfl⟩
          have bW : Below wr.heap.size wr W := by rw [hW]; exact below_alloc1 _ _
          have BX := Lib.hid (show Has W wr.heap.size #[.int .i64 x.pid, .string x.pos.g, .string x.pos.t, .int .i64 x.pos.p, .int .i64 x.pos.h, .int .i64 x.pos.o] from by rw [hW]; exact Has.newAt wr _ 52 rfl)
          have HWW := Lib.hid hW
          clear hW
          have rs := at_regrown ((bW.cell sl).trans sc0)
          have rx0 := at_regrown (a := ⟨wr.heap.size, 0, none⟩) (v := .int .i64 x.pid) (BX.out.cell 0)
          have rx1 := at_regrown (a := ⟨wr.heap.size, 1, none⟩) (v := .string x.pos.g) (BX.out.cell 1)
          have rx2 := at_regrown (a := ⟨wr.heap.size, 2, none⟩) (v := .string x.pos.t) (BX.out.cell 2)
          have rx3 := at_regrown (a := ⟨wr.heap.size, 3, none⟩) (v := .int .i64 x.pos.p) (BX.out.cell 3)
          have rx4 := at_regrown (a := ⟨wr.heap.size, 4, none⟩) (v := .int .i64 x.pos.h) (BX.out.cell 4)
          have rx5 := at_regrown (a := ⟨wr.heap.size, 5, none⟩) (v := .int .i64 x.pos.o) (BX.out.cell 5)
          by_cases p1 : x.pid < 0
          · have e1 : decide (x.pid < 0) = true := decide_eq_true p1
            have NR := Lib.hid (show rightW x = false from by unfold rightW; rw [decide_eq_false (fun h : 0 ≤ x.pid ∧ x.pid ≤ 1099511627776 => by omega)]; rfl)
            have RV := Lib.hid (NOV.out (.inl NR.out))
            clear NOV YES
            clear NR
            clear p1
            go_wp2_with fail
            rw [← HWW.out]
            refine region_below (by kernel_rfl) (by kernel_rfl) ?_
            repeat (go_big_quiet_step (fail))
            refine wpQuiet_nil ?_
            intro wz hbz
            have BZ := Lib.hid (below_from hbz (below_from bW hb.out hb.out.size) (below_from bW hb.out hb.out.size).size)
            clear hbz
            go_wp2_with fail
            go_ret
            exact ⟨ret_int (by rw [RV.out]), (Below.trans B0.out (BZ.out.mono B0.out.size))⟩
          · by_cases p2 : 1099511627776 < x.pid
            · have e1 : decide (x.pid < 0) = false := decide_eq_false p1
              have e2 : decide (1099511627776 < x.pid) = true := decide_eq_true p2
              have NR := Lib.hid (show rightW x = false from by unfold rightW; rw [decide_eq_false (fun h : 0 ≤ x.pid ∧ x.pid ≤ 1099511627776 => by omega)]; rfl)
              have RV := Lib.hid (NOV.out (.inl NR.out))
              clear NOV YES
              clear NR
              clear p1 p2
              go_wp2_with fail
              rw [← HWW.out]
              refine region_below (by kernel_rfl) (by kernel_rfl) ?_
              repeat (go_big_quiet_step (fail))
              refine wpQuiet_nil ?_
              intro wz hbz
              have BZ := Lib.hid (below_from hbz (below_from bW hb.out hb.out.size) (below_from bW hb.out hb.out.size).size)
              clear hbz
              go_wp2_with fail
              go_ret
              exact ⟨ret_int (by rw [RV.out]), (Below.trans B0.out (BZ.out.mono B0.out.size))⟩
            · have e1 : decide (x.pid < 0) = false := decide_eq_false p1
              have e2 : decide (1099511627776 < x.pid) = false := decide_eq_false p2
              have RE := Lib.hid (show rightW x = rightP x.pos from by unfold rightW; rw [decide_eq_true (show 0 ≤ x.pid ∧ x.pid ≤ 1099511627776 by omega)]; rfl)
              obtain ⟨r, hr⟩ : ∃ r, rightP x.pos = r := ⟨_, rfl⟩
              have RT := Lib.hid (fun W' (_ : Below W.heap.size W W') => rpos_any x.pos W' XW.out.2.1 XW.out.2.2.1)
              rw [RE.out, hr] at NOV YES
              rw [hr] at RT
              unfold Ps.v at RT
              clear p1 p2
              cases r with
              | false =>
                clear hr
                have RV := Lib.hid (NOV.out (.inl rfl))
                clear NOV YES
                go_wp2_with fail
                rw [← HWW.out]
                refine region_below (by kernel_rfl) (by kernel_rfl) ?_
                repeat (go_big_quiet_step (exact call_regrown RT.out))
                refine wpQuiet_nil ?_
                intro wz hbz
                have BZ := Lib.hid (below_from hbz (below_from bW hb.out hb.out.size) (below_from bW hb.out hb.out.size).size)
                clear hbz
                go_wp2_with fail
                go_ret
                exact ⟨ret_int (by rw [RV.out]), (Below.trans B0.out (BZ.out.mono B0.out.size))⟩
              | true =>
                clear hr
                rcases (show k = 0 ∨ ∃ j, j + 1 = k by cases k with | zero => exact .inl rfl | succ j => exact .inr ⟨j, rfl⟩) with k00 | ⟨j, hjk⟩
                · have d0 : decide ((0 : Int) < (k : Int)) = false := decide_eq_false (by omega)
                  have d0' : decide (0 < k) = false := decide_eq_false (by omega)
                  have YS := Lib.hid (YES.out ⟨rfl, fun h0 => absurd k00 (by omega)⟩)
                  clear NOV YES
                  clear k00
                  go_wp2_with fail
                  rw [← HWW.out]
                  refine region_below (by kernel_rfl) (by kernel_rfl) ?_
                  repeat (go_big_quiet_step (exact call_regrown RT.out))
                  refine wpQuiet_nil ?_
                  intro wz hbz
                  have BZ := Lib.hid (below_from hbz (below_from bW hb.out hb.out.size) (below_from bW hb.out hb.out.size).size)
                  clear hbz
                  go_wp2_with fail
                  go_roundg (n' - (k + 1))
                  case measure => omega
                  case rel => exact ⟨k + 1, by omega, by omega, by go_num, BZ, YS⟩
                · have d0 : decide ((0 : Int) < (k : Int)) = true := decide_eq_true (by omega)
                  have d0' : decide (0 < k) = true := decide_eq_true (by omega)
                  obtain ⟨bb2, off2, hjl, hA2, _, v0, v1, v2, v3, v4, v5⟩ := Wts.at_ (HM.out.below (B0.out.trans (hb.out.mono B0.out.size))) (show j < n' by omega)
                  rw [hA] at hA2
                  injection hA2 with hE; injection hE with hE1 hE2; subst hE1; subst hE2
                  obtain ⟨y, hy⟩ : ∃ y, M[j] = y := ⟨_, rfl⟩
                  rw [hy] at v0 v1 v2 v3 v4 v5
                  have wj : IntKind.i64.wrap ((k : Int) - 1) = (j : Int) := by rw [IntWalk.i64_in _ (by omega)]; omega
                  have wj2 : (k : Int) - 1 = (j : Int) := by omega
                  have j0 : (0 : Int) ≤ (j : Int) := by omega
                  have j1 : (j : Int) < (n' : Int) := by omega
                  have ry0 := at_regrown ((bW.cell hbl).trans v0)
                  have ry1 := at_regrown ((bW.cell hbl).trans v1)
                  have ry2 := at_regrown ((bW.cell hbl).trans v2)
                  have ry3 := at_regrown ((bW.cell hbl).trans v3)
                  have ry4 := at_regrown ((bW.cell hbl).trans v4)
                  have ry5 := at_regrown ((bW.cell hbl).trans v5)
                  obtain ⟨q, hq⟩ : ∃ q, decide (ordW y x < 0) = q := ⟨_, rfl⟩
                  have OD := Lib.hid (fun W' (_ : Below W.heap.size W W') => rlessW_any y x W')
                  rw [hq] at OD
                  unfold Wt.v at OD
                  have PQ := Lib.hid (show ∀ h0 : 0 < k, ordW (M[k - 1]'(by omega)) x < 0 ↔ q = true from fun h0 => by
                    subst hjk
                    rw [← hq, decide_eq_true_iff]
                    simp only [Nat.add_sub_cancel, hy])
                  clear hq hy v0 v1 v2 v3 v4 v5 hjl
                  cases q with
                  | true =>
                    have YS := Lib.hid (YES.out ⟨rfl, fun h0 => (PQ.out h0).2 rfl⟩)
                    clear NOV YES
                    clear PQ
                    go_wp2_with fail
                    rw [← HWW.out]
                    refine region_below (by kernel_rfl) (by kernel_rfl) ?_
                    repeat (go_big_quiet_step (first | exact call_regrown RT.out | exact call_regrown OD.out))
                    refine wpQuiet_nil ?_
                    intro wz hbz
                    have BZ := Lib.hid (below_from hbz (below_from bW hb.out hb.out.size) (below_from bW hb.out hb.out.size).size)
                    clear hbz
                    go_wp2_with fail
                    go_roundg (n' - (k + 1))
                    case measure => omega
                    case rel => exact ⟨k + 1, by omega, by omega, by go_num, BZ, YS⟩
                  | false =>
                    have RV := Lib.hid (NOV.out (.inr ⟨by omega, fun h0 h => by cases (PQ.out h0).1 h⟩))
                    clear NOV YES
                    clear PQ
                    go_wp2_with fail
                    rw [← HWW.out]
                    refine region_below (by kernel_rfl) (by kernel_rfl) ?_
                    repeat (go_big_quiet_step (first | exact call_regrown RT.out | exact call_regrown OD.out))
                    refine wpQuiet_nil ?_
                    intro wz hbz
                    have BZ := Lib.hid (below_from hbz (below_from bW hb.out hb.out.size) (below_from bW hb.out hb.out.size).size)
                    clear hbz
                    go_wp2_with fail
                    go_ret
                    exact ⟨ret_int (by rw [RV.out]), (Below.trans B0.out (BZ.out.mono B0.out.size))⟩
        · have jn : n' = k := by omega
          subst jn
          have KM := Lib.hid (show keptB rightW ordW M = true from kept_at.2 fun i hi => hok.out i hi (by rw [← LM.out]; exact hi))
          clear hok
          have HV2 := Lib.hid (show V = if 4096 < n ∨ 4096 < n' then 2 else 0 from by rw [← HV.out]; unfold checkV; rw [if_pos ⟨KL.out, KM.out⟩, LN.out, LM.out])
          have BB := Lib.hid (Below.trans B0.out (hb.out.mono B0.out.size))
          by_cases c1 : 4096 < n
          · have d1 : decide ((4096 : Int) < (n : Int)) = true := decide_eq_true (by omega)
            have RV := Lib.hid (show V = 2 from by rw [HV2.out, if_pos (.inl c1)])
            clear c1
            go_wp2_with fail
            go_ret
            exact ⟨ret_int (by rw [RV.out]), BB.out⟩
          · have d1 : decide ((4096 : Int) < (n : Int)) = false := decide_eq_false (by omega)
            by_cases c2 : 4096 < n'
            · have d2 : decide ((4096 : Int) < (n' : Int)) = true := decide_eq_true (by omega)
              have RV := Lib.hid (show V = 2 from by rw [HV2.out, if_pos (.inr c2)])
              clear c1 c2
              go_wp2_with fail
              go_ret
              exact ⟨ret_int (by rw [RV.out]), BB.out⟩
            · have d2 : decide ((4096 : Int) < (n' : Int)) = false := decide_eq_false (by omega)
              have RV := Lib.hid (show V = 0 from by rw [HV2.out, if_neg (by omega)])
              clear c1 c2
              go_wp2_with fail
              go_ret
              exact ⟨ret_int (by rw [RV.out]), BB.out⟩

end Go.Proofs.Ytnkjkgakbgjddaa
