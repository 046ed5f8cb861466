/- Check, of the document. -/
import Derived.Test.YtnigjchgpmladaaMet
import Derived.Test.YtnigjchgpmladaaRtx
import Derived.Deep.DeepCutAuto
namespace Go.Proofs.Ytnigjchgpmladaa
open Go.RowKit Go.Shelf

set_option maxRecDepth 100000 in
set_option maxHeartbeats 16000000 in
theorem rcheck_any (o : Tc) (w : World) (ho : Tc.At w o) (hn : o.n ≤ 50000) (hf : ∀ x ∈ o.L, x.Pn ≤ 60000 ∧ x.Gn ≤ 60000) : Calls Try.prog 19 #[o.v] w fun e w' => e = .returned (.int .i64 (checkV o.val)) ∧ Below w.heap.size w w' := by
  have B1 := Lib.hid (below_alloc1 w (.cells #[.int .i64 o.next, .slice o.A o.n o.c] 24))
  have N1 := Lib.hid (Has.newAt w #[.int .i64 o.next, .slice o.A o.n o.c] 24 (g := w.heap.size) rfl)
  have HL := Lib.hid (show Sl txK w o.A o.n o.c o.L from ho)
  have HF := Lib.hid hf
  have hcap := ho.cap
  have hmax := ho.max
  have LO := Lib.hid (show o.L.length = o.n from ho.len)
  have LN := Lib.hid (show o.val.L.length = o.n from by rw [← ho.len]; simp [Tc.val])
  clear ho hf
  cases hnx : inB o.next 1099511627776 with
  | false =>
    have R := Lib.hid (show checkV o.val = 1 from chk_next hnx)
    have HNX := Lib.hid hnx
    clear hnx
    go_enter Try.func19, Try.ntmps19
    go_wp2_with (go_at_call 49; refine (in_any _ _).mono ?_; rintro e w' ⟨rfl, rfl⟩; rw [HNX.out])
    go_ret
    exact ⟨ret_int R.out.symm, B1.out⟩
  | true =>
  have HNX := Lib.hid hnx
  clear hnx
  obtain ⟨W1, hW1⟩ : ∃ W, W = w.alloc (.cells #[.int .i64 o.next, .slice o.A o.n o.c] 24) := ⟨_, rfl⟩
  rw [← hW1] at B1 N1
  have HW1 := Lib.hid hW1
  clear hW1
  have n1c := N1.out.cell
  have n1l := N1.out.lt
  go_enter Try.func19, Try.ntmps19
  go_upto_region 1 with (fail)
  rw [← HW1.out]
  go_wp2_with (go_at_call 49; refine (in_any _ _).mono ?_; rintro e w' ⟨rfl, rfl⟩; rw [HNX.out])
  obtain ⟨CA, hCA⟩ : ∃ A, o.A = A := ⟨_, rfl⟩
  rw [hCA] at HL N1
  clear hCA n1c n1l
  go_loopg [3] o.n (fun gg s3 wr => ∃ k : Nat, k ≤ o.n ∧ o.n - k ≤ gg ∧ s3 = .int .i64 k ∧ Hid (Has wr w.heap.size #[.int .i64 o.next, .slice CA o.n o.c]) ∧ Hid (Below w.heap.size w wr) ∧ Hid (allTo (rowAt o.next o.val.L) k = true))
  case atStart => exact ⟨0, Nat.zero_le _, by omega, rfl, N1, B1, Lib.hid (allTo_zero _)⟩
  case round =>
    obtain ⟨k, hk, hgg, rfl, N2, B2, I1⟩ := hrel
    have c2 := N2.out.cell
    have l2 := N2.out.lt
    by_cases hlt : k < o.n
    · obtain ⟨b, off, hkl, rfl, hbl, x0, x1, x2, x3, x4, x5, x6, x7⟩ := tx_at (HL.out.below B2.out) hlt
      have XI := Lib.hid (show Tx.In w o.L[k] from HL.out.each o.L[k] (List.getElem_mem hkl))
      have FX := Lib.hid (HF.out o.L[k] (List.getElem_mem hkl))
      have hkv : k < o.val.L.length := by rw [LN.out]; exact hlt
      have NO := Lib.hid (show rowAt o.next o.val.L k = false → checkV o.val = 1 from fun h => chk_row hkv h)
      have YES := Lib.hid (show rowAt o.next o.val.L k = true → allTo (rowAt o.next o.val.L) (k + 1) = true from fun h => by rw [allTo_succ, I1.out, h]; rfl)
      have PIN : pidIn o.L[k].val.pid (o.val.L.take k) = decide (o.L[k].pid ∈ (o.L.take k).map Tx.pid) := by
        rw [pidIn_mem]
        show decide (_ ∈ ((o.L.map Tx.val).take k).map Tv.pid) = _
        rw [← List.map_take, List.map_map]
        rfl
      have EV : o.val.L[k] = o.L[k].val := by simp [Tc.val]
      have RZ := Lib.hid (show k = 0 → rowAt o.next o.val.L k = (txB o.L[k].val o.next && !decide (o.L[k].pid ∈ (o.L.take k).map Tx.pid)) from fun h => by
        rw [← PIN]
        subst h
        rw [rowAt_zero hkv, EV])
      have RS := Lib.hid (show ∀ j, j + 1 = k → ∃ y : ByteArray, wr.cell? ⟨b, off + j * 8, none⟩ = some (.string y) ∧ rowAt o.next o.val.L k = (txB o.L[k].val o.next && decide (cmpS y o.L[k].id < 0) && !decide (o.L[k].pid ∈ (o.L.take k).map Tx.pid)) from fun j hj => by
        rw [← PIN]
        subst hj
        obtain ⟨b', off', hjl, e, _, hc, _⟩ := tx_at (HL.out.below B2.out) (show j < o.n by omega)
        injection e with e; injection e with e1 e2 e3
        subst e1 e2
        refine ⟨o.L[j].id, hc, ?_⟩
        rw [rowAt_succ hkv (by omega), EV, show o.val.L[j].id = o.L[j].id from by simp [Tc.val, Tx.val]]
        rfl)
      clear PIN EV hkv
      obtain ⟨x, hx⟩ : ∃ x, o.L[k] = x := ⟨_, rfl⟩
      have XE := Lib.hid (fun (h : k < o.L.length) => (show (o.L[k]'h).pid = x.pid from by rw [← hx]))
      rw [hx] at x0 x1 x2 x3 x4 x5 x6 x7 XI FX RZ RS
      clear hx
      have rx0 := at_regrown x0
      have rx1 := at_regrown x1
      have rx2 := at_regrown x2
      have rx3 := at_regrown x3
      have rx4 := at_regrown x4
      have rx5 := at_regrown x5
      have rx6 := at_regrown x6
      have rx7 := at_regrown x7
      have k0 : (0 : Int) ≤ (k : Int) := by omega
      have k1 : (k : Int) < (o.n : Int) := by omega
      have nc0 := at_regrown (v := .int .i64 o.next) (N2.out.cell 0)
      have nc1 := at_regrown (v := .slice (some ⟨b, off, none⟩) o.n o.c) (N2.out.cell 1)
      have nl := N2.out.lt
      obtain ⟨t, ht⟩ : ∃ t, txB x.val o.next = t := ⟨_, rfl⟩
      have OD := Lib.hid (fun w' (h : Below wr.heap.size wr w') => rtxn_any x o.next w' (⟨XI.out.id, XI.out.p.below (below_from h B2.out B2.out.size), XI.out.g.below (below_from h B2.out B2.out.size)⟩) FX.out.1 FX.out.2)
      rw [ht] at OD
      have HT := Lib.hid ht
      clear ht
      cases t with
      | false =>
        have R := Lib.hid (NO.out (by
          rcases (show k = 0 ∨ ∃ j, j + 1 = k by cases k with | zero => exact .inl rfl | succ j => exact .inr ⟨j, rfl⟩) with h | ⟨j, h⟩
          · rw [RZ.out h, HT.out]; rfl
          · obtain ⟨y, _, h2⟩ := RS.out j h
            rw [h2, HT.out]; rfl))
        go_wp2_with fail
        refine region_below (by kernel_rfl) (by kernel_rfl) ?_
        repeat (go_big_quiet_step ((go_at_call 55; exact call_regrown OD.out)))
        refine wpQuiet_nil ?_
        intro w3 hb3
        have BB := Lib.hid (below_from hb3 B2.out B2.out.size)
        have N4 := Lib.hid (N2.out.past hb3)
        clear hb3
        go_wp2_with fail
        go_ret
        exact ⟨ret_int R.out.symm, BB.out⟩
      | true =>
        rcases (show k = 0 ∨ ∃ j, j + 1 = k by cases k with | zero => exact .inl rfl | succ j => exact .inr ⟨j, rfl⟩) with k00 | ⟨j, hjk⟩
        · have d0 : decide ((0 : Int) < (k : Int)) = false := decide_eq_false (by omega)
          have d0' : decide (0 < k) = false := decide_eq_false (by omega)
          have RW := RZ.out k00
          rw [HT.out] at RW
          have NOP := Lib.hid (fun (h : decide (x.pid ∈ (o.L.take k).map Tx.pid) = true) => NO.out (by rw [RW, h]; rfl))
          have YESP := Lib.hid (fun (h : decide (x.pid ∈ (o.L.take k).map Tx.pid) = false) => YES.out (by rw [RW, h]; rfl))
          clear k00 RW RZ RS
          go_wp2_with fail
          refine region_below (by kernel_rfl) (by kernel_rfl) ?_
          repeat (go_big_quiet_step ((go_at_call 55; exact call_regrown OD.out)))
          refine wpQuiet_nil ?_
          intro w3 hb3
          have BB := Lib.hid (below_from hb3 B2.out B2.out.size)
          have N4 := Lib.hid (N2.out.past hb3)
          clear hb3
          clear c2 l2 nc0 nc1 nl
          have HKL := Lib.hid hkl
          have n4c := N4.out.cell
          have n4l := N4.out.lt
          go_wp2_with fail
          clear n4c n4l
          go_loopg [4] k (fun g2 s4 wr => ∃ m : Nat, m ≤ k ∧ k - m ≤ g2 ∧ s4 = .int .i64 m ∧ Hid (Has wr w.heap.size #[.int .i64 o.next, .slice (some ⟨b, off, none⟩) o.n o.c]) ∧ Hid (Below w.heap.size w wr) ∧ Hid (∀ j (hj : j < o.L.length), j < m → ¬ o.L[j].pid = x.pid))
          case atStart => exact ⟨0, Nat.zero_le _, by omega, rfl, N4, BB, Lib.hid (fun j _ h => absurd h (Nat.not_lt_zero _))⟩
          case round =>
            obtain ⟨m, hm, hg2, rfl, N5, B5, IN⟩ := hrel
            by_cases hmk : m < k
            · have d9 : decide ((m : Int) < (k : Int)) = true := decide_eq_true (by omega)
              obtain ⟨b1, off1, hml, e1, hbl1, _, z1, _⟩ := tx_at (HL.out.below B5.out) (show m < o.n by omega)
              obtain ⟨b2, off2, _, e2, _, _, v1, _⟩ := tx_at (HL.out.below B5.out) hlt
              injection e1 with e1; injection e1 with p1 p2 _
              injection e2 with e2; injection e2 with p3 p4 _
              subst p1 p2 p3 p4
              rw [XE.out HKL.out] at v1
              obtain ⟨y, hy⟩ : ∃ y, (o.L[m]'hml).pid = y := ⟨_, rfl⟩
              rw [hy] at z1
              have HY := Lib.hid hy
              clear hy
              have rz := at_regrown z1
              have rv := at_regrown v1
              have rn := at_regrown (v := .slice (some ⟨b, off, none⟩) o.n o.c) (N5.out.cell 1)
              have rnl := N5.out.lt
              have q0 : (0 : Int) ≤ (m : Int) := by omega
              have q1 : (m : Int) < (o.n : Int) := by omega
              have q2 : (0 : Int) ≤ (k : Int) := by omega
              have q3 : (k : Int) < (o.n : Int) := by omega
              by_cases he : y = x.pid
              · have e9 : (y == x.pid) = true := by rw [beq_iff_eq]; exact he
                have R := Lib.hid (NOP.out (decide_eq_true (List.mem_map.2 ⟨o.L[m]'hml, List.mem_take_iff_getElem.2 ⟨m, by omega, rfl⟩, by rw [HY.out]; exact he⟩)))
                clear he
                go_wp2_with fail
                refine region_below (by kernel_rfl) (by kernel_rfl) ?_
                repeat (go_big_quiet_step (fail))
                refine wpQuiet_nil ?_
                intro w6 hb6
                have B6 := Lib.hid (below_from hb6 B5.out B5.out.size)
                clear hb6
                go_wp2_with fail
                go_ret
                exact ⟨ret_int R.out.symm, B6.out⟩
              · have e9 : (y == x.pid) = false := by rw [beq_eq_false_iff_ne]; exact he
                have NX := Lib.hid (show ∀ j (hj : j < o.L.length), j < m + 1 → ¬ o.L[j].pid = x.pid from fun j hj hjm => by
                  rcases Nat.lt_or_ge j m with h | h
                  · exact IN.out j hj h
                  · obtain rfl : j = m := by omega
                    rw [HY.out]; exact he)
                clear he
                go_wp2_with fail
                refine region_below (by kernel_rfl) (by kernel_rfl) ?_
                repeat (go_big_quiet_step (fail))
                refine wpQuiet_nil ?_
                intro w6 hb6
                have B6 := Lib.hid (below_from hb6 B5.out B5.out.size)
                have N6 := Lib.hid (N5.out.past hb6)
                clear hb6
                go_wp2_with fail
                go_roundg (k - (m + 1))
                case measure => omega
                case rel => exact ⟨m + 1, by omega, by omega, by go_num, N6, B6, NX⟩
            · have d9 : decide ((m : Int) < (k : Int)) = false := decide_eq_false (by omega)
              have R2 := Lib.hid (YESP.out (decide_eq_false (fun h => by
                obtain ⟨y, hy, he⟩ := List.mem_map.1 h
                obtain ⟨j, hj, rfl⟩ := List.mem_take_iff_getElem.1 hy
                exact IN.out j (by omega) (by omega) he)))
              go_wp2_with fail
              go_roundg (o.n - (k + 1))
              case measure => omega
              case rel => exact ⟨k + 1, by omega, by omega, by go_num, N5, B5, R2⟩
        · have d0 : decide ((0 : Int) < (k : Int)) = true := decide_eq_true (by omega)
          have d0' : decide (0 < k) = true := decide_eq_true (by omega)
          obtain ⟨y, yc, RW⟩ := RS.out j hjk
          have wj : IntKind.i64.wrap ((k : Int) - 1) = (j : Int) := by rw [IntWalk.i64_in _ (by omega)]; omega
          have j0 : (0 : Int) ≤ (j : Int) := by omega
          have j1 : (j : Int) < (o.n : Int) := by omega
          have ry := at_regrown yc
          rw [HT.out] at RW
          have gs := bl_eq y x.id
          by_cases hlt2 : cmpS y x.id < 0
          · rw [decide_eq_true hlt2] at gs
            rw [decide_eq_true hlt2] at RW
            have NOP := Lib.hid (fun (h : decide (x.pid ∈ (o.L.take k).map Tx.pid) = true) => NO.out (by rw [RW, h]; rfl))
            have YESP := Lib.hid (fun (h : decide (x.pid ∈ (o.L.take k).map Tx.pid) = false) => YES.out (by rw [RW, h]; rfl))
            clear RW RZ RS yc hlt2
            go_wp2_with fail
            refine region_below (by kernel_rfl) (by kernel_rfl) ?_
            repeat (go_big_quiet_step ((go_at_call 55; exact call_regrown OD.out)))
            refine wpQuiet_nil ?_
            intro w3 hb3
            have BB := Lib.hid (below_from hb3 B2.out B2.out.size)
            have N4 := Lib.hid (N2.out.past hb3)
            clear hb3
            clear c2 l2 nc0 nc1 nl
            have HKL := Lib.hid hkl
            have n4c := N4.out.cell
            have n4l := N4.out.lt
            go_wp2_with fail
            clear n4c n4l
            go_loopg [4] k (fun g2 s4 wr => ∃ m : Nat, m ≤ k ∧ k - m ≤ g2 ∧ s4 = .int .i64 m ∧ Hid (Has wr w.heap.size #[.int .i64 o.next, .slice (some ⟨b, off, none⟩) o.n o.c]) ∧ Hid (Below w.heap.size w wr) ∧ Hid (∀ j (hj : j < o.L.length), j < m → ¬ o.L[j].pid = x.pid))
            case atStart => exact ⟨0, Nat.zero_le _, by omega, rfl, N4, BB, Lib.hid (fun j _ h => absurd h (Nat.not_lt_zero _))⟩
            case round =>
              obtain ⟨m, hm, hg2, rfl, N5, B5, IN⟩ := hrel
              by_cases hmk : m < k
              · have d9 : decide ((m : Int) < (k : Int)) = true := decide_eq_true (by omega)
                obtain ⟨b1, off1, hml, e1, hbl1, _, z1, _⟩ := tx_at (HL.out.below B5.out) (show m < o.n by omega)
                obtain ⟨b2, off2, _, e2, _, _, v1, _⟩ := tx_at (HL.out.below B5.out) hlt
                injection e1 with e1; injection e1 with p1 p2 _
                injection e2 with e2; injection e2 with p3 p4 _
                subst p1 p2 p3 p4
                rw [XE.out HKL.out] at v1
                obtain ⟨y, hy⟩ : ∃ y, (o.L[m]'hml).pid = y := ⟨_, rfl⟩
                rw [hy] at z1
                have HY := Lib.hid hy
                clear hy
                have rz := at_regrown z1
                have rv := at_regrown v1
                have rn := at_regrown (v := .slice (some ⟨b, off, none⟩) o.n o.c) (N5.out.cell 1)
                have rnl := N5.out.lt
                have q0 : (0 : Int) ≤ (m : Int) := by omega
                have q1 : (m : Int) < (o.n : Int) := by omega
                have q2 : (0 : Int) ≤ (k : Int) := by omega
                have q3 : (k : Int) < (o.n : Int) := by omega
                by_cases he : y = x.pid
                · have e9 : (y == x.pid) = true := by rw [beq_iff_eq]; exact he
                  have R := Lib.hid (NOP.out (decide_eq_true (List.mem_map.2 ⟨o.L[m]'hml, List.mem_take_iff_getElem.2 ⟨m, by omega, rfl⟩, by rw [HY.out]; exact he⟩)))
                  clear he
                  go_wp2_with fail
                  refine region_below (by kernel_rfl) (by kernel_rfl) ?_
                  repeat (go_big_quiet_step (fail))
                  refine wpQuiet_nil ?_
                  intro w6 hb6
                  have B6 := Lib.hid (below_from hb6 B5.out B5.out.size)
                  clear hb6
                  go_wp2_with fail
                  go_ret
                  exact ⟨ret_int R.out.symm, B6.out⟩
                · have e9 : (y == x.pid) = false := by rw [beq_eq_false_iff_ne]; exact he
                  have NX := Lib.hid (show ∀ j (hj : j < o.L.length), j < m + 1 → ¬ o.L[j].pid = x.pid from fun j hj hjm => by
                    rcases Nat.lt_or_ge j m with h | h
                    · exact IN.out j hj h
                    · obtain rfl : j = m := by omega
                      rw [HY.out]; exact he)
                  clear he
                  go_wp2_with fail
                  refine region_below (by kernel_rfl) (by kernel_rfl) ?_
                  repeat (go_big_quiet_step (fail))
                  refine wpQuiet_nil ?_
                  intro w6 hb6
                  have B6 := Lib.hid (below_from hb6 B5.out B5.out.size)
                  have N6 := Lib.hid (N5.out.past hb6)
                  clear hb6
                  go_wp2_with fail
                  go_roundg (k - (m + 1))
                  case measure => omega
                  case rel => exact ⟨m + 1, by omega, by omega, by go_num, N6, B6, NX⟩
              · have d9 : decide ((m : Int) < (k : Int)) = false := decide_eq_false (by omega)
                have R2 := Lib.hid (YESP.out (decide_eq_false (fun h => by
                  obtain ⟨y, hy, he⟩ := List.mem_map.1 h
                  obtain ⟨j, hj, rfl⟩ := List.mem_take_iff_getElem.1 hy
                  exact IN.out j (by omega) (by omega) he)))
                go_wp2_with fail
                go_roundg (o.n - (k + 1))
                case measure => omega
                case rel => exact ⟨k + 1, by omega, by omega, by go_num, N5, B5, R2⟩
          · rw [decide_eq_false hlt2] at gs
            rw [decide_eq_false hlt2] at RW
            have R := Lib.hid (NO.out (by rw [RW]; rfl))
            clear RW RZ RS yc hlt2
            go_wp2_with fail
            refine region_below (by kernel_rfl) (by kernel_rfl) ?_
            repeat (go_big_quiet_step ((go_at_call 55; exact call_regrown OD.out)))
            refine wpQuiet_nil ?_
            intro w3 hb3
            have BB := Lib.hid (below_from hb3 B2.out B2.out.size)
            have N4 := Lib.hid (N2.out.past hb3)
            clear hb3
            go_wp2_with fail
            go_ret
            exact ⟨ret_int R.out.symm, BB.out⟩
    · obtain rfl : o.n = k := by omega
      have ALL := Lib.hid (show allTo (rowAt o.val.next o.val.L) o.val.L.length = true from by rw [LN.out]; exact I1.out)
      have BIG := Lib.hid (show manyB o.val.L = true → checkV o.val = 2 from fun h => by rw [chk_end HNX.out ALL.out, if_pos h])
      have SML := Lib.hid (show manyB o.val.L = false → checkV o.val = 0 from fun h => by rw [chk_end HNX.out ALL.out, if_neg (by rw [h]; exact Bool.false_ne_true)])
      clear hlt hk hgg
      go_wp2_with fail
      clear c2 l2
      go_loopg [5] o.n (fun g2 s5 wr => ∃ m : Nat, m ≤ o.n ∧ o.n - m ≤ g2 ∧ s5 = .int .i64 m ∧ Hid (Has wr w.heap.size #[.int .i64 o.next, .slice CA o.n o.c]) ∧ Hid (Below w.heap.size w wr) ∧ Hid (((o.L.take m).map Tx.val).any bigB = false))
      case atStart => exact ⟨0, Nat.zero_le _, by omega, rfl, N2, B2, Lib.hid (by simp)⟩
      case round =>
        obtain ⟨m, hm, hg2, rfl, N5, B5, IN⟩ := hrel
        have c5 := N5.out.cell
        have l5 := N5.out.lt
        by_cases hmn : m < o.n
        · obtain ⟨b, off, hml, rfl, hbl, x0, x1, x2, x3, x4, x5, x6, x7⟩ := tx_at (HL.out.below B5.out) hmn
          have XI := Lib.hid (show Tx.In w o.L[m] from HL.out.each o.L[m] (List.getElem_mem hml))
          have TS := Lib.hid (List.take_succ_eq_append_getElem hml)
          have TS2 := Lib.hid (show (o.L.take (m + 1)).map Tx.val = (o.L.take m).map Tx.val ++ [o.L[m].val] from by rw [TS.out, List.map_append]; rfl)
          have MEM := Lib.hid (show bigB o.L[m].val = true → checkV o.val = 2 from fun h => BIG.out (by
            rw [many_eq, show o.val.L.any bigB = true from List.any_eq_true.2 ⟨o.L[m].val, List.mem_map_of_mem (List.getElem_mem hml), h⟩, Bool.or_true]))
          obtain ⟨x, hx⟩ : ∃ x, o.L[m] = x := ⟨_, rfl⟩
          rw [hx] at x0 x1 x2 x3 x4 x5 x6 x7 XI TS2 MEM
          clear hx x0 x1 x2 x3 x4 x7
          have LP := Lib.hid (show x.val.P.length = x.Pn from XI.out.p.len)
          have LG := Lib.hid (show x.val.G.length = x.Gn from XI.out.g.len)
          have rx5 := at_regrown x5
          have rx6 := at_regrown x6
          have rn := at_regrown (v := .slice (some ⟨b, off, none⟩) o.n o.c) (N5.out.cell 1)
          have q0 : (0 : Int) ≤ (m : Int) := by omega
          have q1 : (m : Int) < (o.n : Int) := by omega
          clear rn rx5 rx6
          by_cases b1 : 288 < x.Pn
          · have d1 : decide ((288 : Int) < (x.Pn : Int)) = true := decide_eq_true (by omega)
            have d2 : decide (288 < x.Pn) = true := decide_eq_true b1
            have R := Lib.hid (MEM.out (by unfold bigB; rw [LP.out, d2, Bool.true_or]))
            go_wp2_with fail
            go_ret
            exact ⟨ret_int R.out.symm, B5.out⟩
          · have d1 : decide ((288 : Int) < (x.Pn : Int)) = false := decide_eq_false (by omega)
            have d2 : decide (288 < x.Pn) = false := decide_eq_false b1
            by_cases b2 : 64 < x.Gn
            · have d3 : decide ((64 : Int) < (x.Gn : Int)) = true := decide_eq_true (by omega)
              have d4 : decide (64 < x.Gn) = true := decide_eq_true b2
              have R := Lib.hid (MEM.out (by unfold bigB; rw [LP.out, LG.out, d2, d4, Bool.or_true]))
              go_wp2_with fail
              go_ret
              exact ⟨ret_int R.out.symm, B5.out⟩
            · have d3 : decide ((64 : Int) < (x.Gn : Int)) = false := decide_eq_false (by omega)
              have d4 : decide (64 < x.Gn) = false := decide_eq_false b2
              have IN2 := Lib.hid (show ((o.L.take (m + 1)).map Tx.val).any bigB = false from by rw [TS2.out, List.any_append, IN.out]; unfold bigB; simp only [List.any_cons, LP.out, LG.out, d2, d4]; rfl)
              go_wp2_with fail
              go_roundg (o.n - (m + 1))
              case measure => omega
              case rel => exact ⟨m + 1, by omega, by omega, by go_num, N5, B5, IN2⟩
        · obtain rfl : o.n = m := by omega
          have ANY : o.val.L.any bigB = false := by
            have h := IN.out
            rw [List.take_of_length_le (by rw [HL.out.len]; exact Nat.le_refl _)] at h
            exact h
          by_cases b3 : 256 < o.n
          · have d1 : decide ((256 : Int) < (o.n : Int)) = true := decide_eq_true (by omega)
            have R := Lib.hid (BIG.out (by rw [many_eq, LN.out, decide_eq_true b3, Bool.true_or]))
            clear ANY
            go_wp2_with fail
            go_ret
            exact ⟨ret_int R.out.symm, B5.out⟩
          · have d1 : decide ((256 : Int) < (o.n : Int)) = false := decide_eq_false (by omega)
            have R := Lib.hid (SML.out (by rw [many_eq, LN.out, decide_eq_false b3, ANY]; rfl))
            clear ANY
            go_wp2_with fail
            go_ret
            exact ⟨ret_int R.out.symm, B5.out⟩

end Go.Proofs.Ytnigjchgpmladaa
