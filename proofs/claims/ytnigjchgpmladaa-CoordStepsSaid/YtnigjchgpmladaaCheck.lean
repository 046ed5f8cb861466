/- Check, of the program. -/
import Derived.Test.YtnigjchgpmladaaMet
import Derived.Test.YtnigjchgpmladaaBas
import Derived.BigRegion
import Derived.Deep.DeepCutAuto
namespace Go.Proofs.Ytnigjchgpmladaa
open Go.RowKit Go.Shelf

set_option maxRecDepth 100000 in
set_option maxHeartbeats 16000000 in
theorem check_any (o : Tc) (w : World) (ho : Tc.At w o) (hn : o.n ≤ 50000) (hf : ∀ x ∈ o.L, x.Pn ≤ 60000 ∧ x.Gn ≤ 60000) : Calls Try.prog 18 #[o.v] w fun e w' => e = .returned (.int .i64 (checkV o.val)) ∧ Below w.heap.size w w' := by
  have B0 := Lib.hid (below_alloc1 w (.cells #[.int .i64 o.next, .slice o.A o.n o.c] 24))
  have N0 := Lib.hid (Has.newAt w #[.int .i64 o.next, .slice o.A o.n o.c] 24 (g := w.heap.size) rfl)
  have HL := Lib.hid (show Sl txK w o.A o.n o.c o.L from ho)
  have HF := Lib.hid hf
  have LN := Lib.hid (show o.val.L.length = o.n from by rw [← ho.len]; simp [Tc.val])
  have NR : anyOut 1099511627776 [o.next] = !inB o.next 1099511627776 := anyOut_one _ _
  have BE := Lib.hid (beyond_any 1099511627776 (some ⟨w.heap.size + 1, 0, none⟩) 1 1 [o.next] ((w.alloc (.cells #[.int .i64 o.next, .slice o.A o.n o.c] 24)).alloc (.cells #[.int .i64 o.next] 3)) (num_row (Has.newAt (w.alloc (.cells #[.int .i64 o.next, .slice o.A o.n o.c] 24)) #[.int .i64 o.next] 3 (g := w.heap.size + 1) (by simp)) rfl (by omega)) (by decide))
  clear ho hf
  cases hnx : inB o.next 1099511627776 with
  | false =>
    have R := Lib.hid (show checkV o.val = 1 from chk_next hnx)
    rw [NR, hnx] at BE
    clear hnx NR
    go_enter Try.func18, Try.ntmps18
    go_wp2_with (go_at_call 42; refine BE.out.mono ?_; rintro e w' ⟨rfl, rfl⟩)
    go_ret
    exact ⟨ret_int R.out.symm, B0.out.alloc B0.out.size _⟩
  | true =>
  have HNX := Lib.hid hnx
  have NXR := Lib.hid (inB_iff.1 hnx)
  rw [NR, hnx] at BE
  clear hnx NR
  obtain ⟨mn0, hmn0⟩ : ∃ b, decide ((256 : Int) < (o.n : Int)) = b := ⟨_, rfl⟩
  have MN0 := Lib.hid (show mn0 = decide (256 < o.n) from by rw [← hmn0, decide_eq_decide]; omega)
  obtain ⟨W1, hW1⟩ : ∃ W, W = (w.alloc (.cells #[.int .i64 o.next, .slice o.A o.n o.c] 24)).alloc (.cells #[.int .i64 o.next] 3) := ⟨_, rfl⟩
  have B1 := Lib.hid (show Below w.heap.size w W1 from by rw [hW1]; exact B0.out.alloc B0.out.size _)
  have N1 := Lib.hid (show Has W1 w.heap.size #[.int .i64 o.next, .slice o.A o.n o.c] from by rw [hW1]; exact N0.out.alloc _)
  have HW1 := Lib.hid hW1
  rw [← hW1] at BE
  clear hW1
  have hmm := @run_makeMap Try.prog
  go_enter Try.func18, Try.ntmps18
  go_upto_region 3 with (go_at_call 42; rw [← HW1.out]; refine BE.out.mono ?_; rintro e w' ⟨rfl, rfl⟩)
  clear BE B0 N0
  have n1c := N1.out.cell
  have n1l := N1.out.lt
  have N2 := Lib.hid (N1.out.alloc (.map #[] 0))
  have B2 := Lib.hid (B1.out.alloc B1.out.size (.map #[] 0))
  have M2 := Lib.hid (met_made W1)
  have mz := N1.out.lt
  go_wp2_with fail
  obtain ⟨CA, hCA⟩ : ∃ A, o.A = A := ⟨_, rfl⟩
  rw [hCA] at HL N2 ⊢
  clear hCA n1c n1l
  go_loopg [4, 19] o.n (fun gg s4 s19 wr => ∃ (k : Nat) (mn : Bool), k ≤ o.n ∧ o.n - k ≤ gg ∧ s4 = .bool mn ∧ s19 = .int .i64 k ∧ W1.heap.size < wr.heap.size ∧ Hid (Has wr w.heap.size #[.int .i64 o.next, .slice CA o.n o.c]) ∧ Hid (Below w.heap.size w wr) ∧ Hid (Met wr W1.heap.size ((o.L.take k).map Tx.pid)) ∧ Hid (allTo (rowAt o.next o.val.L) k = true) ∧ Hid (mn = (decide (256 < o.n) || ((o.L.take k).map Tx.val).any bigB)))
  case atStart => exact ⟨0, mn0, Nat.zero_le _, by omega, rfl, rfl, by simp, N2, B2, M2, Lib.hid (allTo_zero _), Lib.hid (by simpa using MN0.out)⟩
  case round =>
    obtain ⟨k, mn, hk, hgg, rfl, rfl, hmb, N2, B2, M2, I1, MN⟩ := hrel
    have c2 := N2.out.cell
    have l2 := N2.out.lt
    by_cases hlt : k < o.n
    · obtain ⟨b, off, hkl, rfl, hbl, x0, x1, x2, x3, x4, x5, x6, x7⟩ := tx_at (HL.out.below B2.out) hlt
      have XI := Lib.hid (show Tx.In w o.L[k] from HL.out.each o.L[k] (List.getElem_mem hkl))
      have FX := Lib.hid (HF.out o.L[k] (List.getElem_mem hkl))
      have hkv : k < o.val.L.length := by rw [LN.out]; exact hlt
      have NO := Lib.hid (show rowAt o.next o.val.L k = false → checkV o.val = 1 from fun h => chk_row hkv h)
      have YES := Lib.hid (show rowAt o.next o.val.L k = true → allTo (rowAt o.next o.val.L) (k + 1) = true from fun h => by rw [allTo_succ, I1.out, h]; rfl)
      have TS := Lib.hid (List.take_succ_eq_append_getElem hkl)
      have TS2 := Lib.hid (show (o.L.take (k + 1)).map Tx.val = (o.L.take k).map Tx.val ++ [o.L[k].val] from by rw [TS.out, List.map_append]; rfl)
      have PIN : pidIn o.L[k].val.pid (o.val.L.take k) = decide (o.L[k].pid ∈ (o.L.take k).map Tx.pid) := by
        rw [pidIn_mem]
        show decide (_ ∈ ((o.L.map Tx.val).take k).map Tv.pid) = _
        rw [← List.map_take, List.map_map]
        rfl
      have EV : o.val.L[k] = o.L[k].val := by simp [Tc.val]
      have RZ := Lib.hid (show k = 0 → rowAt o.next o.val.L k = (txB o.L[k].val o.next && !decide (o.L[k].pid ∈ (o.L.take k).map Tx.pid)) from fun h => by
        rw [← PIN]
        subst h
        rw [rowAt_zero hkv, EV])
      have RS := Lib.hid (show ∀ j, j + 1 = k → ∃ y : ByteArray, wr.cell? ⟨b, off + j * 8, none⟩ = some (.string y) ∧ rowAt o.next o.val.L k = (txB o.L[k].val o.next && decide (cmpS y o.L[k].id < 0) && !decide (o.L[k].pid ∈ (o.L.take k).map Tx.pid)) from fun j hj => by
        rw [← PIN]
        subst hj
        obtain ⟨b', off', hjl, e, _, hc, _⟩ := tx_at (HL.out.below B2.out) (show j < o.n by omega)
        injection e with e; injection e with e1 e2 e3
        subst e1 e2
        refine ⟨o.L[j].id, hc, ?_⟩
        rw [rowAt_succ hkv (by omega), EV, show o.val.L[j].id = o.L[j].id from by simp [Tc.val, Tx.val]]
        rfl)
      clear PIN EV hkv
      generalize o.L[k] = x at *
      have LP := Lib.hid (show x.val.P.length = x.Pn from XI.out.p.len)
      have LG := Lib.hid (show x.val.G.length = x.Gn from XI.out.g.len)
      obtain ⟨W, hW⟩ : ∃ W, W = wr.alloc (.cells #[.string x.id, .int .i64 x.pid, .int .i64 x.gen, .int .i64 x.no, .int .i64 x.st, .slice x.PA x.Pn x.Pc, .slice x.GA x.Gn x.Gc, .int .i64 x.at_] 33) := ⟨_, rfl⟩
      have bW : Below wr.heap.size wr W := by rw [hW]; exact below_alloc1 wr _
      have X3 := Lib.hid (show Has W wr.heap.size #[.string x.id, .int .i64 x.pid, .int .i64 x.gen, .int .i64 x.no, .int .i64 x.st, .slice x.PA x.Pn x.Pc, .slice x.GA x.Gn x.Gc, .int .i64 x.at_] from by rw [hW]; exact Has.newAt wr _ 33 rfl)
      have B3 := Lib.hid (below_from bW B2.out B2.out.size)
      have N3 := Lib.hid (N2.out.past bW)
      have M3 := Lib.hid (M2.out.below bW)
      have WZ := Lib.hid bW.size
      have HW := Lib.hid hW
      clear hW
      have bc := X3.out.cell
      have bl := X3.out.lt
      have nc0 := at_regrown (v := .int .i64 o.next) (N3.out.cell 0)
      have nc1 := at_regrown (v := .slice (some ⟨b, off, none⟩) o.n o.c) (N3.out.cell 1)
      have nl := N3.out.lt
      have rb0 := at_regrown (v := .string x.id) (bc 0)
      have rb1 := at_regrown (v := .int .i64 x.pid) (bc 1)
      have rb2 := at_regrown (v := .int .i64 x.gen) (bc 2)
      have rb3 := at_regrown (v := .int .i64 x.no) (bc 3)
      have rb4 := at_regrown (v := .int .i64 x.st) (bc 4)
      have rb5 := at_regrown (v := .slice x.PA x.Pn x.Pc) (bc 5)
      have rb6 := at_regrown (v := .slice x.GA x.Gn x.Gc) (bc 6)
      have rb7 := at_regrown (v := .int .i64 x.at_) (bc 7)
      obtain ⟨t, ht⟩ : ∃ t, txB x.val o.next = t := ⟨_, rfl⟩
      have OD := Lib.hid (fun w' (h : Below W.heap.size W w') => odd_any x o.next w' (⟨XI.out.id, XI.out.p.below (below_from h B3.out B3.out.size), XI.out.g.below (below_from h B3.out B3.out.size)⟩) FX.out.1 FX.out.2)
      rw [ht] at OD
      have HT := Lib.hid ht
      cases t with
      | false =>
        rw [Bool.not_false] at OD
        have R := Lib.hid (NO.out (by
          rcases (show k = 0 ∨ ∃ j, j + 1 = k by cases k with | zero => exact .inl rfl | succ j => exact .inr ⟨j, rfl⟩) with h | ⟨j, h⟩
          · rw [RZ.out h, HT.out]; rfl
          · obtain ⟨y, _, h2⟩ := RS.out j h
            rw [h2, HT.out]; rfl))
        clear ht
        go_wp2_with fail
        rw [← HW.out]
        refine region_below (by kernel_rfl) (by kernel_rfl) ?_
        repeat (go_big_quiet_step ((go_at_call 54; exact call_regrown OD.out)))
        refine wpQuiet_nil ?_
        intro w3 hb3
        have BB := Lib.hid (below_from hb3 B3.out B3.out.size)
        have X4 := Lib.hid (X3.out.past hb3)
        have N4 := Lib.hid (N3.out.past hb3)
        have M4 := Lib.hid (M3.out.below hb3)
        have Z4 := Lib.hid hb3.size
        clear hb3
        go_wp2_with fail
        go_ret
        exact ⟨ret_int R.out.symm, BB.out⟩
      | true =>
        rw [Bool.not_true] at OD
        have TO := tx_iff.1 ht
        have wf : (Lit.int .i64 x.pid).wf = true := by
          have h1 := TO.pid
          have h2 := NXR.out
          unfold Lit.wf
          rw [Bool.and_eq_true, decide_eq_true_eq, decide_eq_true_eq]
          have h3 : x.val.pid = x.pid := rfl
          rw [h3] at h1
          exact ⟨show -9223372036854775808 ≤ x.pid by omega, show x.pid ≤ 9223372036854775807 by omega⟩
        obtain ⟨q, hq⟩ : ∃ q, decide (x.pid ∈ (o.L.take k).map Tx.pid) = q := ⟨_, rfl⟩
        have HQ := Lib.hid hq
        clear ht TO hq
        have lk : ∀ d os, (Instr.lookup 77 (.map (some W1.heap.size)) (.int .i64 x.pid) false).run Try.prog (Go.Sort.grow (redrawn W d) os) = .ok (.bool q) (Go.Sort.grow (redrawn W d) os) := fun d os => by
          have := (M3.out.below (below_regrown W d os)).look wf
          rw [HQ.out] at this
          exact this
        rcases (show k = 0 ∨ ∃ j, j + 1 = k by cases k with | zero => exact .inl rfl | succ j => exact .inr ⟨j, rfl⟩) with k00 | ⟨j, hjk⟩
        · have d0 : decide ((0 : Int) < (k : Int)) = false := decide_eq_false (by omega)
          have d0' : decide (0 < k) = false := decide_eq_false (by omega)
          have RW := RZ.out k00
          rw [HT.out, HQ.out] at RW
          rw [RW] at NO YES
          clear k00 RW RZ RS
          cases q with
          | true =>
            have R := Lib.hid (NO.out (by first | rfl | trivial))
            go_wp2_with fail
            rw [← HW.out]
            refine region_below (by kernel_rfl) (by kernel_rfl) ?_
            repeat (go_big_quiet_step ((go_at_call 54; exact call_regrown OD.out)))
            refine wpQuiet_nil ?_
            intro w3 hb3
            have BB := Lib.hid (below_from hb3 B3.out B3.out.size)
            have X4 := Lib.hid (X3.out.past hb3)
            have N4 := Lib.hid (N3.out.past hb3)
            have M4 := Lib.hid (M3.out.below hb3)
            have Z4 := Lib.hid hb3.size
            clear hb3
            go_wp2_with fail
            go_ret
            exact ⟨ret_int R.out.symm, BB.out⟩
          | false =>
            have R2 := Lib.hid (YES.out (by first | rfl | trivial))
            go_wp2_with fail
            rw [← HW.out]
            refine region_below (by kernel_rfl) (by kernel_rfl) ?_
            repeat (go_big_quiet_step ((go_at_call 54; exact call_regrown OD.out)))
            refine wpQuiet_nil ?_
            intro w3 hb3
            have BB := Lib.hid (below_from hb3 B3.out B3.out.size)
            have X4 := Lib.hid (X3.out.past hb3)
            have N4 := Lib.hid (N3.out.past hb3)
            have M4 := Lib.hid (M3.out.below hb3)
            have Z4 := Lib.hid hb3.size
            clear hb3
            have x4c := X4.out.cell
            have x4l := X4.out.lt
            obtain ⟨w5, r1, r2, r3⟩ := M4.out.more wf (by rw [List.length_map, List.length_take]; omega)
            have M5 := Lib.hid r2
            have G5 := Lib.hid r3
            clear r2 r3
            have hs3 : W1.heap.size < w3.heap.size := Nat.lt_of_lt_of_le hmb (Nat.le_trans WZ.out Z4.out)
            have X5 := Lib.hid (X4.out.grown G5.out (by omega))
            have x5c := X5.out.cell
            have x5l := X5.out.lt
            cases mn with
            | true =>
              have MN2 := Lib.hid (show true = (decide (256 < o.n) || ((o.L.take (k + 1)).map Tx.val).any bigB) from by rw [TS2.out, List.any_append, ← Bool.or_assoc, ← MN.out]; rfl)
              have ne2 : w.heap.size ≠ W1.heap.size := by omega
              have N5 := Lib.hid (N4.out.grown G5.out ne2)
              have B5 := Lib.hid (BB.out.grown G5.out BB.out.size (fun q hq => by injection hq; omega))
              have z5 := G5.out.size
              go_wp2_with fail
              go_roundg (o.n - (k + 1))
              case measure => omega
              case rel => exact ⟨k + 1, true, by omega, by omega, rfl, by go_num, by omega, N5, B5, Lib.hid (by rw [TS.out, List.map_append]; exact M5.out), R2, MN2⟩
            | false =>
              by_cases b1 : 288 < x.Pn
              · have d1 : decide ((288 : Int) < (x.Pn : Int)) = true := decide_eq_true (by omega)
                have d2 : decide (288 < x.Pn) = true := decide_eq_true b1
                have MN2 := Lib.hid (show true = (decide (256 < o.n) || ((o.L.take (k + 1)).map Tx.val).any bigB) from by rw [TS2.out, List.any_append, ← Bool.or_assoc, ← MN.out]; unfold bigB; simp only [List.any_cons, LP.out, d2]; rfl)
                have ne2 : w.heap.size ≠ W1.heap.size := by omega
                have N5 := Lib.hid (N4.out.grown G5.out ne2)
                have B5 := Lib.hid (BB.out.grown G5.out BB.out.size (fun q hq => by injection hq; omega))
                have z5 := G5.out.size
                go_wp2_with fail
                go_roundg (o.n - (k + 1))
                case measure => omega
                case rel => exact ⟨k + 1, true, by omega, by omega, rfl, by go_num, by omega, N5, B5, Lib.hid (by rw [TS.out, List.map_append]; exact M5.out), R2, MN2⟩
              · have d1 : decide ((288 : Int) < (x.Pn : Int)) = false := decide_eq_false (by omega)
                have d2 : decide (288 < x.Pn) = false := decide_eq_false b1
                by_cases b2 : 64 < x.Gn
                · have d3 : decide ((64 : Int) < (x.Gn : Int)) = true := decide_eq_true (by omega)
                  have d4 : decide (64 < x.Gn) = true := decide_eq_true b2
                  have MN2 := Lib.hid (show true = (decide (256 < o.n) || ((o.L.take (k + 1)).map Tx.val).any bigB) from by rw [TS2.out, List.any_append, ← Bool.or_assoc, ← MN.out]; unfold bigB; simp only [List.any_cons, LP.out, LG.out, d2, d4]; rfl)
                  have ne2 : w.heap.size ≠ W1.heap.size := by omega
                  have N5 := Lib.hid (N4.out.grown G5.out ne2)
                  have B5 := Lib.hid (BB.out.grown G5.out BB.out.size (fun q hq => by injection hq; omega))
                  have z5 := G5.out.size
                  go_wp2_with fail
                  go_roundg (o.n - (k + 1))
                  case measure => omega
                  case rel => exact ⟨k + 1, true, by omega, by omega, rfl, by go_num, by omega, N5, B5, Lib.hid (by rw [TS.out, List.map_append]; exact M5.out), R2, MN2⟩
                · have d3 : decide ((64 : Int) < (x.Gn : Int)) = false := decide_eq_false (by omega)
                  have d4 : decide (64 < x.Gn) = false := decide_eq_false b2
                  have MN2 := Lib.hid (show false = (decide (256 < o.n) || ((o.L.take (k + 1)).map Tx.val).any bigB) from by rw [TS2.out, List.any_append, ← Bool.or_assoc, ← MN.out]; unfold bigB; simp only [List.any_cons, LP.out, LG.out, d2, d4]; rfl)
                  have ne2 : w.heap.size ≠ W1.heap.size := by omega
                  have N5 := Lib.hid (N4.out.grown G5.out ne2)
                  have B5 := Lib.hid (BB.out.grown G5.out BB.out.size (fun q hq => by injection hq; omega))
                  have z5 := G5.out.size
                  go_wp2_with fail
                  go_roundg (o.n - (k + 1))
                  case measure => omega
                  case rel => exact ⟨k + 1, false, by omega, by omega, rfl, by go_num, by omega, N5, B5, Lib.hid (by rw [TS.out, List.map_append]; exact M5.out), R2, MN2⟩
        · have d0 : decide ((0 : Int) < (k : Int)) = true := decide_eq_true (by omega)
          have d0' : decide (0 < k) = true := decide_eq_true (by omega)
          obtain ⟨y, yc, RW⟩ := RS.out j hjk
          have wj : IntKind.i64.wrap ((k : Int) - 1) = (j : Int) := by rw [IntWalk.i64_in _ (by omega)]; omega
          have j0 : (0 : Int) ≤ (j : Int) := by omega
          have j1 : (j : Int) < (o.n : Int) := by omega
          have ry := at_regrown (show W.cell? ⟨b, off + j * 8, none⟩ = some (.string y) from (bW.cell (p := ⟨b, off + j * 8, none⟩) hbl).trans yc)
          rw [HT.out, HQ.out] at RW
          have gs := bl_eq y x.id
          by_cases hlt2 : cmpS y x.id < 0
          · rw [decide_eq_true hlt2] at gs
            rw [decide_eq_true hlt2] at RW
            rw [RW] at NO YES
            clear RW RZ RS yc hlt2
            cases q with
            | true =>
              have R := Lib.hid (NO.out (by first | rfl | trivial))
              go_wp2_with fail
              rw [← HW.out]
              refine region_below (by kernel_rfl) (by kernel_rfl) ?_
              repeat (go_big_quiet_step ((go_at_call 54; exact call_regrown OD.out)))
              refine wpQuiet_nil ?_
              intro w3 hb3
              have BB := Lib.hid (below_from hb3 B3.out B3.out.size)
              have X4 := Lib.hid (X3.out.past hb3)
              have N4 := Lib.hid (N3.out.past hb3)
              have M4 := Lib.hid (M3.out.below hb3)
              have Z4 := Lib.hid hb3.size
              clear hb3
              go_wp2_with fail
              go_ret
              exact ⟨ret_int R.out.symm, BB.out⟩
            | false =>
              have R2 := Lib.hid (YES.out (by first | rfl | trivial))
              go_wp2_with fail
              rw [← HW.out]
              refine region_below (by kernel_rfl) (by kernel_rfl) ?_
              repeat (go_big_quiet_step ((go_at_call 54; exact call_regrown OD.out)))
              refine wpQuiet_nil ?_
              intro w3 hb3
              have BB := Lib.hid (below_from hb3 B3.out B3.out.size)
              have X4 := Lib.hid (X3.out.past hb3)
              have N4 := Lib.hid (N3.out.past hb3)
              have M4 := Lib.hid (M3.out.below hb3)
              have Z4 := Lib.hid hb3.size
              clear hb3
              have x4c := X4.out.cell
              have x4l := X4.out.lt
              obtain ⟨w5, r1, r2, r3⟩ := M4.out.more wf (by rw [List.length_map, List.length_take]; omega)
              have M5 := Lib.hid r2
              have G5 := Lib.hid r3
              clear r2 r3
              have hs3 : W1.heap.size < w3.heap.size := Nat.lt_of_lt_of_le hmb (Nat.le_trans WZ.out Z4.out)
              have X5 := Lib.hid (X4.out.grown G5.out (by omega))
              have x5c := X5.out.cell
              have x5l := X5.out.lt
              cases mn with
              | true =>
                have MN2 := Lib.hid (show true = (decide (256 < o.n) || ((o.L.take (k + 1)).map Tx.val).any bigB) from by rw [TS2.out, List.any_append, ← Bool.or_assoc, ← MN.out]; rfl)
                have ne2 : w.heap.size ≠ W1.heap.size := by omega
                have N5 := Lib.hid (N4.out.grown G5.out ne2)
                have B5 := Lib.hid (BB.out.grown G5.out BB.out.size (fun q hq => by injection hq; omega))
                have z5 := G5.out.size
                go_wp2_with fail
                go_roundg (o.n - (k + 1))
                case measure => omega
                case rel => exact ⟨k + 1, true, by omega, by omega, rfl, by go_num, by omega, N5, B5, Lib.hid (by rw [TS.out, List.map_append]; exact M5.out), R2, MN2⟩
              | false =>
                by_cases b1 : 288 < x.Pn
                · have d1 : decide ((288 : Int) < (x.Pn : Int)) = true := decide_eq_true (by omega)
                  have d2 : decide (288 < x.Pn) = true := decide_eq_true b1
                  have MN2 := Lib.hid (show true = (decide (256 < o.n) || ((o.L.take (k + 1)).map Tx.val).any bigB) from by rw [TS2.out, List.any_append, ← Bool.or_assoc, ← MN.out]; unfold bigB; simp only [List.any_cons, LP.out, d2]; rfl)
                  have ne2 : w.heap.size ≠ W1.heap.size := by omega
                  have N5 := Lib.hid (N4.out.grown G5.out ne2)
                  have B5 := Lib.hid (BB.out.grown G5.out BB.out.size (fun q hq => by injection hq; omega))
                  have z5 := G5.out.size
                  go_wp2_with fail
                  go_roundg (o.n - (k + 1))
                  case measure => omega
                  case rel => exact ⟨k + 1, true, by omega, by omega, rfl, by go_num, by omega, N5, B5, Lib.hid (by rw [TS.out, List.map_append]; exact M5.out), R2, MN2⟩
                · have d1 : decide ((288 : Int) < (x.Pn : Int)) = false := decide_eq_false (by omega)
                  have d2 : decide (288 < x.Pn) = false := decide_eq_false b1
                  by_cases b2 : 64 < x.Gn
                  · have d3 : decide ((64 : Int) < (x.Gn : Int)) = true := decide_eq_true (by omega)
                    have d4 : decide (64 < x.Gn) = true := decide_eq_true b2
                    have MN2 := Lib.hid (show true = (decide (256 < o.n) || ((o.L.take (k + 1)).map Tx.val).any bigB) from by rw [TS2.out, List.any_append, ← Bool.or_assoc, ← MN.out]; unfold bigB; simp only [List.any_cons, LP.out, LG.out, d2, d4]; rfl)
                    have ne2 : w.heap.size ≠ W1.heap.size := by omega
                    have N5 := Lib.hid (N4.out.grown G5.out ne2)
                    have B5 := Lib.hid (BB.out.grown G5.out BB.out.size (fun q hq => by injection hq; omega))
                    have z5 := G5.out.size
                    go_wp2_with fail
                    go_roundg (o.n - (k + 1))
                    case measure => omega
                    case rel => exact ⟨k + 1, true, by omega, by omega, rfl, by go_num, by omega, N5, B5, Lib.hid (by rw [TS.out, List.map_append]; exact M5.out), R2, MN2⟩
                  · have d3 : decide ((64 : Int) < (x.Gn : Int)) = false := decide_eq_false (by omega)
                    have d4 : decide (64 < x.Gn) = false := decide_eq_false b2
                    have MN2 := Lib.hid (show false = (decide (256 < o.n) || ((o.L.take (k + 1)).map Tx.val).any bigB) from by rw [TS2.out, List.any_append, ← Bool.or_assoc, ← MN.out]; unfold bigB; simp only [List.any_cons, LP.out, LG.out, d2, d4]; rfl)
                    have ne2 : w.heap.size ≠ W1.heap.size := by omega
                    have N5 := Lib.hid (N4.out.grown G5.out ne2)
                    have B5 := Lib.hid (BB.out.grown G5.out BB.out.size (fun q hq => by injection hq; omega))
                    have z5 := G5.out.size
                    go_wp2_with fail
                    go_roundg (o.n - (k + 1))
                    case measure => omega
                    case rel => exact ⟨k + 1, false, by omega, by omega, rfl, by go_num, by omega, N5, B5, Lib.hid (by rw [TS.out, List.map_append]; exact M5.out), R2, MN2⟩
          · rw [decide_eq_false hlt2] at gs
            rw [decide_eq_false hlt2] at RW
            have R := Lib.hid (NO.out (by rw [RW]; rfl))
            clear RW RZ RS yc hlt2
            go_wp2_with fail
            rw [← HW.out]
            refine region_below (by kernel_rfl) (by kernel_rfl) ?_
            repeat (go_big_quiet_step ((go_at_call 54; exact call_regrown OD.out)))
            refine wpQuiet_nil ?_
            intro w3 hb3
            have BB := Lib.hid (below_from hb3 B3.out B3.out.size)
            have X4 := Lib.hid (X3.out.past hb3)
            have N4 := Lib.hid (N3.out.past hb3)
            have M4 := Lib.hid (M3.out.below hb3)
            have Z4 := Lib.hid hb3.size
            clear hb3
            go_wp2_with fail
            go_ret
            exact ⟨ret_int R.out.symm, BB.out⟩
    · obtain rfl : o.n = k := by omega
      have TK : o.L.take o.n = o.L := List.take_of_length_le (by rw [HL.out.len]; exact Nat.le_refl _)
      have ALL := Lib.hid (show allTo (rowAt o.val.next o.val.L) o.val.L.length = true from by rw [LN.out]; exact I1.out)
      have ANS := Lib.hid (show checkV o.val = if mn = true then 2 else 0 from by
        rw [chk_end HNX.out ALL.out, many_eq, LN.out]
        have := MN.out
        rw [TK] at this
        rw [show o.val.L = o.L.map Tx.val from rfl, ← this])
      clear TK
      cases mn with
      | true =>
        go_wp2_with fail
        go_ret
        exact ⟨ret_int (by rw [ANS.out]; rfl), B2.out⟩
      | false =>
        go_wp2_with fail
        go_ret
        exact ⟨ret_int (by rw [ANS.out]; rfl), B2.out⟩

end Go.Proofs.Ytnigjchgpmladaa
