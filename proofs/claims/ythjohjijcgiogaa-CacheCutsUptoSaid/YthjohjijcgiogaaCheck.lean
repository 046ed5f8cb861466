/- Check, of the document's answer. -/
import Derived.Test.YthjohjijcgiogaaPlain
import Derived.Test.YthjohjijcgiogaaBytes
import Derived.Test.YthjohjijcgiogaaStr
import Derived.BigRegion
import Derived.Outline
namespace Go.Proofs.Ythjohjijcgiogaa
open Go.RowKit

set_option maxHeartbeats 2000000 in
set_option maxRecDepth 100000 in
theorem rcheck_cap (cap : Int) (A : Option Addr) (n c : Nat) (l : List Hd) (w : World) (hl : Hds w A n c l) (hn : n ≤ 60000) (hc : cap < 0 ∨ 1099511627776 < cap ∨ cap < total l) :
    Calls Try.prog 16 #[.agg #[.int .i64 cap, .slice A n c]] w fun e w' => e = .returned (.int .i64 1) ∧ Below w.heap.size w w' := by
  have SZ := Lib.hid (fun w' hb => bytes_any A n c l w' (hl.below (w' := w') hb) hn)
  have B0 := Lib.hid (below_alloc1 w (.cells #[.int .i64 cap, .slice A n c] 24))
  have r0 := at_regrown (w := w.alloc (.cells #[.int .i64 cap, .slice A n c] 24)) (a := ⟨w.heap.size, 0, none⟩) (v := .int .i64 cap) (by go_simp)
  have r1 := at_regrown (w := w.alloc (.cells #[.int .i64 cap, .slice A n c] 24)) (a := ⟨w.heap.size, 1, none⟩) (v := .slice A n c) (by go_simp)
  clear hl
  by_cases h1 : cap < 0
  · go_enter Try.func16, Try.ntmps16
    go_wp2_with fail
    refine region_below (by kernel_rfl) (by kernel_rfl) ?_
    repeat (go_big_quiet_step (fail))
    refine wpQuiet_nil ?_
    intro w1 hb1
    have HB := Lib.hid hb1
    clear hb1
    go_wp2_with fail
    go_ret
    exact ⟨rfl, below_from HB.out B0.out (by simp)⟩
  · by_cases h2 : 1099511627776 < cap
    · have k1 : decide (cap < 0) = false := decide_eq_false h1
      have k2 : decide (1099511627776 < cap) = true := decide_eq_true h2
      go_enter Try.func16, Try.ntmps16
      go_wp2_with fail
      refine region_below (by kernel_rfl) (by kernel_rfl) ?_
      repeat (go_big_quiet_step (fail))
      refine wpQuiet_nil ?_
      intro w1 hb1
      have HB := Lib.hid hb1
      clear hb1
      go_wp2_with fail
      go_ret
      exact ⟨rfl, below_from HB.out B0.out (by simp)⟩
    · have h3 : cap < total l := by omega
      have k1 : decide (cap < 0) = false := decide_eq_false h1
      have k2 : decide (1099511627776 < cap) = false := decide_eq_false h2
      have SZ2 := Lib.hid (fun w' (hb : Below (w.alloc (.cells #[.int .i64 cap, .slice A n c] 24)).heap.size (w.alloc (.cells #[.int .i64 cap, .slice A n c] 24)) w') => SZ.out w' (below_from hb B0.out (by simp)))
      go_enter Try.func16, Try.ntmps16
      go_wp2_with fail
      refine region_below (by kernel_rfl) (by kernel_rfl) ?_
      repeat (go_big_quiet_step ((go_at_call 31; exact call_regrown SZ2.out)))
      refine wpQuiet_nil ?_
      intro w1 hb1
      have HB := Lib.hid hb1
      clear hb1
      go_wp2_with fail
      go_ret
      exact ⟨rfl, below_from HB.out B0.out (by simp)⟩

set_option maxHeartbeats 4000000 in
set_option maxRecDepth 100000 in
theorem rcheck_in (cap : Int) (A : Option Addr) (n c : Nat) (l : List Hd) (w : World) (hl : Hds w A n c l) (hn : n ≤ 60000) (h1 : 0 ≤ cap) (h2 : cap ≤ 1099511627776) (h3 : total l ≤ cap) :
    Calls Try.prog 16 #[.agg #[.int .i64 cap, .slice A n c]] w fun e w' => e = .returned (.int .i64 (goodI (l.map Hd.val))) ∧ Below w.heap.size w w' := by
  have SZ := Lib.hid (fun w' hb => bytes_any A n c l w' (hl.below (w' := w') hb) hn)
  have B0 := Lib.hid (below_alloc1 w (.cells #[.int .i64 cap, .slice A n c] 24))
  have N0 := Lib.hid (Has.newAt w #[.int .i64 cap, .slice A n c] 24 (g := w.heap.size) rfl)
  have r0 := at_regrown (w := w.alloc (.cells #[.int .i64 cap, .slice A n c] 24)) (a := ⟨w.heap.size, 0, none⟩) (v := .int .i64 cap) (by go_simp)
  have r1 := at_regrown (w := w.alloc (.cells #[.int .i64 cap, .slice A n c] 24)) (a := ⟨w.heap.size, 1, none⟩) (v := .slice A n c) (by go_simp)
  have HLEN := Lib.hid hl.len
  have hcap := hl.cap
  have hmax := hl.max
  have H := Lib.hid hl
  clear hl
  have k1 : decide (cap < 0) = false := decide_eq_false (by omega)
  have k2 : decide (1099511627776 < cap) = false := decide_eq_false (by omega)
  have SZ2 := Lib.hid (fun w' (hb : Below (w.alloc (.cells #[.int .i64 cap, .slice A n c] 24)).heap.size (w.alloc (.cells #[.int .i64 cap, .slice A n c] 24)) w') => SZ.out w' (below_from hb B0.out (by simp)))
  go_enter Try.func16, Try.ntmps16
  go_wp2_with fail
  refine region_below (by kernel_rfl) (by kernel_rfl) ?_
  repeat (go_big_quiet_step ((go_at_call 31; exact call_regrown SZ2.out)))
  refine wpQuiet_nil ?_
  intro w1 hb1
  have HB := Lib.hid (below_from hb1 B0.out (by simp))
  have N1 := Lib.hid (N0.out.past hb1)
  clear r0 r1 hb1
  have c1 := N1.out.cell
  have l1 := N1.out.lt
  go_wp2_with fail
  go_loopg [26] n (fun gg s wr => ∃ k : Nat, k ≤ n ∧ n - k ≤ gg ∧ s = .int .i64 k ∧ Hid (Has wr w.heap.size #[.int .i64 cap, .slice A n c]) ∧ Hid (Below w.heap.size w wr) ∧ Hid (∀ j, j < k → badAt (l.map Hd.val) j = false))
  case atStart => exact ⟨0, Nat.zero_le _, by omega, rfl, N1, HB, Lib.hid (fun j hj => absurd hj (Nat.not_lt_zero _))⟩
  case round =>
    obtain ⟨k, hk, hgg, rfl, N2, B2, G2⟩ := hrel
    clear c1 l1 N1 HB
    have c2 := N2.out.cell
    have l2 := N2.out.lt
    by_cases hlt : k < n
    · obtain ⟨b, off, hkl, rfl, hbl, x0, x1, x2⟩ := Hds.at_ (H.out.below B2.out) hlt
      have ev : (l.map Hd.val)[k]? = some l[k].val := by rw [List.getElem?_map, List.getElem?_eq_getElem hkl]; rfl
      have BA := Lib.hid (bad_at ev)
      have HKL : k < (l.map Hd.val).length := by rw [List.length_map]; exact hkl
      clear ev
      generalize l[k] = x at *
      obtain ⟨xn, xo, xA, xN, xC, xb⟩ := x
      simp only [Hd.val] at x0 x1 x2 BA
      cases hm : mayK xn xo with
      | false =>
        rw [hm] at BA
        have HM := Lib.hid hm
        go_wp2_with (go_at_call 35; refine (named_any _ _ _).mono ?_; rintro e w' ⟨rfl, rfl⟩)
        go_ret
        refine ⟨ret_int ?_, B2.out.alloc B2.out.size _⟩
        rw [goodI_bad HKL BA.out]
      | true =>
        rw [hm] at BA
        have B3 := Lib.hid (B2.out.alloc B2.out.size (.cells #[.string xn, .int .i64 xo, .slice xA xN xC] 37))
        have N3 := Lib.hid (N2.out.alloc (.cells #[.string xn, .int .i64 xo, .slice xA xN xC] 37))
        have M3 := Lib.hid (Has.newAt wr #[.string xn, .int .i64 xo, .slice xA xN xC] 37 (g := wr.heap.size) rfl)
        go_wp2_with (go_at_call 35; refine (named_any _ _ _).mono ?_; rintro e w' ⟨rfl, rfl⟩)
        have N4 := N3
        have M4 := M3
        go_loopg [42] k (fun gg s wi => ∃ j : Nat, j ≤ k ∧ k - j ≤ gg ∧ s = .int .i64 j ∧ Hid (Has wi w.heap.size #[.int .i64 cap, .slice (some ⟨b, off, none⟩) n c]) ∧ Hid (Has wi wr.heap.size #[.string xn, .int .i64 xo, .slice xA xN xC]) ∧ Hid (Below w.heap.size w wi) ∧ Hid (keyIn xn xo ((l.map Hd.val).take j) = false))
        case atStart => exact ⟨0, Nat.zero_le _, by omega, rfl, N3, M3, B3, Lib.hid (by simp [keyIn])⟩
        case round =>
          obtain ⟨j, hj, hgj, rfl, N5, M5, B5, K5⟩ := hrel
          clear N3 M3 B3 c2 l2 N4 M4 x0 x1 x2
          have c5 := N5.out.cell
          have l5 := N5.out.lt
          have d5 := M5.out.cell
          have m5 := M5.out.lt
          by_cases hlj : j < k
          · obtain ⟨b', off', hjl, e, hbj, y0, y1, y2⟩ := Hds.at_ (H.out.below B5.out) (show j < n by omega)
            injection e with e; injection e with e1 e2 e3
            subst e1 e2
            have ev : (l.map Hd.val)[j]? = some l[j].val := by rw [List.getElem?_map, List.getElem?_eq_getElem hjl]; rfl
            have KS := Lib.hid (key_snoc xn xo ev)
            clear ev
            generalize l[j] = y at *
            obtain ⟨yn, yo, yA, yN, yC, yb⟩ := y
            simp only [Hd.val] at y0 y1 y2 KS
            have B6 := Lib.hid (B5.out.alloc B5.out.size (.cells #[.string yn, .int .i64 yo, .slice yA yN yC] 37))
            have N6 := Lib.hid (N5.out.alloc (.cells #[.string yn, .int .i64 yo, .slice yA yN yC] 37))
            have M6 := Lib.hid (M5.out.alloc (.cells #[.string yn, .int .i64 yo, .slice yA yN yC] 37))
            by_cases e1 : yn = xn
            · by_cases e2 : yo = xo
              · subst e1 e2
                have BT := Lib.hid (show badAt (l.map Hd.val) k = true by rw [BA.out, key_mono yn yo _ (show j + 1 ≤ k by omega) (by rw [KS.out]; simp)]; simp)
                go_wp2_with fail
                go_ret
                exact ⟨ret_int (goodI_bad HKL BT.out).symm, B6.out⟩
              · subst e1
                have E2 := Lib.hid (show keyIn yn xo ((l.map Hd.val).take (j + 1)) = false by rw [KS.out, K5.out]; simp [e2])
                go_wp2_with fail
                go_roundg (k - (j + 1))
                case measure => omega
                case rel => exact ⟨j + 1, by omega, by omega, by go_num, N6, M6, B6, E2⟩
            · have E2 := Lib.hid (show keyIn xn xo ((l.map Hd.val).take (j + 1)) = false by rw [KS.out, K5.out]; simp [e1])
              have ne := str_ne e1
              go_wp2_with fail
              go_roundg (k - (j + 1))
              case measure => omega
              case rel => exact ⟨j + 1, by omega, by omega, by go_num, N6, M6, B6, E2⟩
          · obtain rfl : j = k := by omega
            go_wp2_with fail
            go_roundg (n - (j + 1))
            case measure => omega
            case rel =>
              refine ⟨j + 1, by omega, by omega, by go_num, N5, B5, Lib.hid (fun i hi => ?_)⟩
              by_cases e : i = j
              · subst e; rw [BA.out, K5.out]; rfl
              · exact G2.out i (by omega)
    · obtain rfl : k = n := by omega
      go_wp2_with fail
      go_ret
      exact ⟨ret_int (goodI_ok fun j hj => G2.out j (by rw [List.length_map, HLEN.out] at hj; exact hj)).symm, B2.out⟩

theorem rcheck_any (cap : Int) (A : Option Addr) (n c : Nat) (l : List Hd) (w : World) (hl : Hds w A n c l) (hn : n ≤ 60000) :
    Calls Try.prog 16 #[.agg #[.int .i64 cap, .slice A n c]] w fun e w' => e = .returned (.int .i64 (checkC cap (l.map Hd.val))) ∧ Below w.heap.size w w' := by
  have ht := total_sz hl.each
  by_cases h : cap < 0 ∨ 1099511627776 < cap ∨ cap < total l
  · rw [check_out (by rw [← ht]; exact h)]
    exact rcheck_cap cap A n c l w hl hn h
  · rw [check_in (by omega) (by omega) (by rw [← ht]; omega)]
    exact rcheck_in cap A n c l w hl hn (by omega) (by omega) (by omega)

end Go.Proofs.Ythjohjijcgiogaa
