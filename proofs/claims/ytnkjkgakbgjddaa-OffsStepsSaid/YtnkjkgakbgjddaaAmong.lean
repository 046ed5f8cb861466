/- among: is one of some of a position's place. -/
import Derived.Test.YtnkjkgakbgjddaaLive
namespace Go.Proofs.Ytnkjkgakbgjddaa
open Go.RowKit

set_option maxRecDepth 100000 in
set_option maxHeartbeats 8000000 in
theorem among_any (A : Option Addr) (n c : Nat) (l : List Ps) (x : Ps) (w : World) (hl : Sl psK w A n c l) : Calls Try.prog 59 #[.slice A n c, x.v] w fun e w' => e = .returned (.bool (amongV l x)) ∧ Below w.heap.size w w' := by
  obtain ⟨xg, xt, xp, xh, xo⟩ := x
  have S0 := Lib.hid (Has.newAt w #[.string xg, .string xt, .int .i64 xp, .int .i64 xh, .int .i64 xo] 29 (g := w.heap.size) rfl)
  have B0 := Lib.hid (below_alloc1 w (.cells #[.string xg, .string xt, .int .i64 xp, .int .i64 xh, .int .i64 xo] 29))
  have HL := Lib.hid hl
  have LN := Lib.hid hl.len
  have hmax := hl.max
  have hcap := hl.cap
  obtain ⟨R, hR⟩ : ∃ R, amongV l ⟨xg, xt, xp, xh, xo⟩ = R := ⟨_, rfl⟩
  have HR := Lib.hid hR
  rw [hR]
  clear hl hR
  unfold Ps.v
  go_enter Try.func59, Try.ntmps59
  go_wp2_with fail
  go_loopg [5] n (fun gg s5 wr => ∃ k : Nat, k ≤ n ∧ n - k ≤ gg ∧ s5 = .int .i64 k ∧ Hid (Below w.heap.size w wr) ∧ Hid (Has wr w.heap.size #[.string xg, .string xt, .int .i64 xp, .int .i64 xh, .int .i64 xo]) ∧ Hid (∀ j (hj : j < l.length), j < k → ofPl xg xt xp xh l[j] = false))
  case atStart => exact ⟨0, Nat.zero_le _, by omega, rfl, B0, S0, Lib.hid (fun j _ hj => absurd hj (Nat.not_lt_zero _))⟩
  case round =>
    obtain ⟨k, hk, hgg, rfl, hb, hS, hok⟩ := hrel
    have sc := hS.out.cell
    have sl := hS.out.lt
    by_cases hlt : k < n
    · obtain ⟨b, off, hkl, rfl, hbl, u0, u1, u2, u3, u4⟩ := Pss.at_ (HL.out.below hb.out) hlt
      obtain ⟨y, hy⟩ : ∃ y, l[k] = y := ⟨_, rfl⟩
      rw [hy] at u0 u1 u2 u3 u4
      have NX := Lib.hid (show ofPl xg xt xp xh y = false → Hid (∀ j (hj : j < l.length), j < k + 1 → ofPl xg xt xp xh l[j] = false) from fun hn => Lib.hid fun j hj hjk => by
        rcases Nat.lt_or_ge j k with h' | h'
        · exact hok.out j hj h'
        · obtain rfl : j = k := by omega
          rw [hy]; exact hn)
      have YES := Lib.hid (show ofPl xg xt xp xh y = true → R = true from fun hn => by
        rw [← HR.out]; unfold amongV; rw [List.any_eq_true]; exact ⟨y, by rw [← hy]; exact List.getElem_mem hkl, hn⟩)
      clear hy hkl
      obtain ⟨yg, yt, yp, yh, yo⟩ := y
      simp only at u0 u1 u2 u3 u4
      have r0 := at_regrown u0
      have r1 := at_regrown u1
      have r2 := at_regrown u2
      have r3 := at_regrown u3
      have r4 := at_regrown u4
      have s0 := at_regrown (a := ⟨w.heap.size, 0, none⟩) (v := .string xg) (sc 0)
      have s1 := at_regrown (a := ⟨w.heap.size, 1, none⟩) (v := .string xt) (sc 1)
      have s2 := at_regrown (a := ⟨w.heap.size, 2, none⟩) (v := .int .i64 xp) (sc 2)
      have s3 := at_regrown (a := ⟨w.heap.size, 3, none⟩) (v := .int .i64 xh) (sc 3)
      have k0 : (0 : Int) ≤ (k : Int) := by omega
      have k1 : (k : Int) < (n : Int) := by omega
      by_cases h1 : yg = xg
      · subst h1
        by_cases h2 : yt = xt
        · subst h2
          by_cases h3 : yp = xp
          · subst h3
            by_cases h4 : yh = xh
            · subst h4
              have YS := Lib.hid (YES.out (by unfold ofPl ofTp; simp))
              go_wp2_with fail
              refine region_below (by kernel_rfl) (by kernel_rfl) ?_
              repeat (go_big_quiet_step (fail))
              refine wpQuiet_nil ?_
              intro w3 hb3
              have S3 := Lib.hid (hS.out.past hb3)
              have B3 := Lib.hid (below_from hb3 hb.out hb.out.size)
              clear hb3
              go_wp2_with fail
              go_ret
              exact ⟨ret_bool YS.out.symm, B3.out⟩
            · obtain ⟨d1, d2⟩ := int_ne h4
              have HH := Lib.hid h4
              clear h4
              go_wp2_with fail
              refine region_below (by kernel_rfl) (by kernel_rfl) ?_
              repeat (go_big_quiet_step (fail))
              refine wpQuiet_nil ?_
              intro w3 hb3
              have S3 := Lib.hid (hS.out.past hb3)
              have B3 := Lib.hid (below_from hb3 hb.out hb.out.size)
              clear hb3
              go_wp2_with fail
              go_roundg (n - (k + 1))
              case measure => omega
              case rel => exact ⟨k + 1, by omega, by omega, by go_num, B3, S3, NX.out (by unfold ofPl ofTp; simp [HH.out])⟩
          · obtain ⟨d1, d2⟩ := int_ne h3
            have HH := Lib.hid h3
            clear h3
            go_wp2_with fail
            refine region_below (by kernel_rfl) (by kernel_rfl) ?_
            repeat (go_big_quiet_step (fail))
            refine wpQuiet_nil ?_
            intro w3 hb3
            have S3 := Lib.hid (hS.out.past hb3)
            have B3 := Lib.hid (below_from hb3 hb.out hb.out.size)
            clear hb3
            go_wp2_with fail
            go_roundg (n - (k + 1))
            case measure => omega
            case rel => exact ⟨k + 1, by omega, by omega, by go_num, B3, S3, NX.out (by unfold ofPl ofTp; simp [HH.out])⟩
        · obtain ⟨d1, d2, d3⟩ := str_nes h2
          have HH := Lib.hid h2
          clear h2
          go_wp2_with fail
          refine region_below (by kernel_rfl) (by kernel_rfl) ?_
          repeat (go_big_quiet_step (fail))
          refine wpQuiet_nil ?_
          intro w3 hb3
          have S3 := Lib.hid (hS.out.past hb3)
          have B3 := Lib.hid (below_from hb3 hb.out hb.out.size)
          clear hb3
          go_wp2_with fail
          go_roundg (n - (k + 1))
          case measure => omega
          case rel => exact ⟨k + 1, by omega, by omega, by go_num, B3, S3, NX.out (by unfold ofPl ofTp; simp [HH.out])⟩
      · obtain ⟨d1, d2, d3⟩ := str_nes h1
        have HH := Lib.hid h1
        clear h1
        go_wp2_with fail
        refine region_below (by kernel_rfl) (by kernel_rfl) ?_
        repeat (go_big_quiet_step (fail))
        refine wpQuiet_nil ?_
        intro w3 hb3
        have S3 := Lib.hid (hS.out.past hb3)
        have B3 := Lib.hid (below_from hb3 hb.out hb.out.size)
        clear hb3
        go_wp2_with fail
        go_roundg (n - (k + 1))
        case measure => omega
        case rel => exact ⟨k + 1, by omega, by omega, by go_num, B3, S3, NX.out (by unfold ofPl ofTp; simp [HH.out])⟩
    · obtain rfl : k = n := by omega
      have RN : Hid (R = false) := Lib.hid (by
        rw [← HR.out]; unfold amongV; rw [List.any_eq_false]
        intro y hy
        obtain ⟨j, hj, rfl⟩ := List.getElem_of_mem hy
        rw [hok.out j hj (by rw [← LN.out]; exact hj)]; decide)
      go_wp2_with fail
      go_ret
      exact ⟨ret_bool RN.out.symm, hb.out⟩

end Go.Proofs.Ytnkjkgakbgjddaa
