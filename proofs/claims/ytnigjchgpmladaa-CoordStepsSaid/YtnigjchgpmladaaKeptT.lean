/- Are partitions in order, and right. -/
import Derived.Test.YtnigjchgpmladaaLeaf2
namespace Go.Proofs.Ytnigjchgpmladaa
open Go.RowKit Go.Shelf

set_option maxRecDepth 100000 in
set_option maxHeartbeats 8000000 in
theorem keptT_any (A : Option Addr) (n c : Nat) (l : List Tp) (w : World) (hl : Sl tpK w A n c l) :
    Calls Try.prog 84 #[.slice A n c, .func (.func 61) #[] #[], .func (.func 66) #[] #[]] w fun e w' => e = .returned (.bool (keptB rightT ordT l)) ∧ Below w.heap.size w w' := by
  have hmax := hl.max
  have hcap := hl.cap
  have HL := Lib.hid hl
  have HN := Lib.hid hl.len
  clear hl
  go_enter Try.func84, Try.ntmps84
  go_wp2_with fail
  go_loopg [11] n (fun gg s11 wr => ∃ k : Nat, k ≤ n ∧ n - k ≤ gg ∧ s11 = .int .i64 k ∧ Hid (Below w.heap.size w wr) ∧ Hid (∀ j (hj : j < l.length), j < k → rightT l[j] = true ∧ ∀ (h0 : 0 < j), ordT (l[j - 1]'(by omega)) l[j] < 0))
  case atStart => exact ⟨0, Nat.zero_le _, by omega, rfl, Lib.hid (Below.refl _ _), Lib.hid (fun j _ hj => absurd hj (Nat.not_lt_zero _))⟩
  case round =>
    obtain ⟨k, hk, hgg, rfl, hb, hok⟩ := hrel
    by_cases hlt : k < n
    · obtain ⟨b, off, hkl, rfl, hbl, x0, x1, x2⟩ := tp_at (HL.out.below hb.out) hlt
      have XI := Lib.hid (HL.out.each l[k] (List.getElem_mem hkl))
      have NO : Hid ((rightT l[k] = false ∨ ∃ h0 : 0 < k, ¬ ordT (l[k - 1]'(by omega)) l[k] < 0) → keptB rightT ordT l = false) := Lib.hid (fun h => by
        cases hkp : keptB rightT ordT l with
        | false => rfl
        | true =>
          have := kept_at.1 hkp k hkl
          rcases h with h | ⟨h0, h⟩
          · rw [h] at this; cases this.1
          · exact absurd (this.2 h0) h)
      have YES : Hid ((rightT l[k] = true ∧ ∀ (h0 : 0 < k), ordT (l[k - 1]'(by omega)) l[k] < 0) → ∀ j (hj : j < l.length), j < k + 1 → rightT l[j] = true ∧ ∀ (h0 : 0 < j), ordT (l[j - 1]'(by omega)) l[j] < 0) := Lib.hid (fun h j hj hjk => by
        rcases Nat.lt_or_ge j k with h' | h'
        · exact hok.out j hj h'
        · obtain rfl : j = k := by omega
          exact h)
      have PV : Hid (∀ j, j + 1 = k → ∃ y : Tp, ∃ h0 : 0 < k, y = (l[k - 1]'(by omega)) ∧ (∀ i, i < 3 → wr.cell? ⟨b, off + j * 3 + i, none⟩ = (tpK.cells y)[i]?)) := Lib.hid (fun j hj => by
        obtain ⟨b', off', hjl, e, _, hc⟩ := (HL.out.below hb.out).get (show j < n by omega)
        injection e with e; injection e with e1 e2 e3
        subst e1 e2
        exact ⟨l[j], by omega, by congr 1; omega, fun i hi => hc i hi⟩)
      obtain ⟨x, hx⟩ : ∃ x, l[k] = x := ⟨_, rfl⟩
      rw [hx] at x0 x1 x2 XI NO YES
      clear hx
      obtain ⟨W, hW⟩ : ∃ W, W = wr.alloc (.cells #[.string x.t, .int .i64 x.p, .int .i64 x.h] 45) := ⟨_, rfl⟩
      have bW : Below wr.heap.size wr W := by rw [hW]; exact below_alloc1 wr _
      have BX := Lib.hid (show Has W wr.heap.size #[.string x.t, .int .i64 x.p, .int .i64 x.h] from by rw [hW]; exact Has.newAt wr _ 45 rfl)
      have BW := Lib.hid (below_from bW hb.out hb.out.size)
      have HW := Lib.hid hW
      clear hW
      have bc := BX.out.cell
      have bl := BX.out.lt
      have rb0 := at_regrown (v := .string x.t) (bc 0)
      have rb1 := at_regrown (v := .int .i64 x.p) (bc 1)
      have rb2 := at_regrown (v := .int .i64 x.h) (bc 2)
      obtain ⟨r, hr⟩ : ∃ r, rightT x = r := ⟨_, rfl⟩
      have RT := Lib.hid (fun w' (_ : Below W.heap.size W w') => right_any x w' XI.out.1)
      rw [hr] at RT NO YES

      cases r with
      | false =>
        clear hr
        go_wp2_with fail
        rw [← HW.out]
        refine region_below (by kernel_rfl) (by kernel_rfl) ?_
        repeat (go_big_quiet_step ((first | (go_at_call 61; exact call_regrown RT.out) | (go_at_call 66; exact call_regrown OD.out))))
        refine wpQuiet_nil ?_
        intro w1 hb1
        have B1 := Lib.hid (below_from hb1 BW.out BW.out.size)
        clear hb1
        go_wp2_with fail
        go_ret
        exact ⟨ret_bool (NO.out (by simp)).symm, B1.out⟩
      | true =>
        clear hr
        rcases (show k = 0 ∨ ∃ j, j + 1 = k by cases k with | zero => exact .inl rfl | succ j => exact .inr ⟨j, rfl⟩) with k00 | ⟨j, hjk⟩
        · have d0 : decide ((0 : Int) < (k : Int)) = false := decide_eq_false (by omega)
          have d0' : decide (0 < k) = false := decide_eq_false (by omega)
          have k0' := Lib.hid k00
          clear k00
          go_wp2_with fail
          rw [← HW.out]
          refine region_below (by kernel_rfl) (by kernel_rfl) ?_
          repeat (go_big_quiet_step ((first | (go_at_call 61; exact call_regrown RT.out) | (go_at_call 66; exact call_regrown OD.out))))
          refine wpQuiet_nil ?_
          intro w1 hb1
          have B1 := Lib.hid (below_from hb1 BW.out BW.out.size)
          clear hb1
          go_wp2_with fail
          go_roundg (n - (k + 1))
          case measure => omega
          case rel => exact ⟨k + 1, by omega, by omega, by go_num, B1, Lib.hid (YES.out ⟨(by first | rfl | trivial), fun h0 => absurd k0'.out (by omega)⟩)⟩
        · have d0 : decide ((0 : Int) < (k : Int)) = true := decide_eq_true (by omega)
          have d0' : decide (0 < k) = true := decide_eq_true (by omega)
          obtain ⟨y, hk0, hy, yc⟩ := PV.out j hjk
          have wj : IntKind.i64.wrap ((k : Int) - 1) = (j : Int) := by rw [IntWalk.i64_in _ (by omega)]; omega
          have j0 : (0 : Int) ≤ (j : Int) := by omega
          have j1 : (j : Int) < (n : Int) := by omega
          have y0 : W.cell? ⟨b, off + j * 3, none⟩ = some (.string y.t) := (bW.cell (p := ⟨b, off + j * 3 + 0, none⟩) hbl).trans (yc 0 (by decide))
          have y1 : W.cell? ⟨b, off + j * 3 + 1, none⟩ = some (.int .i64 y.p) := (bW.cell (p := ⟨b, off + j * 3 + 1, none⟩) hbl).trans (yc 1 (by decide))
          have y2 : W.cell? ⟨b, off + j * 3 + 2, none⟩ = some (.int .i64 y.h) := (bW.cell (p := ⟨b, off + j * 3 + 2, none⟩) hbl).trans (yc 2 (by decide))
          have ry0 := at_regrown y0
          have ry1 := at_regrown y1
          have ry2 := at_regrown y2
          obtain ⟨q, hq⟩ : ∃ q, ordT y x = q := ⟨_, rfl⟩
          have OD := Lib.hid (fun w' (_ : Below W.heap.size W w') => order_any y x w')
          have NO2 : Hid (¬ q < 0 → keptB rightT ordT l = false) := Lib.hid (fun h => NO.out (.inr ⟨hk0, by rw [← hq, hy] at h; exact h⟩))
          have YES2 := Lib.hid (fun (h : q < 0) => YES.out ⟨by first | rfl | trivial, fun _ => by rw [← hq, hy] at h; exact h⟩)
          rw [hq] at OD
          clear hq hy yc PV NO YES y0 y1 y2
          by_cases hq0 : q < 0
          · have dq : decide ((0 : Int) ≤ q) = false := decide_eq_false (by omega)
            have HQ := Lib.hid hq0
            clear hq0
            go_wp2_with fail
            rw [← HW.out]
            refine region_below (by kernel_rfl) (by kernel_rfl) ?_
            repeat (go_big_quiet_step ((first | (go_at_call 61; exact call_regrown RT.out) | (go_at_call 66; exact call_regrown OD.out))))
            refine wpQuiet_nil ?_
            intro w1 hb1
            have B1 := Lib.hid (below_from hb1 BW.out BW.out.size)
            clear hb1
            go_wp2_with fail
            go_roundg (n - (k + 1))
            case measure => omega
            case rel => exact ⟨k + 1, by omega, by omega, by go_num, B1, Lib.hid (YES2.out HQ.out)⟩
          · have dq : decide ((0 : Int) ≤ q) = true := decide_eq_true (by omega)
            have HQ := Lib.hid hq0
            clear hq0
            go_wp2_with fail
            rw [← HW.out]
            refine region_below (by kernel_rfl) (by kernel_rfl) ?_
            repeat (go_big_quiet_step ((first | (go_at_call 61; exact call_regrown RT.out) | (go_at_call 66; exact call_regrown OD.out))))
            refine wpQuiet_nil ?_
            intro w1 hb1
            have B1 := Lib.hid (below_from hb1 BW.out BW.out.size)
            clear hb1
            go_wp2_with fail
            go_ret
            exact ⟨ret_bool (NO2.out HQ.out).symm, B1.out⟩
    · obtain rfl : k = n := by omega
      have OK := Lib.hid (kept_at.2 fun i hi => hok.out i hi (by rw [← HN.out]; exact hi))
      go_wp2_with fail
      go_ret
      exact ⟨ret_bool OK.out.symm, hb.out⟩

end Go.Proofs.Ytnigjchgpmladaa
