/- Are texts in order, and names. -/
import Derived.Test.YtnigjchgpmladaaLeaf2
namespace Go.Proofs.Ytnigjchgpmladaa
open Go.RowKit Go.Shelf

set_option maxRecDepth 100000 in
set_option maxHeartbeats 8000000 in
theorem keptS_any (A : Option Addr) (n c : Nat) (l : List ByteArray) (w : World) (hl : Sl strK w A n c l) :
    Calls Try.prog 85 #[.slice A n c, .func (.func 43) #[] #[], .func (.func 74) #[] #[]] w fun e w' => e = .returned (.bool (keptB nameC cmpS l)) ∧ Below w.heap.size w w' := by
  have hmax := hl.max
  have hcap := hl.cap
  have HL := Lib.hid hl
  have HN := Lib.hid hl.len
  clear hl
  go_enter Try.func85, Try.ntmps85
  go_wp2_with fail
  go_loopg [11] n (fun gg s11 wr => ∃ k : Nat, k ≤ n ∧ n - k ≤ gg ∧ s11 = .int .i64 k ∧ Hid (Below w.heap.size w wr) ∧ Hid (∀ j (hj : j < l.length), j < k → nameC l[j] = true ∧ ∀ (h0 : 0 < j), cmpS (l[j - 1]'(by omega)) l[j] < 0))
  case atStart => exact ⟨0, Nat.zero_le _, by omega, rfl, Lib.hid (Below.refl _ _), Lib.hid (fun j _ hj => absurd hj (Nat.not_lt_zero _))⟩
  case round =>
    obtain ⟨k, hk, hgg, rfl, hb, hok⟩ := hrel
    by_cases hlt : k < n
    · obtain ⟨b, off, hkl, rfl, hbl, x0⟩ := str_at (HL.out.below hb.out) hlt
      have XI := Lib.hid (show (l[k]'hkl).size ≤ maxLen from HL.out.each l[k] (List.getElem_mem hkl))
      have NO : Hid ((nameC l[k] = false ∨ ∃ h0 : 0 < k, ¬ cmpS (l[k - 1]'(by omega)) l[k] < 0) → keptB nameC cmpS l = false) := Lib.hid (fun h => by
        cases hkp : keptB nameC cmpS l with
        | false => rfl
        | true =>
          have := kept_at.1 hkp k hkl
          rcases h with h | ⟨h0, h⟩
          · rw [h] at this; cases this.1
          · exact absurd (this.2 h0) h)
      have YES : Hid ((nameC l[k] = true ∧ ∀ (h0 : 0 < k), cmpS (l[k - 1]'(by omega)) l[k] < 0) → ∀ j (hj : j < l.length), j < k + 1 → nameC l[j] = true ∧ ∀ (h0 : 0 < j), cmpS (l[j - 1]'(by omega)) l[j] < 0) := Lib.hid (fun h j hj hjk => by
        rcases Nat.lt_or_ge j k with h' | h'
        · exact hok.out j hj h'
        · obtain rfl : j = k := by omega
          exact h)
      have PV : Hid (∀ j, j + 1 = k → ∃ y : ByteArray, ∃ h0 : 0 < k, y = (l[k - 1]'(by omega)) ∧ wr.cell? ⟨b, off + j, none⟩ = some (.string y)) := Lib.hid (fun j hj => by
        obtain ⟨b', off', hjl, e, _, hc⟩ := str_at (HL.out.below hb.out) (show j < n by omega)
        injection e with e; injection e with e1 e2 e3
        subst e1 e2
        exact ⟨l[j], by omega, by congr 1; omega, hc⟩)
      obtain ⟨x, hx⟩ : ∃ x, l[k] = x := ⟨_, rfl⟩
      rw [hx] at x0 XI NO YES
      clear hx
      obtain ⟨r, hr⟩ : ∃ r, nameC x = r := ⟨_, rfl⟩
      have NM := Lib.hid (fun w' => name_any x w' XI.out)
      rw [hr] at NM NO YES
      clear hr
      have PS := Lib.hid (fun (W : World) (h : Below wr.heap.size wr W) (a : Nat) (v : Value) (hc : wr.cell? ⟨b, a, none⟩ = some v) => (show W.cell? ⟨b, a, none⟩ = some v from (h.cell (p := ⟨b, a, none⟩) hbl).trans hc))
      cases r with
      | false =>
        go_wp2_with (go_at_call 43; refine (NM.out _).mono ?_; rintro e w1 ⟨rfl, hbb⟩; have B1 := Lib.hid (below_from hbb hb.out hb.out.size); clear hbb)
        go_ret
        exact ⟨ret_bool (NO.out (by simp)).symm, B1.out⟩
      | true =>
        rcases (show k = 0 ∨ ∃ j, j + 1 = k by cases k with | zero => exact .inl rfl | succ j => exact .inr ⟨j, rfl⟩) with k00 | ⟨j, hjk⟩
        · have d0 : decide ((0 : Int) < (k : Int)) = false := decide_eq_false (by omega)
          have d0' : decide (0 < k) = false := decide_eq_false (by omega)
          have k0' := Lib.hid k00
          clear k00
          go_wp2_with (go_at_call 43; refine (NM.out _).mono ?_; rintro e w1 ⟨rfl, hbb⟩; have B1 := Lib.hid (below_from hbb hb.out hb.out.size); clear hbb)
          go_roundg (n - (k + 1))
          case measure => omega
          case rel => exact ⟨k + 1, by omega, by omega, by go_num, B1, Lib.hid (YES.out ⟨(by first | rfl | trivial), fun h0 => absurd k0'.out (by omega)⟩)⟩
        · have d0 : decide ((0 : Int) < (k : Int)) = true := decide_eq_true (by omega)
          have d0' : decide (0 < k) = true := decide_eq_true (by omega)
          obtain ⟨y, hk0, hy, yc⟩ := PV.out j hjk
          have wj : IntKind.i64.wrap ((k : Int) - 1) = (j : Int) := by rw [IntWalk.i64_in _ (by omega)]; omega
          have j0 : (0 : Int) ≤ (j : Int) := by omega
          have j1 : (j : Int) < (n : Int) := by omega
          obtain ⟨q, hq⟩ : ∃ q, cmpS y x = q := ⟨_, rfl⟩
          have NO2 : Hid (¬ q < 0 → keptB nameC cmpS l = false) := Lib.hid (fun h => NO.out (.inr ⟨hk0, by rw [← hq, hy] at h; exact h⟩))
          have YES2 := Lib.hid (fun (h : q < 0) => YES.out ⟨by first | rfl | trivial, fun _ => by rw [← hq, hy] at h; exact h⟩)
          have HQ := Lib.hid hq
          have YC := Lib.hid yc
          clear hq hy yc PV NO YES
          by_cases hq0 : q < 0
          · have dq : decide ((0 : Int) ≤ q) = false := decide_eq_false (by omega)
            have HQ0 := Lib.hid hq0
            clear hq0
            go_wp2_with (first | (go_at_call 43; refine (NM.out _).mono ?_; rintro e w1 ⟨rfl, hbb⟩; have B1 := Lib.hid (below_from hbb hb.out hb.out.size); have z0 := PS.out _ hbb _ _ YC.out; clear hbb) | (go_at_call 74; refine (compare_any _ _ _).mono ?_; rintro e w2 ⟨rfl, rfl⟩; rw [HQ.out]))
            go_roundg (n - (k + 1))
            case measure => omega
            case rel => exact ⟨k + 1, by omega, by omega, by go_num, B1, Lib.hid (YES2.out HQ0.out)⟩
          · have dq : decide ((0 : Int) ≤ q) = true := decide_eq_true (by omega)
            have HQ0 := Lib.hid hq0
            clear hq0
            go_wp2_with (first | (go_at_call 43; refine (NM.out _).mono ?_; rintro e w1 ⟨rfl, hbb⟩; have B1 := Lib.hid (below_from hbb hb.out hb.out.size); have z0 := PS.out _ hbb _ _ YC.out; clear hbb) | (go_at_call 74; refine (compare_any _ _ _).mono ?_; rintro e w2 ⟨rfl, rfl⟩; rw [HQ.out]))
            go_ret
            exact ⟨ret_bool (NO2.out HQ0.out).symm, B1.out⟩
    · obtain rfl : k = n := by omega
      have OK := Lib.hid (kept_at.2 fun i hi => hok.out i hi (by rw [← HN.out]; exact hi))
      go_wp2_with fail
      go_ret
      exact ⟨ret_bool OK.out.symm, hb.out⟩

end Go.Proofs.Ytnigjchgpmladaa
