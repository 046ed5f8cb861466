/- The small functions: ranges, ends, orders. -/
import Derived.Test.YtmlgahambecamaaPlain
import Derived.Test.YtmlgahambecamaaStr
import Derived.Laws.Externs
import Derived.Shelf.Abstract
namespace Go.Proofs.Ytmlgahambecamaa
open Go.RowKit Go.Shelf

theorem within_any (n a b : Int) (w : World) : Calls Try.prog 35 #[.int .i64 n, .int .i64 a, .int .i64 b] w fun e w' => e = .returned (.bool (inR n a b)) ∧ w = w' := by
  unfold inR
  by_cases h1 : a ≤ n
  · have d1 : decide (a ≤ n) = true := decide_eq_true h1
    cases d2 : decide (n ≤ b) <;> (go_enter Try.func35, Try.ntmps35; go_wp2; go_ret; exact ⟨ret_bool (by first | rfl | simp [*]), rfl⟩)
  · have d1 : decide (a ≤ n) = false := decide_eq_false h1
    go_enter Try.func35, Try.ntmps35
    go_wp2
    go_ret
    exact ⟨ret_bool (by simp [*]), rfl⟩
theorem in_any (n a b : Int) (w : World) : Calls Try.prog 39 #[.int .i64 n, .int .i64 a, .int .i64 b] w fun e w' => e = .returned (.bool (inR n a b)) ∧ w = w' := by
  unfold inR
  by_cases h1 : a ≤ n
  · have d1 : decide (a ≤ n) = true := decide_eq_true h1
    cases d2 : decide (n ≤ b) <;> (go_enter Try.func39, Try.ntmps39; go_wp2; go_ret; exact ⟨ret_bool (by first | rfl | simp [*]), rfl⟩)
  · have d1 : decide (a ≤ n) = false := decide_eq_false h1
    go_enter Try.func39, Try.ntmps39
    go_wp2
    go_ret
    exact ⟨ret_bool (by simp [*]), rfl⟩
/-- How two numbers compare. -/
def cmpI (a b : Int) : Int := if a < b then -1 else if b < a then 1 else 0
def orI (a b : Int) : Int := if a = 0 then b else a
theorem nan_any (a : Int) (w : World) : Calls Try.prog 77 #[.int .i64 a] w fun e w' => e = .returned (.bool false) ∧ w = w' := by
  go_enter Try.func77, Try.ntmps77
  go_wp2
  go_ret
  exact ⟨ret_bool (by simp), rfl⟩
theorem cmpint_any (a b : Int) (w : World) : Calls Try.prog 69 #[.int .i64 a, .int .i64 b] w fun e w' => e = .returned (.int .i64 (cmpI a b)) ∧ w = w' := by
  have H : Hid (cmpI a b = if a < b then -1 else if b < a then 1 else 0) := Lib.hid rfl
  by_cases h1 : a < b
  · have d1 : decide (a < b) = true := decide_eq_true h1
    rw [if_pos h1] at H
    go_enter Try.func69, Try.ntmps69
    go_wp2_with (go_at_call 77; refine (nan_any _ _).mono ?_; rintro e w' ⟨rfl, rfl⟩)
    go_ret
    exact ⟨ret_int H.out.symm, rfl⟩
  · have d1 : decide (a < b) = false := decide_eq_false h1
    rw [if_neg h1] at H
    by_cases h2 : b < a
    · have d2 : decide (b < a) = true := decide_eq_true h2
      rw [if_pos h2] at H
      go_enter Try.func69, Try.ntmps69
      go_wp2_with (go_at_call 77; refine (nan_any _ _).mono ?_; rintro e w' ⟨rfl, rfl⟩)
      go_ret
      exact ⟨ret_int H.out.symm, rfl⟩
    · have d2 : decide (b < a) = false := decide_eq_false h2
      rw [if_neg h2] at H
      go_enter Try.func69, Try.ntmps69
      go_wp2_with (go_at_call 77; refine (nan_any _ _).mono ?_; rintro e w' ⟨rfl, rfl⟩)
      go_ret
      exact ⟨ret_int H.out.symm, rfl⟩
/-- The first that is not nought. -/
def orL : List Int → Int
  | [] => 0
  | a :: l => orI a (orL l)
theorem orL_at : ∀ {l : List Int} {k : Nat} (hk : k < l.length), (∀ j (h : j < l.length), j < k → l[j] = 0) → l[k] ≠ 0 → orL l = l[k]
  | a :: l, 0, _, _, h => by unfold orL orI; rw [if_neg (show ¬ a = 0 from h)]; rfl
  | a :: l, k + 1, hk, h0, h => by
    have ha : a = 0 := h0 0 (by simp) (by omega)
    subst ha
    unfold orL orI
    rw [if_pos rfl, List.getElem_cons_succ]
    exact orL_at (by simpa using hk) (fun j hj hjk => by have := h0 (j + 1) (by simpa using hj) (by omega); simpa using this) (by simpa using h)
theorem orL_no : ∀ {l : List Int}, (∀ j (h : j < l.length), l[j] = 0) → orL l = 0
  | [], _ => rfl
  | a :: l, h => by
    have ha : a = 0 := h 0 (by simp)
    subst ha
    unfold orL orI
    rw [if_pos rfl]
    exact orL_no fun j hj => by have := h (j + 1) (by simpa using hj); simpa using this
set_option maxHeartbeats 1000000 in
theorem or_any (A : Option Addr) (n c : Nat) (l : List Int) (w : World) (hl : Sl intK w A n c l) : Calls Try.prog 68 #[.slice A n c] w fun e w' => e = .returned (.int .i64 (orL l)) ∧ w = w' := by
  have hmax := hl.max
  have hcap := hl.cap
  have HL := Lib.hid hl
  have HN := Lib.hid hl.len
  clear hl
  go_enter Try.func68, Try.ntmps68
  go_wp2_with fail
  go_loopg [8] n (fun gg s8 wr => ∃ k : Nat, k ≤ n ∧ n - k ≤ gg ∧ s8 = .int .i64 k ∧ wr = w ∧ Hid (∀ j (hj : j < l.length), j < k → l[j] = 0))
  case atStart => exact ⟨0, Nat.zero_le _, by omega, rfl, rfl, Lib.hid (fun j _ hj => absurd hj (Nat.not_lt_zero _))⟩
  case round =>
    obtain ⟨k, hk, hgg, rfl, rfl, hok⟩ := hrel
    by_cases hlt : k < n
    · obtain ⟨b, off, hkl, rfl, hbl, hc⟩ := HL.out.get hlt
      have x0 : wr.cell? ⟨b, off + k, none⟩ = some (.int .i64 l[k]) := by have := hc 0 (by decide); simpa [intK] using this
      clear hc
      by_cases h0 : l[k] = 0
      · have NX : Hid (∀ j (hj : j < l.length), j < k + 1 → l[j] = 0) := Lib.hid (fun j hj hjk => by
          rcases Nat.lt_or_ge j k with h' | h'
          · exact hok.out j hj h'
          · obtain rfl : j = k := by omega
            exact h0)
        rw [h0] at x0
        clear h0
        go_wp2_with fail
        go_roundg (n - (k + 1))
        case measure => omega
        case rel => exact ⟨k + 1, by omega, by omega, by go_num, rfl, NX⟩
      · have R := Lib.hid (orL_at hkl hok.out h0)
        generalize l[k] = x at *
        go_wp2_with fail
        go_ret
        exact ⟨ret_int R.out.symm, rfl⟩
    · obtain rfl : k = n := by omega
      have R := Lib.hid (orL_no (l := l) fun j hj => hok.out j hj (by rw [← HN.out]; exact hj))
      go_wp2_with fail
      go_ret
      exact ⟨ret_int R.out.symm, rfl⟩


end Go.Proofs.Ytmlgahambecamaa
