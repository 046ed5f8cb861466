/- How texts, numbers compare; what a name is. -/
import Derived.Test.YtnkjkgakbgjddaaOffP
import Derived.Test.YtnkjkgakbgjddaaStr
import Derived.Laws.Externs
namespace Go.Proofs.Ytnkjkgakbgjddaa
open Go.RowKit

theorem cmpstr_any (a b : ByteArray) (w : World) : Calls Try.prog 79 #[.string a, .string b] w fun e w' => e = .returned (.int .i64 (cmpS a b)) ∧ w' = w := by
  go_enter Try.func79, Try.ntmps79
  go_wp2
  rw [run_callFunc_extern Try.func84 (by kernel_rfl) (by kernel_rfl) (by kernel_rfl) (e := Extern.BytealgCompare.compare) (by kernel_rfl), Lib.run_compareString]
  simp only [Result.andThen]
  rw [Oper.upon_value]
  go_wp2
  go_ret
  exact ⟨rfl, rfl⟩
theorem compare_any (a b : ByteArray) (w : World) : Calls Try.prog 66 #[.string a, .string b] w fun e w' => e = .returned (.int .i64 (cmpS a b)) ∧ w' = w := by
  go_enter Try.func66, Try.ntmps66
  go_wp2_with (go_at_call 79; refine (cmpstr_any _ _ _).mono ?_; rintro e w' ⟨rfl, rfl⟩)
  go_ret
  exact ⟨rfl, rfl⟩
theorem nan_any (a : Int) (w : World) : Calls Try.prog 80 #[.int .i64 a] w fun e w' => e = .returned (.bool false) ∧ w' = w := by
  go_enter Try.func80, Try.ntmps80
  go_wp2
  go_ret
  exact ⟨ret_bool (by simp), rfl⟩
theorem cmpint_any (a b : Int) (w : World) : Calls Try.prog 67 #[.int .i64 a, .int .i64 b] w fun e w' => e = .returned (.int .i64 (cmpI a b)) ∧ w' = w := by
  have H : Hid (cmpI a b = if a < b then -1 else if b < a then 1 else 0) := Lib.hid rfl
  by_cases h1 : a < b
  · have d1 : decide (a < b) = true := decide_eq_true h1
    rw [if_pos h1] at H
    go_enter Try.func67, Try.ntmps67
    go_wp2_with (go_at_call 80; refine (nan_any _ _).mono ?_; rintro e w' ⟨rfl, rfl⟩)
    go_ret
    exact ⟨ret_int H.out.symm, rfl⟩
  · have d1 : decide (a < b) = false := decide_eq_false h1
    rw [if_neg h1] at H
    by_cases h2 : b < a
    · have d2 : decide (b < a) = true := decide_eq_true h2
      rw [if_pos h2] at H
      go_enter Try.func67, Try.ntmps67
      go_wp2_with (go_at_call 80; refine (nan_any _ _).mono ?_; rintro e w' ⟨rfl, rfl⟩)
      go_ret
      exact ⟨ret_int H.out.symm, rfl⟩
    · have d2 : decide (b < a) = false := decide_eq_false h2
      rw [if_neg h2] at H
      go_enter Try.func67, Try.ntmps67
      go_wp2_with (go_at_call 80; refine (nan_any _ _).mono ?_; rintro e w' ⟨rfl, rfl⟩)
      go_ret
      exact ⟨ret_int H.out.symm, rfl⟩

/-- The first that is not nought. -/
def orL : List Int → Int
  | [] => 0
  | a :: l => orI a (orL l)
theorem orL_at : ∀ {l : List Int} {k : Nat} (hk : k < l.length), (∀ j (h : j < l.length), j < k → l[j] = 0) → l[k] ≠ 0 → orL l = l[k]
  | a :: l, 0, _, _, h => by unfold orL orI; rw [if_neg (show ¬ a = 0 from h)]; rfl
  | a :: l, k + 1, hk, h0, h => by
    have ha : a = 0 := h0 0 (by simp) (by omega)
    subst ha
    unfold orL orI
    rw [if_pos rfl, List.getElem_cons_succ]
    exact orL_at (by simpa using hk) (fun j hj hjk => by have := h0 (j + 1) (by simpa using hj) (by omega); simpa using this) (by simpa using h)
theorem orL_no : ∀ {l : List Int}, (∀ j (h : j < l.length), l[j] = 0) → orL l = 0
  | [], _ => rfl
  | a :: l, h => by
    have ha : a = 0 := h 0 (by simp)
    subst ha
    unfold orL orI
    rw [if_pos rfl]
    exact orL_no fun j hj => by have := h (j + 1) (by simpa using hj); simpa using this
set_option maxHeartbeats 1000000 in
theorem or_any (A : Option Addr) (n c : Nat) (l : List Int) (w : World) (hl : Sl intK w A n c l) : Calls Try.prog 65 #[.slice A n c] w fun e w' => e = .returned (.int .i64 (orL l)) ∧ w' = w := by
  have hmax := hl.max
  have hcap := hl.cap
  have HL := Lib.hid hl
  have HN := Lib.hid hl.len
  clear hl
  go_enter Try.func65, Try.ntmps65
  go_wp2_with fail
  go_loopg [8] n (fun gg s8 wr => ∃ k : Nat, k ≤ n ∧ n - k ≤ gg ∧ s8 = .int .i64 k ∧ wr = w ∧ Hid (∀ j (hj : j < l.length), j < k → l[j] = 0))
  case atStart => exact ⟨0, Nat.zero_le _, by omega, rfl, rfl, Lib.hid (fun j _ hj => absurd hj (Nat.not_lt_zero _))⟩
  case round =>
    obtain ⟨k, hk, hgg, rfl, rfl, hok⟩ := hrel
    by_cases hlt : k < n
    · obtain ⟨b, off, hkl, rfl, hbl, hc⟩ := HL.out.get hlt
      have x0 : wr.cell? ⟨b, off + k, none⟩ = some (.int .i64 l[k]) := by have := hc 0 (by decide); simpa [intK] using this
      clear hc
      by_cases h0 : l[k] = 0
      · have NX : Hid (∀ j (hj : j < l.length), j < k + 1 → l[j] = 0) := Lib.hid (fun j hj hjk => by
          rcases Nat.lt_or_ge j k with h' | h'
          · exact hok.out j hj h'
          · obtain rfl : j = k := by omega
            exact h0)
        rw [h0] at x0
        clear h0
        go_wp2_with fail
        go_roundg (n - (k + 1))
        case measure => omega
        case rel => exact ⟨k + 1, by omega, by omega, by go_num, rfl, NX⟩
      · have R := Lib.hid (orL_at hkl hok.out h0)
        generalize l[k] = x at *
        go_wp2_with fail
        go_ret
        exact ⟨ret_int R.out.symm, rfl⟩
    · obtain rfl : k = n := by omega
      have R := Lib.hid (orL_no (l := l) fun j hj => hok.out j hj (by rw [← HN.out]; exact hj))
      go_wp2_with fail
      go_ret
      exact ⟨ret_int R.out.symm, rfl⟩

set_option maxHeartbeats 2000000 in
/-- Whether a text is a name. -/
theorem name_any (s : ByteArray) (w : World) (hs : s.size ≤ maxLen) : Calls Try.prog 61 #[.string s] w fun e w' => e = .returned (.bool (nameC s)) ∧ w = w' := by
  have hmax : s.size ≤ 9223372036854775807 := by simpa [maxLen] using hs
  clear hs
  go_enter Try.func61, Try.ntmps61
  go_wp2_with fail
  go_loopg [6] s.size (fun gg s3 wr => ∃ k : Nat, k ≤ s.size ∧ s.size - k ≤ gg ∧ s3 = .int .i64 k ∧ wr = w ∧ Hid (∀ j (hj : j < s.size), j < k → fineB s[j] = true))
  case atStart => exact ⟨0, Nat.zero_le _, by omega, rfl, rfl, Lib.hid (fun j _ hj => absurd hj (Nat.not_lt_zero _))⟩
  case round =>
    obtain ⟨k, hk, hgg, rfl, rfl, hok⟩ := hrel
    by_cases hlt : k < s.size
    · obtain ⟨y, hy⟩ : ∃ y, s[k] = y := ⟨_, rfl⟩
      have NO : Hid (fineB y = false → nameC s = false) := Lib.hid (fun h => by
        unfold nameC
        have : fineS s = false := by
          cases hf : fineS s with
          | false => rfl
          | true => have := fine_at hf hlt; rw [hy, h] at this; cases this
        rw [this, Bool.and_false])
      have YES : Hid (fineB y = true → ∀ j (hj : j < s.size), j < k + 1 → fineB s[j] = true) := Lib.hid (fun h j hj hjk => by
        rcases Nat.lt_or_ge j k with h' | h'
        · exact hok.out j hj h'
        · obtain rfl : j = k := by omega
          rw [hy]; exact h)
      by_cases y1 : y.toNat ≤ 32
      · go_wp2_with fail
        go_ret
        exact ⟨ret_bool (NO.out (decide_eq_false (by omega))).symm, rfl⟩
      · by_cases y2 : 126 < y.toNat
        · go_wp2_with fail
          go_ret
          exact ⟨ret_bool (NO.out (decide_eq_false (by omega))).symm, rfl⟩
        · go_wp2_with fail
          go_roundg (s.size - (k + 1))
          case measure => omega
          case rel => exact ⟨k + 1, by omega, by omega, by go_num, rfl, YES.out (decide_eq_true (by omega))⟩
    · obtain rfl : k = s.size := by omega
      have FS := Lib.hid (fine_of (fun i hi => hok.out i hi hi))
      by_cases h0 : s = ⟨#[]⟩
      · subst h0
        have hn : nameC ⟨#[]⟩ = false := rfl
        have HN := Lib.hid hn
        clear hn
        go_wp2_with fail
        go_ret
        exact ⟨ret_bool (by first | rfl | simp [HN.out]), rfl⟩
      · have hs1 : 0 < s.size := by
          apply Nat.pos_of_ne_zero
          intro e
          apply h0
          cases s with
          | mk d =>
            have : d = #[] := Array.size_eq_zero_iff.1 e
            rw [this]
        have ie : s.toList.isEmpty = false := by
          rw [Lib.toList_data]
          cases h : s.data.toList with
          | nil =>
            exfalso
            have h2 : s.data.toList.length = s.size := Array.length_toList
            rw [h, List.length_nil] at h2
            omega
          | cons a l => rfl
        by_cases h2 : s.size ≤ 64
        · have d1 : decide ((s.size : Int) ≤ 64) = true := decide_eq_true (by omega)
          have hn : nameC s = true := by unfold nameC; rw [FS.out, decide_eq_true (by omega)]; rfl
          have HN := Lib.hid hn
          clear hn h0
          go_wp2_with fail
          go_ret
          exact ⟨ret_bool HN.out.symm, rfl⟩
        · have d1 : decide ((s.size : Int) ≤ 64) = false := decide_eq_false (by omega)
          have hn : nameC s = false := by unfold nameC; rw [decide_eq_false (by omega)]; rfl
          have HN := Lib.hid hn
          clear hn h0
          go_wp2_with fail
          go_ret
          exact ⟨ret_bool HN.out.symm, rfl⟩
/-- Does a number lie between nought and another one? -/
def inB (a b : Int) : Bool := decide (0 ≤ a ∧ a ≤ b)
theorem in_any (a b : Int) (w : World) : Calls Try.prog 60 #[.int .i64 a, .int .i64 b] w fun e w' => e = .returned (.bool (inB a b)) ∧ w = w' := by
  unfold inB
  by_cases h1 : 0 ≤ a
  · have d1 : decide (0 ≤ a) = true := decide_eq_true h1
    by_cases h2 : a ≤ b
    · have d2 : decide (a ≤ b) = true := decide_eq_true h2
      have H := Lib.hid (decide_eq_true (And.intro h1 h2))
      go_enter Try.func60, Try.ntmps60
      go_wp2
      go_ret
      exact ⟨ret_bool (by first | rfl | exact H.out.symm), rfl⟩
    · have d2 : decide (a ≤ b) = false := decide_eq_false h2
      have H := Lib.hid (decide_eq_false (fun h : 0 ≤ a ∧ a ≤ b => h2 h.2))
      go_enter Try.func60, Try.ntmps60
      go_wp2
      go_ret
      exact ⟨ret_bool (by first | rfl | exact H.out.symm), rfl⟩
  · have d1 : decide (0 ≤ a) = false := decide_eq_false h1
    have H := Lib.hid (decide_eq_false (fun h : 0 ≤ a ∧ a ≤ b => h1 h.1))
    go_enter Try.func60, Try.ntmps60
    go_wp2
    go_ret
    exact ⟨ret_bool (by first | rfl | exact H.out.symm), rfl⟩

end Go.Proofs.Ytnkjkgakbgjddaa
