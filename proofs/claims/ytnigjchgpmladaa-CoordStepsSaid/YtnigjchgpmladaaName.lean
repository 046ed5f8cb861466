/- What a name is: strings.ContainsFunc, over runes. -/
import Derived.Test.YtnigjchgpmladaaLeaf
import Derived.Laws.RangeString
import Derived.Laws.RangeAny
namespace Go.Proofs.Ytnigjchgpmladaa
open Go.RowKit Go.Shelf

theorem oddc_any (r : Nat) (w : World) : Calls Try.prog 78 #[.int .i32 (r : Int)] w fun e w' => e = .returned (.bool (decide (r < 33 ∨ 126 < r))) ∧ w = w' := by
  by_cases h1 : r < 33
  · have d1 : decide ((r : Int) < 33) = true := decide_eq_true (by omega)
    have d2 : decide (r < 33) = true := decide_eq_true h1
    have H := Lib.hid (decide_eq_true (show r < 33 ∨ 126 < r from .inl h1))
    go_enter Try.func78, Try.ntmps78
    go_wp2_with fail
    go_ret
    exact ⟨ret_bool H.out.symm, rfl⟩
  · have d1 : decide ((r : Int) < 33) = false := decide_eq_false (by omega)
    have d2 : decide (r < 33) = false := decide_eq_false h1
    by_cases h2 : 126 < r
    · have d3 : decide ((126 : Int) < (r : Int)) = true := decide_eq_true (by omega)
      have d4 : decide (126 < r) = true := decide_eq_true h2
      have H := Lib.hid (decide_eq_true (show r < 33 ∨ 126 < r from .inr h2))
      go_enter Try.func78, Try.ntmps78
      go_wp2_with fail
      go_ret
      exact ⟨ret_bool H.out.symm, rfl⟩
    · have d3 : decide ((126 : Int) < (r : Int)) = false := decide_eq_false (by omega)
      have d4 : decide (126 < r) = false := decide_eq_false h2
      have H := Lib.hid (decide_eq_false (show ¬ (r < 33 ∨ 126 < r) from by omega))
      go_enter Try.func78, Try.ntmps78
      go_wp2_with fail
      go_ret
      exact ⟨ret_bool H.out.symm, rfl⟩
/-- Whether a text holds what a name has not: the place of the first such, or less than nought. -/
def OddAt (s : ByteArray) (w : World) (e : Ending) (w' : World) : Prop := ∃ r : Int, e = .returned (.int .i64 r) ∧ decide (0 ≤ r) = !fineS s ∧ Below w.heap.size w w'
theorem below_iter (w : World) (s : ByteArray) (p : Nat) : Below w.heap.size w (w.iter s p) := below_alloc1 w _
set_option maxHeartbeats 4000000 in
set_option maxRecDepth 100000 in
theorem idxodd_any (s : ByteArray) (w : World) (hs : s.size ≤ maxLen) : Calls Try.prog 105 #[.string s, .func (.func 78) #[] #[], .bool true] w (OddAt s w) := by
  have hmax : s.size ≤ 9223372036854775807 := by simpa [maxLen] using hs
  clear hs
  go_enter Try.func105, Try.ntmps105
  go_wp2_with fail
  go_loopg [6] s.size (fun gg s6 wr => ∃ pos : Nat, s6 = .int .i64 0 ∧ pos ≤ s.size ∧ s.size - pos ≤ gg ∧ wr = w.iter s pos ∧ Hid (∀ i (hi : i < s.size), i < pos → fineB s[i] = true))
  case atStart => exact ⟨0, rfl, Nat.zero_le _, by omega, rfl, Lib.hid (fun i _ h => absurd h (Nat.not_lt_zero _))⟩
  case round =>
    obtain ⟨pos, rfl, hpos, hgg, rfl, hok⟩ := hrel
    by_cases hp : pos < s.size
    · have NO : Hid (fineB (s[pos]'hp) = false → decide ((0 : Int) ≤ (pos : Int)) = !fineS s) := Lib.hid (fun h => by
        have hf : fineS s = false := by
          cases hf : fineS s with
          | false => rfl
          | true => have := fine_at hf hp; rw [h] at this; cases this
        rw [hf, decide_eq_true (by omega)]
        rfl)
      by_cases ha : (s[pos]'hp).toNat < 128
      · have hnx : ∀ ty, (Instr.next (.pointer (some ⟨w.heap.size, 0, none⟩)) true ty).run Try.prog (w.iter s pos) = _ := fun ty => run_next_ascii w s pos ty hp ha
        have YES : Hid (fineB (s[pos]'hp) = true → ∀ i (hi : i < s.size), i < pos + 1 → fineB s[i] = true) := Lib.hid (fun h i hi hik => by
          rcases Nat.lt_or_ge i pos with h' | h'
          · exact hok.out i hi h'
          · obtain rfl : i = pos := by omega
            exact h)
        generalize s[pos] = y at *
        by_cases hy : y.toNat < 33 ∨ 126 < y.toNat
        · have H := Lib.hid (decide_eq_true hy)
          have R := Lib.hid (NO.out (decide_eq_false (by omega)))
          clear hy NO YES
          go_wp2_with (go_at_call 78; refine (oddc_any _ _).mono ?_; rintro e w' ⟨rfl, rfl⟩; rw [H.out])
          go_ret
          exact ⟨pos, rfl, R.out, below_iter _ _ _⟩
        · have H := Lib.hid (decide_eq_false hy)
          have R := Lib.hid (YES.out (decide_eq_true (by omega)))
          clear hy NO YES
          go_wp2_with (go_at_call 78; refine (oddc_any _ _).mono ?_; rintro e w' ⟨rfl, rfl⟩; rw [H.out])
          go_roundg (s.size - (pos + 1))
          case measure => omega
          case rel => exact ⟨pos + 1, rfl, by omega, by omega, rfl, R⟩
      · have hnx : ∀ ty, (Instr.next (.pointer (some ⟨w.heap.size, 0, none⟩)) true ty).run Try.prog (w.iter s pos) = _ := fun ty => run_next_any w s pos ty hp
        have hd := (decode_high s pos hp (by omega)).1
        have R := Lib.hid (NO.out (decide_eq_false (by omega)))
        generalize (Utf8.decode s pos).1 = r at *
        generalize pos + (Utf8.decode s pos).2 = q at *
        have H := Lib.hid (decide_eq_true (show r < 33 ∨ 126 < r from by omega))
        clear NO ha
        go_wp2_with (go_at_call 78; refine (oddc_any _ _).mono ?_; rintro e w' ⟨rfl, rfl⟩; rw [H.out])
        go_ret
        exact ⟨pos, rfl, R.out, below_iter _ _ _⟩
    · have hnx : ∀ ty, (Instr.next (.pointer (some ⟨w.heap.size, 0, none⟩)) true ty).run Try.prog (w.iter s pos) = _ := fun ty => run_next_end w s pos ty hp
      have R := Lib.hid (fine_of (fun i hi => hok.out i hi (by omega)))
      go_wp2_with fail
      go_ret
      exact ⟨-1, rfl, by rw [R.out]; decide, below_iter _ _ _⟩
theorem conodd_any (s : ByteArray) (w : World) (hs : s.size ≤ maxLen) : Calls Try.prog 79 #[.string s, .func (.func 78) #[] #[]] w fun e w' => e = .returned (.bool (!fineS s)) ∧ Below w.heap.size w w' := by
  have I := Lib.hid (show Calls Try.prog 97 #[.string s, .func (.func 78) #[] #[]] w (OddAt s w) from by
    have J := Lib.hid (idxodd_any s w hs)
    clear hs
    go_enter Try.func97, Try.ntmps97
    go_wp2_with (go_at_call 105; refine J.out.mono ?_; rintro e w' ⟨r, rfl, hr, hb⟩; have HR := Lib.hid hr; have HB := Lib.hid hb; clear hr hb)
    go_ret
    exact ⟨r, rfl, HR.out, HB.out⟩)
  clear hs
  obtain ⟨f, hf⟩ : ∃ f, fineS s = f := ⟨_, rfl⟩
  rw [hf]
  have HF := Lib.hid hf
  clear hf
  go_enter Try.func79, Try.ntmps79
  go_wp2_with (go_at_call 97; refine I.out.mono ?_; rintro e w' ⟨r, rfl, hr, hb⟩; rw [HF.out] at hr; have HB := Lib.hid hb; clear hb)
  go_ret
  exact ⟨rfl, HB.out⟩
set_option maxHeartbeats 2000000 in
theorem name_any (s : ByteArray) (w : World) (hs : s.size ≤ maxLen) : Calls Try.prog 43 #[.string s] w fun e w' => e = .returned (.bool (nameC s)) ∧ Below w.heap.size w w' := by
  have CO := Lib.hid (conodd_any s w hs)
  clear hs
  by_cases h0 : s = ⟨#[]⟩
  · subst h0
    have HN := Lib.hid (show nameC ⟨#[]⟩ = false from rfl)
    clear CO
    go_enter Try.func43, Try.ntmps43
    go_wp2_with fail
    go_ret
    exact ⟨ret_bool (by first | rfl | simp [HN.out]), Below.refl _ _⟩
  · have hs1 : 0 < s.size := by
      apply Nat.pos_of_ne_zero
      intro e
      apply h0
      cases s with
      | mk d =>
        have : d = #[] := Array.size_eq_zero_iff.1 e
        rw [this]
    have ie : s.toList.isEmpty = false := by
      rw [Lib.toList_data]
      cases h : s.data.toList with
      | nil =>
        exfalso
        have h2 : s.data.toList.length = s.size := Array.length_toList
        rw [h, List.length_nil] at h2
        omega
      | cons a l => rfl
    by_cases h2 : s.size ≤ 64
    · have d1 : decide ((s.size : Int) ≤ 64) = true := decide_eq_true (by omega)
      have d2 : decide (s.size ≤ 64) = true := decide_eq_true h2
      obtain ⟨f, hf⟩ : ∃ f, fineS s = f := ⟨_, rfl⟩
      have HN := Lib.hid (show nameC s = f from by unfold nameC; rw [hf, decide_eq_true (show 0 < s.size ∧ s.size ≤ 64 from ⟨hs1, h2⟩)]; rfl)
      rw [hf] at CO
      clear hf h0
      go_enter Try.func43, Try.ntmps43
      go_wp2_with (go_at_call 79; refine CO.out.mono ?_; rintro e w' ⟨rfl, hb⟩; have HB := Lib.hid hb; clear hb)
      go_ret
      exact ⟨ret_bool (by rw [HN.out]), HB.out⟩
    · have d1 : decide ((s.size : Int) ≤ 64) = false := decide_eq_false (by omega)
      have d2 : decide (s.size ≤ 64) = false := decide_eq_false h2
      have HN := Lib.hid (show nameC s = false from by unfold nameC; rw [decide_eq_false (by omega)]; rfl)
      clear h0 CO
      go_enter Try.func43, Try.ntmps43
      go_wp2_with fail
      go_ret
      exact ⟨ret_bool HN.out.symm, Below.refl _ _⟩

end Go.Proofs.Ytnigjchgpmladaa
