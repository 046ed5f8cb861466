/- The contracts of Fill and Take of layer 20 where they tell an error, and of New. -/
import Derived.Test.YthmnojlenaddeaaTake
namespace Go.Proofs.Ythmnojlenaddeaa
open Go.RowKit Q

set_option maxHeartbeats 1000000 in
theorem fill_err (who : ByteArray) (rate burst level at_ now : Int) (w : World) (he : fillE who.size rate burst level at_ now ≠ 0) :
    Calls Try.prog 18 #[.agg #[.string who, .int .i64 rate, .int .i64 burst, .int .i64 level, .int .i64 at_], .int .i64 now] w fun e w' =>
      e = .returned (.tuple #[.agg #[.string ⟨#[]⟩, .int .i64 0, .int .i64 0, .int .i64 0, .int .i64 0], .int .i64 (fillE who.size rate burst level at_ now)]) ∧ Below w.heap.size w w' := by
  have hmf := hmf
  rcases fillE_cases who.size rate burst level at_ now with ⟨h, e1⟩ | ⟨h, h1, e1⟩ | ⟨h, h1, h2, e1⟩ | ⟨h, h1, h2, e1⟩
  · have hc : chk who.size rate burst level at_ = 1 := by simp [chk, h]
    have E1 := Lib.hid e1
    clear e1 h he
    go_enter Try.func18, Try.ntmps18
    go_wp2_with (first
      | (go_at_call 16; refine (check_any _ _ _ _ _ _).mono ?_; rintro e w' ⟨rfl, rfl⟩)
      | (go_at_call 24; go_in) | (go_at_call 28; go_in))
    refine bodyPost_ret (v := .tuple #[.agg #[.string ⟨#[]⟩, .int .i64 0, .int .i64 0, .int .i64 0, .int .i64 0], .int .i64 1]) (by simp [results, go_sem]) rfl ?_
    go_wp2_with fail
    refine bodyPost_ret (v := .tuple #[.agg #[.string ⟨#[]⟩, .int .i64 0, .int .i64 0, .int .i64 0, .int .i64 0], .int .i64 1]) (by simp [results, go_sem]) rfl ⟨by rw [E1.out], ?_⟩
    repeat (first | exact Below.refl _ _ | (refine Below.alloc ?_ (by simp <;> omega) _) | refine Below.drew ?_ | refine Below.setCell ?_ (by simp) _)
  · have hc : chk who.size rate burst level at_ = 0 := by simp [chk, h]
    have E1 := Lib.hid e1
    clear e1 h he
    go_enter Try.func18, Try.ntmps18
    go_wp2_with (first
      | (go_at_call 16; refine (check_any _ _ _ _ _ _).mono ?_; rintro e w' ⟨rfl, rfl⟩)
      | (go_at_call 32; refine (run_late _ _ _ h1).mono ?_; rintro e w' ⟨rfl, rfl⟩)
      | (go_at_call 24; go_in) | (go_at_call 28; go_in))
    refine bodyPost_ret (v := .tuple #[.agg #[.string ⟨#[]⟩, .int .i64 0, .int .i64 0, .int .i64 0, .int .i64 0], .int .i64 1]) (by simp [results, go_sem]) rfl ?_
    go_wp2_with fail
    refine bodyPost_ret (v := .tuple #[.agg #[.string ⟨#[]⟩, .int .i64 0, .int .i64 0, .int .i64 0, .int .i64 0], .int .i64 1]) (by simp [results, go_sem]) rfl ⟨by rw [E1.out], ?_⟩
    repeat (first | exact Below.refl _ _ | (refine Below.alloc ?_ (by simp <;> omega) _) | refine Below.drew ?_ | refine Below.setCell ?_ (by simp) _)
  · have hc : chk who.size rate burst level at_ = 0 := by simp [chk, h]
    have E1 := Lib.hid e1
    clear e1 h he
    go_enter Try.func18, Try.ntmps18
    go_wp2_with (first
      | (go_at_call 16; refine (check_any _ _ _ _ _ _).mono ?_; rintro e w' ⟨rfl, rfl⟩)
      | (go_at_call 24; go_in) | (go_at_call 28; go_in))
    refine (run_back (w.heap.size + 6) at_ now _ h1 h2 ?c1).mono ?c2
    case c2 =>
      rintro e w' ⟨rfl, rfl⟩
      go_wp2_with fail
      refine bodyPost_ret (v := .tuple #[.agg #[.string ⟨#[]⟩, .int .i64 0, .int .i64 0, .int .i64 0, .int .i64 0], .int .i64 71]) (by simp [results, go_sem]) rfl ?_
      go_wp2_with fail
      refine bodyPost_ret (v := .tuple #[.agg #[.string ⟨#[]⟩, .int .i64 0, .int .i64 0, .int .i64 0, .int .i64 0], .int .i64 71]) (by simp [results, go_sem]) rfl ⟨by rw [E1.out], ?_⟩
      repeat (first | exact Below.refl _ _ | (refine Below.alloc ?_ (by simp <;> omega) _) | refine Below.drew ?_ | refine Below.setCell ?_ (by simp) _)
    all_goals (go_simp; done)
  · exact absurd e1 he

set_option maxHeartbeats 2000000 in
theorem take_err (who : ByteArray) (rate burst level at_ now m : Int) (w : World) (he : takeE who.size rate burst level at_ now m ≠ 0) :
    Calls Try.prog 20 #[.agg #[.string who, .int .i64 rate, .int .i64 burst, .int .i64 level, .int .i64 at_], .int .i64 now, .int .i64 m] w fun e w' =>
      e = .returned (.tuple #[.agg #[.string ⟨#[]⟩, .int .i64 0, .int .i64 0, .int .i64 0, .int .i64 0], .int .i64 0, .int .i64 (takeE who.size rate burst level at_ now m)]) ∧ Below w.heap.size w w' := by
  have hmf := hmf
  rcases takeE_cases who.size rate burst level at_ now m with ⟨h, e1⟩ | ⟨h, h1, e1⟩ | ⟨h, h1, h2, h3, e1⟩ | ⟨h, h1, h2, h3, h4, e1⟩ | ⟨h, h1, h2, h3, h4, h5, e1⟩ | ⟨h, h1, h2, h3, h4, h5, e1⟩
  · have hc : chk who.size rate burst level at_ = 1 := by simp [chk, h]
    have E1 := Lib.hid e1
    clear e1 h he
    go_enter Try.func20, Try.ntmps20
    go_wp2_with (first
      | (go_at_call 16; refine (check_any _ _ _ _ _ _).mono ?_; rintro e w' ⟨rfl, rfl⟩)
      | (go_at_call 24; go_in) | (go_at_call 29; go_in))
    refine bodyPost_ret (v := .tuple #[.agg #[.string ⟨#[]⟩, .int .i64 0, .int .i64 0, .int .i64 0, .int .i64 0], .int .i64 1]) (by simp [results, go_sem]) rfl ?_
    go_wp2_with fail
    go_region
    all_goals go_wp2_with fail
    all_goals refine bodyPost_ret (v := .tuple #[.agg #[.string ⟨#[]⟩, .int .i64 0, .int .i64 0, .int .i64 0, .int .i64 0], .int .i64 0, .int .i64 1]) (by simp [results, go_sem]) rfl ⟨by rw [E1.out], ?_⟩
    all_goals repeat (first | exact Below.refl _ _ | (refine Below.alloc ?_ (by simp <;> omega) _) | refine Below.drew ?_ | refine Below.setCell ?_ (by simp) _)
  · have hc : chk who.size rate burst level at_ = 0 := by simp [chk, h]
    have E1 := Lib.hid e1
    have ht : (decide (0 ≤ m) && decide (m ≤ 1099511627776)) = false := by simp; omega
    clear e1 h he h1
    go_enter Try.func20, Try.ntmps20
    go_wp2_with (first
      | (go_at_call 16; refine (check_any _ _ _ _ _ _).mono ?_; rintro e w' ⟨rfl, rfl⟩)
      | (go_at_call 27; refine (within_any _ _ _ _).mono ?_; rw [ht]; rintro e w' ⟨rfl, rfl⟩)
      | (go_at_call 24; go_in) | (go_at_call 29; go_in))
    refine bodyPost_ret (v := .tuple #[.agg #[.string ⟨#[]⟩, .int .i64 0, .int .i64 0, .int .i64 0, .int .i64 0], .int .i64 1]) (by simp [results, go_sem]) rfl ?_
    go_wp2_with fail
    go_region
    all_goals go_wp2_with fail
    all_goals refine bodyPost_ret (v := .tuple #[.agg #[.string ⟨#[]⟩, .int .i64 0, .int .i64 0, .int .i64 0, .int .i64 0], .int .i64 0, .int .i64 1]) (by simp [results, go_sem]) rfl ⟨by rw [E1.out], ?_⟩
    all_goals repeat (first | exact Below.refl _ _ | (refine Below.alloc ?_ (by simp <;> omega) _) | refine Below.drew ?_ | refine Below.setCell ?_ (by simp) _)
  · have hc : chk who.size rate burst level at_ = 0 := by simp [chk, h]
    have E1 := Lib.hid e1
    clear e1 h he
    go_enter Try.func20, Try.ntmps20
    go_wp2_with (first
      | (go_at_call 16; refine (check_any _ _ _ _ _ _).mono ?_; rintro e w' ⟨rfl, rfl⟩)
      | (go_at_call 27; refine (within_any _ _ _ _).mono ?_; rintro e w' ⟨rfl, rfl⟩)
      | (go_at_call 32; refine (run_late _ _ _ h3).mono ?_; rintro e w' ⟨rfl, rfl⟩)
      | (go_at_call 24; go_in) | (go_at_call 29; go_in))
    refine bodyPost_ret (v := .tuple #[.agg #[.string ⟨#[]⟩, .int .i64 0, .int .i64 0, .int .i64 0, .int .i64 0], .int .i64 1]) (by simp [results, go_sem]) rfl ?_
    go_wp2_with fail
    go_region
    all_goals go_wp2_with fail
    all_goals refine bodyPost_ret (v := .tuple #[.agg #[.string ⟨#[]⟩, .int .i64 0, .int .i64 0, .int .i64 0, .int .i64 0], .int .i64 0, .int .i64 1]) (by simp [results, go_sem]) rfl ⟨by rw [E1.out], ?_⟩
    all_goals repeat (first | exact Below.refl _ _ | (refine Below.alloc ?_ (by simp <;> omega) _) | refine Below.drew ?_ | refine Below.setCell ?_ (by simp) _)
  · have hc : chk who.size rate burst level at_ = 0 := by simp [chk, h]
    have E1 := Lib.hid e1
    clear e1 h he
    go_enter Try.func20, Try.ntmps20
    go_wp2_with (first
      | (go_at_call 16; refine (check_any _ _ _ _ _ _).mono ?_; rintro e w' ⟨rfl, rfl⟩)
      | (go_at_call 27; refine (within_any _ _ _ _).mono ?_; rintro e w' ⟨rfl, rfl⟩)
      | (go_at_call 24; go_in) | (go_at_call 29; go_in))
    refine (run_back (w.heap.size + 8) at_ now _ h3 h4 ?c1).mono ?c2
    case c2 =>
      rintro e w' ⟨rfl, rfl⟩
      go_wp2_with fail
      refine bodyPost_ret (v := .tuple #[.agg #[.string ⟨#[]⟩, .int .i64 0, .int .i64 0, .int .i64 0, .int .i64 0], .int .i64 71]) (by simp [results, go_sem]) rfl ?_
      go_wp2_with fail
      go_region
      all_goals go_wp2_with fail
      all_goals refine bodyPost_ret (v := .tuple #[.agg #[.string ⟨#[]⟩, .int .i64 0, .int .i64 0, .int .i64 0, .int .i64 0], .int .i64 0, .int .i64 71]) (by simp [results, go_sem]) rfl ⟨by rw [E1.out], ?_⟩
      all_goals repeat (first | exact Below.refl _ _ | (refine Below.alloc ?_ (by simp <;> omega) _) | refine Below.drew ?_ | refine Below.setCell ?_ (by simp) _)
    all_goals (go_simp; done)
  · have hc : chk who.size rate burst level at_ = 0 := by simp [chk, h]
    have E1 := Lib.hid e1
    have hB := Lib.hid h
    obtain ⟨g0, g1, g2, g3, g4, g5, g6, g7, g8⟩ := okB_parts h
    have hL1 := fillL_le rate burst level at_ now
    have hL2 := fillL_ge g1 h4 g6
    clear e1 h he
    generalize hL : fillL rate burst level at_ now = L at *
    have hL := Lib.hid hL
    go_enter Try.func20, Try.ntmps20
    go_wp2_with (first
      | (go_at_call 16; refine (check_any _ _ _ _ _ _).mono ?_; rintro e w' ⟨rfl, rfl⟩)
      | (go_at_call 27; refine (within_any _ _ _ _).mono ?_; rintro e w' ⟨rfl, rfl⟩)
      | (go_at_call 24; go_in) | (go_at_call 29; go_in))
    refine (run_ok (w.heap.size + 8) who rate burst level at_ now _ hB.out h3 h4 ?k1 ?k2 ?k3 ?k4 ?k5 ?k6).mono ?k7
    case k7 =>
      rintro e w' ⟨rfl, rfl⟩
      rw [hL.out]
      have wr : IntKind.i64.wrap (L - m) = L - m := IntWalk.i64_in _ (by omega)
      go_wp2_with fail
      refine region_tail 10 (by kernel_rfl) (by kernel_rfl) ?_
      simp only [List.take_succ_cons, List.take_zero, List.drop_succ_cons, List.drop_zero]
      repeat still_step
      refine wpStill_nil ?_
      go_wp2_with fail
      refine bodyPost_ret (v := .tuple #[.agg #[.string ⟨#[]⟩, .int .i64 0, .int .i64 0, .int .i64 0, .int .i64 0], .int .i64 2]) (by simp [results, go_sem]) rfl ?_
      go_wp2_with fail
      go_region
      all_goals go_wp2_with fail
      all_goals refine bodyPost_ret (v := .tuple #[.agg #[.string ⟨#[]⟩, .int .i64 0, .int .i64 0, .int .i64 0, .int .i64 0], .int .i64 0, .int .i64 2]) (by simp [results, go_sem]) rfl ⟨by rw [E1.out], ?_⟩
      all_goals repeat (first | exact Below.refl _ _ | (refine Below.alloc ?_ (by simp <;> omega) _) | refine Below.drew ?_ | refine Below.setCell ?_ (by simp) _)
    all_goals (go_simp; done)
  · exact absurd e1 he

end Go.Proofs.Ythmnojlenaddeaa
