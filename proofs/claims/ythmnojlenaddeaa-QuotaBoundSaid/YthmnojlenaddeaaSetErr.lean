/- The contract of Set of layer 20 where it tells an error. -/
import Derived.Test.YthmnojlenaddeaaTake
import Derived.Deep.QuietTactic
import Derived.BigQuiet
namespace Go.Proofs.Ythmnojlenaddeaa
open Go.RowKit Q
attribute [local go_sem] setCell_drewN alloc_drewN

theorem quiet_left' {P : Program} {f : FuncId} {args : Array Value} {w : World} {n : Nat} {v : Value}
    (h : Calls P f args (w.drewN n) fun e w' => e = .returned v ∧ w.drewN n = w') : Calls P f args (w.drewN n) fun e w' => e = .returned v ∧ ∃ m, w' = w.drewN m :=
  h.mono fun _ _ ⟨he, hm⟩ => ⟨he, n, hm.symm⟩

set_option maxHeartbeats 4000000 in
/-- quota.Set, no bucket. -/
theorem set_err1 (who who' : ByteArray) (rate burst level at_ : Int) (rate' burst' now : Int) (w : World) (hb : okB who.size rate burst level at_ = false) :
    Calls Try.prog 14 #[.agg #[.string who, .int .i64 rate, .int .i64 burst, .int .i64 level, .int .i64 at_], .agg #[.string who', .int .i64 rate', .int .i64 burst'], .int .i64 now] w fun e w' =>
      e = .returned (.tuple #[.agg #[.string ⟨#[]⟩, .int .i64 0, .int .i64 0, .int .i64 0, .int .i64 0], .int .i64 1]) ∧ Below w.heap.size w w' := by
  have hc : chk who.size rate burst level at_ = 1 := by simp [chk, hb]
  have hmf := hmf
  clear hb
  go_enter Try.func14, Try.ntmps14
  go_wp2_with (first
    | (go_at_call 16; refine (check_any _ _ _ _ _ _).mono ?_; rintro e w' ⟨rfl, rfl⟩)
    | (go_at_call 24; go_in) | (go_at_call 25; go_in))
  refine bodyPost_ret (v := .tuple #[.agg #[.string ⟨#[]⟩, .int .i64 0, .int .i64 0, .int .i64 0, .int .i64 0], .int .i64 1]) (by simp [results, go_sem]) rfl ?_
  go_wp2_with fail
  refine bodyPost_ret (v := .tuple #[.agg #[.string ⟨#[]⟩, .int .i64 0, .int .i64 0, .int .i64 0, .int .i64 0], .int .i64 1]) (by simp [results, go_sem]) rfl ⟨rfl, ?_⟩
  repeat (first | exact Below.refl _ _ | (refine Below.alloc ?_ (by simp <;> omega) _) | refine below_drewN ?_ _ | refine Below.drew ?_ | refine Below.setCell ?_ (by simp) _)

set_option maxHeartbeats 4000000 in
/-- quota.Set, another one. -/
theorem set_err2 (who who' : ByteArray) (rate burst level at_ : Int) (rate' burst' now : Int) (w : World) (hb : okB who.size rate burst level at_ = true) (hs : who'.toList ≠ who.toList) :
    Calls Try.prog 14 #[.agg #[.string who, .int .i64 rate, .int .i64 burst, .int .i64 level, .int .i64 at_], .agg #[.string who', .int .i64 rate', .int .i64 burst'], .int .i64 now] w fun e w' =>
      e = .returned (.tuple #[.agg #[.string ⟨#[]⟩, .int .i64 0, .int .i64 0, .int .i64 0, .int .i64 0], .int .i64 1]) ∧ Below w.heap.size w w' := by
  have hc : chk who.size rate burst level at_ = 0 := by simp [chk, hb]
  have hs1 : (who'.toList == who.toList) = false := by simpa using hs
  have hmf := hmf
  clear hb hs
  go_enter Try.func14, Try.ntmps14
  go_wp2_with (first
    | (go_at_call 16; refine (check_any _ _ _ _ _ _).mono ?_; rintro e w' ⟨rfl, rfl⟩)
    | (go_at_call 24; go_in) | (go_at_call 25; go_in))
  go_quiet (fail)
  go_wp2_with fail
  refine bodyPost_ret (v := .tuple #[.agg #[.string ⟨#[]⟩, .int .i64 0, .int .i64 0, .int .i64 0, .int .i64 0], .int .i64 1]) (by simp [results, go_sem]) rfl ?_
  go_wp2_with fail
  refine bodyPost_ret (v := .tuple #[.agg #[.string ⟨#[]⟩, .int .i64 0, .int .i64 0, .int .i64 0, .int .i64 0], .int .i64 1]) (by simp [results, go_sem]) rfl ⟨rfl, ?_⟩
  repeat (first | exact Below.refl _ _ | (refine Below.alloc ?_ (by simp <;> omega) _) | refine below_drewN ?_ _ | refine Below.drew ?_ | refine Below.setCell ?_ (by simp) _)

set_option maxHeartbeats 4000000 in
/-- quota.Set, no rate. -/
theorem set_err3 (who : ByteArray) (rate burst level at_ : Int) (rate' burst' now : Int) (w : World) (hb : okB who.size rate burst level at_ = true) (hr : okR who.size rate' burst' = false) :
    Calls Try.prog 14 #[.agg #[.string who, .int .i64 rate, .int .i64 burst, .int .i64 level, .int .i64 at_], .agg #[.string who, .int .i64 rate', .int .i64 burst'], .int .i64 now] w fun e w' =>
      e = .returned (.tuple #[.agg #[.string ⟨#[]⟩, .int .i64 0, .int .i64 0, .int .i64 0, .int .i64 0], .int .i64 1]) ∧ Below w.heap.size w w' := by
  have hc : chk who.size rate burst level at_ = 0 := by simp [chk, hb]
  have hmf := hmf
  clear hb
  go_enter Try.func14, Try.ntmps14
  go_wp2_with (first
    | (go_at_call 16; refine (check_any _ _ _ _ _ _).mono ?_; rintro e w' ⟨rfl, rfl⟩)
    | (go_at_call 24; go_in) | (go_at_call 25; go_in))
  go_quiet ((go_at_call 26; exact quiet_left' (rated_any _ _ _ _)))
  go_wp2_with fail
  refine bodyPost_ret (v := .tuple #[.agg #[.string ⟨#[]⟩, .int .i64 0, .int .i64 0, .int .i64 0, .int .i64 0], .int .i64 1]) (by simp [results, go_sem]) rfl ?_
  go_wp2_with fail
  refine bodyPost_ret (v := .tuple #[.agg #[.string ⟨#[]⟩, .int .i64 0, .int .i64 0, .int .i64 0, .int .i64 0], .int .i64 1]) (by simp [results, go_sem]) rfl ⟨rfl, ?_⟩
  repeat (first | exact Below.refl _ _ | (refine Below.alloc ?_ (by simp <;> omega) _) | refine below_drewN ?_ _ | refine Below.drew ?_ | refine Below.setCell ?_ (by simp) _)

set_option maxHeartbeats 4000000 in
/-- quota.Set, too late. -/
theorem set_err4 (who : ByteArray) (rate burst level at_ : Int) (rate' burst' now : Int) (w : World) (hb : okB who.size rate burst level at_ = true) (hr : okR who.size rate' burst' = true) (h3 : 1099511627776 < now) :
    Calls Try.prog 14 #[.agg #[.string who, .int .i64 rate, .int .i64 burst, .int .i64 level, .int .i64 at_], .agg #[.string who, .int .i64 rate', .int .i64 burst'], .int .i64 now] w fun e w' =>
      e = .returned (.tuple #[.agg #[.string ⟨#[]⟩, .int .i64 0, .int .i64 0, .int .i64 0, .int .i64 0], .int .i64 1]) ∧ Below w.heap.size w w' := by
  have hc : chk who.size rate burst level at_ = 0 := by simp [chk, hb]
  have hmf := hmf
  clear hb
  go_enter Try.func14, Try.ntmps14
  go_wp2_with (first
    | (go_at_call 16; refine (check_any _ _ _ _ _ _).mono ?_; rintro e w' ⟨rfl, rfl⟩)
    | (go_at_call 24; go_in) | (go_at_call 25; go_in))
  go_quiet ((go_at_call 26; exact quiet_left' (rated_any _ _ _ _)))
  go_wp2_with (go_at_call 32; refine (run_late _ _ _ h3).mono ?_; rintro e w' ⟨rfl, rfl⟩)
  refine bodyPost_ret (v := .tuple #[.agg #[.string ⟨#[]⟩, .int .i64 0, .int .i64 0, .int .i64 0, .int .i64 0], .int .i64 1]) (by simp [results, go_sem]) rfl ?_
  go_wp2_with fail
  refine bodyPost_ret (v := .tuple #[.agg #[.string ⟨#[]⟩, .int .i64 0, .int .i64 0, .int .i64 0, .int .i64 0], .int .i64 1]) (by simp [results, go_sem]) rfl ⟨rfl, ?_⟩
  repeat (first | exact Below.refl _ _ | (refine Below.alloc ?_ (by simp <;> omega) _) | refine below_drewN ?_ _ | refine Below.drew ?_ | refine Below.setCell ?_ (by simp) _)

set_option maxHeartbeats 4000000 in
/-- quota.Set, back in time. -/
theorem set_err5 (who : ByteArray) (rate burst level at_ : Int) (rate' burst' now : Int) (w : World) (hb : okB who.size rate burst level at_ = true) (hr : okR who.size rate' burst' = true) (h3 : now ≤ 1099511627776) (h4 : now < at_) :
    Calls Try.prog 14 #[.agg #[.string who, .int .i64 rate, .int .i64 burst, .int .i64 level, .int .i64 at_], .agg #[.string who, .int .i64 rate', .int .i64 burst'], .int .i64 now] w fun e w' =>
      e = .returned (.tuple #[.agg #[.string ⟨#[]⟩, .int .i64 0, .int .i64 0, .int .i64 0, .int .i64 0], .int .i64 71]) ∧ Below w.heap.size w w' := by
  have hc : chk who.size rate burst level at_ = 0 := by simp [chk, hb]
  have hmf := hmf
  clear hb
  go_enter Try.func14, Try.ntmps14
  go_wp2_with (first
    | (go_at_call 16; refine (check_any _ _ _ _ _ _).mono ?_; rintro e w' ⟨rfl, rfl⟩)
    | (go_at_call 24; go_in) | (go_at_call 25; go_in))
  go_quiet ((go_at_call 26; exact quiet_left' (rated_any _ _ _ _)))
  go_wp2_with fail
  refine (run_back _ at_ now _ h3 h4 ?c1).mono ?c2
  case c2 =>
    rintro e w' ⟨rfl, rfl⟩
    go_wp2_with fail
    refine bodyPost_ret (v := .tuple #[.agg #[.string ⟨#[]⟩, .int .i64 0, .int .i64 0, .int .i64 0, .int .i64 0], .int .i64 71]) (by simp [results, go_sem]) rfl ?_
    go_wp2_with fail
    refine bodyPost_ret (v := .tuple #[.agg #[.string ⟨#[]⟩, .int .i64 0, .int .i64 0, .int .i64 0, .int .i64 0], .int .i64 71]) (by simp [results, go_sem]) rfl ⟨rfl, ?_⟩
    repeat (first | exact Below.refl _ _ | (refine Below.alloc ?_ (by simp <;> omega) _) | refine below_drewN ?_ _ | refine Below.drew ?_ | refine Below.setCell ?_ (by simp) _)
  all_goals (go_simp; done)

end Go.Proofs.Ythmnojlenaddeaa
