/- 'moved' of the laws of layer 20: a time, and some more. -/
import Derived.Test.YthmnojlenaddeaaLive
import Derived.Test.YthmnojlenaddeaaPlain
namespace Go.Proofs.Ythmnojlenaddeaa
open Go.RowKit Q

theorem moved_ok (now by_ : Int) (w : World) (h0 : 0 ≤ now) (h1 : now ≤ 1099511627776) (h2 : 0 ≤ by_) (h3 : by_ ≤ 1099511627776 - now) {s : Int} (hs : now + by_ = s) :
    Calls Try.prog 22 #[.int .i64 now, .int .i64 by_] w fun e w' => e = .returned (.tuple #[.int .i64 s, .bool true]) ∧ w = w' := by
  subst hs
  go_enter Try.func22, Try.ntmps22
  go_wp2
  go_ret2
  exact ⟨rfl, rfl⟩

theorem moved_no (now by_ : Int) (w : World) (h : ¬ (0 ≤ now ∧ now ≤ 1099511627776 ∧ 0 ≤ by_ ∧ by_ ≤ 1099511627776 - now)) :
    Calls Try.prog 22 #[.int .i64 now, .int .i64 by_] w fun e w' => e = .returned (.tuple #[.int .i64 0, .bool false]) ∧ w = w' := by
  rcases (show now < 0 ∨ (0 ≤ now ∧ 1099511627776 < now) ∨ (0 ≤ now ∧ now ≤ 1099511627776 ∧ by_ < 0) ∨ (0 ≤ now ∧ now ≤ 1099511627776 ∧ 0 ≤ by_ ∧ 1099511627776 - now < by_) by omega) with h0 | ⟨h0, h1⟩ | ⟨h0, h1, h2⟩ | ⟨h0, h1, h2, h3⟩
  all_goals
    clear h
    go_enter Try.func22, Try.ntmps22
    go_wp2
    go_ret2
    exact ⟨rfl, rfl⟩

end Go.Proofs.Ythmnojlenaddeaa
