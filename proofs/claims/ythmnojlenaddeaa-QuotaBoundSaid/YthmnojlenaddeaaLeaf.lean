/- The contracts of the leaves of layer 20: within, rated, Check, of the program and of the document's answer. -/
import Derived.Test.YthmnojlenaddeaaRows
import Derived.Test.YthmnojlenaddeaaBase
import Derived.WalkKit
import Derived.WalkSpells
import Derived.WalkLawsBesides
import Derived.Lib.Hide
import Derived.StillTailTactics
namespace Go.Proofs.Ythmnojlenaddeaa
open Go.RowKit Q

theorem within_any (x a b : Int) (w : World) :
    Calls Try.prog 27 #[.int .i64 x, .int .i64 a, .int .i64 b] w fun e w' => e = .returned (.bool (decide (a ≤ x) && decide (x ≤ b))) ∧ w = w' := by
  go_enter Try.func27, Try.ntmps27
  go_wp2
  all_goals (go_ret; exact ⟨by simp_all <;> omega, rfl⟩)

theorem rated_any (who : ByteArray) (rate burst : Int) (w : World) :
    Calls Try.prog 26 #[.string who, .int .i64 rate, .int .i64 burst] w fun e w' => e = .returned (.bool (okR who.size rate burst)) ∧ w = w' := by
  go_enter Try.func26, Try.ntmps26
  go_wp2_with (go_at_call 27; refine (within_any _ _ _ _).mono ?_; rintro e w' ⟨rfl, rfl⟩)
  all_goals (go_ret; exact ⟨by simp_all [okR] <;> omega, rfl⟩)

theorem rrate_any (who : ByteArray) (rate burst : Int) (w : World) :
    Calls Try.prog 23 #[.string who, .int .i64 rate, .int .i64 burst] w fun e w' => e = .returned (.bool (okR who.size rate burst)) ∧ w = w' := by
  go_enter Try.func23, Try.ntmps23
  go_wp2
  all_goals (go_ret; exact ⟨by simp_all [okR] <;> omega, rfl⟩)

/-- The box of a bucket. -/
def bk (who : ByteArray) (rate burst level at_ : Int) : Obj := .cells #[.string who, .int .i64 rate, .int .i64 burst, .int .i64 level, .int .i64 at_] 23

theorem check_any (who : ByteArray) (rate burst level at_ : Int) (w : World) :
    Calls Try.prog 16 #[.agg #[.string who, .int .i64 rate, .int .i64 burst, .int .i64 level, .int .i64 at_]] w fun e w' =>
      e = .returned (.int .i64 (chk who.size rate burst level at_)) ∧ w.alloc (.cells #[.string who, .int .i64 rate, .int .i64 burst, .int .i64 level, .int .i64 at_] 23) = w' := by
  go_enter Try.func16, Try.ntmps16
  go_wp2_with (first | (go_at_call 27; refine (within_any _ _ _ _).mono ?_; rintro e w' ⟨rfl, rfl⟩) | (go_at_call 26; refine (rated_any _ _ _ _).mono ?_; rintro e w' ⟨rfl, rfl⟩))
  all_goals (go_ret; exact ⟨by simp_all [chk, okB] <;> omega, rfl⟩)

theorem rcheck_any (who : ByteArray) (rate burst level at_ : Int) (w : World) :
    Calls Try.prog 17 #[.agg #[.string who, .int .i64 rate, .int .i64 burst, .int .i64 level, .int .i64 at_]] w fun e w' =>
      e = .returned (.int .i64 (chk who.size rate burst level at_)) ∧ w.alloc (.cells #[.string who, .int .i64 rate, .int .i64 burst, .int .i64 level, .int .i64 at_] 23) = w' := by
  go_enter Try.func17, Try.ntmps17
  go_wp2_with (first | (go_at_call 23; refine (rrate_any _ _ _ _).mono ?_; rintro e w' ⟨rfl, rfl⟩))
  all_goals (go_ret; exact ⟨by simp_all [chk, okB] <;> omega, rfl⟩)

end Go.Proofs.Ythmnojlenaddeaa
