/- A chunk's key, and whether a key may be: of the program (keyed, may) and of the document's answer (named). -/
import Derived.Test.YthjohjijcgiogaaHd
namespace Go.Proofs.Ythjohjijcgiogaa
open Go.RowKit

/-- A name and a number may be. -/
def mayK (name : ByteArray) (no : Int) : Bool := !name.toList.isEmpty && (decide (0 ≤ no) && decide (no ≤ 1099511627776))

theorem named_any (name : ByteArray) (no : Int) (w : World) :
    Calls Try.prog 35 #[.string name, .int .i64 no] w fun e w' => e = .returned (.bool (mayK name no)) ∧ w = w' := by
  go_enter Try.func35, Try.ntmps35
  go_wp2
  all_goals (go_ret; exact ⟨by simp_all [mayK] <;> omega, rfl⟩)

theorem may_any (name : ByteArray) (no : Int) (w : World) :
    Calls Try.prog 34 #[.agg #[.string name, .int .i64 no]] w fun e w' => e = .returned (.bool (mayK name no)) ∧ w.alloc (.cells #[.string name, .int .i64 no] 57) = w' := by
  go_enter Try.func34, Try.ntmps34
  go_wp2
  all_goals (go_ret; exact ⟨by simp_all [mayK] <;> omega, rfl⟩)

theorem keyed_any (name : ByteArray) (no : Int) (A : Option Addr) (n c : Nat) (w : World) :
    Calls Try.prog 33 #[.agg #[.string name, .int .i64 no, .slice A n c]] w fun e w' => e = .returned (.agg #[.string name, .int .i64 no]) ∧ Below w.heap.size w w' := by
  go_enter Try.func33, Try.ntmps33
  go_wp2
  refine bodyPost_ret (v := .agg #[.string name, .int .i64 no]) (by simp [results, Try.results33, go_sem]) rfl ⟨rfl, ?_⟩
  repeat (first | with_reducible exact Below.refl _ _ | (refine Below.alloc ?_ (by simp) _) | refine Below.drew ?_ | refine Below.setCell ?_ (by simp) _)

end Go.Proofs.Ythjohjijcgiogaa
