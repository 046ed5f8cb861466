/- Whether two ways are the same, as the walk asks it. -/
import Derived.Test.YtmlgahambecamaaSlc
import Derived.ChangeKeysEq
import Derived.Laws.StructEq
namespace Go.Proofs.Ytmlgahambecamaa
open Go.RowKit

theorem eq63 (a b c d : Int) (w : World) : (Op.equalIn 10000 63 (.agg #[.int .i64 a, .int .i64 b]) (.agg #[.int .i64 c, .int .i64 d])).run Try.prog w = .ok (a == c && b == d) w := by
  have c3 : Try.prog.cellsOf 3 = 1 := by kernel_rfl
  obtain ⟨i0, hi⟩ : ∃ i, Try.prog.info? 3 = some i := by
    cases h : Try.prog.info? 3 with
    | some i => exact ⟨i, rfl⟩
    | none =>
      have : (Try.prog.info? 3).isSome = true := by kernel_rfl
      rw [h] at this; cases this
  rw [show (10000 : Nat) = 9999 + 1 from rfl, run_equalIn_array w 9999 _ _ Try.underlying63 hi, c3]
  rw [show List.range 2 = [0, 1] from rfl]
  by_cases h2 : b = d <;> cases h1 : a == c <;> simp [Op.eqItems, go_sem, h1, h2]
end Go.Proofs.Ytmlgahambecamaa
