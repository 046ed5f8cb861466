/- The law of the key type: a name and a number. -/
import Derived.Test.YthjohjijcgiogaaHd
import Derived.DeepKeys5
import Derived.Maps.Own
import Derived.WideKeyEntry
namespace Go.Proofs.Ythjohjijcgiogaa
open Go.RowKit

theorem laid57 : laidOutB Try.prog = true := by kernel_rfl
theorem law57 : WideMaps.KeyLaw Try.prog 57 := deep_law_gate laid57 (by decide +kernel) (by decide +kernel) (by kernel_rfl) (by rw [Try.underlying57])
theorem keyed57 : Maps.Keyed Try.prog 57 := Maps.Keyed.of_law law57

/-- The key as the reader's word for it. -/
def kl57 (name : ByteArray) (no : Int) : Lit := .string (keyBytes [.string name.data.toList, .int .i64 no])
theorem lits57 (d : Nat) (name : ByteArray) (no : Int) (hs : name.size ≤ maxLen) (hw : (Lit.int .i64 no).wf = true) :
    Try.prog.keyLits (d + 2) 57 [.string name, .int .i64 no] = some [.string name.data.toList, .int .i64 no] := by
  have c57 : Try.prog.cellsOf 57 = 2 := by kernel_rfl
  have c9 : Try.prog.cellsOf 9 = 1 := by kernel_rfl
  have c3 : Try.prog.cellsOf 3 = 1 := by kernel_rfl
  have k9 : Try.prog.keyLits (d + 1) 9 [.string name] = some [.string name.data.toList] := by
    unfold Program.keyLits
    rw [Try.underlying9]
    simp [hs]
  have k3 : Try.prog.keyLits (d + 1) 3 [.int .i64 no] = some [.int .i64 no] := by
    unfold Program.keyLits
    rw [Try.underlying3]
    simp [hw]
  unfold Program.keyLits
  rw [Try.underlying57]
  simp [c57, c9, c3, k9, k3]
theorem key57 (name : ByteArray) (no : Int) (hs : name.size ≤ maxLen) (hw : (Lit.int .i64 no).wf = true) : keyOf Try.prog 57 (.agg #[.string name, .int .i64 no]) = some (kl57 name no) := by
  have c57 : Try.prog.cellsOf 57 = 2 := by kernel_rfl
  have kt : Try.prog.keyType 57 = true := by kernel_rfl
  unfold keyOf
  rw [Try.underlying57]
  simp [kt, Value.formed, Try.underlying57, c57, Value.cells, kl57]
  exact ⟨_, lits57 96 name no hs hw, rfl⟩

end Go.Proofs.Ythjohjijcgiogaa
