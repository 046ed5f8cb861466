/-
  No cell of these rows narrows 'for every input' (looked for: loops, veiled, ifaces, maps, wideKeys, modest, calm, conditions, laid).
  DERIVED. THE GIVEN ROWS OF THIS SEAT. 8 by the template 'for every input the law returns true; each argument reads behind the call as it read before'; 0 by the template 'total and deterministic' (their statements: YthmnojlenaddeaaTotals.lean).
  GIVEN WITH THE SEED: the statements are not yours to turn. If you find one false, say at which input.
  Laid BY PROGRAM, IN A SANDBOX (cutbox-rows.mjs): the forced cells as the released guide's own fill.sh prints them over the translation 7ad9f1ead254e842… (all of the seat's roots in one cut). By AI agents, Wed Nov 11 2026. No macro, syntax, notation, axiom, sorry.
-/
import Derived.Test.YthmnojlenaddeaaChecked
import GoSem.Claim
import GoSem.ClaimJoined
import GoSem.ClaimMapViews
import Derived.JoinedTies
import Derived.KernelRfl
namespace Go.Proofs.Ythmnojlenaddeaa
/- THE CELL 'sum', in the pinned program and in every row, IS THE sha256 OF THE DUMP (.gsa) THAT YthmnojlenaddeaaProg.lean LOADS. Nothing in Lean hashes anything: it is a label: what it is worth is what the hold of that sum in a sandbox is worth. -/
noncomputable def Try.pinned : Pinned := { name := "ythmnojlenaddeaa", sum := "7ad9f1ead254e8426f0e5c8fcc599071cfe41fd582eb1076575022fbcaacbc35", checked := Try.checked }
namespace Rows
def none {H : Type} : Left H := { results := [], args := [] }

/-- 'watermeetlaw20.QuotaMakes': WHATEVER THE INPUT: true; the input reads as it did. -/
def quotaMakesSpec : ChangeSpec := { name := "quotaMakes", fn := fun _ => fun
  | [d1, d2, d3] => { results := [.lit (.bool true)], args := [d1, d2, d3] }
  | _ => none }
def quotaMakesRow : OpenClaim := { program := "ythmnojlenaddeaa", sum := "7ad9f1ead254e8426f0e5c8fcc599071cfe41fd582eb1076575022fbcaacbc35", func := "watermeet/watermeetlaw20.QuotaMakes", spec := "quotaMakes", unfollowed := true, recurses := true, apart := false }
def QuotaMakesSaid : Prop := quotaMakesRow.holds Try.pinned (OpenSpec.ofChange quotaMakesSpec)

/-- ITS FALSE NEIGHBOUR: 'it returns false'. Refute it at one input. -/
def quotaMakesWrong : ChangeSpec := { name := "quotaMakes", fn := fun _ => fun
  | [d1, d2, d3] => { results := [.lit (.bool false)], args := [d1, d2, d3] }
  | _ => none }
def QuotaMakesWrongFalsely : Prop := quotaMakesRow.holds Try.pinned (OpenSpec.ofChange quotaMakesWrong)

/-- 'watermeetlaw20.QuotaTakes': WHATEVER THE INPUT: true; the input reads as it did. -/
def quotaTakesSpec : ChangeSpec := { name := "quotaTakes", fn := fun _ => fun
  | [d1, d2, d3] => { results := [.lit (.bool true)], args := [d1, d2, d3] }
  | _ => none }
def quotaTakesRow : OpenClaim := { program := "ythmnojlenaddeaa", sum := "7ad9f1ead254e8426f0e5c8fcc599071cfe41fd582eb1076575022fbcaacbc35", func := "watermeet/watermeetlaw20.QuotaTakes", spec := "quotaTakes", unfollowed := true, recurses := true, apart := false }
def QuotaTakesSaid : Prop := quotaTakesRow.holds Try.pinned (OpenSpec.ofChange quotaTakesSpec)

/-- ITS FALSE NEIGHBOUR: 'it returns false'. Refute it at one input. -/
def quotaTakesWrong : ChangeSpec := { name := "quotaTakes", fn := fun _ => fun
  | [d1, d2, d3] => { results := [.lit (.bool false)], args := [d1, d2, d3] }
  | _ => none }
def QuotaTakesWrongFalsely : Prop := quotaTakesRow.holds Try.pinned (OpenSpec.ofChange quotaTakesWrong)

/-- 'watermeetlaw20.QuotaBound': WHATEVER THE INPUT: true; the input reads as it did. -/
def quotaBoundSpec : ChangeSpec := { name := "quotaBound", fn := fun _ => fun
  | [d1, d2, d3, d4] => { results := [.lit (.bool true)], args := [d1, d2, d3, d4] }
  | _ => none }
def quotaBoundRow : OpenClaim := { program := "ythmnojlenaddeaa", sum := "7ad9f1ead254e8426f0e5c8fcc599071cfe41fd582eb1076575022fbcaacbc35", func := "watermeet/watermeetlaw20.QuotaBound", spec := "quotaBound", unfollowed := true, recurses := true, apart := false }
def QuotaBoundSaid : Prop := quotaBoundRow.holds Try.pinned (OpenSpec.ofChange quotaBoundSpec)

/-- ITS FALSE NEIGHBOUR: 'it returns false'. Refute it at one input. -/
def quotaBoundWrong : ChangeSpec := { name := "quotaBound", fn := fun _ => fun
  | [d1, d2, d3, d4] => { results := [.lit (.bool false)], args := [d1, d2, d3, d4] }
  | _ => none }
def QuotaBoundWrongFalsely : Prop := quotaBoundRow.holds Try.pinned (OpenSpec.ofChange quotaBoundWrong)

/-- 'watermeetlaw20.QuotaWaits': WHATEVER THE INPUT: true; the input reads as it did. -/
def quotaWaitsSpec : ChangeSpec := { name := "quotaWaits", fn := fun _ => fun
  | [d1, d2, d3] => { results := [.lit (.bool true)], args := [d1, d2, d3] }
  | _ => none }
def quotaWaitsRow : OpenClaim := { program := "ythmnojlenaddeaa", sum := "7ad9f1ead254e8426f0e5c8fcc599071cfe41fd582eb1076575022fbcaacbc35", func := "watermeet/watermeetlaw20.QuotaWaits", spec := "quotaWaits", unfollowed := true, recurses := true, apart := false }
def QuotaWaitsSaid : Prop := quotaWaitsRow.holds Try.pinned (OpenSpec.ofChange quotaWaitsSpec)

/-- ITS FALSE NEIGHBOUR: 'it returns false'. Refute it at one input. -/
def quotaWaitsWrong : ChangeSpec := { name := "quotaWaits", fn := fun _ => fun
  | [d1, d2, d3] => { results := [.lit (.bool false)], args := [d1, d2, d3] }
  | _ => none }
def QuotaWaitsWrongFalsely : Prop := quotaWaitsRow.holds Try.pinned (OpenSpec.ofChange quotaWaitsWrong)

/-- 'watermeetlaw20.QuotaSteps': WHATEVER THE INPUT: true; the input reads as it did. -/
def quotaStepsSpec : ChangeSpec := { name := "quotaSteps", fn := fun _ => fun
  | [d1, d2, d3, d4] => { results := [.lit (.bool true)], args := [d1, d2, d3, d4] }
  | _ => none }
def quotaStepsRow : OpenClaim := { program := "ythmnojlenaddeaa", sum := "7ad9f1ead254e8426f0e5c8fcc599071cfe41fd582eb1076575022fbcaacbc35", func := "watermeet/watermeetlaw20.QuotaSteps", spec := "quotaSteps", unfollowed := true, recurses := true, apart := false }
def QuotaStepsSaid : Prop := quotaStepsRow.holds Try.pinned (OpenSpec.ofChange quotaStepsSpec)

/-- ITS FALSE NEIGHBOUR: 'it returns false'. Refute it at one input. -/
def quotaStepsWrong : ChangeSpec := { name := "quotaSteps", fn := fun _ => fun
  | [d1, d2, d3, d4] => { results := [.lit (.bool false)], args := [d1, d2, d3, d4] }
  | _ => none }
def QuotaStepsWrongFalsely : Prop := quotaStepsRow.holds Try.pinned (OpenSpec.ofChange quotaStepsWrong)

/-- 'watermeetlaw20.QuotaPieces': WHATEVER THE INPUT: true; the input reads as it did. -/
def quotaPiecesSpec : ChangeSpec := { name := "quotaPieces", fn := fun _ => fun
  | [d1, d2, d3, d4] => { results := [.lit (.bool true)], args := [d1, d2, d3, d4] }
  | _ => none }
def quotaPiecesRow : OpenClaim := { program := "ythmnojlenaddeaa", sum := "7ad9f1ead254e8426f0e5c8fcc599071cfe41fd582eb1076575022fbcaacbc35", func := "watermeet/watermeetlaw20.QuotaPieces", spec := "quotaPieces", unfollowed := true, recurses := true, apart := false }
def QuotaPiecesSaid : Prop := quotaPiecesRow.holds Try.pinned (OpenSpec.ofChange quotaPiecesSpec)

/-- ITS FALSE NEIGHBOUR: 'it returns false'. Refute it at one input. -/
def quotaPiecesWrong : ChangeSpec := { name := "quotaPieces", fn := fun _ => fun
  | [d1, d2, d3, d4] => { results := [.lit (.bool false)], args := [d1, d2, d3, d4] }
  | _ => none }
def QuotaPiecesWrongFalsely : Prop := quotaPiecesRow.holds Try.pinned (OpenSpec.ofChange quotaPiecesWrong)

/-- 'watermeetlaw20.QuotaSets': WHATEVER THE INPUT: true; the input reads as it did. -/
def quotaSetsSpec : ChangeSpec := { name := "quotaSets", fn := fun _ => fun
  | [d1, d2, d3] => { results := [.lit (.bool true)], args := [d1, d2, d3] }
  | _ => none }
def quotaSetsRow : OpenClaim := { program := "ythmnojlenaddeaa", sum := "7ad9f1ead254e8426f0e5c8fcc599071cfe41fd582eb1076575022fbcaacbc35", func := "watermeet/watermeetlaw20.QuotaSets", spec := "quotaSets", unfollowed := true, recurses := true, apart := false }
def QuotaSetsSaid : Prop := quotaSetsRow.holds Try.pinned (OpenSpec.ofChange quotaSetsSpec)

/-- ITS FALSE NEIGHBOUR: 'it returns false'. Refute it at one input. -/
def quotaSetsWrong : ChangeSpec := { name := "quotaSets", fn := fun _ => fun
  | [d1, d2, d3] => { results := [.lit (.bool false)], args := [d1, d2, d3] }
  | _ => none }
def QuotaSetsWrongFalsely : Prop := quotaSetsRow.holds Try.pinned (OpenSpec.ofChange quotaSetsWrong)

/-- 'watermeetlaw20.QuotaKeeps': WHATEVER THE INPUT: true; the input reads as it did. -/
def quotaKeepsSpec : ChangeSpec := { name := "quotaKeeps", fn := fun _ => fun
  | [d1, d2, d3] => { results := [.lit (.bool true)], args := [d1, d2, d3] }
  | _ => none }
def quotaKeepsRow : OpenClaim := { program := "ythmnojlenaddeaa", sum := "7ad9f1ead254e8426f0e5c8fcc599071cfe41fd582eb1076575022fbcaacbc35", func := "watermeet/watermeetlaw20.QuotaKeeps", spec := "quotaKeeps", unfollowed := true, recurses := true, apart := false }
def QuotaKeepsSaid : Prop := quotaKeepsRow.holds Try.pinned (OpenSpec.ofChange quotaKeepsSpec)

/-- ITS FALSE NEIGHBOUR: 'it returns false'. Refute it at one input. -/
def quotaKeepsWrong : ChangeSpec := { name := "quotaKeeps", fn := fun _ => fun
  | [d1, d2, d3] => { results := [.lit (.bool false)], args := [d1, d2, d3] }
  | _ => none }
def QuotaKeepsWrongFalsely : Prop := quotaKeepsRow.holds Try.pinned (OpenSpec.ofChange quotaKeepsWrong)

/- THE SECOND FORM. 'bulk': how many values and letters a reading holds, each counted each time it is reached (what is shared counts as often as it is met; a slice's spare places count too). A statement '..UptoSaid' is the law's where the arguments, and the package variables that the reading takes, are together of bulk at most 1048576: NARROWER than '..Said'. Prove '..Said' where nothing that the law and all that it calls make is longer than what came in: it says more and counts as full. Else prove '..UptoSaid'. A law counts once. -/
mutual
def uptoBulk {H : Type} : DataW H → Nat
  | .lit (.string bytes) => bytes.length + 1
  | .lit _ => 1
  | .nil => 1
  | .ptr d => uptoBulk d + 1
  | .slice elems spare => uptoBulkAll elems + uptoBulkAll spare + 1
  | .agg parts => uptoBulkAll parts + 1
  | .iface _ d => uptoBulk d + 1
  | .map entries => uptoBulkEntries entries + 1
  | .held _ => 1
def uptoBulkAll {H : Type} : List (DataW H) → Nat
  | [] => 0
  | d :: r => uptoBulk d + uptoBulkAll r
def uptoBulkEntries {H : Type} : List (Lit × DataW H) → Nat
  | [] => 0
  | x :: r => uptoBulkEntry x + uptoBulkEntries r
def uptoBulkEntry {H : Type} : Lit × DataW H → Nat
  | (.string bytes, d) => bytes.length + uptoBulk d + 1
  | (_, d) => uptoBulk d + 1
 end
def uptoSmall : (H : Type) → List (DataW H) → Bool := fun _ ds => decide (uptoBulkAll ds ≤ 1048576)
def OpenSpec.upto (s : _root_.Go.ChangeSpec) : _root_.Go.OpenSpec := { _root_.Go.OpenSpec.ofChange s with cond := some uptoSmall }

/-- 'watermeetlaw20.QuotaMakes', WHERE WHAT IT READS IS OF BULK AT MOST 1048576: true; the input reads as it did. -/
def quotaMakesUptoRow : OpenClaim := { program := "ythmnojlenaddeaa", sum := "7ad9f1ead254e8426f0e5c8fcc599071cfe41fd582eb1076575022fbcaacbc35", func := "watermeet/watermeetlaw20.QuotaMakes", spec := "quotaMakes", unfollowed := true, recurses := true, apart := false, narrowed := true }
def QuotaMakesUptoSaid : Prop := quotaMakesUptoRow.holds Try.pinned (OpenSpec.upto quotaMakesSpec)

/-- 'watermeetlaw20.QuotaTakes', WHERE WHAT IT READS IS OF BULK AT MOST 1048576: true; the input reads as it did. -/
def quotaTakesUptoRow : OpenClaim := { program := "ythmnojlenaddeaa", sum := "7ad9f1ead254e8426f0e5c8fcc599071cfe41fd582eb1076575022fbcaacbc35", func := "watermeet/watermeetlaw20.QuotaTakes", spec := "quotaTakes", unfollowed := true, recurses := true, apart := false, narrowed := true }
def QuotaTakesUptoSaid : Prop := quotaTakesUptoRow.holds Try.pinned (OpenSpec.upto quotaTakesSpec)

/-- 'watermeetlaw20.QuotaBound', WHERE WHAT IT READS IS OF BULK AT MOST 1048576: true; the input reads as it did. -/
def quotaBoundUptoRow : OpenClaim := { program := "ythmnojlenaddeaa", sum := "7ad9f1ead254e8426f0e5c8fcc599071cfe41fd582eb1076575022fbcaacbc35", func := "watermeet/watermeetlaw20.QuotaBound", spec := "quotaBound", unfollowed := true, recurses := true, apart := false, narrowed := true }
def QuotaBoundUptoSaid : Prop := quotaBoundUptoRow.holds Try.pinned (OpenSpec.upto quotaBoundSpec)

/-- 'watermeetlaw20.QuotaWaits', WHERE WHAT IT READS IS OF BULK AT MOST 1048576: true; the input reads as it did. -/
def quotaWaitsUptoRow : OpenClaim := { program := "ythmnojlenaddeaa", sum := "7ad9f1ead254e8426f0e5c8fcc599071cfe41fd582eb1076575022fbcaacbc35", func := "watermeet/watermeetlaw20.QuotaWaits", spec := "quotaWaits", unfollowed := true, recurses := true, apart := false, narrowed := true }
def QuotaWaitsUptoSaid : Prop := quotaWaitsUptoRow.holds Try.pinned (OpenSpec.upto quotaWaitsSpec)

/-- 'watermeetlaw20.QuotaSteps', WHERE WHAT IT READS IS OF BULK AT MOST 1048576: true; the input reads as it did. -/
def quotaStepsUptoRow : OpenClaim := { program := "ythmnojlenaddeaa", sum := "7ad9f1ead254e8426f0e5c8fcc599071cfe41fd582eb1076575022fbcaacbc35", func := "watermeet/watermeetlaw20.QuotaSteps", spec := "quotaSteps", unfollowed := true, recurses := true, apart := false, narrowed := true }
def QuotaStepsUptoSaid : Prop := quotaStepsUptoRow.holds Try.pinned (OpenSpec.upto quotaStepsSpec)

/-- 'watermeetlaw20.QuotaPieces', WHERE WHAT IT READS IS OF BULK AT MOST 1048576: true; the input reads as it did. -/
def quotaPiecesUptoRow : OpenClaim := { program := "ythmnojlenaddeaa", sum := "7ad9f1ead254e8426f0e5c8fcc599071cfe41fd582eb1076575022fbcaacbc35", func := "watermeet/watermeetlaw20.QuotaPieces", spec := "quotaPieces", unfollowed := true, recurses := true, apart := false, narrowed := true }
def QuotaPiecesUptoSaid : Prop := quotaPiecesUptoRow.holds Try.pinned (OpenSpec.upto quotaPiecesSpec)

/-- 'watermeetlaw20.QuotaSets', WHERE WHAT IT READS IS OF BULK AT MOST 1048576: true; the input reads as it did. -/
def quotaSetsUptoRow : OpenClaim := { program := "ythmnojlenaddeaa", sum := "7ad9f1ead254e8426f0e5c8fcc599071cfe41fd582eb1076575022fbcaacbc35", func := "watermeet/watermeetlaw20.QuotaSets", spec := "quotaSets", unfollowed := true, recurses := true, apart := false, narrowed := true }
def QuotaSetsUptoSaid : Prop := quotaSetsUptoRow.holds Try.pinned (OpenSpec.upto quotaSetsSpec)

/-- 'watermeetlaw20.QuotaKeeps', WHERE WHAT IT READS IS OF BULK AT MOST 1048576: true; the input reads as it did. -/
def quotaKeepsUptoRow : OpenClaim := { program := "ythmnojlenaddeaa", sum := "7ad9f1ead254e8426f0e5c8fcc599071cfe41fd582eb1076575022fbcaacbc35", func := "watermeet/watermeetlaw20.QuotaKeeps", spec := "quotaKeeps", unfollowed := true, recurses := true, apart := false, narrowed := true }
def QuotaKeepsUptoSaid : Prop := quotaKeepsUptoRow.holds Try.pinned (OpenSpec.upto quotaKeepsSpec)

end Rows
end Go.Proofs.Ythmnojlenaddeaa
