/-
  No cell of these rows narrows 'for every input' (looked for: loops, veiled, ifaces, maps, wideKeys, modest, calm, conditions, laid).
  DERIVED. THE GIVEN ROWS OF THIS SEAT. 8 by the template 'for every input the law returns true; each argument reads behind the call as it read before'; 0 by the template 'total and deterministic' (their statements: YtnigjchgpmladaaTotals.lean).
  GIVEN WITH THE SEED: the statements are not yours to turn. If you find one false, say at which input.
  Laid BY PROGRAM, IN A SANDBOX (cutbox-rows.mjs): the forced cells as the released guide's own fill.sh prints them over the translation c87ae54f5d969f73… (all of the seat's roots in one cut). By AI agents, Wed Nov 11 2026. No macro, syntax, notation, axiom, sorry.
-/
import Derived.Test.YtnigjchgpmladaaChecked
import GoSem.Claim
import GoSem.ClaimJoined
import GoSem.ClaimMapViews
import Derived.JoinedTies
import Derived.KernelRfl
namespace Go.Proofs.Ytnigjchgpmladaa
/- THE CELL 'sum', in the pinned program and in every row, IS THE sha256 OF THE DUMP (.gsa) THAT YtnigjchgpmladaaProg.lean LOADS. Nothing in Lean hashes anything: it is a label: what it is worth is what the hold of that sum in a sandbox is worth. -/
noncomputable def Try.pinned : Pinned := { name := "ytnigjchgpmladaa", sum := "c87ae54f5d969f73d2d125752fdd179c7a26e1c523d6c9279198613b0e389550", checked := Try.checked }
namespace Rows
def none {H : Type} : Left H := { results := [], args := [] }

/-- 'watermeetlaw21.CoordBegins': WHATEVER THE INPUT: true; the input reads as it did. -/
def coordBeginsSpec : ChangeSpec := { name := "coordBegins", fn := fun _ => fun
  | [d1, d2, d3, d4, d5] => { results := [.lit (.bool true)], args := [d1, d2, d3, d4, d5] }
  | _ => none }
def coordBeginsRow : OpenClaim := { program := "ytnigjchgpmladaa", sum := "c87ae54f5d969f73d2d125752fdd179c7a26e1c523d6c9279198613b0e389550", func := "watermeet/watermeetlaw21.CoordBegins", spec := "coordBegins", inPlace := ["internal/bytealg.abigen_runtime_cmpstring", "slices.overlaps[watermeet/api.Txn]", "slices.overlaps[watermeet/api.Tp]"], unfollowed := true, recurses := true, apart := false }
def CoordBeginsSaid : Prop := coordBeginsRow.holds Try.pinned (OpenSpec.ofChange coordBeginsSpec)

/-- ITS FALSE NEIGHBOUR: 'it returns false'. Refute it at one input. -/
def coordBeginsWrong : ChangeSpec := { name := "coordBegins", fn := fun _ => fun
  | [d1, d2, d3, d4, d5] => { results := [.lit (.bool false)], args := [d1, d2, d3, d4, d5] }
  | _ => none }
def CoordBeginsWrongFalsely : Prop := coordBeginsRow.holds Try.pinned (OpenSpec.ofChange coordBeginsWrong)

/-- 'watermeetlaw21.CoordEnds': WHATEVER THE INPUT: true; the input reads as it did. -/
def coordEndsSpec : ChangeSpec := { name := "coordEnds", fn := fun _ => fun
  | [d1, d2] => { results := [.lit (.bool true)], args := [d1, d2] }
  | _ => none }
def coordEndsRow : OpenClaim := { program := "ytnigjchgpmladaa", sum := "c87ae54f5d969f73d2d125752fdd179c7a26e1c523d6c9279198613b0e389550", func := "watermeet/watermeetlaw21.CoordEnds", spec := "coordEnds", inPlace := ["internal/bytealg.abigen_runtime_cmpstring", "slices.overlaps[watermeet/api.Txn]", "slices.overlaps[watermeet/api.Tp]"], unfollowed := true, recurses := true, apart := false }
def CoordEndsSaid : Prop := coordEndsRow.holds Try.pinned (OpenSpec.ofChange coordEndsSpec)

/-- ITS FALSE NEIGHBOUR: 'it returns false'. Refute it at one input. -/
def coordEndsWrong : ChangeSpec := { name := "coordEnds", fn := fun _ => fun
  | [d1, d2] => { results := [.lit (.bool false)], args := [d1, d2] }
  | _ => none }
def CoordEndsWrongFalsely : Prop := coordEndsRow.holds Try.pinned (OpenSpec.ofChange coordEndsWrong)

/-- 'watermeetlaw21.CoordOld': WHATEVER THE INPUT: true; the input reads as it did. -/
def coordOldSpec : ChangeSpec := { name := "coordOld", fn := fun _ => fun
  | [d1, d2, d3, d4, d5] => { results := [.lit (.bool true)], args := [d1, d2, d3, d4, d5] }
  | _ => none }
def coordOldRow : OpenClaim := { program := "ytnigjchgpmladaa", sum := "c87ae54f5d969f73d2d125752fdd179c7a26e1c523d6c9279198613b0e389550", func := "watermeet/watermeetlaw21.CoordOld", spec := "coordOld", inPlace := ["internal/bytealg.abigen_runtime_cmpstring", "slices.overlaps[watermeet/api.Txn]", "slices.overlaps[watermeet/api.Tp]"], unfollowed := true, recurses := true, apart := false }
def CoordOldSaid : Prop := coordOldRow.holds Try.pinned (OpenSpec.ofChange coordOldSpec)

/-- ITS FALSE NEIGHBOUR: 'it returns false'. Refute it at one input. -/
def coordOldWrong : ChangeSpec := { name := "coordOld", fn := fun _ => fun
  | [d1, d2, d3, d4, d5] => { results := [.lit (.bool false)], args := [d1, d2, d3, d4, d5] }
  | _ => none }
def CoordOldWrongFalsely : Prop := coordOldRow.holds Try.pinned (OpenSpec.ofChange coordOldWrong)

/-- 'watermeetlaw21.CoordSteps': WHATEVER THE INPUT: true; the input reads as it did. -/
def coordStepsSpec : ChangeSpec := { name := "coordSteps", fn := fun _ => fun
  | [d1, d2] => { results := [.lit (.bool true)], args := [d1, d2] }
  | _ => none }
def coordStepsRow : OpenClaim := { program := "ytnigjchgpmladaa", sum := "c87ae54f5d969f73d2d125752fdd179c7a26e1c523d6c9279198613b0e389550", func := "watermeet/watermeetlaw21.CoordSteps", spec := "coordSteps", inPlace := ["internal/bytealg.abigen_runtime_cmpstring", "slices.overlaps[watermeet/api.Txn]", "slices.overlaps[watermeet/api.Tp]", "slices.overlaps[string]"], unfollowed := true, recurses := true, apart := false }
def CoordStepsSaid : Prop := coordStepsRow.holds Try.pinned (OpenSpec.ofChange coordStepsSpec)

/-- ITS FALSE NEIGHBOUR: 'it returns false'. Refute it at one input. -/
def coordStepsWrong : ChangeSpec := { name := "coordSteps", fn := fun _ => fun
  | [d1, d2] => { results := [.lit (.bool false)], args := [d1, d2] }
  | _ => none }
def CoordStepsWrongFalsely : Prop := coordStepsRow.holds Try.pinned (OpenSpec.ofChange coordStepsWrong)

/-- 'watermeetlaw21.CoordDecided': WHATEVER THE INPUT: true; the input reads as it did. -/
def coordDecidedSpec : ChangeSpec := { name := "coordDecided", fn := fun _ => fun
  | [d1, d2] => { results := [.lit (.bool true)], args := [d1, d2] }
  | _ => none }
def coordDecidedRow : OpenClaim := { program := "ytnigjchgpmladaa", sum := "c87ae54f5d969f73d2d125752fdd179c7a26e1c523d6c9279198613b0e389550", func := "watermeet/watermeetlaw21.CoordDecided", spec := "coordDecided", inPlace := ["internal/bytealg.abigen_runtime_cmpstring", "slices.overlaps[watermeet/api.Txn]", "slices.overlaps[watermeet/api.Tp]", "slices.overlaps[string]"], unfollowed := true, recurses := true, apart := false }
def CoordDecidedSaid : Prop := coordDecidedRow.holds Try.pinned (OpenSpec.ofChange coordDecidedSpec)

/-- ITS FALSE NEIGHBOUR: 'it returns false'. Refute it at one input. -/
def coordDecidedWrong : ChangeSpec := { name := "coordDecided", fn := fun _ => fun
  | [d1, d2] => { results := [.lit (.bool false)], args := [d1, d2] }
  | _ => none }
def CoordDecidedWrongFalsely : Prop := coordDecidedRow.holds Try.pinned (OpenSpec.ofChange coordDecidedWrong)

/-- 'watermeetlaw21.CoordFenced': WHATEVER THE INPUT: true; the input reads as it did. -/
def coordFencedSpec : ChangeSpec := { name := "coordFenced", fn := fun _ => fun
  | [d1, d2, d3, d4] => { results := [.lit (.bool true)], args := [d1, d2, d3, d4] }
  | _ => none }
def coordFencedRow : OpenClaim := { program := "ytnigjchgpmladaa", sum := "c87ae54f5d969f73d2d125752fdd179c7a26e1c523d6c9279198613b0e389550", func := "watermeet/watermeetlaw21.CoordFenced", spec := "coordFenced", inPlace := ["internal/bytealg.abigen_runtime_cmpstring", "slices.overlaps[watermeet/api.Txn]", "slices.overlaps[watermeet/api.Tp]", "slices.overlaps[string]"], unfollowed := true, recurses := true, apart := false }
def CoordFencedSaid : Prop := coordFencedRow.holds Try.pinned (OpenSpec.ofChange coordFencedSpec)

/-- ITS FALSE NEIGHBOUR: 'it returns false'. Refute it at one input. -/
def coordFencedWrong : ChangeSpec := { name := "coordFenced", fn := fun _ => fun
  | [d1, d2, d3, d4] => { results := [.lit (.bool false)], args := [d1, d2, d3, d4] }
  | _ => none }
def CoordFencedWrongFalsely : Prop := coordFencedRow.holds Try.pinned (OpenSpec.ofChange coordFencedWrong)

/-- 'watermeetlaw21.CoordUnlike': WHATEVER THE INPUT: true; the input reads as it did. -/
def coordUnlikeSpec : ChangeSpec := { name := "coordUnlike", fn := fun _ => fun
  | [d1, d2, d3, d4] => { results := [.lit (.bool true)], args := [d1, d2, d3, d4] }
  | _ => none }
def coordUnlikeRow : OpenClaim := { program := "ytnigjchgpmladaa", sum := "c87ae54f5d969f73d2d125752fdd179c7a26e1c523d6c9279198613b0e389550", func := "watermeet/watermeetlaw21.CoordUnlike", spec := "coordUnlike", inPlace := ["internal/bytealg.abigen_runtime_cmpstring", "slices.overlaps[watermeet/api.Txn]", "slices.overlaps[watermeet/api.Tp]", "slices.overlaps[string]"], unfollowed := true, recurses := true, apart := false }
def CoordUnlikeSaid : Prop := coordUnlikeRow.holds Try.pinned (OpenSpec.ofChange coordUnlikeSpec)

/-- ITS FALSE NEIGHBOUR: 'it returns false'. Refute it at one input. -/
def coordUnlikeWrong : ChangeSpec := { name := "coordUnlike", fn := fun _ => fun
  | [d1, d2, d3, d4] => { results := [.lit (.bool false)], args := [d1, d2, d3, d4] }
  | _ => none }
def CoordUnlikeWrongFalsely : Prop := coordUnlikeRow.holds Try.pinned (OpenSpec.ofChange coordUnlikeWrong)

/-- 'watermeetlaw21.CoordTaken': WHATEVER THE INPUT: true; the input reads as it did. -/
def coordTakenSpec : ChangeSpec := { name := "coordTaken", fn := fun _ => fun
  | [d1, d2] => { results := [.lit (.bool true)], args := [d1, d2] }
  | _ => none }
def coordTakenRow : OpenClaim := { program := "ytnigjchgpmladaa", sum := "c87ae54f5d969f73d2d125752fdd179c7a26e1c523d6c9279198613b0e389550", func := "watermeet/watermeetlaw21.CoordTaken", spec := "coordTaken", inPlace := ["internal/bytealg.abigen_runtime_cmpstring", "slices.overlaps[watermeet/api.Txn]", "slices.overlaps[watermeet/api.Tp]", "slices.overlaps[string]"], unfollowed := true, recurses := true, apart := false }
def CoordTakenSaid : Prop := coordTakenRow.holds Try.pinned (OpenSpec.ofChange coordTakenSpec)

/-- ITS FALSE NEIGHBOUR: 'it returns false'. Refute it at one input. -/
def coordTakenWrong : ChangeSpec := { name := "coordTaken", fn := fun _ => fun
  | [d1, d2] => { results := [.lit (.bool false)], args := [d1, d2] }
  | _ => none }
def CoordTakenWrongFalsely : Prop := coordTakenRow.holds Try.pinned (OpenSpec.ofChange coordTakenWrong)

/- THE SECOND FORM. 'bulk': how many values and letters a reading holds, each counted each time it is reached (what is shared counts as often as it is met; a slice's spare places count too). A statement '..UptoSaid' is the law's where the arguments, and the package variables that the reading takes, are together of bulk at most 1048576: NARROWER than '..Said'. Prove '..Said' where nothing that the law and all that it calls make is longer than what came in: it says more and counts as full. Else prove '..UptoSaid'. A law counts once. -/
mutual
def uptoBulk {H : Type} : DataW H → Nat
  | .lit (.string bytes) => bytes.length + 1
  | .lit _ => 1
  | .nil => 1
  | .ptr d => uptoBulk d + 1
  | .slice elems spare => uptoBulkAll elems + uptoBulkAll spare + 1
  | .agg parts => uptoBulkAll parts + 1
  | .iface _ d => uptoBulk d + 1
  | .map entries => uptoBulkEntries entries + 1
  | .held _ => 1
def uptoBulkAll {H : Type} : List (DataW H) → Nat
  | [] => 0
  | d :: r => uptoBulk d + uptoBulkAll r
def uptoBulkEntries {H : Type} : List (Lit × DataW H) → Nat
  | [] => 0
  | x :: r => uptoBulkEntry x + uptoBulkEntries r
def uptoBulkEntry {H : Type} : Lit × DataW H → Nat
  | (.string bytes, d) => bytes.length + uptoBulk d + 1
  | (_, d) => uptoBulk d + 1
 end
def uptoSmall : (H : Type) → List (DataW H) → Bool := fun _ ds => decide (uptoBulkAll ds ≤ 1048576)
def OpenSpec.upto (s : _root_.Go.ChangeSpec) : _root_.Go.OpenSpec := { _root_.Go.OpenSpec.ofChange s with cond := some uptoSmall }

/-- 'watermeetlaw21.CoordBegins', WHERE WHAT IT READS IS OF BULK AT MOST 1048576: true; the input reads as it did. -/
def coordBeginsUptoRow : OpenClaim := { program := "ytnigjchgpmladaa", sum := "c87ae54f5d969f73d2d125752fdd179c7a26e1c523d6c9279198613b0e389550", func := "watermeet/watermeetlaw21.CoordBegins", spec := "coordBegins", inPlace := ["internal/bytealg.abigen_runtime_cmpstring", "slices.overlaps[watermeet/api.Txn]", "slices.overlaps[watermeet/api.Tp]"], unfollowed := true, recurses := true, apart := false, narrowed := true }
def CoordBeginsUptoSaid : Prop := coordBeginsUptoRow.holds Try.pinned (OpenSpec.upto coordBeginsSpec)

/-- 'watermeetlaw21.CoordEnds', WHERE WHAT IT READS IS OF BULK AT MOST 1048576: true; the input reads as it did. -/
def coordEndsUptoRow : OpenClaim := { program := "ytnigjchgpmladaa", sum := "c87ae54f5d969f73d2d125752fdd179c7a26e1c523d6c9279198613b0e389550", func := "watermeet/watermeetlaw21.CoordEnds", spec := "coordEnds", inPlace := ["internal/bytealg.abigen_runtime_cmpstring", "slices.overlaps[watermeet/api.Txn]", "slices.overlaps[watermeet/api.Tp]"], unfollowed := true, recurses := true, apart := false, narrowed := true }
def CoordEndsUptoSaid : Prop := coordEndsUptoRow.holds Try.pinned (OpenSpec.upto coordEndsSpec)

/-- 'watermeetlaw21.CoordOld', WHERE WHAT IT READS IS OF BULK AT MOST 1048576: true; the input reads as it did. -/
def coordOldUptoRow : OpenClaim := { program := "ytnigjchgpmladaa", sum := "c87ae54f5d969f73d2d125752fdd179c7a26e1c523d6c9279198613b0e389550", func := "watermeet/watermeetlaw21.CoordOld", spec := "coordOld", inPlace := ["internal/bytealg.abigen_runtime_cmpstring", "slices.overlaps[watermeet/api.Txn]", "slices.overlaps[watermeet/api.Tp]"], unfollowed := true, recurses := true, apart := false, narrowed := true }
def CoordOldUptoSaid : Prop := coordOldUptoRow.holds Try.pinned (OpenSpec.upto coordOldSpec)

/-- 'watermeetlaw21.CoordSteps', WHERE WHAT IT READS IS OF BULK AT MOST 1048576: true; the input reads as it did. -/
def coordStepsUptoRow : OpenClaim := { program := "ytnigjchgpmladaa", sum := "c87ae54f5d969f73d2d125752fdd179c7a26e1c523d6c9279198613b0e389550", func := "watermeet/watermeetlaw21.CoordSteps", spec := "coordSteps", inPlace := ["internal/bytealg.abigen_runtime_cmpstring", "slices.overlaps[watermeet/api.Txn]", "slices.overlaps[watermeet/api.Tp]", "slices.overlaps[string]"], unfollowed := true, recurses := true, apart := false, narrowed := true }
def CoordStepsUptoSaid : Prop := coordStepsUptoRow.holds Try.pinned (OpenSpec.upto coordStepsSpec)

/-- 'watermeetlaw21.CoordDecided', WHERE WHAT IT READS IS OF BULK AT MOST 1048576: true; the input reads as it did. -/
def coordDecidedUptoRow : OpenClaim := { program := "ytnigjchgpmladaa", sum := "c87ae54f5d969f73d2d125752fdd179c7a26e1c523d6c9279198613b0e389550", func := "watermeet/watermeetlaw21.CoordDecided", spec := "coordDecided", inPlace := ["internal/bytealg.abigen_runtime_cmpstring", "slices.overlaps[watermeet/api.Txn]", "slices.overlaps[watermeet/api.Tp]", "slices.overlaps[string]"], unfollowed := true, recurses := true, apart := false, narrowed := true }
def CoordDecidedUptoSaid : Prop := coordDecidedUptoRow.holds Try.pinned (OpenSpec.upto coordDecidedSpec)

/-- 'watermeetlaw21.CoordFenced', WHERE WHAT IT READS IS OF BULK AT MOST 1048576: true; the input reads as it did. -/
def coordFencedUptoRow : OpenClaim := { program := "ytnigjchgpmladaa", sum := "c87ae54f5d969f73d2d125752fdd179c7a26e1c523d6c9279198613b0e389550", func := "watermeet/watermeetlaw21.CoordFenced", spec := "coordFenced", inPlace := ["internal/bytealg.abigen_runtime_cmpstring", "slices.overlaps[watermeet/api.Txn]", "slices.overlaps[watermeet/api.Tp]", "slices.overlaps[string]"], unfollowed := true, recurses := true, apart := false, narrowed := true }
def CoordFencedUptoSaid : Prop := coordFencedUptoRow.holds Try.pinned (OpenSpec.upto coordFencedSpec)

/-- 'watermeetlaw21.CoordUnlike', WHERE WHAT IT READS IS OF BULK AT MOST 1048576: true; the input reads as it did. -/
def coordUnlikeUptoRow : OpenClaim := { program := "ytnigjchgpmladaa", sum := "c87ae54f5d969f73d2d125752fdd179c7a26e1c523d6c9279198613b0e389550", func := "watermeet/watermeetlaw21.CoordUnlike", spec := "coordUnlike", inPlace := ["internal/bytealg.abigen_runtime_cmpstring", "slices.overlaps[watermeet/api.Txn]", "slices.overlaps[watermeet/api.Tp]", "slices.overlaps[string]"], unfollowed := true, recurses := true, apart := false, narrowed := true }
def CoordUnlikeUptoSaid : Prop := coordUnlikeUptoRow.holds Try.pinned (OpenSpec.upto coordUnlikeSpec)

/-- 'watermeetlaw21.CoordTaken', WHERE WHAT IT READS IS OF BULK AT MOST 1048576: true; the input reads as it did. -/
def coordTakenUptoRow : OpenClaim := { program := "ytnigjchgpmladaa", sum := "c87ae54f5d969f73d2d125752fdd179c7a26e1c523d6c9279198613b0e389550", func := "watermeet/watermeetlaw21.CoordTaken", spec := "coordTaken", inPlace := ["internal/bytealg.abigen_runtime_cmpstring", "slices.overlaps[watermeet/api.Txn]", "slices.overlaps[watermeet/api.Tp]", "slices.overlaps[string]"], unfollowed := true, recurses := true, apart := false, narrowed := true }
def CoordTakenUptoSaid : Prop := coordTakenUptoRow.holds Try.pinned (OpenSpec.upto coordTakenSpec)

end Rows
end Go.Proofs.Ytnigjchgpmladaa
