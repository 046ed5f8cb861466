/-
  No cell of these rows narrows 'for every input' (looked for: loops, veiled, ifaces, maps, wideKeys, modest, calm, conditions, laid).
  DERIVED. THE GIVEN ROWS OF THIS SEAT. 8 by the template 'for every input the law returns true; each argument reads behind the call as it read before'; 0 by the template 'total and deterministic' (their statements: YtnnmppnbkplamaaTotals.lean).
  GIVEN WITH THE SEED: the statements are not yours to turn. If you find one false, say at which input.
  Laid BY PROGRAM, IN A SANDBOX (cutbox-rows.mjs): the forced cells as the released guide's own fill.sh prints them over the translation 4c0ae82e62ca3211… (all of the seat's roots in one cut). By AI agents, Wed Nov 11 2026. No macro, syntax, notation, axiom, sorry.
-/
import Derived.Test.YtnnmppnbkplamaaChecked
import GoSem.Claim
import GoSem.ClaimJoined
import GoSem.ClaimMapViews
import Derived.JoinedTies
import Derived.KernelRfl
namespace Go.Proofs.Ytnnmppnbkplamaa
/- THE CELL 'sum', in the pinned program and in every row, IS THE sha256 OF THE DUMP (.gsa) THAT YtnnmppnbkplamaaProg.lean LOADS. Nothing in Lean hashes anything: it is a label: what it is worth is what the hold of that sum in a sandbox is worth. -/
noncomputable def Try.pinned : Pinned := { name := "ytnnmppnbkplamaa", sum := "4c0ae82e62ca3211fa86cf398df81efb5a53fe69324a44a281e17e46acd66fc2", checked := Try.checked }
namespace Rows
def none {H : Type} : Left H := { results := [], args := [] }

/-- 'watermeetlaw14.ObjectPuts': WHATEVER THE INPUT: true; the input reads as it did. -/
def objectPutsSpec : ChangeSpec := { name := "objectPuts", fn := fun _ => fun
  | [d1, d2, d3] => { results := [.lit (.bool true)], args := [d1, d2, d3] }
  | _ => none }
def objectPutsRow : OpenClaim := { program := "ytnnmppnbkplamaa", sum := "4c0ae82e62ca3211fa86cf398df81efb5a53fe69324a44a281e17e46acd66fc2", func := "watermeet/watermeetlaw14.ObjectPuts", spec := "objectPuts", inPlace := ["internal/bytealg.abigen_runtime_cmpstring", "slices.overlaps[watermeet/api.Obj]"], unfollowed := true, recurses := true, apart := false }
def ObjectPutsSaid : Prop := objectPutsRow.holds Try.pinned (OpenSpec.ofChange objectPutsSpec)

/-- ITS FALSE NEIGHBOUR: 'it returns false'. Refute it at one input. -/
def objectPutsWrong : ChangeSpec := { name := "objectPuts", fn := fun _ => fun
  | [d1, d2, d3] => { results := [.lit (.bool false)], args := [d1, d2, d3] }
  | _ => none }
def ObjectPutsWrongFalsely : Prop := objectPutsRow.holds Try.pinned (OpenSpec.ofChange objectPutsWrong)

/-- 'watermeetlaw14.ObjectGets': WHATEVER THE INPUT: true; the input reads as it did. -/
def objectGetsSpec : ChangeSpec := { name := "objectGets", fn := fun _ => fun
  | [d1, d2, d3] => { results := [.lit (.bool true)], args := [d1, d2, d3] }
  | _ => none }
def objectGetsRow : OpenClaim := { program := "ytnnmppnbkplamaa", sum := "4c0ae82e62ca3211fa86cf398df81efb5a53fe69324a44a281e17e46acd66fc2", func := "watermeet/watermeetlaw14.ObjectGets", spec := "objectGets", inPlace := ["internal/bytealg.abigen_runtime_cmpstring", "slices.overlaps[watermeet/api.Obj]"], unfollowed := true, recurses := true, apart := false }
def ObjectGetsSaid : Prop := objectGetsRow.holds Try.pinned (OpenSpec.ofChange objectGetsSpec)

/-- ITS FALSE NEIGHBOUR: 'it returns false'. Refute it at one input. -/
def objectGetsWrong : ChangeSpec := { name := "objectGets", fn := fun _ => fun
  | [d1, d2, d3] => { results := [.lit (.bool false)], args := [d1, d2, d3] }
  | _ => none }
def ObjectGetsWrongFalsely : Prop := objectGetsRow.holds Try.pinned (OpenSpec.ofChange objectGetsWrong)

/-- 'watermeetlaw14.ObjectThere': WHATEVER THE INPUT: true; the input reads as it did. -/
def objectThereSpec : ChangeSpec := { name := "objectThere", fn := fun _ => fun
  | [d1, d2, d3] => { results := [.lit (.bool true)], args := [d1, d2, d3] }
  | _ => none }
def objectThereRow : OpenClaim := { program := "ytnnmppnbkplamaa", sum := "4c0ae82e62ca3211fa86cf398df81efb5a53fe69324a44a281e17e46acd66fc2", func := "watermeet/watermeetlaw14.ObjectThere", spec := "objectThere", inPlace := ["internal/bytealg.abigen_runtime_cmpstring", "slices.overlaps[watermeet/api.Obj]"], unfollowed := true, recurses := true, apart := false }
def ObjectThereSaid : Prop := objectThereRow.holds Try.pinned (OpenSpec.ofChange objectThereSpec)

/-- ITS FALSE NEIGHBOUR: 'it returns false'. Refute it at one input. -/
def objectThereWrong : ChangeSpec := { name := "objectThere", fn := fun _ => fun
  | [d1, d2, d3] => { results := [.lit (.bool false)], args := [d1, d2, d3] }
  | _ => none }
def ObjectThereWrongFalsely : Prop := objectThereRow.holds Try.pinned (OpenSpec.ofChange objectThereWrong)

/-- 'watermeetlaw14.ObjectOthers': WHATEVER THE INPUT: true; the input reads as it did. -/
def objectOthersSpec : ChangeSpec := { name := "objectOthers", fn := fun _ => fun
  | [d1, d2, d3, d4] => { results := [.lit (.bool true)], args := [d1, d2, d3, d4] }
  | _ => none }
def objectOthersRow : OpenClaim := { program := "ytnnmppnbkplamaa", sum := "4c0ae82e62ca3211fa86cf398df81efb5a53fe69324a44a281e17e46acd66fc2", func := "watermeet/watermeetlaw14.ObjectOthers", spec := "objectOthers", inPlace := ["internal/bytealg.abigen_runtime_cmpstring", "slices.overlaps[watermeet/api.Obj]"], unfollowed := true, recurses := true, apart := false }
def ObjectOthersSaid : Prop := objectOthersRow.holds Try.pinned (OpenSpec.ofChange objectOthersSpec)

/-- ITS FALSE NEIGHBOUR: 'it returns false'. Refute it at one input. -/
def objectOthersWrong : ChangeSpec := { name := "objectOthers", fn := fun _ => fun
  | [d1, d2, d3, d4] => { results := [.lit (.bool false)], args := [d1, d2, d3, d4] }
  | _ => none }
def ObjectOthersWrongFalsely : Prop := objectOthersRow.holds Try.pinned (OpenSpec.ofChange objectOthersWrong)

/-- 'watermeetlaw14.ObjectGone': WHATEVER THE INPUT: true; the input reads as it did. -/
def objectGoneSpec : ChangeSpec := { name := "objectGone", fn := fun _ => fun
  | [d1, d2] => { results := [.lit (.bool true)], args := [d1, d2] }
  | _ => none }
def objectGoneRow : OpenClaim := { program := "ytnnmppnbkplamaa", sum := "4c0ae82e62ca3211fa86cf398df81efb5a53fe69324a44a281e17e46acd66fc2", func := "watermeet/watermeetlaw14.ObjectGone", spec := "objectGone", inPlace := ["internal/bytealg.abigen_runtime_cmpstring", "slices.overlaps[watermeet/api.Obj]"], unfollowed := true, recurses := true, apart := false }
def ObjectGoneSaid : Prop := objectGoneRow.holds Try.pinned (OpenSpec.ofChange objectGoneSpec)

/-- ITS FALSE NEIGHBOUR: 'it returns false'. Refute it at one input. -/
def objectGoneWrong : ChangeSpec := { name := "objectGone", fn := fun _ => fun
  | [d1, d2] => { results := [.lit (.bool false)], args := [d1, d2] }
  | _ => none }
def ObjectGoneWrongFalsely : Prop := objectGoneRow.holds Try.pinned (OpenSpec.ofChange objectGoneWrong)

/-- 'watermeetlaw14.ObjectLists': WHATEVER THE INPUT: true; the input reads as it did. -/
def objectListsSpec : ChangeSpec := { name := "objectLists", fn := fun _ => fun
  | [d1, d2, d3] => { results := [.lit (.bool true)], args := [d1, d2, d3] }
  | _ => none }
def objectListsRow : OpenClaim := { program := "ytnnmppnbkplamaa", sum := "4c0ae82e62ca3211fa86cf398df81efb5a53fe69324a44a281e17e46acd66fc2", func := "watermeet/watermeetlaw14.ObjectLists", spec := "objectLists", inPlace := ["internal/bytealg.abigen_runtime_cmpstring", "slices.overlaps[watermeet/api.Obj]"], unfollowed := true, recurses := true, apart := false }
def ObjectListsSaid : Prop := objectListsRow.holds Try.pinned (OpenSpec.ofChange objectListsSpec)

/-- ITS FALSE NEIGHBOUR: 'it returns false'. Refute it at one input. -/
def objectListsWrong : ChangeSpec := { name := "objectLists", fn := fun _ => fun
  | [d1, d2, d3] => { results := [.lit (.bool false)], args := [d1, d2, d3] }
  | _ => none }
def ObjectListsWrongFalsely : Prop := objectListsRow.holds Try.pinned (OpenSpec.ofChange objectListsWrong)

/-- 'watermeetlaw14.ObjectCalls': WHATEVER THE INPUT: true; the input reads as it did. -/
def objectCallsSpec : ChangeSpec := { name := "objectCalls", fn := fun _ => fun
  | [d1, d2, d3, d4] => { results := [.lit (.bool true)], args := [d1, d2, d3, d4] }
  | _ => none }
def objectCallsRow : OpenClaim := { program := "ytnnmppnbkplamaa", sum := "4c0ae82e62ca3211fa86cf398df81efb5a53fe69324a44a281e17e46acd66fc2", func := "watermeet/watermeetlaw14.ObjectCalls", spec := "objectCalls", inPlace := ["internal/bytealg.abigen_runtime_cmpstring", "slices.overlaps[watermeet/api.Obj]"], unfollowed := true, recurses := true, apart := false }
def ObjectCallsSaid : Prop := objectCallsRow.holds Try.pinned (OpenSpec.ofChange objectCallsSpec)

/-- ITS FALSE NEIGHBOUR: 'it returns false'. Refute it at one input. -/
def objectCallsWrong : ChangeSpec := { name := "objectCalls", fn := fun _ => fun
  | [d1, d2, d3, d4] => { results := [.lit (.bool false)], args := [d1, d2, d3, d4] }
  | _ => none }
def ObjectCallsWrongFalsely : Prop := objectCallsRow.holds Try.pinned (OpenSpec.ofChange objectCallsWrong)

/-- 'watermeetlaw14.ObjectTorn': WHATEVER THE INPUT: true; the input reads as it did. -/
def objectTornSpec : ChangeSpec := { name := "objectTorn", fn := fun _ => fun
  | [d1, d2] => { results := [.lit (.bool true)], args := [d1, d2] }
  | _ => none }
def objectTornRow : OpenClaim := { program := "ytnnmppnbkplamaa", sum := "4c0ae82e62ca3211fa86cf398df81efb5a53fe69324a44a281e17e46acd66fc2", func := "watermeet/watermeetlaw14.ObjectTorn", spec := "objectTorn", inPlace := ["internal/bytealg.abigen_runtime_cmpstring", "slices.overlaps[watermeet/api.Obj]"], unfollowed := true, recurses := true, apart := false }
def ObjectTornSaid : Prop := objectTornRow.holds Try.pinned (OpenSpec.ofChange objectTornSpec)

/-- ITS FALSE NEIGHBOUR: 'it returns false'. Refute it at one input. -/
def objectTornWrong : ChangeSpec := { name := "objectTorn", fn := fun _ => fun
  | [d1, d2] => { results := [.lit (.bool false)], args := [d1, d2] }
  | _ => none }
def ObjectTornWrongFalsely : Prop := objectTornRow.holds Try.pinned (OpenSpec.ofChange objectTornWrong)

/- THE SECOND FORM. 'bulk': how many values and letters a reading holds, each counted each time it is reached (what is shared counts as often as it is met; a slice's spare places count too). A statement '..UptoSaid' is the law's where the arguments, and the package variables that the reading takes, are together of bulk at most 1048576: NARROWER than '..Said'. Prove '..Said' where nothing that the law and all that it calls make is longer than what came in: it says more and counts as full. Else prove '..UptoSaid'. A law counts once. -/
mutual
def uptoBulk {H : Type} : DataW H → Nat
  | .lit (.string bytes) => bytes.length + 1
  | .lit _ => 1
  | .nil => 1
  | .ptr d => uptoBulk d + 1
  | .slice elems spare => uptoBulkAll elems + uptoBulkAll spare + 1
  | .agg parts => uptoBulkAll parts + 1
  | .iface _ d => uptoBulk d + 1
  | .map entries => uptoBulkEntries entries + 1
  | .held _ => 1
def uptoBulkAll {H : Type} : List (DataW H) → Nat
  | [] => 0
  | d :: r => uptoBulk d + uptoBulkAll r
def uptoBulkEntries {H : Type} : List (Lit × DataW H) → Nat
  | [] => 0
  | x :: r => uptoBulkEntry x + uptoBulkEntries r
def uptoBulkEntry {H : Type} : Lit × DataW H → Nat
  | (.string bytes, d) => bytes.length + uptoBulk d + 1
  | (_, d) => uptoBulk d + 1
 end
def uptoSmall : (H : Type) → List (DataW H) → Bool := fun _ ds => decide (uptoBulkAll ds ≤ 1048576)
def OpenSpec.upto (s : _root_.Go.ChangeSpec) : _root_.Go.OpenSpec := { _root_.Go.OpenSpec.ofChange s with cond := some uptoSmall }

/-- 'watermeetlaw14.ObjectPuts', WHERE WHAT IT READS IS OF BULK AT MOST 1048576: true; the input reads as it did. -/
def objectPutsUptoRow : OpenClaim := { program := "ytnnmppnbkplamaa", sum := "4c0ae82e62ca3211fa86cf398df81efb5a53fe69324a44a281e17e46acd66fc2", func := "watermeet/watermeetlaw14.ObjectPuts", spec := "objectPuts", inPlace := ["internal/bytealg.abigen_runtime_cmpstring", "slices.overlaps[watermeet/api.Obj]"], unfollowed := true, recurses := true, apart := false, narrowed := true }
def ObjectPutsUptoSaid : Prop := objectPutsUptoRow.holds Try.pinned (OpenSpec.upto objectPutsSpec)

/-- 'watermeetlaw14.ObjectGets', WHERE WHAT IT READS IS OF BULK AT MOST 1048576: true; the input reads as it did. -/
def objectGetsUptoRow : OpenClaim := { program := "ytnnmppnbkplamaa", sum := "4c0ae82e62ca3211fa86cf398df81efb5a53fe69324a44a281e17e46acd66fc2", func := "watermeet/watermeetlaw14.ObjectGets", spec := "objectGets", inPlace := ["internal/bytealg.abigen_runtime_cmpstring", "slices.overlaps[watermeet/api.Obj]"], unfollowed := true, recurses := true, apart := false, narrowed := true }
def ObjectGetsUptoSaid : Prop := objectGetsUptoRow.holds Try.pinned (OpenSpec.upto objectGetsSpec)

/-- 'watermeetlaw14.ObjectThere', WHERE WHAT IT READS IS OF BULK AT MOST 1048576: true; the input reads as it did. -/
def objectThereUptoRow : OpenClaim := { program := "ytnnmppnbkplamaa", sum := "4c0ae82e62ca3211fa86cf398df81efb5a53fe69324a44a281e17e46acd66fc2", func := "watermeet/watermeetlaw14.ObjectThere", spec := "objectThere", inPlace := ["internal/bytealg.abigen_runtime_cmpstring", "slices.overlaps[watermeet/api.Obj]"], unfollowed := true, recurses := true, apart := false, narrowed := true }
def ObjectThereUptoSaid : Prop := objectThereUptoRow.holds Try.pinned (OpenSpec.upto objectThereSpec)

/-- 'watermeetlaw14.ObjectOthers', WHERE WHAT IT READS IS OF BULK AT MOST 1048576: true; the input reads as it did. -/
def objectOthersUptoRow : OpenClaim := { program := "ytnnmppnbkplamaa", sum := "4c0ae82e62ca3211fa86cf398df81efb5a53fe69324a44a281e17e46acd66fc2", func := "watermeet/watermeetlaw14.ObjectOthers", spec := "objectOthers", inPlace := ["internal/bytealg.abigen_runtime_cmpstring", "slices.overlaps[watermeet/api.Obj]"], unfollowed := true, recurses := true, apart := false, narrowed := true }
def ObjectOthersUptoSaid : Prop := objectOthersUptoRow.holds Try.pinned (OpenSpec.upto objectOthersSpec)

/-- 'watermeetlaw14.ObjectGone', WHERE WHAT IT READS IS OF BULK AT MOST 1048576: true; the input reads as it did. -/
def objectGoneUptoRow : OpenClaim := { program := "ytnnmppnbkplamaa", sum := "4c0ae82e62ca3211fa86cf398df81efb5a53fe69324a44a281e17e46acd66fc2", func := "watermeet/watermeetlaw14.ObjectGone", spec := "objectGone", inPlace := ["internal/bytealg.abigen_runtime_cmpstring", "slices.overlaps[watermeet/api.Obj]"], unfollowed := true, recurses := true, apart := false, narrowed := true }
def ObjectGoneUptoSaid : Prop := objectGoneUptoRow.holds Try.pinned (OpenSpec.upto objectGoneSpec)

/-- 'watermeetlaw14.ObjectLists', WHERE WHAT IT READS IS OF BULK AT MOST 1048576: true; the input reads as it did. -/
def objectListsUptoRow : OpenClaim := { program := "ytnnmppnbkplamaa", sum := "4c0ae82e62ca3211fa86cf398df81efb5a53fe69324a44a281e17e46acd66fc2", func := "watermeet/watermeetlaw14.ObjectLists", spec := "objectLists", inPlace := ["internal/bytealg.abigen_runtime_cmpstring", "slices.overlaps[watermeet/api.Obj]"], unfollowed := true, recurses := true, apart := false, narrowed := true }
def ObjectListsUptoSaid : Prop := objectListsUptoRow.holds Try.pinned (OpenSpec.upto objectListsSpec)

/-- 'watermeetlaw14.ObjectCalls', WHERE WHAT IT READS IS OF BULK AT MOST 1048576: true; the input reads as it did. -/
def objectCallsUptoRow : OpenClaim := { program := "ytnnmppnbkplamaa", sum := "4c0ae82e62ca3211fa86cf398df81efb5a53fe69324a44a281e17e46acd66fc2", func := "watermeet/watermeetlaw14.ObjectCalls", spec := "objectCalls", inPlace := ["internal/bytealg.abigen_runtime_cmpstring", "slices.overlaps[watermeet/api.Obj]"], unfollowed := true, recurses := true, apart := false, narrowed := true }
def ObjectCallsUptoSaid : Prop := objectCallsUptoRow.holds Try.pinned (OpenSpec.upto objectCallsSpec)

/-- 'watermeetlaw14.ObjectTorn', WHERE WHAT IT READS IS OF BULK AT MOST 1048576: true; the input reads as it did. -/
def objectTornUptoRow : OpenClaim := { program := "ytnnmppnbkplamaa", sum := "4c0ae82e62ca3211fa86cf398df81efb5a53fe69324a44a281e17e46acd66fc2", func := "watermeet/watermeetlaw14.ObjectTorn", spec := "objectTorn", inPlace := ["internal/bytealg.abigen_runtime_cmpstring", "slices.overlaps[watermeet/api.Obj]"], unfollowed := true, recurses := true, apart := false, narrowed := true }
def ObjectTornUptoSaid : Prop := objectTornUptoRow.holds Try.pinned (OpenSpec.upto objectTornSpec)

end Rows
end Go.Proofs.Ytnnmppnbkplamaa
