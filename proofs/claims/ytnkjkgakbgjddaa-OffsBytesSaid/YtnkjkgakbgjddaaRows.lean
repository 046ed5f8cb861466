/-
  No cell of these rows narrows 'for every input' (looked for: loops, veiled, ifaces, maps, wideKeys, modest, calm, conditions, laid).
  DERIVED. THE GIVEN ROWS OF THIS SEAT. 8 by the template 'for every input the law returns true; each argument reads behind the call as it read before'; 0 by the template 'total and deterministic' (their statements: YtnkjkgakbgjddaaTotals.lean).
  GIVEN WITH THE SEED: the statements are not yours to turn. If you find one false, say at which input.
  Laid BY PROGRAM, IN A SANDBOX (cutbox-rows.mjs): the forced cells as the released guide's own fill.sh prints them over the translation 98f411c9db4b09eb… (all of the seat's roots in one cut). By AI agents, Wed Nov 11 2026. No macro, syntax, notation, axiom, sorry.
-/
import Derived.Test.YtnkjkgakbgjddaaChecked
import GoSem.Claim
import GoSem.ClaimJoined
import GoSem.ClaimMapViews
import Derived.JoinedTies
import Derived.KernelRfl
namespace Go.Proofs.Ytnkjkgakbgjddaa
/- THE CELL 'sum', in the pinned program and in every row, IS THE sha256 OF THE DUMP (.gsa) THAT YtnkjkgakbgjddaaProg.lean LOADS. Nothing in Lean hashes anything: it is a label: what it is worth is what the hold of that sum in a sandbox is worth. -/
noncomputable def Try.pinned : Pinned := { name := "ytnkjkgakbgjddaa", sum := "98f411c9db4b09ebadd919d6d28c7a0e251e6dd19209c0be263fe6d8f375be64", checked := Try.checked }
namespace Rows
def none {H : Type} : Left H := { results := [], args := [] }

/-- 'watermeetlaw24.OffsSteps': WHATEVER THE INPUT: true; the input reads as it did. -/
def offsStepsSpec : ChangeSpec := { name := "offsSteps", fn := fun _ => fun
  | [d1, d2, d3, d4] => { results := [.lit (.bool true)], args := [d1, d2, d3, d4] }
  | _ => none }
def offsStepsRow : OpenClaim := { program := "ytnkjkgakbgjddaa", sum := "98f411c9db4b09ebadd919d6d28c7a0e251e6dd19209c0be263fe6d8f375be64", func := "watermeet/watermeetlaw24.OffsSteps", spec := "offsSteps", inPlace := ["slices.overlaps[watermeet/api.Pos]", "internal/bytealg.abigen_runtime_cmpstring", "slices.overlaps[watermeet/api.Wait]"], unfollowed := true, recurses := true, apart := false }
def OffsStepsSaid : Prop := offsStepsRow.holds Try.pinned (OpenSpec.ofChange offsStepsSpec)

/-- ITS FALSE NEIGHBOUR: 'it returns false'. Refute it at one input. -/
def offsStepsWrong : ChangeSpec := { name := "offsSteps", fn := fun _ => fun
  | [d1, d2, d3, d4] => { results := [.lit (.bool false)], args := [d1, d2, d3, d4] }
  | _ => none }
def OffsStepsWrongFalsely : Prop := offsStepsRow.holds Try.pinned (OpenSpec.ofChange offsStepsWrong)

/-- 'watermeetlaw24.OffsLooks': WHATEVER THE INPUT: true; the input reads as it did. -/
def offsLooksSpec : ChangeSpec := { name := "offsLooks", fn := fun _ => fun
  | [d1, d2, d3] => { results := [.lit (.bool true)], args := [d1, d2, d3] }
  | _ => none }
def offsLooksRow : OpenClaim := { program := "ytnkjkgakbgjddaa", sum := "98f411c9db4b09ebadd919d6d28c7a0e251e6dd19209c0be263fe6d8f375be64", func := "watermeet/watermeetlaw24.OffsLooks", spec := "offsLooks", inPlace := ["slices.overlaps[watermeet/api.Pos]", "internal/bytealg.abigen_runtime_cmpstring", "slices.overlaps[watermeet/api.Wait]"], unfollowed := true, recurses := true, apart := false }
def OffsLooksSaid : Prop := offsLooksRow.holds Try.pinned (OpenSpec.ofChange offsLooksSpec)

/-- ITS FALSE NEIGHBOUR: 'it returns false'. Refute it at one input. -/
def offsLooksWrong : ChangeSpec := { name := "offsLooks", fn := fun _ => fun
  | [d1, d2, d3] => { results := [.lit (.bool false)], args := [d1, d2, d3] }
  | _ => none }
def OffsLooksWrongFalsely : Prop := offsLooksRow.holds Try.pinned (OpenSpec.ofChange offsLooksWrong)

/-- 'watermeetlaw24.OffsBytes': WHATEVER THE INPUT: true; the input reads as it did. -/
def offsBytesSpec : ChangeSpec := { name := "offsBytes", fn := fun _ => fun
  | [d1, d2, d3] => { results := [.lit (.bool true)], args := [d1, d2, d3] }
  | _ => none }
def offsBytesRow : OpenClaim := { program := "ytnkjkgakbgjddaa", sum := "98f411c9db4b09ebadd919d6d28c7a0e251e6dd19209c0be263fe6d8f375be64", func := "watermeet/watermeetlaw24.OffsBytes", spec := "offsBytes", inPlace := ["slices.overlaps[watermeet/api.Pos]", "internal/bytealg.abigen_runtime_cmpstring", "slices.overlaps[watermeet/api.Wait]"], unfollowed := true, recurses := true, apart := false }
def OffsBytesSaid : Prop := offsBytesRow.holds Try.pinned (OpenSpec.ofChange offsBytesSpec)

/-- ITS FALSE NEIGHBOUR: 'it returns false'. Refute it at one input. -/
def offsBytesWrong : ChangeSpec := { name := "offsBytes", fn := fun _ => fun
  | [d1, d2, d3] => { results := [.lit (.bool false)], args := [d1, d2, d3] }
  | _ => none }
def OffsBytesWrongFalsely : Prop := offsBytesRow.holds Try.pinned (OpenSpec.ofChange offsBytesWrong)

/-- 'watermeetlaw24.OffsWhole': WHATEVER THE INPUT: true; the input reads as it did. -/
def offsWholeSpec : ChangeSpec := { name := "offsWhole", fn := fun _ => fun
  | [d1, d2, d3] => { results := [.lit (.bool true)], args := [d1, d2, d3] }
  | _ => none }
def offsWholeRow : OpenClaim := { program := "ytnkjkgakbgjddaa", sum := "98f411c9db4b09ebadd919d6d28c7a0e251e6dd19209c0be263fe6d8f375be64", func := "watermeet/watermeetlaw24.OffsWhole", spec := "offsWhole", inPlace := ["slices.overlaps[watermeet/api.Pos]", "internal/bytealg.abigen_runtime_cmpstring", "slices.overlaps[watermeet/api.Wait]"], unfollowed := true, recurses := true, apart := false }
def OffsWholeSaid : Prop := offsWholeRow.holds Try.pinned (OpenSpec.ofChange offsWholeSpec)

/-- ITS FALSE NEIGHBOUR: 'it returns false'. Refute it at one input. -/
def offsWholeWrong : ChangeSpec := { name := "offsWhole", fn := fun _ => fun
  | [d1, d2, d3] => { results := [.lit (.bool false)], args := [d1, d2, d3] }
  | _ => none }
def OffsWholeWrongFalsely : Prop := offsWholeRow.holds Try.pinned (OpenSpec.ofChange offsWholeWrong)

/-- 'watermeetlaw24.OffsPut': WHATEVER THE INPUT: true; the input reads as it did. -/
def offsPutSpec : ChangeSpec := { name := "offsPut", fn := fun _ => fun
  | [d1, d2, d3] => { results := [.lit (.bool true)], args := [d1, d2, d3] }
  | _ => none }
def offsPutRow : OpenClaim := { program := "ytnkjkgakbgjddaa", sum := "98f411c9db4b09ebadd919d6d28c7a0e251e6dd19209c0be263fe6d8f375be64", func := "watermeet/watermeetlaw24.OffsPut", spec := "offsPut", inPlace := ["slices.overlaps[watermeet/api.Pos]", "internal/bytealg.abigen_runtime_cmpstring", "slices.overlaps[watermeet/api.Wait]"], unfollowed := true, recurses := true, apart := false }
def OffsPutSaid : Prop := offsPutRow.holds Try.pinned (OpenSpec.ofChange offsPutSpec)

/-- ITS FALSE NEIGHBOUR: 'it returns false'. Refute it at one input. -/
def offsPutWrong : ChangeSpec := { name := "offsPut", fn := fun _ => fun
  | [d1, d2, d3] => { results := [.lit (.bool false)], args := [d1, d2, d3] }
  | _ => none }
def OffsPutWrongFalsely : Prop := offsPutRow.holds Try.pinned (OpenSpec.ofChange offsPutWrong)

/-- 'watermeetlaw24.OffsApart': WHATEVER THE INPUT: true; the input reads as it did. -/
def offsApartSpec : ChangeSpec := { name := "offsApart", fn := fun _ => fun
  | [d1, d2, d3, d4, d5] => { results := [.lit (.bool true)], args := [d1, d2, d3, d4, d5] }
  | _ => none }
def offsApartRow : OpenClaim := { program := "ytnkjkgakbgjddaa", sum := "98f411c9db4b09ebadd919d6d28c7a0e251e6dd19209c0be263fe6d8f375be64", func := "watermeet/watermeetlaw24.OffsApart", spec := "offsApart", inPlace := ["slices.overlaps[watermeet/api.Pos]", "internal/bytealg.abigen_runtime_cmpstring", "slices.overlaps[watermeet/api.Wait]"], unfollowed := true, recurses := true, apart := false }
def OffsApartSaid : Prop := offsApartRow.holds Try.pinned (OpenSpec.ofChange offsApartSpec)

/-- ITS FALSE NEIGHBOUR: 'it returns false'. Refute it at one input. -/
def offsApartWrong : ChangeSpec := { name := "offsApart", fn := fun _ => fun
  | [d1, d2, d3, d4, d5] => { results := [.lit (.bool false)], args := [d1, d2, d3, d4, d5] }
  | _ => none }
def OffsApartWrongFalsely : Prop := offsApartRow.holds Try.pinned (OpenSpec.ofChange offsApartWrong)

/-- 'watermeetlaw24.OffsLeast': WHATEVER THE INPUT: true; the input reads as it did. -/
def offsLeastSpec : ChangeSpec := { name := "offsLeast", fn := fun _ => fun
  | [d1, d2, d3, d4, d5] => { results := [.lit (.bool true)], args := [d1, d2, d3, d4, d5] }
  | _ => none }
def offsLeastRow : OpenClaim := { program := "ytnkjkgakbgjddaa", sum := "98f411c9db4b09ebadd919d6d28c7a0e251e6dd19209c0be263fe6d8f375be64", func := "watermeet/watermeetlaw24.OffsLeast", spec := "offsLeast", inPlace := ["slices.overlaps[watermeet/api.Pos]", "internal/bytealg.abigen_runtime_cmpstring", "slices.overlaps[watermeet/api.Wait]"], unfollowed := true, recurses := true, apart := false }
def OffsLeastSaid : Prop := offsLeastRow.holds Try.pinned (OpenSpec.ofChange offsLeastSpec)

/-- ITS FALSE NEIGHBOUR: 'it returns false'. Refute it at one input. -/
def offsLeastWrong : ChangeSpec := { name := "offsLeast", fn := fun _ => fun
  | [d1, d2, d3, d4, d5] => { results := [.lit (.bool false)], args := [d1, d2, d3, d4, d5] }
  | _ => none }
def OffsLeastWrongFalsely : Prop := offsLeastRow.holds Try.pinned (OpenSpec.ofChange offsLeastWrong)

/-- 'watermeetlaw24.OffsBack': WHATEVER THE INPUT: true; the input reads as it did. -/
def offsBackSpec : ChangeSpec := { name := "offsBack", fn := fun _ => fun
  | [d1, d2, d3, d4] => { results := [.lit (.bool true)], args := [d1, d2, d3, d4] }
  | _ => none }
def offsBackRow : OpenClaim := { program := "ytnkjkgakbgjddaa", sum := "98f411c9db4b09ebadd919d6d28c7a0e251e6dd19209c0be263fe6d8f375be64", func := "watermeet/watermeetlaw24.OffsBack", spec := "offsBack", inPlace := ["slices.overlaps[watermeet/api.Pos]", "internal/bytealg.abigen_runtime_cmpstring", "slices.overlaps[watermeet/api.Wait]"], unfollowed := true, recurses := true, apart := false }
def OffsBackSaid : Prop := offsBackRow.holds Try.pinned (OpenSpec.ofChange offsBackSpec)

/-- ITS FALSE NEIGHBOUR: 'it returns false'. Refute it at one input. -/
def offsBackWrong : ChangeSpec := { name := "offsBack", fn := fun _ => fun
  | [d1, d2, d3, d4] => { results := [.lit (.bool false)], args := [d1, d2, d3, d4] }
  | _ => none }
def OffsBackWrongFalsely : Prop := offsBackRow.holds Try.pinned (OpenSpec.ofChange offsBackWrong)

/- THE SECOND FORM. 'bulk': how many values and letters a reading holds, each counted each time it is reached (what is shared counts as often as it is met; a slice's spare places count too). A statement '..UptoSaid' is the law's where the arguments, and the package variables that the reading takes, are together of bulk at most 1048576: NARROWER than '..Said'. Prove '..Said' where nothing that the law and all that it calls make is longer than what came in: it says more and counts as full. Else prove '..UptoSaid'. A law counts once. -/
mutual
def uptoBulk {H : Type} : DataW H → Nat
  | .lit (.string bytes) => bytes.length + 1
  | .lit _ => 1
  | .nil => 1
  | .ptr d => uptoBulk d + 1
  | .slice elems spare => uptoBulkAll elems + uptoBulkAll spare + 1
  | .agg parts => uptoBulkAll parts + 1
  | .iface _ d => uptoBulk d + 1
  | .map entries => uptoBulkEntries entries + 1
  | .held _ => 1
def uptoBulkAll {H : Type} : List (DataW H) → Nat
  | [] => 0
  | d :: r => uptoBulk d + uptoBulkAll r
def uptoBulkEntries {H : Type} : List (Lit × DataW H) → Nat
  | [] => 0
  | x :: r => uptoBulkEntry x + uptoBulkEntries r
def uptoBulkEntry {H : Type} : Lit × DataW H → Nat
  | (.string bytes, d) => bytes.length + uptoBulk d + 1
  | (_, d) => uptoBulk d + 1
 end
def uptoSmall : (H : Type) → List (DataW H) → Bool := fun _ ds => decide (uptoBulkAll ds ≤ 1048576)
def OpenSpec.upto (s : _root_.Go.ChangeSpec) : _root_.Go.OpenSpec := { _root_.Go.OpenSpec.ofChange s with cond := some uptoSmall }

/-- 'watermeetlaw24.OffsSteps', WHERE WHAT IT READS IS OF BULK AT MOST 1048576: true; the input reads as it did. -/
def offsStepsUptoRow : OpenClaim := { program := "ytnkjkgakbgjddaa", sum := "98f411c9db4b09ebadd919d6d28c7a0e251e6dd19209c0be263fe6d8f375be64", func := "watermeet/watermeetlaw24.OffsSteps", spec := "offsSteps", inPlace := ["slices.overlaps[watermeet/api.Pos]", "internal/bytealg.abigen_runtime_cmpstring", "slices.overlaps[watermeet/api.Wait]"], unfollowed := true, recurses := true, apart := false, narrowed := true }
def OffsStepsUptoSaid : Prop := offsStepsUptoRow.holds Try.pinned (OpenSpec.upto offsStepsSpec)

/-- 'watermeetlaw24.OffsLooks', WHERE WHAT IT READS IS OF BULK AT MOST 1048576: true; the input reads as it did. -/
def offsLooksUptoRow : OpenClaim := { program := "ytnkjkgakbgjddaa", sum := "98f411c9db4b09ebadd919d6d28c7a0e251e6dd19209c0be263fe6d8f375be64", func := "watermeet/watermeetlaw24.OffsLooks", spec := "offsLooks", inPlace := ["slices.overlaps[watermeet/api.Pos]", "internal/bytealg.abigen_runtime_cmpstring", "slices.overlaps[watermeet/api.Wait]"], unfollowed := true, recurses := true, apart := false, narrowed := true }
def OffsLooksUptoSaid : Prop := offsLooksUptoRow.holds Try.pinned (OpenSpec.upto offsLooksSpec)

/-- 'watermeetlaw24.OffsBytes', WHERE WHAT IT READS IS OF BULK AT MOST 1048576: true; the input reads as it did. -/
def offsBytesUptoRow : OpenClaim := { program := "ytnkjkgakbgjddaa", sum := "98f411c9db4b09ebadd919d6d28c7a0e251e6dd19209c0be263fe6d8f375be64", func := "watermeet/watermeetlaw24.OffsBytes", spec := "offsBytes", inPlace := ["slices.overlaps[watermeet/api.Pos]", "internal/bytealg.abigen_runtime_cmpstring", "slices.overlaps[watermeet/api.Wait]"], unfollowed := true, recurses := true, apart := false, narrowed := true }
def OffsBytesUptoSaid : Prop := offsBytesUptoRow.holds Try.pinned (OpenSpec.upto offsBytesSpec)

/-- 'watermeetlaw24.OffsWhole', WHERE WHAT IT READS IS OF BULK AT MOST 1048576: true; the input reads as it did. -/
def offsWholeUptoRow : OpenClaim := { program := "ytnkjkgakbgjddaa", sum := "98f411c9db4b09ebadd919d6d28c7a0e251e6dd19209c0be263fe6d8f375be64", func := "watermeet/watermeetlaw24.OffsWhole", spec := "offsWhole", inPlace := ["slices.overlaps[watermeet/api.Pos]", "internal/bytealg.abigen_runtime_cmpstring", "slices.overlaps[watermeet/api.Wait]"], unfollowed := true, recurses := true, apart := false, narrowed := true }
def OffsWholeUptoSaid : Prop := offsWholeUptoRow.holds Try.pinned (OpenSpec.upto offsWholeSpec)

/-- 'watermeetlaw24.OffsPut', WHERE WHAT IT READS IS OF BULK AT MOST 1048576: true; the input reads as it did. -/
def offsPutUptoRow : OpenClaim := { program := "ytnkjkgakbgjddaa", sum := "98f411c9db4b09ebadd919d6d28c7a0e251e6dd19209c0be263fe6d8f375be64", func := "watermeet/watermeetlaw24.OffsPut", spec := "offsPut", inPlace := ["slices.overlaps[watermeet/api.Pos]", "internal/bytealg.abigen_runtime_cmpstring", "slices.overlaps[watermeet/api.Wait]"], unfollowed := true, recurses := true, apart := false, narrowed := true }
def OffsPutUptoSaid : Prop := offsPutUptoRow.holds Try.pinned (OpenSpec.upto offsPutSpec)

/-- 'watermeetlaw24.OffsApart', WHERE WHAT IT READS IS OF BULK AT MOST 1048576: true; the input reads as it did. -/
def offsApartUptoRow : OpenClaim := { program := "ytnkjkgakbgjddaa", sum := "98f411c9db4b09ebadd919d6d28c7a0e251e6dd19209c0be263fe6d8f375be64", func := "watermeet/watermeetlaw24.OffsApart", spec := "offsApart", inPlace := ["slices.overlaps[watermeet/api.Pos]", "internal/bytealg.abigen_runtime_cmpstring", "slices.overlaps[watermeet/api.Wait]"], unfollowed := true, recurses := true, apart := false, narrowed := true }
def OffsApartUptoSaid : Prop := offsApartUptoRow.holds Try.pinned (OpenSpec.upto offsApartSpec)

/-- 'watermeetlaw24.OffsLeast', WHERE WHAT IT READS IS OF BULK AT MOST 1048576: true; the input reads as it did. -/
def offsLeastUptoRow : OpenClaim := { program := "ytnkjkgakbgjddaa", sum := "98f411c9db4b09ebadd919d6d28c7a0e251e6dd19209c0be263fe6d8f375be64", func := "watermeet/watermeetlaw24.OffsLeast", spec := "offsLeast", inPlace := ["slices.overlaps[watermeet/api.Pos]", "internal/bytealg.abigen_runtime_cmpstring", "slices.overlaps[watermeet/api.Wait]"], unfollowed := true, recurses := true, apart := false, narrowed := true }
def OffsLeastUptoSaid : Prop := offsLeastUptoRow.holds Try.pinned (OpenSpec.upto offsLeastSpec)

/-- 'watermeetlaw24.OffsBack', WHERE WHAT IT READS IS OF BULK AT MOST 1048576: true; the input reads as it did. -/
def offsBackUptoRow : OpenClaim := { program := "ytnkjkgakbgjddaa", sum := "98f411c9db4b09ebadd919d6d28c7a0e251e6dd19209c0be263fe6d8f375be64", func := "watermeet/watermeetlaw24.OffsBack", spec := "offsBack", inPlace := ["slices.overlaps[watermeet/api.Pos]", "internal/bytealg.abigen_runtime_cmpstring", "slices.overlaps[watermeet/api.Wait]"], unfollowed := true, recurses := true, apart := false, narrowed := true }
def OffsBackUptoSaid : Prop := offsBackUptoRow.holds Try.pinned (OpenSpec.upto offsBackSpec)

end Rows
end Go.Proofs.Ytnkjkgakbgjddaa
