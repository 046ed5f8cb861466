/-
  No cell of these rows narrows 'for every input' (looked for: loops, veiled, ifaces, maps, wideKeys, modest, calm, conditions, laid).
  DERIVED. THE GIVEN ROWS OF THIS SEAT. 8 by the template 'for every input the law returns true; each argument reads behind the call as it read before'; 0 by the template 'total and deterministic' (their statements: YtmlgahambecamaaTotals.lean).
  GIVEN WITH THE SEED: the statements are not yours to turn. If you find one false, say at which input.
  Laid BY PROGRAM, IN A SANDBOX (cutbox-rows.mjs): the forced cells as the released guide's own fill.sh prints them over the translation 6d06c4e3d9a6bfa3… (all of the seat's roots in one cut). By AI agents, Wed Nov 11 2026. No macro, syntax, notation, axiom, sorry.
-/
import Derived.Test.YtmlgahambecamaaChecked
import GoSem.Claim
import GoSem.ClaimJoined
import GoSem.ClaimMapViews
import Derived.JoinedTies
import Derived.KernelRfl
namespace Go.Proofs.Ytmlgahambecamaa
/- THE CELL 'sum', in the pinned program and in every row, IS THE sha256 OF THE DUMP (.gsa) THAT YtmlgahambecamaaProg.lean LOADS. Nothing in Lean hashes anything: it is a label: what it is worth is what the hold of that sum in a sandbox is worth. -/
noncomputable def Try.pinned : Pinned := { name := "ytmlgahambecamaa", sum := "6d06c4e3d9a6bfa3fb8fdc469d1988dc065d4fdb92bcb9730cb49a1dca226c52", checked := Try.checked }
namespace Rows
def none {H : Type} : Left H := { results := [], args := [] }

/-- 'watermeetlaw30.NetLooks': WHATEVER THE INPUT: true; the input reads as it did. -/
def netLooksSpec : ChangeSpec := { name := "netLooks", fn := fun _ => fun
  | [d1, d2, d3, d4] => { results := [.lit (.bool true)], args := [d1, d2, d3, d4] }
  | _ => none }
def netLooksRow : OpenClaim := { program := "ytmlgahambecamaa", sum := "6d06c4e3d9a6bfa3fb8fdc469d1988dc065d4fdb92bcb9730cb49a1dca226c52", func := "watermeet/watermeetlaw30.NetLooks", spec := "netLooks", inPlace := ["slices.overlaps[watermeet/api.Msg]"], unfollowed := true, recurses := true, apart := false }
def NetLooksSaid : Prop := netLooksRow.holds Try.pinned (OpenSpec.ofChange netLooksSpec)

/-- ITS FALSE NEIGHBOUR: 'it returns false'. Refute it at one input. -/
def netLooksWrong : ChangeSpec := { name := "netLooks", fn := fun _ => fun
  | [d1, d2, d3, d4] => { results := [.lit (.bool false)], args := [d1, d2, d3, d4] }
  | _ => none }
def NetLooksWrongFalsely : Prop := netLooksRow.holds Try.pinned (OpenSpec.ofChange netLooksWrong)

/-- 'watermeetlaw30.NetSends': WHATEVER THE INPUT: true; the input reads as it did. -/
def netSendsSpec : ChangeSpec := { name := "netSends", fn := fun _ => fun
  | [d1, d2, d3, d4, d5] => { results := [.lit (.bool true)], args := [d1, d2, d3, d4, d5] }
  | _ => none }
def netSendsRow : OpenClaim := { program := "ytmlgahambecamaa", sum := "6d06c4e3d9a6bfa3fb8fdc469d1988dc065d4fdb92bcb9730cb49a1dca226c52", func := "watermeet/watermeetlaw30.NetSends", spec := "netSends", inPlace := ["slices.overlaps[watermeet/api.Msg]"], unfollowed := true, recurses := true, apart := false }
def NetSendsSaid : Prop := netSendsRow.holds Try.pinned (OpenSpec.ofChange netSendsSpec)

/-- ITS FALSE NEIGHBOUR: 'it returns false'. Refute it at one input. -/
def netSendsWrong : ChangeSpec := { name := "netSends", fn := fun _ => fun
  | [d1, d2, d3, d4, d5] => { results := [.lit (.bool false)], args := [d1, d2, d3, d4, d5] }
  | _ => none }
def NetSendsWrongFalsely : Prop := netSendsRow.holds Try.pinned (OpenSpec.ofChange netSendsWrong)

/-- 'watermeetlaw30.NetTicks': WHATEVER THE INPUT: true; the input reads as it did. -/
def netTicksSpec : ChangeSpec := { name := "netTicks", fn := fun _ => fun
  | [d1, d2] => { results := [.lit (.bool true)], args := [d1, d2] }
  | _ => none }
def netTicksRow : OpenClaim := { program := "ytmlgahambecamaa", sum := "6d06c4e3d9a6bfa3fb8fdc469d1988dc065d4fdb92bcb9730cb49a1dca226c52", func := "watermeet/watermeetlaw30.NetTicks", spec := "netTicks", inPlace := ["slices.overlaps[watermeet/api.Msg]"], unfollowed := true, recurses := true, apart := false }
def NetTicksSaid : Prop := netTicksRow.holds Try.pinned (OpenSpec.ofChange netTicksSpec)

/-- ITS FALSE NEIGHBOUR: 'it returns false'. Refute it at one input. -/
def netTicksWrong : ChangeSpec := { name := "netTicks", fn := fun _ => fun
  | [d1, d2] => { results := [.lit (.bool false)], args := [d1, d2] }
  | _ => none }
def NetTicksWrongFalsely : Prop := netTicksRow.holds Try.pinned (OpenSpec.ofChange netTicksWrong)

/-- 'watermeetlaw30.NetHalves': WHATEVER THE INPUT: true; the input reads as it did. -/
def netHalvesSpec : ChangeSpec := { name := "netHalves", fn := fun _ => fun
  | [d1, d2, d3] => { results := [.lit (.bool true)], args := [d1, d2, d3] }
  | _ => none }
def netHalvesRow : OpenClaim := { program := "ytmlgahambecamaa", sum := "6d06c4e3d9a6bfa3fb8fdc469d1988dc065d4fdb92bcb9730cb49a1dca226c52", func := "watermeet/watermeetlaw30.NetHalves", spec := "netHalves", inPlace := ["slices.overlaps[watermeet/api.Msg]"], unfollowed := true, recurses := true, apart := false }
def NetHalvesSaid : Prop := netHalvesRow.holds Try.pinned (OpenSpec.ofChange netHalvesSpec)

/-- ITS FALSE NEIGHBOUR: 'it returns false'. Refute it at one input. -/
def netHalvesWrong : ChangeSpec := { name := "netHalves", fn := fun _ => fun
  | [d1, d2, d3] => { results := [.lit (.bool false)], args := [d1, d2, d3] }
  | _ => none }
def NetHalvesWrongFalsely : Prop := netHalvesRow.holds Try.pinned (OpenSpec.ofChange netHalvesWrong)

/-- 'watermeetlaw30.NetClocks': WHATEVER THE INPUT: true; the input reads as it did. -/
def netClocksSpec : ChangeSpec := { name := "netClocks", fn := fun _ => fun
  | [d1, d2, d3, d4] => { results := [.lit (.bool true)], args := [d1, d2, d3, d4] }
  | _ => none }
def netClocksRow : OpenClaim := { program := "ytmlgahambecamaa", sum := "6d06c4e3d9a6bfa3fb8fdc469d1988dc065d4fdb92bcb9730cb49a1dca226c52", func := "watermeet/watermeetlaw30.NetClocks", spec := "netClocks", inPlace := ["slices.overlaps[watermeet/api.Msg]"], unfollowed := true, recurses := true, apart := false }
def NetClocksSaid : Prop := netClocksRow.holds Try.pinned (OpenSpec.ofChange netClocksSpec)

/-- ITS FALSE NEIGHBOUR: 'it returns false'. Refute it at one input. -/
def netClocksWrong : ChangeSpec := { name := "netClocks", fn := fun _ => fun
  | [d1, d2, d3, d4] => { results := [.lit (.bool false)], args := [d1, d2, d3, d4] }
  | _ => none }
def NetClocksWrongFalsely : Prop := netClocksRow.holds Try.pinned (OpenSpec.ofChange netClocksWrong)

/-- 'watermeetlaw30.NetFair': WHATEVER THE INPUT: true; the input reads as it did. -/
def netFairSpec : ChangeSpec := { name := "netFair", fn := fun _ => fun
  | [d1, d2, d3, d4] => { results := [.lit (.bool true)], args := [d1, d2, d3, d4] }
  | _ => none }
def netFairRow : OpenClaim := { program := "ytmlgahambecamaa", sum := "6d06c4e3d9a6bfa3fb8fdc469d1988dc065d4fdb92bcb9730cb49a1dca226c52", func := "watermeet/watermeetlaw30.NetFair", spec := "netFair", inPlace := ["slices.overlaps[watermeet/api.Msg]", "slices.overlaps[[2]int]"], unfollowed := true, recurses := true, apart := false }
def NetFairSaid : Prop := netFairRow.holds Try.pinned (OpenSpec.ofChange netFairSpec)

/-- ITS FALSE NEIGHBOUR: 'it returns false'. Refute it at one input. -/
def netFairWrong : ChangeSpec := { name := "netFair", fn := fun _ => fun
  | [d1, d2, d3, d4] => { results := [.lit (.bool false)], args := [d1, d2, d3, d4] }
  | _ => none }
def NetFairWrongFalsely : Prop := netFairRow.holds Try.pinned (OpenSpec.ofChange netFairWrong)

/-- 'watermeetlaw30.NetSplit': WHATEVER THE INPUT: true; the input reads as it did. -/
def netSplitSpec : ChangeSpec := { name := "netSplit", fn := fun _ => fun
  | [d1, d2, d3, d4, d5, d6] => { results := [.lit (.bool true)], args := [d1, d2, d3, d4, d5, d6] }
  | _ => none }
def netSplitRow : OpenClaim := { program := "ytmlgahambecamaa", sum := "6d06c4e3d9a6bfa3fb8fdc469d1988dc065d4fdb92bcb9730cb49a1dca226c52", func := "watermeet/watermeetlaw30.NetSplit", spec := "netSplit", inPlace := ["slices.overlaps[watermeet/api.Msg]", "slices.overlaps[[2]int]"], unfollowed := true, recurses := true, apart := false }
def NetSplitSaid : Prop := netSplitRow.holds Try.pinned (OpenSpec.ofChange netSplitSpec)

/-- ITS FALSE NEIGHBOUR: 'it returns false'. Refute it at one input. -/
def netSplitWrong : ChangeSpec := { name := "netSplit", fn := fun _ => fun
  | [d1, d2, d3, d4, d5, d6] => { results := [.lit (.bool false)], args := [d1, d2, d3, d4, d5, d6] }
  | _ => none }
def NetSplitWrongFalsely : Prop := netSplitRow.holds Try.pinned (OpenSpec.ofChange netSplitWrong)

/-- 'watermeetlaw30.NetWays': WHATEVER THE INPUT: true; the input reads as it did. -/
def netWaysSpec : ChangeSpec := { name := "netWays", fn := fun _ => fun
  | [d1, d2, d3] => { results := [.lit (.bool true)], args := [d1, d2, d3] }
  | _ => none }
def netWaysRow : OpenClaim := { program := "ytmlgahambecamaa", sum := "6d06c4e3d9a6bfa3fb8fdc469d1988dc065d4fdb92bcb9730cb49a1dca226c52", func := "watermeet/watermeetlaw30.NetWays", spec := "netWays", inPlace := ["slices.overlaps[watermeet/api.Msg]", "slices.overlaps[[2]int]"], unfollowed := true, recurses := true, apart := false }
def NetWaysSaid : Prop := netWaysRow.holds Try.pinned (OpenSpec.ofChange netWaysSpec)

/-- ITS FALSE NEIGHBOUR: 'it returns false'. Refute it at one input. -/
def netWaysWrong : ChangeSpec := { name := "netWays", fn := fun _ => fun
  | [d1, d2, d3] => { results := [.lit (.bool false)], args := [d1, d2, d3] }
  | _ => none }
def NetWaysWrongFalsely : Prop := netWaysRow.holds Try.pinned (OpenSpec.ofChange netWaysWrong)

/- THE SECOND FORM. 'bulk': how many values and letters a reading holds, each counted each time it is reached (what is shared counts as often as it is met; a slice's spare places count too). A statement '..UptoSaid' is the law's where the arguments, and the package variables that the reading takes, are together of bulk at most 1048576: NARROWER than '..Said'. Prove '..Said' where nothing that the law and all that it calls make is longer than what came in: it says more and counts as full. Else prove '..UptoSaid'. A law counts once. -/
mutual
def uptoBulk {H : Type} : DataW H → Nat
  | .lit (.string bytes) => bytes.length + 1
  | .lit _ => 1
  | .nil => 1
  | .ptr d => uptoBulk d + 1
  | .slice elems spare => uptoBulkAll elems + uptoBulkAll spare + 1
  | .agg parts => uptoBulkAll parts + 1
  | .iface _ d => uptoBulk d + 1
  | .map entries => uptoBulkEntries entries + 1
  | .held _ => 1
def uptoBulkAll {H : Type} : List (DataW H) → Nat
  | [] => 0
  | d :: r => uptoBulk d + uptoBulkAll r
def uptoBulkEntries {H : Type} : List (Lit × DataW H) → Nat
  | [] => 0
  | x :: r => uptoBulkEntry x + uptoBulkEntries r
def uptoBulkEntry {H : Type} : Lit × DataW H → Nat
  | (.string bytes, d) => bytes.length + uptoBulk d + 1
  | (_, d) => uptoBulk d + 1
 end
def uptoSmall : (H : Type) → List (DataW H) → Bool := fun _ ds => decide (uptoBulkAll ds ≤ 1048576)
def OpenSpec.upto (s : _root_.Go.ChangeSpec) : _root_.Go.OpenSpec := { _root_.Go.OpenSpec.ofChange s with cond := some uptoSmall }

/-- 'watermeetlaw30.NetLooks', WHERE WHAT IT READS IS OF BULK AT MOST 1048576: true; the input reads as it did. -/
def netLooksUptoRow : OpenClaim := { program := "ytmlgahambecamaa", sum := "6d06c4e3d9a6bfa3fb8fdc469d1988dc065d4fdb92bcb9730cb49a1dca226c52", func := "watermeet/watermeetlaw30.NetLooks", spec := "netLooks", inPlace := ["slices.overlaps[watermeet/api.Msg]"], unfollowed := true, recurses := true, apart := false, narrowed := true }
def NetLooksUptoSaid : Prop := netLooksUptoRow.holds Try.pinned (OpenSpec.upto netLooksSpec)

/-- 'watermeetlaw30.NetSends', WHERE WHAT IT READS IS OF BULK AT MOST 1048576: true; the input reads as it did. -/
def netSendsUptoRow : OpenClaim := { program := "ytmlgahambecamaa", sum := "6d06c4e3d9a6bfa3fb8fdc469d1988dc065d4fdb92bcb9730cb49a1dca226c52", func := "watermeet/watermeetlaw30.NetSends", spec := "netSends", inPlace := ["slices.overlaps[watermeet/api.Msg]"], unfollowed := true, recurses := true, apart := false, narrowed := true }
def NetSendsUptoSaid : Prop := netSendsUptoRow.holds Try.pinned (OpenSpec.upto netSendsSpec)

/-- 'watermeetlaw30.NetTicks', WHERE WHAT IT READS IS OF BULK AT MOST 1048576: true; the input reads as it did. -/
def netTicksUptoRow : OpenClaim := { program := "ytmlgahambecamaa", sum := "6d06c4e3d9a6bfa3fb8fdc469d1988dc065d4fdb92bcb9730cb49a1dca226c52", func := "watermeet/watermeetlaw30.NetTicks", spec := "netTicks", inPlace := ["slices.overlaps[watermeet/api.Msg]"], unfollowed := true, recurses := true, apart := false, narrowed := true }
def NetTicksUptoSaid : Prop := netTicksUptoRow.holds Try.pinned (OpenSpec.upto netTicksSpec)

/-- 'watermeetlaw30.NetHalves', WHERE WHAT IT READS IS OF BULK AT MOST 1048576: true; the input reads as it did. -/
def netHalvesUptoRow : OpenClaim := { program := "ytmlgahambecamaa", sum := "6d06c4e3d9a6bfa3fb8fdc469d1988dc065d4fdb92bcb9730cb49a1dca226c52", func := "watermeet/watermeetlaw30.NetHalves", spec := "netHalves", inPlace := ["slices.overlaps[watermeet/api.Msg]"], unfollowed := true, recurses := true, apart := false, narrowed := true }
def NetHalvesUptoSaid : Prop := netHalvesUptoRow.holds Try.pinned (OpenSpec.upto netHalvesSpec)

/-- 'watermeetlaw30.NetClocks', WHERE WHAT IT READS IS OF BULK AT MOST 1048576: true; the input reads as it did. -/
def netClocksUptoRow : OpenClaim := { program := "ytmlgahambecamaa", sum := "6d06c4e3d9a6bfa3fb8fdc469d1988dc065d4fdb92bcb9730cb49a1dca226c52", func := "watermeet/watermeetlaw30.NetClocks", spec := "netClocks", inPlace := ["slices.overlaps[watermeet/api.Msg]"], unfollowed := true, recurses := true, apart := false, narrowed := true }
def NetClocksUptoSaid : Prop := netClocksUptoRow.holds Try.pinned (OpenSpec.upto netClocksSpec)

/-- 'watermeetlaw30.NetFair', WHERE WHAT IT READS IS OF BULK AT MOST 1048576: true; the input reads as it did. -/
def netFairUptoRow : OpenClaim := { program := "ytmlgahambecamaa", sum := "6d06c4e3d9a6bfa3fb8fdc469d1988dc065d4fdb92bcb9730cb49a1dca226c52", func := "watermeet/watermeetlaw30.NetFair", spec := "netFair", inPlace := ["slices.overlaps[watermeet/api.Msg]", "slices.overlaps[[2]int]"], unfollowed := true, recurses := true, apart := false, narrowed := true }
def NetFairUptoSaid : Prop := netFairUptoRow.holds Try.pinned (OpenSpec.upto netFairSpec)

/-- 'watermeetlaw30.NetSplit', WHERE WHAT IT READS IS OF BULK AT MOST 1048576: true; the input reads as it did. -/
def netSplitUptoRow : OpenClaim := { program := "ytmlgahambecamaa", sum := "6d06c4e3d9a6bfa3fb8fdc469d1988dc065d4fdb92bcb9730cb49a1dca226c52", func := "watermeet/watermeetlaw30.NetSplit", spec := "netSplit", inPlace := ["slices.overlaps[watermeet/api.Msg]", "slices.overlaps[[2]int]"], unfollowed := true, recurses := true, apart := false, narrowed := true }
def NetSplitUptoSaid : Prop := netSplitUptoRow.holds Try.pinned (OpenSpec.upto netSplitSpec)

/-- 'watermeetlaw30.NetWays', WHERE WHAT IT READS IS OF BULK AT MOST 1048576: true; the input reads as it did. -/
def netWaysUptoRow : OpenClaim := { program := "ytmlgahambecamaa", sum := "6d06c4e3d9a6bfa3fb8fdc469d1988dc065d4fdb92bcb9730cb49a1dca226c52", func := "watermeet/watermeetlaw30.NetWays", spec := "netWays", inPlace := ["slices.overlaps[watermeet/api.Msg]", "slices.overlaps[[2]int]"], unfollowed := true, recurses := true, apart := false, narrowed := true }
def NetWaysUptoSaid : Prop := netWaysUptoRow.holds Try.pinned (OpenSpec.upto netWaysSpec)

end Rows
end Go.Proofs.Ytmlgahambecamaa
