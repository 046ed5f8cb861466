/-
  No cell of these rows narrows 'for every input' (looked for: loops, veiled, ifaces, maps, wideKeys, modest, calm, conditions, laid).
  DERIVED. THE GIVEN ROWS OF THIS SEAT. 8 by the template 'for every input the law returns true; each argument reads behind the call as it read before'; 0 by the template 'total and deterministic' (their statements: YthjohjijcgiogaaTotals.lean).
  GIVEN WITH THE SEED: the statements are not yours to turn. If you find one false, say at which input.
  Laid BY PROGRAM, IN A SANDBOX (cutbox-rows.mjs): the forced cells as the released guide's own fill.sh prints them over the translation 6631fcac5ea37393… (all of the seat's roots in one cut). By AI agents, Wed Nov 11 2026. No macro, syntax, notation, axiom, sorry.
-/
import Derived.Test.YthjohjijcgiogaaChecked
import GoSem.Claim
import GoSem.ClaimJoined
import GoSem.ClaimMapViews
import Derived.JoinedTies
import Derived.KernelRfl
namespace Go.Proofs.Ythjohjijcgiogaa
/- THE CELL 'sum', in the pinned program and in every row, IS THE sha256 OF THE DUMP (.gsa) THAT YthjohjijcgiogaaProg.lean LOADS. Nothing in Lean hashes anything: it is a label: what it is worth is what the hold of that sum in a sandbox is worth. -/
noncomputable def Try.pinned : Pinned := { name := "ythjohjijcgiogaa", sum := "6631fcac5ea3739316bdd2cf71e9a951bfff82ca0a93afae335ff66aa9a869d7", checked := Try.checked }
namespace Rows
def none {H : Type} : Left H := { results := [], args := [] }

/-- 'watermeetlaw16.CacheLooks': WHATEVER THE INPUT: true; the input reads as it did. -/
def cacheLooksSpec : ChangeSpec := { name := "cacheLooks", fn := fun _ => fun
  | [d1, d2] => { results := [.lit (.bool true)], args := [d1, d2] }
  | _ => none }
def cacheLooksRow : OpenClaim := { program := "ythjohjijcgiogaa", sum := "6631fcac5ea3739316bdd2cf71e9a951bfff82ca0a93afae335ff66aa9a869d7", func := "watermeet/watermeetlaw16.CacheLooks", spec := "cacheLooks", inPlace := ["slices.overlaps[watermeet/api.Hold]"], unfollowed := true, recurses := true, plainKeys := false, apart := false }
def CacheLooksSaid : Prop := cacheLooksRow.holds Try.pinned (OpenSpec.ofChange cacheLooksSpec)

/-- ITS FALSE NEIGHBOUR: 'it returns false'. Refute it at one input. -/
def cacheLooksWrong : ChangeSpec := { name := "cacheLooks", fn := fun _ => fun
  | [d1, d2] => { results := [.lit (.bool false)], args := [d1, d2] }
  | _ => none }
def CacheLooksWrongFalsely : Prop := cacheLooksRow.holds Try.pinned (OpenSpec.ofChange cacheLooksWrong)

/-- 'watermeetlaw16.CacheLeast': WHATEVER THE INPUT: true; the input reads as it did. -/
def cacheLeastSpec : ChangeSpec := { name := "cacheLeast", fn := fun _ => fun
  | [d1, d2, d3, d4] => { results := [.lit (.bool true)], args := [d1, d2, d3, d4] }
  | _ => none }
def cacheLeastRow : OpenClaim := { program := "ythjohjijcgiogaa", sum := "6631fcac5ea3739316bdd2cf71e9a951bfff82ca0a93afae335ff66aa9a869d7", func := "watermeet/watermeetlaw16.CacheLeast", spec := "cacheLeast", inPlace := ["slices.overlaps[watermeet/api.Hold]"], unfollowed := true, recurses := true, plainKeys := false, apart := false }
def CacheLeastSaid : Prop := cacheLeastRow.holds Try.pinned (OpenSpec.ofChange cacheLeastSpec)

/-- ITS FALSE NEIGHBOUR: 'it returns false'. Refute it at one input. -/
def cacheLeastWrong : ChangeSpec := { name := "cacheLeast", fn := fun _ => fun
  | [d1, d2, d3, d4] => { results := [.lit (.bool false)], args := [d1, d2, d3, d4] }
  | _ => none }
def CacheLeastWrongFalsely : Prop := cacheLeastRow.holds Try.pinned (OpenSpec.ofChange cacheLeastWrong)

/-- 'watermeetlaw16.CacheThere': WHATEVER THE INPUT: true; the input reads as it did. -/
def cacheThereSpec : ChangeSpec := { name := "cacheThere", fn := fun _ => fun
  | [d1, d2, d3, d4] => { results := [.lit (.bool true)], args := [d1, d2, d3, d4] }
  | _ => none }
def cacheThereRow : OpenClaim := { program := "ythjohjijcgiogaa", sum := "6631fcac5ea3739316bdd2cf71e9a951bfff82ca0a93afae335ff66aa9a869d7", func := "watermeet/watermeetlaw16.CacheThere", spec := "cacheThere", inPlace := ["slices.overlaps[watermeet/api.Hold]"], unfollowed := true, recurses := true, plainKeys := false, apart := false }
def CacheThereSaid : Prop := cacheThereRow.holds Try.pinned (OpenSpec.ofChange cacheThereSpec)

/-- ITS FALSE NEIGHBOUR: 'it returns false'. Refute it at one input. -/
def cacheThereWrong : ChangeSpec := { name := "cacheThere", fn := fun _ => fun
  | [d1, d2, d3, d4] => { results := [.lit (.bool false)], args := [d1, d2, d3, d4] }
  | _ => none }
def CacheThereWrongFalsely : Prop := cacheThereRow.holds Try.pinned (OpenSpec.ofChange cacheThereWrong)

/-- 'watermeetlaw16.CacheDoes': WHATEVER THE INPUT: true; the input reads as it did. -/
def cacheDoesSpec : ChangeSpec := { name := "cacheDoes", fn := fun _ => fun
  | [d1, d2, d3, d4] => { results := [.lit (.bool true)], args := [d1, d2, d3, d4] }
  | _ => none }
def cacheDoesRow : OpenClaim := { program := "ythjohjijcgiogaa", sum := "6631fcac5ea3739316bdd2cf71e9a951bfff82ca0a93afae335ff66aa9a869d7", func := "watermeet/watermeetlaw16.CacheDoes", spec := "cacheDoes", inPlace := ["slices.overlaps[watermeet/api.Hold]"], unfollowed := true, recurses := true, plainKeys := false, apart := false }
def CacheDoesSaid : Prop := cacheDoesRow.holds Try.pinned (OpenSpec.ofChange cacheDoesSpec)

/-- ITS FALSE NEIGHBOUR: 'it returns false'. Refute it at one input. -/
def cacheDoesWrong : ChangeSpec := { name := "cacheDoes", fn := fun _ => fun
  | [d1, d2, d3, d4] => { results := [.lit (.bool false)], args := [d1, d2, d3, d4] }
  | _ => none }
def CacheDoesWrongFalsely : Prop := cacheDoesRow.holds Try.pinned (OpenSpec.ofChange cacheDoesWrong)

/-- 'watermeetlaw16.CacheFaith': WHATEVER THE INPUT: true; the input reads as it did. -/
def cacheFaithSpec : ChangeSpec := { name := "cacheFaith", fn := fun _ => fun
  | [d1, d2] => { results := [.lit (.bool true)], args := [d1, d2] }
  | _ => none }
def cacheFaithRow : OpenClaim := { program := "ythjohjijcgiogaa", sum := "6631fcac5ea3739316bdd2cf71e9a951bfff82ca0a93afae335ff66aa9a869d7", func := "watermeet/watermeetlaw16.CacheFaith", spec := "cacheFaith", inPlace := ["slices.overlaps[watermeet/api.Hold]"], unfollowed := true, recurses := true, plainKeys := false, apart := false }
def CacheFaithSaid : Prop := cacheFaithRow.holds Try.pinned (OpenSpec.ofChange cacheFaithSpec)

/-- ITS FALSE NEIGHBOUR: 'it returns false'. Refute it at one input. -/
def cacheFaithWrong : ChangeSpec := { name := "cacheFaith", fn := fun _ => fun
  | [d1, d2] => { results := [.lit (.bool false)], args := [d1, d2] }
  | _ => none }
def CacheFaithWrongFalsely : Prop := cacheFaithRow.holds Try.pinned (OpenSpec.ofChange cacheFaithWrong)

/-- 'watermeetlaw16.CacheUse': WHATEVER THE INPUT: true; the input reads as it did. -/
def cacheUseSpec : ChangeSpec := { name := "cacheUse", fn := fun _ => fun
  | [d1, d2, d3] => { results := [.lit (.bool true)], args := [d1, d2, d3] }
  | _ => none }
def cacheUseRow : OpenClaim := { program := "ythjohjijcgiogaa", sum := "6631fcac5ea3739316bdd2cf71e9a951bfff82ca0a93afae335ff66aa9a869d7", func := "watermeet/watermeetlaw16.CacheUse", spec := "cacheUse", inPlace := ["slices.overlaps[watermeet/api.Hold]"], unfollowed := true, recurses := true, plainKeys := false, apart := false }
def CacheUseSaid : Prop := cacheUseRow.holds Try.pinned (OpenSpec.ofChange cacheUseSpec)

/-- ITS FALSE NEIGHBOUR: 'it returns false'. Refute it at one input. -/
def cacheUseWrong : ChangeSpec := { name := "cacheUse", fn := fun _ => fun
  | [d1, d2, d3] => { results := [.lit (.bool false)], args := [d1, d2, d3] }
  | _ => none }
def CacheUseWrongFalsely : Prop := cacheUseRow.holds Try.pinned (OpenSpec.ofChange cacheUseWrong)

/-- 'watermeetlaw16.CacheCuts': WHATEVER THE INPUT: true; the input reads as it did. -/
def cacheCutsSpec : ChangeSpec := { name := "cacheCuts", fn := fun _ => fun
  | [d1, d2, d3] => { results := [.lit (.bool true)], args := [d1, d2, d3] }
  | _ => none }
def cacheCutsRow : OpenClaim := { program := "ythjohjijcgiogaa", sum := "6631fcac5ea3739316bdd2cf71e9a951bfff82ca0a93afae335ff66aa9a869d7", func := "watermeet/watermeetlaw16.CacheCuts", spec := "cacheCuts", inPlace := ["slices.overlaps[watermeet/api.Hold]"], unfollowed := true, recurses := true, plainKeys := false, apart := false }
def CacheCutsSaid : Prop := cacheCutsRow.holds Try.pinned (OpenSpec.ofChange cacheCutsSpec)

/-- ITS FALSE NEIGHBOUR: 'it returns false'. Refute it at one input. -/
def cacheCutsWrong : ChangeSpec := { name := "cacheCuts", fn := fun _ => fun
  | [d1, d2, d3] => { results := [.lit (.bool false)], args := [d1, d2, d3] }
  | _ => none }
def CacheCutsWrongFalsely : Prop := cacheCutsRow.holds Try.pinned (OpenSpec.ofChange cacheCutsWrong)

/-- 'watermeetlaw16.CacheWhole': WHATEVER THE INPUT: true; the input reads as it did. -/
def cacheWholeSpec : ChangeSpec := { name := "cacheWhole", fn := fun _ => fun
  | [d1, d2] => { results := [.lit (.bool true)], args := [d1, d2] }
  | _ => none }
def cacheWholeRow : OpenClaim := { program := "ythjohjijcgiogaa", sum := "6631fcac5ea3739316bdd2cf71e9a951bfff82ca0a93afae335ff66aa9a869d7", func := "watermeet/watermeetlaw16.CacheWhole", spec := "cacheWhole", inPlace := ["slices.overlaps[watermeet/api.Hold]"], unfollowed := true, recurses := true, plainKeys := false, apart := false }
def CacheWholeSaid : Prop := cacheWholeRow.holds Try.pinned (OpenSpec.ofChange cacheWholeSpec)

/-- ITS FALSE NEIGHBOUR: 'it returns false'. Refute it at one input. -/
def cacheWholeWrong : ChangeSpec := { name := "cacheWhole", fn := fun _ => fun
  | [d1, d2] => { results := [.lit (.bool false)], args := [d1, d2] }
  | _ => none }
def CacheWholeWrongFalsely : Prop := cacheWholeRow.holds Try.pinned (OpenSpec.ofChange cacheWholeWrong)

/- THE SECOND FORM. 'bulk': how many values and letters a reading holds, each counted each time it is reached (what is shared counts as often as it is met; a slice's spare places count too). A statement '..UptoSaid' is the law's where the arguments, and the package variables that the reading takes, are together of bulk at most 1048576: NARROWER than '..Said'. Prove '..Said' where nothing that the law and all that it calls make is longer than what came in: it says more and counts as full. Else prove '..UptoSaid'. A law counts once. -/
mutual
def uptoBulk {H : Type} : DataW H → Nat
  | .lit (.string bytes) => bytes.length + 1
  | .lit _ => 1
  | .nil => 1
  | .ptr d => uptoBulk d + 1
  | .slice elems spare => uptoBulkAll elems + uptoBulkAll spare + 1
  | .agg parts => uptoBulkAll parts + 1
  | .iface _ d => uptoBulk d + 1
  | .map entries => uptoBulkEntries entries + 1
  | .held _ => 1
def uptoBulkAll {H : Type} : List (DataW H) → Nat
  | [] => 0
  | d :: r => uptoBulk d + uptoBulkAll r
def uptoBulkEntries {H : Type} : List (Lit × DataW H) → Nat
  | [] => 0
  | x :: r => uptoBulkEntry x + uptoBulkEntries r
def uptoBulkEntry {H : Type} : Lit × DataW H → Nat
  | (.string bytes, d) => bytes.length + uptoBulk d + 1
  | (_, d) => uptoBulk d + 1
 end
def uptoSmall : (H : Type) → List (DataW H) → Bool := fun _ ds => decide (uptoBulkAll ds ≤ 1048576)
def OpenSpec.upto (s : _root_.Go.ChangeSpec) : _root_.Go.OpenSpec := { _root_.Go.OpenSpec.ofChange s with cond := some uptoSmall }

/-- 'watermeetlaw16.CacheLooks', WHERE WHAT IT READS IS OF BULK AT MOST 1048576: true; the input reads as it did. -/
def cacheLooksUptoRow : OpenClaim := { program := "ythjohjijcgiogaa", sum := "6631fcac5ea3739316bdd2cf71e9a951bfff82ca0a93afae335ff66aa9a869d7", func := "watermeet/watermeetlaw16.CacheLooks", spec := "cacheLooks", inPlace := ["slices.overlaps[watermeet/api.Hold]"], unfollowed := true, recurses := true, plainKeys := false, apart := false, narrowed := true }
def CacheLooksUptoSaid : Prop := cacheLooksUptoRow.holds Try.pinned (OpenSpec.upto cacheLooksSpec)

/-- 'watermeetlaw16.CacheLeast', WHERE WHAT IT READS IS OF BULK AT MOST 1048576: true; the input reads as it did. -/
def cacheLeastUptoRow : OpenClaim := { program := "ythjohjijcgiogaa", sum := "6631fcac5ea3739316bdd2cf71e9a951bfff82ca0a93afae335ff66aa9a869d7", func := "watermeet/watermeetlaw16.CacheLeast", spec := "cacheLeast", inPlace := ["slices.overlaps[watermeet/api.Hold]"], unfollowed := true, recurses := true, plainKeys := false, apart := false, narrowed := true }
def CacheLeastUptoSaid : Prop := cacheLeastUptoRow.holds Try.pinned (OpenSpec.upto cacheLeastSpec)

/-- 'watermeetlaw16.CacheThere', WHERE WHAT IT READS IS OF BULK AT MOST 1048576: true; the input reads as it did. -/
def cacheThereUptoRow : OpenClaim := { program := "ythjohjijcgiogaa", sum := "6631fcac5ea3739316bdd2cf71e9a951bfff82ca0a93afae335ff66aa9a869d7", func := "watermeet/watermeetlaw16.CacheThere", spec := "cacheThere", inPlace := ["slices.overlaps[watermeet/api.Hold]"], unfollowed := true, recurses := true, plainKeys := false, apart := false, narrowed := true }
def CacheThereUptoSaid : Prop := cacheThereUptoRow.holds Try.pinned (OpenSpec.upto cacheThereSpec)

/-- 'watermeetlaw16.CacheDoes', WHERE WHAT IT READS IS OF BULK AT MOST 1048576: true; the input reads as it did. -/
def cacheDoesUptoRow : OpenClaim := { program := "ythjohjijcgiogaa", sum := "6631fcac5ea3739316bdd2cf71e9a951bfff82ca0a93afae335ff66aa9a869d7", func := "watermeet/watermeetlaw16.CacheDoes", spec := "cacheDoes", inPlace := ["slices.overlaps[watermeet/api.Hold]"], unfollowed := true, recurses := true, plainKeys := false, apart := false, narrowed := true }
def CacheDoesUptoSaid : Prop := cacheDoesUptoRow.holds Try.pinned (OpenSpec.upto cacheDoesSpec)

/-- 'watermeetlaw16.CacheFaith', WHERE WHAT IT READS IS OF BULK AT MOST 1048576: true; the input reads as it did. -/
def cacheFaithUptoRow : OpenClaim := { program := "ythjohjijcgiogaa", sum := "6631fcac5ea3739316bdd2cf71e9a951bfff82ca0a93afae335ff66aa9a869d7", func := "watermeet/watermeetlaw16.CacheFaith", spec := "cacheFaith", inPlace := ["slices.overlaps[watermeet/api.Hold]"], unfollowed := true, recurses := true, plainKeys := false, apart := false, narrowed := true }
def CacheFaithUptoSaid : Prop := cacheFaithUptoRow.holds Try.pinned (OpenSpec.upto cacheFaithSpec)

/-- 'watermeetlaw16.CacheUse', WHERE WHAT IT READS IS OF BULK AT MOST 1048576: true; the input reads as it did. -/
def cacheUseUptoRow : OpenClaim := { program := "ythjohjijcgiogaa", sum := "6631fcac5ea3739316bdd2cf71e9a951bfff82ca0a93afae335ff66aa9a869d7", func := "watermeet/watermeetlaw16.CacheUse", spec := "cacheUse", inPlace := ["slices.overlaps[watermeet/api.Hold]"], unfollowed := true, recurses := true, plainKeys := false, apart := false, narrowed := true }
def CacheUseUptoSaid : Prop := cacheUseUptoRow.holds Try.pinned (OpenSpec.upto cacheUseSpec)

/-- 'watermeetlaw16.CacheCuts', WHERE WHAT IT READS IS OF BULK AT MOST 1048576: true; the input reads as it did. -/
def cacheCutsUptoRow : OpenClaim := { program := "ythjohjijcgiogaa", sum := "6631fcac5ea3739316bdd2cf71e9a951bfff82ca0a93afae335ff66aa9a869d7", func := "watermeet/watermeetlaw16.CacheCuts", spec := "cacheCuts", inPlace := ["slices.overlaps[watermeet/api.Hold]"], unfollowed := true, recurses := true, plainKeys := false, apart := false, narrowed := true }
def CacheCutsUptoSaid : Prop := cacheCutsUptoRow.holds Try.pinned (OpenSpec.upto cacheCutsSpec)

/-- 'watermeetlaw16.CacheWhole', WHERE WHAT IT READS IS OF BULK AT MOST 1048576: true; the input reads as it did. -/
def cacheWholeUptoRow : OpenClaim := { program := "ythjohjijcgiogaa", sum := "6631fcac5ea3739316bdd2cf71e9a951bfff82ca0a93afae335ff66aa9a869d7", func := "watermeet/watermeetlaw16.CacheWhole", spec := "cacheWhole", inPlace := ["slices.overlaps[watermeet/api.Hold]"], unfollowed := true, recurses := true, plainKeys := false, apart := false, narrowed := true }
def CacheWholeUptoSaid : Prop := cacheWholeUptoRow.holds Try.pinned (OpenSpec.upto cacheWholeSpec)

end Rows
end Go.Proofs.Ythjohjijcgiogaa
