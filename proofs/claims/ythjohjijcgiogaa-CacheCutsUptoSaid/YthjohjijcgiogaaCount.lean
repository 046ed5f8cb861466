/- A map that counts how often each key stood in a list: read, and one more. -/
import Derived.Test.YthjohjijcgiogaaMet
import Derived.Maps.Views
import Derived.WalkArith
namespace Go.Proofs.Ythjohjijcgiogaa
open Go.RowKit

/-- How often the key stands in the list. -/
def timesIn (name : ByteArray) (no : Int) (l : List Hd) : Nat := l.countP fun h => decide (h.name = name ∧ h.no = no)

/-- Block b is a map that holds for each key how often it stands in the list. -/
def Met (w : World) (b : Nat) (l : List Hd) : Prop :=
  ∃ D : DataW Unit, w.ownsMap Try.prog 57 (plainElem Try.prog 3) b l.length D ∧ Maps.IsMap D ∧
    ∀ name no, name.size ≤ maxLen → (Lit.int .i64 no).wf = true → D.atKey (kl57 name no) (.lit (.int .i64 0)) = .lit (.int .i64 (timesIn name no l))

theorem met_made (w : World) : Met (w.alloc (.map #[] 0)) w.heap.size [] :=
  ⟨.map [], World.ownsMap_made _ _ _ _, Maps.isMap_empty, fun _ _ _ _ => rfl⟩
theorem Met.kept {w w' : World} {b : Nat} {l : List Hd} {row : Option Nat} (h : Met w b l) (hg : w.grownBy w' row) (hne : some b ≠ row) : Met w' b l := by
  obtain ⟨D, h1, h2, h3⟩ := h
  exact ⟨D, h1.kept hg hne, h2, h3⟩

theorem zero3 (w : World) : (zeroValue 3).run Try.prog w = .ok (.int .i64 0) w := by simp [go_sem]

theorem Met.look {w : World} {b : Nat} {l : List Hd} (h : Met w b l) {name : ByteArray} {no : Int} (hs : name.size ≤ maxLen) (hw : (Lit.int .i64 no).wf = true) :
    (Instr.lookup 55 (.map (some b)) (.agg #[.string name, .int .i64 no]) false).run Try.prog w = .ok (.int .i64 (timesIn name no l)) w := by
  obtain ⟨D, h1, h2, h3⟩ := h
  obtain ⟨c, hrun, hat, _⟩ := h1.lookup_int keyed57 Try.underlying55 Try.underlying3 (zero3 w) (key57 name no hs hw)
  rw [h3 name no hs hw] at hat
  simp at hat
  rw [hrun, hat]

theorem kl57_inj {n1 n2 : ByteArray} {o1 o2 : Int} (s1 : n1.size ≤ maxLen) (s2 : n2.size ≤ maxLen) (w1 : (Lit.int .i64 o1).wf = true) (w2 : (Lit.int .i64 o2).wf = true) (h : kl57 n1 o1 = kl57 n2 o2) : n1 = n2 ∧ o1 = o2 := by
  have := keyed57.inj (key57 n1 o1 s1 w1) (h ▸ key57 n2 o2 s2 w2)
  simp at this
  exact this

theorem timesIn_snoc (name : ByteArray) (no : Int) (l : List Hd) (h : Hd) : timesIn name no (l ++ [h]) = timesIn name no l + if h.name = name ∧ h.no = no then 1 else 0 := by
  unfold timesIn
  rw [List.countP_append, List.countP_singleton]
  simp

/-- Behind 'm[k] = how often + 1' the map counts one chunk more. -/
theorem Met.more {w : World} {b : Nat} {l : List Hd} (M : Met w b l) {h : Hd} (hs : h.name.size ≤ maxLen) (hw : (Lit.int .i64 h.no).wf = true) (hn : l.length < 60000) :
    ∃ w', (Instr.mapUpdate 55 (.map (some b)) (.agg #[.string h.name, .int .i64 h.no]) (.int .i64 (timesIn h.name h.no l + 1 : Int))).run Try.prog w = .ok () w' ∧ Met w' b (l ++ [h]) ∧ w.grownBy w' (some b) := by
  obtain ⟨D, h1, h2, h3⟩ := M
  have hle : timesIn h.name h.no l ≤ l.length := List.countP_le_length
  have hwf : (Lit.int .i64 (timesIn h.name h.no l + 1 : Int)).wf = true := WalkArith.wf_i64 (by omega)
  obtain ⟨w', hrun, r1, r2⟩ := h1.update keyed57 Try.underlying55 (by unfold maxLen; omega) (key57 h.name h.no hs hw) (plainElem_int Try.underlying3 hwf)
  refine ⟨w', hrun, ⟨_, by simpa using r1, h2.put _ _, fun name no s1 s2 => ?_⟩, r2⟩
  rw [timesIn_snoc]
  by_cases he : h.name = name ∧ h.no = no
  · obtain ⟨rfl, rfl⟩ := he
    rw [Maps.atKey_put_same h2 (keyed57.key (key57 h.name h.no hs hw)), if_pos ⟨rfl, rfl⟩]
    simp
  · rw [Maps.atKey_put_other (fun e => he (kl57_inj hs s1 hw s2 e.symm)), h3 name no s1 s2, if_neg he]
    simp

theorem setBlock_twice (w : World) (b : Nat) (o o' : Obj) : ChangeMaps.setBlock (ChangeMaps.setBlock w b o) b o' = ChangeMaps.setBlock w b o' := by
  simp [ChangeMaps.setBlock]

/-- 'm[k]++', in its two steps: the entry is found or made (in a world that still reads as it did); then one more is laid there. -/
theorem Met.bump {w : World} {b : Nat} {l : List Hd} (M : Met w b l) {h : Hd} (hs : h.name.size ≤ maxLen) (hw : (Lit.int .i64 h.no).wf = true) (hn : l.length < 60000) :
    ∃ (v0 : Value) (st : Nat) (o : Obj) (w' : World), (Instr.mapEntry 55 (.map (some b)) (.agg #[.string h.name, .int .i64 h.no])).run Try.prog w = .ok (.tuple #[v0, goInt st]) (ChangeMaps.setBlock w b o) ∧
      (Instr.entryStore 55 (.map (some b)) (goInt st) (.int .i64 (timesIn h.name h.no l + 1 : Int))).run Try.prog (ChangeMaps.setBlock w b o) = .ok () w' ∧ Met w' b (l ++ [h]) ∧ w.grownBy w' (some b) := by
  obtain ⟨w', hrun, m, g⟩ := M.more hs hw hn
  obtain ⟨D, ⟨es, clock, hb, F, _⟩, _⟩ := M
  obtain ⟨v0, st, es1, clock1, r1, _, r2⟩ := WideElems.entry_then_store law57 Try.underlying55 zero3 hb F (key57 h.name h.no hs hw)
  obtain ⟨es', clock', r3, r4⟩ := r2 (ChangeMaps.setBlock w b (.map es1 clock1)) (.int .i64 (timesIn h.name h.no l + 1 : Int)) (ChangeMaps.heap_setBlock_same hb _)
  rw [r4] at hrun
  injection hrun with _ hww
  rw [setBlock_twice, hww] at r3
  exact ⟨v0, st, _, w', r1, r3, m, g⟩

end Go.Proofs.Ythjohjijcgiogaa
