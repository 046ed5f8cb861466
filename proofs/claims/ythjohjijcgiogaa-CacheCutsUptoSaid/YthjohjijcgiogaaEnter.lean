/- 'm[k]++': what the map reads as between its two steps. -/
import Derived.Test.YthjohjijcgiogaaCount
namespace Go.Proofs.Ythjohjijcgiogaa
open Go.RowKit Go.ChangeMaps Go.WideElems Go.WideMaps

theorem setBlock_self {w : World} {b : Nat} {o : Obj} (h : w.heap[b]? = some o) : setBlock w b o = w := by
  unfold setBlock
  have : w.heap.setIfInBounds b o = w.heap := by
    apply Array.ext_getElem?
    intro i
    rw [Array.getElem?_setIfInBounds]
    by_cases e : b = i
    · subst e
      have hl := (Array.getElem?_eq_some_iff.1 h).1
      rw [if_pos rfl, if_pos hl, h]
    · rw [if_neg e]
  rw [this]

theorem Met.enter {w : World} {b : Nat} {l : List Hd} (M : Met w b l) {h : Hd} (hs : h.name.size ≤ maxLen) (hw : (Lit.int .i64 h.no).wf = true) {v0 : Value} {st : Nat} {o : Obj} (hn : l.length < 60000)
    (hrun : (Instr.mapEntry 55 (.map (some b)) (.agg #[.string h.name, .int .i64 h.no])).run Try.prog w = .ok (.tuple #[v0, goInt st]) (setBlock w b o)) :
    (Instr.lookup 55 (.map (some b)) (.agg #[.string h.name, .int .i64 h.no]) false).run Try.prog (setBlock w b o) = .ok (.int .i64 (timesIn h.name h.no l)) (setBlock w b o) := by
  have hlook := M.look hs hw
  obtain ⟨D, h1, h2, h3⟩ := M
  have hk := key57 h.name h.no hs hw
  obtain ⟨es, clock, hb, F, hsz, hD⟩ := h1
  rcases law57.find w hk es.toList F.keys with ⟨f1, f2⟩ | ⟨j, e0, f1, f2, f3⟩
  · have hz : timesIn h.name h.no l = 0 := by
      have : (Instr.lookup 55 (.map (some b)) (.agg #[.string h.name, .int .i64 h.no]) false).run Try.prog w = .ok (.int .i64 0) w := by
        simp [Instr.lookup, run_underlying Try.underlying55, MapKept.run_getObj_map hb, law57.check w es.isEmpty hk, f1, zero3 w, Result.andThen]
      rw [this] at hlook
      simp at hlook
      omega
    have e1 : (Instr.mapEntry 55 (.map (some b)) (.agg #[.string h.name, .int .i64 h.no])).run Try.prog w = .ok (.tuple #[.int .i64 0, goInt clock]) (setBlock w b (.map (es.push ⟨.agg #[.string h.name, .int .i64 h.no], .int .i64 0, clock⟩) (clock + 1))) := by
      simp [Instr.mapEntry, run_underlying Try.underlying55, MapKept.run_getObj_map hb, law57.check w false hk, f1, zero3 w, MapKept.run_setObj_map _ hb, Result.andThen, setBlock]
    have e2 : (Instr.mapUpdate 55 (.map (some b)) (.agg #[.string h.name, .int .i64 h.no]) (.int .i64 0)).run Try.prog w = .ok () (setBlock w b (.map (es.push ⟨.agg #[.string h.name, .int .i64 h.no], .int .i64 0, clock⟩) (clock + 1))) := by
      simp [Instr.mapUpdate, run_underlying Try.underlying55, MapKept.run_getObj_map hb, law57.check w false hk, f1, MapKept.run_setObj_map _ hb, Result.andThen, setBlock]
    rw [hrun] at e1
    have hww := (Result.ok.inj e1).2
    obtain ⟨w', r1, r2, r3⟩ := World.ownsMap.update (w := w) ⟨es, clock, hb, F, hsz, hD⟩ keyed57 Try.underlying55 (by unfold maxLen; omega) hk (plainElem_int Try.underlying3 (show (Lit.int .i64 0).wf = true by decide))
    rw [e2] at r1
    have hw2 := (Result.ok.inj r1).2
    rw [hww, hw2]
    obtain ⟨c, q1, q2, _⟩ := r2.lookup_int keyed57 Try.underlying55 Try.underlying3 (zero3 _) hk
    rw [Maps.atKey_put_same h2 (keyed57.key hk)] at q2
    simp at q2
    rw [q1, hz, ← q2]
    rfl
  · have hj : es[j]? = some e0 := by simpa using f2
    have hsame : es.modify j (fun e => { e with key := .agg #[.string h.name, .int .i64 h.no] }) = es := by
      apply Array.ext_getElem?
      intro i
      rw [Array.getElem?_modify]
      by_cases e : j = i
      · subst e
        rw [if_pos rfl, hj, ← f3]; rfl
      · rw [if_neg e]
    have e1 : (Instr.mapEntry 55 (.map (some b)) (.agg #[.string h.name, .int .i64 h.no])).run Try.prog w = .ok (.tuple #[e0.val, goInt e0.born]) (setBlock w b (.map es clock)) := by
      simp [Instr.mapEntry, run_underlying Try.underlying55, MapKept.run_getObj_map hb, law57.check w false hk, f1, hj, f3, law57.stays w hk, hsame, MapKept.run_setObj_map _ hb, Result.andThen, setBlock]
    rw [hrun] at e1
    have hww := (Result.ok.inj e1).2
    rw [hww, setBlock_self hb]
    exact hlook

end Go.Proofs.Ythjohjijcgiogaa
