/- Check's map of the slips' numbers; and what Check asks, in turn. -/
import Derived.Test.YtmlgahambecamaaLeaf2
import Derived.Maps.Own
import Derived.Maps.Views
namespace Go.Proofs.Ytmlgahambecamaa
open Go.RowKit

theorem keyed3 : Maps.Keyed Try.prog 3 := Maps.int_keyed Try.underlying3
/-- Block b is a map that holds the numbers of these slips. -/
def Met (w : World) (b : Nat) (l : List Sp) : Prop :=
  ∃ D : DataW Unit, w.ownsMap Try.prog 3 (plainElem Try.prog 4) b l.length D ∧ Maps.IsMap D ∧ ∀ x, (Lit.int .i64 x).wf = true → D.atKey (.int .i64 x) (.lit (.bool false)) = .lit (.bool (noIn x l))
theorem met_made (w : World) : Met (w.alloc (.map #[] 0)) w.heap.size [] :=
  ⟨.map [], World.ownsMap_made _ _ _ _, Maps.isMap_empty, fun _ _ => rfl⟩
theorem Met.kept {w w' : World} {b : Nat} {l : List Sp} {row : Option Nat} (h : Met w b l) (hg : w.grownBy w' row) (hne : some b ≠ row) : Met w' b l := by
  obtain ⟨D, h1, h2, h3⟩ := h
  exact ⟨D, h1.kept hg hne, h2, h3⟩
theorem Met.below {w w' : World} {b : Nat} {l : List Sp} (h : Met w b l) (hb : Below w.heap.size w w') : Met w' b l := h.kept (row := none) ⟨hb.os, hb.tape, hb.output, hb.size, fun k hk _ => hb.block k hk⟩ (by simp)
theorem false4 (w : World) : (zeroValue 4).run Try.prog w = .ok (.bool false) w := by simp [go_sem]
theorem plain_bool {P : Program} {e : TypeId} (he : P.underlying e = some .bool) {v : Value} {x : Bool} {ps : List MemPlace} (h : plainElem (H := Unit) P e v = some (.lit (.bool x), ps)) : v = .bool x := by
  unfold plainElem at h
  rw [he] at h
  cases v <;> simp at h
  all_goals first | (obtain ⟨h, _⟩ := h; rw [h]) | skip
  
theorem Met.look {w : World} {b : Nat} {l : List Sp} (h : Met w b l) {x : Int} (hw : (Lit.int .i64 x).wf = true) :
    (Instr.lookup 61 (.map (some b)) (.int .i64 x) false).run Try.prog w = .ok (.bool (noIn x l)) w := by
  obtain ⟨D, h1, h2, h3⟩ := h
  obtain ⟨v, ps, hrun, hv⟩ := h1.lookup keyed3 Try.underlying61 (false4 w) (plainElem_bool Try.underlying4 false) (Maps.keyOf_int_mk Try.underlying3 hw)
  rw [h3 x hw] at hv
  rw [hrun, plain_bool Try.underlying4 hv]
theorem noIn_snoc (x : Int) (l : List Sp) (s : Sp) : noIn x (l ++ [s]) = (noIn x l || decide (s.no = x)) := by
  unfold noIn
  rw [List.any_append]
  simp
set_option maxRecDepth 100000 in
theorem Met.more {w : World} {b : Nat} {l : List Sp} (M : Met w b l) {s : Sp} (hw : (Lit.int .i64 s.no).wf = true) (hn : l.length < 60000) :
    ∃ w', (Instr.mapUpdate 61 (.map (some b)) (.int .i64 s.no) (.bool true)).run Try.prog w = .ok () w' ∧ Met w' b (l ++ [s]) ∧ w.grownBy w' (some b) := by
  obtain ⟨D, h1, h2, h3⟩ := M
  obtain ⟨w', hrun, r1, r2⟩ := h1.update keyed3 Try.underlying61 (by unfold maxLen; omega) (Maps.keyOf_int_mk Try.underlying3 hw) (plainElem_bool Try.underlying4 true)
  refine ⟨w', hrun, ⟨_, by simpa using r1, h2.put _ _, fun x hx => ?_⟩, r2⟩
  rw [noIn_snoc]
  by_cases he : s.no = x
  · subst he
    rw [Maps.atKey_put_same h2 (keyed3.key (Maps.keyOf_int_mk Try.underlying3 hw))]
    simp
  · rw [Maps.atKey_put_other (fun e => he (by injection e with _ e; exact e.symm)), h3 x hx, decide_eq_false he, Bool.or_false]

theorem checkI_no {n : Nv} (h : checkB n = false) : checkI n = 1 := by unfold checkI; rw [h]; rfl
theorem checkI_yes {n : Nv} (h : checkB n = true) : checkI n = 0 := by unfold checkI; rw [h]; rfl
theorem chk_top {n : Nv} (h : topB n = false) : checkI n = 1 := checkI_no (by unfold checkB; rw [h]; simp)
theorem chk_skew {n : Nv} {k : Nat} (hk : k < n.K.length) (h : skewAt n.K k = false) : checkI n = 1 := checkI_no (by unfold checkB; rw [allTo_no hk h]; simp)
theorem chk_slip {n : Nv} {k : Nat} (hk : k < n.S.length) (h : slipAt n.S k = false) : checkI n = 1 := checkI_no (by unfold checkB; rw [allTo_no hk h]; simp)
theorem chk_cut {n : Nv} {k : Nat} (hk : k < n.C.length) (h : cutAt n.K.length n.C k = false) : checkI n = 1 := checkI_no (by unfold checkB; rw [allTo_no hk h]; simp)
theorem chk_msg {n : Nv} {k : Nat} (hk : k < n.L.length) (h : msgAt n.K.length n.now n.next n.L k = false) : checkI n = 1 := checkI_no (by unfold checkB; rw [allTo_no hk h]; simp)
theorem chk_yes {n : Nv} (h0 : topB n = true) (h1 : allTo (skewAt n.K) n.K.length = true) (h2 : allTo (slipAt n.S) n.S.length = true) (h3 : allTo (cutAt n.K.length n.C) n.C.length = true) (h4 : allTo (msgAt n.K.length n.now n.next n.L) n.L.length = true) : checkI n = 0 :=
  checkI_yes (by unfold checkB; rw [h0, h1, h2, h3, h4]; rfl)
theorem skewAt_at {K : List Int} {k : Nat} (h : k < K.length) : skewAt K k = inR K[k] (-10) 10 := by unfold skewAt; rw [List.getElem?_eq_getElem h]
theorem slipAt_at {S : List Sp} {k : Nat} (h : k < S.length) : slipAt S k = (okSlip S[k] && !noIn S[k].no (S.take k)) := by unfold slipAt; rw [List.getElem?_eq_getElem h]
theorem cutAt_zero {m : Nat} {C : List Pr} (h : 0 < C.length) : cutAt m C 0 = (endB m C[0].a && endB m C[0].b && decide (C[0].a < C[0].b)) := by unfold cutAt; rw [List.getElem?_eq_getElem h]; simp
theorem cutAt_succ {m k : Nat} {C : List Pr} (h : k + 1 < C.length) (h' : k < C.length) : cutAt m C (k + 1) = (endB m C[k + 1].a && endB m C[k + 1].b && decide (C[k + 1].a < C[k + 1].b) && ltP C[k] C[k + 1]) := by
  unfold cutAt; rw [List.getElem?_eq_getElem h]; simp only [List.getElem?_eq_getElem h']
theorem msgAt_zero {m : Nat} {now next : Int} {L : List Mg} (h : 0 < L.length) : msgAt m now next (L.map Mg.val) 0 = (endB m L[0].frm && endB m L[0].dst && inR L[0].t now maxO && inR L[0].no 0 (next - 1) && decide (L[0].bs.length ≤ 4096)) := by
  unfold msgAt; rw [List.getElem?_map, List.getElem?_eq_getElem h]; simp [Mg.val]
theorem msgAt_succ {m k : Nat} {now next : Int} {L : List Mg} (h : k + 1 < L.length) (h' : k < L.length) : msgAt m now next (L.map Mg.val) (k + 1) = (endB m L[k + 1].frm && endB m L[k + 1].dst && inR L[k + 1].t now maxO && inR L[k + 1].no 0 (next - 1) && decide (L[k + 1].bs.length ≤ 4096) && aheadB L[k].val L[k + 1].val) := by
  unfold msgAt; rw [List.getElem?_map, List.getElem?_eq_getElem h]; simp [Mg.val, List.getElem?_eq_getElem h']

end Go.Proofs.Ytmlgahambecamaa
