/- Check's map of the producers' numbers. -/
import Derived.Test.YtnigjchgpmladaaOdd
import Derived.Test.YtnigjchgpmladaaCor
import Derived.Maps.Own
import Derived.Maps.Views
namespace Go.Proofs.Ytnigjchgpmladaa
open Go.RowKit

theorem keyed3 : Maps.Keyed Try.prog 3 := Maps.int_keyed Try.underlying3
/-- Block b is a map that holds these numbers. -/
def Met (w : World) (b : Nat) (l : List Int) : Prop :=
  ∃ D : DataW Unit, w.ownsMap Try.prog 3 (plainElem Try.prog 4) b l.length D ∧ Maps.IsMap D ∧ ∀ x, (Lit.int .i64 x).wf = true → D.atKey (.int .i64 x) (.lit (.bool false)) = .lit (.bool (decide (x ∈ l)))
theorem met_made (w : World) : Met (w.alloc (.map #[] 0)) w.heap.size [] :=
  ⟨.map [], World.ownsMap_made _ _ _ _, Maps.isMap_empty, fun _ _ => by simp; rfl⟩
theorem Met.kept {w w' : World} {b : Nat} {l : List Int} {row : Option Nat} (h : Met w b l) (hg : w.grownBy w' row) (hne : some b ≠ row) : Met w' b l := by
  obtain ⟨D, h1, h2, h3⟩ := h
  exact ⟨D, h1.kept hg hne, h2, h3⟩
theorem Met.below {w w' : World} {b : Nat} {l : List Int} (h : Met w b l) (hb : Below w.heap.size w w') : Met w' b l := h.kept (row := none) ⟨hb.os, hb.tape, hb.output, hb.size, fun k hk _ => hb.block k hk⟩ (by simp)
theorem false4 (w : World) : (zeroValue 4).run Try.prog w = .ok (.bool false) w := by simp [go_sem]
theorem plain_bool {P : Program} {e : TypeId} (he : P.underlying e = some .bool) {v : Value} {x : Bool} {ps : List MemPlace} (h : plainElem (H := Unit) P e v = some (.lit (.bool x), ps)) : v = .bool x := by
  unfold plainElem at h
  rw [he] at h
  cases v <;> simp at h
  all_goals first | (obtain ⟨h, _⟩ := h; rw [h]) | skip
theorem Met.look {w : World} {b : Nat} {l : List Int} (h : Met w b l) {x : Int} (hw : (Lit.int .i64 x).wf = true) :
    (Instr.lookup 77 (.map (some b)) (.int .i64 x) false).run Try.prog w = .ok (.bool (decide (x ∈ l))) w := by
  obtain ⟨D, h1, h2, h3⟩ := h
  obtain ⟨v, ps, hrun, hv⟩ := h1.lookup keyed3 Try.underlying77 (false4 w) (plainElem_bool Try.underlying4 false) (Maps.keyOf_int_mk Try.underlying3 hw)
  rw [h3 x hw] at hv
  rw [hrun, plain_bool Try.underlying4 hv]
set_option maxRecDepth 100000 in
theorem Met.more {w : World} {b : Nat} {l : List Int} (M : Met w b l) {s : Int} (hw : (Lit.int .i64 s).wf = true) (hn : l.length < 60000) :
    ∃ w', (Instr.mapUpdate 77 (.map (some b)) (.int .i64 s) (.bool true)).run Try.prog w = .ok () w' ∧ Met w' b (l ++ [s]) ∧ w.grownBy w' (some b) := by
  obtain ⟨D, h1, h2, h3⟩ := M
  obtain ⟨w', hrun, r1, r2⟩ := h1.update keyed3 Try.underlying77 (by unfold maxLen; omega) (Maps.keyOf_int_mk Try.underlying3 hw) (plainElem_bool Try.underlying4 true)
  refine ⟨w', hrun, ⟨_, by simpa using r1, h2.put _ _, fun x hx => ?_⟩, r2⟩
  by_cases he : s = x
  · subst he
    rw [Maps.atKey_put_same h2 (keyed3.key (Maps.keyOf_int_mk Try.underlying3 hw))]
    simp
  · rw [Maps.atKey_put_other (fun e => he (by injection e with _ e; exact e.symm)), h3 x hx]
    have : (x ∈ l ++ [s]) ↔ x ∈ l := by
      rw [List.mem_append, List.mem_singleton]
      exact ⟨fun h => h.resolve_right (fun e => he e.symm), .inl⟩
    rw [decide_eq_decide.2 this]
theorem pidIn_mem (p : Int) (l : List Tv) : pidIn p l = decide (p ∈ l.map Tv.pid) := by
  unfold pidIn
  rw [Bool.eq_iff_iff, List.any_eq_true, decide_eq_true_eq, List.mem_map]
  constructor
  · rintro ⟨x, hx, h⟩
    exact ⟨x, hx, of_decide_eq_true h⟩
  · rintro ⟨x, hx, h⟩
    exact ⟨x, hx, decide_eq_true h⟩
theorem chk_next {c : Cv} (h : inB c.next 1099511627776 = false) : checkV c = 1 := by
  unfold checkV
  rw [if_neg (by rw [h]; simp)]
theorem chk_row {c : Cv} {k : Nat} (hk : k < c.L.length) (h : rowAt c.next c.L k = false) : checkV c = 1 := by
  unfold checkV
  rw [if_neg (by rw [allTo_no hk h]; simp)]
theorem chk_end {c : Cv} (h0 : inB c.next 1099511627776 = true) (h1 : allTo (rowAt c.next c.L) c.L.length = true) : checkV c = if manyB c.L = true then 2 else 0 := by
  unfold checkV
  rw [if_pos ⟨h0, h1⟩]
theorem rowAt_zero {next : Int} {L : List Tv} (h : 0 < L.length) : rowAt next L 0 = (txB L[0] next && !pidIn L[0].pid (L.take 0)) := by unfold rowAt; rw [List.getElem?_eq_getElem h]; simp
theorem rowAt_succ {next : Int} {L : List Tv} {k : Nat} (h : k + 1 < L.length) (h' : k < L.length) : rowAt next L (k + 1) = (txB L[k + 1] next && decide (cmpS L[k].id L[k + 1].id < 0) && !pidIn L[k + 1].pid (L.take (k + 1))) := by
  unfold rowAt; rw [List.getElem?_eq_getElem h]; simp only [List.getElem?_eq_getElem h']
/-- How much there is of a producer. -/
def bigB (x : Tv) : Bool := decide (288 < x.P.length) || decide (64 < x.G.length)
theorem many_eq (L : List Tv) : manyB L = (decide (256 < L.length) || L.any bigB) := rfl
theorem ge_str (a b : ByteArray) : (Op.bytesLess b.toList a.toList || b.toList == a.toList) = decide (¬ cmpS a b < 0) := by
  rw [bl_eq]
  by_cases h : a = b
  · subst h
    rw [lawS.self]
    simp
  · have h1 : cmpS a b ≠ 0 := fun e => h (cmpS_eq.1 e)
    have h2 := lawS.swap a b
    rw [str_ne (fun e => h e.symm), Bool.or_false, decide_eq_decide]
    omega

end Go.Proofs.Ytnigjchgpmladaa
