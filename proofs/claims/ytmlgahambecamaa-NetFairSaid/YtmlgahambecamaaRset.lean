/- A row of the call's own: one element is set, one is put in. -/
import Derived.Test.YtmlgahambecamaaInp
namespace Go.Proofs.Ytmlgahambecamaa
open Go.RowKit

theorem splice_mid {L a z d vs : List Value} {N : Nat} (h : L.take N = a ++ z ++ d) (hv : vs.length = z.length) (hN : N ≤ L.length) : (splice L a.length vs).take N = a ++ vs ++ d := by
  have hl : a.length + z.length + d.length = N := by
    have := congrArg List.length h; simp at this; omega
  have e : L = (a ++ z) ++ (d ++ L.drop N) := by
    conv => lhs; rw [← List.take_append_drop N L, h]
    simp
  have t1 : L.take a.length = a := by rw [e, List.append_assoc, List.take_left]
  have t2 : L.drop (a.length + vs.length) = d ++ L.drop N := by
    conv => lhs; rw [e]
    exact List.drop_left' (by rw [List.length_append, hv])
  unfold splice
  rw [t1, t2, ← List.append_assoc]
  exact List.take_left' (by simp; omega)

theorem own_set {α : Type} {K : RK α} {E : TypeId} {w : World} {B : Nat} {A : Option Addr} {n c i : Nat} {l : List α} (h : Own K E w B A n c l) (hi : i < n) (x : α) (hx : K.In w x) (hin : ∀ w' a, K.In w a → K.In w' a) :
    ∃ g, A = some ⟨g, 0, none⟩ ∧ B ≤ g ∧ g < w.heap.size ∧ (∀ j, w.frozen? ⟨g, j, none⟩ = false) ∧ Own K E (w.setCells g (i * K.size) (K.cells x)) B A n c (l.take i ++ x :: l.drop (i + 1)) ∧ w.grownBy (w.setCells g (i * K.size) (K.cells x)) (some g) := by
  obtain ⟨g, cur, rfl, hB, hgl, hg, hnc, hcm, hcs, htk⟩ := owns_open h.2.1 (by omega)
  have hlen := h.1
  have hil : i < l.length := by omega
  have hfit : i * K.size + (K.cells x).length ≤ cur.size := by
    rw [K.len, hcs, ← Nat.succ_mul]; exact Nat.mul_le_mul_right _ (by omega)
  refine ⟨g, rfl, hB, hgl, fun j => row_free hg j, ⟨?_, ?_, ?_⟩, setCells_grown g _ _ w⟩
  · rw [List.length_append, List.length_cons, List.length_take, List.length_drop]; omega
  · have hg2 := setCells_heap (K.cells x) (i * K.size) w cur hg hfit
    refine owns_mk hB hg2 hnc hcm (by rw [List.size_toArray, splice_len (by rw [Array.length_toList]; exact hfit), Array.length_toList, hcs]) ?_
    have e0 : l = l.take i ++ (l[i] :: l.drop (i + 1)) := by rw [List.getElem_cons_drop, List.take_append_drop]
    have e1 : ((l.take i).flatMap K.cells).length = i * K.size := by rw [flat_len K.cells K.size K.len, List.length_take, Nat.min_eq_left (by omega)]
    have htk' : cur.toList.take (n * K.size) = (l.take i).flatMap K.cells ++ K.cells l[i] ++ (l.drop (i + 1)).flatMap K.cells := by
      rw [htk]
      conv => lhs; rw [e0]
      rw [List.flatMap_append, List.flatMap_cons, List.append_assoc]
    have := splice_mid (vs := K.cells x) htk' (by rw [K.len, K.len]) (by rw [Array.length_toList, hcs]; exact Nat.mul_le_mul_right _ hnc)
    rw [e1] at this
    rw [List.toList_toArray, this, List.flatMap_append, List.flatMap_cons, List.append_assoc]
  · intro a ha
    rcases List.mem_append.1 ha with ha | ha
    · exact hin _ _ (h.2.2 a (List.mem_of_mem_take ha))
    · rcases List.mem_cons.1 ha with rfl | ha
      · exact hin _ _ hx
      · exact hin _ _ (h.2.2 a (List.mem_of_mem_drop ha))
/-- What a row reads as, where one was put in. -/
theorem own_ins {α : Type} {K : RK α} {E : TypeId} {w w' : World} {B : Nat} {A A' : Option Addr} {n c c' i : Nat} {l : List α} (h : Own K E w B A n c l) (hi : i ≤ n) (x : α) (hx : K.In w x) (hin : ∀ w' a, K.In w a → K.In w' a)
    (ho : w'.ownsRow B E K.size (.slice A' (n + 1) c') (n + 1) ((l.flatMap K.cells).take (i * K.size) ++ K.cells x ++ (l.flatMap K.cells).drop (i * K.size))) : Own K E w' B A' (n + 1) c' (l.take i ++ x :: l.drop i) := by
  have hlen := h.1
  refine ⟨?_, ?_, ?_⟩
  · rw [List.length_append, List.length_cons, List.length_take, List.length_drop]; omega
  · rw [List.flatMap_append, List.flatMap_cons, ← List.append_assoc, ← flat_take K.cells K.size K.len, ← flat_drop K.cells K.size K.len]
    exact ho
  · intro a ha
    rcases List.mem_append.1 ha with ha | ha
    · exact hin _ _ (h.2.2 a (List.mem_of_mem_take ha))
    · rcases List.mem_cons.1 ha with rfl | ha
      · exact hin _ _ hx
      · exact hin _ _ (h.2.2 a (List.mem_of_mem_drop ha))

/-- A box beside a row that grew. -/
theorem Has.beside {w w' : World} {b : Nat} {cs : Array Value} {r : Option Nat} (h : Has w b cs) (hg : w.grownBy w' r) (hne : some b ≠ r) : Has w' b cs :=
  ⟨fun i => (hg.cell_far ⟨b, i, none⟩ h.lt hne).trans (h.cell i), fun i => (hg.frozen_far ⟨b, i, none⟩ h.lt hne).trans (h.free i), Nat.lt_of_lt_of_le h.lt hg.size⟩

end Go.Proofs.Ytmlgahambecamaa
