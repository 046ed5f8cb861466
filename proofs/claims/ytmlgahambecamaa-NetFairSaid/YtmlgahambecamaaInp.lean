/- A row of the call's own that is written in place: copy, clear, and what the row holds behind them; of no function. -/
import Derived.Test.YtmlgahambecamaaKnd
import Derived.Deep.RegionLaw
import Derived.Lib.SliceRun
import Derived.Lib.AppendZerosOnto
import Derived.Laws.IdiomCopy
import Derived.Lib.Overlaps
import Derived.Laws.Externs
namespace Go.Proofs.Ytmlgahambecamaa
open Go.RowKit

/-- What a row holds behind a store of some cells. -/
def splice (L : List Value) (o : Nat) (vs : List Value) : List Value := L.take o ++ vs ++ L.drop (o + vs.length)
theorem splice_len {L : List Value} {o : Nat} {vs : List Value} (h : o + vs.length ≤ L.length) : (splice L o vs).length = L.length := by
  unfold splice; simp; omega
theorem splice_nil (L : List Value) (o : Nat) : splice L o [] = L := by unfold splice; simp
theorem splice_take {L : List Value} {o m : Nat} {vs : List Value} (h : o + vs.length ≤ L.length) (hm : m = o + vs.length) : (splice L o vs).take m = L.take o ++ vs := by
  subst hm
  unfold splice
  rw [List.append_assoc, List.take_append, List.length_take, List.take_of_length_le (by rw [List.length_take]; omega), Nat.min_eq_left (by omega), Nat.add_sub_cancel_left, List.take_append, List.take_of_length_le (Nat.le_refl _)]
  simp
theorem splice_before {L : List Value} {o m : Nat} {vs : List Value} (h : o ≤ L.length) (hm : m ≤ o) : (splice L o vs).take m = L.take m := by
  unfold splice
  rw [List.append_assoc, List.take_append, List.length_take, List.take_take, Nat.min_eq_left hm, show m - min o L.length = 0 by omega]
  simp
theorem splice_cons (L : List Value) (o : Nat) (v : Value) (vs : List Value) (h : o < L.length) : splice (L.set o v) (o + 1) vs = splice L o (v :: vs) := by
  unfold splice
  apply List.ext_getElem?
  intro i
  simp only [List.getElem?_append, List.length_append, List.length_take, List.length_cons, List.getElem?_take, List.length_set, List.getElem?_drop, List.getElem?_set]
  by_cases h1 : i < o
  · simp [h1, show i < min (o + 1) L.length by omega, show i < min o L.length by omega, show i < o + 1 by omega, show ¬ o = i by omega, show i < min (o + 1) L.length + vs.length by omega, show i < min o L.length + (vs.length + 1) by omega]
  · by_cases h2 : i = o
    · subst h2
      simp [h, show i < min (i + 1) L.length by omega, show ¬ i < min i L.length by omega, show i < min (i + 1) L.length + vs.length by omega, show i < min i L.length + (vs.length + 1) by omega, show i - min i L.length = 0 by omega]
    · by_cases h3 : i < o + 1 + vs.length
      · simp [show ¬ i < min (o + 1) L.length by omega, show ¬ i < min o L.length by omega, show i < min (o + 1) L.length + vs.length by omega, show i < min o L.length + (vs.length + 1) by omega, show i - min o L.length = (i - min (o + 1) L.length) + 1 by omega]
      · simp only [show ¬ i < min (o + 1) L.length by omega, show ¬ i < min o L.length by omega, show ¬ i < min (o + 1) L.length + vs.length by omega, show ¬ i < min o L.length + (vs.length + 1) by omega, if_false, show ¬ o = o + 1 + vs.length + (i - (min (o + 1) L.length + vs.length)) by omega]
        congr 1; omega

theorem splice_get {L : List Value} {o : Nat} {vs : List Value} (h : o + vs.length ≤ L.length) (t : Nat) : (splice L o vs)[t]? = if t < o then L[t]? else if t < o + vs.length then vs[t - o]? else L[t]? := by
  unfold splice
  have hm : min o L.length = o := by omega
  by_cases h1 : t < o
  · rw [if_pos h1, List.append_assoc, List.getElem?_append_left (by rw [List.length_take, hm]; exact h1), List.getElem?_take, if_pos h1]
  · rw [if_neg h1]
    by_cases h2 : t < o + vs.length
    · rw [if_pos h2, List.getElem?_append_left (by rw [List.length_append, List.length_take, hm]; exact h2), List.getElem?_append_right (by rw [List.length_take, hm]; omega), List.length_take, hm]
    · rw [if_neg h2, List.getElem?_append_right (by rw [List.length_append, List.length_take, hm]; omega), List.length_append, List.length_take, hm, List.getElem?_drop]
      congr 1; omega
/-- A row whose end was moved up, and into whose gap something was laid. -/
theorem splice_gap {L xs D ns : List Value} {a k n : Nat} (hL : n + k ≤ L.length) (hx : L.take n = xs) (ha : a ≤ n) (hD : D = xs.drop a) (hk : ns.length = k) :
    (splice (splice L (a + k) D) a ns).take (n + k) = xs.take a ++ ns ++ xs.drop a := by
  have hxl : xs.length = n := by rw [← hx, List.length_take]; omega
  have hDl : D.length = n - a := by rw [hD, List.length_drop, hxl]
  have f1 : a + k + D.length ≤ L.length := by omega
  have f2 : a + ns.length ≤ (splice L (a + k) D).length := by rw [splice_len f1]; omega
  have hxg : ∀ t, t < n → xs[t]? = L[t]? := fun t ht => by rw [← hx, List.getElem?_take, if_pos ht]
  apply List.ext_getElem?
  intro t
  rw [List.getElem?_take]
  by_cases ht : t < n + k
  · rw [if_pos ht, splice_get f2, splice_get f1, hk]
    by_cases h1 : t < a
    · rw [if_pos h1, if_pos (by omega), List.append_assoc, List.getElem?_append_left (by rw [List.length_take]; omega), List.getElem?_take, if_pos h1, hxg t (by omega)]
    · rw [if_neg h1]
      by_cases h2 : t < a + k
      · rw [if_pos h2, List.getElem?_append_left (by rw [List.length_append, List.length_take]; omega), List.getElem?_append_right (by rw [List.length_take]; omega), List.length_take, hxl, Nat.min_eq_left ha]
      · rw [if_neg h2, if_neg (by omega), if_pos (by omega), List.getElem?_append_right (by rw [List.length_append, List.length_take]; omega), List.length_append, List.length_take, hxl, Nat.min_eq_left ha, hD, hk]
  · rw [if_neg ht, List.getElem?_eq_none (by simp only [List.length_append, List.length_take, List.length_drop]; omega)]

theorem setCell_heap {w : World} {g o : Nat} {cur : Array Value} {t : TypeId} {fr : Nat × Nat} (hg : w.heap[g]? = some (.cells cur t fr)) (_ho : o < cur.size) (v : Value) :
    (w.setCell ⟨g, o, none⟩ v).heap[g]? = some (.cells (cur.setIfInBounds o v) t fr) := by
  simp [World.setCell, Array.getElem?_modify, hg]
theorem setCells_heap {g : Nat} {t : TypeId} {fr : Nat × Nat} : ∀ (vs : List Value) (o : Nat) (w : World) (cur : Array Value), w.heap[g]? = some (.cells cur t fr) → o + vs.length ≤ cur.size →
    (w.setCells g o vs).heap[g]? = some (.cells (splice cur.toList o vs).toArray t fr)
  | [], o, w, cur, hg, _ => by rw [splice_nil]; simpa [World.setCells] using hg
  | v :: vs, o, w, cur, hg, h => by
    rw [List.length_cons] at h
    rw [World.setCells, setCells_heap vs (o + 1) _ _ (setCell_heap hg (by omega) v) (by simp; omega)]
    rw [← splice_cons _ _ _ _ (by simpa using (show o < cur.size by omega))]
    simp
theorem setCell_size (w : World) (a : Addr) (v : Value) : (w.setCell a v).heap.size = w.heap.size := by simp [World.setCell]
theorem setCells_grown (g : Nat) : ∀ (vs : List Value) (o : Nat) (w : World), w.grownBy (w.setCells g o vs) (some g)
  | [], _, _ => ⟨rfl, rfl, rfl, Nat.le_refl _, fun _ _ _ => rfl⟩
  | v :: vs, o, w => by
    obtain ⟨h1, h2, h3, h4, h5⟩ := setCells_grown g vs (o + 1) (w.setCell ⟨g, o, none⟩ v)
    rw [setCell_size] at h4 h5
    exact ⟨h1, h2, h3, h4, fun k hk hne => (h5 k hk hne).trans (Below.heap_setCell w _ _ _ (fun e => hne (by rw [e])))⟩

theorem grown_trans {a b c : World} {g : Nat} (h : a.grownBy b (some g)) (k : b.grownBy c (some g)) : a.grownBy c (some g) :=
  ⟨k.os.trans h.os, k.tape.trans h.tape, k.output.trans h.output, Nat.le_trans h.size k.size, fun i hi hn => (k.block i (Nat.lt_of_lt_of_le hi h.size) hn).trans (h.block i hi hn)⟩
theorem grown_then {a b c : World} {r : Option Nat} (h : a.grownBy b r) (k : Below a.heap.size b c) : a.grownBy c r :=
  ⟨k.os.trans h.os, k.tape.trans h.tape, k.output.trans h.output, Nat.le_trans h.size k.size, fun i hi hn => (k.block i hi).trans (h.block i hi hn)⟩
theorem grown_drew {a b : World} {r : Option Nat} (h : a.grownBy b r) : a.grownBy b.drew r := ⟨h.os, h.tape, h.output, h.size, h.block⟩
theorem grown_refl (a : World) (r : Option Nat) : a.grownBy a r := ⟨rfl, rfl, rfl, Nat.le_refl _, fun _ _ _ => rfl⟩
theorem grown_of_below {a b : World} (h : Below a.heap.size a b) (r : Option Nat) : a.grownBy b r := ⟨h.os, h.tape, h.output, h.size, fun k hk _ => h.block k hk⟩
theorem grown_below {B : Nat} {a b : World} {r : Option Nat} (h : a.grownBy b r) (hB : B ≤ a.heap.size) (hr : ∀ k, r = some k → B ≤ k) : Below B a b := (Below.refl B a).grown h hB hr
/-- What lies in another block than the one that was written. -/
theorem Row.grown {w w' : World} {g b off : Nat} {cs : List Value} (h : Row w (some ⟨b, off, none⟩) cs) (hg : w.grownBy w' (some g)) (hne : b ≠ g) : Row w' (some ⟨b, off, none⟩) cs := fun hn => by
  obtain ⟨b', off', e, hlt, hc⟩ := h hn
  injection e with e; injection e with e1 e2 e3
  subst e1 e2
  exact ⟨b, off, rfl, Nat.lt_of_lt_of_le hlt hg.size, fun j hj => (hg.cell_far ⟨b, off + j, none⟩ hlt (by simpa using hne)).trans (hc j hj)⟩
theorem Has.grown {w w' : World} {g b : Nat} {cs : Array Value} (h : Has w b cs) (hg : w.grownBy w' (some g)) (hne : b ≠ g) : Has w' b cs :=
  ⟨fun i => (hg.cell_far ⟨b, i, none⟩ h.lt (by simpa using hne)).trans (h.cell i), fun i => (hg.frozen_far ⟨b, i, none⟩ h.lt (by simpa using hne)).trans (h.free i), Nat.lt_of_lt_of_le h.lt hg.size⟩

theorem run_copy_row {P : Program} (w : World) (dT sT ty elem : TypeId) (s b o dLen dCap : Nat) (a : Addr) (sLen sCap : Nat) (cs : List Value)
    (hu : P.underlying dT = some (.slice elem)) (hs : (P.info? elem).map (·.size) = some s) (hn : cs.length = Nat.min sLen dLen * s)
    (hsrc : ∀ j v, cs[j]? = some v → w.cell? (a.add j) = some v) (hc : ∀ j, j < cs.length → (w.cell? ⟨b, o + j, none⟩).isSome = true) (hf : ∀ j, j < cs.length → w.frozen? ⟨b, o + j, none⟩ = false) (h1 : ∀ v ∈ cs, v.oneCell' = true) :
    (Builtin.copy_ #[dT, sT] ty #[.slice (some ⟨b, o, none⟩) dLen dCap, .slice (some a) sLen sCap]).run P w = .ok (goInt (Nat.min sLen dLen)) (w.setCells b o cs) := by
  have hl := run_loadCells_list (P := P) w a cs hsrc
  have hst := run_storeCells_cells (P := P) b o cs 0 w (by simpa using hc) (by simpa using hf) h1
  cases hq : P.info? elem with
  | none => simp [hq] at hs
  | some i =>
    have hi : i.size = s := by simpa [hq] using hs
    rw [hn] at hl
    simp [Builtin.copy_, run_underlying hu, Builtin.lenOf, Builtin.firstCells, sizeOf, typeInfo, hq, hi, hl, hst]

/-- The cells of n zero values. -/
def zrow (z : Value) (n : Nat) : List Value := (Builtin.zeroCells z.cells n).toList
theorem zrow_len (z : Value) (n : Nat) : (zrow z n).length = n * z.cells.size := by unfold zrow; rw [Array.length_toList, size_zeroCells]
theorem zrow_one {z : Value} (n : Nat) (h : ∀ v ∈ z.cells, v.oneCell' = true) : ∀ v ∈ zrow z n, v.oneCell' = true := by
  intro v hv
  unfold zrow Builtin.zeroCells at hv
  simp only [Array.mem_toList_iff, Array.mem_map, Array.mem_range] at hv
  obtain ⟨i, hi, rfl⟩ := hv
  have hpos : 0 < z.cells.size := by
    apply Nat.pos_of_ne_zero; intro h0; rw [h0] at hi; simp at hi
  have hlt : i % z.cells.size < z.cells.size := Nat.mod_lt _ hpos
  rw [getElem!_pos z.cells _ hlt]
  exact h _ (Array.getElem_mem hlt)
theorem run_clear_row {P : Program} (w : World) (t e ty : TypeId) (z : Value) (ht : P.underlying t = some (.slice e)) (hv : ∀ w, (zeroValue e).run P w = .ok z w) (h1 : ∀ v ∈ z.cells, v.oneCell' = true) (b o n c : Nat) (hn : 0 < n)
    (hc : ∀ j, j < n * z.cells.size → (w.cell? ⟨b, o + j, none⟩).isSome = true) (hf : ∀ j, j < n * z.cells.size → w.frozen? ⟨b, o + j, none⟩ = false) :
    (Builtin.clear_ #[t] ty #[.slice (some ⟨b, o, none⟩) n c]).run P w = .ok (.tuple #[]) (w.setCells b o (zrow z n)) := by
  have hst := run_storeCells_cells (P := P) b o (zrow z n) 0 w (by rw [zrow_len]; simpa using hc) (by rw [zrow_len]; simpa using hf) (zrow_one n h1)
  simp only [Nat.add_zero] at hst
  obtain ⟨m, rfl⟩ : ∃ m, n = m + 1 := ⟨n - 1, by omega⟩
  unfold zrow at hst ⊢
  simp [Builtin.clear_, run_underlying ht, hv, hst]

/-- A row of the call's own, its block laid open. -/
theorem owns_open {w : World} {B : Nat} {E : TypeId} {s : Nat} {A : Option Addr} {n c : Nat} {xs : List Value} (h : w.ownsRow B E s (.slice A n c) n xs) (hn : 0 < n) :
    ∃ g cur, A = some ⟨g, 0, none⟩ ∧ B ≤ g ∧ g < w.heap.size ∧ w.heap[g]? = some (.cells cur E (0, 0)) ∧ n ≤ c ∧ c ≤ maxLen ∧ cur.size = c * s ∧ cur.toList.take (n * s) = xs := by
  rcases h.2 with ⟨_, h0⟩ | ⟨g, cap, cur, e, hB, hg, hc1, hc2, hs, ht⟩
  · omega
  · injection e with e1 e2 e3
    subst e1 e3
    exact ⟨g, cur, rfl, hB, (Array.getElem?_eq_some_iff.1 hg).1, hg, hc1, hc2, hs, ht⟩
theorem owns_mk {w : World} {B : Nat} {E : TypeId} {s g n c : Nat} {cur : Array Value} {xs : List Value} (hB : B ≤ g) (hg : w.heap[g]? = some (.cells cur E (0, 0))) (hc1 : n ≤ c) (hc2 : c ≤ maxLen) (hs : cur.size = c * s) (ht : cur.toList.take (n * s) = xs) :
    w.ownsRow B E s (.slice (some ⟨g, 0, none⟩) n c) n xs := by
  refine ⟨?_, .inr ⟨g, c, cur, rfl, hB, hg, hc1, hc2, hs, ht⟩⟩
  rw [← ht, List.length_take, Array.length_toList, hs]
  exact Nat.min_eq_left (Nat.mul_le_mul_right _ hc1)
theorem row_cell {w : World} {g : Nat} {cur : Array Value} {t : TypeId} (hg : w.heap[g]? = some (.cells cur t (0, 0))) (j : Nat) : w.cell? ⟨g, j, none⟩ = cur[j]? := cell_of_row w g j cur t (0, 0) hg
theorem row_free {w : World} {g : Nat} {cur : Array Value} {t : TypeId} (hg : w.heap[g]? = some (.cells cur t (0, 0))) (j : Nat) : w.frozen? ⟨g, j, none⟩ = false := frozen_of_row w g j cur t hg

theorem owns_base {w : World} {B B' : Nat} {E : TypeId} {s : Nat} {v : Value} {n : Nat} {xs : List Value} (h : w.ownsRow B E s v n xs) (hB : B' ≤ B) : w.ownsRow B' E s v n xs := by
  refine ⟨h.1, ?_⟩
  rcases h.2 with h | ⟨g, cap, cur, e, hb, r⟩
  · exact .inl h
  · exact .inr ⟨g, cap, cur, e, Nat.le_trans hB hb, r⟩
theorem Own.base {α : Type} {K : RK α} {E : TypeId} {w : World} {B B' : Nat} {A : Option Addr} {n c : Nat} {l : List α} (h : Own K E w B A n c l) (hB : B' ≤ B) : Own K E w B' A n c l := ⟨h.1, owns_base h.2.1 hB, h.2.2⟩
/-- A box that is written anew, whole. -/
theorem Has.set {w : World} {g : Nat} {cs : Array Value} (h : Has w g cs) (vs : List Value) (hv : vs.length = cs.size) : Has (w.setCells g 0 vs) g vs.toArray := by
  have hsome : ∀ j, j < vs.length → (w.cell? ⟨g, 0 + j, none⟩).isSome = true := fun j hj => by rw [Nat.zero_add, h.cell, Array.getElem?_eq_getElem (by omega)]; rfl
  refine ⟨fun i => ?_, fun i => by rw [World.frozen?_setCells]; exact h.free i, Nat.lt_of_lt_of_le h.lt (setCells_grown g vs 0 w).size⟩
  by_cases hi : i < vs.length
  · have := World.cell?_setCells_in g vs 0 w hsome i hi
    rw [Nat.zero_add] at this
    rw [this]; simp [hi]
  · rw [World.cell?_setCells_out g vs 0 w ⟨g, i, none⟩ (fun _ _ => .inr (by show 0 + vs.length ≤ i; omega)), h.cell, Array.getElem?_eq_none (by omega), Array.getElem?_eq_none (by simp; omega)]
/-- A box of which one cell is written anew. -/
theorem Has.setAt {w : World} {g : Nat} {cs : Array Value} (h : Has w g cs) (o : Nat) (v : Value) (ho : o < cs.size) : Has (w.setCell ⟨g, o, none⟩ v) g (cs.setIfInBounds o v) := by
  have hsome : ∀ j, j < [v].length → (w.cell? ⟨g, o + j, none⟩).isSome = true := fun j hj => by
    simp at hj; subst hj; rw [Nat.add_zero, h.cell, Array.getElem?_eq_getElem ho]; rfl
  refine ⟨fun i => ?_, fun i => ?_, Nat.lt_of_lt_of_le h.lt (setCells_grown g [v] o w).size⟩
  · by_cases hi : i = o
    · subst hi
      have := World.cell?_setCells_in g [v] i w hsome 0 (by simp)
      rw [Nat.add_zero] at this
      rw [show w.setCell ⟨g, i, none⟩ v = w.setCells g i [v] from rfl, this]
      simp [ho]
    · rw [show w.setCell ⟨g, o, none⟩ v = w.setCells g o [v] from rfl, World.cell?_setCells_out g [v] o w ⟨g, i, none⟩ (fun _ _ => by simp only [List.length_singleton]; omega), h.cell, Array.getElem?_setIfInBounds, if_neg (by omega)]
  · rw [show w.setCell ⟨g, o, none⟩ v = w.setCells g o [v] from rfl, World.frozen?_setCells]; exact h.free i
theorem Own.grown {α : Type} {K : RK α} {E : TypeId} {w w' : World} {B g : Nat} {A : Option Addr} {n c : Nat} {l : List α} (h : Own K E w B A n c l) (hg : w.grownBy w' (some g)) (hgB : g < B) (hin : ∀ a ∈ l, K.In w' a) : Own K E w' B A n c l := by
  refine ⟨h.1, h.2.1.kept hg ?_, hin⟩
  cases hv : (Value.slice A n c).ownBlock with
  | none => exact .inl rfl
  | some q => exact .inr (fun e => by injection e with e; have := (h.2.1.lt q hv).1; omega)
theorem Own.apart {α : Type} {K : RK α} {E : TypeId} {w w' : World} {B g : Nat} {A : Option Addr} {n c : Nat} {l : List α} (h : Own K E w B A n c l) (hg : w.grownBy w' (some g)) (hne : (Value.slice A n c).ownBlock ≠ some g) (hin : ∀ a ∈ l, K.In w' a) : Own K E w' B A n c l :=
  ⟨h.1, h.2.1.kept hg (.inr hne), hin⟩
theorem Sl.apart {α : Type} {K : RK α} {w w' : World} {row : Option Nat} {A : Option Addr} {n c : Nat} {l : List α} (h : Sl K w A n c l) (hg : w.grownBy w' row) (hne : ∀ b off, A = some ⟨b, off, none⟩ → some b ≠ row) (hin : ∀ a ∈ l, K.In w' a) : Sl K w' A n c l := by
  refine ⟨h.len, h.cap, h.max, h.adr, fun hn => ?_, hin⟩
  obtain ⟨b, off, rfl, hlt, hc⟩ := h.row hn
  exact ⟨b, off, rfl, Nat.lt_of_lt_of_le hlt hg.size, fun j hj => (hg.cell_far ⟨b, off + j, none⟩ hlt (hne b off rfl)).trans (hc j hj)⟩
/-- What was written in place lies from B on. -/
theorem owns_below {w w' : World} {B : Nat} {E : TypeId} {s : Nat} {v : Value} {n : Nat} {xs : List Value} (h : w.ownsRow B E s v n xs) (hg : w.grownBy w' v.ownBlock) (hB : B ≤ w.heap.size) : Below B w w' :=
  grown_below hg hB (fun k hk => (h.lt k hk).1)

end Go.Proofs.Ytmlgahambecamaa
