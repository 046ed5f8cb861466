/- What calls are given and hand back: coordinators that lie in memory, said by what they are. -/
import Derived.Test.YtnigjchgpmladaaCor
import Derived.Test.YtnigjchgpmladaaBas
import Derived.Test.YtnigjchgpmladaaLbs
namespace Go.Proofs.Ytnigjchgpmladaa
open Go.RowKit

/-- A coordinator lies in memory, and is this one. -/
def Tc.Is (w : World) (o : Tc) (V : Cv) : Prop := Tc.At w o ∧ o.val = V
theorem Tc.Is.past {w w' : World} {o : Tc} {V : Cv} (h : Tc.Is w o V) (hb : Below w.heap.size w w') : Tc.Is w' o V := ⟨h.1.below hb, h.2⟩
theorem noO_is (w : World) : Tc.Is w noO noC := ⟨noO_at w, noO_val⟩
def Tx.Is (w : World) (x : Tx) (v : Tv) : Prop := Tx.In w x ∧ x.val = v
theorem Tx.In.past {w w' : World} {x : Tx} (h : Tx.In w x) (hb : Below w.heap.size w w') : Tx.In w' x := ⟨h.id, h.p.below hb, h.g.below hb⟩
theorem Tx.Is.past {w w' : World} {x : Tx} {v : Tv} (h : Tx.Is w x v) (hb : Below w.heap.size w w') : Tx.Is w' x v := ⟨h.1.past hb, h.2⟩
theorem noX_is (w : World) : Tx.Is w noX noT := ⟨noX_in w, noX_val⟩
/-- There are few. -/
structure FewV (V : Cv) : Prop where
  n : V.L.length ≤ 50000
  l : ∀ x ∈ V.L, x.P.length ≤ 60000 ∧ x.G.length ≤ 60000
theorem Fine.fewV {V : Cv} (h : Fine V) : FewV V := ⟨by have := h.len; omega, fun x hx => by have := h.few x hx; omega⟩
theorem noC_few : FewV noC := ⟨by decide, by simp [noC]⟩
theorem Tc.At.num {w : World} {o : Tc} (h : Tc.At w o) : o.val.L.length = o.n := by show (o.L.map Tx.val).length = _; rw [List.length_map]; exact Sl.len h
theorem Tc.At.few {w : World} {o : Tc} (h : Tc.At w o) (hf : FewV o.val) : o.n ≤ 50000 ∧ ∀ x ∈ o.L, x.Pn ≤ 60000 ∧ x.Gn ≤ 60000 := by
  refine ⟨by rw [← h.num]; exact hf.n, fun x hx => ?_⟩
  have h1 := hf.l x.val (List.mem_map_of_mem hx)
  have h2 : Tx.In w x := Sl.each h x hx
  rw [← h2.p.len, ← h2.g.len]
  exact h1
theorem Tc.Is.num {w : World} {o : Tc} {V : Cv} (h : Tc.Is w o V) : o.n = V.L.length := by rw [← h.2]; exact h.1.num.symm

/-- What a call that makes a coordinator hands back. -/
def CoV (w : World) (V : Cv) (e : Ending) (w' : World) : Prop := ∃ q : Tc, e = .returned q.v ∧ Tc.Is w' q V ∧ Below w.heap.size w w'
def CoRes (w : World) (r : Cv × Int) (e : Ending) (w' : World) : Prop := ∃ q : Tc, e = .returned (.tuple #[q.v, .int .i64 r.2]) ∧ Tc.Is w' q r.1 ∧ Below w.heap.size w w'
def InRes (w : World) (r : Cv × Int × Int × Int) (e : Ending) (w' : World) : Prop := ∃ q : Tc, e = .returned (.tuple #[q.v, .int .i64 r.2.1, .int .i64 r.2.2.1, .int .i64 r.2.2.2]) ∧ Tc.Is w' q r.1 ∧ Below w.heap.size w w'
def FindRes (w : World) (r : Tv × Bool) (e : Ending) (w' : World) : Prop := ∃ x : Tx, e = .returned (.tuple #[x.v, .bool r.2]) ∧ Tx.Is w' x r.1 ∧ Below w.heap.size w w'
def LsRes (w : World) (L : List Tv) (e : Ending) (w' : World) : Prop := ∃ (A : Option Addr) (n c : Nat) (l : List Tx), e = .returned (.slice A n c) ∧ Sl txK w' A n c l ∧ l.map Tx.val = L ∧ Below w.heap.size w w'
def StRes (w : World) (L : List ByteArray) (e : Ending) (w' : World) : Prop := ∃ (A : Option Addr) (n c : Nat), e = .returned (.slice A n c) ∧ Sl strK w' A n c L ∧ Below w.heap.size w w'
theorem CoRes.mk {w w' : World} {r : Cv × Int} (q : Tc) {c : Int} (h1 : r = (q.val, c)) (h2 : Tc.At w' q) (h3 : Below w.heap.size w w') : CoRes w r (.returned (.tuple #[q.v, .int .i64 c])) w' := ⟨q, by rw [h1], ⟨h2, by rw [h1]⟩, h3⟩
theorem CoRes.no {w w' : World} {r : Cv × Int} {c : Int} (h1 : r = (noC, c)) (h3 : Below w.heap.size w w') : CoRes w r (.returned (.tuple #[noO.v, .int .i64 c])) w' := CoRes.mk noO h1 (noO_at _) h3
theorem CoRes.of {w w' : World} {r : Cv × Int} {q : Tc} {V : Cv} {c : Int} (h1 : r = (V, c)) (h2 : Tc.Is w' q V) (h3 : Below w.heap.size w w') : CoRes w r (.returned (.tuple #[q.v, .int .i64 c])) w' := ⟨q, by rw [h1], by rw [h1]; exact h2, h3⟩
theorem InRes.of {w w' : World} {r : Cv × Int × Int × Int} {q : Tc} {V : Cv} {a b c : Int} (h1 : r = (V, a, b, c)) (h2 : Tc.Is w' q V) (h3 : Below w.heap.size w w') : InRes w r (.returned (.tuple #[q.v, .int .i64 a, .int .i64 b, .int .i64 c])) w' := ⟨q, by rw [h1], by rw [h1]; exact h2, h3⟩
theorem InRes.no {w w' : World} {r : Cv × Int × Int × Int} {c : Int} (h1 : r = (noC, 0, 0, c)) (h3 : Below w.heap.size w w') : InRes w r (.returned (.tuple #[noO.v, .int .i64 0, .int .i64 0, .int .i64 c])) w' := InRes.of h1 (noO_is _) h3

/-- A list with one in another one's place. -/
theorem set_mid {α : Type} {l : List α} {i : Nat} (hi : i < l.length) (x : α) : l.take i ++ x :: l.drop (i + 1) = l.set i x := by
  rw [List.set_eq_take_append_cons_drop, if_pos hi]
/-- A row of producers of the call's own, of which one is written anew: what lies in memory ahead of it stays. -/
theorem own_setX {w w0 : World} {B : Nat} {A : Option Addr} {n c i : Nat} {l : List Tx} (h : Own txK 33 w B A n c l) (hw : w0.heap.size ≤ B) (hold : ∀ a ∈ l, Tx.In w0 a) (hb0 : Below w0.heap.size w0 w) (hi : i < n) (x : Tx) (hx : Tx.In w0 x) :
    ∃ g, A = some ⟨g, 0, none⟩ ∧ B ≤ g ∧ g < w.heap.size ∧ (∀ j, w.frozen? ⟨g, j, none⟩ = false) ∧ (n ≤ c ∧ c ≤ 9223372036854775807) ∧ (∀ j, j < 8 → (w.cell? ⟨g, i * 8 + j, none⟩).isSome = true) ∧
      Own txK 33 (w.setCells g (i * 8) x.cells) B A n c (l.set i x) ∧ w.grownBy (w.setCells g (i * 8) x.cells) (some g) := by
  obtain ⟨g, cur, rfl, hB, hgl, hg, hnc, hcm, hcs, htk⟩ := owns_open h.2.1 (by omega)
  have hlen := h.1
  have hil : i < l.length := by omega
  have hcl : x.cells.length = 8 := rfl
  have hfit : i * 8 + x.cells.length ≤ cur.size := by
    rw [hcl, hcs]; show i * 8 + 8 ≤ c * 8; omega
  have hgr := setCells_grown g x.cells (i * 8) w
  have hb1 : Below w0.heap.size w0 (w.setCells g (i * 8) x.cells) := hb0.grown hgr (hb0.size) (fun k hk => by injection hk with hk; omega)
  refine ⟨g, rfl, hB, hgl, fun j => row_free hg j, ⟨hnc, by simpa [maxLen] using hcm⟩, fun j hj => ?_, ⟨?_, ?_, ?_⟩, hgr⟩
  · rw [row_cell hg, Array.getElem?_eq_getElem (by rw [hcs]; show i * 8 + j < c * 8; omega)]; rfl
  · rw [List.length_set]; exact hlen
  · have hg2 := setCells_heap x.cells (i * 8) w cur hg hfit
    refine owns_mk hB hg2 hnc hcm (by rw [List.size_toArray, splice_len (by rw [Array.length_toList]; exact hfit), Array.length_toList, hcs]) ?_
    have e0 : l = l.take i ++ (l[i] :: l.drop (i + 1)) := by rw [List.getElem_cons_drop, List.take_append_drop]
    have e1 : ((l.take i).flatMap txK.cells).length = i * 8 := by rw [flat_len txK.cells txK.size txK.len, List.length_take, Nat.min_eq_left (by omega)]; rfl
    have htk' : cur.toList.take (n * 8) = (l.take i).flatMap txK.cells ++ txK.cells l[i] ++ (l.drop (i + 1)).flatMap txK.cells := by
      rw [show n * 8 = n * txK.size from rfl, htk]
      conv => lhs; rw [e0]
      rw [List.flatMap_append, List.flatMap_cons, List.append_assoc]
    have := splice_mid (vs := x.cells) htk' (by rw [txK.len]; rfl) (by rw [Array.length_toList, hcs]; show n * 8 ≤ c * 8; omega)
    rw [e1] at this
    rw [List.toList_toArray, show n * txK.size = n * 8 from rfl, this, ← set_mid hil, List.flatMap_append, List.flatMap_cons, List.append_assoc]
    rfl
  · intro a ha
    rcases mem_set_cases ha with rfl | ha
    · exact hx.past hb1
    · exact (hold a ha).past hb1

/-- A row whose first cell is a text does not lie in a box that holds none. -/
theorem Row.beside {w w' : World} {A : Option Addr} {cs : List Value} {g : Nat} {box : Array Value} (h : Row w A cs) (hs : cs ≠ [] → ∃ s : ByteArray, cs[0]? = some (Value.string s)) (hb : Has w g box) (hn : ∀ (i : Nat) (s : ByteArray), box[i]? ≠ some (Value.string s)) (hg : w.grownBy w' (some g)) : Row w' A cs := fun hne => by
  obtain ⟨b, off, rfl, hlt, hc⟩ := h hne
  have hbg : b ≠ g := fun e => by
    subst e
    obtain ⟨s, e0⟩ := hs hne
    have := hc 0 (List.length_pos_iff.2 hne)
    rw [Nat.add_zero, hb.cell, e0] at this
    exact hn _ _ this
  exact ⟨b, off, rfl, Nat.lt_of_lt_of_le hlt hg.size, fun j hj => (hg.cell_far ⟨b, off + j, none⟩ hlt (by simpa using hbg)).trans (hc j hj)⟩
theorem Sl.beside {α : Type} {K : RK α} {w w' : World} {A : Option Addr} {n c : Nat} {l : List α} {g : Nat} {box : Array Value} (h : Sl K w A n c l) (hs : ∀ a, ∃ s : ByteArray, (K.cells a)[0]? = some (Value.string s)) (hb : Has w g box) (hn : ∀ (i : Nat) (s : ByteArray), box[i]? ≠ some (Value.string s)) (hg : w.grownBy w' (some g)) (hin : ∀ a ∈ l, K.In w' a) : Sl K w' A n c l := by
  refine ⟨h.len, h.cap, h.max, h.adr, h.row.beside (fun hne => ?_) hb hn hg, hin⟩
  cases l with
  | nil => exact absurd rfl hne
  | cons a l =>
    obtain ⟨s, e⟩ := hs a
    exact ⟨s, by rw [List.flatMap_cons, List.getElem?_append_left (by rw [K.len]; exact K.pos)]; exact e⟩
theorem Tx.In.beside {w w' : World} {x : Tx} {g : Nat} {box : Array Value} (h : Tx.In w x) (hb : Has w g box) (hn : ∀ (i : Nat) (s : ByteArray), box[i]? ≠ some (Value.string s)) (hg : w.grownBy w' (some g)) : Tx.In w' x :=
  ⟨h.id, h.p.beside (fun _a => ⟨_, rfl⟩) hb hn hg (fun a ha => h.p.each a ha), h.g.beside (fun _a => ⟨_, rfl⟩) hb hn hg (fun a ha => h.g.each a ha)⟩
theorem tc_texts (a : Int) (A : Option Addr) (n c : Nat) : ∀ (i : Nat) (s : ByteArray), (#[Value.int .i64 a, .slice A n c] : Array Value)[i]? ≠ some (.string s)
  | 0, s, h => by simp at h
  | 1, s, h => by simp at h
  | i + 2, s, h => by simp at h
theorem Tc.At.beside {w w' : World} {q : Tc} {g : Nat} {box : Array Value} (h : Tc.At w q) (hb : Has w g box) (hn : ∀ (i : Nat) (s : ByteArray), box[i]? ≠ some (Value.string s)) (hg : w.grownBy w' (some g)) : Tc.At w' q :=
  Sl.beside h (fun _a => ⟨_, rfl⟩) hb hn hg (fun a ha => (show Tx.In w a from Sl.each h a ha).beside hb hn hg)
theorem Tc.Is.beside {w w' : World} {q : Tc} {V : Cv} {g : Nat} {box : Array Value} (h : Tc.Is w q V) (hb : Has w g box) (hn : ∀ (i : Nat) (s : ByteArray), box[i]? ≠ some (Value.string s)) (hg : w.grownBy w' (some g)) : Tc.Is w' q V := ⟨h.1.beside hb hn hg, h.2⟩

end Go.Proofs.Ytnigjchgpmladaa
