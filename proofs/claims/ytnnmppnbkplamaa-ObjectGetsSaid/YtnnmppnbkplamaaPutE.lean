/- What Put does to a call's store, in plain Lean. -/
import Derived.Test.YtnnmppnbkplamaaDelC
import Derived.Test.YtnnmppnbkplamaaIng
namespace Go.Proofs.Ytnnmppnbkplamaa
open Go.RowKit Go.Shelf

def zOb : List Value := [.string ⟨#[]⟩, .slice none 0 0]
/-- The call's store at g has one object more, at i, that is nothing yet. -/
def InsR (g : Nat) (A : Option Addr) (n c i : Nat) (xs : List Value) (calls : Int) (A' : Option Addr) (n' c' : Nat) (ft : Int) (W wx : World) : Prop :=
  ∃ A2 c2, Has wx g #[.slice A2 (n + 1) c2, .int .i64 calls, .slice A' n' c', .int .i64 ft] ∧ wx.ownsRow (g + 1) 59 2 (.slice A2 (n + 1) c2) (n + 1) (xs.take (i * 2) ++ zOb ++ xs.drop (i * 2)) ∧
    Below g W wx ∧ (∀ b, b < W.heap.size → b ≠ g → (Value.slice A n c).ownBlock ≠ some b → wx.heap[b]? = W.heap[b]?) ∧ (∀ b cs, b ≠ g → (Value.slice A n c).ownBlock ≠ some b → Has W b cs → Has wx b cs) ∧ (∀ q, (Value.slice A2 (n + 1) c2).ownBlock = some q → (Value.slice A n c).ownBlock = some q ∨ W.heap.size ≤ q)

theorem ins_end {g : Nat} {A : Option Addr} {n c i : Nat} {xs : List Value} {calls : Int} {A' : Option Addr} {n' c' : Nat} {ft : Int} {W wA w2 : World} {A2 : Option Addr} {c2 : Nat}
    (hb : Below W.heap.size W wA) (hgl : g < W.heap.size) (hq : ∀ q, (Value.slice A n c).ownBlock = some q → g + 1 ≤ q) (hg2 : wA.grownBy w2 (Value.slice A n c).ownBlock) (hn2 : ∀ q, (Value.slice A2 (n + 1) c2).ownBlock = some q → (Value.slice A n c).ownBlock = some q ∨ W.heap.size ≤ q)
    (hG : Has w2 g #[.slice A n c, .int .i64 calls, .slice A' n' c', .int .i64 ft]) (ho : w2.ownsRow (g + 1) 59 2 (.slice A2 (n + 1) c2) (n + 1) (xs.take (i * 2) ++ zOb ++ xs.drop (i * 2))) :
    InsR g A n c i xs calls A' n' c' ft W (w2.setCell ⟨g, 0, none⟩ (.slice A2 (n + 1) c2)) := by
  have GS := setCells_grown g [.slice A2 (n + 1) c2] 0 w2
  refine ⟨A2, c2, hG.setAt 0 (.slice A2 (n + 1) c2) (by show 0 < 4; omega), ?_, ?_, fun b hb' hbg hv => ?_, fun b cs hbg hv h => ((h.past hb).beside hg2 (fun e => hv e.symm)).beside GS (by intro e; injection e with e; omega), hn2⟩
  · refine ho.kept GS ?_
    cases hv : (Value.slice A2 (n + 1) c2).ownBlock with
    | none => exact .inl rfl
    | some q => exact .inr (fun e => by injection e with e; have := (ho.lt q hv).1; omega)
  · have b1 : Below g W wA := hb.mono (by omega)
    have b2 : Below g wA w2 := grown_below hg2 (by have := hb.size; omega) (fun q h => by have := hq q h; omega)
    exact (b1.trans b2).trans (grown_below GS (by have := b2.size; have := hb.size; omega) (fun q h => by injection h with h; omega))
  · have hw1 : b < wA.heap.size := Nat.lt_of_lt_of_le hb' hb.size
    exact (GS.block b (Nat.lt_of_lt_of_le hw1 hg2.size) (fun e => hbg (by injection e))).trans ((hg2.block b hw1 (fun e => hv e.symm)).trans (hb.block b hb'))

/-- The objects of a call's store at g are now l1, a new one of that name and those bytes, and l2 (they were at v). -/
def PutE (g : Nat) (l1 l2 : List Ob) (s : ByteArray) (bl : List UInt8) (v : Value) (A5 : Option Addr) (n5 c5 : Nat) (W W' : World) : Prop :=
  ∃ x : Ob, x.name = s ∧ x.bs = bl ∧ Sl u8K W' x.A x.n x.c bl ∧ (∀ b off, x.A = some ⟨b, off, none⟩ → W.heap.size ≤ b) ∧ W'.ownsRow (g + 1) 59 2 (.slice A5 n5 c5) n5 ((l1 ++ x :: l2).flatMap Ob.cells) ∧ (l1 ++ x :: l2).length = n5 ∧
    Below g W W' ∧ ∀ b, b < W.heap.size → b ≠ g → v.ownBlock ≠ some b → W'.heap[b]? = W.heap[b]?

theorem splice_mid {L a z d vs : List Value} {N : Nat} (h : L.take N = a ++ z ++ d) (hv : vs.length = z.length) (hN : N ≤ L.length) : (splice L a.length vs).take N = a ++ vs ++ d := by
  have hl : a.length + z.length + d.length = N := by
    have := congrArg List.length h; simp at this; omega
  have e : L = (a ++ z) ++ (d ++ L.drop N) := by
    conv => lhs; rw [← List.take_append_drop N L, h]
    simp
  have t1 : L.take a.length = a := by rw [e, List.append_assoc, List.take_left]
  have t2 : L.drop (a.length + vs.length) = d ++ L.drop N := by
    conv => lhs; rw [e]
    exact List.drop_left' (by rw [List.length_append, hv])
  unfold splice
  rw [t1, t2, ← List.append_assoc]
  exact List.take_left' (by simp; omega)

theorem put_end {W wc w2 : World} {g i q n c c2 D : Nat} {A : Option Addr} {l : List Ob} {s : ByteArray} {bl : List UInt8} {A3 A' : Option Addr} {mb c3 n' c' : Nat} {calls ft : Int} {cur : Array Value}
    (h1 : Has wc g #[.slice (some ⟨q, 0, none⟩) (n + 1) c2, .int .i64 calls, .slice A' n' c', .int .i64 ft]) (h3 : Below g W wc) (h4 : ∀ (b : Nat), b < W.heap.size → b ≠ g → (Value.slice A n c).ownBlock ≠ some b → wc.heap[b]? = W.heap[b]?)
    (h5 : ∀ p, (Value.slice (some ⟨q, 0, none⟩) (n + 1) c2).ownBlock = some p → (Value.slice A n c).ownBlock = some p ∨ W.heap.size ≤ p) (h6 : ∀ (b : Nat) (cs : Array Value), b ≠ g → (Value.slice A n c).ownBlock ≠ some b → Has W b cs → Has wc b cs)
    (hq : wc.heap[q]? = some (.cells cur 59 (0, 0))) (hqB : g + 1 ≤ q) (hcs : cur.size = c2 * 2) (htk : cur.toList.take ((n + 1) * 2) = (l.flatMap obK.cells).take (i * 2) ++ zOb ++ (l.flatMap obK.cells).drop (i * 2)) (hnc : n + 1 ≤ c2) (hcm : c2 ≤ maxLen)
    (hO : Own u8K 5 w2 wc.heap.size A3 mb c3 bl) (hb : Below wc.heap.size wc w2) (hlen : l.length = n) (hin : i ≤ n) (_hgl : g < W.heap.size) (hDg : g < D) (hDq : ∀ p, (Value.slice A n c).ownBlock = some p → p < D) (W3 : World) (e3 : W3 = w2.setCells q (i * 2) [.string s, .slice A3 mb c3]) :
    Has W3 g #[.slice (some ⟨q, 0, none⟩) (n + 1) c2, .int .i64 calls, .slice A' n' c', .int .i64 ft] ∧ PutE g (l.take i) (l.drop i) s bl (.slice A n c) (some ⟨q, 0, none⟩) (n + 1) c2 W W3 ∧ ∀ b cs, D ≤ b → Has W b cs → Has W3 b cs := by
  have hql : q < wc.heap.size := (Array.getElem?_eq_some_iff.1 hq).1
  have GS : w2.grownBy W3 (some q) := by rw [e3]; exact setCells_grown q _ _ w2
  have hq2 : w2.heap[q]? = some (.cells cur 59 (0, 0)) := (hb.block q hql).trans hq
  have hxl : (l.flatMap obK.cells).length = n * 2 := by rw [flat_len obK.cells obK.size obK.len, hlen]; rfl
  have hq3 : W3.heap[q]? = some (.cells (splice cur.toList (i * 2) [.string s, .slice A3 mb c3]).toArray 59 (0, 0)) := by rw [e3]; exact setCells_heap _ _ w2 cur hq2 (by simp; omega)
  have hbq : ∀ b, b < W.heap.size → (Value.slice A n c).ownBlock ≠ some b → b ≠ q := fun b hbl hv e => by
    rcases h5 q rfl with h | h
    · exact hv (by rw [h, e])
    · omega
  refine ⟨(h1.past hb).beside GS (by intro e; injection e with e; omega), ⟨⟨s, A3, mb, c3, bl⟩, rfl, rfl, (hO.grown GS hql (fun _ _ => trivial)).sl, fun b off e => ?_, ?_, ?_, ?_, fun b hb' hbg hv => ?_⟩, fun b cs hDb h => ?_⟩
  · exact Nat.le_trans h3.size (hO.lt e).1
  · refine owns_mk hqB hq3 hnc hcm (by rw [List.size_toArray, splice_len (by simp; omega), Array.length_toList, hcs]) ?_
    rw [List.toList_toArray]
    have e1 : ((l.flatMap obK.cells).take (i * 2)).length = i * 2 := by rw [List.length_take, hxl]; omega
    have := splice_mid (vs := [.string s, .slice A3 mb c3]) htk rfl (by rw [Array.length_toList, hcs]; omega)
    rw [e1] at this
    rw [this, List.flatMap_append, List.flatMap_cons, show (2 : Nat) = obK.size from rfl, flat_take obK.cells obK.size obK.len, flat_drop obK.cells obK.size obK.len, List.append_assoc]
    rfl
  · simp; omega
  · exact (h3.trans (hb.mono (by have := h3.size; omega))).trans (grown_below GS (by have := h3.size; have := hb.size; omega) (fun p hp => by injection hp with hp; omega))
  · have hs := Nat.lt_of_lt_of_le hb' h3.size
    exact (GS.block b (Nat.lt_of_lt_of_le hs hb.size) (fun e => hbq b hb' hv (by injection e))).trans ((hb.block b hs).trans (h4 b hb' hbg hv))
  · have hv : (Value.slice A n c).ownBlock ≠ some b := fun e => by have := hDq b e; omega
    exact ((h6 b cs (by omega) hv h).past hb).beside GS (fun e => hbq b h.lt hv (by injection e))

end Go.Proofs.Ytnnmppnbkplamaa
