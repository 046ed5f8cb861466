/- What Put does to a call's store: an object that is there is put anew. -/
import Derived.Test.YtnnmppnbkplamaaPutE
import Derived.Deep.RegionHeld3
namespace Go.Proofs.Ytnnmppnbkplamaa
open Go.RowKit Go.Shelf

theorem put_over {W w2 : World} {g i q n c D : Nat} {l : List Ob} {s : ByteArray} {bl : List UInt8} {A3 A' : Option Addr} {mb c3 n' c' : Nat} {calls ft : Int} {cur : Array Value}
    (h1 : Has W g #[.slice (some ⟨q, 0, none⟩) n c, .int .i64 calls, .slice A' n' c', .int .i64 ft])
    (hq : W.heap[q]? = some (.cells cur 59 (0, 0))) (hqB : g + 1 ≤ q) (hcs : cur.size = c * 2) (htk : cur.toList.take (n * 2) = l.flatMap obK.cells) (hnc : n ≤ c) (hcm : c ≤ maxLen)
    (hO : Own u8K 5 w2 W.heap.size A3 mb c3 bl) (hb : Below W.heap.size W w2) (hlen : l.length = n) (hin : i < n) (hgl : g < W.heap.size) (hqD : q < D) (W3 : World) (e3 : W3 = w2.setCells q (i * 2) [.string s, .slice A3 mb c3]) :
    Has W3 g #[.slice (some ⟨q, 0, none⟩) n c, .int .i64 calls, .slice A' n' c', .int .i64 ft] ∧ PutE g (l.take i) (l.drop (i + 1)) s bl (.slice (some ⟨q, 0, none⟩) n c) (some ⟨q, 0, none⟩) n c W W3 ∧ ∀ b cs, D ≤ b → Has W b cs → Has W3 b cs := by
  have hql : q < W.heap.size := (Array.getElem?_eq_some_iff.1 hq).1
  have GS : w2.grownBy W3 (some q) := by rw [e3]; exact setCells_grown q _ _ w2
  have hq2 : w2.heap[q]? = some (.cells cur 59 (0, 0)) := (hb.block q hql).trans hq
  have hil : i < l.length := by omega
  have hq3 : W3.heap[q]? = some (.cells (splice cur.toList (i * 2) [.string s, .slice A3 mb c3]).toArray 59 (0, 0)) := by rw [e3]; exact setCells_heap _ _ w2 cur hq2 (by simp; omega)
  refine ⟨(h1.past hb).beside GS (by intro e; injection e with e; omega), ⟨⟨s, A3, mb, c3, bl⟩, rfl, rfl, (hO.grown GS hql (fun _ _ => trivial)).sl, fun b off e => (hO.lt e).1, ?_, ?_, ?_, fun b hb' hbg hv => ?_⟩, fun b cs hDb h => ?_⟩
  · refine owns_mk hqB hq3 hnc hcm (by rw [List.size_toArray, splice_len (by simp; omega), Array.length_toList, hcs]) ?_
    rw [List.toList_toArray]
    have e0 : l = l.take i ++ (l[i] :: l.drop (i + 1)) := by rw [List.getElem_cons_drop, List.take_append_drop]
    have e1 : ((l.take i).flatMap obK.cells).length = i * 2 := by rw [flat_len obK.cells obK.size obK.len, List.length_take, Nat.min_eq_left (by omega)]; rfl
    have htk' : cur.toList.take (n * 2) = (l.take i).flatMap obK.cells ++ obK.cells l[i] ++ (l.drop (i + 1)).flatMap obK.cells := by
      rw [htk]
      conv => lhs; rw [e0]
      rw [List.flatMap_append, List.flatMap_cons, List.append_assoc]
    have := splice_mid (vs := [.string s, .slice A3 mb c3]) htk' rfl (by rw [Array.length_toList, hcs]; omega)
    rw [e1] at this
    rw [this, List.flatMap_append, List.flatMap_cons, List.append_assoc]
    rfl
  · simp; omega
  · exact (hb.mono (by omega)).trans (grown_below GS (by have := hb.size; omega) (fun p hp => by injection hp with hp; omega))
  · exact (GS.block b (Nat.lt_of_lt_of_le hb' hb.size) (fun e => hv (by injection e with e; rw [e]; rfl))).trans (hb.block b hb')
  · exact (h.past hb).beside GS (fun e => by injection e with e; omega)

set_option maxRecDepth 100000 in
set_option maxHeartbeats 40000000 in
theorem put1_old (W : World) (g tb pb ib nb bb i : Nat) (A : Option Addr) (n c : Nat) (l : List Ob) (calls : Int) (A' : Option Addr) (n' c' : Nat) (ft : Int)
    (ht : Has W tb #[.bool true]) (hp : Has W pb #[.pointer (some ⟨g, 0, none⟩)]) (hi : Has W ib #[.int .i64 (i : Int)]) (s : ByteArray) (hn : Has W nb #[.string s]) (Ab : Option Addr) (mb kb : Nat) (bl : List UInt8) (hb : Has W bb #[.slice Ab mb kb]) (hbl : ∀ W', Below g W W' → Sl u8K W' Ab mb kb bl) (hmb : mb ≤ 8192) (hg : Has W g #[.slice A n c, .int .i64 calls, .slice A' n' c', .int .i64 ft]) (ho : Own obK 59 W (g + 1) A n c l) (hn6 : n ≤ 60000) (hin : i < n)
    (_hgp : g ≠ pb) (_hgi : g ≠ ib) (hpq : ∀ q, (Value.slice A n c).ownBlock = some q → q ≠ pb ∧ q ≠ ib ∧ q ≠ nb ∧ q ≠ bb) (_hgn : g ≠ nb) (_hgb : g ≠ bb) (D : Nat) (_hDg : g < D) (hDq : ∀ q, (Value.slice A n c).ownBlock = some q → q < D) :
    Calls Try.prog 33 #[.pointer (some ⟨tb, 0, none⟩), .pointer (some ⟨pb, 0, none⟩), .pointer (some ⟨ib, 0, none⟩), .pointer (some ⟨nb, 0, none⟩), .pointer (some ⟨bb, 0, none⟩)] W (fun e W' => (∃ v, e = .returned v) ∧ ∃ A5 n5 c5, Has W' g #[.slice A5 n5 c5, .int .i64 calls, .slice A' n' c', .int .i64 ft] ∧ PutE g (l.take i) (l.drop (i + 1)) s bl (.slice A n c) A5 n5 c5 W W' ∧ ∀ b cs, D ≤ b → Has W b cs → Has W' b cs) := by
  have hgl := hg.lt
  have t0c := ht.cell
  have t0l := ht.lt
  have p0c := hp.cell
  have p0l := hp.lt
  have i0c := hi.cell
  have i0l := hi.lt
  have g0c := hg.cell
  obtain ⟨q, cur, rfl, hqB, hql, hq, hnc, hcm, hcs, htk⟩ := owns_open (show W.ownsRow (g + 1) 59 2 (.slice A n c) n (l.flatMap obK.cells) from ho.2.1) (by omega)
  have HLEN := Lib.hid ho.1
  have QN : Hid (q ≠ pb ∧ q ≠ ib ∧ q ≠ nb ∧ q ≠ bb ∧ q ≠ g) := by
    obtain ⟨z1, z2, z3, z4⟩ := hpq q rfl
    exact Lib.hid ⟨z1, z2, z3, z4, by omega⟩
  have HDQ := Lib.hid (hDq q rfl)
  have P5 := Lib.hid hp
  have I5 := Lib.hid hi
  have N5 := Lib.hid hn
  have B5 := Lib.hid hb
  have CL := Lib.hid (fun W' (h : Below W.heap.size W W') => (cloneBs Ab mb kb bl W' ((hbl W (Below.refl _ _)).below h) (by omega)))
  have n5 := N5.out.cell
  have b5 := B5.out.cell
  have x0 : (0 : Int) ≤ (i : Int) := by omega
  have x1 : (i : Int) < (n : Int) := by omega
  have qc0 : Hid (∀ W', Below W.heap.size W W' → W'.cell? ⟨q, i * 2, none⟩ = cur[i * 2]? ∧ W'.cell? ⟨q, i * 2 + 1, none⟩ = cur[i * 2 + 1]? ∧ ∀ j, W'.frozen? ⟨q, j, none⟩ = false) := Lib.hid (fun W' h => by
    have hk : W'.heap[q]? = some (.cells cur 59 (0, 0)) := (h.block q hql).trans hq
    exact ⟨row_cell hk _, row_cell hk _, fun j => row_free hk j⟩)
  obtain ⟨v0, hv0⟩ : ∃ v, cur[i * 2]? = some v := ⟨_, Array.getElem?_eq_getElem (by omega)⟩
  obtain ⟨v1, hv1⟩ : ∃ v, cur[i * 2 + 1]? = some v := ⟨_, Array.getElem?_eq_getElem (by omega)⟩
  rw [hv0, hv1] at qc0
  have G5 := Lib.hid hg
  have HQ := Lib.hid hq
  have HS := Lib.hid hcs
  have HT := Lib.hid htk
  have hqn := QN.out
  clear hg hq hcs htk hv0 hv1 ht hp hi hn hb hbl hpq ho hDq
  go_enter Try.func33, Try.ntmps33
  go_wp2_with fail
  go_region_held3 (fun w' => (∀ j, w'.cell? ⟨pb, j, none⟩ = #[Value.pointer (some ⟨g, 0, none⟩)][j]?) ∧ (∀ j, w'.cell? ⟨ib, j, none⟩ = #[Value.int .i64 (i : Int)][j]?) ∧ (∀ j, w'.cell? ⟨nb, j, none⟩ = #[Value.string s][j]?) ∧ (∀ j, w'.cell? ⟨bb, j, none⟩ = #[Value.slice Ab mb kb][j]?) ∧ (∀ j, w'.cell? ⟨g, j, none⟩ = #[Value.slice (some ⟨q, 0, none⟩) n c, .int .i64 calls, .slice A' n' c', .int .i64 ft][j]?)) (simp [go_sem, World.cell?_setCell_far, *]) ((go_at_call 35; refine (CL.out _ (Below.refl _ _).drew).mono ?_; rintro e w2 ⟨A3, c3, rfl, hO3, hb3⟩; have BW := (((Below.refl W.heap.size W).drew).trans hb3); have O3 := Lib.hid hO3; have p6 := (P5.out.past BW).cell; have i6 := (I5.out.past BW).cell; have n6 := (N5.out.past BW).cell; have b6 := (B5.out.past BW).cell; have g6 := (G5.out.past BW).cell; obtain ⟨q6a, q6b, q6f⟩ := qc0.out w2 BW; have B6 := Lib.hid BW; have q6l : q < w2.heap.size := Nat.lt_of_lt_of_le hql BW.size; clear hO3 hb3 BW t0c p0c i0c n5 b5 g0c))
  all_goals (go_end0; refine ⟨⟨_, rfl⟩, some ⟨q, 0, none⟩, n, c, put_over G5.out HQ.out hqB HS.out HT.out hnc hcm O3.out B6.out HLEN.out hin hgl HDQ.out _ rfl⟩)

end Go.Proofs.Ytnnmppnbkplamaa
