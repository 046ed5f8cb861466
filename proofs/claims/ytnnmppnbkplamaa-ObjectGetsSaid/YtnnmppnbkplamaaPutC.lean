/- What Put does to a call's store: a new object. -/
import Derived.Test.YtnnmppnbkplamaaPutE
import Derived.Deep.RegionHeld3
import Derived.Test.YtnnmppnbkplamaaSeg
namespace Go.Proofs.Ytnnmppnbkplamaa
open Go.RowKit Go.Shelf

set_option maxRecDepth 100000 in
set_option maxHeartbeats 40000000 in
theorem put1_new (W : World) (g tb pb ib nb bb i : Nat) (A : Option Addr) (n c : Nat) (l : List Ob) (calls : Int) (A' : Option Addr) (n' c' : Nat) (ft : Int)
    (ht : Has W tb #[.bool false]) (hp : Has W pb #[.pointer (some ⟨g, 0, none⟩)]) (hi : Has W ib #[.int .i64 (i : Int)]) (s : ByteArray) (hn : Has W nb #[.string s]) (Ab : Option Addr) (mb kb : Nat) (bl : List UInt8) (hb : Has W bb #[.slice Ab mb kb]) (hbl : ∀ W', Below g W W' → Sl u8K W' Ab mb kb bl) (hmb : mb ≤ 8192) (hg : Has W g #[.slice A n c, .int .i64 calls, .slice A' n' c', .int .i64 ft]) (ho : Own obK 59 W (g + 1) A n c l) (hn6 : n ≤ 60000) (hin : i ≤ n)
    (hgp : g ≠ pb) (hgi : g ≠ ib) (hpq : ∀ q, (Value.slice A n c).ownBlock = some q → q ≠ pb ∧ q ≠ ib ∧ q ≠ nb ∧ q ≠ bb) (hgn : g ≠ nb) (hgb : g ≠ bb) (D : Nat) (hDg : g < D) (hDq : ∀ q, (Value.slice A n c).ownBlock = some q → q < D) :
    Calls Try.prog 33 #[.pointer (some ⟨tb, 0, none⟩), .pointer (some ⟨pb, 0, none⟩), .pointer (some ⟨ib, 0, none⟩), .pointer (some ⟨nb, 0, none⟩), .pointer (some ⟨bb, 0, none⟩)] W (fun e W' => (∃ v, e = .returned v) ∧ ∃ A5 n5 c5, Has W' g #[.slice A5 n5 c5, .int .i64 calls, .slice A' n' c', .int .i64 ft] ∧ PutE g (l.take i) (l.drop i) s bl (.slice A n c) A5 n5 c5 W W' ∧ ∀ b cs, D ≤ b → Has W b cs → Has W' b cs) := by
  have hgl := hg.lt
  have t0c := ht.cell
  have t0l := ht.lt
  have p0c := hp.cell
  have p0l := hp.lt
  have i0c := hi.cell
  have i0l := hi.lt
  have g0c := hg.cell
  have QL := Lib.hid (fun q (hq : (Value.slice A n c).ownBlock = some q) => (ho.2.1.lt q hq).1)
  have QS := Lib.hid (fun q (hq : (Value.slice A n c).ownBlock = some q) => (ho.2.1.lt q hq).2)
  have PNE : Hid (some pb ≠ (Value.slice A n c).ownBlock) := Lib.hid (fun e => (hpq _ e.symm).1 rfl)
  have INE : Hid (some ib ≠ (Value.slice A n c).ownBlock) := Lib.hid (fun e => (hpq _ e.symm).2.1 rfl)
  have GNE : Hid (some g ≠ (Value.slice A n c).ownBlock) := Lib.hid (fun e => by have := QL.out g e.symm; omega)
  have VNE : Hid ((Value.slice A n c).ownBlock ≠ some W.heap.size) := Lib.hid (fun e => by have := QS.out _ e; omega)
  have B1 : Below W.heap.size W (W.alloc (.cells #[.string ⟨#[]⟩, .slice none 0 0] 59)).drew := (below_alloc1 W _).drew
  have INS : Hid (Calls Try.prog 34 #[.slice A n c, .int .i64 (i : Int), .slice (some ⟨W.heap.size, 0, none⟩) 1 1] (W.alloc (.cells #[.string ⟨#[]⟩, .slice none 0 0] 59)).drew fun e w2 => ∃ A2 c2, e = .returned (.slice A2 (n + 1) c2) ∧
      Has w2 g #[.slice A n c, .int .i64 calls, .slice A' n' c', .int .i64 ft] ∧ Has w2 pb #[.pointer (some ⟨g, 0, none⟩)] ∧ Has w2 ib #[.int .i64 (i : Int)] ∧ InsR g A n c i (l.flatMap obK.cells) calls A' n' c' ft W (w2.setCell ⟨g, 0, none⟩ (.slice A2 (n + 1) c2))) := by
    refine Lib.hid ((insertOb_any (g + 1) A n c 1 i W.heap.size 1 #[.string ⟨#[]⟩, .slice none 0 0] (l.flatMap obK.cells) zOb _ (ho.kept B1).2.1 (RK.flat_one obK l) (Nat.le_trans (by omega) B1.size) (by omega) (by omega) (heap_alloc_new W _) rfl rfl (by decide) VNE.out hin).mono ?_)
    rintro e w2 ⟨A2, c2, rfl, ho2, hg2, hn2⟩
    have G2 := Has.beside (hg.past B1) hg2 GNE.out
    refine ⟨A2, c2, rfl, G2, Has.beside (hp.past B1) hg2 PNE.out, Has.beside (hi.past B1) hg2 INE.out, ins_end B1 hgl QL.out hg2 (fun q hq => ?_) G2 ho2⟩
    rcases hn2 q hq with h | h
    · exact .inl h
    · exact .inr (Nat.le_trans B1.size h)
  have HP := Lib.hid hp
  have HI := Lib.hid hi
  have HN := Lib.hid hn
  have HB := Lib.hid hb
  have HBL := Lib.hid hbl
  have HPQ := Lib.hid hpq
  have HDQ := Lib.hid hDq
  have HLEN := Lib.hid ho.1
  clear hDq
  clear ht hp hi hg ho hpq hn hb hbl
  go_enter Try.func33, Try.ntmps33
  go_wp2_with fail
  refine region_seg (fun w' => w'.cell? ⟨pb, 0, none⟩ = some (.pointer (some ⟨g, 0, none⟩)) ∧ w'.cell? ⟨ib, 0, none⟩ = some (.int .i64 (i : Int)) ∧ w'.cell? ⟨g, 0, none⟩ = some (.slice A n c)) 10 [(0, true), (1, true), (2, true), (3, true), (4, true), (5, true), (6, true), (7, true), (8, false), (9, false)] (by kernel_rfl) (by kernel_rfl) (by simp [go_sem, *]) (fun hHeld => ?_)
  iterate 8
    refine seg_take (v := ?_) (by simp only [List.getElem?_toArray, List.getElem?_cons_succ, List.getElem?_cons_zero]; rfl) (Or.inl ⟨by rfl, ?_⟩) ?_
    rotate_left 1
    · intro w hSw
      try dsimp only at hSw
      go_simp
      try with_reducible rfl
    try simp only [Act.put, List.setIfInBounds_toArray, List.set_cons_zero, List.set_cons_succ]
  refine seg_op (by simp only [List.getElem?_toArray, List.getElem?_cons_succ, List.getElem?_cons_zero]; rfl) (fun K hK => ?_)
  go_wp2_with fail
  refine hK.out _ _ (by simp [go_sem, World.cell?_alloc_past, *]) (fun hHeld => ?_)
  clear hK K
  try simp only [Act.put, List.setIfInBounds_toArray, List.set_cons_zero, List.set_cons_succ]
  refine seg_op (by simp only [List.getElem?_toArray, List.getElem?_cons_succ, List.getElem?_cons_zero]; rfl) (fun K hK => ?_)
  go_wp2_with (go_at_call 34; refine INS.out.mono ?_; rintro e w2 ⟨A2, c2, rfl, hG2, hP2, hI2, hF2⟩; have G2 := Lib.hid hG2; have P2 := Lib.hid hP2; have I2 := Lib.hid hI2; have F2 := Lib.hid hF2; clear hG2 hP2 hI2 hF2 g0c p0c i0c t0c)
  refine hK.out _ _ ⟨P2.out.cell 0, I2.out.cell 0, G2.out.cell 0⟩ (fun hHeld => ?_)
  clear hK K
  try simp only [Act.put, List.setIfInBounds_toArray, List.set_cons_zero, List.set_cons_succ]
  refine seg_tail rfl ?_
  clear hHeld
  have g2c := G2.out.cell
  have g2f := G2.out.free
  have g2l := G2.out.lt
  go_wp2_with fail
  obtain ⟨wc, hwc⟩ : ∃ wc, wc = w2.setCell ⟨g, 0, none⟩ (.slice A2 (n + 1) c2) := ⟨_, rfl⟩
  rw [← hwc]
  have hcut := F2.out
  rw [← hwc] at hcut
  clear hwc g2c g2f g2l G2 P2 I2 F2
  · obtain ⟨A2, c2, h1, h2, h3, h4, h6, h5⟩ := hcut
    have P5 := Lib.hid (h6 _ _ hgp.symm (fun e => (HPQ.out _ e).1 rfl) HP.out)
    have I5 := Lib.hid (h6 _ _ hgi.symm (fun e => (HPQ.out _ e).2.1 rfl) HI.out)
    have N5 := Lib.hid (h6 _ _ hgn.symm (fun e => (HPQ.out _ e).2.2.1 rfl) HN.out)
    have B5 := Lib.hid (h6 _ _ hgb.symm (fun e => (HPQ.out _ e).2.2.2 rfl) HB.out)
    obtain ⟨q, cur, rfl, hqB, hql, hq, hnc, hcm, hcs, htk⟩ := owns_open h2 (by omega)
    have QN : Hid (q ≠ pb ∧ q ≠ ib ∧ q ≠ nb ∧ q ≠ bb ∧ q ≠ g) := by
      have hx := HPQ.out q
      have y1 := HP.out.lt
      have y2 := HI.out.lt
      have y3 := HN.out.lt
      have y4 := HB.out.lt
      rcases h5 q rfl with h | h
      · obtain ⟨z1, z2, z3, z4⟩ := hx h
        exact Lib.hid ⟨z1, z2, z3, z4, by omega⟩
      · exact Lib.hid ⟨by omega, by omega, by omega, by omega, by omega⟩
    have CL := Lib.hid (fun W' (h : Below wc.heap.size wc W') => (cloneBs Ab mb kb bl W' ((HBL.out wc h3).below h) (by omega)))
    have p5 := P5.out.cell
    have p5l := P5.out.lt
    have i5 := I5.out.cell
    have n5 := N5.out.cell
    have b5 := B5.out.cell
    have g5 := h1.cell
    have x0 : (0 : Int) ≤ (i : Int) := by omega
    have x1 : (i : Int) < (n : Int) + 1 := by omega
    have x2 : (i : Int) < ((n + 1 : Nat) : Int) := by omega
    have qc0 : Hid (∀ W', Below wc.heap.size wc W' → W'.cell? ⟨q, i * 2, none⟩ = cur[i * 2]? ∧ W'.cell? ⟨q, i * 2 + 1, none⟩ = cur[i * 2 + 1]? ∧ ∀ j, W'.frozen? ⟨q, j, none⟩ = false) := Lib.hid (fun W' h => by
      have hk : W'.heap[q]? = some (.cells cur 59 (0, 0)) := (h.block q hql).trans hq
      exact ⟨row_cell hk _, row_cell hk _, fun j => row_free hk j⟩)
    obtain ⟨v0, hv0⟩ : ∃ v, cur[i * 2]? = some v := ⟨_, Array.getElem?_eq_getElem (by omega)⟩
    obtain ⟨v1, hv1⟩ : ∃ v, cur[i * 2 + 1]? = some v := ⟨_, Array.getElem?_eq_getElem (by omega)⟩
    rw [hv0, hv1] at qc0
    have G5 := Lib.hid h1
    have H3 := Lib.hid h3
    have H4 := Lib.hid h4
    have H5 := Lib.hid h5
    have H6 := Lib.hid h6
    have HQ := Lib.hid hq
    have HS := Lib.hid hcs
    have HT := Lib.hid htk
    have hqn := QN.out
    clear h1 h2 h3 h4 h5 h6 hq hcs htk hv0 hv1 INS
    go_wp2_with fail
    go_region_held3 (fun w' => (∀ j, w'.cell? ⟨pb, j, none⟩ = #[Value.pointer (some ⟨g, 0, none⟩)][j]?) ∧ (∀ j, w'.cell? ⟨ib, j, none⟩ = #[Value.int .i64 (i : Int)][j]?) ∧ (∀ j, w'.cell? ⟨nb, j, none⟩ = #[Value.string s][j]?) ∧ (∀ j, w'.cell? ⟨bb, j, none⟩ = #[Value.slice Ab mb kb][j]?) ∧ (∀ j, w'.cell? ⟨g, j, none⟩ = #[Value.slice (some ⟨q, 0, none⟩) (n + 1) c2, .int .i64 calls, .slice A' n' c', .int .i64 ft][j]?)) (simp [go_sem, World.cell?_setCell_far, *]) ((go_at_call 35; refine (CL.out _ (Below.refl _ _).drew).mono ?_; rintro e w2 ⟨A3, c3, rfl, hO3, hb3⟩; have BW := (((Below.refl wc.heap.size wc).drew).trans hb3); have O3 := Lib.hid hO3; have p6 := (P5.out.past BW).cell; have i6 := (I5.out.past BW).cell; have n6 := (N5.out.past BW).cell; have b6 := (B5.out.past BW).cell; have g6 := (G5.out.past BW).cell; obtain ⟨q6a, q6b, q6f⟩ := qc0.out w2 BW; have B6 := Lib.hid BW; have q6l : q < w2.heap.size := Nat.lt_of_lt_of_le hql BW.size; clear hO3 hb3 BW p5 i5 n5 b5 g5))
    all_goals (go_end0; refine ⟨⟨_, rfl⟩, some ⟨q, 0, none⟩, n + 1, c2, put_end G5.out H3.out H4.out H5.out H6.out HQ.out hqB HS.out HT.out hnc hcm O3.out B6.out HLEN.out hin hgl hDg HDQ.out _ rfl⟩)

end Go.Proofs.Ytnnmppnbkplamaa
