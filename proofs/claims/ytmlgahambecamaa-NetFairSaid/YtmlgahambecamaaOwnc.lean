/- A net's own copy. -/
import Derived.Test.YtmlgahambecamaaCln
import Derived.Test.YtmlgahambecamaaInp
import Derived.Test.YtmlgahambecamaaPlain
import Derived.Test.YtmlgahambecamaaSeg
import Derived.Shelf.Abstract
namespace Go.Proofs.Ytmlgahambecamaa
open Go.RowKit Go.Shelf

/-- The same net, elsewhere. -/
structure Nt.Like (o q : Nt) : Prop where
  now : q.now = o.now
  next : q.next = o.next
  Ln : q.Ln = o.Ln
  Sn : q.Sn = o.Sn
  Cn : q.Cn = o.Cn
  Kn : q.Kn = o.Kn
  L : q.L = o.L
  S : q.S = o.S
  C : q.C = o.C
  K : q.K = o.K
/-- Its rows lie in blocks of their own. -/
def Nt.Apart (q : Nt) : Prop := (∀ b, (Value.slice q.LA q.Ln q.Lc).ownBlock = some b → (Value.slice q.SA q.Sn q.Sc).ownBlock ≠ some b ∧ (Value.slice q.CA q.Cn q.Cc).ownBlock ≠ some b ∧ (Value.slice q.KA q.Kn q.Kc).ownBlock ≠ some b) ∧
  (∀ b, (Value.slice q.CA q.Cn q.Cc).ownBlock = some b → (Value.slice q.SA q.Sn q.Sc).ownBlock ≠ some b ∧ (Value.slice q.KA q.Kn q.Kc).ownBlock ≠ some b)
theorem Nt.Like.val {o q : Nt} (h : Nt.Like o q) : q.val = o.val := by unfold Nt.val; rw [h.now, h.next, h.L, h.S, h.C, h.K]

set_option maxRecDepth 100000 in
set_option maxHeartbeats 8000000 in
theorem own_apart (o : Nt) (w : World) (ho : Nt.At w o) (hf : o.Few) : Calls Try.prog 33 #[o.v] w fun e w' => ∃ q : Nt, e = .returned q.v ∧ Nt.Like o q ∧ Nt.Own w' w.heap.size q ∧ Nt.Apart q ∧ Below w.heap.size w w' := by
  have HO := Lib.hid ho
  have HF := Lib.hid hf
  have B0 := Lib.hid (show Below w.heap.size w ((w.alloc (.cells #[.int .i64 o.now, .int .i64 o.next, .slice o.LA o.Ln o.Lc, .slice o.SA o.Sn o.Sc, .slice o.CA o.Cn o.Cc, .slice o.KA o.Kn o.Kc] 27)).alloc (.cells #[.int .i64 0, .int .i64 0, .slice none 0 0, .slice none 0 0, .slice none 0 0, .slice none 0 0] 27)).drew from (((Below.refl _ w).alloc (Nat.le_refl _) _).alloc (by simp) _).drew)
  have N0 := Lib.hid (((Has.newAt w #[.int .i64 o.now, .int .i64 o.next, .slice o.LA o.Ln o.Lc, .slice o.SA o.Sn o.Sc, .slice o.CA o.Cn o.Cc, .slice o.KA o.Kn o.Kc] 27 rfl).alloc (.cells #[.int .i64 0, .int .i64 0, .slice none 0 0, .slice none 0 0, .slice none 0 0, .slice none 0 0] 27)).drew)
  have Z0 := Lib.hid ((Has.newAt (w.alloc (.cells #[.int .i64 o.now, .int .i64 o.next, .slice o.LA o.Ln o.Lc, .slice o.SA o.Sn o.Sc, .slice o.CA o.Cn o.Cc, .slice o.KA o.Kn o.Kc] 27)) #[.int .i64 0, .int .i64 0, .slice none 0 0, .slice none 0 0, .slice none 0 0, .slice none 0 0] 27 (g := w.heap.size + 1) (by simp)).drew)
  have S0 := Lib.hid (show w.heap.size + 2 ≤ ((w.alloc (.cells #[.int .i64 o.now, .int .i64 o.next, .slice o.LA o.Ln o.Lc, .slice o.SA o.Sn o.Sc, .slice o.CA o.Cn o.Cc, .slice o.KA o.Kn o.Kc] 27)).alloc (.cells #[.int .i64 0, .int .i64 0, .slice none 0 0, .slice none 0 0, .slice none 0 0, .slice none 0 0] 27)).drew.heap.size from Nat.le_of_eq (by simp))
  have hk1 := ho.l.cap
  have hk2 := ho.l.max
  clear ho hf
  go_enter Try.func33, Try.ntmps33
  go_wp2_with fail
  refine region_seg (fun w' => ∀ i, w'.cell? ⟨w.heap.size, i, none⟩ = (#[.int .i64 o.now, .int .i64 o.next, .slice o.LA o.Ln o.Lc, .slice o.SA o.Sn o.Sc, .slice o.CA o.Cn o.Cc, .slice o.KA o.Kn o.Kc] : Array Value)[i]?) 13 [(0, true), (1, true), (3, true), (4, true), (6, true), (7, true), (9, true), (10, true), (2, false), (12, true), (5, false), (8, false), (11, false)] (by kernel_rfl) (by kernel_rfl) N0.out.cell (fun hHeld => ?_)
  iterate 8
    refine seg_take (v := ?_) (by simp only [List.getElem?_toArray, List.getElem?_cons_succ, List.getElem?_cons_zero]; rfl) (Or.inl ⟨by rfl, ?_⟩) ?_
    rotate_left 1
    · intro w hSw
      try dsimp only at hSw
      go_simp
      try with_reducible rfl
    try simp only [Act.put, List.setIfInBounds_toArray, List.set_cons_zero, List.set_cons_succ]
  refine seg_op (by simp only [List.getElem?_toArray, List.getElem?_cons_succ, List.getElem?_cons_zero]; rfl) (fun K hK => ?_)
  go_wp2_with (go_at_call 55; refine (cloneM o.LA o.Ln o.Lc o.L _ (HO.out.l.below B0.out) (by have := HF.out.l; omega)).mono ?_; rintro e w1 ⟨A1, c1, rfl, hO, hb⟩; have B1 := Lib.hid (below_from hb B0.out B0.out.size); have N1 := Lib.hid (N0.out.past hb); have Z1 := Lib.hid (Z0.out.past hb); have S1 := Lib.hid (Nat.le_trans S0.out hb.size); have L1 := Lib.hid (hO.2.1.lt); have ZK1 := Lib.hid hb.size; have O1_1 := Lib.hid (show Own mgK 40 w1 (w.heap.size + 2) A1 o.Ln c1 _ from hO.base S0.out); clear hO hb)
  clear hHeld
  refine hK.out _ _ N1.out.cell (fun hHeld => ?_)
  clear hK K
  try simp only [Act.put, List.setIfInBounds_toArray, List.set_cons_zero, List.set_cons_succ]
  iterate 1
    refine seg_take (v := ?_) (by simp only [List.getElem?_toArray, List.getElem?_cons_succ, List.getElem?_cons_zero]; rfl) (Or.inl ⟨by rfl, ?_⟩) ?_
    rotate_left 1
    · intro w hSw
      try dsimp only at hSw
      go_simp
      try with_reducible rfl
    try simp only [Act.put, List.setIfInBounds_toArray, List.set_cons_zero, List.set_cons_succ]
  refine seg_op (by simp only [List.getElem?_toArray, List.getElem?_cons_succ, List.getElem?_cons_zero]; rfl) (fun K hK => ?_)
  go_wp2_with (go_at_call 64; refine (cloneS o.SA o.Sn o.Sc o.S _ (HO.out.s.below B1.out) (by have := HF.out.s; omega)).mono ?_; rintro e w2 ⟨A2, c2, rfl, hO, hb⟩; have B2 := Lib.hid (below_from hb B1.out B1.out.size); have N2 := Lib.hid (N1.out.past hb); have Z2 := Lib.hid (Z1.out.past hb); have S2 := Lib.hid (Nat.le_trans S1.out hb.size); have O1_2 := Lib.hid (O1_1.out.kept hb); have L2 := Lib.hid (hO.2.1.lt); have ZK2 := Lib.hid hb.size; have O2_2 := Lib.hid (show Own spK 54 w2 (w.heap.size + 2) A2 o.Sn c2 _ from hO.base S1.out); clear hO hb)
  clear hHeld
  refine hK.out _ _ N2.out.cell (fun hHeld => ?_)
  clear hK K
  try simp only [Act.put, List.setIfInBounds_toArray, List.set_cons_zero, List.set_cons_succ]
  refine seg_op (by simp only [List.getElem?_toArray, List.getElem?_cons_succ, List.getElem?_cons_zero]; rfl) (fun K hK => ?_)
  go_wp2_with (go_at_call 65; refine (cloneP o.CA o.Cn o.Cc o.C _ (HO.out.c.below B2.out) (by have := HF.out.c; omega)).mono ?_; rintro e w3 ⟨A3, c3, rfl, hO, hb⟩; have B3 := Lib.hid (below_from hb B2.out B2.out.size); have N3 := Lib.hid (N2.out.past hb); have Z3 := Lib.hid (Z2.out.past hb); have S3 := Lib.hid (Nat.le_trans S2.out hb.size); have O1_3 := Lib.hid (O1_2.out.kept hb); have O2_3 := Lib.hid (O2_2.out.kept hb); have L3 := Lib.hid (hO.2.1.lt); have ZK3 := Lib.hid hb.size; have O3_3 := Lib.hid (show Own prK 63 w3 (w.heap.size + 2) A3 o.Cn c3 _ from hO.base S2.out); clear hO hb)
  clear hHeld
  refine hK.out _ _ N3.out.cell (fun hHeld => ?_)
  clear hK K
  try simp only [Act.put, List.setIfInBounds_toArray, List.set_cons_zero, List.set_cons_succ]
  refine seg_op (by simp only [List.getElem?_toArray, List.getElem?_cons_succ, List.getElem?_cons_zero]; rfl) (fun K hK => ?_)
  go_wp2_with (go_at_call 66; refine (cloneI o.KA o.Kn o.Kc o.K _ (HO.out.k.below B3.out) (by have := HF.out.k; omega)).mono ?_; rintro e w4 ⟨A4, c4, rfl, hO, hb⟩; have B4 := Lib.hid (below_from hb B3.out B3.out.size); have N4 := Lib.hid (N3.out.past hb); have Z4 := Lib.hid (Z3.out.past hb); have S4 := Lib.hid (Nat.le_trans S3.out hb.size); have O1_4 := Lib.hid (O1_3.out.kept hb); have O2_4 := Lib.hid (O2_3.out.kept hb); have O3_4 := Lib.hid (O3_3.out.kept hb); have L4 := Lib.hid (hO.2.1.lt); have ZK4 := Lib.hid hb.size; have O4_4 := Lib.hid (show Own intK 3 w4 (w.heap.size + 2) A4 o.Kn c4 _ from hO.base S3.out); clear hO hb)
  clear hHeld
  refine hK.out _ _ N4.out.cell (fun hHeld => ?_)
  clear hK K
  try simp only [Act.put, List.setIfInBounds_toArray, List.set_cons_zero, List.set_cons_succ]
  refine seg_tail rfl ?_
  clear hHeld
  have n4c := N4.out.cell
  have n4l := N4.out.lt
  have n4f := N4.out.free
  have z4c := Z4.out.cell
  have z4l := Z4.out.lt
  have z4f := Z4.out.free
  go_wp2_with fail
  refine bodyPost_ret (v := (⟨o.now, o.next, A1, o.Ln, c1, o.L, A2, o.Sn, c2, o.S, A3, o.Cn, c3, o.C, A4, o.Kn, c4, o.K⟩ : Nt).v) (by simp [results, Try.results33, go_sem, z4c]) rfl ?_
  have G1 := setCells_grown w.heap.size [.slice A1 o.Ln c1, .slice A2 o.Sn c2, .slice A3 o.Cn c3, .slice A4 o.Kn c4] 2 w4
  have G2 := setCells_grown (w.heap.size + 1) [.int .i64 o.now, .int .i64 o.next, .slice A1 o.Ln c1, .slice A2 o.Sn c2, .slice A3 o.Cn c3, .slice A4 o.Kn c4] 0 (w4.setCells w.heap.size 2 [.slice A1 o.Ln c1, .slice A2 o.Sn c2, .slice A3 o.Cn c3, .slice A4 o.Kn c4])
  have BB1 := B4.out.trans (grown_below G1 B4.out.size (fun q hq => by injection hq with hq; omega))
  have BB2 := BB1.trans (grown_below G2 BB1.size (fun q hq => by injection hq with hq; omega))
  refine ⟨_, rfl, ⟨rfl, rfl, rfl, rfl, rfl, rfl, rfl, rfl, rfl, rfl⟩, ⟨?_, ?_, ?_, ?_⟩, ?_, BB2⟩
  · exact ((O1_4.out.grown G1 (by omega) (fun a ha => mgK.below (HO.out.l.each a ha) BB1)).grown G2 (by omega) (fun a ha => mgK.below (HO.out.l.each a ha) BB2)).base (by omega)
  · exact ((O2_4.out.grown G1 (by omega) (fun a ha => spK.below (HO.out.s.each a ha) BB1)).grown G2 (by omega) (fun a ha => spK.below (HO.out.s.each a ha) BB2)).base (by omega)
  · exact ((O3_4.out.grown G1 (by omega) (fun a ha => prK.below (HO.out.c.each a ha) BB1)).grown G2 (by omega) (fun a ha => prK.below (HO.out.c.each a ha) BB2)).base (by omega)
  · exact ((O4_4.out.grown G1 (by omega) (fun a ha => intK.below (HO.out.k.each a ha) BB1)).grown G2 (by omega) (fun a ha => intK.below (HO.out.k.each a ha) BB2)).base (by omega)

  · have l1 := L1.out
    have l2 := L2.out
    have l3 := L3.out
    have l4 := L4.out
    have zk2 := ZK2.out
    have zk3 := ZK3.out
    have zk4 := ZK4.out
    refine ⟨fun b hb => ⟨fun h => ?_, fun h => ?_, fun h => ?_⟩, fun b hb => ⟨fun h => ?_, fun h => ?_⟩⟩
    · have := l1 b hb; have := l2 b h; omega
    · have := l1 b hb; have := l3 b h; omega
    · have := l1 b hb; have := l4 b h; omega
    · have := l3 b hb; have := l2 b h; omega
    · have := l3 b hb; have := l4 b h; omega
theorem own_any (o : Nt) (w : World) (ho : Nt.At w o) (hf : o.Few) : Calls Try.prog 33 #[o.v] w fun e w' => ∃ q : Nt, e = .returned q.v ∧ Nt.Like o q ∧ Nt.Own w' w.heap.size q ∧ Below w.heap.size w w' :=
  (own_apart o w ho hf).mono fun _ _ ⟨q, h1, h2, h3, _, h5⟩ => ⟨q, h1, h2, h3, h5⟩

end Go.Proofs.Ytmlgahambecamaa
