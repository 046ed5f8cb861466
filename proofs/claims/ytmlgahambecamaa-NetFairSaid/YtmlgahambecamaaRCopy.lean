/- The document's copy of a net. -/
import Derived.Test.YtmlgahambecamaaOwnc
import Derived.Test.YtmlgahambecamaaApp
import Derived.Deep.DeepCutAuto
namespace Go.Proofs.Ytmlgahambecamaa
open Go.RowKit Go.Shelf

set_option maxRecDepth 100000 in
set_option maxHeartbeats 8000000 in
theorem copy_any (o : Nt) (w : World) (ho : Nt.At w o) (hf : o.Few) : Calls Try.prog 18 #[o.v] w fun e w' => ∃ q : Nt, e = .returned q.v ∧ Nt.Like o q ∧ Nt.Own w' w.heap.size q ∧ Below w.heap.size w w' := by
  obtain ⟨i0, hi0, hz0, hs0, hb0⟩ := info_parts inf40
  obtain ⟨i1, hi1, hz1, hs1, hb1⟩ := info_parts inf54
  obtain ⟨i2, hi2, hz2, hs2, hb2⟩ := info_parts inf63
  obtain ⟨i3, hi3, hz3, hs3, hb3⟩ := info_parts inf3
  have HO := Lib.hid ho
  have HF := Lib.hid hf
  obtain ⟨W0, hW0⟩ : ∃ W0, W0 = ((w.alloc (.cells #[.int .i64 o.now, .int .i64 o.next, .slice o.LA o.Ln o.Lc, .slice o.SA o.Sn o.Sc, .slice o.CA o.Cn o.Cc, .slice o.KA o.Kn o.Kc] 27)).alloc (.cells #[.int .i64 0, .int .i64 0, .slice none 0 0, .slice none 0 0, .slice none 0 0, .slice none 0 0] 27)).alloc (.cells #[.int .i64 o.now, .int .i64 o.next, .slice o.LA o.Ln o.Lc, .slice o.SA o.Sn o.Sc, .slice o.CA o.Cn o.Cc, .slice o.KA o.Kn o.Kc] 27) := ⟨_, rfl⟩
  have B0 := Lib.hid (show Below w.heap.size w W0 from by rw [hW0]; exact (((Below.refl _ w).alloc (Nat.le_refl _) _).alloc (by simp) _).alloc (by simp; omega) _)
  have N0 := Lib.hid (show Has W0 w.heap.size #[.int .i64 o.now, .int .i64 o.next, .slice o.LA o.Ln o.Lc, .slice o.SA o.Sn o.Sc, .slice o.CA o.Cn o.Cc, .slice o.KA o.Kn o.Kc] from by rw [hW0]; exact ((Has.newAt w #[.int .i64 o.now, .int .i64 o.next, .slice o.LA o.Ln o.Lc, .slice o.SA o.Sn o.Sc, .slice o.CA o.Cn o.Cc, .slice o.KA o.Kn o.Kc] 27 rfl).alloc _).alloc _)
  have Z0 := Lib.hid (show Has W0 (w.heap.size + 1) #[.int .i64 0, .int .i64 0, .slice none 0 0, .slice none 0 0, .slice none 0 0, .slice none 0 0] from by rw [hW0]; exact (Has.newAt _ #[.int .i64 0, .int .i64 0, .slice none 0 0, .slice none 0 0, .slice none 0 0, .slice none 0 0] 27 (by simp)).alloc _)
  have X0 := Lib.hid (show Has W0 (w.heap.size + 1 + 1) #[.int .i64 o.now, .int .i64 o.next, .slice o.LA o.Ln o.Lc, .slice o.SA o.Sn o.Sc, .slice o.CA o.Cn o.Cc, .slice o.KA o.Kn o.Kc] from by rw [hW0]; exact Has.newAt _ #[.int .i64 o.now, .int .i64 o.next, .slice o.LA o.Ln o.Lc, .slice o.SA o.Sn o.Sc, .slice o.CA o.Cn o.Cc, .slice o.KA o.Kn o.Kc] 27 (by simp))
  have S0 := Lib.hid (show w.heap.size + 1 + 1 + 1 ≤ W0.heap.size from by rw [hW0]; simp)
  have HW0 := Lib.hid hW0
  have n0c := N0.out.cell
  have n0l := N0.out.lt
  clear ho hf hW0
  go_enter Try.func18, Try.ntmps18
  go_upto_region 2 with (fail)
  rw [← HW0.out]
  go_wp2_with (at_builtin; refine wpList_append_sl (K := mgK) _ rfl _ _ 22 rfl (w.heap.size + 1 + 1 + 1) 40 i0 _ 56 Try.underlying22 hi0 hz0 hs0 hb0 rfl none 0 0 [] rfl (World.ownsRow_nil _ _ _ _) o.LA o.Ln o.Lc _ rfl (HO.out.l.below B0.out) ?qa1 ?qb1 ?qc1 ?_)
  case qa1 => have := HF.out.l; unfold maxLen; omega
  case qb1 => have := HF.out.l; omega
  case qc1 => exact S0.out
  intro A1 c1 w1 hown hgrow _
  have G := grown_below (B := w.heap.size) hgrow B0.out.size (fun j hj => by simp [Value.ownBlock] at hj)
  have GX := Lib.hid (grown_below hgrow (Nat.le_refl _) (fun j hj => by simp [Value.ownBlock] at hj))
  have Bq1 := Lib.hid (B0.out.trans G)
  have Xq1 := Lib.hid (X0.out.past GX.out)
  have ST := setCells_grown (w.heap.size + 1 + 1) [.slice A1 o.Ln c1] 2 w1
  have B1 := Lib.hid (Bq1.out.trans (grown_below ST Bq1.out.size (fun j hj => by injection hj with hj; omega)))
  have N1 := Lib.hid ((N0.out.past GX.out).grown ST (by omega))
  have Z1 := Lib.hid ((Z0.out.past GX.out).grown ST (by omega))
  have X1 := Lib.hid (show Has (w1.setCell ⟨w.heap.size + 1 + 1, 2, none⟩ (.slice A1 o.Ln c1)) (w.heap.size + 1 + 1) #[.int .i64 o.now, .int .i64 o.next, .slice A1 o.Ln c1, .slice o.SA o.Sn o.Sc, .slice o.CA o.Cn o.Cc, .slice o.KA o.Kn o.Kc] from Xq1.out.setAt 2 (.slice A1 o.Ln c1) (by simp))
  have S1 := Lib.hid (Nat.le_trans S0.out (Nat.le_trans GX.out.size ST.size))
  have O1_1 := Lib.hid ((show Own mgK 40 w1 (w.heap.size + 1 + 1 + 1) A1 o.Ln c1 _ from ⟨HO.out.l.len, by simpa using hown, fun a ha => mgK.below (HO.out.l.each a ha) Bq1.out⟩).grown ST (by omega) (fun a ha => mgK.below (HO.out.l.each a ha) B1.out))
  have xq1c := Xq1.out.cell
  have xq1l := Xq1.out.lt
  have xq1f := Xq1.out.free
  have n1c := (N0.out.past GX.out).cell
  have n1l := (N0.out.past GX.out).lt
  clear hown hgrow G ST GX n0c n0l 
  go_wp2_with (at_builtin; refine wpList_append_sl (K := spK) _ rfl _ _ 23 rfl (w.heap.size + 1 + 1 + 1) 54 i1 _ 24 Try.underlying23 hi1 hz1 hs1 hb1 rfl none 0 0 [] rfl (World.ownsRow_nil _ _ _ _) o.SA o.Sn o.Sc _ rfl (HO.out.s.below B1.out) ?qa2 ?qb2 ?qc2 ?_)
  case qa2 => have := HF.out.s; unfold maxLen; omega
  case qb2 => have := HF.out.s; omega
  case qc2 => exact S1.out
  intro A2 c2 w2 hown hgrow _
  have G := grown_below (B := w.heap.size) hgrow B1.out.size (fun j hj => by simp [Value.ownBlock] at hj)
  have GX := Lib.hid (grown_below hgrow (Nat.le_refl _) (fun j hj => by simp [Value.ownBlock] at hj))
  have Bq2 := Lib.hid (B1.out.trans G)
  have Xq2 := Lib.hid (X1.out.past GX.out)
  have ST := setCells_grown (w.heap.size + 1 + 1) [.slice A2 o.Sn c2] 3 w2
  have B2 := Lib.hid (Bq2.out.trans (grown_below ST Bq2.out.size (fun j hj => by injection hj with hj; omega)))
  have N2 := Lib.hid ((N1.out.past GX.out).grown ST (by omega))
  have Z2 := Lib.hid ((Z1.out.past GX.out).grown ST (by omega))
  have X2 := Lib.hid (show Has (w2.setCell ⟨w.heap.size + 1 + 1, 3, none⟩ (.slice A2 o.Sn c2)) (w.heap.size + 1 + 1) #[.int .i64 o.now, .int .i64 o.next, .slice A1 o.Ln c1, .slice A2 o.Sn c2, .slice o.CA o.Cn o.Cc, .slice o.KA o.Kn o.Kc] from Xq2.out.setAt 3 (.slice A2 o.Sn c2) (by simp))
  have S2 := Lib.hid (Nat.le_trans S1.out (Nat.le_trans GX.out.size ST.size))
  have O1_2 := Lib.hid ((O1_1.out.kept GX.out).grown ST (by omega) (fun a ha => mgK.below (HO.out.l.each a ha) B2.out))
  have O2_2 := Lib.hid ((show Own spK 54 w2 (w.heap.size + 1 + 1 + 1) A2 o.Sn c2 _ from ⟨HO.out.s.len, by simpa using hown, fun a ha => spK.below (HO.out.s.each a ha) Bq2.out⟩).grown ST (by omega) (fun a ha => spK.below (HO.out.s.each a ha) B2.out))
  have xq2c := Xq2.out.cell
  have xq2l := Xq2.out.lt
  have xq2f := Xq2.out.free
  have n2c := (N1.out.past GX.out).cell
  have n2l := (N1.out.past GX.out).lt
  clear hown hgrow G ST GX n1c n1l xq1c xq1l xq1f
  go_wp2_with (at_builtin; refine wpList_append_sl (K := prK) _ rfl _ _ 24 rfl (w.heap.size + 1 + 1 + 1) 63 i2 _ 16 Try.underlying24 hi2 hz2 hs2 hb2 rfl none 0 0 [] rfl (World.ownsRow_nil _ _ _ _) o.CA o.Cn o.Cc _ rfl (HO.out.c.below B2.out) ?qa3 ?qb3 ?qc3 ?_)
  case qa3 => have := HF.out.c; unfold maxLen; omega
  case qb3 => have := HF.out.c; omega
  case qc3 => exact S2.out
  intro A3 c3 w3 hown hgrow _
  have G := grown_below (B := w.heap.size) hgrow B2.out.size (fun j hj => by simp [Value.ownBlock] at hj)
  have GX := Lib.hid (grown_below hgrow (Nat.le_refl _) (fun j hj => by simp [Value.ownBlock] at hj))
  have Bq3 := Lib.hid (B2.out.trans G)
  have Xq3 := Lib.hid (X2.out.past GX.out)
  have ST := setCells_grown (w.heap.size + 1 + 1) [.slice A3 o.Cn c3] 4 w3
  have B3 := Lib.hid (Bq3.out.trans (grown_below ST Bq3.out.size (fun j hj => by injection hj with hj; omega)))
  have N3 := Lib.hid ((N2.out.past GX.out).grown ST (by omega))
  have Z3 := Lib.hid ((Z2.out.past GX.out).grown ST (by omega))
  have X3 := Lib.hid (show Has (w3.setCell ⟨w.heap.size + 1 + 1, 4, none⟩ (.slice A3 o.Cn c3)) (w.heap.size + 1 + 1) #[.int .i64 o.now, .int .i64 o.next, .slice A1 o.Ln c1, .slice A2 o.Sn c2, .slice A3 o.Cn c3, .slice o.KA o.Kn o.Kc] from Xq3.out.setAt 4 (.slice A3 o.Cn c3) (by simp))
  have S3 := Lib.hid (Nat.le_trans S2.out (Nat.le_trans GX.out.size ST.size))
  have O1_3 := Lib.hid ((O1_2.out.kept GX.out).grown ST (by omega) (fun a ha => mgK.below (HO.out.l.each a ha) B3.out))
  have O2_3 := Lib.hid ((O2_2.out.kept GX.out).grown ST (by omega) (fun a ha => spK.below (HO.out.s.each a ha) B3.out))
  have O3_3 := Lib.hid ((show Own prK 63 w3 (w.heap.size + 1 + 1 + 1) A3 o.Cn c3 _ from ⟨HO.out.c.len, by simpa using hown, fun a ha => prK.below (HO.out.c.each a ha) Bq3.out⟩).grown ST (by omega) (fun a ha => prK.below (HO.out.c.each a ha) B3.out))
  have xq3c := Xq3.out.cell
  have xq3l := Xq3.out.lt
  have xq3f := Xq3.out.free
  have n3c := (N2.out.past GX.out).cell
  have n3l := (N2.out.past GX.out).lt
  clear hown hgrow G ST GX n2c n2l xq2c xq2l xq2f
  go_wp2_with (at_builtin; refine wpList_append_sl (K := intK) _ rfl _ _ 25 rfl (w.heap.size + 1 + 1 + 1) 3 i3 _ 8 Try.underlying25 hi3 hz3 hs3 hb3 rfl none 0 0 [] rfl (World.ownsRow_nil _ _ _ _) o.KA o.Kn o.Kc _ rfl (HO.out.k.below B3.out) ?qa4 ?qb4 ?qc4 ?_)
  case qa4 => have := HF.out.k; unfold maxLen; omega
  case qb4 => have := HF.out.k; omega
  case qc4 => exact S3.out
  intro A4 c4 w4 hown hgrow _
  have G := grown_below (B := w.heap.size) hgrow B3.out.size (fun j hj => by simp [Value.ownBlock] at hj)
  have GX := Lib.hid (grown_below hgrow (Nat.le_refl _) (fun j hj => by simp [Value.ownBlock] at hj))
  have Bq4 := Lib.hid (B3.out.trans G)
  have Xq4 := Lib.hid (X3.out.past GX.out)
  have ST := setCells_grown (w.heap.size + 1 + 1) [.slice A4 o.Kn c4] 5 w4
  have B4 := Lib.hid (Bq4.out.trans (grown_below ST Bq4.out.size (fun j hj => by injection hj with hj; omega)))
  have N4 := Lib.hid ((N3.out.past GX.out).grown ST (by omega))
  have Z4 := Lib.hid ((Z3.out.past GX.out).grown ST (by omega))
  have X4 := Lib.hid (show Has (w4.setCell ⟨w.heap.size + 1 + 1, 5, none⟩ (.slice A4 o.Kn c4)) (w.heap.size + 1 + 1) #[.int .i64 o.now, .int .i64 o.next, .slice A1 o.Ln c1, .slice A2 o.Sn c2, .slice A3 o.Cn c3, .slice A4 o.Kn c4] from Xq4.out.setAt 5 (.slice A4 o.Kn c4) (by simp))
  have S4 := Lib.hid (Nat.le_trans S3.out (Nat.le_trans GX.out.size ST.size))
  have O1_4 := Lib.hid ((O1_3.out.kept GX.out).grown ST (by omega) (fun a ha => mgK.below (HO.out.l.each a ha) B4.out))
  have O2_4 := Lib.hid ((O2_3.out.kept GX.out).grown ST (by omega) (fun a ha => spK.below (HO.out.s.each a ha) B4.out))
  have O3_4 := Lib.hid ((O3_3.out.kept GX.out).grown ST (by omega) (fun a ha => prK.below (HO.out.c.each a ha) B4.out))
  have O4_4 := Lib.hid ((show Own intK 3 w4 (w.heap.size + 1 + 1 + 1) A4 o.Kn c4 _ from ⟨HO.out.k.len, by simpa using hown, fun a ha => intK.below (HO.out.k.each a ha) Bq4.out⟩).grown ST (by omega) (fun a ha => intK.below (HO.out.k.each a ha) B4.out))
  have xq4c := Xq4.out.cell
  have xq4l := Xq4.out.lt
  have xq4f := Xq4.out.free
  have zq := Lib.hid (Z3.out.past GX.out)
  have n4c := (N3.out.past GX.out).cell
  have n4l := (N3.out.past GX.out).lt
  clear hown hgrow G ST GX n3c n3l xq3c xq3l xq3f
  have z4c := zq.out.cell
  have z4l := zq.out.lt
  have z4f := zq.out.free
  go_wp2_with fail
  refine bodyPost_ret (v := (⟨o.now, o.next, A1, o.Ln, c1, o.L, A2, o.Sn, c2, o.S, A3, o.Cn, c3, o.C, A4, o.Kn, c4, o.K⟩ : Nt).v) (by simp [results, Try.results18, go_sem, z4c]) rfl ?_
  have G2 := setCells_grown (w.heap.size + 1) [.int .i64 o.now, .int .i64 o.next, .slice A1 o.Ln c1, .slice A2 o.Sn c2, .slice A3 o.Cn c3, .slice A4 o.Kn c4] 0 (w4.setCell ⟨w.heap.size + 1 + 1, 5, none⟩ (.slice A4 o.Kn c4))
  have BB2 := B4.out.trans (grown_below G2 B4.out.size (fun q hq => by injection hq with hq; omega))
  refine ⟨_, rfl, ⟨rfl, rfl, rfl, rfl, rfl, rfl, rfl, rfl, rfl, rfl⟩, ⟨?_, ?_, ?_, ?_⟩, BB2⟩
  · exact ((O1_4.out.grown G2 (by omega) (fun a ha => mgK.below (HO.out.l.each a ha) BB2)).base (by omega))
  · exact ((O2_4.out.grown G2 (by omega) (fun a ha => spK.below (HO.out.s.each a ha) BB2)).base (by omega))
  · exact ((O3_4.out.grown G2 (by omega) (fun a ha => prK.below (HO.out.c.each a ha) BB2)).base (by omega))
  · exact ((O4_4.out.grown G2 (by omega) (fun a ha => intK.below (HO.out.k.each a ha) BB2)).base (by omega))

end Go.Proofs.Ytmlgahambecamaa
