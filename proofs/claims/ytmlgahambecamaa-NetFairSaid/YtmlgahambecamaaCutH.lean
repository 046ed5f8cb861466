/- Cut and Heal, of the program. -/
import Derived.Test.YtmlgahambecamaaWays
import Derived.Test.YtmlgahambecamaaBys
import Derived.Deep.DeepCutAuto
namespace Go.Proofs.Ytmlgahambecamaa
open Go.RowKit Go.Shelf

set_option maxHeartbeats 4000000 in
set_option maxRecDepth 100000 in
theorem cut_any (o : Nt) (a b : Int) (w : World) (ho : Nt.At w o) (hf : o.Few) : Calls Try.prog 26 #[o.v, .int .i64 a, .int .i64 b] w fun e w' => NetRes w.heap.size (waysV o.val a b true) e w' ∧ Below w.heap.size w w' := by
  have HO := Lib.hid ho
  have HF := Lib.hid hf
  obtain ⟨W0, hW0⟩ : ∃ W0, W0 = (((w.alloc (.cells #[.int .i64 o.now, .int .i64 o.next, .slice o.LA o.Ln o.Lc, .slice o.SA o.Sn o.Sc, .slice o.CA o.Cn o.Cc, .slice o.KA o.Kn o.Kc] 27)).alloc (.cells #[.int .i64 a] 3)).alloc (.cells #[.int .i64 b] 3)).alloc (.cells #[.int .i64 0, .int .i64 0, .slice none 0 0, .slice none 0 0, .slice none 0 0, .slice none 0 0] 27) := ⟨_, rfl⟩
  have B0 := Lib.hid (show Below w.heap.size w W0 from by rw [hW0]; exact ((((Below.refl _ w).alloc (Nat.le_refl _) _).alloc (by first | (simp; done) | (simp; omega)) _).alloc (by first | (simp; done) | (simp; omega)) _).alloc (by first | (simp; done) | (simp; omega)) _)
  have N0 := Lib.hid (show Has W0 w.heap.size #[.int .i64 o.now, .int .i64 o.next, .slice o.LA o.Ln o.Lc, .slice o.SA o.Sn o.Sc, .slice o.CA o.Cn o.Cc, .slice o.KA o.Kn o.Kc] from by rw [hW0]; exact ((((Has.newAt w #[.int .i64 o.now, .int .i64 o.next, .slice o.LA o.Ln o.Lc, .slice o.SA o.Sn o.Sc, .slice o.CA o.Cn o.Cc, .slice o.KA o.Kn o.Kc] 27 rfl)).alloc _).alloc _).alloc _)
  have X0 := Lib.hid (show Has W0 (w.heap.size + 3) #[.int .i64 0, .int .i64 0, .slice none 0 0, .slice none 0 0, .slice none 0 0, .slice none 0 0] from by rw [hW0]; exact Has.newAt _ #[.int .i64 0, .int .i64 0, .slice none 0 0, .slice none 0 0, .slice none 0 0, .slice none 0 0] 27 (by simp))
  have A0 := Lib.hid (show Has W0 (w.heap.size + 1) #[.int .i64 a] from by rw [hW0]; exact ((Has.newAt _ #[.int .i64 a] 3 (by simp)).alloc _).alloc _)
  have C0 := Lib.hid (show Has W0 (w.heap.size + 2) #[.int .i64 b] from by rw [hW0]; exact (Has.newAt _ #[.int .i64 b] 3 (by simp)).alloc _)
  have a0c := A0.out.cell
  have a0l := A0.out.lt
  have b0c := C0.out.cell
  have b0l := C0.out.lt
  have HW0 := Lib.hid hW0
  have n0c := N0.out.cell
  have n0l := N0.out.lt
  clear ho hf hW0
  go_enter Try.func26, Try.ntmps26
  go_upto_region 1 with (fail)
  rw [← HW0.out]
  go_wp2_with (go_at_call 58; refine (ways_any o a b true 59 #[.pointer (some ⟨w.heap.size + 1, 0, none⟩), .pointer (some ⟨w.heap.size + 2, 0, none⟩)] _ (HO.out.below B0.out) HF.out (enters_of Try.func59 (by kernel_rfl) rfl) (fun A n c i l m B W hW h1 h2 h3 h4 h5 => cutdo_any a b _ _ A n c i l m B W (A0.out.past hW) (C0.out.past hW) h1 h2 h3 h4)).mono ?_; rintro e w1 ⟨⟨q, rfl, hv, hq⟩, hb⟩; have B1 := Lib.hid (below_from hb B0.out B0.out.size); have X1 := Lib.hid (X0.out.past hb); have Z0 := Lib.hid X0.out.lt; have QV := Lib.hid hv; have QO := Lib.hid hq; have x1c := X1.out.cell; have x1l := X1.out.lt; have x1f := X1.out.free; clear hb hv hq)
  refine bodyPost_ret (v := .tuple #[q.v, .int .i64 (waysV o.val a b true).2]) (results_cell_tmp Try.results26 (g := (w.heap.size + 3)) rfl rfl (load27 (X1.out.set [.int .i64 q.now, .int .i64 q.next, .slice q.LA q.Ln q.Lc, .slice q.SA q.Sn q.Sc, .slice q.CA q.Cn q.Cc, .slice q.KA q.Kn q.Kc] rfl))) rfl ?_
  have SG := setCells_grown (w.heap.size + 3) [.int .i64 q.now, .int .i64 q.next, .slice q.LA q.Ln q.Lc, .slice q.SA q.Sn q.Sc, .slice q.CA q.Cn q.Cc, .slice q.KA q.Kn q.Kc] 0 w1
  have BE := B1.out.trans (grown_below SG B1.out.size (fun k hk => by injection hk with hk; omega))
  have z := Z0.out
  refine ⟨⟨q, rfl, QV.out, ((QO.out.grown SG (by omega) (fun x hx => ?_)).base (by omega))⟩, BE⟩
  exact mg_apart X1.out (net_nobyte _ _ _ _ _ _ _ _ _ _ _ _ _ _) SG (QO.out.l.2.2 x hx)

set_option maxHeartbeats 4000000 in
set_option maxRecDepth 100000 in
theorem heal_any (o : Nt) (a b : Int) (w : World) (ho : Nt.At w o) (hf : o.Few) : Calls Try.prog 27 #[o.v, .int .i64 a, .int .i64 b] w fun e w' => NetRes w.heap.size (waysV o.val a b false) e w' ∧ Below w.heap.size w w' := by
  have HO := Lib.hid ho
  have HF := Lib.hid hf
  obtain ⟨W0, hW0⟩ : ∃ W0, W0 = (w.alloc (.cells #[.int .i64 o.now, .int .i64 o.next, .slice o.LA o.Ln o.Lc, .slice o.SA o.Sn o.Sc, .slice o.CA o.Cn o.Cc, .slice o.KA o.Kn o.Kc] 27)).alloc (.cells #[.int .i64 0, .int .i64 0, .slice none 0 0, .slice none 0 0, .slice none 0 0, .slice none 0 0] 27) := ⟨_, rfl⟩
  have B0 := Lib.hid (show Below w.heap.size w W0 from by rw [hW0]; exact ((Below.refl _ w).alloc (Nat.le_refl _) _).alloc (by first | (simp; done) | (simp; omega)) _)
  have N0 := Lib.hid (show Has W0 w.heap.size #[.int .i64 o.now, .int .i64 o.next, .slice o.LA o.Ln o.Lc, .slice o.SA o.Sn o.Sc, .slice o.CA o.Cn o.Cc, .slice o.KA o.Kn o.Kc] from by rw [hW0]; exact ((Has.newAt w #[.int .i64 o.now, .int .i64 o.next, .slice o.LA o.Ln o.Lc, .slice o.SA o.Sn o.Sc, .slice o.CA o.Cn o.Cc, .slice o.KA o.Kn o.Kc] 27 rfl)).alloc _)
  have X0 := Lib.hid (show Has W0 (w.heap.size + 1) #[.int .i64 0, .int .i64 0, .slice none 0 0, .slice none 0 0, .slice none 0 0, .slice none 0 0] from by rw [hW0]; exact Has.newAt _ #[.int .i64 0, .int .i64 0, .slice none 0 0, .slice none 0 0, .slice none 0 0, .slice none 0 0] 27 (by simp))
  have HW0 := Lib.hid hW0
  have n0c := N0.out.cell
  have n0l := N0.out.lt
  clear ho hf hW0
  go_enter Try.func27, Try.ntmps27
  go_upto_region 1 with (fail)
  rw [← HW0.out]
  go_wp2_with (go_at_call 58; refine (ways_any o a b false 61 #[] _ (HO.out.below B0.out) HF.out (enters_of Try.func61 (by kernel_rfl) rfl) (fun A n c i l m B W hW h1 h2 h3 h4 h5 => healdo_any (pairP a b) A n c i l m B W h1 h3 h5)).mono ?_; rintro e w1 ⟨⟨q, rfl, hv, hq⟩, hb⟩; have B1 := Lib.hid (below_from hb B0.out B0.out.size); have X1 := Lib.hid (X0.out.past hb); have Z0 := Lib.hid X0.out.lt; have QV := Lib.hid hv; have QO := Lib.hid hq; have x1c := X1.out.cell; have x1l := X1.out.lt; have x1f := X1.out.free; clear hb hv hq)
  refine bodyPost_ret (v := .tuple #[q.v, .int .i64 (waysV o.val a b false).2]) (results_cell_tmp Try.results27 (g := (w.heap.size + 1)) rfl rfl (load27 (X1.out.set [.int .i64 q.now, .int .i64 q.next, .slice q.LA q.Ln q.Lc, .slice q.SA q.Sn q.Sc, .slice q.CA q.Cn q.Cc, .slice q.KA q.Kn q.Kc] rfl))) rfl ?_
  have SG := setCells_grown (w.heap.size + 1) [.int .i64 q.now, .int .i64 q.next, .slice q.LA q.Ln q.Lc, .slice q.SA q.Sn q.Sc, .slice q.CA q.Cn q.Cc, .slice q.KA q.Kn q.Kc] 0 w1
  have BE := B1.out.trans (grown_below SG B1.out.size (fun k hk => by injection hk with hk; omega))
  have z := Z0.out
  refine ⟨⟨q, rfl, QV.out, ((QO.out.grown SG (by omega) (fun x hx => ?_)).base (by omega))⟩, BE⟩
  exact mg_apart X1.out (net_nobyte _ _ _ _ _ _ _ _ _ _ _ _ _ _) SG (QO.out.l.2.2 x hx)

end Go.Proofs.Ytmlgahambecamaa
