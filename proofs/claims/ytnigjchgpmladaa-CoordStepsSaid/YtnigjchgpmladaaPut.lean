/- One producer is put in its place: put. -/
import Derived.Test.YtnigjchgpmladaaRetC
import Derived.Test.YtnigjchgpmladaaLeaf2
import Derived.Deep.DeepCutAuto
namespace Go.Proofs.Ytnigjchgpmladaa
open Go.RowKit

set_option maxRecDepth 100000 in
set_option maxHeartbeats 4000000 in
theorem put_any (o : Tc) (i : Nat) (x : Tx) (w : World) (ho : Tc.At w o) (hx : Tx.In w x) (hi : i < o.n) (hn : o.n ≤ 50000) : Calls Try.prog 46 #[o.v, .int .i64 i, x.v] w fun e w' => CoV w { o.val with L := o.val.L.set i x.val } e w' := by
  have S0 := Lib.hid (((Has.newAt w #[.int .i64 o.next, .slice o.A o.n o.c] 24 (g := w.heap.size) rfl).alloc (.cells #[.string x.id, .int .i64 x.pid, .int .i64 x.gen, .int .i64 x.no, .int .i64 x.st, .slice x.PA x.Pn x.Pc, .slice x.GA x.Gn x.Gc, .int .i64 x.at_] 33)).alloc (.cells #[.int .i64 0, .slice none 0 0] 24))
  have X0 := Lib.hid ((Has.newAt (w.alloc (.cells #[.int .i64 o.next, .slice o.A o.n o.c] 24)) #[.string x.id, .int .i64 x.pid, .int .i64 x.gen, .int .i64 x.no, .int .i64 x.st, .slice x.PA x.Pn x.Pc, .slice x.GA x.Gn x.Gc, .int .i64 x.at_] 33 (g := w.heap.size + 1) (by simp)).alloc (.cells #[.int .i64 0, .slice none 0 0] 24))
  have R0 := Lib.hid (Has.newAt ((w.alloc (.cells #[.int .i64 o.next, .slice o.A o.n o.c] 24)).alloc (.cells #[.string x.id, .int .i64 x.pid, .int .i64 x.gen, .int .i64 x.no, .int .i64 x.st, .slice x.PA x.Pn x.Pc, .slice x.GA x.Gn x.Gc, .int .i64 x.at_] 33)) #[.int .i64 0, .slice none 0 0] 24 (g := w.heap.size + 1 + 1) (by simp))
  obtain ⟨W0, hW0⟩ : ∃ W, W = ((w.alloc (.cells #[.int .i64 o.next, .slice o.A o.n o.c] 24)).alloc (.cells #[.string x.id, .int .i64 x.pid, .int .i64 x.gen, .int .i64 x.no, .int .i64 x.st, .slice x.PA x.Pn x.Pc, .slice x.GA x.Gn x.Gc, .int .i64 x.at_] 33)).alloc (.cells #[.int .i64 0, .slice none 0 0] 24) := ⟨_, rfl⟩
  have B0 := Lib.hid (show Below w.heap.size w W0 from by rw [hW0]; exact ((below_alloc1 w _).alloc (by simp) _).alloc (by simp; omega) _)
  rw [← hW0] at S0 X0 R0
  have HW := Lib.hid hW0
  have CL := Lib.hid (fun W (h : Below w.heap.size w W) => cloneX o.A o.n o.c o.L W (Sl.below ho h) (by omega))
  have HO := Lib.hid ho
  have HX := Lib.hid hx
  have HI := Lib.hid hi
  have xi0 : (0 : Int) ≤ (i : Int) := by omega
  have xi1 : (i : Int) < (o.n : Int) := by omega
  clear ho hx hW0 hi hn
  have s0 := S0.out.cell
  have sl0 := S0.out.lt
  go_enter Try.func46, Try.ntmps46
  go_upto_region 1 with (fail)
  rw [← HW.out]
  go_upto_region 3 with (
     go_at_call 48; refine (CL.out _ B0.out).mono ?_; rintro e w2 ⟨A2, c2, rfl, hO, hb2⟩; have B2 := Lib.hid (below_from hb2 B0.out B0.out.size); have S2 := Lib.hid (S0.out.past hb2); have X2 := Lib.hid (X0.out.past hb2); have R2 := Lib.hid (R0.out.past hb2); have OW := Lib.hid (hO.base B0.out.size); have SZ := Lib.hid (show W0.heap.size ≤ w2.heap.size from hb2.size); have OB := Lib.hid hO; clear hb2 hO s0 sl0
     obtain ⟨g, rfl, hgB, hgl, hfr, ⟨hnc, hcm⟩, _, hO4, hG4⟩ := own_setX OW.out (Nat.le_refl _) (fun a ha => Sl.each HO.out a ha) B2.out HI.out x HX.out
     obtain ⟨g', off', hil', hE, hgl', u0, u1, u2, u3, u4, u5, u6, u7⟩ := tx_at OW.out.sl HI.out
     injection hE with hE; injection hE with hE1 hE2; subst hE1; subst hE2; rw [Nat.zero_add] at u0 u1 u2 u3 u4 u5 u6 u7
     have GE := Lib.hid (OB.out.lt rfl)
     have x2c := X2.out.cell; have x2l := X2.out.lt
     have HO4 := Lib.hid hO4
     have HG4 := Lib.hid hG4
     have W3 := Lib.hid (show ∀ b, b ≤ w.heap.size + 1 + 1 → b ≠ g from fun b hb e => by have := R0.out.lt; have := GE.out; omega)
     generalize o.L[i] = y at *
     clear hO4 hG4 hil')
  have BF := Lib.hid (B2.out.trans (grown_below HG4.out B2.out.size (fun k hk => by injection hk with hk; have := GE.out; have := B0.out.size; omega)))
  have S3 := Lib.hid (S2.out.grown HG4.out (W3.out _ (by omega)))
  have R3 := Lib.hid (R2.out.grown HG4.out (W3.out _ (by omega)))
  have RC := Lib.hid (show ∀ W, Below w.heap.size w W → Own txK 33 W w.heap.size (some ⟨g, 0, none⟩) o.n c2 (o.L.set i x) → CoV w { o.val with L := o.val.L.set i x.val } (.returned (.agg #[.int .i64 o.next, .slice (some ⟨g, 0, none⟩) o.n c2])) W from fun W h1 h2 =>
    ⟨⟨o.next, some ⟨g, 0, none⟩, o.n, c2, o.L.set i x⟩, rfl, ⟨h2.sl, by show (⟨o.next, (o.L.set i x).map Tx.val⟩ : Cv) = ⟨o.next, (o.L.map Tx.val).set i x.val⟩; rw [List.map_set]⟩, h1⟩)
  obtain ⟨W4, hW4⟩ : ∃ W4, W4 = w2.setCells g (i * 8) x.cells := ⟨_, rfl⟩
  rw [← hW4] at BF S3 R3 HO4
  rw [show ((((((((w2.setCell ⟨g, i * 8, none⟩ (.string x.id)).setCell ⟨g, i * 8 + 1, none⟩ (.int .i64 x.pid)).setCell ⟨g, i * 8 + 2, none⟩ (.int .i64 x.gen)).setCell ⟨g, i * 8 + 3, none⟩ (.int .i64 x.no)).setCell ⟨g, i * 8 + 4, none⟩ (.int .i64 x.st)).setCell ⟨g, i * 8 + 5, none⟩ (.slice x.PA x.Pn x.Pc)).setCell ⟨g, i * 8 + 6, none⟩ (.slice x.GA x.Gn x.Gc)).setCell ⟨g, i * 8 + 7, none⟩ (.int .i64 x.at_)) = W4 from hW4.symm]
  clear hW4
  have s3 := S3.out.cell
  have s3l := S3.out.lt
  have r3c := R3.out.cell
  have r3f := R3.out.free
  have r3l := R3.out.lt
  go_wp2_with fail
  have RS := (R3.out.set [.int .i64 o.next, .slice (some ⟨g, 0, none⟩) o.n c2] rfl)
  have GR := setCells_grown (w.heap.size + 1 + 1) [.int .i64 o.next, .slice (some ⟨g, 0, none⟩) o.n c2] 0 W4
  have BB := Below.trans BF.out (grown_below GR BF.out.size (fun k hk => by injection hk with hk; omega))
  refine bodyPost_ret (v := .agg #[.int .i64 o.next, .slice (some ⟨g, 0, none⟩) o.n c2]) (results_cell Try.results46 (g := w.heap.size + 1 + 1) rfl (load24 RS)) rfl ?_
  refine RC.out _ BB (HO4.out.apart GR (fun e => (W3.out _ (Nat.le_refl _)) (by injection e with e; exact e.symm)) (fun a ha => ?_))
  rcases mem_set_cases ha with rfl | ha
  · exact HX.out.past BB
  · exact (show Tx.In w a from Sl.each HO.out a ha).past BB

end Go.Proofs.Ytnigjchgpmladaa
