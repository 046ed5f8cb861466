/- A transaction is decided: End. -/
import Derived.Test.YtnigjchgpmladaaAdd1
import Derived.Deep.DeepCutAuto
namespace Go.Proofs.Ytnigjchgpmladaa
open Go.RowKit Go.Shelf

set_option maxRecDepth 100000 in
set_option maxHeartbeats 16000000 in
theorem end1_any (x : Tx) (yes : Bool) (g gt : Nat) (w w0 : World) (hb : Below w0.heap.size w0 w) (hg : w0.heap.size ≤ g) (hx : Tx.In w0 x) (h1 : Has w g #[.string x.id, .int .i64 x.pid, .int .i64 x.gen, .int .i64 x.no, .int .i64 x.st, .slice x.PA x.Pn x.Pc, .slice x.GA x.Gn x.Gc, .int .i64 x.at_]) (h2 : Has w gt #[.int .i64 (endTo yes)]) :
    Calls Try.prog 60 #[.pointer (some ⟨g, 0, none⟩), .pointer (some ⟨gt, 0, none⟩)] w fun e w' => ChRes w g (endF yes x.val) e w' := by
  have X1 := Lib.hid h1
  have T1 := Lib.hid h2
  have XI := Lib.hid hx
  have XO := Lib.hid (hx.old hg)
  have BB := Lib.hid hb
  have rx := at_regrown (v := .int .i64 x.st) (h1.cell 4)
  have rt := at_regrown (v := .int .i64 (endTo yes)) (h2.cell 0)
  have gl := h1.lt
  have tl := h2.lt
  obtain ⟨tw, htw⟩ : ∃ tw, endTo yes = tw := ⟨_, rfl⟩
  have HT := Lib.hid htw
  have EF : endF yes x.val = if x.st = 1 ∨ x.st = tw then ({ x.val with st := tw }, 0) else (x.val, 210) := by unfold endF; rw [htw]; rfl
  rw [EF]
  rw [htw] at rt T1
  clear h1 h2 hx hb hg htw EF
  by_cases c : x.st = 1 ∨ x.st = tw
  · rw [if_pos c]
    have ST : ∀ W, Below w.heap.size w W → ∃ y : Tx, Has (W.setCell ⟨g, 4, none⟩ (.int .i64 tw)) g #[.string y.id, .int .i64 y.pid, .int .i64 y.gen, .int .i64 y.no, .int .i64 y.st, .slice y.PA y.Pn y.Pc, .slice y.GA y.Gn y.Gc, .int .i64 y.at_] ∧ Tx.In (W.setCell ⟨g, 4, none⟩ (.int .i64 tw)) y ∧ y.val = { x.val with st := tw } := fun W hW => by
      have G := setCells_grown g [.int .i64 tw] 4 W
      refine ⟨{ x with st := tw }, by simpa using (X1.out.past hW).setAt 4 (.int .i64 tw) (by simp), ?_, rfl⟩
      have i2 : Tx.In W { x with st := tw } := (fun (h : Tx.In W x) => ⟨h.id, h.p, h.g⟩) ((XI.out.past BB.out).past hW)
      exact i2.off XO.out G
    have SH := Lib.hid ST
    have SG := Lib.hid (fun W (hW : Below w.heap.size w W) => grown_trans (grown_of_below hW (some g)) (setCells_grown g [.int .i64 tw] 4 W))
    clear ST
    by_cases c1 : x.st = 1
    · have d1 : (x.st != 1) = false := by rw [bne_eq_false_iff_eq]; exact c1
      have d2 : (x.st == 1) = true := by rw [beq_iff_eq]; exact c1
      clear c c1
      go_enter Try.func60, Try.ntmps60
      go_wp2_with fail
      refine region_below (by kernel_rfl) (by kernel_rfl) ?_
      repeat (go_big_quiet_step (fail))
      refine wpQuiet_nil ?_
      intro w1 hb1
      have BQ := Lib.hid hb1
      have xc := (X1.out.past hb1).cell
      have xf := (X1.out.past hb1).free
      have xl := (X1.out.past hb1).lt
      have tc := (T1.out.past hb1).cell
      have tl1 := (T1.out.past hb1).lt
      clear rx rt gl tl hb1
      go_wp2_with fail
      go_ret
      exact ⟨rfl, fun _ => SH.out _ BQ.out, SG.out _ BQ.out⟩
    · have d1 : (x.st != 1) = true := by rw [bne_iff_ne]; exact c1
      have d2 : (x.st == 1) = false := by rw [beq_eq_false_iff_ne]; exact c1
      have d3 : (x.st != tw) = false := by rw [bne_eq_false_iff_eq]; exact c.resolve_left c1
      have d4 : (x.st == tw) = true := by rw [beq_iff_eq]; exact c.resolve_left c1
      clear c c1
      go_enter Try.func60, Try.ntmps60
      go_wp2_with fail
      refine region_below (by kernel_rfl) (by kernel_rfl) ?_
      repeat (go_big_quiet_step (fail))
      refine wpQuiet_nil ?_
      intro w1 hb1
      have BQ := Lib.hid hb1
      have xc := (X1.out.past hb1).cell
      have xf := (X1.out.past hb1).free
      have xl := (X1.out.past hb1).lt
      have tc := (T1.out.past hb1).cell
      have tl1 := (T1.out.past hb1).lt
      clear rx rt gl tl hb1
      go_wp2_with fail
      go_ret
      exact ⟨rfl, fun _ => SH.out _ BQ.out, SG.out _ BQ.out⟩
  · rw [if_neg c]
    have c1 : ¬ x.st = 1 := fun h => c (.inl h)
    have c2 : ¬ x.st = tw := fun h => c (.inr h)
    have d1 : (x.st != 1) = true := by rw [bne_iff_ne]; exact c1
    have d2 : (x.st == 1) = false := by rw [beq_eq_false_iff_ne]; exact c1
    have d3 : (x.st != tw) = true := by rw [bne_iff_ne]; exact c2
    have d4 : (x.st == tw) = false := by rw [beq_eq_false_iff_ne]; exact c2
    clear c c1 c2
    go_enter Try.func60, Try.ntmps60
    go_wp2_with fail
    refine region_below (by kernel_rfl) (by kernel_rfl) ?_
    repeat (go_big_quiet_step (fail))
    refine wpQuiet_nil ?_
    intro w1 hb1
    have GB := Lib.hid (grown_of_below hb1 (some g))
    clear hb1
    go_wp2_with fail
    go_ret
    exact ⟨rfl, fun h => (by cases h), GB.out⟩

set_option maxRecDepth 100000 in
set_option maxHeartbeats 16000000 in
theorem end_any (o : Tc) (id : ByteArray) (pid gen : Int) (yes : Bool) (w : World) (ho : Tc.At w o) (hf : FewV o.val) : Calls Try.prog 28 #[o.v, .string id, .int .i64 pid, .int .i64 gen, .bool yes] w fun e w' => CoRes w (endV o.val id pid gen yes) e w' := by
  obtain ⟨W0, hW0⟩ : ∃ W0, W0 = ((w.alloc (.cells #[.int .i64 o.next, .slice o.A o.n o.c] 24)).alloc (.cells #[.int .i64 0, .slice none 0 0] 24)).alloc (.cells #[.int .i64 (endTo yes)] 3) := ⟨_, rfl⟩
  have b1 := below_alloc1 w (.cells #[.int .i64 o.next, .slice o.A o.n o.c] 24)
  have b2 := b1.alloc b1.size (.cells #[.int .i64 0, .slice none 0 0] 24)
  have B0 := Lib.hid (show Below w.heap.size w W0 from by rw [hW0]; exact b2.alloc b2.size _)
  have S0 := Lib.hid (show Has W0 w.heap.size #[.int .i64 o.next, .slice o.A o.n o.c] from by rw [hW0]; exact ((Has.newAt w _ 24 rfl).alloc _).alloc _)
  have R0 := Lib.hid (show Has W0 (w.heap.size + 1) #[.int .i64 0, .slice none 0 0] from by rw [hW0]; exact (Has.newAt _ _ 24 (by simp)).alloc _)
  have T0 := Lib.hid (show Has W0 (w.heap.size + 1 + 1) #[.int .i64 (endTo yes)] from by rw [hW0]; exact Has.newAt _ _ 3 (by simp))
  have AS := Lib.hid (asked_any o id pid gen true 60 #[.pointer (some ⟨w.heap.size + 1 + 1, 0, none⟩)] (endF yes) W0 (ho.below B0.out) hf (enters_of Try.func60 (by kernel_rfl) rfl)
    (fun x g W' hb hg hx _ _ hX => end1_any x yes g _ W' W0 hb hg hx hX (T0.out.past hb)))
  have VE : endV o.val id pid gen yes = askV o.val id pid gen true (endF yes) := rfl
  rw [VE]
  obtain ⟨V9, hV9⟩ : ∃ V, askV o.val id pid gen true (endF yes) = V := ⟨_, rfl⟩
  rw [hV9] at AS ⊢
  obtain ⟨V9, c9⟩ := V9
  have HW := Lib.hid hW0
  have s0c := S0.out.cell
  have s0l := S0.out.lt
  have FIN : Hid (∀ (q : Tc) (w1 : World), Below W0.heap.size W0 w1 → Tc.Is w1 q V9 → CoRes w (V9, c9) (.returned (.tuple #[q.v, .int .i64 c9])) (w1.setCells (w.heap.size + 1) 0 [.int .i64 q.next, .slice q.A q.n q.c]) ∧ Has w1 (w.heap.size + 1) #[.int .i64 0, .slice none 0 0]) := by
    refine Lib.hid fun q w1 hb hq => ?_
    have R1 := R0.out.past hb
    have B1 := below_from hb B0.out B0.out.size
    have G := setCells_grown (w.heap.size + 1) [.int .i64 q.next, .slice q.A q.n q.c] 0 w1
    exact ⟨CoRes.of rfl (hq.beside R1 (tc_texts _ _ _ _) G) (B1.trans (grown_below G B1.size (fun k hk => by injection hk with hk; omega))), R1⟩
  clear hW0 b1 b2 ho hf VE hV9 S0 R0 T0 B0
  cases yes with
  | false =>
    go_enter Try.func28, Try.ntmps28
    go_upto_region 4 with (fail)
    rw [show ((w.alloc (.cells #[.int .i64 o.next, .slice o.A o.n o.c] 24)).alloc (.cells #[.int .i64 0, .slice none 0 0] 24)).alloc (.cells #[.int .i64 3] 3) = W0 from HW.out.symm]
    go_wp2_with (go_at_call 59; refine AS.out.mono ?_; rintro e w1 ⟨q, rfl, hq, hb⟩; have FI := Lib.hid (FIN.out q w1 hb hq); have r1c := FI.out.2.cell; have r1f := FI.out.2.free; have r1l := FI.out.2.lt; clear hq hb s0c s0l)
    refine bodyPost_ret (v := .tuple #[q.v, .int .i64 c9]) (results_cell_tmp Try.results28 (g := w.heap.size + 1) rfl rfl (load24 (FI.out.2.set [.int .i64 q.next, .slice q.A q.n q.c] rfl))) rfl ?_
    exact FI.out.1
  | true =>
    go_enter Try.func28, Try.ntmps28
    go_upto_region 4 with (fail)
    rw [show ((w.alloc (.cells #[.int .i64 o.next, .slice o.A o.n o.c] 24)).alloc (.cells #[.int .i64 0, .slice none 0 0] 24)).alloc (.cells #[.int .i64 2] 3) = W0 from HW.out.symm]
    go_wp2_with (go_at_call 59; refine AS.out.mono ?_; rintro e w1 ⟨q, rfl, hq, hb⟩; have FI := Lib.hid (FIN.out q w1 hb hq); have r1c := FI.out.2.cell; have r1f := FI.out.2.free; have r1l := FI.out.2.lt; clear hq hb s0c s0l)
    refine bodyPost_ret (v := .tuple #[q.v, .int .i64 c9]) (results_cell_tmp Try.results28 (g := w.heap.size + 1) rfl rfl (load24 (FI.out.2.set [.int .i64 q.next, .slice q.A q.n q.c] rfl))) rfl ?_
    exact FI.out.1

end Go.Proofs.Ytnigjchgpmladaa
