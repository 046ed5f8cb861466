/- What was written is done: Done. -/
import Derived.Test.YtnigjchgpmladaaLook
import Derived.Test.YtnigjchgpmladaaAsk
import Derived.Deep.DeepCutAuto
namespace Go.Proofs.Ytnigjchgpmladaa
open Go.RowKit Go.Shelf

theorem done_chk {c : Cv} {pid : Int} (h : checkV c ≠ 0) : doneV c pid = (noC, checkV c) := by unfold doneV; rw [if_pos h]
theorem done_none {c : Cv} {pid : Int} (h : checkV c = 0) (h0 : pidAt c.L pid = none) : doneV c pid = (noC, 210) := by unfold doneV; rw [if_neg (by simpa using h), h0]
theorem done_here {c : Cv} {pid : Int} {i : Nat} {x : Tv} (h : checkV c = 0) (h0 : pidAt c.L pid = some i) (h1 : c.L[i]? = some x) :
    doneV c pid = if dueB x = true then (if x.no = 1048576 then (noC, 2) else ({ c with L := c.L.set i ⟨x.id, x.pid, x.gen, x.no + 1, 0, [], [], x.at_⟩ }, 0)) else (noC, 210) := by
  unfold doneV
  rw [if_neg (by simpa using h), h0]
  simp only [h1]
set_option maxRecDepth 100000 in
set_option maxHeartbeats 16000000 in
theorem done_any (o : Tc) (pid : Int) (w : World) (ho : Tc.At w o) (hf : FewV o.val) : Calls Try.prog 29 #[o.v, .int .i64 pid] w fun e w' => CoRes w (doneV o.val pid) e w' := by
  obtain ⟨W0, hW0⟩ : ∃ W0, W0 = (w.alloc (.cells #[.int .i64 o.next, .slice o.A o.n o.c] 24)).alloc (.cells #[.int .i64 0, .slice none 0 0] 24) := ⟨_, rfl⟩
  have B0 := Lib.hid (show Below w.heap.size w W0 from by rw [hW0]; exact (below_alloc1 w _).alloc (by simp) _)
  have S0 := Lib.hid (show Has W0 w.heap.size #[.int .i64 o.next, .slice o.A o.n o.c] from by rw [hW0]; exact (Has.newAt w _ 24 rfl).alloc _)
  have R0 := Lib.hid (show Has W0 (w.heap.size + 1) #[.int .i64 0, .slice none 0 0] from by rw [hW0]; exact Has.newAt _ _ 24 (by simp))
  have HW := Lib.hid hW0
  have HO := Lib.hid ho
  have nm := ho.few hf
  have CK := Lib.hid (fun W (h : Below w.heap.size w W) => check_any o W (ho.below h) nm.1 nm.2)
  have NN := Lib.hid nm.1
  have LN := Lib.hid ho.num
  have PL := Lib.hid (fun W (h : Below w.heap.size w W) => place_any o pid W (ho.below h))
  have RN := Lib.hid (fun (W : World) (c : Int) (hb : Below w.heap.size w W) (h : doneV o.val pid = (noC, c)) => CoRes.no (w' := W) h hb)
  clear ho hW0 hf nm
  have s0c := S0.out.cell
  have s0l := S0.out.lt
  by_cases hk : checkV o.val = 0
  · have HK := Lib.hid hk
    rw [hk] at CK
    clear hk
    cases hp : pidAt o.val.L pid with
    | none =>
      have DN := Lib.hid (done_none HK.out hp)
      rw [hp] at PL
      replace PL := Lib.hid (fun W (h : Below w.heap.size w W) => show Calls Try.prog 53 #[o.v, .int .i64 pid] W fun e w' => e = .returned (.int .i64 (-1)) ∧ Below W.heap.size W w' from PL.out W h)
      clear hp
      go_enter Try.func29, Try.ntmps29
      go_upto_region 4 with (
        go_at_call 18; rw [← HW.out]; refine (CK.out _ B0.out).mono ?_; rintro e w1 ⟨rfl, hb1⟩; have B1 := Lib.hid (below_from hb1 B0.out B0.out.size); have S1 := Lib.hid (S0.out.past hb1); have R1 := Lib.hid (R0.out.past hb1); clear hb1 s0c s0l)
      have s1c := S1.out.cell
      have s1l := S1.out.lt
      go_upto_region 6 with (
        go_at_call 53; refine (PL.out _ B1.out).mono ?_; rintro e w2 ⟨rfl, hb2⟩; have B2 := Lib.hid (below_from hb2 B1.out B1.out.size); have S2 := Lib.hid (S1.out.past hb2); have R2 := Lib.hid (R1.out.past hb2); clear hb2 s1c s1l)
      have r2c := R2.out.cell
      have r2l := R2.out.lt
      have r2f := R2.out.free
      go_wp2_with fail
      have G := setCells_grown (w.heap.size + 1) [.int .i64 0, .slice none 0 0] 0 w2
      refine bodyPost_ret (v := .tuple #[noO.v, .int .i64 210]) (results_cell_tmp Try.results29 (g := w.heap.size + 1) rfl rfl (load24 (R2.out.set [.int .i64 0, .slice none 0 0] rfl))) rfl ?_
      exact RN.out _ _ (B2.out.trans (grown_below G B2.out.size (fun k hk => by injection hk with hk; omega))) (DN.out)
    | some i =>
      obtain ⟨hi, hv⟩ := find_some hp
      have hin : i < o.n := by rw [← LN.out]; exact hi
      obtain ⟨b, off, hl, hA, hbl, u0, u1, u2, u3, u4, u5, u6, u7⟩ := tx_at HO.out hin
      obtain ⟨x, hx⟩ : ∃ x, o.L[i] = x := ⟨_, rfl⟩
      have HX := Lib.hid (show Tx.In w x from by rw [← hx]; exact Sl.each HO.out _ (List.getElem_mem hl))
      have HV := Lib.hid (show o.val.L[i]? = some x.val from by show (o.L.map Tx.val)[i]? = _; rw [List.getElem?_map, List.getElem?_eq_getElem hl, hx]; rfl)
      have HM := Lib.hid (show x.val ∈ o.val.L from List.mem_of_getElem? HV.out)
      have DN := Lib.hid (done_here HK.out hp HV.out)
      have HIN := Lib.hid hin
      rw [hx] at u0 u1 u2 u3 u4 u5 u6 u7
      have UU := Lib.hid (fun W (k : Below w.heap.size w W) => (show W.cell? ⟨b, off + i * 8, none⟩ = some (.string x.id) ∧ W.cell? ⟨b, off + i * 8 + 1, none⟩ = some (.int .i64 x.pid) ∧ W.cell? ⟨b, off + i * 8 + 2, none⟩ = some (.int .i64 x.gen) ∧ W.cell? ⟨b, off + i * 8 + 3, none⟩ = some (.int .i64 x.no) ∧ W.cell? ⟨b, off + i * 8 + 4, none⟩ = some (.int .i64 x.st) ∧ W.cell? ⟨b, off + i * 8 + 5, none⟩ = some (.slice x.PA x.Pn x.Pc) ∧ W.cell? ⟨b, off + i * 8 + 6, none⟩ = some (.slice x.GA x.Gn x.Gc) ∧ W.cell? ⟨b, off + i * 8 + 7, none⟩ = some (.int .i64 x.at_) ∧ b < W.heap.size from
        ⟨(k.cell hbl).trans u0, (k.cell hbl).trans u1, (k.cell hbl).trans u2, (k.cell hbl).trans u3, (k.cell hbl).trans u4, (k.cell hbl).trans u5, (k.cell hbl).trans u6, (k.cell hbl).trans u7, Nat.lt_of_lt_of_le hbl k.size⟩))
      have q0 : (0 : Int) ≤ (i : Int) := by omega
      have q1 : (i : Int) < (o.n : Int) := by omega
      have HA := Lib.hid hA
      have NO := Lib.hid ((chk_iff.1 HK.out).ok HM.out).no
      obtain ⟨du, hdu⟩ : ∃ d, dueB x.val = d := ⟨_, rfl⟩
      have DX := Lib.hid (fun W => dueX_any x W)
      rw [hdu] at DX DN
      rw [hp] at PL
      replace PL := Lib.hid (fun W (h : Below w.heap.size w W) => show Calls Try.prog 53 #[o.v, .int .i64 pid] W fun e w' => e = .returned (.int .i64 (i : Nat)) ∧ Below W.heap.size W w' from PL.out W h)
      clear hp hx hl hv hin hi hA hdu u0 u1 u2 u3 u4 u5 u6 u7 hbl
      go_enter Try.func29, Try.ntmps29
      go_upto_region 4 with (
        go_at_call 18; rw [← HW.out]; refine (CK.out _ B0.out).mono ?_; rintro e w1 ⟨rfl, hb1⟩; have B1 := Lib.hid (below_from hb1 B0.out B0.out.size); have S1 := Lib.hid (S0.out.past hb1); have R1 := Lib.hid (R0.out.past hb1); clear hb1 s0c s0l)
      have s1c := S1.out.cell
      have s1l := S1.out.lt
      go_upto_region 5 with (
        go_at_call 53; refine (PL.out _ B1.out).mono ?_; rintro e w2 ⟨rfl, hb2⟩; have B2 := Lib.hid (below_from hb2 B1.out B1.out.size); have S2 := Lib.hid (S1.out.past hb2); have R2 := Lib.hid (R1.out.past hb2); clear hb2 s1c s1l)
      have s2c := S2.out.cell
      have s2l := S2.out.lt
      rw [HA.out] at s2c
      obtain ⟨u0, u1, u2, u3, u4, u5, u6, u7, ub⟩ := UU.out w2 B2.out
      cases du with
      | false =>
        have DN2 := Lib.hid (show doneV o.val pid = (noC, 210) from DN.out.trans (if_neg (by simp)))
        go_upto_region 6 with (
          go_at_call 58; refine (DX.out _).mono ?_; rintro e w3 ⟨rfl, hb3⟩; have B3 := Lib.hid (below_from hb3 B2.out B2.out.size); have S3 := Lib.hid (S2.out.past hb3); have R3 := Lib.hid (R2.out.past hb3); clear hb3 s2c s2l)
        clear u0 u1 u2 u3 u4 u5 u6 u7 ub q0 q1
        have r3c := R3.out.cell
        have r3l := R3.out.lt
        have r3f := R3.out.free
        go_wp2_with fail
        have G := setCells_grown (w.heap.size + 1) [.int .i64 0, .slice none 0 0] 0 w3
        refine bodyPost_ret (v := .tuple #[noO.v, .int .i64 210]) (results_cell_tmp Try.results29 (g := w.heap.size + 1) rfl rfl (load24 (R3.out.set [.int .i64 0, .slice none 0 0] rfl))) rfl ?_
        exact RN.out _ _ (B3.out.trans (grown_below G B3.out.size (fun k hk => by injection hk with hk; omega))) (DN2.out)
      | true =>
        have DN2 := Lib.hid (show _ = _ from DN.out.trans (if_pos rfl))
        go_upto_region 7 with (
          go_at_call 58; refine (DX.out _).mono ?_; rintro e w3 ⟨rfl, hb3⟩; have B3 := Lib.hid (below_from hb3 B2.out B2.out.size); have S3 := Lib.hid (S2.out.past hb3); have R3 := Lib.hid (R2.out.past hb3); clear hb3 s2c s2l)
        clear u0 u1 u2 u3 u4 u5 u6 u7 ub
        obtain ⟨u0, u1, u2, u3, u4, u5, u6, u7, ub⟩ := UU.out w3 B3.out
        have s3c := S3.out.cell
        have s3l := S3.out.lt
        rw [HA.out] at s3c
        go_upto_region 8 with (fail)
        obtain ⟨w4, hw4⟩ : ∃ W, W = w3.alloc (.cells #[.string x.id, .int .i64 x.pid, .int .i64 x.gen, .int .i64 x.no, .int .i64 x.st, .slice x.PA x.Pn x.Pc, .slice x.GA x.Gn x.Gc, .int .i64 x.at_] 33) := ⟨_, rfl⟩
        have hb4 : Below w3.heap.size w3 w4 := by rw [hw4]; exact below_alloc1 w3 _
        have X4 := Lib.hid (show Has w4 w3.heap.size #[.string x.id, .int .i64 x.pid, .int .i64 x.gen, .int .i64 x.no, .int .i64 x.st, .slice x.PA x.Pn x.Pc, .slice x.GA x.Gn x.Gc, .int .i64 x.at_] from by rw [hw4]; exact Has.newAt w3 _ 33 rfl)
        have B4 := Lib.hid (below_from hb4 B3.out B3.out.size)
        have S4 := Lib.hid (S3.out.past hb4)
        have R4 := Lib.hid (R3.out.past hb4)
        rw [← hw4]
        clear hw4 hb4 s3c s3l u0 u1 u2 u3 u4 u5 u6 u7 ub q0 q1
        have x4c := X4.out.cell
        have x4l := X4.out.lt
        by_cases hm : x.no = 1048576
        · have d5 : (x.no == 1048576) = true := by rw [beq_iff_eq]; exact hm
          have DN3 := Lib.hid (show doneV o.val pid = (noC, 2) from DN2.out.trans (if_pos hm))
          clear hm
          have r4c := R4.out.cell
          have r4l := R4.out.lt
          have r4f := R4.out.free
          go_wp2_with fail
          have G := setCells_grown (w.heap.size + 1) [.int .i64 0, .slice none 0 0] 0 w4
          refine bodyPost_ret (v := .tuple #[noO.v, .int .i64 2]) (results_cell_tmp Try.results29 (g := w.heap.size + 1) rfl rfl (load24 (R4.out.set [.int .i64 0, .slice none 0 0] rfl))) rfl ?_
          exact RN.out _ _ (B4.out.trans (grown_below G B4.out.size (fun k hk => by injection hk with hk; omega))) (DN3.out)
        · have d5 : (x.no == 1048576) = false := by rw [beq_eq_false_iff_ne]; exact hm
          have wr1 : IntKind.i64.wrap (x.no + 1) = x.no + 1 := IntWalk.i64_in _ (by have h1 : 0 ≤ x.no := NO.out.1; have h2 : x.no ≤ 1048576 := NO.out.2; omega)
          obtain ⟨y, hy⟩ : ∃ y : Tx, y = ⟨x.id, x.pid, x.gen, x.no + 1, 0, none, 0, 0, [], none, 0, 0, [], x.at_⟩ := ⟨_, rfl⟩
          have DN3 := Lib.hid (show doneV o.val pid = ({ o.val with L := o.val.L.set i y.val }, 0) from by rw [hy]; exact DN2.out.trans (if_neg hm))
          have PU := Lib.hid (put_any o i y w4 (HO.out.below B4.out) (by rw [hy]; exact ⟨HX.out.id, Sl.nil _ _, Sl.nil _ _⟩) HIN.out NN.out)
          rw [show y.v = .agg #[.string x.id, .int .i64 x.pid, .int .i64 x.gen, .int .i64 (x.no + 1), .int .i64 0, .slice none 0 0, .slice none 0 0, .int .i64 x.at_] from by rw [hy]] at PU
          clear hm hy
          have s4c := S4.out.cell
          have s4l := S4.out.lt
          go_wp2_with (
            go_at_call 46; refine PU.out.mono ?_; rintro e w5 ⟨q, rfl, hq, hb5⟩; have B5 := Lib.hid (below_from hb5 B4.out B4.out.size); have S5 := Lib.hid (S4.out.past hb5); have R5 := Lib.hid (R4.out.past hb5); have HQ := Lib.hid hq; have r5c := R5.out.cell; have r5l := R5.out.lt; have r5f := R5.out.free; clear hb5 hq s4c s4l x4c x4l)
          have G := setCells_grown (w.heap.size + 1) [.int .i64 q.next, .slice q.A q.n q.c] 0 w5
          have BB := B5.out.trans (grown_below G B5.out.size (fun k hk => by injection hk with hk; omega))
          refine bodyPost_ret (v := .tuple #[q.v, .int .i64 0]) (results_cell_tmp Try.results29 (g := w.heap.size + 1) rfl rfl (load24 (R5.out.set [.int .i64 q.next, .slice q.A q.n q.c] rfl))) rfl ?_
          exact CoRes.of DN3.out (HQ.out.beside R5.out (tc_texts _ _ _ _) G) BB
  · have HK := Lib.hid hk
    obtain ⟨c, hc⟩ : ∃ c, checkV o.val = c := ⟨_, rfl⟩
    have HQ := Lib.hid hc
    rw [hc] at CK hk
    have d1 : (c != 0) = true := by rw [bne_iff_ne]; exact hk
    have d2 : (c == 0) = false := by rw [beq_eq_false_iff_ne]; exact hk
    clear hc hk
    go_enter Try.func29, Try.ntmps29
    go_upto_region 3 with (
      go_at_call 18; rw [← HW.out]; refine (CK.out _ B0.out).mono ?_; rintro e w1 ⟨rfl, hb1⟩; have B1 := Lib.hid (below_from hb1 B0.out B0.out.size); have S1 := Lib.hid (S0.out.past hb1); have R1 := Lib.hid (R0.out.past hb1); clear hb1 s0c s0l)
    have r1c := R1.out.cell
    have r1l := R1.out.lt
    have r1f := R1.out.free
    go_wp2_with fail
    have G := setCells_grown (w.heap.size + 1) [.int .i64 0, .slice none 0 0] 0 w1
    refine bodyPost_ret (v := .tuple #[noO.v, .int .i64 c]) (results_cell_tmp Try.results29 (g := w.heap.size + 1) rfl rfl (load24 (R1.out.set [.int .i64 0, .slice none 0 0] rfl))) rfl ?_
    exact RN.out _ _ (B1.out.trans (grown_below G B1.out.size (fun k hk => by injection hk with hk; omega))) (by rw [done_chk HK.out, HQ.out])

end Go.Proofs.Ytnigjchgpmladaa
