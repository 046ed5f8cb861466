/- End, of the document. -/
import Derived.Test.YtnigjchgpmladaaRWith
import Derived.Test.YtnigjchgpmladaaRAsk
import Derived.Test.YtnigjchgpmladaaRCheck
import Derived.Test.YtnigjchgpmladaaAsk
import Derived.Deep.DeepCutAuto
namespace Go.Proofs.Ytnigjchgpmladaa
open Go.RowKit Go.Shelf

set_option maxRecDepth 100000 in
set_option maxHeartbeats 16000000 in
theorem rend_any (o : Tc) (id : ByteArray) (pid gen : Int) (yes : Bool) (w : World) (ho : Tc.At w o) (hf : FewV o.val) : Calls Try.prog 35 #[o.v, .string id, .int .i64 pid, .int .i64 gen, .bool yes] w fun e w' => CoRes w (endV o.val id pid gen yes) e w' := by
  obtain ⟨W0, hW0⟩ : ∃ W0, W0 = (w.alloc (.cells #[.int .i64 o.next, .slice o.A o.n o.c] 24)).alloc (.cells #[.int .i64 0, .slice none 0 0] 24) := ⟨_, rfl⟩
  have B0 := Lib.hid (show Below w.heap.size w W0 from by rw [hW0]; exact (below_alloc1 w _).alloc (by simp) _)
  have S0 := Lib.hid (show Has W0 w.heap.size #[.int .i64 o.next, .slice o.A o.n o.c] from by rw [hW0]; exact (Has.newAt w _ 24 rfl).alloc _)
  have R0 := Lib.hid (show Has W0 (w.heap.size + 1) #[.int .i64 0, .slice none 0 0] from by rw [hW0]; exact Has.newAt _ _ 24 (by simp))
  have HW := Lib.hid hW0
  have HO := Lib.hid ho
  have nm := ho.few hf
  have CK := Lib.hid (fun W (h : Below w.heap.size w W) => rcheck_any o W (ho.below h) nm.1 nm.2)
  have NN := Lib.hid nm.1
  have LN := Lib.hid ho.num
  have RA := Lib.hid (fun W (h : Below w.heap.size w W) => rasked_any o id pid gen W (ho.below h))
  rw [show endV o.val id pid gen yes = askV o.val id pid gen true (endF yes) from rfl]
  have RN := Lib.hid (fun (W : World) (c : Int) (hb : Below w.heap.size w W) (h : askV o.val id pid gen true (endF yes) = (noC, c)) => CoRes.no (w' := W) h hb)
  clear ho hW0 hf nm
  have s0c := S0.out.cell
  have s0l := S0.out.lt
  by_cases hk : checkV o.val = 0
  · have HK := Lib.hid hk
    rw [hk] at CK
    clear hk
    cases hi : idAt o.val.L id with
    | none =>
      have ANS := Lib.hid (ask_none (pid := pid) (gen := gen) (f := endF yes) HK.out hi)
      have AV := Lib.hid (show askAt o.val id pid gen = (-1, 230) from by unfold askAt; rw [hi])
      simp only [AV.out] at RA
      clear hi
      go_enter Try.func35, Try.ntmps35
      go_upto_region 4 with (first
        | (go_at_call 19; rw [← HW.out]; refine (CK.out _ B0.out).mono ?_; rintro e w1 ⟨rfl, hb1⟩; have B1 := Lib.hid (below_from hb1 B0.out B0.out.size); have S1 := Lib.hid (S0.out.past hb1); have R1 := Lib.hid (R0.out.past hb1); clear hb1 s0c s0l))
      have s1c := S1.out.cell
      have s1l := S1.out.lt
      go_upto_region 6 with (go_at_call 68; refine (RA.out _ B1.out).mono ?_; rintro e w2 ⟨rfl, hb2⟩; have B2 := Lib.hid (below_from hb2 B1.out B1.out.size); have S2 := Lib.hid (S1.out.past hb2); have R2 := Lib.hid (R1.out.past hb2); clear hb2 s1c s1l)
      have r2c := R2.out.cell
      have r2l := R2.out.lt
      have r2f := R2.out.free
      go_wp2_with fail
      have G := setCells_grown (w.heap.size + 1) [.int .i64 0, .slice none 0 0] 0 w2
      refine bodyPost_ret (v := .tuple #[noO.v, .int .i64 230]) (results_cell_tmp Try.results35 (g := w.heap.size + 1) rfl rfl (load24 (R2.out.set [.int .i64 0, .slice none 0 0] rfl))) rfl ?_
      exact RN.out _ _ (B2.out.trans (grown_below G B2.out.size (fun k hk => by injection hk with hk; omega))) (ANS.out)
    | some i =>
      have hil : i < o.val.L.length := (id_some hi).elim fun h _ => h
      have hin : i < o.n := by rw [← LN.out]; exact hil
      obtain ⟨b, off, hl, hA, hbl, u0, u1, u2, u3, u4, u5, u6, u7⟩ := tx_at HO.out hin
      obtain ⟨x, hx⟩ : ∃ x, o.L[i] = x := ⟨_, rfl⟩
      have HX := Lib.hid (show Tx.In w x from by rw [← hx]; exact Sl.each HO.out _ (List.getElem_mem hl))
      have HV := Lib.hid (show o.val.L[i]? = some x.val from by show (o.L.map Tx.val)[i]? = _; rw [List.getElem?_map, List.getElem?_eq_getElem hl, hx]; rfl)
      have HM := Lib.hid (show x.val ∈ o.val.L from List.mem_of_getElem? HV.out)
      have HIN := Lib.hid hin
      have HI := Lib.hid hi
      have ANS := Lib.hid (ask_here (pid := pid) (gen := gen) (f := endF yes) HK.out hi HV.out)
      rw [hx] at u0 u1 u2 u3 u4 u5 u6 u7
      have UU := Lib.hid (fun W (k : Below w.heap.size w W) => (show W.cell? ⟨b, off + i * 8, none⟩ = some (.string x.id) ∧ W.cell? ⟨b, off + i * 8 + 1, none⟩ = some (.int .i64 x.pid) ∧ W.cell? ⟨b, off + i * 8 + 2, none⟩ = some (.int .i64 x.gen) ∧ W.cell? ⟨b, off + i * 8 + 3, none⟩ = some (.int .i64 x.no) ∧ W.cell? ⟨b, off + i * 8 + 4, none⟩ = some (.int .i64 x.st) ∧ W.cell? ⟨b, off + i * 8 + 5, none⟩ = some (.slice x.PA x.Pn x.Pc) ∧ W.cell? ⟨b, off + i * 8 + 6, none⟩ = some (.slice x.GA x.Gn x.Gc) ∧ W.cell? ⟨b, off + i * 8 + 7, none⟩ = some (.int .i64 x.at_) ∧ b < W.heap.size from
        ⟨(k.cell hbl).trans u0, (k.cell hbl).trans u1, (k.cell hbl).trans u2, (k.cell hbl).trans u3, (k.cell hbl).trans u4, (k.cell hbl).trans u5, (k.cell hbl).trans u6, (k.cell hbl).trans u7, Nat.lt_of_lt_of_le hbl k.size⟩))
      have q0 : (0 : Int) ≤ (i : Int) := by omega
      have q1 : (i : Int) < (o.n : Int) := by omega
      have HA := Lib.hid hA
      clear hi hx hl hil hin hA u0 u1 u2 u3 u4 u5 u6 u7 hbl
      by_cases hm : x.pid = pid ∧ x.gen = gen
      · have ANS := Lib.hid (show askV o.val id pid gen true (endF yes) = if (endF yes x.val).2 ≠ 0 then (noC, (endF yes x.val).2) else ({ o.val with L := o.val.L.set i (endF yes x.val).1 }, 0) from ANS.out.trans (if_pos hm))
        have AV := Lib.hid (show askAt o.val id pid gen = ((i : Int), 0) from by unfold askAt; rw [HI.out]; simp only [HV.out]; exact if_pos hm)
        simp only [AV.out] at RA
        clear hm
        go_enter Try.func35, Try.ntmps35
        go_upto_region 4 with (first
          | (go_at_call 19; rw [← HW.out]; refine (CK.out _ B0.out).mono ?_; rintro e w1 ⟨rfl, hb1⟩; have B1 := Lib.hid (below_from hb1 B0.out B0.out.size); have S1 := Lib.hid (S0.out.past hb1); have R1 := Lib.hid (R0.out.past hb1); clear hb1 s0c s0l))
        have s1c := S1.out.cell
        have s1l := S1.out.lt
        go_upto_region 7 with (go_at_call 68; refine (RA.out _ B1.out).mono ?_; rintro e w2 ⟨rfl, hb2⟩; have B2 := Lib.hid (below_from hb2 B1.out B1.out.size); have S2 := Lib.hid (S1.out.past hb2); have R2 := Lib.hid (R1.out.past hb2); clear hb2 s1c s1l)
        have s2c := S2.out.cell
        have s2l := S2.out.lt
        rw [HA.out] at s2c
        obtain ⟨u0, u1, u2, u3, u4, u5, u6, u7, ub⟩ := UU.out w2 B2.out
        go_upto_region 8 with (fail)
        obtain ⟨w3, hw3⟩ : ∃ W, W = w2.alloc (.cells #[.string x.id, .int .i64 x.pid, .int .i64 x.gen, .int .i64 x.no, .int .i64 x.st, .slice x.PA x.Pn x.Pc, .slice x.GA x.Gn x.Gc, .int .i64 x.at_] 33) := ⟨_, rfl⟩
        have hb3 : Below w2.heap.size w2 w3 := by rw [hw3]; exact below_alloc1 w2 _
        have X3 := Lib.hid (show Has w3 w2.heap.size #[.string x.id, .int .i64 x.pid, .int .i64 x.gen, .int .i64 x.no, .int .i64 x.st, .slice x.PA x.Pn x.Pc, .slice x.GA x.Gn x.Gc, .int .i64 x.at_] from by rw [hw3]; exact Has.newAt w2 _ 33 rfl)
        have B3 := Lib.hid (below_from hb3 B2.out B2.out.size)
        have S3 := Lib.hid (S2.out.past hb3)
        have R3 := Lib.hid (R2.out.past hb3)
        have GE := Lib.hid (show w.heap.size + 1 < w2.heap.size from R2.out.lt)
        rw [← hw3]
        clear hw3 hb3 s2c s2l u0 u1 u2 u3 u4 u5 u6 u7 ub q0 q1
        obtain ⟨tw, htw⟩ : ∃ t, endTo yes = t := ⟨_, rfl⟩
        have EF : endF yes x.val = if x.st = 1 ∨ x.st = tw then ({ x.val with st := tw }, 0) else (x.val, 210) := by unfold endF; rw [htw]; rfl
        have EFH := Lib.hid EF
        have HT := Lib.hid htw
        clear EF
        cases yes with
        | false =>
          rw [show tw = 3 from htw.symm] at EFH HT
          clear htw tw
          have x3c := X3.out.cell
          have x3l := X3.out.lt
          have x3f := X3.out.free
          by_cases c1 : x.st = 1
          · have d1 : (x.st != 1) = false := by rw [bne_eq_false_iff_eq]; exact c1
            have d2 : (x.st == 1) = true := by rw [beq_iff_eq]; exact c1
            have E1 := Lib.hid (EFH.out.trans (if_pos (.inl c1)))
            clear c1
            go_upto_region 14 with (fail)
            have G := setCells_grown w2.heap.size [.int .i64 3] 4 w3
            obtain ⟨y, hy⟩ : ∃ y : Tx, y = { x with st := 3 } := ⟨_, rfl⟩
            obtain ⟨w4, hw4⟩ : ∃ W, W = w3.setCells w2.heap.size 4 [.int .i64 3] := ⟨_, rfl⟩
            have Y4 := Lib.hid (show Has w4 w2.heap.size #[.string y.id, .int .i64 y.pid, .int .i64 y.gen, .int .i64 y.no, .int .i64 y.st, .slice y.PA y.Pn y.Pc, .slice y.GA y.Gn y.Gc, .int .i64 y.at_] from by
              have := X3.out.setAt 4 (.int .i64 3) (by simp)
              rw [hw4, hy]
              simpa [World.setCells] using this)
            rw [← hw4] at G
            have B4 := Lib.hid (B3.out.trans (grown_below G B3.out.size (fun k hk => by injection hk with hk; have := GE.out; omega)))
            have S4 := Lib.hid (S3.out.grown G (by have := GE.out; omega))
            have R4 := Lib.hid (R3.out.grown G (by have := GE.out; omega))
            rw [show w3.setCell ⟨w2.heap.size, 4, none⟩ (.int .i64 3) = w4 from hw4.symm]
            have ANS := Lib.hid (show askV o.val id pid gen true (endF _) = ({ o.val with L := o.val.L.set i y.val }, 0) from ANS.out.trans (by rw [E1.out, hy]; exact if_neg (by simp)))
            have PU := Lib.hid (rwith_any o i y w4 (HO.out.below B4.out) ((show Tx.In w y from by rw [hy]; exact ⟨HX.out.id, HX.out.p, HX.out.g⟩).past B4.out) HIN.out NN.out)
            clear hw4 G hy x3c x3l x3f
            have s4c := S4.out.cell
            have s4l := S4.out.lt
            have y4c := Y4.out.cell
            have y4l := Y4.out.lt
            go_wp2_with (
              go_at_call 52; refine PU.out.mono ?_; rintro e w9 ⟨q, rfl, hq, hb9⟩; have B9 := Lib.hid (below_from hb9 B4.out B4.out.size); have R9 := Lib.hid (R4.out.past hb9); have HQ := Lib.hid hq; have r9c := R9.out.cell; have r9l := R9.out.lt; have r9f := R9.out.free; clear hb9 hq s4c s4l y4c y4l)
            have G := setCells_grown (w.heap.size + 1) [.int .i64 q.next, .slice q.A q.n q.c] 0 w9
            have BB := B9.out.trans (grown_below G B9.out.size (fun k hk => by injection hk with hk; omega))
            refine bodyPost_ret (v := .tuple #[q.v, .int .i64 0]) (results_cell_tmp Try.results35 (g := w.heap.size + 1) rfl rfl (load24 (R9.out.set [.int .i64 q.next, .slice q.A q.n q.c] rfl))) rfl ?_
            exact CoRes.of ANS.out (HQ.out.beside R9.out (tc_texts _ _ _ _) G) BB
          · have d1 : (x.st != 1) = true := by rw [bne_iff_ne]; exact c1
            have d2 : (x.st == 1) = false := by rw [beq_eq_false_iff_ne]; exact c1
            by_cases c2 : x.st = 3
            · have d3 : (x.st != 3) = false := by rw [bne_eq_false_iff_eq]; exact c2
              have d4 : (x.st == 3) = true := by rw [beq_iff_eq]; exact c2
              have E1 := Lib.hid (EFH.out.trans (if_pos (.inr c2)))
              clear c1 c2
              go_upto_region 14 with (fail)
              have G := setCells_grown w2.heap.size [.int .i64 3] 4 w3
              obtain ⟨y, hy⟩ : ∃ y : Tx, y = { x with st := 3 } := ⟨_, rfl⟩
              obtain ⟨w4, hw4⟩ : ∃ W, W = w3.setCells w2.heap.size 4 [.int .i64 3] := ⟨_, rfl⟩
              have Y4 := Lib.hid (show Has w4 w2.heap.size #[.string y.id, .int .i64 y.pid, .int .i64 y.gen, .int .i64 y.no, .int .i64 y.st, .slice y.PA y.Pn y.Pc, .slice y.GA y.Gn y.Gc, .int .i64 y.at_] from by
                have := X3.out.setAt 4 (.int .i64 3) (by simp)
                rw [hw4, hy]
                simpa [World.setCells] using this)
              rw [← hw4] at G
              have B4 := Lib.hid (B3.out.trans (grown_below G B3.out.size (fun k hk => by injection hk with hk; have := GE.out; omega)))
              have S4 := Lib.hid (S3.out.grown G (by have := GE.out; omega))
              have R4 := Lib.hid (R3.out.grown G (by have := GE.out; omega))
              rw [show w3.setCell ⟨w2.heap.size, 4, none⟩ (.int .i64 3) = w4 from hw4.symm]
              have ANS := Lib.hid (show askV o.val id pid gen true (endF _) = ({ o.val with L := o.val.L.set i y.val }, 0) from ANS.out.trans (by rw [E1.out, hy]; exact if_neg (by simp)))
              have PU := Lib.hid (rwith_any o i y w4 (HO.out.below B4.out) ((show Tx.In w y from by rw [hy]; exact ⟨HX.out.id, HX.out.p, HX.out.g⟩).past B4.out) HIN.out NN.out)
              clear hw4 G hy x3c x3l x3f
              have s4c := S4.out.cell
              have s4l := S4.out.lt
              have y4c := Y4.out.cell
              have y4l := Y4.out.lt
              go_wp2_with (
                go_at_call 52; refine PU.out.mono ?_; rintro e w9 ⟨q, rfl, hq, hb9⟩; have B9 := Lib.hid (below_from hb9 B4.out B4.out.size); have R9 := Lib.hid (R4.out.past hb9); have HQ := Lib.hid hq; have r9c := R9.out.cell; have r9l := R9.out.lt; have r9f := R9.out.free; clear hb9 hq s4c s4l y4c y4l)
              have G := setCells_grown (w.heap.size + 1) [.int .i64 q.next, .slice q.A q.n q.c] 0 w9
              have BB := B9.out.trans (grown_below G B9.out.size (fun k hk => by injection hk with hk; omega))
              refine bodyPost_ret (v := .tuple #[q.v, .int .i64 0]) (results_cell_tmp Try.results35 (g := w.heap.size + 1) rfl rfl (load24 (R9.out.set [.int .i64 q.next, .slice q.A q.n q.c] rfl))) rfl ?_
              exact CoRes.of ANS.out (HQ.out.beside R9.out (tc_texts _ _ _ _) G) BB
            · have d3 : (x.st != 3) = true := by rw [bne_iff_ne]; exact c2
              have d4 : (x.st == 3) = false := by rw [beq_eq_false_iff_ne]; exact c2
              have E1 := Lib.hid (EFH.out.trans (if_neg (fun h => h.elim c1 c2)))
              have ANS := Lib.hid (show askV o.val id pid gen true (endF _) = (noC, 210) from ANS.out.trans (by rw [E1.out]; exact if_pos (by simp)))
              clear c1 c2
              have r3c := R3.out.cell
              have r3l := R3.out.lt
              have r3f := R3.out.free
              go_wp2_with fail
              have G := setCells_grown (w.heap.size + 1) [.int .i64 0, .slice none 0 0] 0 w3
              refine bodyPost_ret (v := .tuple #[noO.v, .int .i64 210]) (results_cell_tmp Try.results35 (g := w.heap.size + 1) rfl rfl (load24 (R3.out.set [.int .i64 0, .slice none 0 0] rfl))) rfl ?_
              exact RN.out _ _ (B3.out.trans (grown_below G B3.out.size (fun k hk => by injection hk with hk; omega))) (ANS.out)
        | true =>
          rw [show tw = 2 from htw.symm] at EFH HT
          clear htw tw
          have x3c := X3.out.cell
          have x3l := X3.out.lt
          have x3f := X3.out.free
          by_cases c1 : x.st = 1
          · have d1 : (x.st != 1) = false := by rw [bne_eq_false_iff_eq]; exact c1
            have d2 : (x.st == 1) = true := by rw [beq_iff_eq]; exact c1
            have E1 := Lib.hid (EFH.out.trans (if_pos (.inl c1)))
            clear c1
            go_upto_region 14 with (fail)
            have G := setCells_grown w2.heap.size [.int .i64 2] 4 w3
            obtain ⟨y, hy⟩ : ∃ y : Tx, y = { x with st := 2 } := ⟨_, rfl⟩
            obtain ⟨w4, hw4⟩ : ∃ W, W = w3.setCells w2.heap.size 4 [.int .i64 2] := ⟨_, rfl⟩
            have Y4 := Lib.hid (show Has w4 w2.heap.size #[.string y.id, .int .i64 y.pid, .int .i64 y.gen, .int .i64 y.no, .int .i64 y.st, .slice y.PA y.Pn y.Pc, .slice y.GA y.Gn y.Gc, .int .i64 y.at_] from by
              have := X3.out.setAt 4 (.int .i64 2) (by simp)
              rw [hw4, hy]
              simpa [World.setCells] using this)
            rw [← hw4] at G
            have B4 := Lib.hid (B3.out.trans (grown_below G B3.out.size (fun k hk => by injection hk with hk; have := GE.out; omega)))
            have S4 := Lib.hid (S3.out.grown G (by have := GE.out; omega))
            have R4 := Lib.hid (R3.out.grown G (by have := GE.out; omega))
            rw [show w3.setCell ⟨w2.heap.size, 4, none⟩ (.int .i64 2) = w4 from hw4.symm]
            have ANS := Lib.hid (show askV o.val id pid gen true (endF _) = ({ o.val with L := o.val.L.set i y.val }, 0) from ANS.out.trans (by rw [E1.out, hy]; exact if_neg (by simp)))
            have PU := Lib.hid (rwith_any o i y w4 (HO.out.below B4.out) ((show Tx.In w y from by rw [hy]; exact ⟨HX.out.id, HX.out.p, HX.out.g⟩).past B4.out) HIN.out NN.out)
            clear hw4 G hy x3c x3l x3f
            have s4c := S4.out.cell
            have s4l := S4.out.lt
            have y4c := Y4.out.cell
            have y4l := Y4.out.lt
            go_wp2_with (
              go_at_call 52; refine PU.out.mono ?_; rintro e w9 ⟨q, rfl, hq, hb9⟩; have B9 := Lib.hid (below_from hb9 B4.out B4.out.size); have R9 := Lib.hid (R4.out.past hb9); have HQ := Lib.hid hq; have r9c := R9.out.cell; have r9l := R9.out.lt; have r9f := R9.out.free; clear hb9 hq s4c s4l y4c y4l)
            have G := setCells_grown (w.heap.size + 1) [.int .i64 q.next, .slice q.A q.n q.c] 0 w9
            have BB := B9.out.trans (grown_below G B9.out.size (fun k hk => by injection hk with hk; omega))
            refine bodyPost_ret (v := .tuple #[q.v, .int .i64 0]) (results_cell_tmp Try.results35 (g := w.heap.size + 1) rfl rfl (load24 (R9.out.set [.int .i64 q.next, .slice q.A q.n q.c] rfl))) rfl ?_
            exact CoRes.of ANS.out (HQ.out.beside R9.out (tc_texts _ _ _ _) G) BB
          · have d1 : (x.st != 1) = true := by rw [bne_iff_ne]; exact c1
            have d2 : (x.st == 1) = false := by rw [beq_eq_false_iff_ne]; exact c1
            by_cases c2 : x.st = 2
            · have d3 : (x.st != 2) = false := by rw [bne_eq_false_iff_eq]; exact c2
              have d4 : (x.st == 2) = true := by rw [beq_iff_eq]; exact c2
              have E1 := Lib.hid (EFH.out.trans (if_pos (.inr c2)))
              clear c1 c2
              go_upto_region 14 with (fail)
              have G := setCells_grown w2.heap.size [.int .i64 2] 4 w3
              obtain ⟨y, hy⟩ : ∃ y : Tx, y = { x with st := 2 } := ⟨_, rfl⟩
              obtain ⟨w4, hw4⟩ : ∃ W, W = w3.setCells w2.heap.size 4 [.int .i64 2] := ⟨_, rfl⟩
              have Y4 := Lib.hid (show Has w4 w2.heap.size #[.string y.id, .int .i64 y.pid, .int .i64 y.gen, .int .i64 y.no, .int .i64 y.st, .slice y.PA y.Pn y.Pc, .slice y.GA y.Gn y.Gc, .int .i64 y.at_] from by
                have := X3.out.setAt 4 (.int .i64 2) (by simp)
                rw [hw4, hy]
                simpa [World.setCells] using this)
              rw [← hw4] at G
              have B4 := Lib.hid (B3.out.trans (grown_below G B3.out.size (fun k hk => by injection hk with hk; have := GE.out; omega)))
              have S4 := Lib.hid (S3.out.grown G (by have := GE.out; omega))
              have R4 := Lib.hid (R3.out.grown G (by have := GE.out; omega))
              rw [show w3.setCell ⟨w2.heap.size, 4, none⟩ (.int .i64 2) = w4 from hw4.symm]
              have ANS := Lib.hid (show askV o.val id pid gen true (endF _) = ({ o.val with L := o.val.L.set i y.val }, 0) from ANS.out.trans (by rw [E1.out, hy]; exact if_neg (by simp)))
              have PU := Lib.hid (rwith_any o i y w4 (HO.out.below B4.out) ((show Tx.In w y from by rw [hy]; exact ⟨HX.out.id, HX.out.p, HX.out.g⟩).past B4.out) HIN.out NN.out)
              clear hw4 G hy x3c x3l x3f
              have s4c := S4.out.cell
              have s4l := S4.out.lt
              have y4c := Y4.out.cell
              have y4l := Y4.out.lt
              go_wp2_with (
                go_at_call 52; refine PU.out.mono ?_; rintro e w9 ⟨q, rfl, hq, hb9⟩; have B9 := Lib.hid (below_from hb9 B4.out B4.out.size); have R9 := Lib.hid (R4.out.past hb9); have HQ := Lib.hid hq; have r9c := R9.out.cell; have r9l := R9.out.lt; have r9f := R9.out.free; clear hb9 hq s4c s4l y4c y4l)
              have G := setCells_grown (w.heap.size + 1) [.int .i64 q.next, .slice q.A q.n q.c] 0 w9
              have BB := B9.out.trans (grown_below G B9.out.size (fun k hk => by injection hk with hk; omega))
              refine bodyPost_ret (v := .tuple #[q.v, .int .i64 0]) (results_cell_tmp Try.results35 (g := w.heap.size + 1) rfl rfl (load24 (R9.out.set [.int .i64 q.next, .slice q.A q.n q.c] rfl))) rfl ?_
              exact CoRes.of ANS.out (HQ.out.beside R9.out (tc_texts _ _ _ _) G) BB
            · have d3 : (x.st != 2) = true := by rw [bne_iff_ne]; exact c2
              have d4 : (x.st == 2) = false := by rw [beq_eq_false_iff_ne]; exact c2
              have E1 := Lib.hid (EFH.out.trans (if_neg (fun h => h.elim c1 c2)))
              have ANS := Lib.hid (show askV o.val id pid gen true (endF _) = (noC, 210) from ANS.out.trans (by rw [E1.out]; exact if_pos (by simp)))
              clear c1 c2
              have r3c := R3.out.cell
              have r3l := R3.out.lt
              have r3f := R3.out.free
              go_wp2_with fail
              have G := setCells_grown (w.heap.size + 1) [.int .i64 0, .slice none 0 0] 0 w3
              refine bodyPost_ret (v := .tuple #[noO.v, .int .i64 210]) (results_cell_tmp Try.results35 (g := w.heap.size + 1) rfl rfl (load24 (R3.out.set [.int .i64 0, .slice none 0 0] rfl))) rfl ?_
              exact RN.out _ _ (B3.out.trans (grown_below G B3.out.size (fun k hk => by injection hk with hk; omega))) (ANS.out)
      · have ANS := Lib.hid (show askV o.val id pid gen true (endF yes) = (noC, 110) from ANS.out.trans (if_neg hm))
        have AV := Lib.hid (show askAt o.val id pid gen = (-1, 110) from by unfold askAt; rw [HI.out]; simp only [HV.out]; exact if_neg hm)
        simp only [AV.out] at RA
        clear hm
        go_enter Try.func35, Try.ntmps35
        go_upto_region 4 with (first
          | (go_at_call 19; rw [← HW.out]; refine (CK.out _ B0.out).mono ?_; rintro e w1 ⟨rfl, hb1⟩; have B1 := Lib.hid (below_from hb1 B0.out B0.out.size); have S1 := Lib.hid (S0.out.past hb1); have R1 := Lib.hid (R0.out.past hb1); clear hb1 s0c s0l))
        have s1c := S1.out.cell
        have s1l := S1.out.lt
        go_upto_region 6 with (go_at_call 68; refine (RA.out _ B1.out).mono ?_; rintro e w2 ⟨rfl, hb2⟩; have B2 := Lib.hid (below_from hb2 B1.out B1.out.size); have S2 := Lib.hid (S1.out.past hb2); have R2 := Lib.hid (R1.out.past hb2); clear hb2 s1c s1l)
        have r2c := R2.out.cell
        have r2l := R2.out.lt
        have r2f := R2.out.free
        go_wp2_with fail
        have G := setCells_grown (w.heap.size + 1) [.int .i64 0, .slice none 0 0] 0 w2
        refine bodyPost_ret (v := .tuple #[noO.v, .int .i64 110]) (results_cell_tmp Try.results35 (g := w.heap.size + 1) rfl rfl (load24 (R2.out.set [.int .i64 0, .slice none 0 0] rfl))) rfl ?_
        exact RN.out _ _ (B2.out.trans (grown_below G B2.out.size (fun k hk => by injection hk with hk; omega))) (ANS.out)
  · have HK := Lib.hid hk
    obtain ⟨c, hc⟩ : ∃ c, checkV o.val = c := ⟨_, rfl⟩
    have HQ := Lib.hid hc
    rw [hc] at CK hk
    have d1 : (c != 0) = true := by rw [bne_iff_ne]; exact hk
    have d2 : (c == 0) = false := by rw [beq_eq_false_iff_ne]; exact hk
    clear hc hk
    go_enter Try.func35, Try.ntmps35
    go_upto_region 3 with (first
      | (go_at_call 19; rw [← HW.out]; refine (CK.out _ B0.out).mono ?_; rintro e w1 ⟨rfl, hb1⟩; have B1 := Lib.hid (below_from hb1 B0.out B0.out.size); have S1 := Lib.hid (S0.out.past hb1); have R1 := Lib.hid (R0.out.past hb1); clear hb1 s0c s0l))
    have r1c := R1.out.cell
    have r1l := R1.out.lt
    have r1f := R1.out.free
    go_wp2_with fail
    have G := setCells_grown (w.heap.size + 1) [.int .i64 0, .slice none 0 0] 0 w1
    refine bodyPost_ret (v := .tuple #[noO.v, .int .i64 c]) (results_cell_tmp Try.results35 (g := w.heap.size + 1) rfl rfl (load24 (R1.out.set [.int .i64 0, .slice none 0 0] rfl))) rfl ?_
    exact RN.out _ _ (B1.out.trans (grown_below G B1.out.size (fun k hk => by injection hk with hk; omega))) (by rw [ask_chk HK.out, HQ.out])

end Go.Proofs.Ytnigjchgpmladaa
