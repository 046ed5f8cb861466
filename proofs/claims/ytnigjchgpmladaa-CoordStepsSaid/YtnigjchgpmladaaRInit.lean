/- A name is told its number, of the document: Init. -/
import Derived.Test.YtnigjchgpmladaaRWith
import Derived.Test.YtnigjchgpmladaaRCheck
import Derived.Test.YtnigjchgpmladaaRfd
import Derived.Test.YtnigjchgpmladaaInit
import Derived.Test.YtnigjchgpmladaaReg
import Derived.Test.YtnigjchgpmladaaBas
import Derived.Deep.DeepCutAuto
namespace Go.Proofs.Ytnigjchgpmladaa
open Go.RowKit Go.Shelf

set_option maxRecDepth 100000 in
set_option maxHeartbeats 16000000 in
theorem rinit_any (o : Tc) (id : ByteArray) (now : Int) (w : World) (ho : Tc.At w o) (hf : FewV o.val) (hs : id.size ≤ maxLen) : Calls Try.prog 14 #[o.v, .string id, .int .i64 now] w fun e w' => InRes w (initV o.val id now) e w' := by
  obtain ⟨W0, hW0⟩ : ∃ W0, W0 = ((w.alloc (.cells #[.int .i64 o.next, .slice o.A o.n o.c] 24)).alloc (.cells #[.int .i64 0, .slice none 0 0] 24)).alloc (.cells #[.int .i64 0, .slice none 0 0] 24) := ⟨_, rfl⟩
  have b1 := below_alloc1 w (.cells #[.int .i64 o.next, .slice o.A o.n o.c] 24)
  have b2 := b1.alloc b1.size (.cells #[.int .i64 0, .slice none 0 0] 24)
  have B0 := Lib.hid (show Below w.heap.size w W0 from by rw [hW0]; exact b2.alloc b2.size _)
  have S0 := Lib.hid (show Has W0 w.heap.size #[.int .i64 o.next, .slice o.A o.n o.c] from by rw [hW0]; exact ((Has.newAt w _ 24 rfl).alloc _).alloc _)
  have R0 := Lib.hid (show Has W0 (w.heap.size + 1) #[.int .i64 0, .slice none 0 0] from by rw [hW0]; exact (Has.newAt _ _ 24 (by simp)).alloc _)
  have N0 := Lib.hid (show Has W0 (w.heap.size + 1 + 1) #[.int .i64 0, .slice none 0 0] from by rw [hW0]; exact Has.newAt _ _ 24 (by simp))
  have HW := Lib.hid hW0
  have HO := Lib.hid ho
  have nm := ho.few hf
  have CK := Lib.hid (fun W (h : Below w.heap.size w W) => rcheck_any o W (ho.below h) nm.1 nm.2)
  have NMI := Lib.hid (fun W => rname_any id W hs)
  have HS := Lib.hid hs
  have NN := Lib.hid nm.1
  have LN := Lib.hid ho.num
  clear ho hW0 hf nm hs b1 b2
  have s0c := S0.out.cell
  have s0l := S0.out.lt
  by_cases hk : checkV o.val = 0
  · have HK := Lib.hid hk
    have FN := Lib.hid (chk_iff.1 hk)
    rw [hk] at CK
    clear hk
    cases ha : inB now 1099511627776 with
    | false =>
      have HA := Lib.hid ha
      have BAD := Lib.hid (init_bad (id := id) HK.out (fun h => by rw [ha] at h; cases h.1))
      clear ha
      go_enter Try.func14, Try.ntmps14
      go_upto_region 6 with (first
        | (go_at_call 49; refine (in_any now _).mono ?_; rintro e w' ⟨rfl, rfl⟩; rw [HA.out])
        | (go_at_call 19; rw [← HW.out]; refine (CK.out _ B0.out).mono ?_; rintro e w1 ⟨rfl, hb1⟩; have B1 := Lib.hid (below_from hb1 B0.out B0.out.size); have S1 := Lib.hid (S0.out.past hb1); have R1 := Lib.hid (R0.out.past hb1); have N1 := Lib.hid (N0.out.past hb1); clear hb1 s0c s0l))
      have r1c := R1.out.cell
      have r1l := R1.out.lt
      have r1f := R1.out.free
      have n1c := N1.out.cell
      have n1l := N1.out.lt
      go_wp2_with fail
      have G := setCells_grown (w.heap.size + 1) [.int .i64 0, .slice none 0 0] 0 w1
      refine bodyPost_ret (v := .tuple #[noO.v, .int .i64 0, .int .i64 0, .int .i64 1]) (results_cell_tmp3 Try.results14 (g := w.heap.size + 1) rfl rfl rfl rfl (load24 (R1.out.set [.int .i64 0, .slice none 0 0] rfl))) rfl ?_
      exact InRes.no (BAD.out) (B1.out.trans (grown_below G B1.out.size (fun k hk => by injection hk with hk; omega)))
    | true =>
      have HA := Lib.hid ha
      clear ha
      by_cases hz : id.size = 0
      · have d3 : id.toList.isEmpty = true := by rw [size_empty]; exact decide_eq_true hz
        have SZ := Lib.hid hz
        have GOOD := Lib.hid (show inB now 1099511627776 = true ∧ (id.size = 0 ∨ nameC id = true) from ⟨HA.out, .inl hz⟩)
        clear hz
        cases hi : idAt o.val.L id with
        | some i =>
          obtain ⟨hi, h2⟩ := id_some hi
          have h1 := (FN.out.ok (List.getElem_mem hi)).id
          rw [h2] at h1
          unfold nameC at h1
          simp only [Bool.and_eq_true, decide_eq_true_eq] at h1
          have := SZ.out
          omega
        | none =>
          have HI := Lib.hid hi
          have RF := Lib.hid (show ∀ W, Below w.heap.size w W → Calls Try.prog 51 #[o.v, .string id] W fun e w' => e = .returned (.int .i64 (-1)) ∧ Below W.heap.size W w' from fun W h => by have := rfindid_any o id W (HO.out.below h); rw [HI.out] at this; exact this)
          clear hi
          go_enter Try.func14, Try.ntmps14
          go_upto_region 7 with (first
            | (go_at_call 49; refine (in_any now _).mono ?_; rintro e w' ⟨rfl, rfl⟩; rw [HA.out])
            | (go_at_call 19; rw [← HW.out]; refine (CK.out _ B0.out).mono ?_; rintro e w1 ⟨rfl, hb1⟩; have B1 := Lib.hid (below_from hb1 B0.out B0.out.size); have S1 := Lib.hid (S0.out.past hb1); have R1 := Lib.hid (R0.out.past hb1); have N1 := Lib.hid (N0.out.past hb1); clear hb1 s0c s0l))
          have s1c := S1.out.cell
          have s1l := S1.out.lt
          go_upto_region 8 with (go_at_call 51; refine (RF.out _ B1.out).mono ?_; rintro e w2 ⟨rfl, hb2⟩; have B2 := Lib.hid (below_from hb2 B1.out B1.out.size); have S2 := Lib.hid (S1.out.past hb2); have R2 := Lib.hid (R1.out.past hb2); have N2 := Lib.hid (N1.out.past hb2); clear hb2 s1c s1l)
          have INW := Lib.hid (init_new (now := now) HK.out GOOD.out HI.out)
          have s2c := S2.out.cell
          have s2l := S2.out.lt
          have nx0 := FN.out.next
          by_cases hm : o.next = 1099511627776
          · have d5 : (o.next == 1099511627776) = true := by rw [beq_iff_eq]; exact hm
            have R9 := Lib.hid (show initV o.val id now = (noC, 0, 0, 2) from by rw [INW.out, if_pos (.inl hm)])
            clear hm nx0
            have r2c := R2.out.cell
            have r2l := R2.out.lt
            have r2f := R2.out.free
            have n2c := N2.out.cell
            have n2l := N2.out.lt
            go_wp2_with fail
            have G := setCells_grown (w.heap.size + 1) [.int .i64 0, .slice none 0 0] 0 w2
            refine bodyPost_ret (v := .tuple #[noO.v, .int .i64 0, .int .i64 0, .int .i64 2]) (results_cell_tmp3 Try.results14 (g := w.heap.size + 1) rfl rfl rfl rfl (load24 (R2.out.set [.int .i64 0, .slice none 0 0] rfl))) rfl ?_
            exact InRes.no (R9.out) (B2.out.trans (grown_below G B2.out.size (fun k hk => by injection hk with hk; omega)))
          · have d5 : (o.next == 1099511627776) = false := by rw [beq_eq_false_iff_ne]; exact hm
            have HM := Lib.hid hm
            have RR9 := Lib.hid (show initV o.val id now = (⟨o.next + 1, o.val.L⟩, o.next, 0, 0) from by
              rw [INW.out, if_neg, if_neg (by have := SZ.out; omega)]
              · rfl
              · rintro (h | ⟨h, _⟩)
                · exact HM.out h
                · have := SZ.out; omega)
            clear hm
            have wr1 : IntKind.i64.wrap (o.next + 1) = o.next + 1 := IntWalk.i64_in _ (by have h1 : 0 ≤ o.next := nx0.1; have h2 : o.next ≤ 1099511627776 := nx0.2; omega)
            clear nx0
            go_upto_region 19 with (fail)
            obtain ⟨w3, hw3⟩ : ∃ W, W = w2.alloc (.cells #[.int .i64 (o.next + 1), .slice o.A o.n o.c] 24) := ⟨_, rfl⟩
            have hb3 : Below w2.heap.size w2 w3 := by rw [hw3]; exact below_alloc1 w2 _
            have P3 := Lib.hid (show Has w3 (w2.heap.size) #[.int .i64 (o.next + 1), .slice o.A o.n o.c] from by rw [hw3]; exact Has.newAt w2 _ 24 rfl)
            have B3 := Lib.hid (below_from hb3 B2.out B2.out.size)
            have S3 := Lib.hid (S2.out.past hb3)
            have R3 := Lib.hid (R2.out.past hb3)
            have N3 := Lib.hid (N2.out.past hb3)
            have GP := Lib.hid (show w.heap.size + 1 + 1 < w2.heap.size from N2.out.lt)
            rw [← hw3]
            clear hw3 hb3 wr1 s2c s2l
            obtain ⟨CA, hCA⟩ : ∃ A, o.A = A := ⟨_, rfl⟩
            obtain ⟨CN, hCN⟩ : ∃ A, o.n = A := ⟨_, rfl⟩
            obtain ⟨CC, hCC⟩ : ∃ A, o.c = A := ⟨_, rfl⟩
            have HL := Lib.hid (show Sl txK w o.A o.n o.c o.L from HO.out)
            rw [hCA, hCN, hCC] at HL P3 S3
            rw [hCN] at NN LN
            clear hCA hCN hCC
            go_upto_region 28 with (fail)
            refine region_tr (fun w' => w'.cell? ⟨w.heap.size, 0, none⟩ = some (.int .i64 o.next) ∧ w'.cell? ⟨w2.heap.size, 0, none⟩ = some (.int .i64 (o.next + 1)) ∧ w'.cell? ⟨w2.heap.size, 1, none⟩ = some (.slice CA CN CC)) 5 (.take 0 (.take 1 (.take 2 (.op 3 (.op 4 .tail))))) (by kernel_rfl) (by kernel_rfl) ⟨S3.out.drew.cell 0, P3.out.drew.cell 0, P3.out.drew.cell 1⟩ (fun hHeld => ?_)
            iterate 3
              refine tr_take (v := ?_) (by simp only [List.getElem?_toArray, List.getElem?_cons_succ, List.getElem?_cons_zero]; rfl) (Or.inl ⟨by rfl, ?_⟩) ?_
              rotate_left 1
              · intro w hSw
                try dsimp only at hSw
                go_simp
                try with_reducible rfl
              try simp only [Act.put, List.setIfInBounds_toArray, List.set_cons_zero, List.set_cons_succ]
            obtain ⟨wd, hwd⟩ : ∃ W, W = w3.drew := ⟨_, rfl⟩
            have RD := Lib.hid (show Has wd (w.heap.size + 1) #[.int .i64 0, .slice none 0 0] from by rw [hwd]; exact R3.out.drew)
            have PD := Lib.hid (show Has wd (w2.heap.size) #[.int .i64 (o.next + 1), .slice CA CN CC] from by rw [hwd]; exact P3.out.drew)
            have SD := Lib.hid (show Has wd w.heap.size #[.int .i64 o.next, .slice CA CN CC] from by rw [hwd]; exact S3.out.drew)
            have BD := Lib.hid (show Below w.heap.size w wd from by rw [hwd]; exact B3.out.drew)
            have DD := Lib.hid (show Below w3.heap.size w3 wd from by rw [hwd]; exact (Below.refl _ w3).drew)
            rw [← hwd]
            clear hwd
            have rdc := RD.out.cell
            have rdf := RD.out.free
            have rdl := RD.out.lt
            refine tr_op (by simp only [List.getElem?_toArray, List.getElem?_cons_succ, List.getElem?_cons_zero]; rfl) (fun K hK => ?_)
            go_wp2_with fail
            clear hHeld
            have G := setCells_grown (w.heap.size + 1) [.int .i64 (o.next + 1), .slice CA CN CC] 0 wd
            have RS := Lib.hid (RD.out.set [.int .i64 (o.next + 1), .slice CA CN CC] rfl)
            have BB := Lib.hid (BD.out.trans (grown_below G BD.out.size (fun k hk => by injection hk with hk; omega)))
            have QS := Lib.hid (HL.out.below BB.out)
            obtain ⟨wz, hwz⟩ : ∃ W, W = wd.setCells (w.heap.size + 1) 0 [.int .i64 (o.next + 1), .slice CA CN CC] := ⟨_, rfl⟩
            have SZ9 := Lib.hid (SD.out.grown G (by omega))
            have PZ9 := Lib.hid (PD.out.grown G (by have := GP.out; omega))
            rw [← hwz] at RS BB QS SZ9 PZ9
            rw [show ((wd.setCell ⟨w.heap.size + 1, 0, none⟩ (.int .i64 (o.next + 1))).setCell ⟨w.heap.size + 1, 1, none⟩ (.slice CA CN CC)) = wz from hwz.symm]
            clear hwz G rdc rdf rdl
            refine hK.out _ _ ⟨SZ9.out.cell 0, PZ9.out.cell 0, PZ9.out.cell 1⟩ (fun hHeld => ?_)
            clear hK K
            try simp only [Act.put, List.setIfInBounds_toArray, List.set_cons_zero, List.set_cons_succ]
            refine tr_op (by simp only [List.getElem?_toArray, List.getElem?_cons_succ, List.getElem?_cons_zero]; rfl) (fun K hK => ?_)
            go_wp2_with fail
            clear hHeld

            refine hK.out _ _ ⟨SZ9.out.cell 0, PZ9.out.cell 0, PZ9.out.cell 1⟩ (fun hHeld => ?_)
            clear hK K
            try simp only [Act.put, List.setIfInBounds_toArray, List.set_cons_zero, List.set_cons_succ]
            refine tr_tail rfl ?_
            clear hHeld
            go_wp2_with fail
            refine bodyPost_ret (v := .tuple #[.agg #[.int .i64 (o.next + 1), .slice CA CN CC], .int .i64 o.next, .int .i64 0, .int .i64 0]) (results_cell_tmp3 Try.results14 (g := w.heap.size + 1) rfl rfl rfl rfl (load24 RS.out)) rfl ?_
            exact InRes.of (q := ⟨o.next + 1, CA, CN, CC, o.L⟩) RR9.out ⟨QS.out, rfl⟩ BB.out
      · have d3 : id.toList.isEmpty = false := by rw [size_empty]; exact decide_eq_false hz
        have SZ := Lib.hid (show 0 < id.size from by omega)
        cases hn : nameC id with
        | false =>
          have HN := Lib.hid hn
          have BAD := Lib.hid (init_bad (now := now) HK.out (fun h => h.2.elim hz (fun h => by rw [hn] at h; cases h)))
          clear hn hz
          go_enter Try.func14, Try.ntmps14
          go_upto_region 6 with (first
            | (go_at_call 49; refine (in_any now _).mono ?_; rintro e w' ⟨rfl, rfl⟩; rw [HA.out])
            | (go_at_call 50; refine (NMI.out _).mono ?_; rintro e w2 ⟨rfl, hb2⟩; rw [HN.out]; have B2 := Lib.hid (below_from hb2 B1.out B1.out.size); have S2 := Lib.hid (S1.out.past hb2); have R2 := Lib.hid (R1.out.past hb2); have N2 := Lib.hid (N1.out.past hb2); clear hb2)
            | (go_at_call 19; rw [← HW.out]; refine (CK.out _ B0.out).mono ?_; rintro e w1 ⟨rfl, hb1⟩; have B1 := Lib.hid (below_from hb1 B0.out B0.out.size); have S1 := Lib.hid (S0.out.past hb1); have R1 := Lib.hid (R0.out.past hb1); have N1 := Lib.hid (N0.out.past hb1); clear hb1 s0c s0l))
          have r2c := R2.out.cell
          have r2l := R2.out.lt
          have r2f := R2.out.free
          have n2c := N2.out.cell
          have n2l := N2.out.lt
          go_wp2_with fail
          have G := setCells_grown (w.heap.size + 1) [.int .i64 0, .slice none 0 0] 0 w2
          refine bodyPost_ret (v := .tuple #[noO.v, .int .i64 0, .int .i64 0, .int .i64 1]) (results_cell_tmp3 Try.results14 (g := w.heap.size + 1) rfl rfl rfl rfl (load24 (R2.out.set [.int .i64 0, .slice none 0 0] rfl))) rfl ?_
          exact InRes.no (BAD.out) (B2.out.trans (grown_below G B2.out.size (fun k hk => by injection hk with hk; omega)))
        | true =>
          have HN := Lib.hid hn
          have GOOD := Lib.hid (show inB now 1099511627776 = true ∧ (id.size = 0 ∨ nameC id = true) from ⟨HA.out, .inr hn⟩)
          clear hn hz
          cases hi : idAt o.val.L id with
          | some i =>
            have HI := Lib.hid hi
            have RF := Lib.hid (show ∀ W, Below w.heap.size w W → Calls Try.prog 51 #[o.v, .string id] W fun e w' => e = .returned (.int .i64 (i : Int)) ∧ Below W.heap.size W w' from fun W h => by have := rfindid_any o id W (HO.out.below h); rw [HI.out] at this; exact this)
            go_enter Try.func14, Try.ntmps14
            go_upto_region 7 with (first
              | (go_at_call 49; refine (in_any now _).mono ?_; rintro e w' ⟨rfl, rfl⟩; rw [HA.out])
              | (go_at_call 50; refine (NMI.out _).mono ?_; rintro e w2 ⟨rfl, hb2⟩; rw [HN.out]; have B2 := Lib.hid (below_from hb2 B1.out B1.out.size); have S2 := Lib.hid (S1.out.past hb2); have R2 := Lib.hid (R1.out.past hb2); have N2 := Lib.hid (N1.out.past hb2); clear hb2)
              | (go_at_call 19; rw [← HW.out]; refine (CK.out _ B0.out).mono ?_; rintro e w1 ⟨rfl, hb1⟩; have B1 := Lib.hid (below_from hb1 B0.out B0.out.size); have S1 := Lib.hid (S0.out.past hb1); have R1 := Lib.hid (R0.out.past hb1); have N1 := Lib.hid (N0.out.past hb1); clear hb1 s0c s0l))
            have s2c := S2.out.cell
            have s2l := S2.out.lt
            go_upto_region 8 with (go_at_call 51; refine (RF.out _ B2.out).mono ?_; rintro e w3 ⟨rfl, hb3⟩; have B3 := Lib.hid (below_from hb3 B2.out B2.out.size); have S3 := Lib.hid (S2.out.past hb3); have R3 := Lib.hid (R2.out.past hb3); have N3 := Lib.hid (N2.out.past hb3); clear hb3 s2c s2l)
            have hil : i < o.val.L.length := (id_some hi).elim fun h _ => h
            have hin : i < o.n := by rw [← LN.out]; exact hil
            obtain ⟨b, off, hl, hA, hbl, u0, u1, u2, u3, u4, u5, u6, u7⟩ := tx_at (Sl.below HO.out B3.out) hin
            obtain ⟨x, hx⟩ : ∃ x, o.L[i] = x := ⟨_, rfl⟩
            have HX := Lib.hid (show Tx.In w x from by rw [← hx]; exact Sl.each HO.out _ (List.getElem_mem hl))
            have HV := Lib.hid (show o.val.L[i]? = some x.val from by show (o.L.map Tx.val)[i]? = _; rw [List.getElem?_map, List.getElem?_eq_getElem hl, hx]; rfl)
            have HM := Lib.hid (show x.val ∈ o.val.L from List.mem_of_getElem? HV.out)
            have HIN := Lib.hid hin
            have INW := Lib.hid (init_here (now := now) HK.out GOOD.out HI.out HV.out)
            have gx : 0 ≤ x.gen ∧ x.gen ≤ 1048576 := (FN.out.ok HM.out).gen
            rw [hx] at u0 u1 u2 u3 u4 u5 u6 u7
            have q0 : (0 : Int) ≤ (i : Int) := by omega
            have q1 : (i : Int) < (o.n : Int) := by omega
            clear hx hl hil hin hi
            have s3c := S3.out.cell
            have s3l := S3.out.lt
            obtain ⟨CA, hCA⟩ : ∃ A, o.A = A := ⟨_, rfl⟩
            have HCA := Lib.hid hCA
            rw [hA] at s3c
            clear hCA hA
            go_upto_region 10 with (fail)
            obtain ⟨w4, hw4⟩ : ∃ W, W = w3.alloc (.cells #[.string x.id, .int .i64 x.pid, .int .i64 x.gen, .int .i64 x.no, .int .i64 x.st, .slice x.PA x.Pn x.Pc, .slice x.GA x.Gn x.Gc, .int .i64 x.at_] 33) := ⟨_, rfl⟩
            have hb4 : Below w3.heap.size w3 w4 := by rw [hw4]; exact below_alloc1 w3 _
            have X4 := Lib.hid (show Has w4 w3.heap.size #[.string x.id, .int .i64 x.pid, .int .i64 x.gen, .int .i64 x.no, .int .i64 x.st, .slice x.PA x.Pn x.Pc, .slice x.GA x.Gn x.Gc, .int .i64 x.at_] from by rw [hw4]; exact Has.newAt w3 _ 33 rfl)
            have B4 := Lib.hid (below_from hb4 B3.out B3.out.size)
            have S4 := Lib.hid (S3.out.past hb4)
            have R4 := Lib.hid (R3.out.past hb4)
            have N4 := Lib.hid (N3.out.past hb4)
            have GE := Lib.hid (show w.heap.size + 1 + 1 < w3.heap.size from N3.out.lt)
            rw [← hw4]
            clear hw4 hb4 s3c s3l u0 u1 u2 u3 u4 u5 u6 u7 q0 q1 hbl
            have x4c := X4.out.cell
            have x4f := X4.out.free
            have x4l := X4.out.lt
            by_cases hm : x.gen = 1048576
            · have d5 : (x.gen == 1048576) = true := by rw [beq_iff_eq]; exact hm
              have R9 := Lib.hid (show initV o.val id now = (noC, 0, 0, 2) from INW.out.trans (if_pos hm))
              clear hm gx
              have r4c := R4.out.cell
              have r4l := R4.out.lt
              have r4f := R4.out.free
              have n4c := N4.out.cell
              have n4l := N4.out.lt
              go_wp2_with fail
              have G := setCells_grown (w.heap.size + 1) [.int .i64 0, .slice none 0 0] 0 w4
              refine bodyPost_ret (v := .tuple #[noO.v, .int .i64 0, .int .i64 0, .int .i64 2]) (results_cell_tmp3 Try.results14 (g := w.heap.size + 1) rfl rfl rfl rfl (load24 (R4.out.set [.int .i64 0, .slice none 0 0] rfl))) rfl ?_
              exact InRes.no (R9.out) (B4.out.trans (grown_below G B4.out.size (fun k hk => by injection hk with hk; omega)))
            · have d5 : (x.gen == 1048576) = false := by rw [beq_eq_false_iff_ne]; exact hm
              have wr1 : IntKind.i64.wrap (x.gen + 1) = x.gen + 1 := IntWalk.i64_in _ (by omega)
              have R9 := Lib.hid (show initV o.val id now = ({ o.val with L := o.val.L.set i { x.val with gen := x.gen + 1, st := if x.st = 1 then 3 else x.st } }, x.pid, x.gen + 1, 0) from INW.out.trans (if_neg hm))
              clear hm gx
              by_cases h1 : x.st = 1
              · have d6 : (x.st == 1) = true := by rw [beq_iff_eq]; exact h1
                obtain ⟨y, hy⟩ : ∃ y : Tx, y = { x with gen := x.gen + 1, st := 3 } := ⟨_, rfl⟩
                have R8 := Lib.hid (show initV o.val id now = ({ o.val with L := o.val.L.set i y.val }, y.pid, y.gen, 0) from by rw [R9.out, if_pos h1, hy]; rfl)
                have YI := Lib.hid (show Tx.In w y from by rw [hy]; exact ⟨HX.out.id, HX.out.p, HX.out.g⟩)
                clear h1
                go_upto_region 15 with (fail)
                have G : w4.grownBy ((w4.setCell ⟨w3.heap.size, 2, none⟩ (.int .i64 (x.gen + 1))).setCell ⟨w3.heap.size, 4, none⟩ (.int .i64 3)) (some w3.heap.size) := grown_trans (setCells_grown w3.heap.size [.int .i64 (x.gen + 1)] 2 (w4)) (setCells_grown w3.heap.size [.int .i64 3] 4 ((w4.setCell ⟨w3.heap.size, 2, none⟩ (.int .i64 (x.gen + 1)))))
                have Y5 : Has ((w4.setCell ⟨w3.heap.size, 2, none⟩ (.int .i64 (x.gen + 1))).setCell ⟨w3.heap.size, 4, none⟩ (.int .i64 3)) w3.heap.size #[.string y.id, .int .i64 y.pid, .int .i64 y.gen, .int .i64 y.no, .int .i64 y.st, .slice y.PA y.Pn y.Pc, .slice y.GA y.Gn y.Gc, .int .i64 y.at_] := by
                  have := (X4.out.setAt 2 (.int .i64 (x.gen + 1)) (by simp)).setAt 4 (.int .i64 3) (by simp)
                  rw [hy]
                  simpa using this
                obtain ⟨w5, hw5⟩ : ∃ W, W = ((w4.setCell ⟨w3.heap.size, 2, none⟩ (.int .i64 (x.gen + 1))).setCell ⟨w3.heap.size, 4, none⟩ (.int .i64 3)) := ⟨_, rfl⟩
                rw [← hw5] at G Y5
                rw [← hw5]
                have B5 := Lib.hid (B4.out.trans (grown_below G B4.out.size (fun k hk => by injection hk with hk; have := GE.out; omega)))
                have S5 := Lib.hid (S4.out.grown G (by have := GE.out; omega))
                have R5 := Lib.hid (R4.out.grown G (by have := GE.out; omega))
                have YY5 := Lib.hid Y5
                have D1 := Lib.hid (show Below w5.heap.size w5 w5.drew from (Below.refl _ w5).drew)
                have PU := Lib.hid (fun W (h : Below w5.heap.size w5 W) => rwith_any o i y W (HO.out.below (B5.out.trans (h.mono B5.out.size))) (YI.out.past (B5.out.trans (h.mono B5.out.size))) HIN.out NN.out)
                clear hw5 G Y5 hy x4c x4f x4l wr1 d5 d6
                refine region_tr (fun w' => w'.cell? ⟨w.heap.size, 0, none⟩ = some (.int .i64 o.next) ∧ w'.cell? ⟨w.heap.size, 1, none⟩ = some (.slice o.A o.n o.c) ∧ w'.cell? ⟨w3.heap.size, 0, none⟩ = some (.string y.id) ∧ w'.cell? ⟨w3.heap.size, 1, none⟩ = some (.int .i64 y.pid) ∧ w'.cell? ⟨w3.heap.size, 2, none⟩ = some (.int .i64 y.gen) ∧ w'.cell? ⟨w3.heap.size, 3, none⟩ = some (.int .i64 y.no) ∧ w'.cell? ⟨w3.heap.size, 4, none⟩ = some (.int .i64 y.st) ∧ w'.cell? ⟨w3.heap.size, 5, none⟩ = some (.slice y.PA y.Pn y.Pc) ∧ w'.cell? ⟨w3.heap.size, 6, none⟩ = some (.slice y.GA y.Gn y.Gc) ∧ w'.cell? ⟨w3.heap.size, 7, none⟩ = some (.int .i64 y.at_)) 10 (.take 0 (.take 1 (.take 2 (.take 4 (.take 5 (.take 6 (.take 7 (.op 3 (.op 8 (.op 9 .tail)))))))))) (by kernel_rfl) (by kernel_rfl) ⟨(S5.out.past D1.out).cell 0, (S5.out.past D1.out).cell 1, (YY5.out.past D1.out).cell 0, (YY5.out.past D1.out).cell 1, (YY5.out.past D1.out).cell 2, (YY5.out.past D1.out).cell 3, (YY5.out.past D1.out).cell 4, (YY5.out.past D1.out).cell 5, (YY5.out.past D1.out).cell 6, (YY5.out.past D1.out).cell 7⟩ (fun hHeld => ?_)
                iterate 7
                  refine tr_take (v := ?_) (by simp only [List.getElem?_toArray, List.getElem?_cons_succ, List.getElem?_cons_zero]; rfl) (Or.inl ⟨by rfl, ?_⟩) ?_
                  rotate_left 1
                  · intro w hSw
                    try dsimp only at hSw
                    go_simp
                    try with_reducible rfl
                  try simp only [Act.put, List.setIfInBounds_toArray, List.set_cons_zero, List.set_cons_succ]
                refine tr_op (by simp only [List.getElem?_toArray, List.getElem?_cons_succ, List.getElem?_cons_zero]; rfl) (fun K hK => ?_)
                go_wp2_with (go_at_call 52; refine (PU.out _ D1.out).mono ?_; rintro e w9 ⟨q, rfl, hq, hb9⟩)
                clear hHeld
                have F9 := Lib.hid (below_from hb9 D1.out D1.out.size)
                have HQQ := Lib.hid hq
                have R9_ := Lib.hid (R5.out.past F9.out)
                have B9 := Lib.hid (below_from F9.out B5.out B5.out.size)
                have r9c := R9_.out.cell
                have r9f := R9_.out.free
                have r9l := R9_.out.lt
                clear hb9 hq
                refine hK.out _ _ ⟨(S5.out.past F9.out).cell 0, (S5.out.past F9.out).cell 1, (YY5.out.past F9.out).cell 0, (YY5.out.past F9.out).cell 1, (YY5.out.past F9.out).cell 2, (YY5.out.past F9.out).cell 3, (YY5.out.past F9.out).cell 4, (YY5.out.past F9.out).cell 5, (YY5.out.past F9.out).cell 6, (YY5.out.past F9.out).cell 7⟩ (fun hHeld => ?_)
                clear hK K
                try simp only [Act.put, List.setIfInBounds_toArray, List.set_cons_zero, List.set_cons_succ]
                refine tr_op (by simp only [List.getElem?_toArray, List.getElem?_cons_succ, List.getElem?_cons_zero]; rfl) (fun K hK => ?_)
                go_wp2_with fail
                clear hHeld
                have G := setCells_grown (w.heap.size + 1) [.int .i64 q.next, .slice q.A q.n q.c] 0 w9
                have RS := Lib.hid (R9_.out.set [.int .i64 q.next, .slice q.A q.n q.c] rfl)
                have BB := Lib.hid (B9.out.trans (grown_below G B9.out.size (fun k hk => by injection hk with hk; omega)))
                have QS := Lib.hid (HQQ.out.beside R9_.out (tc_texts _ _ _ _) G)
                have SZ9 := Lib.hid ((S5.out.past F9.out).grown G (by omega))
                have YZ9 := Lib.hid ((YY5.out.past F9.out).grown G (by have := GE.out; omega))
                obtain ⟨wz, hwz⟩ : ∃ W, W = w9.setCells (w.heap.size + 1) 0 [.int .i64 q.next, .slice q.A q.n q.c] := ⟨_, rfl⟩
                rw [← hwz] at RS BB QS SZ9 YZ9
                rw [show (w9.setCell ⟨w.heap.size + 1, 0, none⟩ (.int .i64 q.next)).setCell ⟨w.heap.size + 1, 1, none⟩ (.slice q.A q.n q.c) = wz from hwz.symm]
                clear hwz G r9c r9f r9l
                refine hK.out _ _ ⟨SZ9.out.cell 0, SZ9.out.cell 1, YZ9.out.cell 0, YZ9.out.cell 1, YZ9.out.cell 2, YZ9.out.cell 3, YZ9.out.cell 4, YZ9.out.cell 5, YZ9.out.cell 6, YZ9.out.cell 7⟩ (fun hHeld => ?_)
                clear hK K
                try simp only [Act.put, List.setIfInBounds_toArray, List.set_cons_zero, List.set_cons_succ]
                refine tr_op (by simp only [List.getElem?_toArray, List.getElem?_cons_succ, List.getElem?_cons_zero]; rfl) (fun K hK => ?_)
                go_wp2_with fail
                clear hHeld

                refine hK.out _ _ ⟨SZ9.out.cell 0, SZ9.out.cell 1, YZ9.out.cell 0, YZ9.out.cell 1, YZ9.out.cell 2, YZ9.out.cell 3, YZ9.out.cell 4, YZ9.out.cell 5, YZ9.out.cell 6, YZ9.out.cell 7⟩ (fun hHeld => ?_)
                clear hK K
                try simp only [Act.put, List.setIfInBounds_toArray, List.set_cons_zero, List.set_cons_succ]
                refine tr_tail rfl ?_
                clear hHeld
                go_wp2_with fail
                refine bodyPost_ret (v := .tuple #[q.v, .int .i64 y.pid, .int .i64 y.gen, .int .i64 0]) (results_cell_tmp3 Try.results14 (g := w.heap.size + 1) rfl rfl rfl rfl (load24 RS.out)) rfl ?_
                exact InRes.of R8.out QS.out BB.out
              · have d6 : (x.st == 1) = false := by rw [beq_eq_false_iff_ne]; exact h1
                obtain ⟨y, hy⟩ : ∃ y : Tx, y = { x with gen := x.gen + 1, st := x.st } := ⟨_, rfl⟩
                have R8 := Lib.hid (show initV o.val id now = ({ o.val with L := o.val.L.set i y.val }, y.pid, y.gen, 0) from by rw [R9.out, if_neg h1, hy]; rfl)
                have YI := Lib.hid (show Tx.In w y from by rw [hy]; exact ⟨HX.out.id, HX.out.p, HX.out.g⟩)
                clear h1
                go_upto_region 15 with (fail)
                have G : w4.grownBy (w4.setCell ⟨w3.heap.size, 2, none⟩ (.int .i64 (x.gen + 1))) (some w3.heap.size) := setCells_grown w3.heap.size [.int .i64 (x.gen + 1)] 2 (w4)
                have Y5 : Has (w4.setCell ⟨w3.heap.size, 2, none⟩ (.int .i64 (x.gen + 1))) w3.heap.size #[.string y.id, .int .i64 y.pid, .int .i64 y.gen, .int .i64 y.no, .int .i64 y.st, .slice y.PA y.Pn y.Pc, .slice y.GA y.Gn y.Gc, .int .i64 y.at_] := by
                  have := X4.out.setAt 2 (.int .i64 (x.gen + 1)) (by simp)
                  rw [hy]
                  simpa using this
                obtain ⟨w5, hw5⟩ : ∃ W, W = (w4.setCell ⟨w3.heap.size, 2, none⟩ (.int .i64 (x.gen + 1))) := ⟨_, rfl⟩
                rw [← hw5] at G Y5
                rw [← hw5]
                have B5 := Lib.hid (B4.out.trans (grown_below G B4.out.size (fun k hk => by injection hk with hk; have := GE.out; omega)))
                have S5 := Lib.hid (S4.out.grown G (by have := GE.out; omega))
                have R5 := Lib.hid (R4.out.grown G (by have := GE.out; omega))
                have YY5 := Lib.hid Y5
                have D1 := Lib.hid (show Below w5.heap.size w5 w5.drew from (Below.refl _ w5).drew)
                have PU := Lib.hid (fun W (h : Below w5.heap.size w5 W) => rwith_any o i y W (HO.out.below (B5.out.trans (h.mono B5.out.size))) (YI.out.past (B5.out.trans (h.mono B5.out.size))) HIN.out NN.out)
                clear hw5 G Y5 hy x4c x4f x4l wr1 d5 d6
                refine region_tr (fun w' => w'.cell? ⟨w.heap.size, 0, none⟩ = some (.int .i64 o.next) ∧ w'.cell? ⟨w.heap.size, 1, none⟩ = some (.slice o.A o.n o.c) ∧ w'.cell? ⟨w3.heap.size, 0, none⟩ = some (.string y.id) ∧ w'.cell? ⟨w3.heap.size, 1, none⟩ = some (.int .i64 y.pid) ∧ w'.cell? ⟨w3.heap.size, 2, none⟩ = some (.int .i64 y.gen) ∧ w'.cell? ⟨w3.heap.size, 3, none⟩ = some (.int .i64 y.no) ∧ w'.cell? ⟨w3.heap.size, 4, none⟩ = some (.int .i64 y.st) ∧ w'.cell? ⟨w3.heap.size, 5, none⟩ = some (.slice y.PA y.Pn y.Pc) ∧ w'.cell? ⟨w3.heap.size, 6, none⟩ = some (.slice y.GA y.Gn y.Gc) ∧ w'.cell? ⟨w3.heap.size, 7, none⟩ = some (.int .i64 y.at_)) 10 (.take 0 (.take 1 (.take 2 (.take 4 (.take 5 (.take 6 (.take 7 (.op 3 (.op 8 (.op 9 .tail)))))))))) (by kernel_rfl) (by kernel_rfl) ⟨(S5.out.past D1.out).cell 0, (S5.out.past D1.out).cell 1, (YY5.out.past D1.out).cell 0, (YY5.out.past D1.out).cell 1, (YY5.out.past D1.out).cell 2, (YY5.out.past D1.out).cell 3, (YY5.out.past D1.out).cell 4, (YY5.out.past D1.out).cell 5, (YY5.out.past D1.out).cell 6, (YY5.out.past D1.out).cell 7⟩ (fun hHeld => ?_)
                iterate 7
                  refine tr_take (v := ?_) (by simp only [List.getElem?_toArray, List.getElem?_cons_succ, List.getElem?_cons_zero]; rfl) (Or.inl ⟨by rfl, ?_⟩) ?_
                  rotate_left 1
                  · intro w hSw
                    try dsimp only at hSw
                    go_simp
                    try with_reducible rfl
                  try simp only [Act.put, List.setIfInBounds_toArray, List.set_cons_zero, List.set_cons_succ]
                refine tr_op (by simp only [List.getElem?_toArray, List.getElem?_cons_succ, List.getElem?_cons_zero]; rfl) (fun K hK => ?_)
                go_wp2_with (go_at_call 52; refine (PU.out _ D1.out).mono ?_; rintro e w9 ⟨q, rfl, hq, hb9⟩)
                clear hHeld
                have F9 := Lib.hid (below_from hb9 D1.out D1.out.size)
                have HQQ := Lib.hid hq
                have R9_ := Lib.hid (R5.out.past F9.out)
                have B9 := Lib.hid (below_from F9.out B5.out B5.out.size)
                have r9c := R9_.out.cell
                have r9f := R9_.out.free
                have r9l := R9_.out.lt
                clear hb9 hq
                refine hK.out _ _ ⟨(S5.out.past F9.out).cell 0, (S5.out.past F9.out).cell 1, (YY5.out.past F9.out).cell 0, (YY5.out.past F9.out).cell 1, (YY5.out.past F9.out).cell 2, (YY5.out.past F9.out).cell 3, (YY5.out.past F9.out).cell 4, (YY5.out.past F9.out).cell 5, (YY5.out.past F9.out).cell 6, (YY5.out.past F9.out).cell 7⟩ (fun hHeld => ?_)
                clear hK K
                try simp only [Act.put, List.setIfInBounds_toArray, List.set_cons_zero, List.set_cons_succ]
                refine tr_op (by simp only [List.getElem?_toArray, List.getElem?_cons_succ, List.getElem?_cons_zero]; rfl) (fun K hK => ?_)
                go_wp2_with fail
                clear hHeld
                have G := setCells_grown (w.heap.size + 1) [.int .i64 q.next, .slice q.A q.n q.c] 0 w9
                have RS := Lib.hid (R9_.out.set [.int .i64 q.next, .slice q.A q.n q.c] rfl)
                have BB := Lib.hid (B9.out.trans (grown_below G B9.out.size (fun k hk => by injection hk with hk; omega)))
                have QS := Lib.hid (HQQ.out.beside R9_.out (tc_texts _ _ _ _) G)
                have SZ9 := Lib.hid ((S5.out.past F9.out).grown G (by omega))
                have YZ9 := Lib.hid ((YY5.out.past F9.out).grown G (by have := GE.out; omega))
                obtain ⟨wz, hwz⟩ : ∃ W, W = w9.setCells (w.heap.size + 1) 0 [.int .i64 q.next, .slice q.A q.n q.c] := ⟨_, rfl⟩
                rw [← hwz] at RS BB QS SZ9 YZ9
                rw [show (w9.setCell ⟨w.heap.size + 1, 0, none⟩ (.int .i64 q.next)).setCell ⟨w.heap.size + 1, 1, none⟩ (.slice q.A q.n q.c) = wz from hwz.symm]
                clear hwz G r9c r9f r9l
                refine hK.out _ _ ⟨SZ9.out.cell 0, SZ9.out.cell 1, YZ9.out.cell 0, YZ9.out.cell 1, YZ9.out.cell 2, YZ9.out.cell 3, YZ9.out.cell 4, YZ9.out.cell 5, YZ9.out.cell 6, YZ9.out.cell 7⟩ (fun hHeld => ?_)
                clear hK K
                try simp only [Act.put, List.setIfInBounds_toArray, List.set_cons_zero, List.set_cons_succ]
                refine tr_op (by simp only [List.getElem?_toArray, List.getElem?_cons_succ, List.getElem?_cons_zero]; rfl) (fun K hK => ?_)
                go_wp2_with fail
                clear hHeld

                refine hK.out _ _ ⟨SZ9.out.cell 0, SZ9.out.cell 1, YZ9.out.cell 0, YZ9.out.cell 1, YZ9.out.cell 2, YZ9.out.cell 3, YZ9.out.cell 4, YZ9.out.cell 5, YZ9.out.cell 6, YZ9.out.cell 7⟩ (fun hHeld => ?_)
                clear hK K
                try simp only [Act.put, List.setIfInBounds_toArray, List.set_cons_zero, List.set_cons_succ]
                refine tr_tail rfl ?_
                clear hHeld
                go_wp2_with fail
                refine bodyPost_ret (v := .tuple #[q.v, .int .i64 y.pid, .int .i64 y.gen, .int .i64 0]) (results_cell_tmp3 Try.results14 (g := w.heap.size + 1) rfl rfl rfl rfl (load24 RS.out)) rfl ?_
                exact InRes.of R8.out QS.out BB.out
          | none =>
            have HI := Lib.hid hi
            have RF := Lib.hid (show ∀ W, Below w.heap.size w W → Calls Try.prog 51 #[o.v, .string id] W fun e w' => e = .returned (.int .i64 (-1)) ∧ Below W.heap.size W w' from fun W h => by have := rfindid_any o id W (HO.out.below h); rw [HI.out] at this; exact this)
            clear hi
            go_enter Try.func14, Try.ntmps14
            go_upto_region 7 with (first
              | (go_at_call 49; refine (in_any now _).mono ?_; rintro e w' ⟨rfl, rfl⟩; rw [HA.out])
              | (go_at_call 50; refine (NMI.out _).mono ?_; rintro e w2 ⟨rfl, hb2⟩; rw [HN.out]; have B2 := Lib.hid (below_from hb2 B1.out B1.out.size); have S2 := Lib.hid (S1.out.past hb2); have R2 := Lib.hid (R1.out.past hb2); have N2 := Lib.hid (N1.out.past hb2); clear hb2)
              | (go_at_call 19; rw [← HW.out]; refine (CK.out _ B0.out).mono ?_; rintro e w1 ⟨rfl, hb1⟩; have B1 := Lib.hid (below_from hb1 B0.out B0.out.size); have S1 := Lib.hid (S0.out.past hb1); have R1 := Lib.hid (R0.out.past hb1); have N1 := Lib.hid (N0.out.past hb1); clear hb1 s0c s0l))
            have s2c := S2.out.cell
            have s2l := S2.out.lt
            go_upto_region 8 with (go_at_call 51; refine (RF.out _ B2.out).mono ?_; rintro e w3 ⟨rfl, hb3⟩; have B3 := Lib.hid (below_from hb3 B2.out B2.out.size); have S3 := Lib.hid (S2.out.past hb3); have R3 := Lib.hid (R2.out.past hb3); have N3 := Lib.hid (N2.out.past hb3); clear hb3 s2c s2l)
            have INW := Lib.hid (init_new (now := now) HK.out GOOD.out HI.out)
            have s3c := S3.out.cell
            have s3l := S3.out.lt
            have nx0 := FN.out.next
            by_cases hm : o.next = 1099511627776
            · have d5 : (o.next == 1099511627776) = true := by rw [beq_iff_eq]; exact hm
              have R9 := Lib.hid (show initV o.val id now = (noC, 0, 0, 2) from by rw [INW.out, if_pos (.inl hm)])
              clear hm nx0
              have r3c := R3.out.cell
              have r3l := R3.out.lt
              have r3f := R3.out.free
              have n3c := N3.out.cell
              have n3l := N3.out.lt
              go_wp2_with fail
              have G := setCells_grown (w.heap.size + 1) [.int .i64 0, .slice none 0 0] 0 w3
              refine bodyPost_ret (v := .tuple #[noO.v, .int .i64 0, .int .i64 0, .int .i64 2]) (results_cell_tmp3 Try.results14 (g := w.heap.size + 1) rfl rfl rfl rfl (load24 (R3.out.set [.int .i64 0, .slice none 0 0] rfl))) rfl ?_
              exact InRes.no (R9.out) (B3.out.trans (grown_below G B3.out.size (fun k hk => by injection hk with hk; omega)))
            · have d5 : (o.next == 1099511627776) = false := by rw [beq_eq_false_iff_ne]; exact hm
              have HM := Lib.hid hm
              by_cases hl : o.n = 256
              · have d6 : ((o.n : Int) == 256) = true := by rw [beq_iff_eq]; omega
                have R9 := Lib.hid (show initV o.val id now = (noC, 0, 0, 2) from by rw [INW.out, if_pos (.inr ⟨SZ.out, LN.out.trans hl⟩)])
                clear hm nx0 hl
                have r3c := R3.out.cell
                have r3l := R3.out.lt
                have r3f := R3.out.free
                have n3c := N3.out.cell
                have n3l := N3.out.lt
                go_wp2_with fail
                have G := setCells_grown (w.heap.size + 1) [.int .i64 0, .slice none 0 0] 0 w3
                refine bodyPost_ret (v := .tuple #[noO.v, .int .i64 0, .int .i64 0, .int .i64 2]) (results_cell_tmp3 Try.results14 (g := w.heap.size + 1) rfl rfl rfl rfl (load24 (R3.out.set [.int .i64 0, .slice none 0 0] rfl))) rfl ?_
                exact InRes.no (R9.out) (B3.out.trans (grown_below G B3.out.size (fun k hk => by injection hk with hk; omega)))
              · have d6 : ((o.n : Int) == 256) = false := by rw [beq_eq_false_iff_ne]; omega
                have RR9 := Lib.hid (show initV o.val id now = (⟨o.next + 1, insI ⟨id, o.next, 0, 0, 0, [], [], now⟩ o.val.L⟩, o.next, 0, 0) from by
                  rw [INW.out, if_neg, if_pos SZ.out]
                  · rfl
                  · rintro (h | ⟨_, h⟩)
                    · exact HM.out h
                    · exact hl (LN.out.symm.trans h))
                clear hm hl
                have wr1 : IntKind.i64.wrap (o.next + 1) = o.next + 1 := IntWalk.i64_in _ (by have h1 : 0 ≤ o.next := nx0.1; have h2 : o.next ≤ 1099511627776 := nx0.2; omega)
                clear nx0
                go_upto_region 19 with (fail)
                obtain ⟨w4, hw4⟩ : ∃ W, W = w3.alloc (.cells #[.int .i64 (o.next + 1), .slice o.A o.n o.c] 24) := ⟨_, rfl⟩
                have hb4 : Below w3.heap.size w3 w4 := by rw [hw4]; exact below_alloc1 w3 _
                have P4 := Lib.hid (show Has w4 (w3.heap.size) #[.int .i64 (o.next + 1), .slice o.A o.n o.c] from by rw [hw4]; exact Has.newAt w3 _ 24 rfl)
                have B4 := Lib.hid (below_from hb4 B3.out B3.out.size)
                have S4 := Lib.hid (S3.out.past hb4)
                have R4 := Lib.hid (R3.out.past hb4)
                have N4 := Lib.hid (N3.out.past hb4)
                have GP := Lib.hid (show w.heap.size + 1 + 1 < w3.heap.size from N3.out.lt)
                rw [← hw4]
                clear hw4 hb4 wr1 s3c s3l
                obtain ⟨CA, hCA⟩ : ∃ A, o.A = A := ⟨_, rfl⟩
                obtain ⟨CN, hCN⟩ : ∃ A, o.n = A := ⟨_, rfl⟩
                obtain ⟨CC, hCC⟩ : ∃ A, o.c = A := ⟨_, rfl⟩
                have HL := Lib.hid (show Sl txK w o.A o.n o.c o.L from HO.out)
                rw [hCA, hCN, hCC] at HL P4 S4
                rw [hCN] at NN LN
                clear hCA hCN hCC
                have CELLS := Lib.hid (show ∀ j : Nat, (#[.string id, .int .i64 o.next, .int .i64 0, .int .i64 0, .int .i64 0, .slice none 0 0, .slice none 0 0, .int .i64 now] : Array Value)[j]? = (txK.cells (⟨id, o.next, 0, 0, 0, none, 0, 0, [], none, 0, 0, [], now⟩ : Tx))[j]? from fun j => by simp [txK, Tx.cells])
                go_upto_region 20 with (fail)
                go_wp2_with fail
                go_loopg [15] CN (fun gg s15 wr => ∃ k : Nat, k ≤ CN ∧ CN - k ≤ gg ∧ s15 = .int .i64 k ∧ Hid (Has wr (w3.heap.size) #[.int .i64 (o.next + 1), .slice CA CN CC]) ∧ Hid (Has wr w.heap.size #[.int .i64 o.next, .slice CA CN CC]) ∧ Hid (Has wr (w.heap.size + 1) #[.int .i64 0, .slice none 0 0]) ∧ Hid (Below w.heap.size w wr) ∧ Hid (∀ j (h : j < o.val.L.length), j < k → ordI o.val.L[j] ⟨id, o.next, 0, 0, 0, [], [], now⟩ < 0))
                case atStart => exact ⟨0, Nat.zero_le _, by omega, rfl, P4, S4, R4, B4, Lib.hid (fun j _ h => absurd h (Nat.not_lt_zero _))⟩
                case round =>
                  obtain ⟨k, hk, hgg, rfl, PP, SS, RR, BB, hok⟩ := hrel
                  have LNP := Lib.hid HL.out.len
                  have xc := SS.out.cell
                  have xl := SS.out.lt
                  have l2 := HL.out.cap
                  have l1 := HL.out.max
                  have nnb := NN.out
                  obtain ⟨i0, hi0, hz0, hs0, hb0⟩ := info_parts inf33
                  by_cases hlt : k < CN
                  · obtain ⟨bb, off, hkl, hAe, hbl, u0, u1, u2, u3, u4, u5, u6, u7⟩ := tx_at (HL.out.below BB.out) hlt
                    subst hAe
                    obtain ⟨z, hz⟩ : ∃ z, o.L[k] = z := ⟨_, rfl⟩
                    rw [hz] at u0
                    clear u1 u2 u3 u4 u5 u6 u7
                    have q0 : (0 : Int) ≤ (k : Int) := by omega
                    have q1 : (k : Int) < (CN : Int) := by omega
                    have dk1 : decide ((k : Int) < (CN : Int)) = true := decide_eq_true q1
                    have dk2 : decide (k < CN) = true := decide_eq_true hlt
                    have HB := Lib.hid hbl
                    have zv : ∀ h : k < o.val.L.length, o.val.L[k] = z.val := fun h => by rw [← hz]; exact List.getElem_map _
                    have ZV := Lib.hid zv
                    clear zv
                    by_cases hq : cmpS z.id id < 0
                    · have dq : Op.bytesLess z.id.toList id.toList = true := by rw [bl_eq]; exact decide_eq_true hq
                      have NX := Lib.hid (show ∀ j (h : j < o.val.L.length), j < k + 1 → ordI o.val.L[j] ⟨id, o.next, 0, 0, 0, [], [], now⟩ < 0 from fun j hj hjk => by
                        rcases Nat.lt_or_ge j k with h' | h'
                        · exact hok.out j hj h'
                        · obtain rfl : j = k := by omega
                          rw [ZV.out hj]; exact hq)
                      clear hq hz
                      go_wp2_with fail
                      go_roundg (CN - (k + 1))
                      case measure => omega
                      case rel => exact ⟨k + 1, by omega, by omega, by go_num, PP, SS, RR, BB, NX⟩
                    · have dq : Op.bytesLess z.id.toList id.toList = false := by rw [bl_eq]; exact decide_eq_false hq
                      have SR := Lib.hid (show SrchG (fun y => ordI y ⟨id, o.next, 0, 0, 0, [], [], now⟩) o.val.L k false from srch_of lawId FN.out.up (by rw [LN.out]; omega) hok.out (fun h => by rw [ZV.out h]; exact hq) _ ⟨fun h => (by cases h), fun ⟨h, e⟩ => absurd (cmpS_eq.1 (by
                        have h3 : ¬ ordI o.val.L[k] ⟨id, o.next, 0, 0, 0, [], [], now⟩ < 0 := by rw [ZV.out h]; exact hq
                        have h4 := lawId.swap o.val.L[k] ⟨id, o.next, 0, 0, 0, [], [], now⟩
                        show ordI o.val.L[k] ⟨id, o.next, 0, 0, 0, [], [], now⟩ = 0
                        omega)) (id_none HI.out _ (List.getElem_mem h))⟩)
                      clear hq hz
                      go_upto_region 24 with (fail)
                      obtain ⟨wy, hwy⟩ : ∃ W, W = wr := ⟨_, rfl⟩
                      rw [← hwy] at PP SS RR BB ⊢
                      have PY := PP
                      have SY := SS
                      have RY := RR
                      have BY := BB
                      clear hwy xc xl u0 hbl
                      have ncm : ¬ CC = k := by omega
                      have nc0 : ¬ CC = 0 := by omega
                      obtain ⟨a0, ha0⟩ : ∃ a : Addr, (⟨bb, off, none⟩ : Addr) = a := ⟨_, rfl⟩
                      have HP9 := Lib.hid (HL.out.below BY.out)
                      rw [ha0] at HP9 SY ⊢
                      have HA0 := Lib.hid ha0
                      clear ha0
                      have ww := BY.out.size
                      have yc := SY.out.cell
                      have yl := SY.out.lt
                      have SLI := Lib.hid (HP9.out.take k (by omega))
                      go_wp2_with (at_builtin; refine wpList_append_sl (K := txK) _ rfl _ _ 22 rfl wy.heap.size 33 i0 _ 104 Try.underlying22 hi0 hz0 hs0 hb0 rfl none 0 0 [] rfl (World.ownsRow_nil _ _ _ _) (some a0) k CC (o.L.take k) rfl SLI.out (by unfold maxLen; omega) (by omega) (Nat.le_refl _) ?_)
                      intro A1 c1 W1 ho hg hnb
                      clear hnb
                      have b1 : Below wy.heap.size wy W1 := grown_below hg (Nat.le_refl _) (fun q hq => by cases hq)
                      have O1 := Lib.hid (show ROwn txK 33 W1 wy.heap.size A1 k c1 (o.L.take k) from ⟨SLI.out.len, by simpa using ho⟩)
                      have BW1 := Lib.hid b1
                      have y1c := (SY.out.past b1).cell
                      have y1l := (SY.out.past b1).lt
                      clear ho hg b1 yc yl
                      go_wp2_with (at_builtin; refine wpList_app1R (K := txK) _ rfl _ _ 22 rfl wy.heap.size 33 i0 _ 104 Try.underlying22 hi0 hz0 hs0 hb0 rfl A1 _ c1 _ rfl (O1.out.kept (below_alloc1 W1 (.cells #[.string id, .int .i64 o.next, .int .i64 0, .int .i64 0, .int .i64 0, .slice none 0 0, .slice none 0 0, .int .i64 now] 33))) W1.heap.size rfl (⟨id, o.next, 0, 0, 0, none, 0, 0, [], none, 0, 0, [], now⟩ : Tx) (fun j _ => ((Has.newAt W1 #[.string id, .int .i64 o.next, .int .i64 0, .int .i64 0, .int .i64 0, .slice none 0 0, .slice none 0 0, .int .i64 now] 33 (g := W1.heap.size) rfl).cell j).trans (CELLS.out j)) (by unfold maxLen; omega) (by omega) (Nat.le_trans BW1.out.size (below_alloc1 W1 _).size) ?_)
                      intro A2 c2 W2 ho hg hnb
                      clear hnb
                      have O2 := Lib.hid (ho)
                      have b2 := BW1.out.trans ((below_alloc1 W1 (.cells #[.string id, .int .i64 o.next, .int .i64 0, .int .i64 0, .int .i64 0, .slice none 0 0, .slice none 0 0, .int .i64 now] 33)).mono BW1.out.size)
                      have BW2 := Lib.hid (b2.trans (grown_below hg b2.size (fun q hq => (O1.out.2.lt q hq).1)))
                      clear ho hg b2 y1c y1l
                      have SLR := Lib.hid (show Sl txK W2 (some (a0.add (k * 8))) (CN - k) (CC - k) (o.L.drop k) from by have := sl_dropA (HP9.out.below BW2.out) k (by omega); rw [if_neg ncm] at this; exact this)
                      have y2c := (SY.out.past BW2.out).cell
                      have y2l := (SY.out.past BW2.out).lt
                      go_wp2_with (at_builtin; refine wpList_append_sl (K := txK) _ rfl _ _ 22 rfl wy.heap.size 33 i0 _ 104 Try.underlying22 hi0 hz0 hs0 hb0 rfl A2 _ c2 _ rfl O2.out.2 _ (CN - k) _ (o.L.drop k) (by first | rfl | (go_simp; rfl)) SLR.out (by unfold maxLen; omega) (by omega) BW2.out.size ?_)
                      intro A3 c3 W3 ho hg hnb
                      clear hnb
                      have BW3 := Lib.hid (BW2.out.trans (grown_below hg BW2.out.size (fun q hq => (O2.out.2.lt q hq).1)))
                      have O3 := Lib.hid (show ROwn txK 33 W3 wy.heap.size A3 (k + 1 + (CN - k)) c3 (o.L.take k ++ [(⟨id, o.next, 0, 0, 0, none, 0, 0, [], none, 0, 0, [], now⟩ : Tx)] ++ o.L.drop k) from
                        ⟨by rw [List.length_append, O2.out.1, SLR.out.len], by simpa only [List.flatMap_append, List.flatMap_cons, List.flatMap_nil, List.append_nil, List.append_assoc] using ho⟩)
                      have P3 := Lib.hid (PY.out.past BW3.out)
                      clear ho hg y2c y2l
                      have p3c := P3.out.cell
                      have p3l := P3.out.lt
                      have p3f := P3.out.free
                      go_upto_region 28 with (fail)
                      have G := setCells_grown (w3.heap.size) [.slice A3 (k + 1 + (CN - k)) c3] 1 W3
                      obtain ⟨w9, hw9⟩ : ∃ W, W = W3.setCells (w3.heap.size) 1 [.slice A3 (k + 1 + (CN - k)) c3] := ⟨_, rfl⟩
                      rw [← hw9] at G
                      have GPY := Lib.hid (show w3.heap.size < wy.heap.size from PY.out.lt)
                      have P9 := Lib.hid (show Has w9 (w3.heap.size) #[.int .i64 (o.next + 1), .slice A3 (k + 1 + (CN - k)) c3] from by
                        have := P3.out.setAt 1 (.slice A3 (k + 1 + (CN - k)) c3) (by simp)
                        rw [hw9]
                        simpa [World.setCells] using this)
                      have BW3w := Lib.hid (BY.out.trans (BW3.out.mono BY.out.size))
                      have B9 := Lib.hid (BW3w.out.trans (grown_below G BW3w.out.size (fun k hk => by injection hk with hk; have := GP.out; omega)))
                      have S9 := Lib.hid ((SY.out.past BW3.out).grown G (by have := GP.out; omega))
                      have R9 := Lib.hid ((RY.out.past BW3.out).grown G (by have := GP.out; omega))
                      have O9 := Lib.hid (O3.out.grown G GPY.out)
                      rw [show W3.setCell ⟨w3.heap.size, 1, none⟩ (.slice A3 (k + 1 + (CN - k)) c3) = w9 from hw9.symm]
                      clear hw9 G p3c p3l p3f
                      have VQ := Lib.hid (show (⟨o.next + 1, (o.L.take k ++ [(⟨id, o.next, 0, 0, 0, none, 0, 0, [], none, 0, 0, [], now⟩ : Tx)] ++ o.L.drop k).map Tx.val⟩ : Cv) = ⟨o.next + 1, insI ⟨id, o.next, 0, 0, 0, [], [], now⟩ o.val.L⟩ from by
                        congr 1
                        unfold insI
                        rw [ins_srch (c := ordI) (x := ⟨id, o.next, 0, 0, 0, [], [], now⟩) SR.out, if_neg (by simp)]
                        simp [Tc.val, Tx.val])
                      have IN9 := Lib.hid (show ∀ W, Below w.heap.size w W → ∀ a ∈ o.L.take k ++ [(⟨id, o.next, 0, 0, 0, none, 0, 0, [], none, 0, 0, [], now⟩ : Tx)] ++ o.L.drop k, Tx.In W a from fun W h a ha => by
                        rcases List.mem_append.1 ha with ha | ha
                        · rcases List.mem_append.1 ha with ha | ha
                          · exact (show Tx.In w a from Sl.each HO.out a (List.mem_of_mem_take ha)).past h
                          · obtain rfl := List.mem_singleton.1 ha
                            exact ⟨HS.out, Sl.nil _ _, Sl.nil _ _⟩
                        · exact (show Tx.In w a from Sl.each HO.out a (List.mem_of_mem_drop ha)).past h)
                      refine region_tr (fun w' => w'.cell? ⟨w.heap.size, 0, none⟩ = some (.int .i64 o.next) ∧ w'.cell? ⟨w3.heap.size, 0, none⟩ = some (.int .i64 (o.next + 1)) ∧ w'.cell? ⟨w3.heap.size, 1, none⟩ = some (.slice A3 (k + 1 + (CN - k)) c3)) 5 (.take 0 (.take 1 (.take 2 (.op 3 (.op 4 .tail))))) (by kernel_rfl) (by kernel_rfl) ⟨S9.out.drew.cell 0, P9.out.drew.cell 0, P9.out.drew.cell 1⟩ (fun hHeld => ?_)
                      iterate 3
                        refine tr_take (v := ?_) (by simp only [List.getElem?_toArray, List.getElem?_cons_succ, List.getElem?_cons_zero]; rfl) (Or.inl ⟨by rfl, ?_⟩) ?_
                        rotate_left 1
                        · intro w hSw
                          try dsimp only at hSw
                          go_simp
                          try with_reducible rfl
                        try simp only [Act.put, List.setIfInBounds_toArray, List.set_cons_zero, List.set_cons_succ]
                      obtain ⟨wd, hwd⟩ : ∃ W, W = w9.drew := ⟨_, rfl⟩
                      have RD := Lib.hid (show Has wd (w.heap.size + 1) #[.int .i64 0, .slice none 0 0] from by rw [hwd]; exact R9.out.drew)
                      have PD := Lib.hid (show Has wd (w3.heap.size) #[.int .i64 (o.next + 1), .slice A3 (k + 1 + (CN - k)) c3] from by rw [hwd]; exact P9.out.drew)
                      have SD := Lib.hid (show Has wd w.heap.size #[.int .i64 o.next, .slice (some a0) CN CC] from by rw [hwd]; exact S9.out.drew)
                      have BD := Lib.hid (show Below w.heap.size w wd from by rw [hwd]; exact B9.out.drew)
                      have DD := Lib.hid (show Below w9.heap.size w9 wd from by rw [hwd]; exact (Below.refl _ w9).drew)
                      rw [← hwd]
                      clear hwd
                      have rdc := RD.out.cell
                      have rdf := RD.out.free
                      have rdl := RD.out.lt
                      refine tr_op (by simp only [List.getElem?_toArray, List.getElem?_cons_succ, List.getElem?_cons_zero]; rfl) (fun K hK => ?_)
                      go_wp2_with fail
                      clear hHeld
                      have G := setCells_grown (w.heap.size + 1) [.int .i64 (o.next + 1), .slice A3 (k + 1 + (CN - k)) c3] 0 wd
                      have RS := Lib.hid (RD.out.set [.int .i64 (o.next + 1), .slice A3 (k + 1 + (CN - k)) c3] rfl)
                      have BB := Lib.hid (BD.out.trans (grown_below G BD.out.size (fun k hk => by injection hk with hk; omega)))
                      have QS := Lib.hid (((O9.out.kept DD.out).grown G (by have := BY.out.size; have := GPY.out; have := GP.out; omega)).own (fun a ha => IN9.out _ BB.out a ha) |>.sl)
                      obtain ⟨wz, hwz⟩ : ∃ W, W = wd.setCells (w.heap.size + 1) 0 [.int .i64 (o.next + 1), .slice A3 (k + 1 + (CN - k)) c3] := ⟨_, rfl⟩
                      have SZ9 := Lib.hid (SD.out.grown G (by omega))
                      have PZ9 := Lib.hid (PD.out.grown G (by have := GP.out; omega))
                      rw [← hwz] at RS BB QS SZ9 PZ9
                      rw [show ((wd.setCell ⟨w.heap.size + 1, 0, none⟩ (.int .i64 (o.next + 1))).setCell ⟨w.heap.size + 1, 1, none⟩ (.slice A3 (k + 1 + (CN - k)) c3)) = wz from hwz.symm]
                      clear hwz G rdc rdf rdl
                      refine hK.out _ _ ⟨SZ9.out.cell 0, PZ9.out.cell 0, PZ9.out.cell 1⟩ (fun hHeld => ?_)
                      clear hK K
                      try simp only [Act.put, List.setIfInBounds_toArray, List.set_cons_zero, List.set_cons_succ]
                      refine tr_op (by simp only [List.getElem?_toArray, List.getElem?_cons_succ, List.getElem?_cons_zero]; rfl) (fun K hK => ?_)
                      go_wp2_with fail
                      clear hHeld

                      refine hK.out _ _ ⟨SZ9.out.cell 0, PZ9.out.cell 0, PZ9.out.cell 1⟩ (fun hHeld => ?_)
                      clear hK K
                      try simp only [Act.put, List.setIfInBounds_toArray, List.set_cons_zero, List.set_cons_succ]
                      refine tr_tail rfl ?_
                      clear hHeld
                      go_wp2_with fail
                      refine bodyPost_ret (v := .tuple #[.agg #[.int .i64 (o.next + 1), .slice A3 (k + 1 + (CN - k)) c3], .int .i64 o.next, .int .i64 0, .int .i64 0]) (results_cell_tmp3 Try.results14 (g := w.heap.size + 1) rfl rfl rfl rfl (load24 RS.out)) rfl ?_
                      exact InRes.of (q := ⟨o.next + 1, A3, (k + 1 + (CN - k)), c3, o.L.take k ++ [(⟨id, o.next, 0, 0, 0, none, 0, 0, [], none, 0, 0, [], now⟩ : Tx)] ++ o.L.drop k⟩) RR9.out ⟨QS.out, VQ.out⟩ BB.out
                  · have jn : CN = k := by omega
                    subst jn
                    have SR := Lib.hid (show SrchG (fun y => ordI y ⟨id, o.next, 0, 0, 0, [], [], now⟩) o.val.L CN false from srch_of lawId FN.out.up (by rw [LN.out]; exact Nat.le_refl _) hok.out (fun h => by have := LN.out; omega) _ ⟨fun h => (by cases h), fun ⟨h, _⟩ => (by have := LN.out; omega)⟩)
                    have dk1 : decide ((CN : Int) < (CN : Int)) = false := decide_eq_false (by omega)
                    have dk2 : decide (CN < CN) = false := decide_eq_false (by omega)
                    clear hok hgg hk hlt
                    go_upto_region 24 with (fail)
                    obtain ⟨wy, hwy⟩ : ∃ W, W = wr := ⟨_, rfl⟩
                    rw [← hwy] at PP SS RR BB ⊢
                    have PY := PP
                    have SY := SS
                    have RY := RR
                    have BY := BB
                    clear hwy xc xl
                    have HP9 := Lib.hid (HL.out.below BY.out)
                    rcases CA with _ | a0
                    · obtain ⟨e1, e2⟩ := HP9.out.adr rfl
                      subst e1 e2
                      have E3 := Lib.hid (List.length_eq_zero_iff.1 LNP.out)
                      have ww := BY.out.size
                      have yc := SY.out.cell
                      have yl := SY.out.lt
                      have O1 := Lib.hid (show ROwn txK 33 wy wy.heap.size none 0 0 [] from ROwn.nil _ _ _ _)
                      have BW1 := Lib.hid (Below.refl wy.heap.size wy)
                      go_wp2_with (at_builtin; refine wpList_app1R (K := txK) _ rfl _ _ 22 rfl wy.heap.size 33 i0 _ 104 Try.underlying22 hi0 hz0 hs0 hb0 rfl none _ 0 _ rfl (O1.out.kept (below_alloc1 wy (.cells #[.string id, .int .i64 o.next, .int .i64 0, .int .i64 0, .int .i64 0, .slice none 0 0, .slice none 0 0, .int .i64 now] 33))) wy.heap.size rfl (⟨id, o.next, 0, 0, 0, none, 0, 0, [], none, 0, 0, [], now⟩ : Tx) (fun j _ => ((Has.newAt wy #[.string id, .int .i64 o.next, .int .i64 0, .int .i64 0, .int .i64 0, .slice none 0 0, .slice none 0 0, .int .i64 now] 33 (g := wy.heap.size) rfl).cell j).trans (CELLS.out j)) (by unfold maxLen; omega) (by omega) (Nat.le_trans BW1.out.size (below_alloc1 wy _).size) ?_)
                      intro A2 c2 W2 ho hg hnb
                      clear hnb
                      have O2 := Lib.hid (show ROwn txK 33 W2 wy.heap.size A2 1 c2 (o.L.take 0 ++ [(⟨id, o.next, 0, 0, 0, none, 0, 0, [], none, 0, 0, [], now⟩ : Tx)]) from by rw [List.take_zero]; exact ho)
                      have b2 := BW1.out.trans ((below_alloc1 wy (.cells #[.string id, .int .i64 o.next, .int .i64 0, .int .i64 0, .int .i64 0, .slice none 0 0, .slice none 0 0, .int .i64 now] 33)).mono BW1.out.size)
                      have BW2 := Lib.hid (b2.trans (grown_below hg b2.size (fun q hq => (O1.out.2.lt q hq).1)))
                      clear ho hg b2 yc yl
                      have SLR := Lib.hid (show Sl txK W2 none 0 0 (o.L.drop 0) from by rw [List.drop_zero, E3.out]; exact Sl.nil _ _)
                      have y2c := (SY.out.past BW2.out).cell
                      have y2l := (SY.out.past BW2.out).lt
                      go_wp2_with (at_builtin; refine wpList_append_sl (K := txK) _ rfl _ _ 22 rfl wy.heap.size 33 i0 _ 104 Try.underlying22 hi0 hz0 hs0 hb0 rfl A2 _ c2 _ rfl O2.out.2 _ 0 _ (o.L.drop 0) (by first | rfl | (go_simp; rfl)) SLR.out (by unfold maxLen; omega) (by omega) BW2.out.size ?_)
                      intro A3 c3 W3 ho hg hnb
                      clear hnb
                      have BW3 := Lib.hid (BW2.out.trans (grown_below hg BW2.out.size (fun q hq => (O2.out.2.lt q hq).1)))
                      have O3 := Lib.hid (show ROwn txK 33 W3 wy.heap.size A3 1 c3 (o.L.take 0 ++ [(⟨id, o.next, 0, 0, 0, none, 0, 0, [], none, 0, 0, [], now⟩ : Tx)] ++ o.L.drop 0) from
                        ⟨by rw [List.length_append, O2.out.1, SLR.out.len], by simpa only [List.flatMap_append, List.flatMap_cons, List.flatMap_nil, List.append_nil, List.append_assoc, List.take_zero, List.drop_zero, List.nil_append] using ho⟩)
                      have P3 := Lib.hid (PY.out.past BW3.out)
                      clear ho hg y2c y2l
                      have p3c := P3.out.cell
                      have p3l := P3.out.lt
                      have p3f := P3.out.free
                      go_upto_region 28 with (fail)
                      have G := setCells_grown (w3.heap.size) [.slice A3 1 c3] 1 W3
                      obtain ⟨w9, hw9⟩ : ∃ W, W = W3.setCells (w3.heap.size) 1 [.slice A3 1 c3] := ⟨_, rfl⟩
                      rw [← hw9] at G
                      have GPY := Lib.hid (show w3.heap.size < wy.heap.size from PY.out.lt)
                      have P9 := Lib.hid (show Has w9 (w3.heap.size) #[.int .i64 (o.next + 1), .slice A3 1 c3] from by
                        have := P3.out.setAt 1 (.slice A3 1 c3) (by simp)
                        rw [hw9]
                        simpa [World.setCells] using this)
                      have BW3w := Lib.hid (BY.out.trans (BW3.out.mono BY.out.size))
                      have B9 := Lib.hid (BW3w.out.trans (grown_below G BW3w.out.size (fun k hk => by injection hk with hk; have := GP.out; omega)))
                      have S9 := Lib.hid ((SY.out.past BW3.out).grown G (by have := GP.out; omega))
                      have R9 := Lib.hid ((RY.out.past BW3.out).grown G (by have := GP.out; omega))
                      have O9 := Lib.hid (O3.out.grown G GPY.out)
                      rw [show W3.setCell ⟨w3.heap.size, 1, none⟩ (.slice A3 1 c3) = w9 from hw9.symm]
                      clear hw9 G p3c p3l p3f
                      have VQ := Lib.hid (show (⟨o.next + 1, (o.L.take 0 ++ [(⟨id, o.next, 0, 0, 0, none, 0, 0, [], none, 0, 0, [], now⟩ : Tx)] ++ o.L.drop 0).map Tx.val⟩ : Cv) = ⟨o.next + 1, insI ⟨id, o.next, 0, 0, 0, [], [], now⟩ o.val.L⟩ from by
                        congr 1
                        unfold insI
                        rw [ins_srch (c := ordI) (x := ⟨id, o.next, 0, 0, 0, [], [], now⟩) SR.out, if_neg (by simp)]
                        simp [Tc.val, Tx.val])
                      have IN9 := Lib.hid (show ∀ W, Below w.heap.size w W → ∀ a ∈ o.L.take 0 ++ [(⟨id, o.next, 0, 0, 0, none, 0, 0, [], none, 0, 0, [], now⟩ : Tx)] ++ o.L.drop 0, Tx.In W a from fun W h a ha => by
                        rcases List.mem_append.1 ha with ha | ha
                        · rcases List.mem_append.1 ha with ha | ha
                          · exact (show Tx.In w a from Sl.each HO.out a (List.mem_of_mem_take ha)).past h
                          · obtain rfl := List.mem_singleton.1 ha
                            exact ⟨HS.out, Sl.nil _ _, Sl.nil _ _⟩
                        · exact (show Tx.In w a from Sl.each HO.out a (List.mem_of_mem_drop ha)).past h)
                      refine region_tr (fun w' => w'.cell? ⟨w.heap.size, 0, none⟩ = some (.int .i64 o.next) ∧ w'.cell? ⟨w3.heap.size, 0, none⟩ = some (.int .i64 (o.next + 1)) ∧ w'.cell? ⟨w3.heap.size, 1, none⟩ = some (.slice A3 1 c3)) 5 (.take 0 (.take 1 (.take 2 (.op 3 (.op 4 .tail))))) (by kernel_rfl) (by kernel_rfl) ⟨S9.out.drew.cell 0, P9.out.drew.cell 0, P9.out.drew.cell 1⟩ (fun hHeld => ?_)
                      iterate 3
                        refine tr_take (v := ?_) (by simp only [List.getElem?_toArray, List.getElem?_cons_succ, List.getElem?_cons_zero]; rfl) (Or.inl ⟨by rfl, ?_⟩) ?_
                        rotate_left 1
                        · intro w hSw
                          try dsimp only at hSw
                          go_simp
                          try with_reducible rfl
                        try simp only [Act.put, List.setIfInBounds_toArray, List.set_cons_zero, List.set_cons_succ]
                      obtain ⟨wd, hwd⟩ : ∃ W, W = w9.drew := ⟨_, rfl⟩
                      have RD := Lib.hid (show Has wd (w.heap.size + 1) #[.int .i64 0, .slice none 0 0] from by rw [hwd]; exact R9.out.drew)
                      have PD := Lib.hid (show Has wd (w3.heap.size) #[.int .i64 (o.next + 1), .slice A3 1 c3] from by rw [hwd]; exact P9.out.drew)
                      have SD := Lib.hid (show Has wd w.heap.size #[.int .i64 o.next, .slice none 0 0] from by rw [hwd]; exact S9.out.drew)
                      have BD := Lib.hid (show Below w.heap.size w wd from by rw [hwd]; exact B9.out.drew)
                      have DD := Lib.hid (show Below w9.heap.size w9 wd from by rw [hwd]; exact (Below.refl _ w9).drew)
                      rw [← hwd]
                      clear hwd
                      have rdc := RD.out.cell
                      have rdf := RD.out.free
                      have rdl := RD.out.lt
                      refine tr_op (by simp only [List.getElem?_toArray, List.getElem?_cons_succ, List.getElem?_cons_zero]; rfl) (fun K hK => ?_)
                      go_wp2_with fail
                      clear hHeld
                      have G := setCells_grown (w.heap.size + 1) [.int .i64 (o.next + 1), .slice A3 1 c3] 0 wd
                      have RS := Lib.hid (RD.out.set [.int .i64 (o.next + 1), .slice A3 1 c3] rfl)
                      have BB := Lib.hid (BD.out.trans (grown_below G BD.out.size (fun k hk => by injection hk with hk; omega)))
                      have QS := Lib.hid (((O9.out.kept DD.out).grown G (by have := BY.out.size; have := GPY.out; have := GP.out; omega)).own (fun a ha => IN9.out _ BB.out a ha) |>.sl)
                      obtain ⟨wz, hwz⟩ : ∃ W, W = wd.setCells (w.heap.size + 1) 0 [.int .i64 (o.next + 1), .slice A3 1 c3] := ⟨_, rfl⟩
                      have SZ9 := Lib.hid (SD.out.grown G (by omega))
                      have PZ9 := Lib.hid (PD.out.grown G (by have := GP.out; omega))
                      rw [← hwz] at RS BB QS SZ9 PZ9
                      rw [show ((wd.setCell ⟨w.heap.size + 1, 0, none⟩ (.int .i64 (o.next + 1))).setCell ⟨w.heap.size + 1, 1, none⟩ (.slice A3 1 c3)) = wz from hwz.symm]
                      clear hwz G rdc rdf rdl
                      refine hK.out _ _ ⟨SZ9.out.cell 0, PZ9.out.cell 0, PZ9.out.cell 1⟩ (fun hHeld => ?_)
                      clear hK K
                      try simp only [Act.put, List.setIfInBounds_toArray, List.set_cons_zero, List.set_cons_succ]
                      refine tr_op (by simp only [List.getElem?_toArray, List.getElem?_cons_succ, List.getElem?_cons_zero]; rfl) (fun K hK => ?_)
                      go_wp2_with fail
                      clear hHeld

                      refine hK.out _ _ ⟨SZ9.out.cell 0, PZ9.out.cell 0, PZ9.out.cell 1⟩ (fun hHeld => ?_)
                      clear hK K
                      try simp only [Act.put, List.setIfInBounds_toArray, List.set_cons_zero, List.set_cons_succ]
                      refine tr_tail rfl ?_
                      clear hHeld
                      go_wp2_with fail
                      refine bodyPost_ret (v := .tuple #[.agg #[.int .i64 (o.next + 1), .slice A3 1 c3], .int .i64 o.next, .int .i64 0, .int .i64 0]) (results_cell_tmp3 Try.results14 (g := w.heap.size + 1) rfl rfl rfl rfl (load24 RS.out)) rfl ?_
                      exact InRes.of (q := ⟨o.next + 1, A3, 1, c3, o.L.take 0 ++ [(⟨id, o.next, 0, 0, 0, none, 0, 0, [], none, 0, 0, [], now⟩ : Tx)] ++ o.L.drop 0⟩) RR9.out ⟨QS.out, VQ.out⟩ BB.out
                    · by_cases hcm : CC = CN
                      · subst hcm
                        by_cases hc0 : CC = 0
                        · subst hc0
                          have ww := BY.out.size
                          have yc := SY.out.cell
                          have yl := SY.out.lt
                          have O1 := Lib.hid (show ROwn txK 33 wy wy.heap.size none 0 0 [] from ROwn.nil _ _ _ _)
                          have BW1 := Lib.hid (Below.refl wy.heap.size wy)
                          go_wp2_with (at_builtin; refine wpList_app1R (K := txK) _ rfl _ _ 22 rfl wy.heap.size 33 i0 _ 104 Try.underlying22 hi0 hz0 hs0 hb0 rfl none _ 0 _ rfl (O1.out.kept (below_alloc1 wy (.cells #[.string id, .int .i64 o.next, .int .i64 0, .int .i64 0, .int .i64 0, .slice none 0 0, .slice none 0 0, .int .i64 now] 33))) wy.heap.size rfl (⟨id, o.next, 0, 0, 0, none, 0, 0, [], none, 0, 0, [], now⟩ : Tx) (fun j _ => ((Has.newAt wy #[.string id, .int .i64 o.next, .int .i64 0, .int .i64 0, .int .i64 0, .slice none 0 0, .slice none 0 0, .int .i64 now] 33 (g := wy.heap.size) rfl).cell j).trans (CELLS.out j)) (by unfold maxLen; omega) (by omega) (Nat.le_trans BW1.out.size (below_alloc1 wy _).size) ?_)
                          intro A2 c2 W2 ho hg hnb
                          clear hnb
                          have O2 := Lib.hid (show ROwn txK 33 W2 wy.heap.size A2 1 c2 (o.L.take 0 ++ [(⟨id, o.next, 0, 0, 0, none, 0, 0, [], none, 0, 0, [], now⟩ : Tx)]) from by rw [List.take_zero]; exact ho)
                          have b2 := BW1.out.trans ((below_alloc1 wy (.cells #[.string id, .int .i64 o.next, .int .i64 0, .int .i64 0, .int .i64 0, .slice none 0 0, .slice none 0 0, .int .i64 now] 33)).mono BW1.out.size)
                          have BW2 := Lib.hid (b2.trans (grown_below hg b2.size (fun q hq => (O1.out.2.lt q hq).1)))
                          clear ho hg b2 yc yl
                          have SLR := Lib.hid (show Sl txK W2 (some a0) 0 0 (o.L.drop 0) from sl_zeroA (Nat.zero_le _) (List.drop_eq_nil_of_le (by rw [LNP.out]; exact Nat.le_refl _)))
                          have y2c := (SY.out.past BW2.out).cell
                          have y2l := (SY.out.past BW2.out).lt
                          go_wp2_with (at_builtin; refine wpList_append_sl (K := txK) _ rfl _ _ 22 rfl wy.heap.size 33 i0 _ 104 Try.underlying22 hi0 hz0 hs0 hb0 rfl A2 _ c2 _ rfl O2.out.2 _ 0 _ (o.L.drop 0) (by first | rfl | (go_simp; rfl)) SLR.out (by unfold maxLen; omega) (by omega) BW2.out.size ?_)
                          intro A3 c3 W3 ho hg hnb
                          clear hnb
                          have BW3 := Lib.hid (BW2.out.trans (grown_below hg BW2.out.size (fun q hq => (O2.out.2.lt q hq).1)))
                          have O3 := Lib.hid (show ROwn txK 33 W3 wy.heap.size A3 1 c3 (o.L.take 0 ++ [(⟨id, o.next, 0, 0, 0, none, 0, 0, [], none, 0, 0, [], now⟩ : Tx)] ++ o.L.drop 0) from
                            ⟨by rw [List.length_append, O2.out.1, SLR.out.len], by simpa only [List.flatMap_append, List.flatMap_cons, List.flatMap_nil, List.append_nil, List.append_assoc, List.take_zero, List.drop_zero, List.nil_append] using ho⟩)
                          have P3 := Lib.hid (PY.out.past BW3.out)
                          clear ho hg y2c y2l
                          have p3c := P3.out.cell
                          have p3l := P3.out.lt
                          have p3f := P3.out.free
                          go_upto_region 28 with (fail)
                          have G := setCells_grown (w3.heap.size) [.slice A3 1 c3] 1 W3
                          obtain ⟨w9, hw9⟩ : ∃ W, W = W3.setCells (w3.heap.size) 1 [.slice A3 1 c3] := ⟨_, rfl⟩
                          rw [← hw9] at G
                          have GPY := Lib.hid (show w3.heap.size < wy.heap.size from PY.out.lt)
                          have P9 := Lib.hid (show Has w9 (w3.heap.size) #[.int .i64 (o.next + 1), .slice A3 1 c3] from by
                            have := P3.out.setAt 1 (.slice A3 1 c3) (by simp)
                            rw [hw9]
                            simpa [World.setCells] using this)
                          have BW3w := Lib.hid (BY.out.trans (BW3.out.mono BY.out.size))
                          have B9 := Lib.hid (BW3w.out.trans (grown_below G BW3w.out.size (fun k hk => by injection hk with hk; have := GP.out; omega)))
                          have S9 := Lib.hid ((SY.out.past BW3.out).grown G (by have := GP.out; omega))
                          have R9 := Lib.hid ((RY.out.past BW3.out).grown G (by have := GP.out; omega))
                          have O9 := Lib.hid (O3.out.grown G GPY.out)
                          rw [show W3.setCell ⟨w3.heap.size, 1, none⟩ (.slice A3 1 c3) = w9 from hw9.symm]
                          clear hw9 G p3c p3l p3f
                          have VQ := Lib.hid (show (⟨o.next + 1, (o.L.take 0 ++ [(⟨id, o.next, 0, 0, 0, none, 0, 0, [], none, 0, 0, [], now⟩ : Tx)] ++ o.L.drop 0).map Tx.val⟩ : Cv) = ⟨o.next + 1, insI ⟨id, o.next, 0, 0, 0, [], [], now⟩ o.val.L⟩ from by
                            congr 1
                            unfold insI
                            rw [ins_srch (c := ordI) (x := ⟨id, o.next, 0, 0, 0, [], [], now⟩) SR.out, if_neg (by simp)]
                            simp [Tc.val, Tx.val])
                          have IN9 := Lib.hid (show ∀ W, Below w.heap.size w W → ∀ a ∈ o.L.take 0 ++ [(⟨id, o.next, 0, 0, 0, none, 0, 0, [], none, 0, 0, [], now⟩ : Tx)] ++ o.L.drop 0, Tx.In W a from fun W h a ha => by
                            rcases List.mem_append.1 ha with ha | ha
                            · rcases List.mem_append.1 ha with ha | ha
                              · exact (show Tx.In w a from Sl.each HO.out a (List.mem_of_mem_take ha)).past h
                              · obtain rfl := List.mem_singleton.1 ha
                                exact ⟨HS.out, Sl.nil _ _, Sl.nil _ _⟩
                            · exact (show Tx.In w a from Sl.each HO.out a (List.mem_of_mem_drop ha)).past h)
                          refine region_tr (fun w' => w'.cell? ⟨w.heap.size, 0, none⟩ = some (.int .i64 o.next) ∧ w'.cell? ⟨w3.heap.size, 0, none⟩ = some (.int .i64 (o.next + 1)) ∧ w'.cell? ⟨w3.heap.size, 1, none⟩ = some (.slice A3 1 c3)) 5 (.take 0 (.take 1 (.take 2 (.op 3 (.op 4 .tail))))) (by kernel_rfl) (by kernel_rfl) ⟨S9.out.drew.cell 0, P9.out.drew.cell 0, P9.out.drew.cell 1⟩ (fun hHeld => ?_)
                          iterate 3
                            refine tr_take (v := ?_) (by simp only [List.getElem?_toArray, List.getElem?_cons_succ, List.getElem?_cons_zero]; rfl) (Or.inl ⟨by rfl, ?_⟩) ?_
                            rotate_left 1
                            · intro w hSw
                              try dsimp only at hSw
                              go_simp
                              try with_reducible rfl
                            try simp only [Act.put, List.setIfInBounds_toArray, List.set_cons_zero, List.set_cons_succ]
                          obtain ⟨wd, hwd⟩ : ∃ W, W = w9.drew := ⟨_, rfl⟩
                          have RD := Lib.hid (show Has wd (w.heap.size + 1) #[.int .i64 0, .slice none 0 0] from by rw [hwd]; exact R9.out.drew)
                          have PD := Lib.hid (show Has wd (w3.heap.size) #[.int .i64 (o.next + 1), .slice A3 1 c3] from by rw [hwd]; exact P9.out.drew)
                          have SD := Lib.hid (show Has wd w.heap.size #[.int .i64 o.next, .slice (some a0) 0 0] from by rw [hwd]; exact S9.out.drew)
                          have BD := Lib.hid (show Below w.heap.size w wd from by rw [hwd]; exact B9.out.drew)
                          have DD := Lib.hid (show Below w9.heap.size w9 wd from by rw [hwd]; exact (Below.refl _ w9).drew)
                          rw [← hwd]
                          clear hwd
                          have rdc := RD.out.cell
                          have rdf := RD.out.free
                          have rdl := RD.out.lt
                          refine tr_op (by simp only [List.getElem?_toArray, List.getElem?_cons_succ, List.getElem?_cons_zero]; rfl) (fun K hK => ?_)
                          go_wp2_with fail
                          clear hHeld
                          have G := setCells_grown (w.heap.size + 1) [.int .i64 (o.next + 1), .slice A3 1 c3] 0 wd
                          have RS := Lib.hid (RD.out.set [.int .i64 (o.next + 1), .slice A3 1 c3] rfl)
                          have BB := Lib.hid (BD.out.trans (grown_below G BD.out.size (fun k hk => by injection hk with hk; omega)))
                          have QS := Lib.hid (((O9.out.kept DD.out).grown G (by have := BY.out.size; have := GPY.out; have := GP.out; omega)).own (fun a ha => IN9.out _ BB.out a ha) |>.sl)
                          obtain ⟨wz, hwz⟩ : ∃ W, W = wd.setCells (w.heap.size + 1) 0 [.int .i64 (o.next + 1), .slice A3 1 c3] := ⟨_, rfl⟩
                          have SZ9 := Lib.hid (SD.out.grown G (by omega))
                          have PZ9 := Lib.hid (PD.out.grown G (by have := GP.out; omega))
                          rw [← hwz] at RS BB QS SZ9 PZ9
                          rw [show ((wd.setCell ⟨w.heap.size + 1, 0, none⟩ (.int .i64 (o.next + 1))).setCell ⟨w.heap.size + 1, 1, none⟩ (.slice A3 1 c3)) = wz from hwz.symm]
                          clear hwz G rdc rdf rdl
                          refine hK.out _ _ ⟨SZ9.out.cell 0, PZ9.out.cell 0, PZ9.out.cell 1⟩ (fun hHeld => ?_)
                          clear hK K
                          try simp only [Act.put, List.setIfInBounds_toArray, List.set_cons_zero, List.set_cons_succ]
                          refine tr_op (by simp only [List.getElem?_toArray, List.getElem?_cons_succ, List.getElem?_cons_zero]; rfl) (fun K hK => ?_)
                          go_wp2_with fail
                          clear hHeld

                          refine hK.out _ _ ⟨SZ9.out.cell 0, PZ9.out.cell 0, PZ9.out.cell 1⟩ (fun hHeld => ?_)
                          clear hK K
                          try simp only [Act.put, List.setIfInBounds_toArray, List.set_cons_zero, List.set_cons_succ]
                          refine tr_tail rfl ?_
                          clear hHeld
                          go_wp2_with fail
                          refine bodyPost_ret (v := .tuple #[.agg #[.int .i64 (o.next + 1), .slice A3 1 c3], .int .i64 o.next, .int .i64 0, .int .i64 0]) (results_cell_tmp3 Try.results14 (g := w.heap.size + 1) rfl rfl rfl rfl (load24 RS.out)) rfl ?_
                          exact InRes.of (q := ⟨o.next + 1, A3, 1, c3, o.L.take 0 ++ [(⟨id, o.next, 0, 0, 0, none, 0, 0, [], none, 0, 0, [], now⟩ : Tx)] ++ o.L.drop 0⟩) RR9.out ⟨QS.out, VQ.out⟩ BB.out
                        · have nc0 : ¬ CC = 0 := hc0
                          have nc1 : 0 < CC := by omega
                          have ww := BY.out.size
                          have yc := SY.out.cell
                          have yl := SY.out.lt
                          have SLI := Lib.hid (HP9.out.take CC (by omega))
                          go_wp2_with (at_builtin; refine wpList_append_sl (K := txK) _ rfl _ _ 22 rfl wy.heap.size 33 i0 _ 104 Try.underlying22 hi0 hz0 hs0 hb0 rfl none 0 0 [] rfl (World.ownsRow_nil _ _ _ _) (some a0) CC CC (o.L.take CC) rfl SLI.out (by unfold maxLen; omega) (by omega) (Nat.le_refl _) ?_)
                          intro A1 c1 W1 ho hg hnb
                          clear hnb
                          have b1 : Below wy.heap.size wy W1 := grown_below hg (Nat.le_refl _) (fun q hq => by cases hq)
                          have O1 := Lib.hid (show ROwn txK 33 W1 wy.heap.size A1 CC c1 (o.L.take CC) from ⟨SLI.out.len, by simpa using ho⟩)
                          have BW1 := Lib.hid b1
                          have y1c := (SY.out.past b1).cell
                          have y1l := (SY.out.past b1).lt
                          clear ho hg b1 yc yl
                          go_wp2_with (at_builtin; refine wpList_app1R (K := txK) _ rfl _ _ 22 rfl wy.heap.size 33 i0 _ 104 Try.underlying22 hi0 hz0 hs0 hb0 rfl A1 _ c1 _ rfl (O1.out.kept (below_alloc1 W1 (.cells #[.string id, .int .i64 o.next, .int .i64 0, .int .i64 0, .int .i64 0, .slice none 0 0, .slice none 0 0, .int .i64 now] 33))) W1.heap.size rfl (⟨id, o.next, 0, 0, 0, none, 0, 0, [], none, 0, 0, [], now⟩ : Tx) (fun j _ => ((Has.newAt W1 #[.string id, .int .i64 o.next, .int .i64 0, .int .i64 0, .int .i64 0, .slice none 0 0, .slice none 0 0, .int .i64 now] 33 (g := W1.heap.size) rfl).cell j).trans (CELLS.out j)) (by unfold maxLen; omega) (by omega) (Nat.le_trans BW1.out.size (below_alloc1 W1 _).size) ?_)
                          intro A2 c2 W2 ho hg hnb
                          clear hnb
                          have O2 := Lib.hid (ho)
                          have b2 := BW1.out.trans ((below_alloc1 W1 (.cells #[.string id, .int .i64 o.next, .int .i64 0, .int .i64 0, .int .i64 0, .slice none 0 0, .slice none 0 0, .int .i64 now] 33)).mono BW1.out.size)
                          have BW2 := Lib.hid (b2.trans (grown_below hg b2.size (fun q hq => (O1.out.2.lt q hq).1)))
                          clear ho hg b2 y1c y1l
                          have SLR := Lib.hid (show Sl txK W2 (some a0) 0 0 (o.L.drop CC) from sl_zeroA (Nat.zero_le _) (List.drop_eq_nil_of_le (by rw [LNP.out]; exact Nat.le_refl _)))
                          have y2c := (SY.out.past BW2.out).cell
                          have y2l := (SY.out.past BW2.out).lt
                          go_wp2_with (at_builtin; refine wpList_append_sl (K := txK) _ rfl _ _ 22 rfl wy.heap.size 33 i0 _ 104 Try.underlying22 hi0 hz0 hs0 hb0 rfl A2 _ c2 _ rfl O2.out.2 _ 0 _ (o.L.drop CC) (by first | rfl | (go_simp; rfl)) SLR.out (by unfold maxLen; omega) (by omega) BW2.out.size ?_)
                          intro A3 c3 W3 ho hg hnb
                          clear hnb
                          have BW3 := Lib.hid (BW2.out.trans (grown_below hg BW2.out.size (fun q hq => (O2.out.2.lt q hq).1)))
                          have O3 := Lib.hid (show ROwn txK 33 W3 wy.heap.size A3 (CC + 1) c3 (o.L.take CC ++ [(⟨id, o.next, 0, 0, 0, none, 0, 0, [], none, 0, 0, [], now⟩ : Tx)] ++ o.L.drop CC) from
                            ⟨by rw [List.length_append, O2.out.1, SLR.out.len], by simpa only [List.flatMap_append, List.flatMap_cons, List.flatMap_nil, List.append_nil, List.append_assoc] using ho⟩)
                          have P3 := Lib.hid (PY.out.past BW3.out)
                          clear ho hg y2c y2l
                          have p3c := P3.out.cell
                          have p3l := P3.out.lt
                          have p3f := P3.out.free
                          go_upto_region 28 with (fail)
                          have G := setCells_grown (w3.heap.size) [.slice A3 (CC + 1) c3] 1 W3
                          obtain ⟨w9, hw9⟩ : ∃ W, W = W3.setCells (w3.heap.size) 1 [.slice A3 (CC + 1) c3] := ⟨_, rfl⟩
                          rw [← hw9] at G
                          have GPY := Lib.hid (show w3.heap.size < wy.heap.size from PY.out.lt)
                          have P9 := Lib.hid (show Has w9 (w3.heap.size) #[.int .i64 (o.next + 1), .slice A3 (CC + 1) c3] from by
                            have := P3.out.setAt 1 (.slice A3 (CC + 1) c3) (by simp)
                            rw [hw9]
                            simpa [World.setCells] using this)
                          have BW3w := Lib.hid (BY.out.trans (BW3.out.mono BY.out.size))
                          have B9 := Lib.hid (BW3w.out.trans (grown_below G BW3w.out.size (fun k hk => by injection hk with hk; have := GP.out; omega)))
                          have S9 := Lib.hid ((SY.out.past BW3.out).grown G (by have := GP.out; omega))
                          have R9 := Lib.hid ((RY.out.past BW3.out).grown G (by have := GP.out; omega))
                          have O9 := Lib.hid (O3.out.grown G GPY.out)
                          rw [show W3.setCell ⟨w3.heap.size, 1, none⟩ (.slice A3 (CC + 1) c3) = w9 from hw9.symm]
                          clear hw9 G p3c p3l p3f
                          have VQ := Lib.hid (show (⟨o.next + 1, (o.L.take CC ++ [(⟨id, o.next, 0, 0, 0, none, 0, 0, [], none, 0, 0, [], now⟩ : Tx)] ++ o.L.drop CC).map Tx.val⟩ : Cv) = ⟨o.next + 1, insI ⟨id, o.next, 0, 0, 0, [], [], now⟩ o.val.L⟩ from by
                            congr 1
                            unfold insI
                            rw [ins_srch (c := ordI) (x := ⟨id, o.next, 0, 0, 0, [], [], now⟩) SR.out, if_neg (by simp)]
                            simp [Tc.val, Tx.val])
                          have IN9 := Lib.hid (show ∀ W, Below w.heap.size w W → ∀ a ∈ o.L.take CC ++ [(⟨id, o.next, 0, 0, 0, none, 0, 0, [], none, 0, 0, [], now⟩ : Tx)] ++ o.L.drop CC, Tx.In W a from fun W h a ha => by
                            rcases List.mem_append.1 ha with ha | ha
                            · rcases List.mem_append.1 ha with ha | ha
                              · exact (show Tx.In w a from Sl.each HO.out a (List.mem_of_mem_take ha)).past h
                              · obtain rfl := List.mem_singleton.1 ha
                                exact ⟨HS.out, Sl.nil _ _, Sl.nil _ _⟩
                            · exact (show Tx.In w a from Sl.each HO.out a (List.mem_of_mem_drop ha)).past h)
                          refine region_tr (fun w' => w'.cell? ⟨w.heap.size, 0, none⟩ = some (.int .i64 o.next) ∧ w'.cell? ⟨w3.heap.size, 0, none⟩ = some (.int .i64 (o.next + 1)) ∧ w'.cell? ⟨w3.heap.size, 1, none⟩ = some (.slice A3 (CC + 1) c3)) 5 (.take 0 (.take 1 (.take 2 (.op 3 (.op 4 .tail))))) (by kernel_rfl) (by kernel_rfl) ⟨S9.out.drew.cell 0, P9.out.drew.cell 0, P9.out.drew.cell 1⟩ (fun hHeld => ?_)
                          iterate 3
                            refine tr_take (v := ?_) (by simp only [List.getElem?_toArray, List.getElem?_cons_succ, List.getElem?_cons_zero]; rfl) (Or.inl ⟨by rfl, ?_⟩) ?_
                            rotate_left 1
                            · intro w hSw
                              try dsimp only at hSw
                              go_simp
                              try with_reducible rfl
                            try simp only [Act.put, List.setIfInBounds_toArray, List.set_cons_zero, List.set_cons_succ]
                          obtain ⟨wd, hwd⟩ : ∃ W, W = w9.drew := ⟨_, rfl⟩
                          have RD := Lib.hid (show Has wd (w.heap.size + 1) #[.int .i64 0, .slice none 0 0] from by rw [hwd]; exact R9.out.drew)
                          have PD := Lib.hid (show Has wd (w3.heap.size) #[.int .i64 (o.next + 1), .slice A3 (CC + 1) c3] from by rw [hwd]; exact P9.out.drew)
                          have SD := Lib.hid (show Has wd w.heap.size #[.int .i64 o.next, .slice (some a0) CC CC] from by rw [hwd]; exact S9.out.drew)
                          have BD := Lib.hid (show Below w.heap.size w wd from by rw [hwd]; exact B9.out.drew)
                          have DD := Lib.hid (show Below w9.heap.size w9 wd from by rw [hwd]; exact (Below.refl _ w9).drew)
                          rw [← hwd]
                          clear hwd
                          have rdc := RD.out.cell
                          have rdf := RD.out.free
                          have rdl := RD.out.lt
                          refine tr_op (by simp only [List.getElem?_toArray, List.getElem?_cons_succ, List.getElem?_cons_zero]; rfl) (fun K hK => ?_)
                          go_wp2_with fail
                          clear hHeld
                          have G := setCells_grown (w.heap.size + 1) [.int .i64 (o.next + 1), .slice A3 (CC + 1) c3] 0 wd
                          have RS := Lib.hid (RD.out.set [.int .i64 (o.next + 1), .slice A3 (CC + 1) c3] rfl)
                          have BB := Lib.hid (BD.out.trans (grown_below G BD.out.size (fun k hk => by injection hk with hk; omega)))
                          have QS := Lib.hid (((O9.out.kept DD.out).grown G (by have := BY.out.size; have := GPY.out; have := GP.out; omega)).own (fun a ha => IN9.out _ BB.out a ha) |>.sl)
                          obtain ⟨wz, hwz⟩ : ∃ W, W = wd.setCells (w.heap.size + 1) 0 [.int .i64 (o.next + 1), .slice A3 (CC + 1) c3] := ⟨_, rfl⟩
                          have SZ9 := Lib.hid (SD.out.grown G (by omega))
                          have PZ9 := Lib.hid (PD.out.grown G (by have := GP.out; omega))
                          rw [← hwz] at RS BB QS SZ9 PZ9
                          rw [show ((wd.setCell ⟨w.heap.size + 1, 0, none⟩ (.int .i64 (o.next + 1))).setCell ⟨w.heap.size + 1, 1, none⟩ (.slice A3 (CC + 1) c3)) = wz from hwz.symm]
                          clear hwz G rdc rdf rdl
                          refine hK.out _ _ ⟨SZ9.out.cell 0, PZ9.out.cell 0, PZ9.out.cell 1⟩ (fun hHeld => ?_)
                          clear hK K
                          try simp only [Act.put, List.setIfInBounds_toArray, List.set_cons_zero, List.set_cons_succ]
                          refine tr_op (by simp only [List.getElem?_toArray, List.getElem?_cons_succ, List.getElem?_cons_zero]; rfl) (fun K hK => ?_)
                          go_wp2_with fail
                          clear hHeld

                          refine hK.out _ _ ⟨SZ9.out.cell 0, PZ9.out.cell 0, PZ9.out.cell 1⟩ (fun hHeld => ?_)
                          clear hK K
                          try simp only [Act.put, List.setIfInBounds_toArray, List.set_cons_zero, List.set_cons_succ]
                          refine tr_tail rfl ?_
                          clear hHeld
                          go_wp2_with fail
                          refine bodyPost_ret (v := .tuple #[.agg #[.int .i64 (o.next + 1), .slice A3 (CC + 1) c3], .int .i64 o.next, .int .i64 0, .int .i64 0]) (results_cell_tmp3 Try.results14 (g := w.heap.size + 1) rfl rfl rfl rfl (load24 RS.out)) rfl ?_
                          exact InRes.of (q := ⟨o.next + 1, A3, (CC + 1), c3, o.L.take CC ++ [(⟨id, o.next, 0, 0, 0, none, 0, 0, [], none, 0, 0, [], now⟩ : Tx)] ++ o.L.drop CC⟩) RR9.out ⟨QS.out, VQ.out⟩ BB.out
                      · have ncm : ¬ CC = CN := hcm
                        have nc0 : ¬ CC = 0 := by omega
                        have nc1 : 0 < CC := by omega
                        have ww := BY.out.size
                        have yc := SY.out.cell
                        have yl := SY.out.lt
                        have SLI := Lib.hid (HP9.out.take CN (by omega))
                        go_wp2_with (at_builtin; refine wpList_append_sl (K := txK) _ rfl _ _ 22 rfl wy.heap.size 33 i0 _ 104 Try.underlying22 hi0 hz0 hs0 hb0 rfl none 0 0 [] rfl (World.ownsRow_nil _ _ _ _) (some a0) CN CC (o.L.take CN) rfl SLI.out (by unfold maxLen; omega) (by omega) (Nat.le_refl _) ?_)
                        intro A1 c1 W1 ho hg hnb
                        clear hnb
                        have b1 : Below wy.heap.size wy W1 := grown_below hg (Nat.le_refl _) (fun q hq => by cases hq)
                        have O1 := Lib.hid (show ROwn txK 33 W1 wy.heap.size A1 CN c1 (o.L.take CN) from ⟨SLI.out.len, by simpa using ho⟩)
                        have BW1 := Lib.hid b1
                        have y1c := (SY.out.past b1).cell
                        have y1l := (SY.out.past b1).lt
                        clear ho hg b1 yc yl
                        go_wp2_with (at_builtin; refine wpList_app1R (K := txK) _ rfl _ _ 22 rfl wy.heap.size 33 i0 _ 104 Try.underlying22 hi0 hz0 hs0 hb0 rfl A1 _ c1 _ rfl (O1.out.kept (below_alloc1 W1 (.cells #[.string id, .int .i64 o.next, .int .i64 0, .int .i64 0, .int .i64 0, .slice none 0 0, .slice none 0 0, .int .i64 now] 33))) W1.heap.size rfl (⟨id, o.next, 0, 0, 0, none, 0, 0, [], none, 0, 0, [], now⟩ : Tx) (fun j _ => ((Has.newAt W1 #[.string id, .int .i64 o.next, .int .i64 0, .int .i64 0, .int .i64 0, .slice none 0 0, .slice none 0 0, .int .i64 now] 33 (g := W1.heap.size) rfl).cell j).trans (CELLS.out j)) (by unfold maxLen; omega) (by omega) (Nat.le_trans BW1.out.size (below_alloc1 W1 _).size) ?_)
                        intro A2 c2 W2 ho hg hnb
                        clear hnb
                        have O2 := Lib.hid (ho)
                        have b2 := BW1.out.trans ((below_alloc1 W1 (.cells #[.string id, .int .i64 o.next, .int .i64 0, .int .i64 0, .int .i64 0, .slice none 0 0, .slice none 0 0, .int .i64 now] 33)).mono BW1.out.size)
                        have BW2 := Lib.hid (b2.trans (grown_below hg b2.size (fun q hq => (O1.out.2.lt q hq).1)))
                        clear ho hg b2 y1c y1l
                        have SLR := Lib.hid (show Sl txK W2 (some (a0.add (CN * 8))) (0) (CC - CN) (o.L.drop CN) from by have := sl_dropA (HP9.out.below BW2.out) CN (by omega); rw [if_neg ncm, Nat.sub_self] at this; exact this)
                        have y2c := (SY.out.past BW2.out).cell
                        have y2l := (SY.out.past BW2.out).lt
                        go_wp2_with (at_builtin; refine wpList_append_sl (K := txK) _ rfl _ _ 22 rfl wy.heap.size 33 i0 _ 104 Try.underlying22 hi0 hz0 hs0 hb0 rfl A2 _ c2 _ rfl O2.out.2 _ (0) _ (o.L.drop CN) (by first | rfl | (go_simp; rfl)) SLR.out (by unfold maxLen; omega) (by omega) BW2.out.size ?_)
                        intro A3 c3 W3 ho hg hnb
                        clear hnb
                        have BW3 := Lib.hid (BW2.out.trans (grown_below hg BW2.out.size (fun q hq => (O2.out.2.lt q hq).1)))
                        have O3 := Lib.hid (show ROwn txK 33 W3 wy.heap.size A3 (CN + 1) c3 (o.L.take CN ++ [(⟨id, o.next, 0, 0, 0, none, 0, 0, [], none, 0, 0, [], now⟩ : Tx)] ++ o.L.drop CN) from
                          ⟨by rw [List.length_append, O2.out.1, SLR.out.len], by simpa only [List.flatMap_append, List.flatMap_cons, List.flatMap_nil, List.append_nil, List.append_assoc] using ho⟩)
                        have P3 := Lib.hid (PY.out.past BW3.out)
                        clear ho hg y2c y2l
                        have p3c := P3.out.cell
                        have p3l := P3.out.lt
                        have p3f := P3.out.free
                        go_upto_region 28 with (fail)
                        have G := setCells_grown (w3.heap.size) [.slice A3 (CN + 1) c3] 1 W3
                        obtain ⟨w9, hw9⟩ : ∃ W, W = W3.setCells (w3.heap.size) 1 [.slice A3 (CN + 1) c3] := ⟨_, rfl⟩
                        rw [← hw9] at G
                        have GPY := Lib.hid (show w3.heap.size < wy.heap.size from PY.out.lt)
                        have P9 := Lib.hid (show Has w9 (w3.heap.size) #[.int .i64 (o.next + 1), .slice A3 (CN + 1) c3] from by
                          have := P3.out.setAt 1 (.slice A3 (CN + 1) c3) (by simp)
                          rw [hw9]
                          simpa [World.setCells] using this)
                        have BW3w := Lib.hid (BY.out.trans (BW3.out.mono BY.out.size))
                        have B9 := Lib.hid (BW3w.out.trans (grown_below G BW3w.out.size (fun k hk => by injection hk with hk; have := GP.out; omega)))
                        have S9 := Lib.hid ((SY.out.past BW3.out).grown G (by have := GP.out; omega))
                        have R9 := Lib.hid ((RY.out.past BW3.out).grown G (by have := GP.out; omega))
                        have O9 := Lib.hid (O3.out.grown G GPY.out)
                        rw [show W3.setCell ⟨w3.heap.size, 1, none⟩ (.slice A3 (CN + 1) c3) = w9 from hw9.symm]
                        clear hw9 G p3c p3l p3f
                        have VQ := Lib.hid (show (⟨o.next + 1, (o.L.take CN ++ [(⟨id, o.next, 0, 0, 0, none, 0, 0, [], none, 0, 0, [], now⟩ : Tx)] ++ o.L.drop CN).map Tx.val⟩ : Cv) = ⟨o.next + 1, insI ⟨id, o.next, 0, 0, 0, [], [], now⟩ o.val.L⟩ from by
                          congr 1
                          unfold insI
                          rw [ins_srch (c := ordI) (x := ⟨id, o.next, 0, 0, 0, [], [], now⟩) SR.out, if_neg (by simp)]
                          simp [Tc.val, Tx.val])
                        have IN9 := Lib.hid (show ∀ W, Below w.heap.size w W → ∀ a ∈ o.L.take CN ++ [(⟨id, o.next, 0, 0, 0, none, 0, 0, [], none, 0, 0, [], now⟩ : Tx)] ++ o.L.drop CN, Tx.In W a from fun W h a ha => by
                          rcases List.mem_append.1 ha with ha | ha
                          · rcases List.mem_append.1 ha with ha | ha
                            · exact (show Tx.In w a from Sl.each HO.out a (List.mem_of_mem_take ha)).past h
                            · obtain rfl := List.mem_singleton.1 ha
                              exact ⟨HS.out, Sl.nil _ _, Sl.nil _ _⟩
                          · exact (show Tx.In w a from Sl.each HO.out a (List.mem_of_mem_drop ha)).past h)
                        refine region_tr (fun w' => w'.cell? ⟨w.heap.size, 0, none⟩ = some (.int .i64 o.next) ∧ w'.cell? ⟨w3.heap.size, 0, none⟩ = some (.int .i64 (o.next + 1)) ∧ w'.cell? ⟨w3.heap.size, 1, none⟩ = some (.slice A3 (CN + 1) c3)) 5 (.take 0 (.take 1 (.take 2 (.op 3 (.op 4 .tail))))) (by kernel_rfl) (by kernel_rfl) ⟨S9.out.drew.cell 0, P9.out.drew.cell 0, P9.out.drew.cell 1⟩ (fun hHeld => ?_)
                        iterate 3
                          refine tr_take (v := ?_) (by simp only [List.getElem?_toArray, List.getElem?_cons_succ, List.getElem?_cons_zero]; rfl) (Or.inl ⟨by rfl, ?_⟩) ?_
                          rotate_left 1
                          · intro w hSw
                            try dsimp only at hSw
                            go_simp
                            try with_reducible rfl
                          try simp only [Act.put, List.setIfInBounds_toArray, List.set_cons_zero, List.set_cons_succ]
                        obtain ⟨wd, hwd⟩ : ∃ W, W = w9.drew := ⟨_, rfl⟩
                        have RD := Lib.hid (show Has wd (w.heap.size + 1) #[.int .i64 0, .slice none 0 0] from by rw [hwd]; exact R9.out.drew)
                        have PD := Lib.hid (show Has wd (w3.heap.size) #[.int .i64 (o.next + 1), .slice A3 (CN + 1) c3] from by rw [hwd]; exact P9.out.drew)
                        have SD := Lib.hid (show Has wd w.heap.size #[.int .i64 o.next, .slice (some a0) CN CC] from by rw [hwd]; exact S9.out.drew)
                        have BD := Lib.hid (show Below w.heap.size w wd from by rw [hwd]; exact B9.out.drew)
                        have DD := Lib.hid (show Below w9.heap.size w9 wd from by rw [hwd]; exact (Below.refl _ w9).drew)
                        rw [← hwd]
                        clear hwd
                        have rdc := RD.out.cell
                        have rdf := RD.out.free
                        have rdl := RD.out.lt
                        refine tr_op (by simp only [List.getElem?_toArray, List.getElem?_cons_succ, List.getElem?_cons_zero]; rfl) (fun K hK => ?_)
                        go_wp2_with fail
                        clear hHeld
                        have G := setCells_grown (w.heap.size + 1) [.int .i64 (o.next + 1), .slice A3 (CN + 1) c3] 0 wd
                        have RS := Lib.hid (RD.out.set [.int .i64 (o.next + 1), .slice A3 (CN + 1) c3] rfl)
                        have BB := Lib.hid (BD.out.trans (grown_below G BD.out.size (fun k hk => by injection hk with hk; omega)))
                        have QS := Lib.hid (((O9.out.kept DD.out).grown G (by have := BY.out.size; have := GPY.out; have := GP.out; omega)).own (fun a ha => IN9.out _ BB.out a ha) |>.sl)
                        obtain ⟨wz, hwz⟩ : ∃ W, W = wd.setCells (w.heap.size + 1) 0 [.int .i64 (o.next + 1), .slice A3 (CN + 1) c3] := ⟨_, rfl⟩
                        have SZ9 := Lib.hid (SD.out.grown G (by omega))
                        have PZ9 := Lib.hid (PD.out.grown G (by have := GP.out; omega))
                        rw [← hwz] at RS BB QS SZ9 PZ9
                        rw [show ((wd.setCell ⟨w.heap.size + 1, 0, none⟩ (.int .i64 (o.next + 1))).setCell ⟨w.heap.size + 1, 1, none⟩ (.slice A3 (CN + 1) c3)) = wz from hwz.symm]
                        clear hwz G rdc rdf rdl
                        refine hK.out _ _ ⟨SZ9.out.cell 0, PZ9.out.cell 0, PZ9.out.cell 1⟩ (fun hHeld => ?_)
                        clear hK K
                        try simp only [Act.put, List.setIfInBounds_toArray, List.set_cons_zero, List.set_cons_succ]
                        refine tr_op (by simp only [List.getElem?_toArray, List.getElem?_cons_succ, List.getElem?_cons_zero]; rfl) (fun K hK => ?_)
                        go_wp2_with fail
                        clear hHeld

                        refine hK.out _ _ ⟨SZ9.out.cell 0, PZ9.out.cell 0, PZ9.out.cell 1⟩ (fun hHeld => ?_)
                        clear hK K
                        try simp only [Act.put, List.setIfInBounds_toArray, List.set_cons_zero, List.set_cons_succ]
                        refine tr_tail rfl ?_
                        clear hHeld
                        go_wp2_with fail
                        refine bodyPost_ret (v := .tuple #[.agg #[.int .i64 (o.next + 1), .slice A3 (CN + 1) c3], .int .i64 o.next, .int .i64 0, .int .i64 0]) (results_cell_tmp3 Try.results14 (g := w.heap.size + 1) rfl rfl rfl rfl (load24 RS.out)) rfl ?_
                        exact InRes.of (q := ⟨o.next + 1, A3, (CN + 1), c3, o.L.take CN ++ [(⟨id, o.next, 0, 0, 0, none, 0, 0, [], none, 0, 0, [], now⟩ : Tx)] ++ o.L.drop CN⟩) RR9.out ⟨QS.out, VQ.out⟩ BB.out
  · have HK := Lib.hid hk
    obtain ⟨c, hc⟩ : ∃ c, checkV o.val = c := ⟨_, rfl⟩
    have HQ := Lib.hid hc
    rw [hc] at CK hk
    have d1 : (c != 0) = true := by rw [bne_iff_ne]; exact hk
    have d2 : (c == 0) = false := by rw [beq_eq_false_iff_ne]; exact hk
    clear hc hk
    go_enter Try.func14, Try.ntmps14
    go_upto_region 4 with (first
      | (go_at_call 19; rw [← HW.out]; refine (CK.out _ B0.out).mono ?_; rintro e w1 ⟨rfl, hb1⟩; have B1 := Lib.hid (below_from hb1 B0.out B0.out.size); have S1 := Lib.hid (S0.out.past hb1); have R1 := Lib.hid (R0.out.past hb1); have N1 := Lib.hid (N0.out.past hb1); clear hb1 s0c s0l))
    have r1c := R1.out.cell
    have r1l := R1.out.lt
    have r1f := R1.out.free
    have n1c := N1.out.cell
    have n1l := N1.out.lt
    go_wp2_with fail
    have G := setCells_grown (w.heap.size + 1) [.int .i64 0, .slice none 0 0] 0 w1
    refine bodyPost_ret (v := .tuple #[noO.v, .int .i64 0, .int .i64 0, .int .i64 c]) (results_cell_tmp3 Try.results14 (g := w.heap.size + 1) rfl rfl rfl rfl (load24 (R1.out.set [.int .i64 0, .slice none 0 0] rfl))) rfl ?_
    exact InRes.no (by rw [init_chk HK.out, HQ.out]) (B1.out.trans (grown_below G B1.out.size (fun k hk => by injection hk with hk; omega)))

end Go.Proofs.Ytnigjchgpmladaa
