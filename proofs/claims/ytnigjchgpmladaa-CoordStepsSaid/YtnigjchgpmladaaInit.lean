/- A name is told its number: Init. -/
import Derived.Test.YtnigjchgpmladaaAsk
import Derived.Test.YtnigjchgpmladaaInX
import Derived.Test.YtnigjchgpmladaaReg
import Derived.Test.YtnigjchgpmladaaName
import Derived.Deep.DeepCutAuto
namespace Go.Proofs.Ytnigjchgpmladaa
open Go.RowKit Go.Shelf

theorem init_chk {c : Cv} {id : ByteArray} {now : Int} (h : checkV c ≠ 0) : initV c id now = (noC, 0, 0, checkV c) := by unfold initV; rw [if_pos h]
theorem init_bad {c : Cv} {id : ByteArray} {now : Int} (h : checkV c = 0) (h1 : ¬ (inB now 1099511627776 = true ∧ (id.size = 0 ∨ nameC id = true))) : initV c id now = (noC, 0, 0, 1) := by unfold initV; rw [if_neg (by simpa using h), if_pos h1]
theorem init_here {c : Cv} {id : ByteArray} {now : Int} {i : Nat} {x : Tv} (h : checkV c = 0) (h1 : inB now 1099511627776 = true ∧ (id.size = 0 ∨ nameC id = true)) (h2 : idAt c.L id = some i) (h3 : c.L[i]? = some x) :
    initV c id now = if x.gen = 1048576 then (noC, 0, 0, 2) else ({ c with L := c.L.set i { x with gen := x.gen + 1, st := if x.st = 1 then 3 else x.st } }, x.pid, x.gen + 1, 0) := by
  unfold initV
  rw [if_neg (by simpa using h), if_neg (fun hn => hn h1), h2]
  simp only [h3]
theorem init_new {c : Cv} {id : ByteArray} {now : Int} (h : checkV c = 0) (h1 : inB now 1099511627776 = true ∧ (id.size = 0 ∨ nameC id = true)) (h2 : idAt c.L id = none) :
    initV c id now = if c.next = 1099511627776 ∨ (0 < id.size ∧ c.L.length = 256) then (noC, 0, 0, 2) else (⟨c.next + 1, if 0 < id.size then insI ⟨id, c.next, 0, 0, 0, [], [], now⟩ c.L else c.L⟩, c.next, 0, 0) := by
  unfold initV
  rw [if_neg (by simpa using h), if_neg (fun hn => hn h1), h2]

set_option maxRecDepth 100000 in
set_option maxHeartbeats 4000000 in
theorem fail_any (c : Int) (w : World) : Calls Try.prog 41 #[.int .i64 c] w fun e w' => e = .returned (.tuple #[.agg #[.int .i64 0, .slice none 0 0], .int .i64 0, .int .i64 0, .int .i64 c]) ∧ Below w.heap.size w w' := by
  go_enter Try.func41, Try.ntmps41
  go_wp2_with fail
  have R := Has.newAt w #[.int .i64 0, .slice none 0 0] 24 (g := w.heap.size) rfl
  have G := setCells_grown w.heap.size [.int .i64 0, .slice none 0 0] 0 (w.alloc (.cells #[.int .i64 0, .slice none 0 0] 24))
  refine bodyPost_ret (v := .tuple #[.agg #[.int .i64 0, .slice none 0 0], .int .i64 0, .int .i64 0, .int .i64 c]) (results_cell_tmp3 Try.results41 (g := w.heap.size) rfl rfl rfl rfl (load24 R)) rfl ?_
  exact ⟨rfl, below_alloc1 w _⟩

theorem own_insX {w w' : World} {B : Nat} {A A' : Option Addr} {n c c' i : Nat} {l : List Tx} (h : Own txK 33 w B A n c l) (hi : i ≤ n) (x : Tx) (hx : Tx.In w' x) (hin : ∀ a ∈ l, Tx.In w' a)
    (ho : w'.ownsRow B 33 8 (.slice A' (n + 1) c') (n + 1) ((l.flatMap txK.cells).take (i * 8) ++ txK.cells x ++ (l.flatMap txK.cells).drop (i * 8))) : Own txK 33 w' B A' (n + 1) c' (l.take i ++ x :: l.drop i) := by
  have hlen := h.1
  refine ⟨?_, ?_, ?_⟩
  · rw [List.length_append, List.length_cons, List.length_take, List.length_drop]; omega
  · rw [List.flatMap_append, List.flatMap_cons, ← List.append_assoc, ← flat_take txK.cells txK.size txK.len, ← flat_drop txK.cells txK.size txK.len]
    exact ho
  · intro a ha
    rcases List.mem_append.1 ha with ha | ha
    · exact hin a (List.mem_of_mem_take ha)
    · rcases List.mem_cons.1 ha with rfl | ha
      · exact hx
      · exact hin a (List.mem_of_mem_drop ha)
theorem size_empty {s : ByteArray} : s.toList.isEmpty = decide (s.size = 0) := by
  rw [Lib.toList_data]
  cases s with
  | mk d => cases d with
    | mk l => cases l <;> rfl
set_option maxRecDepth 100000 in
set_option maxHeartbeats 16000000 in
theorem init_any (o : Tc) (id : ByteArray) (now : Int) (w : World) (ho : Tc.At w o) (hf : FewV o.val) (hs : id.size ≤ maxLen) : Calls Try.prog 13 #[o.v, .string id, .int .i64 now] w fun e w' => InRes w (initV o.val id now) e w' := by
  obtain ⟨W0, hW0⟩ : ∃ W0, W0 = (w.alloc (.cells #[.int .i64 o.next, .slice o.A o.n o.c] 24)).alloc (.cells #[.int .i64 0, .slice none 0 0] 24) := ⟨_, rfl⟩
  have B0 := Lib.hid (show Below w.heap.size w W0 from by rw [hW0]; exact (below_alloc1 w _).alloc (by simp) _)
  have S0 := Lib.hid (show Has W0 w.heap.size #[.int .i64 o.next, .slice o.A o.n o.c] from by rw [hW0]; exact (Has.newAt w _ 24 rfl).alloc _)
  have R0 := Lib.hid (show Has W0 (w.heap.size + 1) #[.int .i64 0, .slice none 0 0] from by rw [hW0]; exact Has.newAt _ _ 24 (by simp))
  have HW := Lib.hid hW0
  have HO := Lib.hid ho
  have nm := ho.few hf
  have CK := Lib.hid (fun W (h : Below w.heap.size w W) => check_any o W (ho.below h) nm.1 nm.2)
  have FA := Lib.hid fail_any
  have NMI := Lib.hid (fun W => name_any id W hs)
  have HS := Lib.hid hs
  have NN := Lib.hid nm.1
  have LN := Lib.hid ho.num
  clear ho hW0 hf nm hs
  have s0c := S0.out.cell
  have s0l := S0.out.lt
  by_cases hk : checkV o.val = 0
  · have HK := Lib.hid hk
    have FN := Lib.hid (chk_iff.1 hk)
    rw [hk] at CK
    clear hk
    obtain ⟨a, ha⟩ : ∃ a, inB now 1099511627776 = a := ⟨_, rfl⟩
    have HNW := Lib.hid (show anyOut 1099511627776 [now] = !a from by rw [anyOut_one, ha])
    have SR := Lib.hid (fun W (h : Below w.heap.size w W) => searchX o.A o.n o.c o.L id W 45 #[] (fun x => cmpS x.id id) (Sl.below HO.out h) (by have := NN.out; omega) (enters_of Try.func45 (by kernel_rfl) rfl) (srch_mono FN.out.up) (fun x _ W _ => byid_any x id W))
    cases a with
    | false =>
      have BAD := Lib.hid (init_bad (id := id) HK.out (fun h => by rw [ha] at h; cases h.1))
      clear ha
      go_enter Try.func13, Try.ntmps13
      go_upto_region 6 with (first
        | (go_at_call 42; refine (beyond_any 1099511627776 _ 1 1 [now] _ (num_row (Has.newAt w1 #[.int .i64 now] 3 rfl) rfl (by omega)) Nat.one_pos).mono ?_; rintro e w' ⟨rfl, rfl⟩; rw [HNW.out]; have hb2 := below_alloc1 w1 (.cells #[.int .i64 now] 3); have B2 := Lib.hid (below_from hb2 B1.out B1.out.size); have S2 := Lib.hid (S1.out.past hb2); have R2 := Lib.hid (R1.out.past hb2); clear hb2)
        | (go_at_call 18; rw [← HW.out]; refine (CK.out _ B0.out).mono ?_; rintro e w1 ⟨rfl, hb1⟩; have B1 := Lib.hid (below_from hb1 B0.out B0.out.size); have S1 := Lib.hid (S0.out.past hb1); have R1 := Lib.hid (R0.out.past hb1); clear hb1 s0c s0l))
      go_wp2_with (refine (FA.out 1 _).mono ?_; rintro e w3 ⟨rfl, hb3⟩; have B3 := Lib.hid (below_from hb3 B2.out B2.out.size); have S3 := Lib.hid (S2.out.past hb3); have R3 := Lib.hid (R2.out.past hb3); have r3c := R3.out.cell; have r3f := R3.out.free; have r3l := R3.out.lt; clear hb3)
      have G := setCells_grown (w.heap.size + 1) [.int .i64 0, .slice none 0 0] 0 w3
      refine bodyPost_ret (v := .tuple #[noO.v, .int .i64 0, .int .i64 0, .int .i64 1]) (results_cell_tmp3 Try.results13 (g := w.heap.size + 1) rfl rfl rfl rfl (load24 (R3.out.set [.int .i64 0, .slice none 0 0] rfl))) rfl ?_
      exact InRes.no (BAD.out) (B3.out.trans (grown_below G B3.out.size (fun k hk => by injection hk with hk; omega)))
    | true =>
      have HA := Lib.hid ha
      clear ha
      by_cases hz : id.size = 0
      · have d3 : id.toList.isEmpty = true := by rw [size_empty]; exact decide_eq_true hz
        have SZ := Lib.hid hz
        have GOOD := Lib.hid (show inB now 1099511627776 = true ∧ (id.size = 0 ∨ nameC id = true) from ⟨HA.out, .inl hz⟩)
        clear hz
        go_enter Try.func13, Try.ntmps13
        go_upto_region 7 with (first
          | (go_at_call 42; refine (beyond_any 1099511627776 _ 1 1 [now] _ (num_row (Has.newAt w1 #[.int .i64 now] 3 rfl) rfl (by omega)) Nat.one_pos).mono ?_; rintro e w' ⟨rfl, rfl⟩; rw [HNW.out]; have hb2 := below_alloc1 w1 (.cells #[.int .i64 now] 3); have B2 := Lib.hid (below_from hb2 B1.out B1.out.size); have S2 := Lib.hid (S1.out.past hb2); have R2 := Lib.hid (R1.out.past hb2); clear hb2)
          | (go_at_call 18; rw [← HW.out]; refine (CK.out _ B0.out).mono ?_; rintro e w1 ⟨rfl, hb1⟩; have B1 := Lib.hid (below_from hb1 B0.out B0.out.size); have S1 := Lib.hid (S0.out.past hb1); have R1 := Lib.hid (R0.out.past hb1); clear hb1 s0c s0l))
        have s2c := S2.out.cell
        have s2l := S2.out.lt
        go_upto_region 8 with (go_at_call 44; refine (SR.out _ B2.out).mono ?_; rintro e w3 ⟨i, b, rfl, hS, hb3⟩; have B3 := Lib.hid (below_from hb3 B2.out B2.out.size); have S3 := Lib.hid (S2.out.past hb3); have R3 := Lib.hid (R2.out.past hb3); have HQ := Lib.hid (show SrchG (fun v : Tv => cmpS v.id id) o.val.L i b from srch_val hS); clear hb3 hS)
        clear s2c s2l
        cases b with
        | true =>
          obtain ⟨hi, he⟩ := HQ.out.2.2.2.1 rfl
          have h1 := (FN.out.ok (List.getElem_mem hi)).id
          have h2 : (o.val.L[i]).id = id := cmpS_eq.1 he
          rw [h2] at h1
          unfold nameC at h1
          simp only [Bool.and_eq_true, decide_eq_true_eq] at h1
          have := SZ.out
          omega
        | false =>
          have HI := Lib.hid (srch_no FN.out.up HQ.out)
          have INW := Lib.hid (init_new (now := now) HK.out GOOD.out HI.out)
          have s3c := S3.out.cell
          have s3l := S3.out.lt
          have nx0 := FN.out.next
          by_cases hm : o.next = 1099511627776
          · have d5 : (o.next == 1099511627776) = true := by rw [beq_iff_eq]; exact hm
            have R9 := Lib.hid (show initV o.val id now = (noC, 0, 0, 2) from by rw [INW.out, if_pos (.inl hm)])
            clear hm nx0
            go_wp2_with (refine (FA.out 2 _).mono ?_; rintro e w4 ⟨rfl, hb4⟩; have B4 := Lib.hid (below_from hb4 B3.out B3.out.size); have S4 := Lib.hid (S3.out.past hb4); have R4 := Lib.hid (R3.out.past hb4); have r4c := R4.out.cell; have r4f := R4.out.free; have r4l := R4.out.lt; clear hb4)
            have G := setCells_grown (w.heap.size + 1) [.int .i64 0, .slice none 0 0] 0 w4
            refine bodyPost_ret (v := .tuple #[noO.v, .int .i64 0, .int .i64 0, .int .i64 2]) (results_cell_tmp3 Try.results13 (g := w.heap.size + 1) rfl rfl rfl rfl (load24 (R4.out.set [.int .i64 0, .slice none 0 0] rfl))) rfl ?_
            exact InRes.no (R9.out) (B4.out.trans (grown_below G B4.out.size (fun k hk => by injection hk with hk; omega)))
          · have d5 : (o.next == 1099511627776) = false := by rw [beq_eq_false_iff_ne]; exact hm
            have HM := Lib.hid hm
            have R9 := Lib.hid (show initV o.val id now = (⟨o.next + 1, o.val.L⟩, o.next, 0, 0) from by
              rw [INW.out, if_neg, if_neg (by have := SZ.out; omega)]
              · rfl
              · rintro (h | ⟨h, _⟩)
                · exact HM.out h
                · have := SZ.out; omega)
            clear hm
            have wr1 : IntKind.i64.wrap (o.next + 1) = o.next + 1 := IntWalk.i64_in _ (by have h1 : 0 ≤ o.next := nx0.1; have h2 : o.next ≤ 1099511627776 := nx0.2; omega)
            clear nx0
            have r3c := R3.out.cell
            have r3f := R3.out.free
            have r3l := R3.out.lt
            go_upto_region 19 with (fail)
            have G := setCells_grown (w.heap.size + 1) [.int .i64 (o.next + 1), .slice o.A o.n o.c] 0 w3
            obtain ⟨w4, hw4⟩ : ∃ W, W = w3.setCells (w.heap.size + 1) 0 [.int .i64 (o.next + 1), .slice o.A o.n o.c] := ⟨_, rfl⟩
            rw [← hw4] at G
            have B4 := Lib.hid (B3.out.trans (grown_below G B3.out.size (fun k hk => by injection hk with hk; omega)))
            have S4 := Lib.hid (S3.out.grown G (by omega))
            have R4 := Lib.hid (show Has w4 (w.heap.size + 1) #[.int .i64 (o.next + 1), .slice o.A o.n o.c] from by rw [hw4]; exact R3.out.set [.int .i64 (o.next + 1), .slice o.A o.n o.c] rfl)
            rw [show (w3.setCell ⟨w.heap.size + 1, 0, none⟩ (.int .i64 (o.next + 1))).setCell ⟨w.heap.size + 1, 1, none⟩ (.slice o.A o.n o.c) = w4 from hw4.symm]
            clear hw4 G wr1 s3c s3l r3c r3f r3l
            go_upto_region 21 with (fail)
            refine region_tr (fun w' => w'.cell? ⟨w.heap.size, 0, none⟩ = some (.int .i64 o.next) ∧ w'.cell? ⟨w.heap.size + 1, 0, none⟩ = some (.int .i64 (o.next + 1)) ∧ w'.cell? ⟨w.heap.size + 1, 1, none⟩ = some (.slice o.A o.n o.c)) 5 (.take 0 (.take 1 (.take 2 (.op 3 (.op 4 .tail))))) (by kernel_rfl) (by kernel_rfl) ⟨S4.out.drew.cell 0, R4.out.drew.cell 0, R4.out.drew.cell 1⟩ (fun hHeld => ?_)
            iterate 3
              refine tr_take (v := ?_) (by simp only [List.getElem?_toArray, List.getElem?_cons_succ, List.getElem?_cons_zero]; rfl) (Or.inl ⟨by rfl, ?_⟩) ?_
              rotate_left 1
              · intro w hSw
                try dsimp only at hSw
                go_simp
                try with_reducible rfl
              try simp only [Act.put, List.setIfInBounds_toArray, List.set_cons_zero, List.set_cons_succ]
            obtain ⟨wd, hwd⟩ : ∃ W, W = w4.drew := ⟨_, rfl⟩
            have RD := Lib.hid (show Has wd (w.heap.size + 1) #[.int .i64 (o.next + 1), .slice o.A o.n o.c] from by rw [hwd]; exact R4.out.drew)
            have SD := Lib.hid (show Has wd w.heap.size #[.int .i64 o.next, .slice o.A o.n o.c] from by rw [hwd]; exact S4.out.drew)
            have BD := Lib.hid (show Below w.heap.size w wd from by rw [hwd]; exact B4.out.drew)
            have DD := Lib.hid (show Below w4.heap.size w4 wd from by rw [hwd]; exact (Below.refl _ w4).drew)
            rw [← hwd]
            clear hwd
            have rdc := RD.out.cell
            have rdf := RD.out.free
            have rdl := RD.out.lt
            refine tr_op (by simp only [List.getElem?_toArray, List.getElem?_cons_succ, List.getElem?_cons_zero]; rfl) (fun K hK => ?_)
            go_wp2_with fail
            clear hHeld
            have G := setCells_grown (w.heap.size + 1) [.int .i64 (o.next + 1), .slice o.A o.n o.c] 0 wd
            have RS := Lib.hid (RD.out.set [.int .i64 (o.next + 1), .slice o.A o.n o.c] rfl)
            have BB := Lib.hid (BD.out.trans (grown_below G BD.out.size (fun k hk => by injection hk with hk; omega)))

            have QS := Lib.hid (Sl.below HO.out BB.out)
            obtain ⟨wz, hwz⟩ : ∃ W, W = wd.setCells (w.heap.size + 1) 0 [.int .i64 (o.next + 1), .slice o.A o.n o.c] := ⟨_, rfl⟩
            have SZ9 := Lib.hid (SD.out.grown G (by omega))
            rw [← hwz] at RS BB QS SZ9
            rw [show ((wd.setCell ⟨w.heap.size + 1, 0, none⟩ (.int .i64 (o.next + 1))).setCell ⟨w.heap.size + 1, 1, none⟩ (.slice o.A o.n o.c)) = wz from hwz.symm]
            clear hwz G rdc rdf rdl
            refine hK.out _ _ ⟨SZ9.out.cell 0, RS.out.cell 0, RS.out.cell 1⟩ (fun hHeld => ?_)
            clear hK K
            try simp only [Act.put, List.setIfInBounds_toArray, List.set_cons_zero, List.set_cons_succ]
            refine tr_op (by simp only [List.getElem?_toArray, List.getElem?_cons_succ, List.getElem?_cons_zero]; rfl) (fun K hK => ?_)
            go_wp2_with fail
            clear hHeld

            refine hK.out _ _ ⟨SZ9.out.cell 0, RS.out.cell 0, RS.out.cell 1⟩ (fun hHeld => ?_)
            clear hK K
            try simp only [Act.put, List.setIfInBounds_toArray, List.set_cons_zero, List.set_cons_succ]
            refine tr_tail rfl ?_
            clear hHeld
            go_wp2_with fail
            refine bodyPost_ret (v := .tuple #[.agg #[.int .i64 (o.next + 1), .slice o.A o.n o.c], .int .i64 o.next, .int .i64 0, .int .i64 0]) (results_cell_tmp3 Try.results13 (g := w.heap.size + 1) rfl rfl rfl rfl (load24 RS.out)) rfl ?_
            exact InRes.of (q := ⟨o.next + 1, o.A, o.n, o.c, o.L⟩) R9.out ⟨QS.out, rfl⟩ BB.out
      · have d3 : id.toList.isEmpty = false := by rw [size_empty]; exact decide_eq_false hz
        have SZ := Lib.hid (show 0 < id.size from by omega)
        cases hn : nameC id with
        | false =>
          have HN := Lib.hid hn
          have BAD := Lib.hid (init_bad (now := now) HK.out (fun h => h.2.elim hz (fun h => by rw [hn] at h; cases h)))
          clear hn hz
          go_enter Try.func13, Try.ntmps13
          go_upto_region 6 with (first
            | (go_at_call 42; refine (beyond_any 1099511627776 _ 1 1 [now] _ (num_row (Has.newAt w1 #[.int .i64 now] 3 rfl) rfl (by omega)) Nat.one_pos).mono ?_; rintro e w' ⟨rfl, rfl⟩; rw [HNW.out]; have hb2 := below_alloc1 w1 (.cells #[.int .i64 now] 3); have B2 := Lib.hid (below_from hb2 B1.out B1.out.size); have S2 := Lib.hid (S1.out.past hb2); have R2 := Lib.hid (R1.out.past hb2); clear hb2)
            | (go_at_call 43; refine (NMI.out _).mono ?_; rintro e w3 ⟨rfl, hb3⟩; rw [HN.out]; have B3 := Lib.hid (below_from hb3 B2.out B2.out.size); have S3 := Lib.hid (S2.out.past hb3); have R3 := Lib.hid (R2.out.past hb3); clear hb3)
            | (go_at_call 18; rw [← HW.out]; refine (CK.out _ B0.out).mono ?_; rintro e w1 ⟨rfl, hb1⟩; have B1 := Lib.hid (below_from hb1 B0.out B0.out.size); have S1 := Lib.hid (S0.out.past hb1); have R1 := Lib.hid (R0.out.past hb1); clear hb1 s0c s0l))
          go_wp2_with (refine (FA.out 1 _).mono ?_; rintro e w4 ⟨rfl, hb4⟩; have B4 := Lib.hid (below_from hb4 B3.out B3.out.size); have S4 := Lib.hid (S3.out.past hb4); have R4 := Lib.hid (R3.out.past hb4); have r4c := R4.out.cell; have r4f := R4.out.free; have r4l := R4.out.lt; clear hb4)
          have G := setCells_grown (w.heap.size + 1) [.int .i64 0, .slice none 0 0] 0 w4
          refine bodyPost_ret (v := .tuple #[noO.v, .int .i64 0, .int .i64 0, .int .i64 1]) (results_cell_tmp3 Try.results13 (g := w.heap.size + 1) rfl rfl rfl rfl (load24 (R4.out.set [.int .i64 0, .slice none 0 0] rfl))) rfl ?_
          exact InRes.no (BAD.out) (B4.out.trans (grown_below G B4.out.size (fun k hk => by injection hk with hk; omega)))
        | true =>
          have HN := Lib.hid hn
          have GOOD := Lib.hid (show inB now 1099511627776 = true ∧ (id.size = 0 ∨ nameC id = true) from ⟨HA.out, .inr hn⟩)
          clear hn hz
          go_enter Try.func13, Try.ntmps13
          go_upto_region 7 with (first
            | (go_at_call 42; refine (beyond_any 1099511627776 _ 1 1 [now] _ (num_row (Has.newAt w1 #[.int .i64 now] 3 rfl) rfl (by omega)) Nat.one_pos).mono ?_; rintro e w' ⟨rfl, rfl⟩; rw [HNW.out]; have hb2 := below_alloc1 w1 (.cells #[.int .i64 now] 3); have B2 := Lib.hid (below_from hb2 B1.out B1.out.size); have S2 := Lib.hid (S1.out.past hb2); have R2 := Lib.hid (R1.out.past hb2); clear hb2)
            | (go_at_call 43; refine (NMI.out _).mono ?_; rintro e w3 ⟨rfl, hb3⟩; rw [HN.out]; have B3 := Lib.hid (below_from hb3 B2.out B2.out.size); have S3 := Lib.hid (S2.out.past hb3); have R3 := Lib.hid (R2.out.past hb3); clear hb3)
            | (go_at_call 18; rw [← HW.out]; refine (CK.out _ B0.out).mono ?_; rintro e w1 ⟨rfl, hb1⟩; have B1 := Lib.hid (below_from hb1 B0.out B0.out.size); have S1 := Lib.hid (S0.out.past hb1); have R1 := Lib.hid (R0.out.past hb1); clear hb1 s0c s0l))
          have s3c := S3.out.cell
          have s3l := S3.out.lt
          go_upto_region 8 with (go_at_call 44; refine (SR.out _ B3.out).mono ?_; rintro e w4 ⟨i, b, rfl, hS, hb4⟩; have B4 := Lib.hid (below_from hb4 B3.out B3.out.size); have S4 := Lib.hid (S3.out.past hb4); have R4 := Lib.hid (R3.out.past hb4); have HQ := Lib.hid (show SrchG (fun v : Tv => cmpS v.id id) o.val.L i b from srch_val hS); clear hb4 hS)
          clear s3c s3l
          cases b with
          | true =>
            have HI := Lib.hid (srch_yes HQ.out)
            have hil := (HQ.out.2.2.2.1 rfl).1
            have hin : i < o.n := by rw [← LN.out]; exact hil
            obtain ⟨b, off, hl, hA, hbl, u0, u1, u2, u3, u4, u5, u6, u7⟩ := tx_at (Sl.below HO.out B4.out) hin
            obtain ⟨x, hx⟩ : ∃ x, o.L[i] = x := ⟨_, rfl⟩
            have HX := Lib.hid (show Tx.In w x from by rw [← hx]; exact Sl.each HO.out _ (List.getElem_mem hl))
            have HV := Lib.hid (show o.val.L[i]? = some x.val from by show (o.L.map Tx.val)[i]? = _; rw [List.getElem?_map, List.getElem?_eq_getElem hl, hx]; rfl)
            have HM := Lib.hid (show x.val ∈ o.val.L from List.mem_of_getElem? HV.out)
            have HIN := Lib.hid hin
            have INW := Lib.hid (init_here (now := now) HK.out GOOD.out HI.out HV.out)
            have gx : 0 ≤ x.gen ∧ x.gen ≤ 1048576 := (FN.out.ok HM.out).gen
            rw [hx] at u0 u1 u2 u3 u4 u5 u6 u7
            have q0 : (0 : Int) ≤ (i : Int) := by omega
            have q1 : (i : Int) < (o.n : Int) := by omega
            clear hx hl hil hin
            have s4c := S4.out.cell
            have s4l := S4.out.lt
            obtain ⟨CA, hCA⟩ : ∃ A, o.A = A := ⟨_, rfl⟩
            have HCA := Lib.hid hCA
            rw [hA] at s4c
            clear hCA hA
            go_upto_region 10 with (fail)
            obtain ⟨w5, hw5⟩ : ∃ W, W = w4.alloc (.cells #[.string x.id, .int .i64 x.pid, .int .i64 x.gen, .int .i64 x.no, .int .i64 x.st, .slice x.PA x.Pn x.Pc, .slice x.GA x.Gn x.Gc, .int .i64 x.at_] 33) := ⟨_, rfl⟩
            have hb5 : Below w4.heap.size w4 w5 := by rw [hw5]; exact below_alloc1 w4 _
            have X5 := Lib.hid (show Has w5 w4.heap.size #[.string x.id, .int .i64 x.pid, .int .i64 x.gen, .int .i64 x.no, .int .i64 x.st, .slice x.PA x.Pn x.Pc, .slice x.GA x.Gn x.Gc, .int .i64 x.at_] from by rw [hw5]; exact Has.newAt w4 _ 33 rfl)
            have B5 := Lib.hid (below_from hb5 B4.out B4.out.size)
            have S5 := Lib.hid (S4.out.past hb5)
            have R5 := Lib.hid (R4.out.past hb5)
            have GE := Lib.hid (show w.heap.size + 1 < w4.heap.size from R4.out.lt)
            rw [← hw5]
            clear hw5 hb5 s4c s4l u0 u1 u2 u3 u4 u5 u6 u7 q0 q1
            have x5c := X5.out.cell
            have x5f := X5.out.free
            have x5l := X5.out.lt
            by_cases hm : x.gen = 1048576
            · have d5 : (x.gen == 1048576) = true := by rw [beq_iff_eq]; exact hm
              have R9 := Lib.hid (show initV o.val id now = (noC, 0, 0, 2) from INW.out.trans (if_pos hm))
              clear hm gx
              go_wp2_with (refine (FA.out 2 _).mono ?_; rintro e w6 ⟨rfl, hb6⟩; have B6 := Lib.hid (below_from hb6 B5.out B5.out.size); have S6 := Lib.hid (S5.out.past hb6); have R6 := Lib.hid (R5.out.past hb6); have r6c := R6.out.cell; have r6f := R6.out.free; have r6l := R6.out.lt; clear hb6)
              have G := setCells_grown (w.heap.size + 1) [.int .i64 0, .slice none 0 0] 0 w6
              refine bodyPost_ret (v := .tuple #[noO.v, .int .i64 0, .int .i64 0, .int .i64 2]) (results_cell_tmp3 Try.results13 (g := w.heap.size + 1) rfl rfl rfl rfl (load24 (R6.out.set [.int .i64 0, .slice none 0 0] rfl))) rfl ?_
              exact InRes.no (R9.out) (B6.out.trans (grown_below G B6.out.size (fun k hk => by injection hk with hk; omega)))
            · have d5 : (x.gen == 1048576) = false := by rw [beq_eq_false_iff_ne]; exact hm
              have wr1 : IntKind.i64.wrap (x.gen + 1) = x.gen + 1 := IntWalk.i64_in _ (by omega)
              have R9 := Lib.hid (show initV o.val id now = ({ o.val with L := o.val.L.set i { x.val with gen := x.gen + 1, st := if x.st = 1 then 3 else x.st } }, x.pid, x.gen + 1, 0) from INW.out.trans (if_neg hm))
              clear hm gx
              by_cases h1 : x.st = 1
              · have d6 : (x.st == 1) = true := by rw [beq_iff_eq]; exact h1
                obtain ⟨y, hy⟩ : ∃ y : Tx, y = { x with gen := x.gen + 1, st := 3 } := ⟨_, rfl⟩
                have R8 := Lib.hid (show initV o.val id now = ({ o.val with L := o.val.L.set i y.val }, y.pid, y.gen, 0) from by rw [R9.out, if_pos h1, hy]; rfl)
                have YI := Lib.hid (show Tx.In w y from by rw [hy]; exact ⟨HX.out.id, HX.out.p, HX.out.g⟩)
                clear h1
                go_upto_region 15 with (fail)
                have G : w5.grownBy ((w5.setCell ⟨w4.heap.size, 2, none⟩ (.int .i64 (x.gen + 1))).setCell ⟨w4.heap.size, 4, none⟩ (.int .i64 3)) (some w4.heap.size) := grown_trans (setCells_grown w4.heap.size [.int .i64 (x.gen + 1)] 2 (w5)) (setCells_grown w4.heap.size [.int .i64 3] 4 ((w5.setCell ⟨w4.heap.size, 2, none⟩ (.int .i64 (x.gen + 1)))))
                have Y6 : Has ((w5.setCell ⟨w4.heap.size, 2, none⟩ (.int .i64 (x.gen + 1))).setCell ⟨w4.heap.size, 4, none⟩ (.int .i64 3)) w4.heap.size #[.string y.id, .int .i64 y.pid, .int .i64 y.gen, .int .i64 y.no, .int .i64 y.st, .slice y.PA y.Pn y.Pc, .slice y.GA y.Gn y.Gc, .int .i64 y.at_] := by
                  have := (X5.out.setAt 2 (.int .i64 (x.gen + 1)) (by simp)).setAt 4 (.int .i64 3) (by simp)
                  rw [hy]
                  simpa using this
                obtain ⟨w6, hw6⟩ : ∃ W, W = ((w5.setCell ⟨w4.heap.size, 2, none⟩ (.int .i64 (x.gen + 1))).setCell ⟨w4.heap.size, 4, none⟩ (.int .i64 3)) := ⟨_, rfl⟩
                rw [← hw6] at G Y6
                rw [← hw6]
                have B6 := Lib.hid (B5.out.trans (grown_below G B5.out.size (fun k hk => by injection hk with hk; have := GE.out; omega)))
                have S6 := Lib.hid (S5.out.grown G (by have := GE.out; omega))
                have R6 := Lib.hid (R5.out.grown G (by have := GE.out; omega))
                have YY6 := Lib.hid Y6
                have D1 := Lib.hid (show Below w6.heap.size w6 w6.drew from (Below.refl _ w6).drew)
                have PU := Lib.hid (fun W (h : Below w6.heap.size w6 W) => put_any o i y W (HO.out.below (B6.out.trans (h.mono B6.out.size))) (YI.out.past (B6.out.trans (h.mono B6.out.size))) HIN.out NN.out)
                clear hw6 G Y6 hy x5c x5f x5l wr1 d5 d6
                refine region_tr (fun w' => w'.cell? ⟨w.heap.size, 0, none⟩ = some (.int .i64 o.next) ∧ w'.cell? ⟨w.heap.size, 1, none⟩ = some (.slice o.A o.n o.c) ∧ w'.cell? ⟨w4.heap.size, 0, none⟩ = some (.string y.id) ∧ w'.cell? ⟨w4.heap.size, 1, none⟩ = some (.int .i64 y.pid) ∧ w'.cell? ⟨w4.heap.size, 2, none⟩ = some (.int .i64 y.gen) ∧ w'.cell? ⟨w4.heap.size, 3, none⟩ = some (.int .i64 y.no) ∧ w'.cell? ⟨w4.heap.size, 4, none⟩ = some (.int .i64 y.st) ∧ w'.cell? ⟨w4.heap.size, 5, none⟩ = some (.slice y.PA y.Pn y.Pc) ∧ w'.cell? ⟨w4.heap.size, 6, none⟩ = some (.slice y.GA y.Gn y.Gc) ∧ w'.cell? ⟨w4.heap.size, 7, none⟩ = some (.int .i64 y.at_)) 10 (.take 0 (.take 1 (.take 2 (.take 4 (.take 5 (.take 6 (.take 7 (.op 3 (.op 8 (.op 9 .tail)))))))))) (by kernel_rfl) (by kernel_rfl) ⟨(S6.out.past D1.out).cell 0, (S6.out.past D1.out).cell 1, (YY6.out.past D1.out).cell 0, (YY6.out.past D1.out).cell 1, (YY6.out.past D1.out).cell 2, (YY6.out.past D1.out).cell 3, (YY6.out.past D1.out).cell 4, (YY6.out.past D1.out).cell 5, (YY6.out.past D1.out).cell 6, (YY6.out.past D1.out).cell 7⟩ (fun hHeld => ?_)
                iterate 7
                  refine tr_take (v := ?_) (by simp only [List.getElem?_toArray, List.getElem?_cons_succ, List.getElem?_cons_zero]; rfl) (Or.inl ⟨by rfl, ?_⟩) ?_
                  rotate_left 1
                  · intro w hSw
                    try dsimp only at hSw
                    go_simp
                    try with_reducible rfl
                  try simp only [Act.put, List.setIfInBounds_toArray, List.set_cons_zero, List.set_cons_succ]
                refine tr_op (by simp only [List.getElem?_toArray, List.getElem?_cons_succ, List.getElem?_cons_zero]; rfl) (fun K hK => ?_)
                go_wp2_with (go_at_call 46; refine (PU.out _ D1.out).mono ?_; rintro e w9 ⟨q, rfl, hq, hb9⟩)
                clear hHeld
                have F9 := Lib.hid (below_from hb9 D1.out D1.out.size)
                have HQQ := Lib.hid hq
                have R9_ := Lib.hid (R6.out.past F9.out)
                have B9 := Lib.hid (below_from F9.out B6.out B6.out.size)
                have r9c := R9_.out.cell
                have r9f := R9_.out.free
                have r9l := R9_.out.lt
                clear hb9 hq
                refine hK.out _ _ ⟨(S6.out.past F9.out).cell 0, (S6.out.past F9.out).cell 1, (YY6.out.past F9.out).cell 0, (YY6.out.past F9.out).cell 1, (YY6.out.past F9.out).cell 2, (YY6.out.past F9.out).cell 3, (YY6.out.past F9.out).cell 4, (YY6.out.past F9.out).cell 5, (YY6.out.past F9.out).cell 6, (YY6.out.past F9.out).cell 7⟩ (fun hHeld => ?_)
                clear hK K
                try simp only [Act.put, List.setIfInBounds_toArray, List.set_cons_zero, List.set_cons_succ]
                refine tr_op (by simp only [List.getElem?_toArray, List.getElem?_cons_succ, List.getElem?_cons_zero]; rfl) (fun K hK => ?_)
                go_wp2_with fail
                clear hHeld
                have G := setCells_grown (w.heap.size + 1) [.int .i64 q.next, .slice q.A q.n q.c] 0 w9
                have RS := Lib.hid (R9_.out.set [.int .i64 q.next, .slice q.A q.n q.c] rfl)
                have BB := Lib.hid (B9.out.trans (grown_below G B9.out.size (fun k hk => by injection hk with hk; omega)))
                have QS := Lib.hid (HQQ.out.beside R9_.out (tc_texts _ _ _ _) G)
                have SZ9 := Lib.hid ((S6.out.past F9.out).grown G (by omega))
                have YZ9 := Lib.hid ((YY6.out.past F9.out).grown G (by have := GE.out; omega))
                obtain ⟨wz, hwz⟩ : ∃ W, W = w9.setCells (w.heap.size + 1) 0 [.int .i64 q.next, .slice q.A q.n q.c] := ⟨_, rfl⟩
                rw [← hwz] at RS BB QS SZ9 YZ9
                rw [show (w9.setCell ⟨w.heap.size + 1, 0, none⟩ (.int .i64 q.next)).setCell ⟨w.heap.size + 1, 1, none⟩ (.slice q.A q.n q.c) = wz from hwz.symm]
                clear hwz G r9c r9f r9l
                refine hK.out _ _ ⟨SZ9.out.cell 0, SZ9.out.cell 1, YZ9.out.cell 0, YZ9.out.cell 1, YZ9.out.cell 2, YZ9.out.cell 3, YZ9.out.cell 4, YZ9.out.cell 5, YZ9.out.cell 6, YZ9.out.cell 7⟩ (fun hHeld => ?_)
                clear hK K
                try simp only [Act.put, List.setIfInBounds_toArray, List.set_cons_zero, List.set_cons_succ]
                refine tr_op (by simp only [List.getElem?_toArray, List.getElem?_cons_succ, List.getElem?_cons_zero]; rfl) (fun K hK => ?_)
                go_wp2_with fail
                clear hHeld

                refine hK.out _ _ ⟨SZ9.out.cell 0, SZ9.out.cell 1, YZ9.out.cell 0, YZ9.out.cell 1, YZ9.out.cell 2, YZ9.out.cell 3, YZ9.out.cell 4, YZ9.out.cell 5, YZ9.out.cell 6, YZ9.out.cell 7⟩ (fun hHeld => ?_)
                clear hK K
                try simp only [Act.put, List.setIfInBounds_toArray, List.set_cons_zero, List.set_cons_succ]
                refine tr_tail rfl ?_
                clear hHeld
                go_wp2_with fail
                refine bodyPost_ret (v := .tuple #[q.v, .int .i64 y.pid, .int .i64 y.gen, .int .i64 0]) (results_cell_tmp3 Try.results13 (g := w.heap.size + 1) rfl rfl rfl rfl (load24 RS.out)) rfl ?_
                exact InRes.of R8.out QS.out BB.out
              · have d6 : (x.st == 1) = false := by rw [beq_eq_false_iff_ne]; exact h1
                obtain ⟨y, hy⟩ : ∃ y : Tx, y = { x with gen := x.gen + 1, st := x.st } := ⟨_, rfl⟩
                have R8 := Lib.hid (show initV o.val id now = ({ o.val with L := o.val.L.set i y.val }, y.pid, y.gen, 0) from by rw [R9.out, if_neg h1, hy]; rfl)
                have YI := Lib.hid (show Tx.In w y from by rw [hy]; exact ⟨HX.out.id, HX.out.p, HX.out.g⟩)
                clear h1
                go_upto_region 15 with (fail)
                have G : w5.grownBy (w5.setCell ⟨w4.heap.size, 2, none⟩ (.int .i64 (x.gen + 1))) (some w4.heap.size) := setCells_grown w4.heap.size [.int .i64 (x.gen + 1)] 2 (w5)
                have Y6 : Has (w5.setCell ⟨w4.heap.size, 2, none⟩ (.int .i64 (x.gen + 1))) w4.heap.size #[.string y.id, .int .i64 y.pid, .int .i64 y.gen, .int .i64 y.no, .int .i64 y.st, .slice y.PA y.Pn y.Pc, .slice y.GA y.Gn y.Gc, .int .i64 y.at_] := by
                  have := X5.out.setAt 2 (.int .i64 (x.gen + 1)) (by simp)
                  rw [hy]
                  simpa using this
                obtain ⟨w6, hw6⟩ : ∃ W, W = (w5.setCell ⟨w4.heap.size, 2, none⟩ (.int .i64 (x.gen + 1))) := ⟨_, rfl⟩
                rw [← hw6] at G Y6
                rw [← hw6]
                have B6 := Lib.hid (B5.out.trans (grown_below G B5.out.size (fun k hk => by injection hk with hk; have := GE.out; omega)))
                have S6 := Lib.hid (S5.out.grown G (by have := GE.out; omega))
                have R6 := Lib.hid (R5.out.grown G (by have := GE.out; omega))
                have YY6 := Lib.hid Y6
                have D1 := Lib.hid (show Below w6.heap.size w6 w6.drew from (Below.refl _ w6).drew)
                have PU := Lib.hid (fun W (h : Below w6.heap.size w6 W) => put_any o i y W (HO.out.below (B6.out.trans (h.mono B6.out.size))) (YI.out.past (B6.out.trans (h.mono B6.out.size))) HIN.out NN.out)
                clear hw6 G Y6 hy x5c x5f x5l wr1 d5 d6
                refine region_tr (fun w' => w'.cell? ⟨w.heap.size, 0, none⟩ = some (.int .i64 o.next) ∧ w'.cell? ⟨w.heap.size, 1, none⟩ = some (.slice o.A o.n o.c) ∧ w'.cell? ⟨w4.heap.size, 0, none⟩ = some (.string y.id) ∧ w'.cell? ⟨w4.heap.size, 1, none⟩ = some (.int .i64 y.pid) ∧ w'.cell? ⟨w4.heap.size, 2, none⟩ = some (.int .i64 y.gen) ∧ w'.cell? ⟨w4.heap.size, 3, none⟩ = some (.int .i64 y.no) ∧ w'.cell? ⟨w4.heap.size, 4, none⟩ = some (.int .i64 y.st) ∧ w'.cell? ⟨w4.heap.size, 5, none⟩ = some (.slice y.PA y.Pn y.Pc) ∧ w'.cell? ⟨w4.heap.size, 6, none⟩ = some (.slice y.GA y.Gn y.Gc) ∧ w'.cell? ⟨w4.heap.size, 7, none⟩ = some (.int .i64 y.at_)) 10 (.take 0 (.take 1 (.take 2 (.take 4 (.take 5 (.take 6 (.take 7 (.op 3 (.op 8 (.op 9 .tail)))))))))) (by kernel_rfl) (by kernel_rfl) ⟨(S6.out.past D1.out).cell 0, (S6.out.past D1.out).cell 1, (YY6.out.past D1.out).cell 0, (YY6.out.past D1.out).cell 1, (YY6.out.past D1.out).cell 2, (YY6.out.past D1.out).cell 3, (YY6.out.past D1.out).cell 4, (YY6.out.past D1.out).cell 5, (YY6.out.past D1.out).cell 6, (YY6.out.past D1.out).cell 7⟩ (fun hHeld => ?_)
                iterate 7
                  refine tr_take (v := ?_) (by simp only [List.getElem?_toArray, List.getElem?_cons_succ, List.getElem?_cons_zero]; rfl) (Or.inl ⟨by rfl, ?_⟩) ?_
                  rotate_left 1
                  · intro w hSw
                    try dsimp only at hSw
                    go_simp
                    try with_reducible rfl
                  try simp only [Act.put, List.setIfInBounds_toArray, List.set_cons_zero, List.set_cons_succ]
                refine tr_op (by simp only [List.getElem?_toArray, List.getElem?_cons_succ, List.getElem?_cons_zero]; rfl) (fun K hK => ?_)
                go_wp2_with (go_at_call 46; refine (PU.out _ D1.out).mono ?_; rintro e w9 ⟨q, rfl, hq, hb9⟩)
                clear hHeld
                have F9 := Lib.hid (below_from hb9 D1.out D1.out.size)
                have HQQ := Lib.hid hq
                have R9_ := Lib.hid (R6.out.past F9.out)
                have B9 := Lib.hid (below_from F9.out B6.out B6.out.size)
                have r9c := R9_.out.cell
                have r9f := R9_.out.free
                have r9l := R9_.out.lt
                clear hb9 hq
                refine hK.out _ _ ⟨(S6.out.past F9.out).cell 0, (S6.out.past F9.out).cell 1, (YY6.out.past F9.out).cell 0, (YY6.out.past F9.out).cell 1, (YY6.out.past F9.out).cell 2, (YY6.out.past F9.out).cell 3, (YY6.out.past F9.out).cell 4, (YY6.out.past F9.out).cell 5, (YY6.out.past F9.out).cell 6, (YY6.out.past F9.out).cell 7⟩ (fun hHeld => ?_)
                clear hK K
                try simp only [Act.put, List.setIfInBounds_toArray, List.set_cons_zero, List.set_cons_succ]
                refine tr_op (by simp only [List.getElem?_toArray, List.getElem?_cons_succ, List.getElem?_cons_zero]; rfl) (fun K hK => ?_)
                go_wp2_with fail
                clear hHeld
                have G := setCells_grown (w.heap.size + 1) [.int .i64 q.next, .slice q.A q.n q.c] 0 w9
                have RS := Lib.hid (R9_.out.set [.int .i64 q.next, .slice q.A q.n q.c] rfl)
                have BB := Lib.hid (B9.out.trans (grown_below G B9.out.size (fun k hk => by injection hk with hk; omega)))
                have QS := Lib.hid (HQQ.out.beside R9_.out (tc_texts _ _ _ _) G)
                have SZ9 := Lib.hid ((S6.out.past F9.out).grown G (by omega))
                have YZ9 := Lib.hid ((YY6.out.past F9.out).grown G (by have := GE.out; omega))
                obtain ⟨wz, hwz⟩ : ∃ W, W = w9.setCells (w.heap.size + 1) 0 [.int .i64 q.next, .slice q.A q.n q.c] := ⟨_, rfl⟩
                rw [← hwz] at RS BB QS SZ9 YZ9
                rw [show (w9.setCell ⟨w.heap.size + 1, 0, none⟩ (.int .i64 q.next)).setCell ⟨w.heap.size + 1, 1, none⟩ (.slice q.A q.n q.c) = wz from hwz.symm]
                clear hwz G r9c r9f r9l
                refine hK.out _ _ ⟨SZ9.out.cell 0, SZ9.out.cell 1, YZ9.out.cell 0, YZ9.out.cell 1, YZ9.out.cell 2, YZ9.out.cell 3, YZ9.out.cell 4, YZ9.out.cell 5, YZ9.out.cell 6, YZ9.out.cell 7⟩ (fun hHeld => ?_)
                clear hK K
                try simp only [Act.put, List.setIfInBounds_toArray, List.set_cons_zero, List.set_cons_succ]
                refine tr_op (by simp only [List.getElem?_toArray, List.getElem?_cons_succ, List.getElem?_cons_zero]; rfl) (fun K hK => ?_)
                go_wp2_with fail
                clear hHeld

                refine hK.out _ _ ⟨SZ9.out.cell 0, SZ9.out.cell 1, YZ9.out.cell 0, YZ9.out.cell 1, YZ9.out.cell 2, YZ9.out.cell 3, YZ9.out.cell 4, YZ9.out.cell 5, YZ9.out.cell 6, YZ9.out.cell 7⟩ (fun hHeld => ?_)
                clear hK K
                try simp only [Act.put, List.setIfInBounds_toArray, List.set_cons_zero, List.set_cons_succ]
                refine tr_tail rfl ?_
                clear hHeld
                go_wp2_with fail
                refine bodyPost_ret (v := .tuple #[q.v, .int .i64 y.pid, .int .i64 y.gen, .int .i64 0]) (results_cell_tmp3 Try.results13 (g := w.heap.size + 1) rfl rfl rfl rfl (load24 RS.out)) rfl ?_
                exact InRes.of R8.out QS.out BB.out
          | false =>
            have HI := Lib.hid (srch_no FN.out.up HQ.out)
            have INW := Lib.hid (init_new (now := now) HK.out GOOD.out HI.out)
            have s4c := S4.out.cell
            have s4l := S4.out.lt
            have nx0 := FN.out.next
            by_cases hm : o.next = 1099511627776
            · have d5 : (o.next == 1099511627776) = true := by rw [beq_iff_eq]; exact hm
              have R9 := Lib.hid (show initV o.val id now = (noC, 0, 0, 2) from by rw [INW.out, if_pos (.inl hm)])
              clear hm nx0
              go_wp2_with (refine (FA.out 2 _).mono ?_; rintro e w5 ⟨rfl, hb5⟩; have B5 := Lib.hid (below_from hb5 B4.out B4.out.size); have S5 := Lib.hid (S4.out.past hb5); have R5 := Lib.hid (R4.out.past hb5); have r5c := R5.out.cell; have r5f := R5.out.free; have r5l := R5.out.lt; clear hb5)
              have G := setCells_grown (w.heap.size + 1) [.int .i64 0, .slice none 0 0] 0 w5
              refine bodyPost_ret (v := .tuple #[noO.v, .int .i64 0, .int .i64 0, .int .i64 2]) (results_cell_tmp3 Try.results13 (g := w.heap.size + 1) rfl rfl rfl rfl (load24 (R5.out.set [.int .i64 0, .slice none 0 0] rfl))) rfl ?_
              exact InRes.no (R9.out) (B5.out.trans (grown_below G B5.out.size (fun k hk => by injection hk with hk; omega)))
            · have d5 : (o.next == 1099511627776) = false := by rw [beq_eq_false_iff_ne]; exact hm
              have HM := Lib.hid hm
              by_cases hl : o.n = 256
              · have d6 : ((o.n : Int) == 256) = true := by rw [beq_iff_eq]; omega
                have R9 := Lib.hid (show initV o.val id now = (noC, 0, 0, 2) from by rw [INW.out, if_pos (.inr ⟨SZ.out, LN.out.trans hl⟩)])
                have hl' := hl
                clear hm nx0 hl
                go_wp2_with (refine (FA.out 2 _).mono ?_; rintro e w5 ⟨rfl, hb5⟩; have B5 := Lib.hid (below_from hb5 B4.out B4.out.size); have S5 := Lib.hid (S4.out.past hb5); have R5 := Lib.hid (R4.out.past hb5); have r5c := R5.out.cell; have r5f := R5.out.free; have r5l := R5.out.lt; clear hb5)
                have G := setCells_grown (w.heap.size + 1) [.int .i64 0, .slice none 0 0] 0 w5
                refine bodyPost_ret (v := .tuple #[noO.v, .int .i64 0, .int .i64 0, .int .i64 2]) (results_cell_tmp3 Try.results13 (g := w.heap.size + 1) rfl rfl rfl rfl (load24 (R5.out.set [.int .i64 0, .slice none 0 0] rfl))) rfl ?_
                exact InRes.no (R9.out) (B5.out.trans (grown_below G B5.out.size (fun k hk => by injection hk with hk; omega)))
              · have d6 : ((o.n : Int) == 256) = false := by rw [beq_eq_false_iff_ne]; omega
                have R9 := Lib.hid (show initV o.val id now = (⟨o.next + 1, insI ⟨id, o.next, 0, 0, 0, [], [], now⟩ o.val.L⟩, o.next, 0, 0) from by
                  rw [INW.out, if_neg, if_pos SZ.out]
                  · rfl
                  · rintro (h | ⟨_, h⟩)
                    · exact HM.out h
                    · exact hl (LN.out.symm.trans h))
                clear hm hl
                have wr1 : IntKind.i64.wrap (o.next + 1) = o.next + 1 := IntWalk.i64_in _ (by have h1 : 0 ≤ o.next := nx0.1; have h2 : o.next ≤ 1099511627776 := nx0.2; omega)
                clear nx0
                have r4c := R4.out.cell
                have r4f := R4.out.free
                have r4l := R4.out.lt
                go_upto_region 19 with (fail)
                have G := setCells_grown (w.heap.size + 1) [.int .i64 (o.next + 1), .slice o.A o.n o.c] 0 w4
                obtain ⟨w5, hw5⟩ : ∃ W, W = w4.setCells (w.heap.size + 1) 0 [.int .i64 (o.next + 1), .slice o.A o.n o.c] := ⟨_, rfl⟩
                rw [← hw5] at G
                have B5 := Lib.hid (B4.out.trans (grown_below G B4.out.size (fun k hk => by injection hk with hk; omega)))
                have S5 := Lib.hid (S4.out.grown G (by omega))
                have R5 := Lib.hid (show Has w5 (w.heap.size + 1) #[.int .i64 (o.next + 1), .slice o.A o.n o.c] from by rw [hw5]; exact R4.out.set [.int .i64 (o.next + 1), .slice o.A o.n o.c] rfl)
                rw [show (w4.setCell ⟨w.heap.size + 1, 0, none⟩ (.int .i64 (o.next + 1))).setCell ⟨w.heap.size + 1, 1, none⟩ (.slice o.A o.n o.c) = w5 from hw5.symm]
                clear hw5 G wr1 s4c s4l r4c r4f r4l
                have D1 := Lib.hid (show Below w5.heap.size w5 w5.drew from (Below.refl _ w5).drew)
                have CL := Lib.hid (fun W (h : Below w.heap.size w W) => cloneX o.A o.n o.c o.L W (Sl.below HO.out h) (by have := NN.out; omega))
                have VQ := Lib.hid (show (⟨o.next + 1, (o.L.take i ++ (⟨id, o.next, 0, 0, 0, none, 0, 0, [], none, 0, 0, [], now⟩ : Tx) :: o.L.drop i).map Tx.val⟩ : Cv) = ⟨o.next + 1, insI ⟨id, o.next, 0, 0, 0, [], [], now⟩ o.val.L⟩ from by
                  congr 1
                  unfold insI
                  rw [ins_srch (c := ordI) (x := ⟨id, o.next, 0, 0, 0, [], [], now⟩) HQ.out, if_neg (by simp)]
                  simp [Tc.val, Tx.val])
                have IN : Hid (∀ A2 c2 gb W V, Below w5.heap.size w5 V → Below w5.heap.size w5 W → Own txK 33 W V.heap.size A2 o.n c2 o.L → W.heap[gb]? = some (.cells #[.string id, .int .i64 o.next, .int .i64 0, .int .i64 0, .int .i64 0, .slice none 0 0, .slice none 0 0, .int .i64 now] 33 (0, 0)) → (Value.slice A2 o.n c2).ownBlock ≠ some gb → Calls Try.prog 47 #[.slice A2 o.n c2, .int .i64 (i : Nat), .slice (some ⟨gb, 0, none⟩) 1 1] W fun e w8 =>
                    ∃ A3 c3, e = .returned (.slice A3 (o.n + 1) c3) ∧ Sl txK w8 A3 (o.n + 1) c3 (o.L.take i ++ ⟨id, o.next, 0, 0, 0, none, 0, 0, [], none, 0, 0, [], now⟩ :: o.L.drop i) ∧ Below w5.heap.size w5 w8) := by
                  refine Lib.hid fun A2 c2 gb W V hV h ho hgb hne => ?_
                  have ho := ho.base hV.size
                  have hil : i ≤ o.n := by have := HQ.out.1; rw [LN.out] at this; exact this
                  refine (insertX_any w5.heap.size A2 o.n c2 1 i gb 1 #[.string id, .int .i64 o.next, .int .i64 0, .int .i64 0, .int .i64 0, .slice none 0 0, .slice none 0 0, .int .i64 now] (o.L.flatMap txK.cells) [.string id, .int .i64 o.next, .int .i64 0, .int .i64 0, .int .i64 0, .slice none 0 0, .slice none 0 0, .int .i64 now] W ho.2.1 (RK.flat_one txK o.L) h.size (by omega) (by have := NN.out; omega) hgb rfl rfl (txK.one ⟨id, o.next, 0, 0, 0, none, 0, 0, [], none, 0, 0, [], now⟩) hne hil).mono ?_
                  rintro e w8 ⟨A3, c3, rfl, ho3, hg3⟩
                  have hb : Below w5.heap.size w5 w8 := h.trans (grown_below hg3 h.size (fun k hk => (ho.2.1.lt k hk).1))
                  exact ⟨A3, c3, rfl, (own_insX ho hil ⟨id, o.next, 0, 0, 0, none, 0, 0, [], none, 0, 0, [], now⟩ ⟨HS.out, Sl.nil _ _, Sl.nil _ _⟩ (fun a ha => (show Tx.In w a from Sl.each HO.out a ha).past (B5.out.trans (hb.mono B5.out.size))) ho3).sl, hb⟩
                have s5c := S5.out.cell
                have s5l := S5.out.lt
                go_upto_region 20 with (fail)
                clear s5c s5l
                refine region_tr (fun w' => w'.cell? ⟨w.heap.size, 0, none⟩ = some (.int .i64 o.next) ∧ w'.cell? ⟨w.heap.size, 1, none⟩ = some (.slice o.A o.n o.c)) 10 (.take 0 (.take 1 (.take 3 (.take 4 (.take 5 (.take 6 (.take 7 (.take 8 (.fork 2 (.op 9 .tail) 9 (.op 2 .tail)))))))))) (by kernel_rfl) (by kernel_rfl) ⟨(S5.out.past D1.out).cell 0, (S5.out.past D1.out).cell 1⟩ (fun hHeld => ?_)
                iterate 8
                  refine tr_take (v := ?_) (by simp only [List.getElem?_toArray, List.getElem?_cons_succ, List.getElem?_cons_zero]; rfl) (Or.inl ⟨by rfl, ?_⟩) ?_
                  rotate_left 1
                  · intro w hSw
                    try dsimp only at hSw
                    go_simp
                    try with_reducible rfl
                  try simp only [Act.put, List.setIfInBounds_toArray, List.set_cons_zero, List.set_cons_succ]
                refine tr_fork (by simp only [List.getElem?_toArray, List.getElem?_cons_succ, List.getElem?_cons_zero]; rfl) (by simp only [List.getElem?_toArray, List.getElem?_cons_succ, List.getElem?_cons_zero]; rfl) (fun K hK => ?_) (fun K hK => ?_)
                · go_wp2_with (go_at_call 48; refine (CL.out _ (B5.out.trans (D1.out.mono B5.out.size))).mono ?_; rintro e w7 ⟨A2, c2, rfl, hO, hb7⟩)
                  clear hHeld
                  have F7 := Lib.hid (below_from hb7 D1.out D1.out.size)
                  have HOO := Lib.hid hO
                  refine hK.out _ _ ⟨(S5.out.past F7.out).cell 0, (S5.out.past F7.out).cell 1⟩ (fun hHeld => ?_)
                  clear hK K
                  try simp only [Act.put, List.setIfInBounds_toArray, List.set_cons_zero, List.set_cons_succ]
                  refine tr_op (by simp only [List.getElem?_toArray, List.getElem?_cons_succ, List.getElem?_cons_zero]; rfl) (fun K hK => ?_)
                  go_wp2_with fail
                  clear hHeld
                  have IXX := IN.out A2 c2 w7.heap.size (w7.alloc (.cells #[.string id, .int .i64 o.next, .int .i64 0, .int .i64 0, .int .i64 0, .slice none 0 0, .slice none 0 0, .int .i64 now] 33)) w5.drew D1.out (F7.out.alloc F7.out.size _) (hO.kept (below_alloc1 w7 _)) (heap_alloc_new w7 _) (fun e => by have := (hO.2.1.lt _ e).2; omega)
                  refine hK.out _ _ ⟨(S5.out.past (F7.out.alloc F7.out.size _)).cell 0, (S5.out.past (F7.out.alloc F7.out.size _)).cell 1⟩ (fun hHeld => ?_)
                  clear hK K
                  try simp only [Act.put, List.setIfInBounds_toArray, List.set_cons_zero, List.set_cons_succ]
                  refine tr_tail rfl ?_
                  clear hHeld
                  have IX := Lib.hid IXX
                  clear IXX
                  have r5c := R5.out.cell
                  go_upto_region 21 with (
                    go_at_call 47; refine IX.out.mono ?_; rintro e w8 ⟨A3, c3, rfl, hO3, hb8⟩; have HO3 := Lib.hid hO3; have F8 := Lib.hid hb8; have R8 := Lib.hid (R5.out.past hb8); have S8 := Lib.hid (S5.out.past hb8); have B8 := Lib.hid (below_from hb8 B5.out B5.out.size); have r8c := R8.out.cell; have r8f := R8.out.free; have r8l := R8.out.lt; clear hO3 hb8)
                  have G := setCells_grown (w.heap.size + 1) [.slice A3 (o.n + 1) c3] 1 w8
                  obtain ⟨w9, hw9⟩ : ∃ W, W = w8.setCells (w.heap.size + 1) 1 [.slice A3 (o.n + 1) c3] := ⟨_, rfl⟩
                  rw [← hw9] at G
                  have B9 := Lib.hid (B8.out.trans (grown_below G B8.out.size (fun k hk => by injection hk with hk; omega)))
                  have S9 := Lib.hid (S8.out.grown G (by omega))
                  have R9_ := Lib.hid (show Has w9 (w.heap.size + 1) #[.int .i64 (o.next + 1), .slice A3 (o.n + 1) c3] from by
                    have := R8.out.setAt 1 (.slice A3 (o.n + 1) c3) (by simp)
                    rw [hw9]
                    simpa [World.setCells] using this)
                  have Q9 := Lib.hid (show Sl txK w9 A3 (o.n + 1) c3 (o.L.take i ++ ⟨id, o.next, 0, 0, 0, none, 0, 0, [], none, 0, 0, [], now⟩ :: o.L.drop i) from Sl.beside HO3.out (fun a => ⟨_, rfl⟩) R8.out (tc_texts _ _ _ _) G (fun a ha => (show Tx.In w8 a from HO3.out.each a ha).beside R8.out (tc_texts _ _ _ _) G))
                  rw [show w8.setCell ⟨w.heap.size + 1, 1, none⟩ (.slice A3 (o.n + 1) c3) = w9 from hw9.symm]
                  clear hw9 G r8c r8f r8l r5c
                  refine region_tr (fun w' => w'.cell? ⟨w.heap.size, 0, none⟩ = some (.int .i64 o.next) ∧ w'.cell? ⟨w.heap.size + 1, 0, none⟩ = some (.int .i64 (o.next + 1)) ∧ w'.cell? ⟨w.heap.size + 1, 1, none⟩ = some (.slice A3 (o.n + 1) c3)) 5 (.take 0 (.take 1 (.take 2 (.op 3 (.op 4 .tail))))) (by kernel_rfl) (by kernel_rfl) ⟨S9.out.drew.cell 0, R9_.out.drew.cell 0, R9_.out.drew.cell 1⟩ (fun hHeld => ?_)
                  iterate 3
                    refine tr_take (v := ?_) (by simp only [List.getElem?_toArray, List.getElem?_cons_succ, List.getElem?_cons_zero]; rfl) (Or.inl ⟨by rfl, ?_⟩) ?_
                    rotate_left 1
                    · intro w hSw
                      try dsimp only at hSw
                      go_simp
                      try with_reducible rfl
                    try simp only [Act.put, List.setIfInBounds_toArray, List.set_cons_zero, List.set_cons_succ]
                  obtain ⟨wd, hwd⟩ : ∃ W, W = w9.drew := ⟨_, rfl⟩
                  have RD := Lib.hid (show Has wd (w.heap.size + 1) #[.int .i64 (o.next + 1), .slice A3 (o.n + 1) c3] from by rw [hwd]; exact R9_.out.drew)
                  have SD := Lib.hid (show Has wd w.heap.size #[.int .i64 o.next, .slice o.A o.n o.c] from by rw [hwd]; exact S9.out.drew)
                  have BD := Lib.hid (show Below w.heap.size w wd from by rw [hwd]; exact B9.out.drew)
                  have DD := Lib.hid (show Below w9.heap.size w9 wd from by rw [hwd]; exact (Below.refl _ w9).drew)
                  rw [← hwd]
                  clear hwd
                  have rdc := RD.out.cell
                  have rdf := RD.out.free
                  have rdl := RD.out.lt
                  refine tr_op (by simp only [List.getElem?_toArray, List.getElem?_cons_succ, List.getElem?_cons_zero]; rfl) (fun K hK => ?_)
                  go_wp2_with fail
                  clear hHeld
                  have G := setCells_grown (w.heap.size + 1) [.int .i64 (o.next + 1), .slice A3 (o.n + 1) c3] 0 wd
                  have RS := Lib.hid (RD.out.set [.int .i64 (o.next + 1), .slice A3 (o.n + 1) c3] rfl)
                  have BB := Lib.hid (BD.out.trans (grown_below G BD.out.size (fun k hk => by injection hk with hk; omega)))

                  have QS := Lib.hid (Sl.beside (Sl.below Q9.out DD.out) (fun a => ⟨_, rfl⟩) RD.out (tc_texts _ _ _ _) G (fun a ha => (show Tx.In wd a from (show Tx.In w9 a from Q9.out.each a ha).past DD.out).beside RD.out (tc_texts _ _ _ _) G))
                  obtain ⟨wz, hwz⟩ : ∃ W, W = wd.setCells (w.heap.size + 1) 0 [.int .i64 (o.next + 1), .slice A3 (o.n + 1) c3] := ⟨_, rfl⟩
                  have SZ9 := Lib.hid (SD.out.grown G (by omega))
                  rw [← hwz] at RS BB QS SZ9
                  rw [show ((wd.setCell ⟨w.heap.size + 1, 0, none⟩ (.int .i64 (o.next + 1))).setCell ⟨w.heap.size + 1, 1, none⟩ (.slice A3 (o.n + 1) c3)) = wz from hwz.symm]
                  clear hwz G rdc rdf rdl
                  refine hK.out _ _ ⟨SZ9.out.cell 0, RS.out.cell 0, RS.out.cell 1⟩ (fun hHeld => ?_)
                  clear hK K
                  try simp only [Act.put, List.setIfInBounds_toArray, List.set_cons_zero, List.set_cons_succ]
                  refine tr_op (by simp only [List.getElem?_toArray, List.getElem?_cons_succ, List.getElem?_cons_zero]; rfl) (fun K hK => ?_)
                  go_wp2_with fail
                  clear hHeld

                  refine hK.out _ _ ⟨SZ9.out.cell 0, RS.out.cell 0, RS.out.cell 1⟩ (fun hHeld => ?_)
                  clear hK K
                  try simp only [Act.put, List.setIfInBounds_toArray, List.set_cons_zero, List.set_cons_succ]
                  refine tr_tail rfl ?_
                  clear hHeld
                  go_wp2_with fail
                  refine bodyPost_ret (v := .tuple #[.agg #[.int .i64 (o.next + 1), .slice A3 (o.n + 1) c3], .int .i64 o.next, .int .i64 0, .int .i64 0]) (results_cell_tmp3 Try.results13 (g := w.heap.size + 1) rfl rfl rfl rfl (load24 RS.out)) rfl ?_
                  exact InRes.of (q := ⟨o.next + 1, A3, o.n + 1, c3, o.L.take i ++ ⟨id, o.next, 0, 0, 0, none, 0, 0, [], none, 0, 0, [], now⟩ :: o.L.drop i⟩) R9.out ⟨QS.out, VQ.out⟩ BB.out
                · go_wp2_with fail
                  clear hHeld
                  have F1 := Lib.hid (show Below w5.heap.size w5 (w5.drew.alloc (.cells #[.string id, .int .i64 o.next, .int .i64 0, .int .i64 0, .int .i64 0, .slice none 0 0, .slice none 0 0, .int .i64 now] 33)) from D1.out.alloc D1.out.size _)
                  refine hK.out _ _ ⟨(S5.out.past F1.out).cell 0, (S5.out.past F1.out).cell 1⟩ (fun hHeld => ?_)
                  clear hK K
                  try simp only [Act.put, List.setIfInBounds_toArray, List.set_cons_zero, List.set_cons_succ]
                  refine tr_op (by simp only [List.getElem?_toArray, List.getElem?_cons_succ, List.getElem?_cons_zero]; rfl) (fun K hK => ?_)
                  go_wp2_with (go_at_call 48; refine (CL.out _ (B5.out.trans (F1.out.mono B5.out.size))).mono ?_; rintro e w7 ⟨A2, c2, rfl, hO, hb7⟩)
                  clear hHeld
                  have F7 := Lib.hid (below_from hb7 F1.out F1.out.size)
                  have IXX := IN.out A2 c2 w5.heap.size w7 (w5.drew.alloc (.cells #[.string id, .int .i64 o.next, .int .i64 0, .int .i64 0, .int .i64 0, .slice none 0 0, .slice none 0 0, .int .i64 now] 33)) F1.out F7.out hO ((hb7.block w5.heap.size (by simp)).trans (heap_alloc_new w5.drew _)) (fun e => by have := (hO.2.1.lt _ e).1; have h8 : w5.drew.heap.size = w5.heap.size := rfl; simp at this; omega)
                  refine hK.out _ _ ⟨(S5.out.past F7.out).cell 0, (S5.out.past F7.out).cell 1⟩ (fun hHeld => ?_)
                  clear hK K
                  try simp only [Act.put, List.setIfInBounds_toArray, List.set_cons_zero, List.set_cons_succ]
                  refine tr_tail rfl ?_
                  clear hHeld
                  have IX := Lib.hid IXX
                  clear IXX
                  have r5c := R5.out.cell
                  go_upto_region 21 with (
                    go_at_call 47; refine IX.out.mono ?_; rintro e w8 ⟨A3, c3, rfl, hO3, hb8⟩; have HO3 := Lib.hid hO3; have F8 := Lib.hid hb8; have R8 := Lib.hid (R5.out.past hb8); have S8 := Lib.hid (S5.out.past hb8); have B8 := Lib.hid (below_from hb8 B5.out B5.out.size); have r8c := R8.out.cell; have r8f := R8.out.free; have r8l := R8.out.lt; clear hO3 hb8)
                  have G := setCells_grown (w.heap.size + 1) [.slice A3 (o.n + 1) c3] 1 w8
                  obtain ⟨w9, hw9⟩ : ∃ W, W = w8.setCells (w.heap.size + 1) 1 [.slice A3 (o.n + 1) c3] := ⟨_, rfl⟩
                  rw [← hw9] at G
                  have B9 := Lib.hid (B8.out.trans (grown_below G B8.out.size (fun k hk => by injection hk with hk; omega)))
                  have S9 := Lib.hid (S8.out.grown G (by omega))
                  have R9_ := Lib.hid (show Has w9 (w.heap.size + 1) #[.int .i64 (o.next + 1), .slice A3 (o.n + 1) c3] from by
                    have := R8.out.setAt 1 (.slice A3 (o.n + 1) c3) (by simp)
                    rw [hw9]
                    simpa [World.setCells] using this)
                  have Q9 := Lib.hid (show Sl txK w9 A3 (o.n + 1) c3 (o.L.take i ++ ⟨id, o.next, 0, 0, 0, none, 0, 0, [], none, 0, 0, [], now⟩ :: o.L.drop i) from Sl.beside HO3.out (fun a => ⟨_, rfl⟩) R8.out (tc_texts _ _ _ _) G (fun a ha => (show Tx.In w8 a from HO3.out.each a ha).beside R8.out (tc_texts _ _ _ _) G))
                  rw [show w8.setCell ⟨w.heap.size + 1, 1, none⟩ (.slice A3 (o.n + 1) c3) = w9 from hw9.symm]
                  clear hw9 G r8c r8f r8l r5c
                  refine region_tr (fun w' => w'.cell? ⟨w.heap.size, 0, none⟩ = some (.int .i64 o.next) ∧ w'.cell? ⟨w.heap.size + 1, 0, none⟩ = some (.int .i64 (o.next + 1)) ∧ w'.cell? ⟨w.heap.size + 1, 1, none⟩ = some (.slice A3 (o.n + 1) c3)) 5 (.take 0 (.take 1 (.take 2 (.op 3 (.op 4 .tail))))) (by kernel_rfl) (by kernel_rfl) ⟨S9.out.drew.cell 0, R9_.out.drew.cell 0, R9_.out.drew.cell 1⟩ (fun hHeld => ?_)
                  iterate 3
                    refine tr_take (v := ?_) (by simp only [List.getElem?_toArray, List.getElem?_cons_succ, List.getElem?_cons_zero]; rfl) (Or.inl ⟨by rfl, ?_⟩) ?_
                    rotate_left 1
                    · intro w hSw
                      try dsimp only at hSw
                      go_simp
                      try with_reducible rfl
                    try simp only [Act.put, List.setIfInBounds_toArray, List.set_cons_zero, List.set_cons_succ]
                  obtain ⟨wd, hwd⟩ : ∃ W, W = w9.drew := ⟨_, rfl⟩
                  have RD := Lib.hid (show Has wd (w.heap.size + 1) #[.int .i64 (o.next + 1), .slice A3 (o.n + 1) c3] from by rw [hwd]; exact R9_.out.drew)
                  have SD := Lib.hid (show Has wd w.heap.size #[.int .i64 o.next, .slice o.A o.n o.c] from by rw [hwd]; exact S9.out.drew)
                  have BD := Lib.hid (show Below w.heap.size w wd from by rw [hwd]; exact B9.out.drew)
                  have DD := Lib.hid (show Below w9.heap.size w9 wd from by rw [hwd]; exact (Below.refl _ w9).drew)
                  rw [← hwd]
                  clear hwd
                  have rdc := RD.out.cell
                  have rdf := RD.out.free
                  have rdl := RD.out.lt
                  refine tr_op (by simp only [List.getElem?_toArray, List.getElem?_cons_succ, List.getElem?_cons_zero]; rfl) (fun K hK => ?_)
                  go_wp2_with fail
                  clear hHeld
                  have G := setCells_grown (w.heap.size + 1) [.int .i64 (o.next + 1), .slice A3 (o.n + 1) c3] 0 wd
                  have RS := Lib.hid (RD.out.set [.int .i64 (o.next + 1), .slice A3 (o.n + 1) c3] rfl)
                  have BB := Lib.hid (BD.out.trans (grown_below G BD.out.size (fun k hk => by injection hk with hk; omega)))

                  have QS := Lib.hid (Sl.beside (Sl.below Q9.out DD.out) (fun a => ⟨_, rfl⟩) RD.out (tc_texts _ _ _ _) G (fun a ha => (show Tx.In wd a from (show Tx.In w9 a from Q9.out.each a ha).past DD.out).beside RD.out (tc_texts _ _ _ _) G))
                  obtain ⟨wz, hwz⟩ : ∃ W, W = wd.setCells (w.heap.size + 1) 0 [.int .i64 (o.next + 1), .slice A3 (o.n + 1) c3] := ⟨_, rfl⟩
                  have SZ9 := Lib.hid (SD.out.grown G (by omega))
                  rw [← hwz] at RS BB QS SZ9
                  rw [show ((wd.setCell ⟨w.heap.size + 1, 0, none⟩ (.int .i64 (o.next + 1))).setCell ⟨w.heap.size + 1, 1, none⟩ (.slice A3 (o.n + 1) c3)) = wz from hwz.symm]
                  clear hwz G rdc rdf rdl
                  refine hK.out _ _ ⟨SZ9.out.cell 0, RS.out.cell 0, RS.out.cell 1⟩ (fun hHeld => ?_)
                  clear hK K
                  try simp only [Act.put, List.setIfInBounds_toArray, List.set_cons_zero, List.set_cons_succ]
                  refine tr_op (by simp only [List.getElem?_toArray, List.getElem?_cons_succ, List.getElem?_cons_zero]; rfl) (fun K hK => ?_)
                  go_wp2_with fail
                  clear hHeld

                  refine hK.out _ _ ⟨SZ9.out.cell 0, RS.out.cell 0, RS.out.cell 1⟩ (fun hHeld => ?_)
                  clear hK K
                  try simp only [Act.put, List.setIfInBounds_toArray, List.set_cons_zero, List.set_cons_succ]
                  refine tr_tail rfl ?_
                  clear hHeld
                  go_wp2_with fail
                  refine bodyPost_ret (v := .tuple #[.agg #[.int .i64 (o.next + 1), .slice A3 (o.n + 1) c3], .int .i64 o.next, .int .i64 0, .int .i64 0]) (results_cell_tmp3 Try.results13 (g := w.heap.size + 1) rfl rfl rfl rfl (load24 RS.out)) rfl ?_
                  exact InRes.of (q := ⟨o.next + 1, A3, o.n + 1, c3, o.L.take i ++ ⟨id, o.next, 0, 0, 0, none, 0, 0, [], none, 0, 0, [], now⟩ :: o.L.drop i⟩) R9.out ⟨QS.out, VQ.out⟩ BB.out
  · have HK := Lib.hid hk
    obtain ⟨c, hc⟩ : ∃ c, checkV o.val = c := ⟨_, rfl⟩
    have HQ := Lib.hid hc
    rw [hc] at CK hk
    have d1 : (c != 0) = true := by rw [bne_iff_ne]; exact hk
    have d2 : (c == 0) = false := by rw [beq_eq_false_iff_ne]; exact hk
    clear hc hk
    go_enter Try.func13, Try.ntmps13
    go_upto_region 4 with (
      go_at_call 18; rw [← HW.out]; refine (CK.out _ B0.out).mono ?_; rintro e w1 ⟨rfl, hb1⟩; have B1 := Lib.hid (below_from hb1 B0.out B0.out.size); have S1 := Lib.hid (S0.out.past hb1); have R1 := Lib.hid (R0.out.past hb1); clear hb1 s0c s0l)
    go_wp2_with (refine (FA.out c _).mono ?_; rintro e w2 ⟨rfl, hb2⟩; have B2 := Lib.hid (below_from hb2 B1.out B1.out.size); have S2 := Lib.hid (S1.out.past hb2); have R2 := Lib.hid (R1.out.past hb2); have r2c := R2.out.cell; have r2f := R2.out.free; have r2l := R2.out.lt; clear hb2)
    have G := setCells_grown (w.heap.size + 1) [.int .i64 0, .slice none 0 0] 0 w2
    refine bodyPost_ret (v := .tuple #[noO.v, .int .i64 0, .int .i64 0, .int .i64 c]) (results_cell_tmp3 Try.results13 (g := w.heap.size + 1) rfl rfl rfl rfl (load24 (R2.out.set [.int .i64 0, .slice none 0 0] rfl))) rfl ?_
    exact InRes.no (by rw [init_chk HK.out, HQ.out]) (B2.out.trans (grown_below G B2.out.size (fun k hk => by injection hk with hk; omega)))

end Go.Proofs.Ytnigjchgpmladaa
