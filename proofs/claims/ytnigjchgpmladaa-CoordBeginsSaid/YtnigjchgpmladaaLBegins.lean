/- CoordBegins: as the document's. -/
import Derived.Test.YtnigjchgpmladaaRAt
import Derived.Test.YtnigjchgpmladaaAv
import Derived.Test.YtnigjchgpmladaaLive
import Derived.Test.YtnigjchgpmladaaReg
import Derived.Deep.DeepCutAuto
namespace Go.Proofs.Ytnigjchgpmladaa
open Go.RowKit Go.Shelf

set_option maxHeartbeats 16000000 in
set_option maxRecDepth 100000 in
theorem lbegins_any (o : Tc) (id : ByteArray) (now long pid : Int) (w : World) (ho : Tc.At w o) (hs : id.size ≤ maxLen) : Calls Try.prog 3 #[o.v, .string id, .int .i64 now, .int .i64 long, .int .i64 pid] w fun e w' => e = .returned (.bool true) ∧ Below w.heap.size w w' := by
  have HS := Lib.hid hs
  clear hs
  have bw := below_alloc1 w (.cells #[.int .i64 o.next, .slice o.A o.n o.c] 24)
  obtain ⟨W0, hW0⟩ : ∃ W, W = (w.alloc (.cells #[.int .i64 o.next, .slice o.A o.n o.c] 24)) := ⟨_, rfl⟩
  rw [← hW0] at bw
  have B0 := Lib.hid bw
  have SO0 := Lib.hid (show Has W0 w.heap.size #[.int .i64 o.next, .slice o.A o.n o.c] from by rw [hW0]; exact (Has.newAt w _ 24 rfl))
  have cSO0 := SO0.out.cell
  have lSO0 := SO0.out.lt
  have O0 := Lib.hid (show Tc.Is W0 o o.val from ⟨ho.below bw, rfl⟩)
  have HWW := Lib.hid hW0
  have LV := Lib.hid live_any
  clear bw ho hW0  
  go_enter Try.func3, Try.ntmps3
  go_upto_region 1 with (fail)
  rw [← HWW.out]
  go_wp2_with fail
  refine (LV.out _).mono ?_
  intro e w1 hx
  obtain ⟨rfl, hb⟩ := hx
  have B1 := Lib.hid (below_from hb B0.out B0.out.size)
  have SO1 := Lib.hid (SO0.out.past hb)
  have cSO1 := SO1.out.cell
  have lSO1 := SO1.out.lt
  have O1 := Lib.hid (Tc.Is.past O0.out hb)
  clear cSO0 lSO0 hb
  go_wp2_with fail
  cases hfw : fewB o.val with
  | false =>
    refine (few_at O1.out hfw).mono ?_
    intro e w2 hx
    obtain ⟨rfl, hb⟩ := hx
    have B2 := Lib.hid (below_from hb B1.out B1.out.size)
    have SO2 := Lib.hid (SO1.out.past hb)
    have cSO2 := SO2.out.cell
    have lSO2 := SO2.out.lt
    have O2 := Lib.hid (Tc.Is.past O1.out hb)
    clear cSO1 lSO1 hb
    go_wp2_with fail
    go_ret
    exact ⟨rfl, B2.out⟩
  | true =>
  have FEW := Lib.hid (fewB_few hfw)
  refine (few_at O1.out hfw).mono ?_
  intro e w2 hx
  obtain ⟨rfl, hb⟩ := hx
  have B2 := Lib.hid (below_from hb B1.out B1.out.size)
  have SO2 := Lib.hid (SO1.out.past hb)
  have cSO2 := SO2.out.cell
  have lSO2 := SO2.out.lt
  have O2 := Lib.hid (Tc.Is.past O1.out hb)
  clear cSO1 lSO1 hb hfw
  by_cases hl : 300 < id.size
  · have d1 : decide ((300 : Int) < (id.size : Int)) = true := decide_eq_true (by omega)
    have d2 : decide (300 < id.size) = true := decide_eq_true hl
    clear hl
    go_wp2_with fail
    go_ret
    exact ⟨rfl, B2.out⟩
  · have d1 : decide ((300 : Int) < (id.size : Int)) = false := decide_eq_false (by omega)
    have d2 : decide (300 < id.size) = false := decide_eq_false hl
    clear hl
    obtain ⟨V1, hV1⟩ : ∃ V, initV o.val id now = V := ⟨_, rfl⟩
    obtain ⟨V1, z1, z2, z3⟩ := V1
    have H1 := Lib.hid hV1
    obtain ⟨V2, hV2⟩ : ∃ V, findV o.val.L pid = V := ⟨_, rfl⟩
    obtain ⟨V2, b2⟩ := V2
    have H2 := Lib.hid hV2
    obtain ⟨cc, hcc⟩ : ∃ c, checkV o.val = c := ⟨_, rfl⟩
    have HC := Lib.hid hcc
    clear hV1 hV2 hcc
    go_wp2_with fail
    refine (init_at O2.out FEW.out HS.out H1.out).mono ?_
    intro e w4 hx
    obtain ⟨o1, rfl, ha, hb⟩ := hx
    have bk3 := hb.alloc hb.size (.cells #[.int .i64 o1.next, .slice o1.A o1.n o1.c] 24)
    have B3 := Lib.hid (below_from bk3 B2.out B2.out.size)
    have SO3 := Lib.hid (SO2.out.past bk3)
    have cSO3 := SO3.out.cell
    have lSO3 := SO3.out.lt
    have O3 := Lib.hid (Tc.Is.past O2.out bk3)
    have O1_3 := Lib.hid (ha.past (below_alloc1 w4 (.cells #[.int .i64 o1.next, .slice o1.A o1.n o1.c] 24)))
    have S1_3 := Lib.hid (Has.newAt w4 #[.int .i64 o1.next, .slice o1.A o1.n o1.c] 24 (g := w4.heap.size) rfl)
    have cS1_3 := S1_3.out.cell
    have lS1_3 := S1_3.out.lt
    clear cSO2 lSO2 hb ha bk3
    go_wp2_with fail
    refine (rinit_at O3.out FEW.out HS.out H1.out).mono ?_
    intro e w5 hx
    obtain ⟨o2, rfl, ha, hb⟩ := hx
    have bk4 := hb.alloc hb.size (.cells #[.int .i64 o2.next, .slice o2.A o2.n o2.c] 24)
    have B4 := Lib.hid (below_from bk4 B3.out B3.out.size)
    have SO4 := Lib.hid (SO3.out.past bk4)
    have cSO4 := SO4.out.cell
    have lSO4 := SO4.out.lt
    have O4 := Lib.hid (Tc.Is.past O3.out bk4)
    have O1_4 := Lib.hid (Tc.Is.past O1_3.out bk4)
    have S1_4 := Lib.hid (S1_3.out.past bk4)
    have cS1_4 := S1_4.out.cell
    have lS1_4 := S1_4.out.lt
    have O2_4 := Lib.hid (ha.past (below_alloc1 w5 (.cells #[.int .i64 o2.next, .slice o2.A o2.n o2.c] 24)))
    have S2_4 := Lib.hid (Has.newAt w5 #[.int .i64 o2.next, .slice o2.A o2.n o2.c] 24 (g := w5.heap.size) rfl)
    have cS2_4 := S2_4.out.cell
    have lS2_4 := S2_4.out.lt
    clear cSO3 lSO3 cS1_3 lS1_3 hb ha bk4
    go_wp2_with fail
    refine (findc_at O4.out H2.out).mono ?_
    intro e w6 hx
    obtain ⟨x1, rfl, ha, hb⟩ := hx
    have bk5 := hb.alloc hb.size (.cells #[.string x1.id, .int .i64 x1.pid, .int .i64 x1.gen, .int .i64 x1.no, .int .i64 x1.st, .slice x1.PA x1.Pn x1.Pc, .slice x1.GA x1.Gn x1.Gc, .int .i64 x1.at_] 33)
    have B5 := Lib.hid (below_from bk5 B4.out B4.out.size)
    have SO5 := Lib.hid (SO4.out.past bk5)
    have cSO5 := SO5.out.cell
    have lSO5 := SO5.out.lt
    have O5 := Lib.hid (Tc.Is.past O4.out bk5)
    have O1_5 := Lib.hid (Tc.Is.past O1_4.out bk5)
    have S1_5 := Lib.hid (S1_4.out.past bk5)
    have cS1_5 := S1_5.out.cell
    have lS1_5 := S1_5.out.lt
    have O2_5 := Lib.hid (Tc.Is.past O2_4.out bk5)
    have S2_5 := Lib.hid (S2_4.out.past bk5)
    have cS2_5 := S2_5.out.cell
    have lS2_5 := S2_5.out.lt
    have X1_5 := Lib.hid (ha.past (below_alloc1 w6 (.cells #[.string x1.id, .int .i64 x1.pid, .int .i64 x1.gen, .int .i64 x1.no, .int .i64 x1.st, .slice x1.PA x1.Pn x1.Pc, .slice x1.GA x1.Gn x1.Gc, .int .i64 x1.at_] 33)))
    have T1_5 := Lib.hid (Has.newAt w6 #[.string x1.id, .int .i64 x1.pid, .int .i64 x1.gen, .int .i64 x1.no, .int .i64 x1.st, .slice x1.PA x1.Pn x1.Pc, .slice x1.GA x1.Gn x1.Gc, .int .i64 x1.at_] 33 (g := w6.heap.size) rfl)
    have cT1_5 := T1_5.out.cell
    have lT1_5 := T1_5.out.lt
    clear cSO4 lSO4 cS1_4 lS1_4 cS2_4 lS2_4 hb ha bk5
    go_wp2_with fail
    refine (rfind_at O5.out H2.out).mono ?_
    intro e w7 hx
    obtain ⟨x2, rfl, ha, hb⟩ := hx
    have bk6 := hb.alloc hb.size (.cells #[.string x2.id, .int .i64 x2.pid, .int .i64 x2.gen, .int .i64 x2.no, .int .i64 x2.st, .slice x2.PA x2.Pn x2.Pc, .slice x2.GA x2.Gn x2.Gc, .int .i64 x2.at_] 33)
    have B6 := Lib.hid (below_from bk6 B5.out B5.out.size)
    have SO6 := Lib.hid (SO5.out.past bk6)
    have cSO6 := SO6.out.cell
    have lSO6 := SO6.out.lt
    have O6 := Lib.hid (Tc.Is.past O5.out bk6)
    have O1_6 := Lib.hid (Tc.Is.past O1_5.out bk6)
    have S1_6 := Lib.hid (S1_5.out.past bk6)
    have cS1_6 := S1_6.out.cell
    have lS1_6 := S1_6.out.lt
    have O2_6 := Lib.hid (Tc.Is.past O2_5.out bk6)
    have S2_6 := Lib.hid (S2_5.out.past bk6)
    have cS2_6 := S2_6.out.cell
    have lS2_6 := S2_6.out.lt
    have X1_6 := Lib.hid (Tx.Is.past X1_5.out bk6)
    have T1_6 := Lib.hid (T1_5.out.past bk6)
    have cT1_6 := T1_6.out.cell
    have lT1_6 := T1_6.out.lt
    have X2_6 := Lib.hid (ha.past (below_alloc1 w7 (.cells #[.string x2.id, .int .i64 x2.pid, .int .i64 x2.gen, .int .i64 x2.no, .int .i64 x2.st, .slice x2.PA x2.Pn x2.Pc, .slice x2.GA x2.Gn x2.Gc, .int .i64 x2.at_] 33)))
    have T2_6 := Lib.hid (Has.newAt w7 #[.string x2.id, .int .i64 x2.pid, .int .i64 x2.gen, .int .i64 x2.no, .int .i64 x2.st, .slice x2.PA x2.Pn x2.Pc, .slice x2.GA x2.Gn x2.Gc, .int .i64 x2.at_] 33 (g := w7.heap.size) rfl)
    have cT2_6 := T2_6.out.cell
    have lT2_6 := T2_6.out.lt
    clear cSO5 lSO5 cS1_5 lS1_5 cS2_5 lS2_5 cT1_5 lT1_5 hb ha bk6
    go_wp2_with fail
    refine (same_at O1_6.out O2_6.out).mono ?_
    intro e w8 hx
    obtain ⟨rfl, hb⟩ := hx
    have B7 := Lib.hid (below_from hb B6.out B6.out.size)
    have SO7 := Lib.hid (SO6.out.past hb)
    have cSO7 := SO7.out.cell
    have lSO7 := SO7.out.lt
    have O7 := Lib.hid (Tc.Is.past O6.out hb)
    have O1_7 := Lib.hid (Tc.Is.past O1_6.out hb)
    have S1_7 := Lib.hid (S1_6.out.past hb)
    have cS1_7 := S1_7.out.cell
    have lS1_7 := S1_7.out.lt
    have O2_7 := Lib.hid (Tc.Is.past O2_6.out hb)
    have S2_7 := Lib.hid (S2_6.out.past hb)
    have cS2_7 := S2_7.out.cell
    have lS2_7 := S2_7.out.lt
    have X1_7 := Lib.hid (Tx.Is.past X1_6.out hb)
    have T1_7 := Lib.hid (T1_6.out.past hb)
    have cT1_7 := T1_7.out.cell
    have lT1_7 := T1_7.out.lt
    have X2_7 := Lib.hid (Tx.Is.past X2_6.out hb)
    have T2_7 := Lib.hid (T2_6.out.past hb)
    have cT2_7 := T2_7.out.cell
    have lT2_7 := T2_7.out.lt
    clear cSO6 lSO6 cS1_6 lS1_6 cS2_6 lS2_6 cT1_6 lT1_6 cT2_6 lT2_6 hb
    go_upto_region 9 with (fail)
    clear d1 d2
    have D0 := Lib.hid (show Below w8.heap.size w8 w8.drew from (Below.refl _ w8).drew)
    have BK := B7
    have OK8 := O7
    have SK := SO7
    have T1 := T1_7
    have T2 := T2_7
    have X1 := X1_7
    have X2 := X2_7
    clear cSO7 lSO7 cS1_7 lS1_7 cS2_7 lS2_7 cT1_7 lT1_7 cT2_7 lT2_7
    have C18 := Lib.hid (fun W (h : Below w8.heap.size w8 W) => check_at (Tc.Is.past OK8.out h) FEW.out HC.out)
    have C19 := Lib.hid (fun W (h : Below w8.heap.size w8 W) => rcheck_at (Tc.Is.past OK8.out h) FEW.out HC.out)
    have C20 := Lib.hid (fun W (h : Below w8.heap.size w8 W) => sametx_at (Tx.Is.past X1.out h) (Tx.Is.past X2.out h) (decide_eq_true rfl))
    have C22 := Lib.hid (fun W (h : Below w8.heap.size w8 W) => due_is (Tc.Is.past OK8.out h) FEW.out)
    have C23 := Lib.hid (fun W (h : Below w8.heap.size w8 W) => rdue_is (Tc.Is.past OK8.out h) FEW.out)
    have C25 := Lib.hid (fun W (h : Below w8.heap.size w8 W) => old_is (now := now) (most := long) (Tc.Is.past OK8.out h) FEW.out)
    have C26 := Lib.hid (fun W (h : Below w8.heap.size w8 W) => rold_is (now := now) (most := long) (Tc.Is.past OK8.out h) FEW.out)
    refine region_tr (fun w' => w'.cell? ⟨w.heap.size, 0, none⟩ = some (.int .i64 o.next) ∧ w'.cell? ⟨w.heap.size, 1, none⟩ = some (.slice o.A o.n o.c) ∧ w'.cell? ⟨w6.heap.size, 0, none⟩ = some (.string x1.id) ∧ w'.cell? ⟨w6.heap.size, 1, none⟩ = some (.int .i64 x1.pid) ∧ w'.cell? ⟨w6.heap.size, 2, none⟩ = some (.int .i64 x1.gen) ∧ w'.cell? ⟨w6.heap.size, 3, none⟩ = some (.int .i64 x1.no) ∧ w'.cell? ⟨w6.heap.size, 4, none⟩ = some (.int .i64 x1.st) ∧ w'.cell? ⟨w6.heap.size, 5, none⟩ = some (.slice x1.PA x1.Pn x1.Pc) ∧ w'.cell? ⟨w6.heap.size, 6, none⟩ = some (.slice x1.GA x1.Gn x1.Gc) ∧ w'.cell? ⟨w6.heap.size, 7, none⟩ = some (.int .i64 x1.at_) ∧ w'.cell? ⟨w7.heap.size, 0, none⟩ = some (.string x2.id) ∧ w'.cell? ⟨w7.heap.size, 1, none⟩ = some (.int .i64 x2.pid) ∧ w'.cell? ⟨w7.heap.size, 2, none⟩ = some (.int .i64 x2.gen) ∧ w'.cell? ⟨w7.heap.size, 3, none⟩ = some (.int .i64 x2.no) ∧ w'.cell? ⟨w7.heap.size, 4, none⟩ = some (.int .i64 x2.st) ∧ w'.cell? ⟨w7.heap.size, 5, none⟩ = some (.slice x2.PA x2.Pn x2.Pc) ∧ w'.cell? ⟨w7.heap.size, 6, none⟩ = some (.slice x2.GA x2.Gn x2.Gc) ∧ w'.cell? ⟨w7.heap.size, 7, none⟩ = some (.int .i64 x2.at_)) 39 (.take 0 (.take 1 (.take 2 (.take 3 (.take 4 (.take 5 (.take 7 (.op 6 (.op 8 (.take 9 (.take 10 (.take 11 (.take 12 (.take 13 (.op 14 (.take 15 (.take 16 (.take 17 (.take 18 (.take 19 (.take 20 (.take 21 (.take 22 (.take 24 (.op 23 (.op 25 (.op 26 (.take 27 (.take 28 (.take 29 (.take 30 (.take 31 (.take 33 (.take 34 (.take 35 (.op 32 (.op 36 (.op 37 (.take 38 .tail))))))))))))))))))))))))))))))))))))))) (by kernel_rfl) (by kernel_rfl) ⟨(SK.out.past D0.out).cell 0, (SK.out.past D0.out).cell 1, (T1.out.past D0.out).cell 0, (T1.out.past D0.out).cell 1, (T1.out.past D0.out).cell 2, (T1.out.past D0.out).cell 3, (T1.out.past D0.out).cell 4, (T1.out.past D0.out).cell 5, (T1.out.past D0.out).cell 6, (T1.out.past D0.out).cell 7, (T2.out.past D0.out).cell 0, (T2.out.past D0.out).cell 1, (T2.out.past D0.out).cell 2, (T2.out.past D0.out).cell 3, (T2.out.past D0.out).cell 4, (T2.out.past D0.out).cell 5, (T2.out.past D0.out).cell 6, (T2.out.past D0.out).cell 7⟩ (fun hHeld => ?_)
    iterate 7
      refine tr_take (v := ?_) (by simp only [List.getElem?_toArray, List.getElem?_cons_succ, List.getElem?_cons_zero]; rfl) (Or.inl ⟨by rfl, ?_⟩) ?_
      rotate_left 1
      · intro w hSw
        try dsimp only at hSw
        go_simp
        try with_reducible rfl
      try simp only [Act.put, List.setIfInBounds_toArray, List.set_cons_zero, List.set_cons_succ]
    have F0 := D0
    refine tr_op (by simp only [List.getElem?_toArray, List.getElem?_cons_succ, List.getElem?_cons_zero]; rfl) (fun K hK => ?_)
    go_wp2_with (go_at_call 18; refine (C18.out _ F0.out).mono ?_; rintro e a1 ⟨rfl, hb⟩)
    clear hHeld
    have F1 := Lib.hid (below_from hb F0.out F0.out.size)
    clear hb
    refine hK.out _ _ ⟨(SK.out.past F1.out).cell 0, (SK.out.past F1.out).cell 1, (T1.out.past F1.out).cell 0, (T1.out.past F1.out).cell 1, (T1.out.past F1.out).cell 2, (T1.out.past F1.out).cell 3, (T1.out.past F1.out).cell 4, (T1.out.past F1.out).cell 5, (T1.out.past F1.out).cell 6, (T1.out.past F1.out).cell 7, (T2.out.past F1.out).cell 0, (T2.out.past F1.out).cell 1, (T2.out.past F1.out).cell 2, (T2.out.past F1.out).cell 3, (T2.out.past F1.out).cell 4, (T2.out.past F1.out).cell 5, (T2.out.past F1.out).cell 6, (T2.out.past F1.out).cell 7⟩ (fun hHeld => ?_)
    clear hK K
    try simp only [Act.put, List.setIfInBounds_toArray, List.set_cons_zero, List.set_cons_succ]
    refine tr_op (by simp only [List.getElem?_toArray, List.getElem?_cons_succ, List.getElem?_cons_zero]; rfl) (fun K hK => ?_)
    go_wp2_with (go_at_call 19; refine (C19.out _ F1.out).mono ?_; rintro e a2 ⟨rfl, hb⟩)
    clear hHeld
    have F2 := Lib.hid (below_from hb F1.out F1.out.size)
    clear hb
    refine hK.out _ _ ⟨(SK.out.past F2.out).cell 0, (SK.out.past F2.out).cell 1, (T1.out.past F2.out).cell 0, (T1.out.past F2.out).cell 1, (T1.out.past F2.out).cell 2, (T1.out.past F2.out).cell 3, (T1.out.past F2.out).cell 4, (T1.out.past F2.out).cell 5, (T1.out.past F2.out).cell 6, (T1.out.past F2.out).cell 7, (T2.out.past F2.out).cell 0, (T2.out.past F2.out).cell 1, (T2.out.past F2.out).cell 2, (T2.out.past F2.out).cell 3, (T2.out.past F2.out).cell 4, (T2.out.past F2.out).cell 5, (T2.out.past F2.out).cell 6, (T2.out.past F2.out).cell 7⟩ (fun hHeld => ?_)
    clear hK K
    try simp only [Act.put, List.setIfInBounds_toArray, List.set_cons_zero, List.set_cons_succ]
    iterate 5
      refine tr_take (v := ?_) (by simp only [List.getElem?_toArray, List.getElem?_cons_succ, List.getElem?_cons_zero]; rfl) (Or.inl ⟨by rfl, ?_⟩) ?_
      rotate_left 1
      · intro w hSw
        try dsimp only at hSw
        go_simp
        try with_reducible rfl
      try simp only [Act.put, List.setIfInBounds_toArray, List.set_cons_zero, List.set_cons_succ]
    refine tr_op (by simp only [List.getElem?_toArray, List.getElem?_cons_succ, List.getElem?_cons_zero]; rfl) (fun K hK => ?_)
    go_wp2_with (go_at_call 20; refine (C20.out _ F2.out).mono ?_; rintro e a3 ⟨rfl, hb⟩)
    clear hHeld
    have F3 := Lib.hid (below_from hb F2.out F2.out.size)
    clear hb
    refine hK.out _ _ ⟨(SK.out.past F3.out).cell 0, (SK.out.past F3.out).cell 1, (T1.out.past F3.out).cell 0, (T1.out.past F3.out).cell 1, (T1.out.past F3.out).cell 2, (T1.out.past F3.out).cell 3, (T1.out.past F3.out).cell 4, (T1.out.past F3.out).cell 5, (T1.out.past F3.out).cell 6, (T1.out.past F3.out).cell 7, (T2.out.past F3.out).cell 0, (T2.out.past F3.out).cell 1, (T2.out.past F3.out).cell 2, (T2.out.past F3.out).cell 3, (T2.out.past F3.out).cell 4, (T2.out.past F3.out).cell 5, (T2.out.past F3.out).cell 6, (T2.out.past F3.out).cell 7⟩ (fun hHeld => ?_)
    clear hK K
    try simp only [Act.put, List.setIfInBounds_toArray, List.set_cons_zero, List.set_cons_succ]
    iterate 9
      refine tr_take (v := ?_) (by simp only [List.getElem?_toArray, List.getElem?_cons_succ, List.getElem?_cons_zero]; rfl) (Or.inl ⟨by rfl, ?_⟩) ?_
      rotate_left 1
      · intro w hSw
        try dsimp only at hSw
        go_simp
        try with_reducible rfl
      try simp only [Act.put, List.setIfInBounds_toArray, List.set_cons_zero, List.set_cons_succ]
    refine tr_op (by simp only [List.getElem?_toArray, List.getElem?_cons_succ, List.getElem?_cons_zero]; rfl) (fun K hK => ?_)
    go_wp2_with (go_at_call 22; refine (C22.out _ F3.out).mono ?_; rintro e a4 ⟨A4, n4, c4, l4, rfl, hs, hm, hb⟩)
    clear hHeld
    have F4 := Lib.hid (below_from hb F3.out F3.out.size)
    have HS4 := Lib.hid hs
    have HM4 := Lib.hid hm
    clear hs hm
    clear hb
    refine hK.out _ _ ⟨(SK.out.past F4.out).cell 0, (SK.out.past F4.out).cell 1, (T1.out.past F4.out).cell 0, (T1.out.past F4.out).cell 1, (T1.out.past F4.out).cell 2, (T1.out.past F4.out).cell 3, (T1.out.past F4.out).cell 4, (T1.out.past F4.out).cell 5, (T1.out.past F4.out).cell 6, (T1.out.past F4.out).cell 7, (T2.out.past F4.out).cell 0, (T2.out.past F4.out).cell 1, (T2.out.past F4.out).cell 2, (T2.out.past F4.out).cell 3, (T2.out.past F4.out).cell 4, (T2.out.past F4.out).cell 5, (T2.out.past F4.out).cell 6, (T2.out.past F4.out).cell 7⟩ (fun hHeld => ?_)
    clear hK K
    try simp only [Act.put, List.setIfInBounds_toArray, List.set_cons_zero, List.set_cons_succ]
    refine tr_op (by simp only [List.getElem?_toArray, List.getElem?_cons_succ, List.getElem?_cons_zero]; rfl) (fun K hK => ?_)
    go_wp2_with (go_at_call 23; refine (C23.out _ F4.out).mono ?_; rintro e a5 ⟨A5, n5, c5, l5, rfl, hs, hm, hb⟩)
    clear hHeld
    have F5 := Lib.hid (below_from hb F4.out F4.out.size)
    have HS5 := Lib.hid hs
    have HM5 := Lib.hid hm
    have HS4b := Lib.hid (HS4.out.below hb)
    clear hs hm
    clear hb
    refine hK.out _ _ ⟨(SK.out.past F5.out).cell 0, (SK.out.past F5.out).cell 1, (T1.out.past F5.out).cell 0, (T1.out.past F5.out).cell 1, (T1.out.past F5.out).cell 2, (T1.out.past F5.out).cell 3, (T1.out.past F5.out).cell 4, (T1.out.past F5.out).cell 5, (T1.out.past F5.out).cell 6, (T1.out.past F5.out).cell 7, (T2.out.past F5.out).cell 0, (T2.out.past F5.out).cell 1, (T2.out.past F5.out).cell 2, (T2.out.past F5.out).cell 3, (T2.out.past F5.out).cell 4, (T2.out.past F5.out).cell 5, (T2.out.past F5.out).cell 6, (T2.out.past F5.out).cell 7⟩ (fun hHeld => ?_)
    clear hK K
    try simp only [Act.put, List.setIfInBounds_toArray, List.set_cons_zero, List.set_cons_succ]
    refine tr_op (by simp only [List.getElem?_toArray, List.getElem?_cons_succ, List.getElem?_cons_zero]; rfl) (fun K hK => ?_)
    go_wp2_with (go_at_call 21; refine (samel_any A4 n4 c4 l4 A5 n5 c5 l5 _ HS4b.out HS5.out).mono ?_; rintro e a6 ⟨rfl, hb⟩; rw [decide_eq_true (HM4.out.trans HM5.out.symm)])
    clear hHeld
    have F6 := Lib.hid (below_from hb F5.out F5.out.size)
    clear hb
    refine hK.out _ _ ⟨(SK.out.past F6.out).cell 0, (SK.out.past F6.out).cell 1, (T1.out.past F6.out).cell 0, (T1.out.past F6.out).cell 1, (T1.out.past F6.out).cell 2, (T1.out.past F6.out).cell 3, (T1.out.past F6.out).cell 4, (T1.out.past F6.out).cell 5, (T1.out.past F6.out).cell 6, (T1.out.past F6.out).cell 7, (T2.out.past F6.out).cell 0, (T2.out.past F6.out).cell 1, (T2.out.past F6.out).cell 2, (T2.out.past F6.out).cell 3, (T2.out.past F6.out).cell 4, (T2.out.past F6.out).cell 5, (T2.out.past F6.out).cell 6, (T2.out.past F6.out).cell 7⟩ (fun hHeld => ?_)
    clear hK K
    try simp only [Act.put, List.setIfInBounds_toArray, List.set_cons_zero, List.set_cons_succ]
    iterate 8
      refine tr_take (v := ?_) (by simp only [List.getElem?_toArray, List.getElem?_cons_succ, List.getElem?_cons_zero]; rfl) (Or.inl ⟨by rfl, ?_⟩) ?_
      rotate_left 1
      · intro w hSw
        try dsimp only at hSw
        go_simp
        try with_reducible rfl
      try simp only [Act.put, List.setIfInBounds_toArray, List.set_cons_zero, List.set_cons_succ]
    refine tr_op (by simp only [List.getElem?_toArray, List.getElem?_cons_succ, List.getElem?_cons_zero]; rfl) (fun K hK => ?_)
    go_wp2_with (go_at_call 25; refine (C25.out _ F6.out).mono ?_; rintro e a7 ⟨A7, n7, c7, rfl, hs, hb⟩)
    clear hHeld
    have F7 := Lib.hid (below_from hb F6.out F6.out.size)
    have HS7 := Lib.hid hs
    clear hs
    clear hb
    refine hK.out _ _ ⟨(SK.out.past F7.out).cell 0, (SK.out.past F7.out).cell 1, (T1.out.past F7.out).cell 0, (T1.out.past F7.out).cell 1, (T1.out.past F7.out).cell 2, (T1.out.past F7.out).cell 3, (T1.out.past F7.out).cell 4, (T1.out.past F7.out).cell 5, (T1.out.past F7.out).cell 6, (T1.out.past F7.out).cell 7, (T2.out.past F7.out).cell 0, (T2.out.past F7.out).cell 1, (T2.out.past F7.out).cell 2, (T2.out.past F7.out).cell 3, (T2.out.past F7.out).cell 4, (T2.out.past F7.out).cell 5, (T2.out.past F7.out).cell 6, (T2.out.past F7.out).cell 7⟩ (fun hHeld => ?_)
    clear hK K
    try simp only [Act.put, List.setIfInBounds_toArray, List.set_cons_zero, List.set_cons_succ]
    refine tr_op (by simp only [List.getElem?_toArray, List.getElem?_cons_succ, List.getElem?_cons_zero]; rfl) (fun K hK => ?_)
    go_wp2_with (go_at_call 26; refine (C26.out _ F7.out).mono ?_; rintro e a8 ⟨A8, n8, c8, rfl, hs, hb⟩)
    clear hHeld
    have F8 := Lib.hid (below_from hb F7.out F7.out.size)
    have HS8 := Lib.hid hs
    have HS7b := Lib.hid (HS7.out.below hb)
    clear hs
    clear hb
    refine hK.out _ _ ⟨(SK.out.past F8.out).cell 0, (SK.out.past F8.out).cell 1, (T1.out.past F8.out).cell 0, (T1.out.past F8.out).cell 1, (T1.out.past F8.out).cell 2, (T1.out.past F8.out).cell 3, (T1.out.past F8.out).cell 4, (T1.out.past F8.out).cell 5, (T1.out.past F8.out).cell 6, (T1.out.past F8.out).cell 7, (T2.out.past F8.out).cell 0, (T2.out.past F8.out).cell 1, (T2.out.past F8.out).cell 2, (T2.out.past F8.out).cell 3, (T2.out.past F8.out).cell 4, (T2.out.past F8.out).cell 5, (T2.out.past F8.out).cell 6, (T2.out.past F8.out).cell 7⟩ (fun hHeld => ?_)
    clear hK K
    try simp only [Act.put, List.setIfInBounds_toArray, List.set_cons_zero, List.set_cons_succ]
    refine tr_op (by simp only [List.getElem?_toArray, List.getElem?_cons_succ, List.getElem?_cons_zero]; rfl) (fun K hK => ?_)
    go_wp2_with (go_at_call 24; refine (texts_any A7 n7 c7 _ A8 n8 c8 _ _ HS7b.out HS8.out).mono ?_; rintro e a9 ⟨rfl, hb⟩; rw [decide_eq_true rfl])
    clear hHeld
    have F9 := Lib.hid (below_from hb F8.out F8.out.size)
    clear hb
    refine hK.out _ _ ⟨(SK.out.past F9.out).cell 0, (SK.out.past F9.out).cell 1, (T1.out.past F9.out).cell 0, (T1.out.past F9.out).cell 1, (T1.out.past F9.out).cell 2, (T1.out.past F9.out).cell 3, (T1.out.past F9.out).cell 4, (T1.out.past F9.out).cell 5, (T1.out.past F9.out).cell 6, (T1.out.past F9.out).cell 7, (T2.out.past F9.out).cell 0, (T2.out.past F9.out).cell 1, (T2.out.past F9.out).cell 2, (T2.out.past F9.out).cell 3, (T2.out.past F9.out).cell 4, (T2.out.past F9.out).cell 5, (T2.out.past F9.out).cell 6, (T2.out.past F9.out).cell 7⟩ (fun hHeld => ?_)
    clear hK K
    try simp only [Act.put, List.setIfInBounds_toArray, List.set_cons_zero, List.set_cons_succ]
    iterate 1
      refine tr_take (v := ?_) (by simp only [List.getElem?_toArray, List.getElem?_cons_succ, List.getElem?_cons_zero]; rfl) (Or.inl ⟨by rfl, ?_⟩) ?_
      rotate_left 1
      · intro w hSw
        try dsimp only at hSw
        go_simp
        try with_reducible rfl
      try simp only [Act.put, List.setIfInBounds_toArray, List.set_cons_zero, List.set_cons_succ]
    refine tr_tail rfl ?_
    clear hHeld
    go_wp2_with fail
    go_ret
    exact ⟨rfl, below_from F9.out BK.out BK.out.size⟩

end Go.Proofs.Ytnigjchgpmladaa
