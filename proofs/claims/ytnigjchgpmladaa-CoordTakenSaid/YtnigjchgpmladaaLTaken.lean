/- CoordTaken: what is taken in is there till it is done. -/
import Derived.Test.YtnigjchgpmladaaCnt
import Derived.Test.YtnigjchgpmladaaLive
import Derived.Deep.DeepCutAuto
namespace Go.Proofs.Ytnigjchgpmladaa
open Go.RowKit Go.Shelf

theorem others_at {w : World} {o q : Tc} {V R : Cv} {pid : Int} (h : Tc.Is w o V) (k : Tc.Is w q R) (hn : R.next = V.next) (hl : R.L.length = V.L.length) (hs : ∀ j (hj : j < V.L.length), V.L[j].pid ≠ pid → R.L[j]? = some V.L[j]) : Calls Try.prog 40 #[o.v, q.v, .int .i64 pid] w fun e w' => e = .returned (.bool true) ∧ Below w.heap.size w w' := by
  obtain ⟨h1, rfl⟩ := h
  obtain ⟨k1, rfl⟩ := k
  refine others_true o q pid w h1 k1 hn.symm (by rw [← h1.num, ← k1.num]; exact hl.symm) (fun j hj hj' hne => ?_)
  have := hs j (by show j < (o.L.map Tx.val).length; rw [List.length_map]; exact hj) (by show ((o.L.map Tx.val)[j]'_).pid ≠ pid; rw [List.getElem_map]; exact hne)
  have e1 : (q.L.map Tx.val)[j]? = some q.L[j].val := by rw [List.getElem?_map, List.getElem?_eq_getElem hj']; rfl
  have e2 : (o.L.map Tx.val)[j]'(by rw [List.length_map]; exact hj) = o.L[j].val := by rw [List.getElem_map]
  have e3 : (q.L.map Tx.val)[j]? = some ((o.L.map Tx.val)[j]'(by rw [List.length_map]; exact hj)) := this
  rw [e1, e2] at e3
  exact (Option.some.inj e3).symm
theorem find_noC (pid : Int) : findV noC.L pid = (noT, false) := rfl
set_option maxHeartbeats 16000000 in
set_option maxRecDepth 100000 in
theorem ltaken_any (o : Tc) (a : Av) (w : World) (ho : Tc.At w o) (ha : a.wf) : Calls Try.prog 10 #[o.v, a.v] w fun e w' => e = .returned (.bool true) ∧ Below w.heap.size w w' := by
  have bw : Below w.heap.size w ((w.alloc (.cells #[.int .i64 o.next, .slice o.A o.n o.c] 24)).alloc (.cells #[.string a.id, .int .i64 a.pid, .int .i64 a.gen, .string a.tp.t, .int .i64 a.tp.p, .int .i64 a.tp.h, .string a.g, .bool a.yes, .int .i64 a.now] 47)) := (below_alloc1 w _).alloc (by simp) _
  obtain ⟨W0, hW0⟩ : ∃ W, W = ((w.alloc (.cells #[.int .i64 o.next, .slice o.A o.n o.c] 24)).alloc (.cells #[.string a.id, .int .i64 a.pid, .int .i64 a.gen, .string a.tp.t, .int .i64 a.tp.p, .int .i64 a.tp.h, .string a.g, .bool a.yes, .int .i64 a.now] 47)) := ⟨_, rfl⟩
  rw [← hW0] at bw
  have B0 := Lib.hid bw
  have SO0 := Lib.hid (show Has W0 w.heap.size #[.int .i64 o.next, .slice o.A o.n o.c] from by rw [hW0]; exact (Has.newAt w _ 24 rfl).alloc _)
  have cSO0 := SO0.out.cell
  have lSO0 := SO0.out.lt
  have SA0 := Lib.hid (show Has W0 (w.heap.size + 1) #[.string a.id, .int .i64 a.pid, .int .i64 a.gen, .string a.tp.t, .int .i64 a.tp.p, .int .i64 a.tp.h, .string a.g, .bool a.yes, .int .i64 a.now] from by rw [hW0]; exact Has.newAt _ _ 47 (by simp))
  have cSA0 := SA0.out.cell
  have lSA0 := SA0.out.lt
  have O0 := Lib.hid (show Tc.Is W0 o o.val from ⟨ho.below bw, rfl⟩)
  have HWW := Lib.hid hW0
  have LV := Lib.hid live_any
  have HA := Lib.hid ha
  clear bw ho hW0  ha
  go_enter Try.func10, Try.ntmps10
  go_upto_region 1 with (fail)
  rw [← HWW.out]
  go_wp2_with fail
  refine (LV.out _).mono ?_
  intro e w1 hx
  obtain ⟨rfl, hb⟩ := hx
  have B1 := Lib.hid (below_from hb B0.out B0.out.size)
  have SO1 := Lib.hid (SO0.out.past hb)
  have cSO1 := SO1.out.cell
  have lSO1 := SO1.out.lt
  have SA1 := Lib.hid (SA0.out.past hb)
  have cSA1 := SA1.out.cell
  have lSA1 := SA1.out.lt
  have O1 := Lib.hid (Tc.Is.past O0.out hb)
  clear cSO0 lSO0 cSA0 lSA0 hb
  go_wp2_with fail
  cases hfw : fewB o.val with
  | false =>
    refine (few_at O1.out hfw).mono ?_
    intro e w2 hx
    obtain ⟨rfl, hb⟩ := hx
    have B2 := Lib.hid (below_from hb B1.out B1.out.size)
    have SO2 := Lib.hid (SO1.out.past hb)
    have cSO2 := SO2.out.cell
    have lSO2 := SO2.out.lt
    have SA2 := Lib.hid (SA1.out.past hb)
    have cSA2 := SA2.out.cell
    have lSA2 := SA2.out.lt
    have O2 := Lib.hid (Tc.Is.past O1.out hb)
    clear cSO1 lSO1 cSA1 lSA1 hb
    go_wp2_with fail
    go_ret
    exact ⟨rfl, B2.out⟩
  | true =>
  have FEW := Lib.hid (fewB_few hfw)
  refine (few_at O1.out hfw).mono ?_
  intro e w2 hx
  obtain ⟨rfl, hb⟩ := hx
  have B2 := Lib.hid (below_from hb B1.out B1.out.size)
  have SO2 := Lib.hid (SO1.out.past hb)
  have cSO2 := SO2.out.cell
  have lSO2 := SO2.out.lt
  have SA2 := Lib.hid (SA1.out.past hb)
  have cSA2 := SA2.out.cell
  have lSA2 := SA2.out.lt
  have O2 := Lib.hid (Tc.Is.past O1.out hb)
  clear cSO1 lSO1 cSA1 lSA1 hb hfw
  go_wp2_with fail
  cases hsh : shortB a with
  | false =>
    have SH := Lib.hid (short_any a)
    rw [hsh] at SH
    clear hsh
    refine (SH.out _).mono ?_
    intro e w3 hx
    obtain ⟨rfl, hb⟩ := hx
    have B3 := Lib.hid (below_from hb B2.out B2.out.size)
    have SO3 := Lib.hid (SO2.out.past hb)
    have cSO3 := SO3.out.cell
    have lSO3 := SO3.out.lt
    have SA3 := Lib.hid (SA2.out.past hb)
    have cSA3 := SA3.out.cell
    have lSA3 := SA3.out.lt
    have O3 := Lib.hid (Tc.Is.past O2.out hb)
    clear cSO2 lSO2 cSA2 lSA2 hb
    go_wp2_with fail
    go_ret
    exact ⟨rfl, B3.out⟩
  | true =>
  have SH := Lib.hid (short_any a)
  rw [hsh] at SH
  clear hsh
  refine (SH.out _).mono ?_
  intro e w3 hx
  obtain ⟨rfl, hb⟩ := hx
  have B3 := Lib.hid (below_from hb B2.out B2.out.size)
  have SO3 := Lib.hid (SO2.out.past hb)
  have cSO3 := SO3.out.cell
  have lSO3 := SO3.out.lt
  have SA3 := Lib.hid (SA2.out.past hb)
  have cSA3 := SA3.out.cell
  have lSA3 := SA3.out.lt
  have O3 := Lib.hid (Tc.Is.past O2.out hb)
  clear cSO2 lSO2 cSA2 lSA2 hb
  obtain ⟨V1, hV1⟩ : ∃ V, addV o.val a.id a.pid a.gen a.tp a.now = V := ⟨_, rfl⟩
  obtain ⟨V1, e1⟩ := V1
  obtain ⟨V2, hV2⟩ : ∃ V, sendV o.val a.id a.pid a.gen a.g a.now = V := ⟨_, rfl⟩
  obtain ⟨V2, e2⟩ := V2
  have H1 := Lib.hid hV1
  have H2 := Lib.hid hV2
  go_wp2_with fail
  refine (add_at O3.out FEW.out HA.out.tp H1.out).mono ?_
  intro e w4 hx
  obtain ⟨o1, rfl, ha, hb⟩ := hx
  have bk4 := hb.alloc hb.size (.cells #[.int .i64 o1.next, .slice o1.A o1.n o1.c] 24)
  have B4 := Lib.hid (below_from bk4 B3.out B3.out.size)
  have SO4 := Lib.hid (SO3.out.past bk4)
  have cSO4 := SO4.out.cell
  have lSO4 := SO4.out.lt
  have SA4 := Lib.hid (SA3.out.past bk4)
  have cSA4 := SA4.out.cell
  have lSA4 := SA4.out.lt
  have O4 := Lib.hid (Tc.Is.past O3.out bk4)
  have O1_4 := Lib.hid (ha.past (below_alloc1 w4 (.cells #[.int .i64 o1.next, .slice o1.A o1.n o1.c] 24)))
  have S1_4 := Lib.hid (Has.newAt w4 #[.int .i64 o1.next, .slice o1.A o1.n o1.c] 24 (g := w4.heap.size) rfl)
  have cS1_4 := S1_4.out.cell
  have lS1_4 := S1_4.out.lt
  clear cSO3 lSO3 cSA3 lSA3 hb ha bk4
  go_wp2_with fail
  refine (send_at O4.out FEW.out HA.out.g H2.out).mono ?_
  intro e w5 hx
  obtain ⟨o2, rfl, ha, hb⟩ := hx
  have bk5 := hb.alloc hb.size (.cells #[.int .i64 o2.next, .slice o2.A o2.n o2.c] 24)
  have B5 := Lib.hid (below_from bk5 B4.out B4.out.size)
  have SO5 := Lib.hid (SO4.out.past bk5)
  have cSO5 := SO5.out.cell
  have lSO5 := SO5.out.lt
  have SA5 := Lib.hid (SA4.out.past bk5)
  have cSA5 := SA5.out.cell
  have lSA5 := SA5.out.lt
  have O5 := Lib.hid (Tc.Is.past O4.out bk5)
  have O1_5 := Lib.hid (Tc.Is.past O1_4.out bk5)
  have S1_5 := Lib.hid (S1_4.out.past bk5)
  have cS1_5 := S1_5.out.cell
  have lS1_5 := S1_5.out.lt
  have O2_5 := Lib.hid (ha.past (below_alloc1 w5 (.cells #[.int .i64 o2.next, .slice o2.A o2.n o2.c] 24)))
  have S2_5 := Lib.hid (Has.newAt w5 #[.int .i64 o2.next, .slice o2.A o2.n o2.c] 24 (g := w5.heap.size) rfl)
  have cS2_5 := S2_5.out.cell
  have lS2_5 := S2_5.out.lt
  clear cSO4 lSO4 cSA4 lSA4 cS1_4 lS1_4 hb ha bk5
  by_cases h1 : e1 = 0
  · subst h1
    obtain ⟨p1, y1, y2, y3, y4, y5, y6, y7⟩ := add_law hV1
    have FX1 := Lib.hid (add_fine hV1).2.1.fewV
    have P1 := Lib.hid y1
    have S1t := Lib.hid y2
    have C1 := Lib.hid y3
    have N1 := Lib.hid y4
    have L1 := Lib.hid y5
    have K1 := Lib.hid y6
    have A1 := Lib.hid y7
    clear y1 y2 y3 y4 y5 y6 y7 hV1
    by_cases h2 : e2 = 0
    · subst h2
      obtain ⟨p2, y1, y2, y3, y4, y5, y6, y7⟩ := send_law hV2
      have FX2 := Lib.hid (send_fine hV2).2.1.fewV
      have P2 := Lib.hid y1
      have S2t := Lib.hid y2
      have C2 := Lib.hid y3
      have N2 := Lib.hid y4
      have L2 := Lib.hid y5
      have K2 := Lib.hid y6
      have A2 := Lib.hid y7
      clear y1 y2 y3 y4 y5 y6 y7 hV2
      go_wp2_with fail
      refine (findc_at O1_5.out P1.out).mono ?_
      intro e w6 hx
      obtain ⟨x3, rfl, ha, hb⟩ := hx
      have bk6 := hb.alloc hb.size (.cells #[.string x3.id, .int .i64 x3.pid, .int .i64 x3.gen, .int .i64 x3.no, .int .i64 x3.st, .slice x3.PA x3.Pn x3.Pc, .slice x3.GA x3.Gn x3.Gc, .int .i64 x3.at_] 33)
      have B6 := Lib.hid (below_from bk6 B5.out B5.out.size)
      have SO6 := Lib.hid (SO5.out.past bk6)
      have cSO6 := SO6.out.cell
      have lSO6 := SO6.out.lt
      have SA6 := Lib.hid (SA5.out.past bk6)
      have cSA6 := SA6.out.cell
      have lSA6 := SA6.out.lt
      have O6 := Lib.hid (Tc.Is.past O5.out bk6)
      have O1_6 := Lib.hid (Tc.Is.past O1_5.out bk6)
      have S1_6 := Lib.hid (S1_5.out.past bk6)
      have cS1_6 := S1_6.out.cell
      have lS1_6 := S1_6.out.lt
      have O2_6 := Lib.hid (Tc.Is.past O2_5.out bk6)
      have S2_6 := Lib.hid (S2_5.out.past bk6)
      have cS2_6 := S2_6.out.cell
      have lS2_6 := S2_6.out.lt
      have X3_6 := Lib.hid (ha.past (below_alloc1 w6 (.cells #[.string x3.id, .int .i64 x3.pid, .int .i64 x3.gen, .int .i64 x3.no, .int .i64 x3.st, .slice x3.PA x3.Pn x3.Pc, .slice x3.GA x3.Gn x3.Gc, .int .i64 x3.at_] 33)))
      have T3_6 := Lib.hid (Has.newAt w6 #[.string x3.id, .int .i64 x3.pid, .int .i64 x3.gen, .int .i64 x3.no, .int .i64 x3.st, .slice x3.PA x3.Pn x3.Pc, .slice x3.GA x3.Gn x3.Gc, .int .i64 x3.at_] 33 (g := w6.heap.size) rfl)
      have cT3_6 := T3_6.out.cell
      have lT3_6 := T3_6.out.lt
      clear cSO5 lSO5 cSA5 lSA5 cS1_5 lS1_5 cS2_5 lS2_5 hb ha bk6
      go_wp2_with fail
      refine (findc_at O2_6.out P2.out).mono ?_
      intro e w7 hx
      obtain ⟨x4, rfl, ha, hb⟩ := hx
      have bk7 := hb.alloc hb.size (.cells #[.string x4.id, .int .i64 x4.pid, .int .i64 x4.gen, .int .i64 x4.no, .int .i64 x4.st, .slice x4.PA x4.Pn x4.Pc, .slice x4.GA x4.Gn x4.Gc, .int .i64 x4.at_] 33)
      have B7 := Lib.hid (below_from bk7 B6.out B6.out.size)
      have SO7 := Lib.hid (SO6.out.past bk7)
      have cSO7 := SO7.out.cell
      have lSO7 := SO7.out.lt
      have SA7 := Lib.hid (SA6.out.past bk7)
      have cSA7 := SA7.out.cell
      have lSA7 := SA7.out.lt
      have O7 := Lib.hid (Tc.Is.past O6.out bk7)
      have O1_7 := Lib.hid (Tc.Is.past O1_6.out bk7)
      have S1_7 := Lib.hid (S1_6.out.past bk7)
      have cS1_7 := S1_7.out.cell
      have lS1_7 := S1_7.out.lt
      have O2_7 := Lib.hid (Tc.Is.past O2_6.out bk7)
      have S2_7 := Lib.hid (S2_6.out.past bk7)
      have cS2_7 := S2_7.out.cell
      have lS2_7 := S2_7.out.lt
      have X3_7 := Lib.hid (Tx.Is.past X3_6.out bk7)
      have T3_7 := Lib.hid (T3_6.out.past bk7)
      have cT3_7 := T3_7.out.cell
      have lT3_7 := T3_7.out.lt
      have X4_7 := Lib.hid (ha.past (below_alloc1 w7 (.cells #[.string x4.id, .int .i64 x4.pid, .int .i64 x4.gen, .int .i64 x4.no, .int .i64 x4.st, .slice x4.PA x4.Pn x4.Pc, .slice x4.GA x4.Gn x4.Gc, .int .i64 x4.at_] 33)))
      have T4_7 := Lib.hid (Has.newAt w7 #[.string x4.id, .int .i64 x4.pid, .int .i64 x4.gen, .int .i64 x4.no, .int .i64 x4.st, .slice x4.PA x4.Pn x4.Pc, .slice x4.GA x4.Gn x4.Gc, .int .i64 x4.at_] 33 (g := w7.heap.size) rfl)
      have cT4_7 := T4_7.out.cell
      have lT4_7 := T4_7.out.lt
      clear cSO6 lSO6 cSA6 lSA6 cS1_6 lS1_6 cS2_6 lS2_6 cT3_6 lT3_6 hb ha bk7
      go_upto_region 10 with (fail)
      obtain ⟨WZ, hWZ⟩ : ∃ W, W = w7.alloc (.cells #[.string x4.id, .int .i64 x4.pid, .int .i64 x4.gen, .int .i64 x4.no, .int .i64 x4.st, .slice x4.PA x4.Pn x4.Pc, .slice x4.GA x4.Gn x4.Gc, .int .i64 x4.at_] 33) := ⟨_, rfl⟩
      rw [← hWZ] at B7 SO7 SA7 O7 O1_7 S1_7 O2_7 S2_7 X3_7 T3_7 X4_7 T4_7 cSO7 lSO7 cSA7 lSA7 cS1_7 lS1_7 cS2_7 lS2_7 cT3_7 lT3_7 cT4_7 lT4_7
      rw [← hWZ]
      clear hWZ
      have F0 := Lib.hid (Below.refl WZ.heap.size WZ)
      clear cSO7 lSO7 cSA7 lSA7 cS1_7 lS1_7 cS2_7 lS2_7 cT3_7 lT3_7 cT4_7 lT4_7
      have z1 : x3.st = 1 := (congrArg Tv.st X3_7.out.2).trans S1t.out
      have z2 : onceN x3.P a.tp = 1 := by rw [show x3.P = p1.P from congrArg Tv.P X3_7.out.2]; exact C1.out
      have CN1 := Lib.hid (fun W (h : Below WZ.heap.size WZ W) => part_count x3.PA x3.Pn x3.Pc x3.P a.tp W ((X3_7.out.past h).1.p))
      simp only [z2] at CN1
      have TZ1 := T3_7.out
      rw [z1] at TZ1
      have TY1 := Lib.hid TZ1
      have OT1 := Lib.hid (fun W (h : Below WZ.heap.size WZ W) => others_at (pid := a.pid) (O7.out.past h) (O1_7.out.past h) N1.out L1.out K1.out)
      clear z1 z2 TZ1
      have cSOx := (SO7.out.past F0.out).cell; have lSOx := (SO7.out.past F0.out).lt; have cSAx := (SA7.out.past F0.out).cell; have lSAx := (SA7.out.past F0.out).lt; have cS1_x := (S1_7.out.past F0.out).cell; have lS1_x := (S1_7.out.past F0.out).lt; have cS2_x := (S2_7.out.past F0.out).cell; have lS2_x := (S2_7.out.past F0.out).lt; have ct := (TY1.out.past F0.out).cell; have lt := (TY1.out.past F0.out).lt
      go_upto_region 12 with (first
        | (go_at_call 39; refine (CN1.out _ F0.out).mono ?_; rintro e wa1 ⟨rfl, hb⟩; have F1 := Lib.hid (below_from hb F0.out F0.out.size); clear hb cSOx lSOx cSAx lSAx cS1_x lS1_x cS2_x lS2_x ct lt; have cSOx := (SO7.out.past F1.out).cell; have lSOx := (SO7.out.past F1.out).lt; have cSAx := (SA7.out.past F1.out).cell; have lSAx := (SA7.out.past F1.out).lt; have cS1_x := (S1_7.out.past F1.out).cell; have lS1_x := (S1_7.out.past F1.out).lt; have cS2_x := (S2_7.out.past F1.out).cell; have lS2_x := (S2_7.out.past F1.out).lt)
        | (go_at_call 40; refine (OT1.out _ F1.out).mono ?_; rintro e wb1 ⟨rfl, hb⟩; have F2 := Lib.hid (below_from hb F1.out F1.out.size); clear hb cSOx lSOx cSAx lSAx cS1_x lS1_x cS2_x lS2_x))
      have z1 : x4.st = 1 := (congrArg Tv.st X4_7.out.2).trans S2t.out
      have z2 : onceN x4.G a.g = 1 := by rw [show x4.G = p2.G from congrArg Tv.G X4_7.out.2]; exact C2.out
      have CN2 := Lib.hid (fun W (h : Below WZ.heap.size WZ W) => name_count x4.GA x4.Gn x4.Gc x4.G a.g W ((X4_7.out.past h).1.g))
      simp only [z2] at CN2
      have TZ2 := T4_7.out
      rw [z1] at TZ2
      have TY2 := Lib.hid TZ2
      have OT2 := Lib.hid (fun W (h : Below WZ.heap.size WZ W) => others_at (pid := a.pid) (O7.out.past h) (O2_7.out.past h) N2.out L2.out K2.out)
      clear z1 z2 TZ2
      have cSOx := (SO7.out.past F2.out).cell; have lSOx := (SO7.out.past F2.out).lt; have cSAx := (SA7.out.past F2.out).cell; have lSAx := (SA7.out.past F2.out).lt; have cS1_x := (S1_7.out.past F2.out).cell; have lS1_x := (S1_7.out.past F2.out).lt; have cS2_x := (S2_7.out.past F2.out).cell; have lS2_x := (S2_7.out.past F2.out).lt; have ct := (TY2.out.past F2.out).cell; have lt := (TY2.out.past F2.out).lt
      go_upto_region 14 with (first
        | (go_at_call 30; refine (CN2.out _ F2.out).mono ?_; rintro e wa2 ⟨rfl, hb⟩; have F3 := Lib.hid (below_from hb F2.out F2.out.size); clear hb cSOx lSOx cSAx lSAx cS1_x lS1_x cS2_x lS2_x ct lt; have cSOx := (SO7.out.past F3.out).cell; have lSOx := (SO7.out.past F3.out).lt; have cSAx := (SA7.out.past F3.out).cell; have lSAx := (SA7.out.past F3.out).lt; have cS1_x := (S1_7.out.past F3.out).cell; have lS1_x := (S1_7.out.past F3.out).lt; have cS2_x := (S2_7.out.past F3.out).cell; have lS2_x := (S2_7.out.past F3.out).lt)
        | (go_at_call 40; refine (OT2.out _ F3.out).mono ?_; rintro e wb2 ⟨rfl, hb⟩; have F4 := Lib.hid (below_from hb F3.out F3.out.size); clear hb cSOx lSOx cSAx lSAx cS1_x lS1_x cS2_x lS2_x))
      have hb := F4.out
      have B8 := Lib.hid (below_from hb B7.out B7.out.size)
      have SO8 := Lib.hid (SO7.out.past hb)
      have cSO8 := SO8.out.cell
      have lSO8 := SO8.out.lt
      have SA8 := Lib.hid (SA7.out.past hb)
      have cSA8 := SA8.out.cell
      have lSA8 := SA8.out.lt
      have O8 := Lib.hid (Tc.Is.past O7.out hb)
      have O1_8 := Lib.hid (Tc.Is.past O1_7.out hb)
      have S1_8 := Lib.hid (S1_7.out.past hb)
      have cS1_8 := S1_8.out.cell
      have lS1_8 := S1_8.out.lt
      have O2_8 := Lib.hid (Tc.Is.past O2_7.out hb)
      have S2_8 := Lib.hid (S2_7.out.past hb)
      have cS2_8 := S2_8.out.cell
      have lS2_8 := S2_8.out.lt
      have X3_8 := Lib.hid (Tx.Is.past X3_7.out hb)
      have T3_8 := Lib.hid (T3_7.out.past hb)
      have cT3_8 := T3_8.out.cell
      have lT3_8 := T3_8.out.lt
      have X4_8 := Lib.hid (Tx.Is.past X4_7.out hb)
      have T4_8 := Lib.hid (T4_7.out.past hb)
      have cT4_8 := T4_8.out.cell
      have lT4_8 := T4_8.out.lt
      clear hb
      go_wp2_with fail
      refine (add_at O1_8.out FX1.out HA.out.tp A1.out).mono ?_
      intro e w8 hx
      obtain ⟨o5, rfl, ha, hb⟩ := hx
      have bk9 := hb.alloc hb.size (.cells #[.int .i64 o5.next, .slice o5.A o5.n o5.c] 24)
      have B9 := Lib.hid (below_from bk9 B8.out B8.out.size)
      have SO9 := Lib.hid (SO8.out.past bk9)
      have cSO9 := SO9.out.cell
      have lSO9 := SO9.out.lt
      have SA9 := Lib.hid (SA8.out.past bk9)
      have cSA9 := SA9.out.cell
      have lSA9 := SA9.out.lt
      have O9 := Lib.hid (Tc.Is.past O8.out bk9)
      have O1_9 := Lib.hid (Tc.Is.past O1_8.out bk9)
      have S1_9 := Lib.hid (S1_8.out.past bk9)
      have cS1_9 := S1_9.out.cell
      have lS1_9 := S1_9.out.lt
      have O2_9 := Lib.hid (Tc.Is.past O2_8.out bk9)
      have S2_9 := Lib.hid (S2_8.out.past bk9)
      have cS2_9 := S2_9.out.cell
      have lS2_9 := S2_9.out.lt
      have X3_9 := Lib.hid (Tx.Is.past X3_8.out bk9)
      have T3_9 := Lib.hid (T3_8.out.past bk9)
      have cT3_9 := T3_9.out.cell
      have lT3_9 := T3_9.out.lt
      have X4_9 := Lib.hid (Tx.Is.past X4_8.out bk9)
      have T4_9 := Lib.hid (T4_8.out.past bk9)
      have cT4_9 := T4_9.out.cell
      have lT4_9 := T4_9.out.lt
      have O5_9 := Lib.hid (ha.past (below_alloc1 w8 (.cells #[.int .i64 o5.next, .slice o5.A o5.n o5.c] 24)))
      have S5_9 := Lib.hid (Has.newAt w8 #[.int .i64 o5.next, .slice o5.A o5.n o5.c] 24 (g := w8.heap.size) rfl)
      have cS5_9 := S5_9.out.cell
      have lS5_9 := S5_9.out.lt
      clear cSO8 lSO8 cSA8 lSA8 cS1_8 lS1_8 cS2_8 lS2_8 cT3_8 lT3_8 cT4_8 lT4_8 hb ha bk9
      go_wp2_with fail
      refine (send_at O2_9.out FX2.out HA.out.g A2.out).mono ?_
      intro e w9 hx
      obtain ⟨o6, rfl, ha, hb⟩ := hx
      have bk10 := hb.alloc hb.size (.cells #[.int .i64 o6.next, .slice o6.A o6.n o6.c] 24)
      have B10 := Lib.hid (below_from bk10 B9.out B9.out.size)
      have SO10 := Lib.hid (SO9.out.past bk10)
      have cSO10 := SO10.out.cell
      have lSO10 := SO10.out.lt
      have SA10 := Lib.hid (SA9.out.past bk10)
      have cSA10 := SA10.out.cell
      have lSA10 := SA10.out.lt
      have O10 := Lib.hid (Tc.Is.past O9.out bk10)
      have O1_10 := Lib.hid (Tc.Is.past O1_9.out bk10)
      have S1_10 := Lib.hid (S1_9.out.past bk10)
      have cS1_10 := S1_10.out.cell
      have lS1_10 := S1_10.out.lt
      have O2_10 := Lib.hid (Tc.Is.past O2_9.out bk10)
      have S2_10 := Lib.hid (S2_9.out.past bk10)
      have cS2_10 := S2_10.out.cell
      have lS2_10 := S2_10.out.lt
      have X3_10 := Lib.hid (Tx.Is.past X3_9.out bk10)
      have T3_10 := Lib.hid (T3_9.out.past bk10)
      have cT3_10 := T3_10.out.cell
      have lT3_10 := T3_10.out.lt
      have X4_10 := Lib.hid (Tx.Is.past X4_9.out bk10)
      have T4_10 := Lib.hid (T4_9.out.past bk10)
      have cT4_10 := T4_10.out.cell
      have lT4_10 := T4_10.out.lt
      have O5_10 := Lib.hid (Tc.Is.past O5_9.out bk10)
      have S5_10 := Lib.hid (S5_9.out.past bk10)
      have cS5_10 := S5_10.out.cell
      have lS5_10 := S5_10.out.lt
      have O6_10 := Lib.hid (ha.past (below_alloc1 w9 (.cells #[.int .i64 o6.next, .slice o6.A o6.n o6.c] 24)))
      have S6_10 := Lib.hid (Has.newAt w9 #[.int .i64 o6.next, .slice o6.A o6.n o6.c] 24 (g := w9.heap.size) rfl)
      have cS6_10 := S6_10.out.cell
      have lS6_10 := S6_10.out.lt
      clear cSO9 lSO9 cSA9 lSA9 cS1_9 lS1_9 cS2_9 lS2_9 cT3_9 lT3_9 cT4_9 lT4_9 cS5_9 lS5_9 hb ha bk10
      have SM1 := Lib.hid (same_at O5_10.out O1_10.out)
      go_upto_region 16 with (fail)
      obtain ⟨WY, hWY⟩ : ∃ W, W = w9.alloc (.cells #[.int .i64 o6.next, .slice o6.A o6.n o6.c] 24) := ⟨_, rfl⟩
      rw [← hWY] at SM1 B10 SO10 SA10 O10 O1_10 S1_10 O2_10 S2_10 X3_10 T3_10 X4_10 T4_10 O5_10 S5_10 O6_10 S6_10 cSO10 lSO10 cSA10 lSA10 cS1_10 lS1_10 cS2_10 lS2_10 cT3_10 lT3_10 cT4_10 lT4_10 cS5_10 lS5_10 cS6_10 lS6_10
      rw [← hWY]
      clear hWY
      have SM2 := Lib.hid (fun W (h : Below WY.heap.size WY W) => same_at (O6_10.out.past h) (O2_10.out.past h))
      go_wp2_with (first
        | (go_at_call 17; have G1' := G1; refine (SM2.out _ G1.out).mono ?_; rintro e wd ⟨rfl, hb⟩; have G2 := Lib.hid (below_from hb G1.out G1.out.size); clear hb G1')
        | (go_at_call 17; refine SM1.out.mono ?_; rintro e wc ⟨rfl, hb⟩; have G1 := Lib.hid hb; have c6 := (S6_10.out.past hb).cell; have l6 := (S6_10.out.past hb).lt; have c2 := (S2_10.out.past hb).cell; have l2 := (S2_10.out.past hb).lt; clear hb cSO10 lSO10 cSA10 lSA10 cS1_10 lS1_10 cS2_10 lS2_10 cT3_10 lT3_10 cT4_10 lT4_10 cS5_10 lS5_10 cS6_10 lS6_10))
      go_ret
      exact ⟨rfl, below_from G2.out B10.out B10.out.size⟩
    · have Z2 := Lib.hid (ask_fst (show askV o.val a.id a.pid a.gen _ _ = (V2, e2) from hV2) h2)
      have m21 : (e2 != 0) = true := by rw [bne_iff_ne]; exact h2
      have m22 : (e2 == 0) = false := by rw [beq_eq_false_iff_ne]; exact h2
      clear hV2 h2
      have FX2 := Lib.hid (show FewV V2 from by rw [Z2.out]; exact noC_few)
      have P2 := Lib.hid (show findV V2.L a.pid = (noT, false) from by rw [Z2.out]; exact find_noC _)
      obtain ⟨RA2, hRA2⟩ : ∃ V, sendV V2 a.id a.pid a.gen a.g a.now = V := ⟨_, rfl⟩
      obtain ⟨RV2, rc2⟩ := RA2
      have A2 := Lib.hid hRA2
      clear hRA2
      go_wp2_with fail
      refine (findc_at O1_5.out P1.out).mono ?_
      intro e w6 hx
      obtain ⟨x3, rfl, ha, hb⟩ := hx
      have bk6 := hb.alloc hb.size (.cells #[.string x3.id, .int .i64 x3.pid, .int .i64 x3.gen, .int .i64 x3.no, .int .i64 x3.st, .slice x3.PA x3.Pn x3.Pc, .slice x3.GA x3.Gn x3.Gc, .int .i64 x3.at_] 33)
      have B6 := Lib.hid (below_from bk6 B5.out B5.out.size)
      have SO6 := Lib.hid (SO5.out.past bk6)
      have cSO6 := SO6.out.cell
      have lSO6 := SO6.out.lt
      have SA6 := Lib.hid (SA5.out.past bk6)
      have cSA6 := SA6.out.cell
      have lSA6 := SA6.out.lt
      have O6 := Lib.hid (Tc.Is.past O5.out bk6)
      have O1_6 := Lib.hid (Tc.Is.past O1_5.out bk6)
      have S1_6 := Lib.hid (S1_5.out.past bk6)
      have cS1_6 := S1_6.out.cell
      have lS1_6 := S1_6.out.lt
      have O2_6 := Lib.hid (Tc.Is.past O2_5.out bk6)
      have S2_6 := Lib.hid (S2_5.out.past bk6)
      have cS2_6 := S2_6.out.cell
      have lS2_6 := S2_6.out.lt
      have X3_6 := Lib.hid (ha.past (below_alloc1 w6 (.cells #[.string x3.id, .int .i64 x3.pid, .int .i64 x3.gen, .int .i64 x3.no, .int .i64 x3.st, .slice x3.PA x3.Pn x3.Pc, .slice x3.GA x3.Gn x3.Gc, .int .i64 x3.at_] 33)))
      have T3_6 := Lib.hid (Has.newAt w6 #[.string x3.id, .int .i64 x3.pid, .int .i64 x3.gen, .int .i64 x3.no, .int .i64 x3.st, .slice x3.PA x3.Pn x3.Pc, .slice x3.GA x3.Gn x3.Gc, .int .i64 x3.at_] 33 (g := w6.heap.size) rfl)
      have cT3_6 := T3_6.out.cell
      have lT3_6 := T3_6.out.lt
      clear cSO5 lSO5 cSA5 lSA5 cS1_5 lS1_5 cS2_5 lS2_5 hb ha bk6
      go_wp2_with fail
      refine (findc_at O2_6.out P2.out).mono ?_
      intro e w7 hx
      obtain ⟨x4, rfl, ha, hb⟩ := hx
      have bk7 := hb.alloc hb.size (.cells #[.string x4.id, .int .i64 x4.pid, .int .i64 x4.gen, .int .i64 x4.no, .int .i64 x4.st, .slice x4.PA x4.Pn x4.Pc, .slice x4.GA x4.Gn x4.Gc, .int .i64 x4.at_] 33)
      have B7 := Lib.hid (below_from bk7 B6.out B6.out.size)
      have SO7 := Lib.hid (SO6.out.past bk7)
      have cSO7 := SO7.out.cell
      have lSO7 := SO7.out.lt
      have SA7 := Lib.hid (SA6.out.past bk7)
      have cSA7 := SA7.out.cell
      have lSA7 := SA7.out.lt
      have O7 := Lib.hid (Tc.Is.past O6.out bk7)
      have O1_7 := Lib.hid (Tc.Is.past O1_6.out bk7)
      have S1_7 := Lib.hid (S1_6.out.past bk7)
      have cS1_7 := S1_7.out.cell
      have lS1_7 := S1_7.out.lt
      have O2_7 := Lib.hid (Tc.Is.past O2_6.out bk7)
      have S2_7 := Lib.hid (S2_6.out.past bk7)
      have cS2_7 := S2_7.out.cell
      have lS2_7 := S2_7.out.lt
      have X3_7 := Lib.hid (Tx.Is.past X3_6.out bk7)
      have T3_7 := Lib.hid (T3_6.out.past bk7)
      have cT3_7 := T3_7.out.cell
      have lT3_7 := T3_7.out.lt
      have X4_7 := Lib.hid (ha.past (below_alloc1 w7 (.cells #[.string x4.id, .int .i64 x4.pid, .int .i64 x4.gen, .int .i64 x4.no, .int .i64 x4.st, .slice x4.PA x4.Pn x4.Pc, .slice x4.GA x4.Gn x4.Gc, .int .i64 x4.at_] 33)))
      have T4_7 := Lib.hid (Has.newAt w7 #[.string x4.id, .int .i64 x4.pid, .int .i64 x4.gen, .int .i64 x4.no, .int .i64 x4.st, .slice x4.PA x4.Pn x4.Pc, .slice x4.GA x4.Gn x4.Gc, .int .i64 x4.at_] 33 (g := w7.heap.size) rfl)
      have cT4_7 := T4_7.out.cell
      have lT4_7 := T4_7.out.lt
      clear cSO6 lSO6 cSA6 lSA6 cS1_6 lS1_6 cS2_6 lS2_6 cT3_6 lT3_6 hb ha bk7
      go_upto_region 10 with (fail)
      obtain ⟨WZ, hWZ⟩ : ∃ W, W = w7.alloc (.cells #[.string x4.id, .int .i64 x4.pid, .int .i64 x4.gen, .int .i64 x4.no, .int .i64 x4.st, .slice x4.PA x4.Pn x4.Pc, .slice x4.GA x4.Gn x4.Gc, .int .i64 x4.at_] 33) := ⟨_, rfl⟩
      rw [← hWZ] at B7 SO7 SA7 O7 O1_7 S1_7 O2_7 S2_7 X3_7 T3_7 X4_7 T4_7 cSO7 lSO7 cSA7 lSA7 cS1_7 lS1_7 cS2_7 lS2_7 cT3_7 lT3_7 cT4_7 lT4_7
      rw [← hWZ]
      clear hWZ
      have F0 := Lib.hid (Below.refl WZ.heap.size WZ)
      clear cSO7 lSO7 cSA7 lSA7 cS1_7 lS1_7 cS2_7 lS2_7 cT3_7 lT3_7 cT4_7 lT4_7
      have z1 : x3.st = 1 := (congrArg Tv.st X3_7.out.2).trans S1t.out
      have z2 : onceN x3.P a.tp = 1 := by rw [show x3.P = p1.P from congrArg Tv.P X3_7.out.2]; exact C1.out
      have CN1 := Lib.hid (fun W (h : Below WZ.heap.size WZ W) => part_count x3.PA x3.Pn x3.Pc x3.P a.tp W ((X3_7.out.past h).1.p))
      simp only [z2] at CN1
      have TZ1 := T3_7.out
      rw [z1] at TZ1
      have TY1 := Lib.hid TZ1
      have OT1 := Lib.hid (fun W (h : Below WZ.heap.size WZ W) => others_at (pid := a.pid) (O7.out.past h) (O1_7.out.past h) N1.out L1.out K1.out)
      clear z1 z2 TZ1
      have cSOx := (SO7.out.past F0.out).cell; have lSOx := (SO7.out.past F0.out).lt; have cSAx := (SA7.out.past F0.out).cell; have lSAx := (SA7.out.past F0.out).lt; have cS1_x := (S1_7.out.past F0.out).cell; have lS1_x := (S1_7.out.past F0.out).lt; have cS2_x := (S2_7.out.past F0.out).cell; have lS2_x := (S2_7.out.past F0.out).lt; have ct := (TY1.out.past F0.out).cell; have lt := (TY1.out.past F0.out).lt
      go_upto_region 12 with (first
        | (go_at_call 39; refine (CN1.out _ F0.out).mono ?_; rintro e wa1 ⟨rfl, hb⟩; have F1 := Lib.hid (below_from hb F0.out F0.out.size); clear hb cSOx lSOx cSAx lSAx cS1_x lS1_x cS2_x lS2_x ct lt; have cSOx := (SO7.out.past F1.out).cell; have lSOx := (SO7.out.past F1.out).lt; have cSAx := (SA7.out.past F1.out).cell; have lSAx := (SA7.out.past F1.out).lt; have cS1_x := (S1_7.out.past F1.out).cell; have lS1_x := (S1_7.out.past F1.out).lt; have cS2_x := (S2_7.out.past F1.out).cell; have lS2_x := (S2_7.out.past F1.out).lt)
        | (go_at_call 40; refine (OT1.out _ F1.out).mono ?_; rintro e wb1 ⟨rfl, hb⟩; have F2 := Lib.hid (below_from hb F1.out F1.out.size); clear hb cSOx lSOx cSAx lSAx cS1_x lS1_x cS2_x lS2_x))
      have cSOx := (SO7.out.past F2.out).cell; have lSOx := (SO7.out.past F2.out).lt; have cSAx := (SA7.out.past F2.out).cell; have lSAx := (SA7.out.past F2.out).lt; have cS1_x := (S1_7.out.past F2.out).cell; have lS1_x := (S1_7.out.past F2.out).lt; have cS2_x := (S2_7.out.past F2.out).cell; have lS2_x := (S2_7.out.past F2.out).lt
      go_upto_region 14 with (fail)
      clear cSOx lSOx cSAx lSAx cS1_x lS1_x cS2_x lS2_x
      have hb := F2.out
      have B8 := Lib.hid (below_from hb B7.out B7.out.size)
      have SO8 := Lib.hid (SO7.out.past hb)
      have cSO8 := SO8.out.cell
      have lSO8 := SO8.out.lt
      have SA8 := Lib.hid (SA7.out.past hb)
      have cSA8 := SA8.out.cell
      have lSA8 := SA8.out.lt
      have O8 := Lib.hid (Tc.Is.past O7.out hb)
      have O1_8 := Lib.hid (Tc.Is.past O1_7.out hb)
      have S1_8 := Lib.hid (S1_7.out.past hb)
      have cS1_8 := S1_8.out.cell
      have lS1_8 := S1_8.out.lt
      have O2_8 := Lib.hid (Tc.Is.past O2_7.out hb)
      have S2_8 := Lib.hid (S2_7.out.past hb)
      have cS2_8 := S2_8.out.cell
      have lS2_8 := S2_8.out.lt
      have X3_8 := Lib.hid (Tx.Is.past X3_7.out hb)
      have T3_8 := Lib.hid (T3_7.out.past hb)
      have cT3_8 := T3_8.out.cell
      have lT3_8 := T3_8.out.lt
      have X4_8 := Lib.hid (Tx.Is.past X4_7.out hb)
      have T4_8 := Lib.hid (T4_7.out.past hb)
      have cT4_8 := T4_8.out.cell
      have lT4_8 := T4_8.out.lt
      clear hb
      go_wp2_with fail
      refine (add_at O1_8.out FX1.out HA.out.tp A1.out).mono ?_
      intro e w8 hx
      obtain ⟨o5, rfl, ha, hb⟩ := hx
      have bk9 := hb.alloc hb.size (.cells #[.int .i64 o5.next, .slice o5.A o5.n o5.c] 24)
      have B9 := Lib.hid (below_from bk9 B8.out B8.out.size)
      have SO9 := Lib.hid (SO8.out.past bk9)
      have cSO9 := SO9.out.cell
      have lSO9 := SO9.out.lt
      have SA9 := Lib.hid (SA8.out.past bk9)
      have cSA9 := SA9.out.cell
      have lSA9 := SA9.out.lt
      have O9 := Lib.hid (Tc.Is.past O8.out bk9)
      have O1_9 := Lib.hid (Tc.Is.past O1_8.out bk9)
      have S1_9 := Lib.hid (S1_8.out.past bk9)
      have cS1_9 := S1_9.out.cell
      have lS1_9 := S1_9.out.lt
      have O2_9 := Lib.hid (Tc.Is.past O2_8.out bk9)
      have S2_9 := Lib.hid (S2_8.out.past bk9)
      have cS2_9 := S2_9.out.cell
      have lS2_9 := S2_9.out.lt
      have X3_9 := Lib.hid (Tx.Is.past X3_8.out bk9)
      have T3_9 := Lib.hid (T3_8.out.past bk9)
      have cT3_9 := T3_9.out.cell
      have lT3_9 := T3_9.out.lt
      have X4_9 := Lib.hid (Tx.Is.past X4_8.out bk9)
      have T4_9 := Lib.hid (T4_8.out.past bk9)
      have cT4_9 := T4_9.out.cell
      have lT4_9 := T4_9.out.lt
      have O5_9 := Lib.hid (ha.past (below_alloc1 w8 (.cells #[.int .i64 o5.next, .slice o5.A o5.n o5.c] 24)))
      have S5_9 := Lib.hid (Has.newAt w8 #[.int .i64 o5.next, .slice o5.A o5.n o5.c] 24 (g := w8.heap.size) rfl)
      have cS5_9 := S5_9.out.cell
      have lS5_9 := S5_9.out.lt
      clear cSO8 lSO8 cSA8 lSA8 cS1_8 lS1_8 cS2_8 lS2_8 cT3_8 lT3_8 cT4_8 lT4_8 hb ha bk9
      go_wp2_with fail
      refine (send_at O2_9.out FX2.out HA.out.g A2.out).mono ?_
      intro e w9 hx
      obtain ⟨o6, rfl, ha, hb⟩ := hx
      have bk10 := hb.alloc hb.size (.cells #[.int .i64 o6.next, .slice o6.A o6.n o6.c] 24)
      have B10 := Lib.hid (below_from bk10 B9.out B9.out.size)
      have SO10 := Lib.hid (SO9.out.past bk10)
      have cSO10 := SO10.out.cell
      have lSO10 := SO10.out.lt
      have SA10 := Lib.hid (SA9.out.past bk10)
      have cSA10 := SA10.out.cell
      have lSA10 := SA10.out.lt
      have O10 := Lib.hid (Tc.Is.past O9.out bk10)
      have O1_10 := Lib.hid (Tc.Is.past O1_9.out bk10)
      have S1_10 := Lib.hid (S1_9.out.past bk10)
      have cS1_10 := S1_10.out.cell
      have lS1_10 := S1_10.out.lt
      have O2_10 := Lib.hid (Tc.Is.past O2_9.out bk10)
      have S2_10 := Lib.hid (S2_9.out.past bk10)
      have cS2_10 := S2_10.out.cell
      have lS2_10 := S2_10.out.lt
      have X3_10 := Lib.hid (Tx.Is.past X3_9.out bk10)
      have T3_10 := Lib.hid (T3_9.out.past bk10)
      have cT3_10 := T3_10.out.cell
      have lT3_10 := T3_10.out.lt
      have X4_10 := Lib.hid (Tx.Is.past X4_9.out bk10)
      have T4_10 := Lib.hid (T4_9.out.past bk10)
      have cT4_10 := T4_10.out.cell
      have lT4_10 := T4_10.out.lt
      have O5_10 := Lib.hid (Tc.Is.past O5_9.out bk10)
      have S5_10 := Lib.hid (S5_9.out.past bk10)
      have cS5_10 := S5_10.out.cell
      have lS5_10 := S5_10.out.lt
      have O6_10 := Lib.hid (ha.past (below_alloc1 w9 (.cells #[.int .i64 o6.next, .slice o6.A o6.n o6.c] 24)))
      have S6_10 := Lib.hid (Has.newAt w9 #[.int .i64 o6.next, .slice o6.A o6.n o6.c] 24 (g := w9.heap.size) rfl)
      have cS6_10 := S6_10.out.cell
      have lS6_10 := S6_10.out.lt
      clear cSO9 lSO9 cSA9 lSA9 cS1_9 lS1_9 cS2_9 lS2_9 cT3_9 lT3_9 cT4_9 lT4_9 cS5_9 lS5_9 hb ha bk10
      have SM1 := Lib.hid (same_at O5_10.out O1_10.out)
      go_wp2_with (go_at_call 17; refine SM1.out.mono ?_; rintro e wc ⟨rfl, hb⟩; have G1 := Lib.hid hb; clear hb)
      go_ret
      exact ⟨rfl, below_from G1.out B10.out B10.out.size⟩
  · have Z1 := Lib.hid (ask_fst (show askV o.val a.id a.pid a.gen _ _ = (V1, e1) from hV1) h1)
    have m11 : (e1 != 0) = true := by rw [bne_iff_ne]; exact h1
    have m12 : (e1 == 0) = false := by rw [beq_eq_false_iff_ne]; exact h1
    clear hV1 h1
    have FX1 := Lib.hid (show FewV V1 from by rw [Z1.out]; exact noC_few)
    have P1 := Lib.hid (show findV V1.L a.pid = (noT, false) from by rw [Z1.out]; exact find_noC _)
    by_cases h2 : e2 = 0
    · subst h2
      obtain ⟨p2, y1, y2, y3, y4, y5, y6, y7⟩ := send_law hV2
      have FX2 := Lib.hid (send_fine hV2).2.1.fewV
      have P2 := Lib.hid y1
      have S2t := Lib.hid y2
      have C2 := Lib.hid y3
      have N2 := Lib.hid y4
      have L2 := Lib.hid y5
      have K2 := Lib.hid y6
      have A2 := Lib.hid y7
      clear y1 y2 y3 y4 y5 y6 y7 hV2
      obtain ⟨RA1, hRA1⟩ : ∃ V, addV V1 a.id a.pid a.gen a.tp a.now = V := ⟨_, rfl⟩
      obtain ⟨RV1, rc1⟩ := RA1
      have A1 := Lib.hid hRA1
      clear hRA1
      go_wp2_with fail
      refine (findc_at O1_5.out P1.out).mono ?_
      intro e w6 hx
      obtain ⟨x3, rfl, ha, hb⟩ := hx
      have bk6 := hb.alloc hb.size (.cells #[.string x3.id, .int .i64 x3.pid, .int .i64 x3.gen, .int .i64 x3.no, .int .i64 x3.st, .slice x3.PA x3.Pn x3.Pc, .slice x3.GA x3.Gn x3.Gc, .int .i64 x3.at_] 33)
      have B6 := Lib.hid (below_from bk6 B5.out B5.out.size)
      have SO6 := Lib.hid (SO5.out.past bk6)
      have cSO6 := SO6.out.cell
      have lSO6 := SO6.out.lt
      have SA6 := Lib.hid (SA5.out.past bk6)
      have cSA6 := SA6.out.cell
      have lSA6 := SA6.out.lt
      have O6 := Lib.hid (Tc.Is.past O5.out bk6)
      have O1_6 := Lib.hid (Tc.Is.past O1_5.out bk6)
      have S1_6 := Lib.hid (S1_5.out.past bk6)
      have cS1_6 := S1_6.out.cell
      have lS1_6 := S1_6.out.lt
      have O2_6 := Lib.hid (Tc.Is.past O2_5.out bk6)
      have S2_6 := Lib.hid (S2_5.out.past bk6)
      have cS2_6 := S2_6.out.cell
      have lS2_6 := S2_6.out.lt
      have X3_6 := Lib.hid (ha.past (below_alloc1 w6 (.cells #[.string x3.id, .int .i64 x3.pid, .int .i64 x3.gen, .int .i64 x3.no, .int .i64 x3.st, .slice x3.PA x3.Pn x3.Pc, .slice x3.GA x3.Gn x3.Gc, .int .i64 x3.at_] 33)))
      have T3_6 := Lib.hid (Has.newAt w6 #[.string x3.id, .int .i64 x3.pid, .int .i64 x3.gen, .int .i64 x3.no, .int .i64 x3.st, .slice x3.PA x3.Pn x3.Pc, .slice x3.GA x3.Gn x3.Gc, .int .i64 x3.at_] 33 (g := w6.heap.size) rfl)
      have cT3_6 := T3_6.out.cell
      have lT3_6 := T3_6.out.lt
      clear cSO5 lSO5 cSA5 lSA5 cS1_5 lS1_5 cS2_5 lS2_5 hb ha bk6
      go_wp2_with fail
      refine (findc_at O2_6.out P2.out).mono ?_
      intro e w7 hx
      obtain ⟨x4, rfl, ha, hb⟩ := hx
      have bk7 := hb.alloc hb.size (.cells #[.string x4.id, .int .i64 x4.pid, .int .i64 x4.gen, .int .i64 x4.no, .int .i64 x4.st, .slice x4.PA x4.Pn x4.Pc, .slice x4.GA x4.Gn x4.Gc, .int .i64 x4.at_] 33)
      have B7 := Lib.hid (below_from bk7 B6.out B6.out.size)
      have SO7 := Lib.hid (SO6.out.past bk7)
      have cSO7 := SO7.out.cell
      have lSO7 := SO7.out.lt
      have SA7 := Lib.hid (SA6.out.past bk7)
      have cSA7 := SA7.out.cell
      have lSA7 := SA7.out.lt
      have O7 := Lib.hid (Tc.Is.past O6.out bk7)
      have O1_7 := Lib.hid (Tc.Is.past O1_6.out bk7)
      have S1_7 := Lib.hid (S1_6.out.past bk7)
      have cS1_7 := S1_7.out.cell
      have lS1_7 := S1_7.out.lt
      have O2_7 := Lib.hid (Tc.Is.past O2_6.out bk7)
      have S2_7 := Lib.hid (S2_6.out.past bk7)
      have cS2_7 := S2_7.out.cell
      have lS2_7 := S2_7.out.lt
      have X3_7 := Lib.hid (Tx.Is.past X3_6.out bk7)
      have T3_7 := Lib.hid (T3_6.out.past bk7)
      have cT3_7 := T3_7.out.cell
      have lT3_7 := T3_7.out.lt
      have X4_7 := Lib.hid (ha.past (below_alloc1 w7 (.cells #[.string x4.id, .int .i64 x4.pid, .int .i64 x4.gen, .int .i64 x4.no, .int .i64 x4.st, .slice x4.PA x4.Pn x4.Pc, .slice x4.GA x4.Gn x4.Gc, .int .i64 x4.at_] 33)))
      have T4_7 := Lib.hid (Has.newAt w7 #[.string x4.id, .int .i64 x4.pid, .int .i64 x4.gen, .int .i64 x4.no, .int .i64 x4.st, .slice x4.PA x4.Pn x4.Pc, .slice x4.GA x4.Gn x4.Gc, .int .i64 x4.at_] 33 (g := w7.heap.size) rfl)
      have cT4_7 := T4_7.out.cell
      have lT4_7 := T4_7.out.lt
      clear cSO6 lSO6 cSA6 lSA6 cS1_6 lS1_6 cS2_6 lS2_6 cT3_6 lT3_6 hb ha bk7
      go_upto_region 10 with (fail)
      obtain ⟨WZ, hWZ⟩ : ∃ W, W = w7.alloc (.cells #[.string x4.id, .int .i64 x4.pid, .int .i64 x4.gen, .int .i64 x4.no, .int .i64 x4.st, .slice x4.PA x4.Pn x4.Pc, .slice x4.GA x4.Gn x4.Gc, .int .i64 x4.at_] 33) := ⟨_, rfl⟩
      rw [← hWZ] at B7 SO7 SA7 O7 O1_7 S1_7 O2_7 S2_7 X3_7 T3_7 X4_7 T4_7 cSO7 lSO7 cSA7 lSA7 cS1_7 lS1_7 cS2_7 lS2_7 cT3_7 lT3_7 cT4_7 lT4_7
      rw [← hWZ]
      clear hWZ
      have F0 := Lib.hid (Below.refl WZ.heap.size WZ)
      clear cSO7 lSO7 cSA7 lSA7 cS1_7 lS1_7 cS2_7 lS2_7 cT3_7 lT3_7 cT4_7 lT4_7
      have cSOx := (SO7.out.past F0.out).cell; have lSOx := (SO7.out.past F0.out).lt; have cSAx := (SA7.out.past F0.out).cell; have lSAx := (SA7.out.past F0.out).lt; have cS1_x := (S1_7.out.past F0.out).cell; have lS1_x := (S1_7.out.past F0.out).lt; have cS2_x := (S2_7.out.past F0.out).cell; have lS2_x := (S2_7.out.past F0.out).lt
      go_upto_region 12 with (fail)
      clear cSOx lSOx cSAx lSAx cS1_x lS1_x cS2_x lS2_x
      have z1 : x4.st = 1 := (congrArg Tv.st X4_7.out.2).trans S2t.out
      have z2 : onceN x4.G a.g = 1 := by rw [show x4.G = p2.G from congrArg Tv.G X4_7.out.2]; exact C2.out
      have CN2 := Lib.hid (fun W (h : Below WZ.heap.size WZ W) => name_count x4.GA x4.Gn x4.Gc x4.G a.g W ((X4_7.out.past h).1.g))
      simp only [z2] at CN2
      have TZ2 := T4_7.out
      rw [z1] at TZ2
      have TY2 := Lib.hid TZ2
      have OT2 := Lib.hid (fun W (h : Below WZ.heap.size WZ W) => others_at (pid := a.pid) (O7.out.past h) (O2_7.out.past h) N2.out L2.out K2.out)
      clear z1 z2 TZ2
      have cSOx := (SO7.out.past F0.out).cell; have lSOx := (SO7.out.past F0.out).lt; have cSAx := (SA7.out.past F0.out).cell; have lSAx := (SA7.out.past F0.out).lt; have cS1_x := (S1_7.out.past F0.out).cell; have lS1_x := (S1_7.out.past F0.out).lt; have cS2_x := (S2_7.out.past F0.out).cell; have lS2_x := (S2_7.out.past F0.out).lt; have ct := (TY2.out.past F0.out).cell; have lt := (TY2.out.past F0.out).lt
      go_upto_region 14 with (first
        | (go_at_call 30; refine (CN2.out _ F0.out).mono ?_; rintro e wa2 ⟨rfl, hb⟩; have F1 := Lib.hid (below_from hb F0.out F0.out.size); clear hb cSOx lSOx cSAx lSAx cS1_x lS1_x cS2_x lS2_x ct lt; have cSOx := (SO7.out.past F1.out).cell; have lSOx := (SO7.out.past F1.out).lt; have cSAx := (SA7.out.past F1.out).cell; have lSAx := (SA7.out.past F1.out).lt; have cS1_x := (S1_7.out.past F1.out).cell; have lS1_x := (S1_7.out.past F1.out).lt; have cS2_x := (S2_7.out.past F1.out).cell; have lS2_x := (S2_7.out.past F1.out).lt)
        | (go_at_call 40; refine (OT2.out _ F1.out).mono ?_; rintro e wb2 ⟨rfl, hb⟩; have F2 := Lib.hid (below_from hb F1.out F1.out.size); clear hb cSOx lSOx cSAx lSAx cS1_x lS1_x cS2_x lS2_x))
      have hb := F2.out
      have B8 := Lib.hid (below_from hb B7.out B7.out.size)
      have SO8 := Lib.hid (SO7.out.past hb)
      have cSO8 := SO8.out.cell
      have lSO8 := SO8.out.lt
      have SA8 := Lib.hid (SA7.out.past hb)
      have cSA8 := SA8.out.cell
      have lSA8 := SA8.out.lt
      have O8 := Lib.hid (Tc.Is.past O7.out hb)
      have O1_8 := Lib.hid (Tc.Is.past O1_7.out hb)
      have S1_8 := Lib.hid (S1_7.out.past hb)
      have cS1_8 := S1_8.out.cell
      have lS1_8 := S1_8.out.lt
      have O2_8 := Lib.hid (Tc.Is.past O2_7.out hb)
      have S2_8 := Lib.hid (S2_7.out.past hb)
      have cS2_8 := S2_8.out.cell
      have lS2_8 := S2_8.out.lt
      have X3_8 := Lib.hid (Tx.Is.past X3_7.out hb)
      have T3_8 := Lib.hid (T3_7.out.past hb)
      have cT3_8 := T3_8.out.cell
      have lT3_8 := T3_8.out.lt
      have X4_8 := Lib.hid (Tx.Is.past X4_7.out hb)
      have T4_8 := Lib.hid (T4_7.out.past hb)
      have cT4_8 := T4_8.out.cell
      have lT4_8 := T4_8.out.lt
      clear hb
      go_wp2_with fail
      refine (add_at O1_8.out FX1.out HA.out.tp A1.out).mono ?_
      intro e w8 hx
      obtain ⟨o5, rfl, ha, hb⟩ := hx
      have bk9 := hb.alloc hb.size (.cells #[.int .i64 o5.next, .slice o5.A o5.n o5.c] 24)
      have B9 := Lib.hid (below_from bk9 B8.out B8.out.size)
      have SO9 := Lib.hid (SO8.out.past bk9)
      have cSO9 := SO9.out.cell
      have lSO9 := SO9.out.lt
      have SA9 := Lib.hid (SA8.out.past bk9)
      have cSA9 := SA9.out.cell
      have lSA9 := SA9.out.lt
      have O9 := Lib.hid (Tc.Is.past O8.out bk9)
      have O1_9 := Lib.hid (Tc.Is.past O1_8.out bk9)
      have S1_9 := Lib.hid (S1_8.out.past bk9)
      have cS1_9 := S1_9.out.cell
      have lS1_9 := S1_9.out.lt
      have O2_9 := Lib.hid (Tc.Is.past O2_8.out bk9)
      have S2_9 := Lib.hid (S2_8.out.past bk9)
      have cS2_9 := S2_9.out.cell
      have lS2_9 := S2_9.out.lt
      have X3_9 := Lib.hid (Tx.Is.past X3_8.out bk9)
      have T3_9 := Lib.hid (T3_8.out.past bk9)
      have cT3_9 := T3_9.out.cell
      have lT3_9 := T3_9.out.lt
      have X4_9 := Lib.hid (Tx.Is.past X4_8.out bk9)
      have T4_9 := Lib.hid (T4_8.out.past bk9)
      have cT4_9 := T4_9.out.cell
      have lT4_9 := T4_9.out.lt
      have O5_9 := Lib.hid (ha.past (below_alloc1 w8 (.cells #[.int .i64 o5.next, .slice o5.A o5.n o5.c] 24)))
      have S5_9 := Lib.hid (Has.newAt w8 #[.int .i64 o5.next, .slice o5.A o5.n o5.c] 24 (g := w8.heap.size) rfl)
      have cS5_9 := S5_9.out.cell
      have lS5_9 := S5_9.out.lt
      clear cSO8 lSO8 cSA8 lSA8 cS1_8 lS1_8 cS2_8 lS2_8 cT3_8 lT3_8 cT4_8 lT4_8 hb ha bk9
      go_wp2_with fail
      refine (send_at O2_9.out FX2.out HA.out.g A2.out).mono ?_
      intro e w9 hx
      obtain ⟨o6, rfl, ha, hb⟩ := hx
      have bk10 := hb.alloc hb.size (.cells #[.int .i64 o6.next, .slice o6.A o6.n o6.c] 24)
      have B10 := Lib.hid (below_from bk10 B9.out B9.out.size)
      have SO10 := Lib.hid (SO9.out.past bk10)
      have cSO10 := SO10.out.cell
      have lSO10 := SO10.out.lt
      have SA10 := Lib.hid (SA9.out.past bk10)
      have cSA10 := SA10.out.cell
      have lSA10 := SA10.out.lt
      have O10 := Lib.hid (Tc.Is.past O9.out bk10)
      have O1_10 := Lib.hid (Tc.Is.past O1_9.out bk10)
      have S1_10 := Lib.hid (S1_9.out.past bk10)
      have cS1_10 := S1_10.out.cell
      have lS1_10 := S1_10.out.lt
      have O2_10 := Lib.hid (Tc.Is.past O2_9.out bk10)
      have S2_10 := Lib.hid (S2_9.out.past bk10)
      have cS2_10 := S2_10.out.cell
      have lS2_10 := S2_10.out.lt
      have X3_10 := Lib.hid (Tx.Is.past X3_9.out bk10)
      have T3_10 := Lib.hid (T3_9.out.past bk10)
      have cT3_10 := T3_10.out.cell
      have lT3_10 := T3_10.out.lt
      have X4_10 := Lib.hid (Tx.Is.past X4_9.out bk10)
      have T4_10 := Lib.hid (T4_9.out.past bk10)
      have cT4_10 := T4_10.out.cell
      have lT4_10 := T4_10.out.lt
      have O5_10 := Lib.hid (Tc.Is.past O5_9.out bk10)
      have S5_10 := Lib.hid (S5_9.out.past bk10)
      have cS5_10 := S5_10.out.cell
      have lS5_10 := S5_10.out.lt
      have O6_10 := Lib.hid (ha.past (below_alloc1 w9 (.cells #[.int .i64 o6.next, .slice o6.A o6.n o6.c] 24)))
      have S6_10 := Lib.hid (Has.newAt w9 #[.int .i64 o6.next, .slice o6.A o6.n o6.c] 24 (g := w9.heap.size) rfl)
      have cS6_10 := S6_10.out.cell
      have lS6_10 := S6_10.out.lt
      clear cSO9 lSO9 cSA9 lSA9 cS1_9 lS1_9 cS2_9 lS2_9 cT3_9 lT3_9 cT4_9 lT4_9 cS5_9 lS5_9 hb ha bk10
      have SM2 := Lib.hid (same_at O6_10.out O2_10.out)
      go_wp2_with (go_at_call 17; refine SM2.out.mono ?_; rintro e wc ⟨rfl, hb⟩; have G1 := Lib.hid hb; clear hb)
      go_ret
      exact ⟨rfl, below_from G1.out B10.out B10.out.size⟩
    · have Z2 := Lib.hid (ask_fst (show askV o.val a.id a.pid a.gen _ _ = (V2, e2) from hV2) h2)
      have m21 : (e2 != 0) = true := by rw [bne_iff_ne]; exact h2
      have m22 : (e2 == 0) = false := by rw [beq_eq_false_iff_ne]; exact h2
      clear hV2 h2
      have FX2 := Lib.hid (show FewV V2 from by rw [Z2.out]; exact noC_few)
      have P2 := Lib.hid (show findV V2.L a.pid = (noT, false) from by rw [Z2.out]; exact find_noC _)
      have z1 : o1.n = 0 := O1_5.out.num.trans (by rw [Z1.out]; rfl)
      have z2 : o2.n = 0 := O2_5.out.num.trans (by rw [Z2.out]; rfl)
      have S1z := S1_5.out
      have S2z := S2_5.out
      rw [z1] at S1z
      have Y1 := Lib.hid z1
      have Y2 := Lib.hid z2
      clear z1 z2 S1z S2z
      have wr0 : IntKind.i64.wrap ((o1.n : Int) + (o2.n : Int)) = (o1.n : Int) + (o2.n : Int) := IntWalk.i64_in _ (by rw [Y1.out, Y2.out]; decide)
      go_wp2_with fail
      go_ret
      exact ⟨ret_bool (by rw [Y1.out, Y2.out]; rfl), B5.out⟩

end Go.Proofs.Ytnigjchgpmladaa
