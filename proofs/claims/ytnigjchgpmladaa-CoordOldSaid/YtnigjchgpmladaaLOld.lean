/- CoordOld: who runs too long. -/
import Derived.Test.YtnigjchgpmladaaCnt
import Derived.Test.YtnigjchgpmladaaLive
import Derived.Test.YtnigjchgpmladaaReg
import Derived.Deep.DeepCutAuto
namespace Go.Proofs.Ytnigjchgpmladaa
open Go.RowKit Go.Shelf

set_option maxHeartbeats 16000000 in
set_option maxRecDepth 100000 in
theorem lold_any (o : Tc) (now long more less : Int) (w : World) (ho : Tc.At w o) : Calls Try.prog 5 #[o.v, .int .i64 now, .int .i64 long, .int .i64 more, .int .i64 less] w fun e w' => e = .returned (.bool true) ∧ Below w.heap.size w w' := by
  have bw := below_alloc1 w (.cells #[.int .i64 o.next, .slice o.A o.n o.c] 24)
  obtain ⟨W0, hW0⟩ : ∃ W, W = (w.alloc (.cells #[.int .i64 o.next, .slice o.A o.n o.c] 24)) := ⟨_, rfl⟩
  rw [← hW0] at bw
  have B0 := Lib.hid bw
  have SO0 := Lib.hid (show Has W0 w.heap.size #[.int .i64 o.next, .slice o.A o.n o.c] from by rw [hW0]; exact (Has.newAt w _ 24 rfl))
  have cSO0 := SO0.out.cell
  have lSO0 := SO0.out.lt
  have O0 := Lib.hid (show Tc.Is W0 o o.val from ⟨ho.below bw, rfl⟩)
  have HWW := Lib.hid hW0
  have LV := Lib.hid live_any
  clear bw ho hW0  
  go_enter Try.func5, Try.ntmps5
  go_upto_region 1 with (fail)
  rw [← HWW.out]
  go_wp2_with fail
  refine (LV.out _).mono ?_
  intro e w1 hx
  obtain ⟨rfl, hb⟩ := hx
  have B1 := Lib.hid (below_from hb B0.out B0.out.size)
  have SO1 := Lib.hid (SO0.out.past hb)
  have cSO1 := SO1.out.cell
  have lSO1 := SO1.out.lt
  have O1 := Lib.hid (Tc.Is.past O0.out hb)
  clear cSO0 lSO0 hb
  go_wp2_with fail
  cases hfw : fewB o.val with
  | false =>
    refine (few_at O1.out hfw).mono ?_
    intro e w2 hx
    obtain ⟨rfl, hb⟩ := hx
    have B2 := Lib.hid (below_from hb B1.out B1.out.size)
    have SO2 := Lib.hid (SO1.out.past hb)
    have cSO2 := SO2.out.cell
    have lSO2 := SO2.out.lt
    have O2 := Lib.hid (Tc.Is.past O1.out hb)
    clear cSO1 lSO1 hb
    go_wp2_with fail
    go_ret
    exact ⟨rfl, B2.out⟩
  | true =>
  have FEW := Lib.hid (fewB_few hfw)
  refine (few_at O1.out hfw).mono ?_
  intro e w2 hx
  obtain ⟨rfl, hb⟩ := hx
  have B2 := Lib.hid (below_from hb B1.out B1.out.size)
  have SO2 := Lib.hid (SO1.out.past hb)
  have cSO2 := SO2.out.cell
  have lSO2 := SO2.out.lt
  have O2 := Lib.hid (Tc.Is.past O1.out hb)
  clear cSO1 lSO1 hb hfw
  by_cases hk : checkV o.val = 0
  · have HK := Lib.hid hk
    clear hk
    by_cases g1 : now < 0
    · have dg1 : decide (now < 0) = true := decide_eq_true g1
      clear g1
      go_wp2_with fail
      refine (check_at O2.out FEW.out HK.out).mono ?_
      intro e w3 hx
      obtain ⟨rfl, hb⟩ := hx
      have B3 := Lib.hid (below_from hb B2.out B2.out.size)
      have SO3 := Lib.hid (SO2.out.past hb)
      have cSO3 := SO3.out.cell
      have lSO3 := SO3.out.lt
      have O3 := Lib.hid (Tc.Is.past O2.out hb)
      clear cSO2 lSO2 hb
      go_wp2_with fail
      go_ret
      exact ⟨rfl, B3.out⟩
    have dg1 : decide (now < 0) = false := decide_eq_false g1
    by_cases g2 : more < 0
    · have dg2 : decide (more < 0) = true := decide_eq_true g2
      clear g2
      go_wp2_with fail
      refine (check_at O2.out FEW.out HK.out).mono ?_
      intro e w3 hx
      obtain ⟨rfl, hb⟩ := hx
      have B3 := Lib.hid (below_from hb B2.out B2.out.size)
      have SO3 := Lib.hid (SO2.out.past hb)
      have cSO3 := SO3.out.cell
      have lSO3 := SO3.out.lt
      have O3 := Lib.hid (Tc.Is.past O2.out hb)
      clear cSO2 lSO2 hb
      go_wp2_with fail
      go_ret
      exact ⟨rfl, B3.out⟩
    have dg2 : decide (more < 0) = false := decide_eq_false g2
    by_cases g3 : long < 0
    · have dg3 : decide (long < 0) = true := decide_eq_true g3
      clear g3
      go_wp2_with fail
      refine (check_at O2.out FEW.out HK.out).mono ?_
      intro e w3 hx
      obtain ⟨rfl, hb⟩ := hx
      have B3 := Lib.hid (below_from hb B2.out B2.out.size)
      have SO3 := Lib.hid (SO2.out.past hb)
      have cSO3 := SO3.out.cell
      have lSO3 := SO3.out.lt
      have O3 := Lib.hid (Tc.Is.past O2.out hb)
      clear cSO2 lSO2 hb
      go_wp2_with fail
      go_ret
      exact ⟨rfl, B3.out⟩
    have dg3 : decide (long < 0) = false := decide_eq_false g3
    by_cases g4 : less < 0
    · have dg4 : decide (less < 0) = true := decide_eq_true g4
      clear g4
      go_wp2_with fail
      refine (check_at O2.out FEW.out HK.out).mono ?_
      intro e w3 hx
      obtain ⟨rfl, hb⟩ := hx
      have B3 := Lib.hid (below_from hb B2.out B2.out.size)
      have SO3 := Lib.hid (SO2.out.past hb)
      have cSO3 := SO3.out.cell
      have lSO3 := SO3.out.lt
      have O3 := Lib.hid (Tc.Is.past O2.out hb)
      clear cSO2 lSO2 hb
      go_wp2_with fail
      go_ret
      exact ⟨rfl, B3.out⟩
    have dg4 : decide (less < 0) = false := decide_eq_false g4
    by_cases g5 : 1099511627776 < now
    · have dg5 : decide (1099511627776 < now) = true := decide_eq_true g5
      clear g5
      go_wp2_with fail
      refine (check_at O2.out FEW.out HK.out).mono ?_
      intro e w3 hx
      obtain ⟨rfl, hb⟩ := hx
      have B3 := Lib.hid (below_from hb B2.out B2.out.size)
      have SO3 := Lib.hid (SO2.out.past hb)
      have cSO3 := SO3.out.cell
      have lSO3 := SO3.out.lt
      have O3 := Lib.hid (Tc.Is.past O2.out hb)
      clear cSO2 lSO2 hb
      go_wp2_with fail
      go_ret
      exact ⟨rfl, B3.out⟩
    have dg5 : decide (1099511627776 < now) = false := decide_eq_false g5
    by_cases g6 : 1099511627776 < long
    · have dg6 : decide (1099511627776 < long) = true := decide_eq_true g6
      clear g6
      go_wp2_with fail
      refine (check_at O2.out FEW.out HK.out).mono ?_
      intro e w3 hx
      obtain ⟨rfl, hb⟩ := hx
      have B3 := Lib.hid (below_from hb B2.out B2.out.size)
      have SO3 := Lib.hid (SO2.out.past hb)
      have cSO3 := SO3.out.cell
      have lSO3 := SO3.out.lt
      have O3 := Lib.hid (Tc.Is.past O2.out hb)
      clear cSO2 lSO2 hb
      go_wp2_with fail
      go_ret
      exact ⟨rfl, B3.out⟩
    have dg6 : decide (1099511627776 < long) = false := decide_eq_false g6
    have wr0 : IntKind.i64.wrap (1099511627776 - now) = 1099511627776 - now := IntWalk.i64_in _ (by omega)
    by_cases g7 : 1099511627776 - now < more
    · have dg7 : decide (1099511627776 - now < more) = true := decide_eq_true g7
      clear g7
      go_wp2_with fail
      refine (check_at O2.out FEW.out HK.out).mono ?_
      intro e w3 hx
      obtain ⟨rfl, hb⟩ := hx
      have B3 := Lib.hid (below_from hb B2.out B2.out.size)
      have SO3 := Lib.hid (SO2.out.past hb)
      have cSO3 := SO3.out.cell
      have lSO3 := SO3.out.lt
      have O3 := Lib.hid (Tc.Is.past O2.out hb)
      clear cSO2 lSO2 hb
      go_wp2_with fail
      go_ret
      exact ⟨rfl, B3.out⟩
    have dg7 : decide (1099511627776 - now < more) = false := decide_eq_false g7
    by_cases g8 : long < less
    · have dg8 : decide (long < less) = true := decide_eq_true g8
      clear g8
      go_wp2_with fail
      refine (check_at O2.out FEW.out HK.out).mono ?_
      intro e w3 hx
      obtain ⟨rfl, hb⟩ := hx
      have B3 := Lib.hid (below_from hb B2.out B2.out.size)
      have SO3 := Lib.hid (SO2.out.past hb)
      have cSO3 := SO3.out.cell
      have lSO3 := SO3.out.lt
      have O3 := Lib.hid (Tc.Is.past O2.out hb)
      clear cSO2 lSO2 hb
      go_wp2_with fail
      go_ret
      exact ⟨rfl, B3.out⟩
    have dg8 : decide (long < less) = false := decide_eq_false g8
    have i1 : inB now 1099511627776 = true := inB_iff.2 (by omega)
    have i2 : inB long 1099511627776 = true := inB_iff.2 (by omega)
    obtain ⟨LL, LM⟩ := old_law (chk_iff.1 HK.out) i1 i2 (show 0 ≤ more by omega) (show 0 ≤ less by omega) (by omega) (show less ≤ long by omega)
    have wr1 : IntKind.i64.wrap (now + more) = now + more := IntWalk.i64_in _ (by omega)
    have wr2 : IntKind.i64.wrap (long - less) = long - less := IntWalk.i64_in _ (by omega)
    obtain ⟨l, hl⟩ : ∃ l, oldV o.val now long = l := ⟨_, rfl⟩
    obtain ⟨m, hm⟩ : ∃ m, oldV o.val (now + more) (long - less) = m := ⟨_, rfl⟩
    obtain ⟨nl, hnl⟩ : ∃ n, l.length = n := ⟨_, rfl⟩
    obtain ⟨nm, hnm⟩ : ∃ n, m.length = n := ⟨_, rfl⟩
    rw [hl, hm] at LL
    rw [hl, hm] at LM
    rw [hnl, hnm] at LL
    have HL := Lib.hid hl
    have HM := Lib.hid hm
    have NL := Lib.hid hnl
    have NM := Lib.hid hnm
    have LW := Lib.hid LM
    have LE := Lib.hid LL
    have dle : decide ((nl : Int) ≤ (nm : Int)) = true := decide_eq_true (by omega)
    have dle2 : decide (nl ≤ nm) = true := decide_eq_true (by omega)
    clear g1 g2 g3 g4 g5 g6 g7 g8 i1 i2 LL LM hl hm hnl hnm
    go_wp2_with fail
    refine (check_at O2.out FEW.out HK.out).mono ?_
    intro e w3 hx
    obtain ⟨rfl, hb⟩ := hx
    have B3 := Lib.hid (below_from hb B2.out B2.out.size)
    have SO3 := Lib.hid (SO2.out.past hb)
    have cSO3 := SO3.out.cell
    have lSO3 := SO3.out.lt
    have O3 := Lib.hid (Tc.Is.past O2.out hb)
    clear cSO2 lSO2 hb
    go_wp2_with fail
    refine (old_at O3.out FEW.out HL.out NL.out).mono ?_
    intro e w4 hx
    obtain ⟨A1, c1, rfl, ha, hb⟩ := hx
    have B4 := Lib.hid (below_from hb B3.out B3.out.size)
    have SO4 := Lib.hid (SO3.out.past hb)
    have cSO4 := SO4.out.cell
    have lSO4 := SO4.out.lt
    have O4 := Lib.hid (Tc.Is.past O3.out hb)
    have LS4 := Lib.hid (ha)
    clear cSO3 lSO3 hb ha
    go_wp2_with fail
    refine (old_at O4.out FEW.out HM.out NM.out).mono ?_
    intro e w5 hx
    obtain ⟨A2, c2, rfl, ha, hb⟩ := hx
    have B5 := Lib.hid (below_from hb B4.out B4.out.size)
    have SO5 := Lib.hid (SO4.out.past hb)
    have cSO5 := SO5.out.cell
    have lSO5 := SO5.out.lt
    have O5 := Lib.hid (Tc.Is.past O4.out hb)
    have LS5 := Lib.hid (LS4.out.below hb)
    have MS5 := Lib.hid (ha)
    clear cSO4 lSO4 hb ha
    go_wp2_with fail
    have mx1 := LS5.out.max
    have mx2 := LS5.out.cap
    have mx3 := MS5.out.max
    have mx4 := MS5.out.cap
    clear cSO5 lSO5 dg1 dg2 dg3 dg4 dg5 dg6 dg7 dg8 wr0 wr1 wr2
    go_loopg [14] nl (fun gg s14 wr => ∃ k : Nat, k ≤ nl ∧ nl - k ≤ gg ∧ s14 = .int .i64 k ∧ Hid (Below w5.heap.size w5 wr))
    case atStart => exact ⟨0, Nat.zero_le _, by omega, rfl, Lib.hid (Below.refl _ _)⟩
    case round =>
      obtain ⟨k, hk, hgg, rfl, BR⟩ := hrel
      have SOr := Lib.hid (SO5.out.past BR.out)
      have ORr := Lib.hid (O5.out.past BR.out)
      have LSr := Lib.hid (LS5.out.below BR.out)
      have MSr := Lib.hid (MS5.out.below BR.out)
      by_cases hlt : k < nl
      · obtain ⟨b, off, hkl, rfl, hbl, x0⟩ := str_at LSr.out hlt
        have LK := Lib.hid (LW.out l[k] (List.getElem_mem hkl))
        have SI := Lib.hid (show l[k].size ≤ maxLen from LSr.out.each l[k] (List.getElem_mem hkl))
        have XK := Lib.hid x0
        generalize l[k] = s at *
        have q0 : (0 : Int) ≤ (k : Int) := by omega
        have q1 : (k : Int) < (nl : Int) := by omega
        have CN := Lib.hid (name_count A2 nm c2 m s wr MSr.out)
        simp only [LK.out.1] at CN
        have sc := SOr.out.cell
        have sl := SOr.out.lt
        go_upto_region 11 with (go_at_call 30; refine CN.out.mono ?_; rintro e w6 ⟨rfl, hb⟩; have B6 := Lib.hid hb; clear hb sc sl)
        have SO6 := Lib.hid (SOr.out.past B6.out)
        have O6 := Lib.hid (ORr.out.past B6.out)
        have X6 := Lib.hid ((B6.out.cell (p := ⟨b, off + k, none⟩) hbl).trans XK.out)
        have ZB := Lib.hid (Nat.lt_of_lt_of_le hbl B6.out.size)
        have D1 := Lib.hid (show Below w6.heap.size w6 w6.drew from (Below.refl _ w6).drew)
        have BW := Lib.hid (below_from B6.out BR.out BR.out.size)
        clear x0 hbl hkl
        have RIGHT := LK.out.2
        obtain ⟨V1, pid, gen, e1, HV1, HE⟩ : ∃ V1 pid gen e1, initV o.val s now = (V1, pid, gen, e1) ∧ (e1 = 2 ∨ e1 = 0 ∧ Fine V1 ∧ ∃ a c, findV V1.L pid = (a, true) ∧ findV o.val.L pid = (c, true) ∧ c.st = 1 ∧ a.st = 3 ∧ c.id = s) := by
          rcases RIGHT with ⟨x, p, g, h⟩ | ⟨x, p, g, a, c, h, h2, h3⟩
          · exact ⟨x, p, g, 2, h, .inl rfl⟩
          · exact ⟨x, p, g, 0, h, .inr ⟨rfl, h2, a, c, h3⟩⟩
        have HV := Lib.hid HV1
        have HX := Lib.hid HE
        clear RIGHT HV1 HE
        refine region_tr (fun w' => w'.cell? ⟨w.heap.size, 0, none⟩ = some (.int .i64 o.next) ∧ w'.cell? ⟨w.heap.size, 1, none⟩ = some (.slice o.A o.n o.c) ∧ w'.cell? ⟨b, off + k, none⟩ = some (.string s)) 16 (.take 0 (.take 1 (.take 2 (.take 3 (.take 4 (.take 5 (.fork 6 (.take 7 (.take 8 (.take 9 (.take 10 (.take 11 (.op 12 (.op 13 (.op 14 (.op 15 .tail))))))))) 12 (.op 6 (.take 7 (.take 8 (.take 9 (.take 10 (.take 11 (.op 13 (.op 14 (.op 15 .tail)))))))))))))))) (by kernel_rfl) (by kernel_rfl) ⟨(SO6.out.past D1.out).cell 0, (SO6.out.past D1.out).cell 1, (D1.out.cell (p := ⟨b, off + k, none⟩) ZB.out).trans X6.out⟩ (fun hHeld => ?_)
        iterate 6
          refine tr_take (v := ?_) (by simp only [List.getElem?_toArray, List.getElem?_cons_succ, List.getElem?_cons_zero]; rfl) (Or.inl ⟨by rfl, ?_⟩) ?_
          rotate_left 1
          · intro w hSw
            try dsimp only at hSw
            go_simp
            try with_reducible rfl
          try simp only [Act.put, List.setIfInBounds_toArray, List.set_cons_zero, List.set_cons_succ]
        refine tr_fork (by simp only [List.getElem?_toArray, List.getElem?_cons_succ, List.getElem?_cons_zero]; rfl) (by simp only [List.getElem?_toArray, List.getElem?_cons_succ, List.getElem?_cons_zero]; rfl) (fun K hK => ?_) (fun K hK => ?_)
        · go_wp2_with (go_at_call 13; refine (init_at (O6.out.past D1.out) FEW.out SI.out HV.out).mono ?_; rintro e w7 ⟨o1, rfl, ha, hb⟩)
          clear hHeld
          have F7 := Lib.hid (below_from hb D1.out D1.out.size)
          have Q7 := Lib.hid ha
          clear ha hb
          refine hK.out _ _ ⟨(SO6.out.past F7.out).cell 0, (SO6.out.past F7.out).cell 1, (F7.out.cell (p := ⟨b, off + k, none⟩) ZB.out).trans X6.out⟩ (fun hHeld => ?_)
          clear hK K
          try simp only [Act.put, List.setIfInBounds_toArray, List.set_cons_zero, List.set_cons_succ]
          iterate 5
            refine tr_take (v := ?_) (by simp only [List.getElem?_toArray, List.getElem?_cons_succ, List.getElem?_cons_zero]; rfl) (Or.inl ⟨by rfl, ?_⟩) ?_
            rotate_left 1
            · intro w hSw
              try dsimp only at hSw
              go_simp
              try with_reducible rfl
            try simp only [Act.put, List.setIfInBounds_toArray, List.set_cons_zero, List.set_cons_succ]
          refine tr_op (by simp only [List.getElem?_toArray, List.getElem?_cons_succ, List.getElem?_cons_zero]; rfl) (fun K hK => ?_)
          go_wp2_with fail
          clear hHeld
          obtain ⟨W8, hW8⟩ : ∃ W, W = w7.alloc (.cells #[.int .i64 0, .slice none 0 0] 24) := ⟨_, rfl⟩
          have F8 := Lib.hid (show Below w6.heap.size w6 W8 from by rw [hW8]; exact F7.out.alloc F7.out.size _)
          have R8 := Lib.hid (show Has W8 w7.heap.size #[.int .i64 0, .slice none 0 0] from by rw [hW8]; exact Has.newAt w7 _ 24 rfl)
          have Q8 := Lib.hid (show Tc.Is W8 o1 V1 from by rw [hW8]; exact Q7.out.past (below_alloc1 w7 _))
          have GE := Lib.hid F7.out.size
          rw [← hW8]
          clear hW8
          have r8c := R8.out.cell
          have r8f := R8.out.free
          have r8l := R8.out.lt
          refine hK.out _ _ ⟨(SO6.out.past F8.out).cell 0, (SO6.out.past F8.out).cell 1, (F8.out.cell (p := ⟨b, off + k, none⟩) ZB.out).trans X6.out⟩ (fun hHeld => ?_)
          clear hK K
          try simp only [Act.put, List.setIfInBounds_toArray, List.set_cons_zero, List.set_cons_succ]
          refine tr_op (by simp only [List.getElem?_toArray, List.getElem?_cons_succ, List.getElem?_cons_zero]; rfl) (fun K hK => ?_)
          go_wp2_with fail
          clear hHeld
          have G := setCells_grown w7.heap.size [.int .i64 o1.next, .slice o1.A o1.n o1.c] 0 W8
          have RZ := Lib.hid (R8.out.set [.int .i64 o1.next, .slice o1.A o1.n o1.c] rfl)
          have FZ := Lib.hid (F8.out.trans (grown_below G F8.out.size (fun k hk => by injection hk with hk; have := GE.out; omega)))
          have OZ1 := Lib.hid (Q8.out.beside R8.out (tc_texts _ _ _ _) G)
          obtain ⟨wz, hwz⟩ : ∃ W, W = W8.setCells w7.heap.size 0 [.int .i64 o1.next, .slice o1.A o1.n o1.c] := ⟨_, rfl⟩
          rw [← hwz] at RZ FZ OZ1
          have SZ := Lib.hid (SO6.out.past FZ.out)
          have OZ := Lib.hid (O6.out.past FZ.out)
          rw [show (W8.setCell ⟨w7.heap.size, 0, none⟩ (.int .i64 o1.next)).setCell ⟨w7.heap.size, 1, none⟩ (.slice o1.A o1.n o1.c) = wz from hwz.symm]
          clear hwz G r8c r8f r8l
          refine hK.out _ _ ⟨(SO6.out.past FZ.out).cell 0, (SO6.out.past FZ.out).cell 1, (FZ.out.cell (p := ⟨b, off + k, none⟩) ZB.out).trans X6.out⟩ (fun hHeld => ?_)
          clear hK K
          try simp only [Act.put, List.setIfInBounds_toArray, List.set_cons_zero, List.set_cons_succ]
          refine tr_op (by simp only [List.getElem?_toArray, List.getElem?_cons_succ, List.getElem?_cons_zero]; rfl) (fun K hK => ?_)
          go_wp2_with fail
          clear hHeld

          refine hK.out _ _ ⟨(SO6.out.past FZ.out).cell 0, (SO6.out.past FZ.out).cell 1, (FZ.out.cell (p := ⟨b, off + k, none⟩) ZB.out).trans X6.out⟩ (fun hHeld => ?_)
          clear hK K
          try simp only [Act.put, List.setIfInBounds_toArray, List.set_cons_zero, List.set_cons_succ]
          refine tr_op (by simp only [List.getElem?_toArray, List.getElem?_cons_succ, List.getElem?_cons_zero]; rfl) (fun K hK => ?_)
          go_wp2_with fail
          clear hHeld

          refine hK.out _ _ ⟨(SO6.out.past FZ.out).cell 0, (SO6.out.past FZ.out).cell 1, (FZ.out.cell (p := ⟨b, off + k, none⟩) ZB.out).trans X6.out⟩ (fun hHeld => ?_)
          clear hK K
          try simp only [Act.put, List.setIfInBounds_toArray, List.set_cons_zero, List.set_cons_succ]
          refine tr_tail rfl ?_
          clear hHeld
          go_upto_region 12 with (fail)
          rcases HX.out with h2 | ⟨h0, fx, a, c, f1, f2, f3, f4, f5⟩
          · subst h2
            go_wp2_with fail
            go_roundg (nl - (k + 1))
            case measure => omega
            case rel => exact ⟨k + 1, by omega, by omega, by go_num, Lib.hid (below_from FZ.out BW.out BW.out.size)⟩
          · subst h0
            have K1 := Lib.hid f1
            have K2 := Lib.hid f2
            have ST1 := Lib.hid f3
            have ST2 := Lib.hid f4
            have ID := Lib.hid f5
            have cS := SZ.out.cell
            have lS := SZ.out.lt
            have cR := RZ.out.cell
            have lR := RZ.out.lt
            clear f1 f2 f3 f4 f5 fx
            go_wp2_with fail
            refine (findc_at OZ1.out K1.out).mono ?_
            intro e w8 hx
            obtain ⟨x1, rfl, ha1, hb⟩ := hx
            have F8 := Lib.hid (hb.alloc hb.size (.cells #[.string x1.id, .int .i64 x1.pid, .int .i64 x1.gen, .int .i64 x1.no, .int .i64 x1.st, .slice x1.PA x1.Pn x1.Pc, .slice x1.GA x1.Gn x1.Gc, .int .i64 x1.at_] 33))
            have S8 := Lib.hid (SZ.out.past F8.out)
            have O8 := Lib.hid (OZ.out.past F8.out)
            have X8 := Lib.hid (ha1.past (below_alloc1 w8 (.cells #[.string x1.id, .int .i64 x1.pid, .int .i64 x1.gen, .int .i64 x1.no, .int .i64 x1.st, .slice x1.PA x1.Pn x1.Pc, .slice x1.GA x1.Gn x1.Gc, .int .i64 x1.at_] 33)))
            have T8 := Lib.hid (Has.newAt w8 #[.string x1.id, .int .i64 x1.pid, .int .i64 x1.gen, .int .i64 x1.no, .int .i64 x1.st, .slice x1.PA x1.Pn x1.Pc, .slice x1.GA x1.Gn x1.Gc, .int .i64 x1.at_] 33 (g := w8.heap.size) rfl)
            have cS8 := S8.out.cell
            have lS8 := S8.out.lt
            have cT8 := T8.out.cell
            have lT8 := T8.out.lt
            clear cS lS cR lR hb ha1
            go_wp2_with fail
            refine (findc_at O8.out K2.out).mono ?_
            intro e w9 hx
            obtain ⟨x2, rfl, ha2, hb⟩ := hx
            have bk := hb.alloc hb.size (.cells #[.string x2.id, .int .i64 x2.pid, .int .i64 x2.gen, .int .i64 x2.no, .int .i64 x2.st, .slice x2.PA x2.Pn x2.Pc, .slice x2.GA x2.Gn x2.Gc, .int .i64 x2.at_] 33)
            have F9 := Lib.hid (below_from bk F8.out F8.out.size)
            have T9 := Lib.hid (T8.out.past bk)
            have X9 := Lib.hid (ha2.past (below_alloc1 w9 (.cells #[.string x2.id, .int .i64 x2.pid, .int .i64 x2.gen, .int .i64 x2.no, .int .i64 x2.st, .slice x2.PA x2.Pn x2.Pc, .slice x2.GA x2.Gn x2.Gc, .int .i64 x2.at_] 33)))
            have Y9 := Lib.hid (Has.newAt w9 #[.string x2.id, .int .i64 x2.pid, .int .i64 x2.gen, .int .i64 x2.no, .int .i64 x2.st, .slice x2.PA x2.Pn x2.Pc, .slice x2.GA x2.Gn x2.Gc, .int .i64 x2.at_] 33 (g := w9.heap.size) rfl)
            obtain ⟨WF, hWF⟩ : ∃ W, W = w9.alloc (.cells #[.string x2.id, .int .i64 x2.pid, .int .i64 x2.gen, .int .i64 x2.no, .int .i64 x2.st, .slice x2.PA x2.Pn x2.Pc, .slice x2.GA x2.Gn x2.Gc, .int .i64 x2.at_] 33) := ⟨_, rfl⟩
            go_upto_region 15 with (fail)
            rw [← hWF] at bk F9 T9 X9 Y9
            rw [← hWF]
            clear hWF bk hb ha2 cS8 lS8 cT8 lT8
            have z1 : x1.st = 3 := (congrArg Tv.st X8.out.2).trans ST2.out
            have z2 : x2.st = 1 := (congrArg Tv.st X9.out.2).trans ST1.out
            have z3 : x2.id = s := (congrArg Tv.id X9.out.2).trans ID.out
            have r1 := at_regrown (w := WF) (v := .int .i64 x1.st) (T9.out.cell 4)
            have r2 := at_regrown (w := WF) (v := .int .i64 x2.st) (Y9.out.cell 4)
            have r3 := at_regrown (w := WF) (v := .string x2.id) (Y9.out.cell 0)
            have FF := Lib.hid (below_from F9.out FZ.out FZ.out.size)
            have r4 := at_regrown (w := WF) (v := .string s) ((FF.out.cell (p := ⟨b, off + k, none⟩) ZB.out).trans X6.out)
            rw [z1] at r1
            rw [z2] at r2
            rw [z3] at r3
            have lt1 := T9.out.lt
            have lt2 := Y9.out.lt
            have lt3 := Nat.lt_of_lt_of_le ZB.out FF.out.size
            clear z1 z2 z3
            refine region_below (by kernel_rfl) (by kernel_rfl) ?_
            repeat (go_big_quiet_step (fail))
            refine wpQuiet_nil ?_
            intro wF hbF
            have BF := Lib.hid (below_from hbF FF.out FF.out.size)
            clear hbF r1 r2 r3 r4 lt1 lt2 lt3
            go_wp2_with fail
            go_roundg (nl - (k + 1))
            case measure => omega
            case rel => exact ⟨k + 1, by omega, by omega, by go_num, Lib.hid (below_from BF.out BW.out BW.out.size)⟩
        · go_wp2_with fail
          clear hHeld
          obtain ⟨W7, hW7⟩ : ∃ W, W = w6.drew.alloc (.cells #[.int .i64 0, .slice none 0 0] 24) := ⟨_, rfl⟩
          have F7b := Lib.hid (show Below w6.heap.size w6 W7 from by rw [hW7]; exact D1.out.alloc D1.out.size _)
          have R7b := Lib.hid (show Has W7 w6.heap.size #[.int .i64 0, .slice none 0 0] from by rw [hW7]; exact Has.newAt w6.drew _ 24 rfl)
          have e7 : (w6.alloc (.cells #[.int .i64 0, .slice none 0 0] 24)).drew = W7 := by rw [hW7]; rfl
          try rw [e7]
          try rw [← hW7]
          clear hW7 e7
          refine hK.out _ _ ⟨(SO6.out.past F7b.out).cell 0, (SO6.out.past F7b.out).cell 1, (F7b.out.cell (p := ⟨b, off + k, none⟩) ZB.out).trans X6.out⟩ (fun hHeld => ?_)
          clear hK K
          try simp only [Act.put, List.setIfInBounds_toArray, List.set_cons_zero, List.set_cons_succ]
          refine tr_op (by simp only [List.getElem?_toArray, List.getElem?_cons_succ, List.getElem?_cons_zero]; rfl) (fun K hK => ?_)
          go_wp2_with (go_at_call 13; refine (init_at (O6.out.past F7b.out) FEW.out SI.out HV.out).mono ?_; rintro e w7 ⟨o1, rfl, ha, hb⟩)
          clear hHeld
          have F8 := Lib.hid (below_from hb F7b.out F7b.out.size)
          have R8 := Lib.hid (R7b.out.past hb)
          have Q8 := Lib.hid ha
          have GE := Lib.hid (show w6.heap.size ≤ w6.heap.size from Nat.le_refl _)
          clear ha hb
          have r8c := R8.out.cell
          have r8f := R8.out.free
          have r8l := R8.out.lt
          refine hK.out _ _ ⟨(SO6.out.past F8.out).cell 0, (SO6.out.past F8.out).cell 1, (F8.out.cell (p := ⟨b, off + k, none⟩) ZB.out).trans X6.out⟩ (fun hHeld => ?_)
          clear hK K
          try simp only [Act.put, List.setIfInBounds_toArray, List.set_cons_zero, List.set_cons_succ]
          iterate 5
            refine tr_take (v := ?_) (by simp only [List.getElem?_toArray, List.getElem?_cons_succ, List.getElem?_cons_zero]; rfl) (Or.inl ⟨by rfl, ?_⟩) ?_
            rotate_left 1
            · intro w hSw
              try dsimp only at hSw
              go_simp
              try with_reducible rfl
            try simp only [Act.put, List.setIfInBounds_toArray, List.set_cons_zero, List.set_cons_succ]
          refine tr_op (by simp only [List.getElem?_toArray, List.getElem?_cons_succ, List.getElem?_cons_zero]; rfl) (fun K hK => ?_)
          go_wp2_with fail
          clear hHeld
          have G := setCells_grown w6.heap.size [.int .i64 o1.next, .slice o1.A o1.n o1.c] 0 w7
          have RZ := Lib.hid (R8.out.set [.int .i64 o1.next, .slice o1.A o1.n o1.c] rfl)
          have FZ := Lib.hid (F8.out.trans (grown_below G F8.out.size (fun k hk => by injection hk with hk; have := GE.out; omega)))
          have OZ1 := Lib.hid (Q8.out.beside R8.out (tc_texts _ _ _ _) G)
          obtain ⟨wz, hwz⟩ : ∃ W, W = w7.setCells w6.heap.size 0 [.int .i64 o1.next, .slice o1.A o1.n o1.c] := ⟨_, rfl⟩
          rw [← hwz] at RZ FZ OZ1
          have SZ := Lib.hid (SO6.out.past FZ.out)
          have OZ := Lib.hid (O6.out.past FZ.out)
          rw [show (w7.setCell ⟨w6.heap.size, 0, none⟩ (.int .i64 o1.next)).setCell ⟨w6.heap.size, 1, none⟩ (.slice o1.A o1.n o1.c) = wz from hwz.symm]
          clear hwz G r8c r8f r8l
          refine hK.out _ _ ⟨(SO6.out.past FZ.out).cell 0, (SO6.out.past FZ.out).cell 1, (FZ.out.cell (p := ⟨b, off + k, none⟩) ZB.out).trans X6.out⟩ (fun hHeld => ?_)
          clear hK K
          try simp only [Act.put, List.setIfInBounds_toArray, List.set_cons_zero, List.set_cons_succ]
          refine tr_op (by simp only [List.getElem?_toArray, List.getElem?_cons_succ, List.getElem?_cons_zero]; rfl) (fun K hK => ?_)
          go_wp2_with fail
          clear hHeld

          refine hK.out _ _ ⟨(SO6.out.past FZ.out).cell 0, (SO6.out.past FZ.out).cell 1, (FZ.out.cell (p := ⟨b, off + k, none⟩) ZB.out).trans X6.out⟩ (fun hHeld => ?_)
          clear hK K
          try simp only [Act.put, List.setIfInBounds_toArray, List.set_cons_zero, List.set_cons_succ]
          refine tr_op (by simp only [List.getElem?_toArray, List.getElem?_cons_succ, List.getElem?_cons_zero]; rfl) (fun K hK => ?_)
          go_wp2_with fail
          clear hHeld

          refine hK.out _ _ ⟨(SO6.out.past FZ.out).cell 0, (SO6.out.past FZ.out).cell 1, (FZ.out.cell (p := ⟨b, off + k, none⟩) ZB.out).trans X6.out⟩ (fun hHeld => ?_)
          clear hK K
          try simp only [Act.put, List.setIfInBounds_toArray, List.set_cons_zero, List.set_cons_succ]
          refine tr_tail rfl ?_
          clear hHeld
          go_upto_region 12 with (fail)
          rcases HX.out with h2 | ⟨h0, fx, a, c, f1, f2, f3, f4, f5⟩
          · subst h2
            go_wp2_with fail
            go_roundg (nl - (k + 1))
            case measure => omega
            case rel => exact ⟨k + 1, by omega, by omega, by go_num, Lib.hid (below_from FZ.out BW.out BW.out.size)⟩
          · subst h0
            have K1 := Lib.hid f1
            have K2 := Lib.hid f2
            have ST1 := Lib.hid f3
            have ST2 := Lib.hid f4
            have ID := Lib.hid f5
            have cS := SZ.out.cell
            have lS := SZ.out.lt
            have cR := RZ.out.cell
            have lR := RZ.out.lt
            clear f1 f2 f3 f4 f5 fx
            go_wp2_with fail
            refine (findc_at OZ1.out K1.out).mono ?_
            intro e w8 hx
            obtain ⟨x1, rfl, ha1, hb⟩ := hx
            have F8 := Lib.hid (hb.alloc hb.size (.cells #[.string x1.id, .int .i64 x1.pid, .int .i64 x1.gen, .int .i64 x1.no, .int .i64 x1.st, .slice x1.PA x1.Pn x1.Pc, .slice x1.GA x1.Gn x1.Gc, .int .i64 x1.at_] 33))
            have S8 := Lib.hid (SZ.out.past F8.out)
            have O8 := Lib.hid (OZ.out.past F8.out)
            have X8 := Lib.hid (ha1.past (below_alloc1 w8 (.cells #[.string x1.id, .int .i64 x1.pid, .int .i64 x1.gen, .int .i64 x1.no, .int .i64 x1.st, .slice x1.PA x1.Pn x1.Pc, .slice x1.GA x1.Gn x1.Gc, .int .i64 x1.at_] 33)))
            have T8 := Lib.hid (Has.newAt w8 #[.string x1.id, .int .i64 x1.pid, .int .i64 x1.gen, .int .i64 x1.no, .int .i64 x1.st, .slice x1.PA x1.Pn x1.Pc, .slice x1.GA x1.Gn x1.Gc, .int .i64 x1.at_] 33 (g := w8.heap.size) rfl)
            have cS8 := S8.out.cell
            have lS8 := S8.out.lt
            have cT8 := T8.out.cell
            have lT8 := T8.out.lt
            clear cS lS cR lR hb ha1
            go_wp2_with fail
            refine (findc_at O8.out K2.out).mono ?_
            intro e w9 hx
            obtain ⟨x2, rfl, ha2, hb⟩ := hx
            have bk := hb.alloc hb.size (.cells #[.string x2.id, .int .i64 x2.pid, .int .i64 x2.gen, .int .i64 x2.no, .int .i64 x2.st, .slice x2.PA x2.Pn x2.Pc, .slice x2.GA x2.Gn x2.Gc, .int .i64 x2.at_] 33)
            have F9 := Lib.hid (below_from bk F8.out F8.out.size)
            have T9 := Lib.hid (T8.out.past bk)
            have X9 := Lib.hid (ha2.past (below_alloc1 w9 (.cells #[.string x2.id, .int .i64 x2.pid, .int .i64 x2.gen, .int .i64 x2.no, .int .i64 x2.st, .slice x2.PA x2.Pn x2.Pc, .slice x2.GA x2.Gn x2.Gc, .int .i64 x2.at_] 33)))
            have Y9 := Lib.hid (Has.newAt w9 #[.string x2.id, .int .i64 x2.pid, .int .i64 x2.gen, .int .i64 x2.no, .int .i64 x2.st, .slice x2.PA x2.Pn x2.Pc, .slice x2.GA x2.Gn x2.Gc, .int .i64 x2.at_] 33 (g := w9.heap.size) rfl)
            obtain ⟨WF, hWF⟩ : ∃ W, W = w9.alloc (.cells #[.string x2.id, .int .i64 x2.pid, .int .i64 x2.gen, .int .i64 x2.no, .int .i64 x2.st, .slice x2.PA x2.Pn x2.Pc, .slice x2.GA x2.Gn x2.Gc, .int .i64 x2.at_] 33) := ⟨_, rfl⟩
            go_upto_region 15 with (fail)
            rw [← hWF] at bk F9 T9 X9 Y9
            rw [← hWF]
            clear hWF bk hb ha2 cS8 lS8 cT8 lT8
            have z1 : x1.st = 3 := (congrArg Tv.st X8.out.2).trans ST2.out
            have z2 : x2.st = 1 := (congrArg Tv.st X9.out.2).trans ST1.out
            have z3 : x2.id = s := (congrArg Tv.id X9.out.2).trans ID.out
            have r1 := at_regrown (w := WF) (v := .int .i64 x1.st) (T9.out.cell 4)
            have r2 := at_regrown (w := WF) (v := .int .i64 x2.st) (Y9.out.cell 4)
            have r3 := at_regrown (w := WF) (v := .string x2.id) (Y9.out.cell 0)
            have FF := Lib.hid (below_from F9.out FZ.out FZ.out.size)
            have r4 := at_regrown (w := WF) (v := .string s) ((FF.out.cell (p := ⟨b, off + k, none⟩) ZB.out).trans X6.out)
            rw [z1] at r1
            rw [z2] at r2
            rw [z3] at r3
            have lt1 := T9.out.lt
            have lt2 := Y9.out.lt
            have lt3 := Nat.lt_of_lt_of_le ZB.out FF.out.size
            clear z1 z2 z3
            refine region_below (by kernel_rfl) (by kernel_rfl) ?_
            repeat (go_big_quiet_step (fail))
            refine wpQuiet_nil ?_
            intro wF hbF
            have BF := Lib.hid (below_from hbF FF.out FF.out.size)
            clear hbF r1 r2 r3 r4 lt1 lt2 lt3
            go_wp2_with fail
            go_roundg (nl - (k + 1))
            case measure => omega
            case rel => exact ⟨k + 1, by omega, by omega, by go_num, Lib.hid (below_from BF.out BW.out BW.out.size)⟩
      · obtain rfl : nl = k := by omega
        go_wp2_with fail
        go_ret
        exact ⟨rfl, below_from BR.out B5.out B5.out.size⟩
  · obtain ⟨c, hc⟩ : ∃ c, checkV o.val = c := ⟨_, rfl⟩
    have HC := Lib.hid hc
    rw [hc] at hk
    have n1 : (c != 0) = true := by rw [bne_iff_ne]; exact hk
    have n2 : (c == 0) = false := by rw [beq_eq_false_iff_ne]; exact hk
    clear hc hk
    go_wp2_with fail
    refine (check_at O2.out FEW.out HC.out).mono ?_
    intro e w3 hx
    obtain ⟨rfl, hb⟩ := hx
    have B3 := Lib.hid (below_from hb B2.out B2.out.size)
    have SO3 := Lib.hid (SO2.out.past hb)
    have cSO3 := SO3.out.cell
    have lSO3 := SO3.out.lt
    have O3 := Lib.hid (Tc.Is.past O2.out hb)
    clear cSO2 lSO2 hb
    go_wp2_with fail
    go_ret
    exact ⟨rfl, B3.out⟩

end Go.Proofs.Ytnigjchgpmladaa
