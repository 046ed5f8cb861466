/- CoordDecided: what is decided stays so. -/
import Derived.Test.YtnigjchgpmladaaAll
import Derived.Deep.DeepCutAuto
namespace Go.Proofs.Ytnigjchgpmladaa
open Go.RowKit Go.Shelf

set_option maxHeartbeats 16000000 in
set_option maxRecDepth 100000 in
theorem ldecided_any (o : Tc) (A : Option Addr) (n c : Nat) (l : List Dv) (w : World) (ho : Tc.At w o) (hl : Sl dvK w A n c l) : Calls Try.prog 7 #[o.v, .slice A n c] w fun e w' => e = .returned (.bool true) ∧ Below w.heap.size w w' := by
  have bw := below_alloc1 w (.cells #[.int .i64 o.next, .slice o.A o.n o.c] 24)
  obtain ⟨W0, hW0⟩ : ∃ W, W = (w.alloc (.cells #[.int .i64 o.next, .slice o.A o.n o.c] 24)) := ⟨_, rfl⟩
  rw [← hW0] at bw
  have B0 := Lib.hid bw
  have SO0 := Lib.hid (show Has W0 w.heap.size #[.int .i64 o.next, .slice o.A o.n o.c] from by rw [hW0]; exact (Has.newAt w _ 24 rfl))
  have cSO0 := SO0.out.cell
  have lSO0 := SO0.out.lt
  have O0 := Lib.hid (show Tc.Is W0 o o.val from ⟨ho.below bw, rfl⟩)
  have LS0 := Lib.hid (hl.below bw)
  have HWW := Lib.hid hW0
  have LV := Lib.hid live_any
  clear bw ho hW0 hl 
  go_enter Try.func7, Try.ntmps7
  go_upto_region 1 with (fail)
  rw [← HWW.out]
  go_wp2_with fail
  refine (LV.out _).mono ?_
  intro e w1 hx
  obtain ⟨rfl, hb⟩ := hx
  have B1 := Lib.hid (below_from hb B0.out B0.out.size)
  have SO1 := Lib.hid (SO0.out.past hb)
  have cSO1 := SO1.out.cell
  have lSO1 := SO1.out.lt
  have O1 := Lib.hid (Tc.Is.past O0.out hb)
  have LS1 := Lib.hid (LS0.out.below hb)
  clear cSO0 lSO0 hb
  go_wp2_with fail
  cases hfw : fewB o.val with
  | false =>
    refine (few_at O1.out hfw).mono ?_
    intro e w2 hx
    obtain ⟨rfl, hb⟩ := hx
    have B2 := Lib.hid (below_from hb B1.out B1.out.size)
    have SO2 := Lib.hid (SO1.out.past hb)
    have cSO2 := SO2.out.cell
    have lSO2 := SO2.out.lt
    have O2 := Lib.hid (Tc.Is.past O1.out hb)
    have LS2 := Lib.hid (LS1.out.below hb)
    clear cSO1 lSO1 hb
    go_wp2_with fail
    go_ret
    exact ⟨rfl, B2.out⟩
  | true =>
  have FEW := Lib.hid (fewB_few hfw)
  refine (few_at O1.out hfw).mono ?_
  intro e w2 hx
  obtain ⟨rfl, hb⟩ := hx
  have B2 := Lib.hid (below_from hb B1.out B1.out.size)
  have SO2 := Lib.hid (SO1.out.past hb)
  have cSO2 := SO2.out.cell
  have lSO2 := SO2.out.lt
  have O2 := Lib.hid (Tc.Is.past O1.out hb)
  have LS2 := Lib.hid (LS1.out.below hb)
  clear cSO1 lSO1 hb hfw
  go_wp2_with fail
  refine (fewd_any A n c l _ LS2.out).mono ?_
  intro e w3 hx
  obtain ⟨bf, rfl, hb⟩ := hx
  have B3 := Lib.hid (below_from hb B2.out B2.out.size)
  have SO3 := Lib.hid (SO2.out.past hb)
  have cSO3 := SO3.out.cell
  have lSO3 := SO3.out.lt
  have O3 := Lib.hid (Tc.Is.past O2.out hb)
  have LS3 := Lib.hid (LS2.out.below hb)
  clear cSO2 lSO2 hb
  cases bf with
  | false =>
    go_wp2_with fail
    go_ret
    exact ⟨rfl, B3.out⟩
  | true =>
  by_cases hk : checkV o.val = 0
  · have HK := Lib.hid hk
    clear hk
    go_wp2_with fail
    refine (check_at O3.out FEW.out HK.out).mono ?_
    intro e w4 hx
    obtain ⟨rfl, hb⟩ := hx
    have B4 := Lib.hid (below_from hb B3.out B3.out.size)
    have SO4 := Lib.hid (SO3.out.past hb)
    have cSO4 := SO4.out.cell
    have lSO4 := SO4.out.lt
    have O4 := Lib.hid (Tc.Is.past O3.out hb)
    have LS4 := Lib.hid (LS3.out.below hb)
    clear cSO3 lSO3 hb
    go_wp2_with fail
    refine (all_steps o A n c l _ O4.out.1 FEW.out LS4.out).mono ?_
    intro e w5 hx
    obtain ⟨o1, rfl, ha, hst, hfq, hb⟩ := hx
    have DL := Lib.hid (decided_law (chk_iff.1 HK.out) hst)
    have FQ := Lib.hid hfq
    clear hst hfq
    have bk5 := hb.alloc hb.size (.cells #[.int .i64 o1.next, .slice o1.A o1.n o1.c] 24)
    have B5 := Lib.hid (below_from bk5 B4.out B4.out.size)
    have SO5 := Lib.hid (SO4.out.past bk5)
    have cSO5 := SO5.out.cell
    have lSO5 := SO5.out.lt
    have O5 := Lib.hid (Tc.Is.past O4.out bk5)
    have LS5 := Lib.hid (LS4.out.below bk5)
    have O1_5 := Lib.hid (show Tc.Is _ o1 o1.val from ⟨ha.below (below_alloc1 w5 (.cells #[.int .i64 o1.next, .slice o1.A o1.n o1.c] 24)), rfl⟩)
    have S1_5 := Lib.hid (Has.newAt w5 #[.int .i64 o1.next, .slice o1.A o1.n o1.c] 24 (g := w5.heap.size) rfl)
    have cS1_5 := S1_5.out.cell
    have lS1_5 := S1_5.out.lt
    clear cSO4 lSO4 hb ha bk5
    obtain ⟨WZ, hWZ⟩ : ∃ W, W = w5.alloc (.cells #[.int .i64 o1.next, .slice o1.A o1.n o1.c] 24) := ⟨_, rfl⟩
    go_upto_region 5 with (fail)
    rw [← hWZ] at B5 SO5 O5 LS5 O1_5 S1_5
    rw [← hWZ]
    clear hWZ cSO5 lSO5 cS1_5 lS1_5
    have HL := Lib.hid (show Sl txK WZ o.A o.n o.c o.L from O5.out.1)
    have mx1 := HL.out.cap
    have mx2 := HL.out.max
    obtain ⟨CA, hCA⟩ : ∃ A, o.A = A := ⟨_, rfl⟩
    have SX := Lib.hid (show Has WZ w.heap.size #[.int .i64 o.next, .slice CA o.n o.c] from by rw [← hCA]; exact SO5.out)
    have HLX := Lib.hid (show Sl txK WZ CA o.n o.c o.L from by rw [← hCA]; exact HL.out)
    have HCA := Lib.hid hCA
    clear hCA
    go_wp2_with fail
    go_loopg [7] o.n (fun gg s7 wr => ∃ k : Nat, k ≤ o.n ∧ o.n - k ≤ gg ∧ s7 = .int .i64 k ∧ Hid (Below WZ.heap.size WZ wr))
    case atStart => exact ⟨0, Nat.zero_le _, by omega, rfl, Lib.hid (Below.refl _ _)⟩
    case round =>
      obtain ⟨k, hk, hgg, rfl, BR⟩ := hrel
      have SXr := Lib.hid (SX.out.past BR.out)
      have S1r := Lib.hid (S1_5.out.past BR.out)
      have O1r := Lib.hid (O1_5.out.past BR.out)
      have sxc := SXr.out.cell
      have sxl := SXr.out.lt
      have s1c := S1r.out.cell
      have s1l := S1r.out.lt
      by_cases hlt : k < o.n
      · obtain ⟨b, off, hkl, rfl, hbl, x0, x1, x2, x3, x4, x5, x6, x7⟩ := tx_at (HLX.out.below BR.out) hlt
        have XI := Lib.hid (show Tx.In wr o.L[k] from (HLX.out.below BR.out).each _ (List.getElem_mem hkl))
        have DS := ((chk_iff.1 HK.out).ok (show o.L[k].val ∈ o.val.L from List.mem_map_of_mem (List.getElem_mem hkl))).st
        have DK := DL.out.2.2.2 o.L[k].val (List.mem_map_of_mem (List.getElem_mem hkl))
        generalize o.L[k] = x at *
        obtain ⟨bv, f1, f2, f3, f4, f5⟩ := DK
        have F1 := Lib.hid f1
        have F2 := Lib.hid (show bv.id = x.id from f2)
        have F3 := Lib.hid (show x.gen ≤ bv.gen from f3)
        have F4 := Lib.hid (show bv.no = x.no from f4)
        have HST := Lib.hid (show 0 ≤ x.st ∧ x.st ≤ 3 from DS)
        have F5 := Lib.hid (show 1 < x.st → ({ x.val with gen := bv.gen } : Tv) = bv from f5)
        have q0 : (0 : Int) ≤ (k : Int) := by omega
        have q1 : (k : Int) < (o.n : Int) := by omega
        clear f1 f2 f3 f4 f5 hkl DS
        go_upto_region 9 with (fail)
        obtain ⟨w6, hw6⟩ : ∃ W, W = wr.alloc (.cells #[.string x.id, .int .i64 x.pid, .int .i64 x.gen, .int .i64 x.no, .int .i64 x.st, .slice x.PA x.Pn x.Pc, .slice x.GA x.Gn x.Gc, .int .i64 x.at_] 33) := ⟨_, rfl⟩
        have bk := below_alloc1 wr (.cells #[.string x.id, .int .i64 x.pid, .int .i64 x.gen, .int .i64 x.no, .int .i64 x.st, .slice x.PA x.Pn x.Pc, .slice x.GA x.Gn x.Gc, .int .i64 x.at_] 33)
        have X6 := Lib.hid (show Has w6 wr.heap.size #[.string x.id, .int .i64 x.pid, .int .i64 x.gen, .int .i64 x.no, .int .i64 x.st, .slice x.PA x.Pn x.Pc, .slice x.GA x.Gn x.Gc, .int .i64 x.at_] from by rw [hw6]; exact Has.newAt wr _ 33 rfl)
        rw [← hw6] at bk
        have B6 := Lib.hid bk
        have S6 := Lib.hid (S1r.out.past bk)
        rw [← hw6]
        clear hw6 bk sxc sxl s1c s1l x0 x1 x2 x3 x4 x5 x6 x7 q0 q1
        have x6c := X6.out.cell
        have x6l := X6.out.lt
        have s6c := S6.out.cell
        have s6l := S6.out.lt
        go_wp2_with fail
        refine (findm_at O1r.out (O1r.out.past B6.out) F1.out).mono ?_
        intro e w7 hx
        obtain ⟨y, rfl, ha, hb⟩ := hx
        have bk := hb.alloc hb.size (.cells #[.string y.id, .int .i64 y.pid, .int .i64 y.gen, .int .i64 y.no, .int .i64 y.st, .slice y.PA y.Pn y.Pc, .slice y.GA y.Gn y.Gc, .int .i64 y.at_] 33)
        obtain ⟨w8, hw8⟩ : ∃ W, W = w7.alloc (.cells #[.string y.id, .int .i64 y.pid, .int .i64 y.gen, .int .i64 y.no, .int .i64 y.st, .slice y.PA y.Pn y.Pc, .slice y.GA y.Gn y.Gc, .int .i64 y.at_] 33) := ⟨_, rfl⟩
        have Y8 := Lib.hid (show Has w8 w7.heap.size #[.string y.id, .int .i64 y.pid, .int .i64 y.gen, .int .i64 y.no, .int .i64 y.st, .slice y.PA y.Pn y.Pc, .slice y.GA y.Gn y.Gc, .int .i64 y.at_] from by rw [hw8]; exact Has.newAt w7 _ 33 rfl)
        have YI := Lib.hid ha
        have Y7 := Lib.hid (show wr.heap.size < w7.heap.size from Nat.lt_of_lt_of_le X6.out.lt hb.size)
        go_upto_region 10 with (fail)
        rw [← hw8] at bk
        have B8 := Lib.hid (below_from bk B6.out B6.out.size)
        have X8 := Lib.hid (X6.out.past bk)
        rw [← hw8]
        clear hw8 bk ha hb x6c x6l s6c s6l
        have z1 : y.id = x.id := (congrArg Tv.id YI.out.2).trans F2.out
        have z2 : bv.gen = y.gen := (congrArg Tv.gen YI.out.2).symm
        have z3 : y.no = x.no := (congrArg Tv.no YI.out.2).trans F4.out
        have y8 := Y8.out
        rw [z1, z3] at y8
        have F3b := F3.out
        rw [z2] at F3b F5
        have y8c := y8.cell
        have y8l := y8.lt
        have x8c := X8.out.cell
        have x8l := X8.out.lt
        have x8f := X8.out.free
        have d1 : decide (y.gen < x.gen) = false := decide_eq_false (by omega)
        have YY := Lib.hid y8
        have ZZ1 := Lib.hid z1
        have ZZ3 := Lib.hid z3
        clear z1 z2 z3 F3b y8
        by_cases c0 : x.st = 0
        · have k0 : (x.st == 0) = true := by rw [beq_iff_eq]; exact c0
          clear c0
          go_wp2_with fail
          go_roundg (o.n - (k + 1))
          case measure => omega
          case rel => exact ⟨k + 1, by omega, by omega, by go_num, Lib.hid (below_from B8.out BR.out BR.out.size)⟩
        · have k0 : (x.st == 0) = false := by rw [beq_eq_false_iff_ne]; exact c0
          by_cases c1 : x.st = 1
          · have k1 : (x.st == 1) = true := by rw [beq_iff_eq]; exact c1
            clear c0 c1
            go_wp2_with fail
            go_roundg (o.n - (k + 1))
            case measure => omega
            case rel => exact ⟨k + 1, by omega, by omega, by go_num, Lib.hid (below_from B8.out BR.out BR.out.size)⟩
          · have k1 : (x.st == 1) = false := by rw [beq_eq_false_iff_ne]; exact c1
            have EQ := Lib.hid (show ({ x.val with gen := y.gen } : Tv) = bv from F5.out (by have := HST.out; omega))
            have EY := Lib.hid (show ({ y with id := x.id, no := x.no } : Tx) = y from by rw [← ZZ1.out, ← ZZ3.out])
            clear c0 c1
            go_upto_region 14 with (fail)
            have G := setCells_grown wr.heap.size [.int .i64 y.gen] 2 w8
            obtain ⟨w9, hw9⟩ : ∃ W, W = w8.setCells wr.heap.size 2 [.int .i64 y.gen] := ⟨_, rfl⟩
            have X9 := Lib.hid (show Has w9 wr.heap.size #[.string x.id, .int .i64 x.pid, .int .i64 y.gen, .int .i64 x.no, .int .i64 x.st, .slice x.PA x.Pn x.Pc, .slice x.GA x.Gn x.Gc, .int .i64 x.at_] from by
              have := X8.out.setAt 2 (.int .i64 y.gen) (by simp)
              rw [hw9]
              simpa [World.setCells] using this)
            rw [← hw9] at G
            have B9 := Lib.hid (B8.out.trans (grown_below G B8.out.size (fun k hk => by injection hk with hk; omega)))
            have Y9 := Lib.hid (YY.out.grown G (by have := Y7.out; omega))
            have SMC := Lib.hid (sametx_at (x := { x with gen := y.gen }) (y := { y with id := x.id, no := x.no }) (u := bv) (v := bv) (b := true) (w := w9) ⟨(fun (h : Tx.In w9 x) => (⟨h.id, h.p, h.g⟩ : Tx.In w9 { x with gen := y.gen })) (XI.out.past B9.out), EQ.out⟩ (by rw [EY.out]; exact YI.out.past B9.out) (decide_eq_true rfl))
            rw [show w8.setCell ⟨wr.heap.size, 2, none⟩ (.int .i64 y.gen) = w9 from hw9.symm]
            clear hw9 G y8c y8l x8c x8l x8f d1 k0 k1
            have x9c := X9.out.cell
            have x9l := X9.out.lt
            have y9c := Y9.out.cell
            have y9l := Y9.out.lt
            go_wp2_with (go_at_call 20; refine SMC.out.mono ?_; rintro e w10 ⟨rfl, hb⟩; have B10 := Lib.hid (below_from hb B9.out B9.out.size); clear hb)
            go_roundg (o.n - (k + 1))
            case measure => omega
            case rel => exact ⟨k + 1, by omega, by omega, by go_num, Lib.hid (below_from B10.out BR.out BR.out.size)⟩
      · obtain rfl : o.n = k := by omega
        have CKX := Lib.hid (check_at (O1r.out) FQ.out DL.out.1)
        have e1 := DL.out.2.1
        have e2 := DL.out.2.2.1
        have e3 := O1r.out.num
        have e4 := (show Tc.At WZ o from HL.out).num
        have g1 : decide (o.next ≤ o1.next) = true := decide_eq_true e1
        have g2 : decide ((o.n : Int) ≤ (o1.n : Int)) = true := decide_eq_true (by rw [e3, ← e4]; omega)
        have g3 : decide (o.n ≤ o1.n) = true := decide_eq_true (by rw [e3, ← e4]; omega)
        clear e1 e2 e3 e4
        go_wp2_with (go_at_call 18; refine CKX.out.mono ?_; rintro e w6 ⟨rfl, hb⟩; have B6 := Lib.hid (below_from hb BR.out BR.out.size); have c6 := (S1r.out.past hb).cell; have l6 := (S1r.out.past hb).lt; have c7 := (SXr.out.past hb).cell; have l7 := (SXr.out.past hb).lt; clear hb s1c s1l sxc sxl)
        go_ret
        exact ⟨rfl, below_from B6.out B5.out B5.out.size⟩
  · obtain ⟨cc, hc⟩ : ∃ c, checkV o.val = c := ⟨_, rfl⟩
    have HC := Lib.hid hc
    rw [hc] at hk
    have n1 : (cc != 0) = true := by rw [bne_iff_ne]; exact hk
    have n2 : (cc == 0) = false := by rw [beq_eq_false_iff_ne]; exact hk
    clear hc hk
    go_wp2_with fail
    refine (check_at O3.out FEW.out HC.out).mono ?_
    intro e w4 hx
    obtain ⟨rfl, hb⟩ := hx
    have B4 := Lib.hid (below_from hb B3.out B3.out.size)
    have SO4 := Lib.hid (SO3.out.past hb)
    have cSO4 := SO4.out.cell
    have lSO4 := SO4.out.lt
    have O4 := Lib.hid (Tc.Is.past O3.out hb)
    have LS4 := Lib.hid (LS3.out.below hb)
    clear cSO3 lSO3 hb
    go_wp2_with fail
    go_ret
    exact ⟨rfl, B4.out⟩

end Go.Proofs.Ytnigjchgpmladaa
