/- A round of NetFair's: a message is sent. A round of NetFair's: time goes by. A round of NetFair's: a way is cut. A round of NetFair's: a way is healed. Rounds of NetFair's that end the law, or the loop. NetFair's loop over the steps, whole. -/
import Derived.Test.YtmlgahambecamaaFairA
import Derived.Test.YtmlgahambecamaaNew
import Derived.Test.YtmlgahambecamaaTick
import Derived.Test.YtmlgahambecamaaCutH
import Derived.Test.YtmlgahambecamaaWays
namespace Go.Proofs.Ytmlgahambecamaa
open Go.RowKit Go.Shelf

set_option maxHeartbeats 16000000 in
set_option maxRecDepth 100000 in
theorem fairts (c : Nat → Value) (g : Nat) (SA : Option Addr) (Sn Sc : Nat) (LA : Option Addr) (Ln Lc : Nat) (f : Nat → Value) (v8 : Value) (S : List Sp) (L : List St) (w : World) (HS : Hid (Sl spK w SA Sn Sc S)) (HL : Hid (Sl stK w LA Ln Lc L)) (LS : Hid (S.length ≤ 20)) (SN : Hid (S.length = Sn)) (p3 : Ln ≤ 40) (k : Nat) (o : Nt) (Wn Cm : Rw) (wr : World) (hw2 : Wn.n ≤ 2 * k) (B1 : Hid (Below w.heap.size w wr)) (F1 : Hid (FS w.heap.size g wr o Wn Cm)) (FA1 : Hid (Fair S k o.val (Wn.l.map Mg.val) (Cm.l.map Mg.val))) (hlt : k < Ln) (x : St) (hx : L[k]? = some x) (g1 : ¬ 100 < x.n) (g2 : ¬ x.d < 0) (g3 : ¬ 1000 < x.d) (ZK : Hid (x.kind = 0)) (K : Act → World → Prop) (Q0 : Exit → Act → World → Prop) (hK : ∀ a' w', WI c g SA Sn Sc LA Ln Lc S w (k + 1) a' w' → K a' w') : Code.wp Try.prog fbody (Exit.then K Q0) (fr c g SA Sn Sc LA Ln Lc f v8 (.slice Wn.A Wn.n Wn.c) (.slice Cm.A Cm.n Cm.c) (.int .i64 k)) wr := by
  obtain ⟨i0, hi0, hz0, hs0, hb0⟩ := info_parts inf40
  have ZN := Lib.hid zero_nb
  have sn20 : Sn ≤ 20 := by have h1 := SN.out; have h2 := LS.out; omega
  unfold fr
  conv => arg 2; whnf
  have cF1 := (show ∀ i, World.cell? _ ⟨_, i, none⟩ = #[.int .i64 o.now, .int .i64 o.next, .slice o.LA o.Ln o.Lc, .slice o.SA o.Sn o.Sc, .slice o.CA o.Cn o.Cc, .slice o.KA o.Kn o.Kc][i]? from F1.out.net.cell)
  have lF1 := F1.out.net.lt
  have fF1 := F1.out.net.free
  obtain ⟨bb, off, hkl, hLA, hbl, x0, x1, x2, x3, x4⟩ := st_at (HL.out.below B1.out) hlt
  have XB := Lib.hid (show Sl u8K w L[k].A L[k].n L[k].c L[k].bs from HL.out.each _ (List.getElem_mem hkl))
  have ex : L[k] = x := by rw [List.getElem?_eq_getElem hkl] at hx; injection hx
  rw [ex] at x0 x1 x2 x3 x4 XB
  clear ex hx
  subst hLA
  have xcap := XB.out.cap
  have xmax := XB.out.max
  have SD := Lib.hid send_any
  have dg10 : decide (100 < x.n) = false := decide_eq_false (by omega)
  have dg11 : decide ((100 : Int) < (x.n : Int)) = false := decide_eq_false (by omega)
  have dg20 : decide (x.d < 0) = false := decide_eq_false (by omega)
  have dg30 : decide (1000 < x.d) = false := decide_eq_false (by omega)
  have nb := Bx.new F1.out #[.int .i64 x.kind, .int .i64 x.a, .int .i64 x.b, .int .i64 x.d, .slice x.A x.n x.c] 52
  have bk2 := below_alloc1 wr (.cells #[.int .i64 x.kind, .int .i64 x.a, .int .i64 x.b, .int .i64 x.d, .slice x.A x.n x.c] 52)
  have B2 := Lib.hid (below_from bk2 B1.out B1.out.size)
  have F2 := Lib.hid (F1.out.past bk2)
  have cF2 := (show ∀ i, World.cell? _ ⟨_, i, none⟩ = #[.int .i64 o.now, .int .i64 o.next, .slice o.LA o.Ln o.Lc, .slice o.SA o.Sn o.Sc, .slice o.CA o.Cn o.Cc, .slice o.KA o.Kn o.Kc][i]? from F2.out.net.cell)
  have lF2 := F2.out.net.lt
  have fF2 := F2.out.net.free
  have P2 := Lib.hid nb
  have cP2 := P2.out.has.cell
  have lP2 := P2.out.has.lt
  clear cF1 lF1 fF1 bk2 nb
  have lg2 := F1.out.net.lt
  go_upto_region 14 with (fail)
  obtain ⟨W1, hW1⟩ : ∃ W, W = wr.alloc (.cells #[.int .i64 x.kind, .int .i64 x.a, .int .i64 x.b, .int .i64 x.d, .slice x.A x.n x.c] 52) := ⟨_, rfl⟩
  rw [← hW1] at B2 F2 cF2 lF2 fF2 P2 cP2 lP2
  rw [← hW1]
  clear hW1
  clear lg2 x0 x1 x2 x3 x4
  have DN := Lib.hid (show 0 ≤ x.d ∧ x.d ≤ 1000 from by omega)
  clear g1 g2 g3
  have z0 := ZK.out
  have z0a : (x.kind == 0) = true := by rw [beq_iff_eq]; exact z0
  have z0b : (x.kind != 0) = false := by rw [bne_eq_false_iff_eq]; exact z0
  have z0c : decide (x.kind = 0) = true := decide_eq_true z0
  clear z0 z0c
  obtain ⟨V2, hV2⟩ : ∃ V, sendV o.val x.a x.b x.d x.bs = V := ⟨_, rfl⟩
  obtain ⟨V2, c2⟩ := V2
  have HV := Lib.hid hV2
  clear hV2
  go_wp2_with fail
  refine (net_whole (V := V2) (c := c2) (SD.out o x.a x.b x.d x.A x.n x.c x.bs _ F2.out.at_ (FA1.out.few_nt (by omega) LS.out F2.out.at_) (XB.out.below B2.out)) HV.out).mono ?_
  intro e w4 hx
  obtain ⟨o2, rfl, hv2, ho2, hb⟩ := hx
  subst hv2
  have qs := QS.start F2.out ho2 B2.out.size
  have f4 := F2.out.past hb
  have nb := Bx.new f4 #[.int .i64 o2.now, .int .i64 o2.next, .slice o2.LA o2.Ln o2.Lc, .slice o2.SA o2.Sn o2.Sc, .slice o2.CA o2.Cn o2.Cc, .slice o2.KA o2.Kn o2.Kc] 27
  have bk3 := hb.alloc hb.size (.cells #[.int .i64 o2.now, .int .i64 o2.next, .slice o2.LA o2.Ln o2.Lc, .slice o2.SA o2.Sn o2.Sc, .slice o2.CA o2.Cn o2.Cc, .slice o2.KA o2.Kn o2.Kc] 27)
  have B3 := Lib.hid (below_from bk3 B2.out B2.out.size)
  have F3 := Lib.hid (F2.out.past bk3)
  have cF3 := (show ∀ i, World.cell? _ ⟨_, i, none⟩ = #[.int .i64 o.now, .int .i64 o.next, .slice o.LA o.Ln o.Lc, .slice o.SA o.Sn o.Sc, .slice o.CA o.Cn o.Cc, .slice o.KA o.Kn o.Kc][i]? from F3.out.net.cell)
  have lF3 := F3.out.net.lt
  have fF3 := F3.out.net.free
  have P3 := Lib.hid (P2.out.past bk3)
  have cP3 := P3.out.has.cell
  have lP3 := P3.out.has.lt
  have Q3 := Lib.hid (qs.past (below_alloc1 w4 (.cells #[.int .i64 o2.now, .int .i64 o2.next, .slice o2.LA o2.Ln o2.Lc, .slice o2.SA o2.Sn o2.Sc, .slice o2.CA o2.Cn o2.Cc, .slice o2.KA o2.Kn o2.Kc] 27)))
  have X3 := Lib.hid nb
  have cX3 := X3.out.has.cell
  have lX3 := X3.out.has.lt
  clear cF2 lF2 fF2 cP2 lP2 qs f4 nb bk3 hb ho2
  by_cases hc : c2 = 0
  · skip
    subst hc
    have SF := Lib.hid (send_fair HV.out)
    have FA2 := Lib.hid (FA1.out.send HV.out)
    go_upto_region 21 with (fail)
    obtain ⟨W5, hW5⟩ : ∃ W, W = w4.alloc (.cells #[.int .i64 o2.now, .int .i64 o2.next, .slice o2.LA o2.Ln o2.Lc, .slice o2.SA o2.Sn o2.Sc, .slice o2.CA o2.Cn o2.Cc, .slice o2.KA o2.Kn o2.Kc] 27) := ⟨_, rfl⟩
    rw [← hW5] at B3 F3 cF3 lF3 fF3 P3 cP3 lP3 Q3 X3 cX3 lX3
    rw [← hW5]
    clear hW5
    go_wp2_with fail
    go_loopg [17, 18, 119] Sn (fun gg s17 s18 s wr => ∃ j : Nat, j ≤ Sn ∧ Sn - j ≤ gg ∧ s = .int .i64 j ∧ s17 = .int .i64 (slipOf (S.take j) o.next).kind ∧ s18 = .int .i64 (slipOf (S.take j) o.next).amt ∧ Hid (Below W5.heap.size W5 wr))
    case atStart => exact ⟨0, Nat.zero_le _, by omega, rfl, rfl, rfl, Lib.hid (Below.refl _ _)⟩
    case round =>
      clear cF3 lF3 fF3 cP3 lP3 cX3 lX3
      obtain ⟨j, hj, hjg, rfl, rfl, rfl, BI⟩ := hrel
      by_cases hjs : j < Sn
      · skip
        obtain ⟨b2, off2, hjl, hSA, hbl2, y0, y1, y2⟩ := sp_at (HS.out.below (below_from BI.out B3.out B3.out.size)) hjs
        have ST := Lib.hid (FA1.out.step hjl o.next)
        have fi := F3.out.past BI.out
        have cf := (show ∀ i, World.cell? _ ⟨_, i, none⟩ = #[.int .i64 o.now, .int .i64 o.next, .slice o.LA o.Ln o.Lc, .slice o.SA o.Sn o.Sc, .slice o.CA o.Cn o.Cc, .slice o.KA o.Kn o.Kc][i]? from fi.net.cell)
        have lf := fi.net.lt
        clear fi
        generalize S[j] = y at *
        have BN := Lib.hid (BI.out.alloc BI.out.size (.cells #[.int .i64 y.no, .int .i64 y.kind, .int .i64 y.amt] 54))
        by_cases e : y.no = o.next
        · skip
          have ea : (y.no == o.next) = true := by rw [beq_iff_eq]; exact e
          have eb : (y.no != o.next) = false := by rw [bne_eq_false_iff_eq]; exact e
          have ec : decide (y.no = o.next) = true := decide_eq_true e
          have R := Lib.hid (ST.out.trans (if_pos e))
          clear e ST
          go_wp2_with fail
          try rw [← hSA]
          go_roundg (Sn - (j + 1))
          case measure => omega
          case rel => exact ⟨j + 1, by omega, by omega, by go_num, by rw [R.out], by rw [R.out], BN⟩
        · skip
          have ea : (y.no == o.next) = false := by rw [beq_eq_false_iff_ne]; exact e
          have eb : (y.no != o.next) = true := by rw [bne_iff_ne]; exact e
          have ec : decide (y.no = o.next) = false := decide_eq_false e
          have R := Lib.hid (ST.out.trans (if_neg e))
          clear e ST
          go_wp2_with fail
          try rw [← hSA]
          go_roundg (Sn - (j + 1))
          case measure => omega
          case rel => exact ⟨j + 1, by omega, by omega, by go_num, by rw [R.out], by rw [R.out], BN⟩
      · skip
        have hjS : S.length = j := by have := SN.out; omega
        obtain ⟨sl, hsl⟩ : ∃ s, slipOf (S.take j) o.next = s := ⟨_, rfl⟩
        have HSL := Lib.hid (show slipOf o.val.S o.val.next = sl from by rw [FA1.out.slips, ← slipOf_all S _ hjS]; exact hsl)
        have am : 0 ≤ sl.amt ∧ sl.amt ≤ 1099511627776 := by have := FA1.out.amt o.next; rw [← slipOf_all S _ hjS, hsl] at this; exact this
        rw [hsl]
        clear hsl hjS
        have bi := BI.out
        have B4 := Lib.hid (below_from bi B3.out B3.out.size)
        have F4 := Lib.hid (F3.out.past bi)
        have cF4 := (show ∀ i, World.cell? _ ⟨_, i, none⟩ = #[.int .i64 o.now, .int .i64 o.next, .slice o.LA o.Ln o.Lc, .slice o.SA o.Sn o.Sc, .slice o.CA o.Cn o.Cc, .slice o.KA o.Kn o.Kc][i]? from F4.out.net.cell)
        have lF4 := F4.out.net.lt
        have fF4 := F4.out.net.free
        have P4 := Lib.hid (P3.out.past bi)
        have cP4 := P4.out.has.cell
        have lP4 := P4.out.has.lt
        have Q4 := Lib.hid (Q3.out.past bi)
        have X4 := Lib.hid (X3.out.past bi)
        have cX4 := X4.out.has.cell
        have lX4 := X4.out.has.lt
        clear bi BI
        have fn := FA1.out.next
        have dn := DN.out
        have fn1 : 0 ≤ o.now := fn.1
        have fn2 : o.now ≤ 1099511627776 := fn.2.1
        have fn3 : 0 ≤ o.next := fn.2.2.1
        have fn4 : o.next ≤ 1099511627776 := fn.2.2.2
        have wr1 : IntKind.i64.wrap (o.now + x.d) = o.now + x.d := IntWalk.i64_in _ (by omega)
        have wr2 : IntKind.i64.wrap (o.now + x.d + sl.amt) = o.now + x.d + sl.amt := IntWalk.i64_in _ (by omega)
        have wr3 : IntKind.i64.wrap (o.next + 1) = o.next + 1 := IntWalk.i64_in _ (by omega)
        have nx : (o2.next != o.next + 1) = false := by rw [bne_eq_false_iff_eq]; exact SF.out.2.2.1
        have nw : (o2.now != o.now) = false := by rw [bne_eq_false_iff_eq]; exact SF.out.2.2.2.1
        have HM := Lib.hid (show (⟨o.now + x.d + sl.amt, o.next, x.a, x.b, x.A, x.n, x.c, x.bs⟩ : Mg).val = sentM o.val x.a x.b x.d x.bs from by unfold sentM; rw [HSL.out]; rfl)
        clear fn dn fn1 fn2 fn3 fn4
        have am1 := Lib.hid am
        clear am
        go_upto_region 30 with (fail)
        have nb := Bx.new F4.out #[.int .i64 (o.now + x.d + sl.amt), .int .i64 o.next, .int .i64 x.a, .int .i64 x.b, .slice x.A x.n x.c] 40
        have bk5 := below_alloc1 wr (.cells #[.int .i64 (o.now + x.d + sl.amt), .int .i64 o.next, .int .i64 x.a, .int .i64 x.b, .slice x.A x.n x.c] 40)
        have B5 := Lib.hid (below_from bk5 B4.out B4.out.size)
        have F5 := Lib.hid (F4.out.past bk5)
        have cF5 := (show ∀ i, World.cell? _ ⟨_, i, none⟩ = #[.int .i64 o.now, .int .i64 o.next, .slice o.LA o.Ln o.Lc, .slice o.SA o.Sn o.Sc, .slice o.CA o.Cn o.Cc, .slice o.KA o.Kn o.Kc][i]? from F5.out.net.cell)
        have lF5 := F5.out.net.lt
        have fF5 := F5.out.net.free
        have P5 := Lib.hid (P4.out.past bk5)
        have cP5 := P5.out.has.cell
        have lP5 := P5.out.has.lt
        have Q5 := Lib.hid (Q4.out.past bk5)
        have X5 := Lib.hid (X4.out.past bk5)
        have cX5 := X5.out.has.cell
        have lX5 := X5.out.has.lt
        have G5 := Lib.hid nb
        have cG5 := G5.out.has.cell
        have lG5 := G5.out.has.lt
        clear cF4 lF4 fF4 cP4 lP4 cX4 lX4 bk5 nb
        have lg5 := F4.out.net.lt
        obtain ⟨r, hr⟩ : ∃ r, openB o.val x.a x.b = r := ⟨_, rfl⟩
        have OPN := Lib.hid (fun (W : World) (h : Nt.At W o) => open_at (r := r) (a := x.a) (b := x.b) (show Nt.Is W o o.val from ⟨h, rfl⟩) (by have h1 := (FA1.out.few (by omega) LS.out).2.1; omega) hr)
        have HR := Lib.hid hr
        clear hr
        cases r with
        | false =>
          go_wp2_with fail
          refine (OPN.out _ F5.out.at_).mono ?_
          intro e w6 hx
          obtain ⟨rfl, hb⟩ := hx
          have B6 := Lib.hid (below_from hb B5.out B5.out.size)
          have F6 := Lib.hid (F5.out.past hb)
          have cF6 := (show ∀ i, World.cell? _ ⟨_, i, none⟩ = #[.int .i64 o.now, .int .i64 o.next, .slice o.LA o.Ln o.Lc, .slice o.SA o.Sn o.Sc, .slice o.CA o.Cn o.Cc, .slice o.KA o.Kn o.Kc][i]? from F6.out.net.cell)
          have lF6 := F6.out.net.lt
          have fF6 := F6.out.net.free
          have P6 := Lib.hid (P5.out.past hb)
          have cP6 := P6.out.has.cell
          have lP6 := P6.out.has.lt
          have Q6 := Lib.hid (Q5.out.past hb)
          have X6 := Lib.hid (X5.out.past hb)
          have cX6 := X6.out.has.cell
          have lX6 := X6.out.has.lt
          have G6 := Lib.hid (G5.out.past hb)
          have cG6 := G6.out.has.cell
          have lG6 := G6.out.has.lt
          clear cF5 lF5 fF5 cP5 lP5 cX5 lX5 cG5 lG5 hb
          go_wp2_with fail
          refine (OPN.out _ F6.out.at_).mono ?_
          intro e w7 hx
          obtain ⟨rfl, hb⟩ := hx
          have B7 := Lib.hid (below_from hb B6.out B6.out.size)
          have F7 := Lib.hid (F6.out.past hb)
          have cF7 := (show ∀ i, World.cell? _ ⟨_, i, none⟩ = #[.int .i64 o.now, .int .i64 o.next, .slice o.LA o.Ln o.Lc, .slice o.SA o.Sn o.Sc, .slice o.CA o.Cn o.Cc, .slice o.KA o.Kn o.Kc][i]? from F7.out.net.cell)
          have lF7 := F7.out.net.lt
          have fF7 := F7.out.net.free
          have P7 := Lib.hid (P6.out.past hb)
          have cP7 := P7.out.has.cell
          have lP7 := P7.out.has.lt
          have Q7 := Lib.hid (Q6.out.past hb)
          have X7 := Lib.hid (X6.out.past hb)
          have cX7 := X7.out.has.cell
          have lX7 := X7.out.has.lt
          have G7 := Lib.hid (G6.out.past hb)
          have cG7 := G7.out.has.cell
          have lG7 := G7.out.has.lt
          clear cF6 lF6 fF6 cP6 lP6 cX6 lX6 cG6 lG6 hb
          have FA3 := Lib.hid (show Fair S (k + 1) o2.val (Wn.l.map Mg.val) (Cm.l.map Mg.val) from by rw [want_none Wn.l o.val x.a x.b x.d x.bs (many_shut HR.out)]; exact FA2.out)
          have ft := F7.out.turn (w' := ((((((w7.setCell ⟨g, 0, none⟩ (.int .i64 o2.now)).setCell ⟨g, 1, none⟩ (.int .i64 o2.next)).setCell ⟨g, 2, none⟩ (.slice o2.LA o2.Ln o2.Lc)).setCell ⟨g, 3, none⟩ (.slice o2.SA o2.Sn o2.Sc)).setCell ⟨g, 4, none⟩ (.slice o2.CA o2.Cn o2.Cc)).setCell ⟨g, 5, none⟩ (.slice o2.KA o2.Kn o2.Kc))) Q7.out rfl
          have bt : Below w.heap.size w7 ((((((w7.setCell ⟨g, 0, none⟩ (.int .i64 o2.now)).setCell ⟨g, 1, none⟩ (.int .i64 o2.next)).setCell ⟨g, 2, none⟩ (.slice o2.LA o2.Ln o2.Lc)).setCell ⟨g, 3, none⟩ (.slice o2.SA o2.Sn o2.Sc)).setCell ⟨g, 4, none⟩ (.slice o2.CA o2.Cn o2.Cc)).setCell ⟨g, 5, none⟩ (.slice o2.KA o2.Kn o2.Kc)) := grown_below (setCells_grown g [.int .i64 o2.now, .int .i64 o2.next, .slice o2.LA o2.Ln o2.Lc, .slice o2.SA o2.Sn o2.Sc, .slice o2.CA o2.Cn o2.Cc, .slice o2.KA o2.Kn o2.Kc] 0 w7) B7.out.size (fun j hj => by injection hj with hj; have := F7.out.low; omega)
          have b9 := B7.out.trans bt
          obtain ⟨W9, hW9⟩ : ∃ W, W = ((((((w7.setCell ⟨g, 0, none⟩ (.int .i64 o2.now)).setCell ⟨g, 1, none⟩ (.int .i64 o2.next)).setCell ⟨g, 2, none⟩ (.slice o2.LA o2.Ln o2.Lc)).setCell ⟨g, 3, none⟩ (.slice o2.SA o2.Sn o2.Sc)).setCell ⟨g, 4, none⟩ (.slice o2.CA o2.Cn o2.Cc)).setCell ⟨g, 5, none⟩ (.slice o2.KA o2.Kn o2.Kc)) := ⟨_, rfl⟩
          go_upto_region 53 with (fail)
          rw [← hW9] at ft b9
          rw [← hW9]
          clear hW9 bt
          have B8 := Lib.hid b9
          have F8 := Lib.hid ft
          clear b9 ft cF7 lF7 fF7 cP7 lP7 cX7 lX7 cG7 lG7
          have cF8 := (show ∀ i, World.cell? _ ⟨_, i, none⟩ = #[.int .i64 o2.now, .int .i64 o2.next, .slice o2.LA o2.Ln o2.Lc, .slice o2.SA o2.Sn o2.Sc, .slice o2.CA o2.Cn o2.Cc, .slice o2.KA o2.Kn o2.Kc][i]? from F8.out.net.cell)
          have lF8 := F8.out.net.lt
          have fF8 := F8.out.net.free
          have CKA := Lib.hid (check_ok F8.out.at_ FA3.out.chk (by have h1 := (FA3.out.few (by omega) LS.out).2.1; have h2 := F8.out.at_.s.len; have h3 : o2.S.length ≤ 20 := h1; omega))
          go_wp2_with fail
          refine (CKA.out).mono ?_
          intro e w9 hx
          obtain ⟨rfl, hb⟩ := hx
          have B9 := Lib.hid (below_from hb B8.out B8.out.size)
          have F9 := Lib.hid (F8.out.past hb)
          have cF9 := (show ∀ i, World.cell? _ ⟨_, i, none⟩ = #[.int .i64 o2.now, .int .i64 o2.next, .slice o2.LA o2.Ln o2.Lc, .slice o2.SA o2.Sn o2.Sc, .slice o2.CA o2.Cn o2.Cc, .slice o2.KA o2.Kn o2.Kc][i]? from F9.out.net.cell)
          have lF9 := F9.out.net.lt
          have fF9 := F9.out.net.free
          clear cF8 lF8 fF8 hb
          go_wp2_with fail
          exact WI.mk o2 Wn Cm (by kernel_rfl) (by omega) (show Wn.n ≤ 2 * (k + 1) from by omega) B9 F9 FA3
        | true =>
          by_cases k1 : sl.kind = 1
          · skip
            have k1a : (sl.kind == 1) = true := by rw [beq_iff_eq]; exact k1
            have k1b : (sl.kind != 1) = false := by rw [bne_eq_false_iff_eq]; exact k1
            have k1c : decide (sl.kind = 1) = true := decide_eq_true k1
            have k2a : (sl.kind == 2) = false := by rw [beq_eq_false_iff_ne]; omega
            have FA3 := Lib.hid (show Fair S (k + 1) o2.val (Wn.l.map Mg.val) (Cm.l.map Mg.val) from by rw [want_none Wn.l o.val x.a x.b x.d x.bs (many_drop (by rw [HSL.out]; exact k1))]; exact FA2.out)
            clear k1 k1c
            go_wp2_with fail
            refine (OPN.out _ F5.out.at_).mono ?_
            intro e w6 hx
            obtain ⟨rfl, hb⟩ := hx
            have B6 := Lib.hid (below_from hb B5.out B5.out.size)
            have F6 := Lib.hid (F5.out.past hb)
            have cF6 := (show ∀ i, World.cell? _ ⟨_, i, none⟩ = #[.int .i64 o.now, .int .i64 o.next, .slice o.LA o.Ln o.Lc, .slice o.SA o.Sn o.Sc, .slice o.CA o.Cn o.Cc, .slice o.KA o.Kn o.Kc][i]? from F6.out.net.cell)
            have lF6 := F6.out.net.lt
            have fF6 := F6.out.net.free
            have P6 := Lib.hid (P5.out.past hb)
            have cP6 := P6.out.has.cell
            have lP6 := P6.out.has.lt
            have Q6 := Lib.hid (Q5.out.past hb)
            have X6 := Lib.hid (X5.out.past hb)
            have cX6 := X6.out.has.cell
            have lX6 := X6.out.has.lt
            have G6 := Lib.hid (G5.out.past hb)
            have cG6 := G6.out.has.cell
            have lG6 := G6.out.has.lt
            clear cF5 lF5 fF5 cP5 lP5 cX5 lX5 cG5 lG5 hb
            go_wp2_with fail
            refine (OPN.out _ F6.out.at_).mono ?_
            intro e w7 hx
            obtain ⟨rfl, hb⟩ := hx
            have B7 := Lib.hid (below_from hb B6.out B6.out.size)
            have F7 := Lib.hid (F6.out.past hb)
            have cF7 := (show ∀ i, World.cell? _ ⟨_, i, none⟩ = #[.int .i64 o.now, .int .i64 o.next, .slice o.LA o.Ln o.Lc, .slice o.SA o.Sn o.Sc, .slice o.CA o.Cn o.Cc, .slice o.KA o.Kn o.Kc][i]? from F7.out.net.cell)
            have lF7 := F7.out.net.lt
            have fF7 := F7.out.net.free
            have P7 := Lib.hid (P6.out.past hb)
            have cP7 := P7.out.has.cell
            have lP7 := P7.out.has.lt
            have Q7 := Lib.hid (Q6.out.past hb)
            have X7 := Lib.hid (X6.out.past hb)
            have cX7 := X7.out.has.cell
            have lX7 := X7.out.has.lt
            have G7 := Lib.hid (G6.out.past hb)
            have cG7 := G7.out.has.cell
            have lG7 := G7.out.has.lt
            clear cF6 lF6 fF6 cP6 lP6 cX6 lX6 cG6 lG6 hb
            have ft := F7.out.turn (w' := ((((((w7.setCell ⟨g, 0, none⟩ (.int .i64 o2.now)).setCell ⟨g, 1, none⟩ (.int .i64 o2.next)).setCell ⟨g, 2, none⟩ (.slice o2.LA o2.Ln o2.Lc)).setCell ⟨g, 3, none⟩ (.slice o2.SA o2.Sn o2.Sc)).setCell ⟨g, 4, none⟩ (.slice o2.CA o2.Cn o2.Cc)).setCell ⟨g, 5, none⟩ (.slice o2.KA o2.Kn o2.Kc))) Q7.out rfl
            have bt : Below w.heap.size w7 ((((((w7.setCell ⟨g, 0, none⟩ (.int .i64 o2.now)).setCell ⟨g, 1, none⟩ (.int .i64 o2.next)).setCell ⟨g, 2, none⟩ (.slice o2.LA o2.Ln o2.Lc)).setCell ⟨g, 3, none⟩ (.slice o2.SA o2.Sn o2.Sc)).setCell ⟨g, 4, none⟩ (.slice o2.CA o2.Cn o2.Cc)).setCell ⟨g, 5, none⟩ (.slice o2.KA o2.Kn o2.Kc)) := grown_below (setCells_grown g [.int .i64 o2.now, .int .i64 o2.next, .slice o2.LA o2.Ln o2.Lc, .slice o2.SA o2.Sn o2.Sc, .slice o2.CA o2.Cn o2.Cc, .slice o2.KA o2.Kn o2.Kc] 0 w7) B7.out.size (fun j hj => by injection hj with hj; have := F7.out.low; omega)
            have b9 := B7.out.trans bt
            obtain ⟨W9, hW9⟩ : ∃ W, W = ((((((w7.setCell ⟨g, 0, none⟩ (.int .i64 o2.now)).setCell ⟨g, 1, none⟩ (.int .i64 o2.next)).setCell ⟨g, 2, none⟩ (.slice o2.LA o2.Ln o2.Lc)).setCell ⟨g, 3, none⟩ (.slice o2.SA o2.Sn o2.Sc)).setCell ⟨g, 4, none⟩ (.slice o2.CA o2.Cn o2.Cc)).setCell ⟨g, 5, none⟩ (.slice o2.KA o2.Kn o2.Kc)) := ⟨_, rfl⟩
            go_upto_region 53 with (fail)
            rw [← hW9] at ft b9
            rw [← hW9]
            clear hW9 bt
            have B8 := Lib.hid b9
            have F8 := Lib.hid ft
            clear b9 ft cF7 lF7 fF7 cP7 lP7 cX7 lX7 cG7 lG7
            have cF8 := (show ∀ i, World.cell? _ ⟨_, i, none⟩ = #[.int .i64 o2.now, .int .i64 o2.next, .slice o2.LA o2.Ln o2.Lc, .slice o2.SA o2.Sn o2.Sc, .slice o2.CA o2.Cn o2.Cc, .slice o2.KA o2.Kn o2.Kc][i]? from F8.out.net.cell)
            have lF8 := F8.out.net.lt
            have fF8 := F8.out.net.free
            have CKA := Lib.hid (check_ok F8.out.at_ FA3.out.chk (by have h1 := (FA3.out.few (by omega) LS.out).2.1; have h2 := F8.out.at_.s.len; have h3 : o2.S.length ≤ 20 := h1; omega))
            go_wp2_with fail
            refine (CKA.out).mono ?_
            intro e w9 hx
            obtain ⟨rfl, hb⟩ := hx
            have B9 := Lib.hid (below_from hb B8.out B8.out.size)
            have F9 := Lib.hid (F8.out.past hb)
            have cF9 := (show ∀ i, World.cell? _ ⟨_, i, none⟩ = #[.int .i64 o2.now, .int .i64 o2.next, .slice o2.LA o2.Ln o2.Lc, .slice o2.SA o2.Sn o2.Sc, .slice o2.CA o2.Cn o2.Cc, .slice o2.KA o2.Kn o2.Kc][i]? from F9.out.net.cell)
            have lF9 := F9.out.net.lt
            have fF9 := F9.out.net.free
            clear cF8 lF8 fF8 hb
            go_wp2_with fail
            exact WI.mk o2 Wn Cm (by kernel_rfl) (by omega) (show Wn.n ≤ 2 * (k + 1) from by omega) B9 F9 FA3
          have k1a : (sl.kind == 1) = false := by rw [beq_eq_false_iff_ne]; exact k1
          have k1b : (sl.kind != 1) = true := by rw [bne_iff_ne]; exact k1
          have k1c : decide (sl.kind = 1) = false := decide_eq_false k1
          by_cases k2 : sl.kind = 2
          · skip
            have k2a : (sl.kind == 2) = true := by rw [beq_iff_eq]; exact k2
            have k2b : (sl.kind != 2) = false := by rw [bne_eq_false_iff_eq]; exact k2
            have k2c : decide (sl.kind = 2) = true := decide_eq_true k2
            have MW := Lib.hid (fun l => want_two l (⟨o.now + x.d + sl.amt, o.next, x.a, x.b, x.A, x.n, x.c, x.bs⟩ : Mg) o.val x.a x.b x.d x.bs HM.out (many_twice HR.out (by rw [HSL.out]; exact k2)))
            clear k1 k1c k2 k2c
            go_wp2_with fail
            refine (OPN.out _ F5.out.at_).mono ?_
            intro e w6 hx
            obtain ⟨rfl, hb⟩ := hx
            have B6 := Lib.hid (below_from hb B5.out B5.out.size)
            have F6 := Lib.hid (F5.out.past hb)
            have cF6 := (show ∀ i, World.cell? _ ⟨_, i, none⟩ = #[.int .i64 o.now, .int .i64 o.next, .slice o.LA o.Ln o.Lc, .slice o.SA o.Sn o.Sc, .slice o.CA o.Cn o.Cc, .slice o.KA o.Kn o.Kc][i]? from F6.out.net.cell)
            have lF6 := F6.out.net.lt
            have fF6 := F6.out.net.free
            have P6 := Lib.hid (P5.out.past hb)
            have cP6 := P6.out.has.cell
            have lP6 := P6.out.has.lt
            have Q6 := Lib.hid (Q5.out.past hb)
            have X6 := Lib.hid (X5.out.past hb)
            have cX6 := X6.out.has.cell
            have lX6 := X6.out.has.lt
            have G6 := Lib.hid (G5.out.past hb)
            have cG6 := G6.out.has.cell
            have lG6 := G6.out.has.lt
            clear cF5 lF5 fF5 cP5 lP5 cX5 lX5 cG5 lG5 hb
            have nb := Bx.new F6.out #[.int .i64 (o.now + x.d + sl.amt), .int .i64 o.next, .int .i64 x.a, .int .i64 x.b, .slice x.A x.n x.c] 40
            have bk7 := below_alloc1 w6 (.cells #[.int .i64 (o.now + x.d + sl.amt), .int .i64 o.next, .int .i64 x.a, .int .i64 x.b, .slice x.A x.n x.c] 40)
            have B7 := Lib.hid (below_from bk7 B6.out B6.out.size)
            have F7 := Lib.hid (F6.out.past bk7)
            have cF7 := (show ∀ i, World.cell? _ ⟨_, i, none⟩ = #[.int .i64 o.now, .int .i64 o.next, .slice o.LA o.Ln o.Lc, .slice o.SA o.Sn o.Sc, .slice o.CA o.Cn o.Cc, .slice o.KA o.Kn o.Kc][i]? from F7.out.net.cell)
            have lF7 := F7.out.net.lt
            have fF7 := F7.out.net.free
            have P7 := Lib.hid (P6.out.past bk7)
            have cP7 := P7.out.has.cell
            have lP7 := P7.out.has.lt
            have Q7 := Lib.hid (Q6.out.past bk7)
            have X7 := Lib.hid (X6.out.past bk7)
            have cX7 := X7.out.has.cell
            have lX7 := X7.out.has.lt
            have G7 := Lib.hid (G6.out.past bk7)
            have cG7 := G7.out.has.cell
            have lG7 := G7.out.has.lt
            clear bk7
            have RB := Lib.hid nb
            clear nb
            have MIN := Lib.hid (show Mg.In _ (⟨o.now + x.d + sl.amt, o.next, x.a, x.b, x.A, x.n, x.c, x.bs⟩ : Mg) from XB.out.below B7.out)
            go_wp2_with (at_builtin; refine wpList_app1_sort (K := mgK) (S := NB) _ rfl _ _ 22 rfl w.heap.size 40 i0 _ 56 Try.underlying22 hi0 hz0 hs0 hb0 rfl Wn.A Wn.n Wn.c Wn.l rfl F7.out.want.own w6.heap.size rfl (⟨o.now + x.d + sl.amt, o.next, x.a, x.b, x.A, x.n, x.c, x.bs⟩ : Mg) (fun j _ => mg_cells (x := (⟨o.now + x.d + sl.amt, o.next, x.a, x.b, x.A, x.n, x.c, x.bs⟩ : Mg)) RB.out.has j) ?q637 ?qby7 B7.out.size F7.out.want.sort mg_nb ZN.out ?_)
            case q637 => unfold maxLen; omega
            case qby7 => omega
            intro A7 c7 w7 ho hg hq hv
            have hz : (w6.alloc (.cells #[.int .i64 (o.now + x.d + sl.amt), .int .i64 o.next, .int .i64 x.a, .int .i64 x.b, .slice x.A x.n x.c] 40)).heap.size = w6.heap.size + 1 := by simp
            rw [← hz] at hv
            clear hz
            have b7 := grown_below hg B7.out.size (fun q e => (F7.out.want.own.2.lt q e).1)
            have B8 := Lib.hid (B7.out.trans b7)
            have F8 := Lib.hid (F7.out.wants ho hg hq (fun m hm => by rw [List.mem_singleton.1 hm]; exact MIN.out) hv)
            have cF8 := (show ∀ i, World.cell? _ ⟨_, i, none⟩ = #[.int .i64 o.now, .int .i64 o.next, .slice o.LA o.Ln o.Lc, .slice o.SA o.Sn o.Sc, .slice o.CA o.Cn o.Cc, .slice o.KA o.Kn o.Kc][i]? from F8.out.net.cell)
            have lF8 := F8.out.net.lt
            have fF8 := F8.out.net.free
            have P8 := Lib.hid (P7.out.wants (l := [(⟨o.now + x.d + sl.amt, o.next, x.a, x.b, x.A, x.n, x.c, x.bs⟩ : Mg)]) hg hv)
            have cP8 := P8.out.has.cell
            have lP8 := P8.out.has.lt
            have Q8 := Lib.hid (Q7.out.wants (l := [(⟨o.now + x.d + sl.amt, o.next, x.a, x.b, x.A, x.n, x.c, x.bs⟩ : Mg)]) F7.out hg hv)
            have X8 := Lib.hid (X7.out.wants (l := [(⟨o.now + x.d + sl.amt, o.next, x.a, x.b, x.A, x.n, x.c, x.bs⟩ : Mg)]) hg hv)
            have cX8 := X8.out.has.cell
            have lX8 := X8.out.has.lt
            have G8 := Lib.hid (G7.out.wants (l := [(⟨o.now + x.d + sl.amt, o.next, x.a, x.b, x.A, x.n, x.c, x.bs⟩ : Mg)]) hg hv)
            have cG8 := G8.out.has.cell
            have lG8 := G8.out.has.lt
            clear cF6 lF6 fF6 cP6 lP6 cX6 lX6 cG6 lG6 cF7 lF7 fF7 cP7 lP7 cX7 lX7 cG7 lG7 ho hg hq hv b7 RB MIN
            obtain ⟨L7, hL7⟩ : ∃ l, l = Wn.l ++ [(⟨o.now + x.d + sl.amt, o.next, x.a, x.b, x.A, x.n, x.c, x.bs⟩ : Mg)] := ⟨_, rfl⟩
            rw [← hL7] at F8 P8 Q8 X8 G8
            have HL7 := Lib.hid hL7
            clear hL7
            go_wp2_with fail
            refine (OPN.out _ F8.out.at_).mono ?_
            intro e w8 hx
            obtain ⟨rfl, hb⟩ := hx
            have B9 := Lib.hid (below_from hb B8.out B8.out.size)
            have F9 := Lib.hid (F8.out.past hb)
            have cF9 := (show ∀ i, World.cell? _ ⟨_, i, none⟩ = #[.int .i64 o.now, .int .i64 o.next, .slice o.LA o.Ln o.Lc, .slice o.SA o.Sn o.Sc, .slice o.CA o.Cn o.Cc, .slice o.KA o.Kn o.Kc][i]? from F9.out.net.cell)
            have lF9 := F9.out.net.lt
            have fF9 := F9.out.net.free
            have P9 := Lib.hid (P8.out.past hb)
            have cP9 := P9.out.has.cell
            have lP9 := P9.out.has.lt
            have Q9 := Lib.hid (Q8.out.past hb)
            have X9 := Lib.hid (X8.out.past hb)
            have cX9 := X9.out.has.cell
            have lX9 := X9.out.has.lt
            have G9 := Lib.hid (G8.out.past hb)
            have cG9 := G9.out.has.cell
            have lG9 := G9.out.has.lt
            clear cF8 lF8 fF8 cP8 lP8 cX8 lX8 cG8 lG8 hb
            have nb := Bx.new F9.out #[.int .i64 (o.now + x.d + sl.amt), .int .i64 o.next, .int .i64 x.a, .int .i64 x.b, .slice x.A x.n x.c] 40
            have bk10 := below_alloc1 w8 (.cells #[.int .i64 (o.now + x.d + sl.amt), .int .i64 o.next, .int .i64 x.a, .int .i64 x.b, .slice x.A x.n x.c] 40)
            have B10 := Lib.hid (below_from bk10 B9.out B9.out.size)
            have F10 := Lib.hid (F9.out.past bk10)
            have cF10 := (show ∀ i, World.cell? _ ⟨_, i, none⟩ = #[.int .i64 o.now, .int .i64 o.next, .slice o.LA o.Ln o.Lc, .slice o.SA o.Sn o.Sc, .slice o.CA o.Cn o.Cc, .slice o.KA o.Kn o.Kc][i]? from F10.out.net.cell)
            have lF10 := F10.out.net.lt
            have fF10 := F10.out.net.free
            have P10 := Lib.hid (P9.out.past bk10)
            have cP10 := P10.out.has.cell
            have lP10 := P10.out.has.lt
            have Q10 := Lib.hid (Q9.out.past bk10)
            have X10 := Lib.hid (X9.out.past bk10)
            have cX10 := X10.out.has.cell
            have lX10 := X10.out.has.lt
            have G10 := Lib.hid (G9.out.past bk10)
            have cG10 := G10.out.has.cell
            have lG10 := G10.out.has.lt
            clear bk10
            have RB := Lib.hid nb
            clear nb
            have MIN := Lib.hid (show Mg.In _ (⟨o.now + x.d + sl.amt, o.next, x.a, x.b, x.A, x.n, x.c, x.bs⟩ : Mg) from XB.out.below B10.out)
            go_wp2_with (at_builtin; refine wpList_app1_sort (K := mgK) (S := NB) _ rfl _ _ 22 rfl w.heap.size 40 i0 _ 56 Try.underlying22 hi0 hz0 hs0 hb0 rfl (⟨A7, Wn.n + 1, c7, L7⟩ : Rw).A (⟨A7, Wn.n + 1, c7, L7⟩ : Rw).n (⟨A7, Wn.n + 1, c7, L7⟩ : Rw).c (⟨A7, Wn.n + 1, c7, L7⟩ : Rw).l rfl F10.out.want.own w8.heap.size rfl (⟨o.now + x.d + sl.amt, o.next, x.a, x.b, x.A, x.n, x.c, x.bs⟩ : Mg) (fun j _ => mg_cells (x := (⟨o.now + x.d + sl.amt, o.next, x.a, x.b, x.A, x.n, x.c, x.bs⟩ : Mg)) RB.out.has j) ?q639 ?qby9 B10.out.size F10.out.want.sort mg_nb ZN.out ?_)
            case q639 => unfold maxLen; omega
            case qby9 => omega
            intro A9 c9 w9 ho hg hq hv
            have hz : (w8.alloc (.cells #[.int .i64 (o.now + x.d + sl.amt), .int .i64 o.next, .int .i64 x.a, .int .i64 x.b, .slice x.A x.n x.c] 40)).heap.size = w8.heap.size + 1 := by simp
            rw [← hz] at hv
            clear hz
            have b9 := grown_below hg B10.out.size (fun q e => (F10.out.want.own.2.lt q e).1)
            have B11 := Lib.hid (B10.out.trans b9)
            have F11 := Lib.hid (F10.out.wants ho hg hq (fun m hm => by rw [List.mem_singleton.1 hm]; exact MIN.out) hv)
            have cF11 := (show ∀ i, World.cell? _ ⟨_, i, none⟩ = #[.int .i64 o.now, .int .i64 o.next, .slice o.LA o.Ln o.Lc, .slice o.SA o.Sn o.Sc, .slice o.CA o.Cn o.Cc, .slice o.KA o.Kn o.Kc][i]? from F11.out.net.cell)
            have lF11 := F11.out.net.lt
            have fF11 := F11.out.net.free
            have P11 := Lib.hid (P10.out.wants (l := [(⟨o.now + x.d + sl.amt, o.next, x.a, x.b, x.A, x.n, x.c, x.bs⟩ : Mg)]) hg hv)
            have cP11 := P11.out.has.cell
            have lP11 := P11.out.has.lt
            have Q11 := Lib.hid (Q10.out.wants (l := [(⟨o.now + x.d + sl.amt, o.next, x.a, x.b, x.A, x.n, x.c, x.bs⟩ : Mg)]) F10.out hg hv)
            have X11 := Lib.hid (X10.out.wants (l := [(⟨o.now + x.d + sl.amt, o.next, x.a, x.b, x.A, x.n, x.c, x.bs⟩ : Mg)]) hg hv)
            have cX11 := X11.out.has.cell
            have lX11 := X11.out.has.lt
            have G11 := Lib.hid (G10.out.wants (l := [(⟨o.now + x.d + sl.amt, o.next, x.a, x.b, x.A, x.n, x.c, x.bs⟩ : Mg)]) hg hv)
            have cG11 := G11.out.has.cell
            have lG11 := G11.out.has.lt
            clear cF9 lF9 fF9 cP9 lP9 cX9 lX9 cG9 lG9 cF10 lF10 fF10 cP10 lP10 cX10 lX10 cG10 lG10 ho hg hq hv b9 RB MIN
            obtain ⟨L9, hL9⟩ : ∃ l, l = L7 ++ [(⟨o.now + x.d + sl.amt, o.next, x.a, x.b, x.A, x.n, x.c, x.bs⟩ : Mg)] := ⟨_, rfl⟩
            rw [← hL9] at F11 P11 Q11 X11 G11
            have HL9 := Lib.hid hL9
            clear hL9
            have FA3 := Lib.hid (show Fair S (k + 1) o2.val (L9.map Mg.val) (Cm.l.map Mg.val) from by rw [HL9.out, HL7.out, MW.out]; exact FA2.out)
            have ft := F11.out.turn (w' := ((((((w9.setCell ⟨g, 0, none⟩ (.int .i64 o2.now)).setCell ⟨g, 1, none⟩ (.int .i64 o2.next)).setCell ⟨g, 2, none⟩ (.slice o2.LA o2.Ln o2.Lc)).setCell ⟨g, 3, none⟩ (.slice o2.SA o2.Sn o2.Sc)).setCell ⟨g, 4, none⟩ (.slice o2.CA o2.Cn o2.Cc)).setCell ⟨g, 5, none⟩ (.slice o2.KA o2.Kn o2.Kc))) Q11.out rfl
            have bt : Below w.heap.size w9 ((((((w9.setCell ⟨g, 0, none⟩ (.int .i64 o2.now)).setCell ⟨g, 1, none⟩ (.int .i64 o2.next)).setCell ⟨g, 2, none⟩ (.slice o2.LA o2.Ln o2.Lc)).setCell ⟨g, 3, none⟩ (.slice o2.SA o2.Sn o2.Sc)).setCell ⟨g, 4, none⟩ (.slice o2.CA o2.Cn o2.Cc)).setCell ⟨g, 5, none⟩ (.slice o2.KA o2.Kn o2.Kc)) := grown_below (setCells_grown g [.int .i64 o2.now, .int .i64 o2.next, .slice o2.LA o2.Ln o2.Lc, .slice o2.SA o2.Sn o2.Sc, .slice o2.CA o2.Cn o2.Cc, .slice o2.KA o2.Kn o2.Kc] 0 w9) B11.out.size (fun j hj => by injection hj with hj; have := F11.out.low; omega)
            have b9 := B11.out.trans bt
            obtain ⟨W9, hW9⟩ : ∃ W, W = ((((((w9.setCell ⟨g, 0, none⟩ (.int .i64 o2.now)).setCell ⟨g, 1, none⟩ (.int .i64 o2.next)).setCell ⟨g, 2, none⟩ (.slice o2.LA o2.Ln o2.Lc)).setCell ⟨g, 3, none⟩ (.slice o2.SA o2.Sn o2.Sc)).setCell ⟨g, 4, none⟩ (.slice o2.CA o2.Cn o2.Cc)).setCell ⟨g, 5, none⟩ (.slice o2.KA o2.Kn o2.Kc)) := ⟨_, rfl⟩
            go_upto_region 53 with (fail)
            rw [← hW9] at ft b9
            rw [← hW9]
            clear hW9 bt
            have B12 := Lib.hid b9
            have F12 := Lib.hid ft
            clear b9 ft cF11 lF11 fF11 cP11 lP11 cX11 lX11 cG11 lG11
            have cF12 := (show ∀ i, World.cell? _ ⟨_, i, none⟩ = #[.int .i64 o2.now, .int .i64 o2.next, .slice o2.LA o2.Ln o2.Lc, .slice o2.SA o2.Sn o2.Sc, .slice o2.CA o2.Cn o2.Cc, .slice o2.KA o2.Kn o2.Kc][i]? from F12.out.net.cell)
            have lF12 := F12.out.net.lt
            have fF12 := F12.out.net.free
            have CKA := Lib.hid (check_ok F12.out.at_ FA3.out.chk (by have h1 := (FA3.out.few (by omega) LS.out).2.1; have h2 := F12.out.at_.s.len; have h3 : o2.S.length ≤ 20 := h1; omega))
            go_wp2_with fail
            refine (CKA.out).mono ?_
            intro e w9 hx
            obtain ⟨rfl, hb⟩ := hx
            have B13 := Lib.hid (below_from hb B12.out B12.out.size)
            have F13 := Lib.hid (F12.out.past hb)
            have cF13 := (show ∀ i, World.cell? _ ⟨_, i, none⟩ = #[.int .i64 o2.now, .int .i64 o2.next, .slice o2.LA o2.Ln o2.Lc, .slice o2.SA o2.Sn o2.Sc, .slice o2.CA o2.Cn o2.Cc, .slice o2.KA o2.Kn o2.Kc][i]? from F13.out.net.cell)
            have lF13 := F13.out.net.lt
            have fF13 := F13.out.net.free
            clear cF12 lF12 fF12 hb
            go_wp2_with fail
            exact WI.mk o2 (⟨A9, Wn.n + 1 + 1, c9, L9⟩ : Rw) Cm (by kernel_rfl) (by omega) (show Wn.n + 1 + 1 ≤ 2 * (k + 1) from by omega) B13 F13 FA3
          · skip
            have k2a : (sl.kind == 2) = false := by rw [beq_eq_false_iff_ne]; exact k2
            have k2b : (sl.kind != 2) = true := by rw [bne_iff_ne]; exact k2
            have k2c : decide (sl.kind = 2) = false := decide_eq_false k2
            have MW := Lib.hid (fun l => want_one l (⟨o.now + x.d + sl.amt, o.next, x.a, x.b, x.A, x.n, x.c, x.bs⟩ : Mg) o.val x.a x.b x.d x.bs HM.out (many_once HR.out (by rw [HSL.out]; exact k1) (by rw [HSL.out]; exact k2)))
            clear k1 k1c k2 k2c
            go_wp2_with fail
            refine (OPN.out _ F5.out.at_).mono ?_
            intro e w6 hx
            obtain ⟨rfl, hb⟩ := hx
            have B6 := Lib.hid (below_from hb B5.out B5.out.size)
            have F6 := Lib.hid (F5.out.past hb)
            have cF6 := (show ∀ i, World.cell? _ ⟨_, i, none⟩ = #[.int .i64 o.now, .int .i64 o.next, .slice o.LA o.Ln o.Lc, .slice o.SA o.Sn o.Sc, .slice o.CA o.Cn o.Cc, .slice o.KA o.Kn o.Kc][i]? from F6.out.net.cell)
            have lF6 := F6.out.net.lt
            have fF6 := F6.out.net.free
            have P6 := Lib.hid (P5.out.past hb)
            have cP6 := P6.out.has.cell
            have lP6 := P6.out.has.lt
            have Q6 := Lib.hid (Q5.out.past hb)
            have X6 := Lib.hid (X5.out.past hb)
            have cX6 := X6.out.has.cell
            have lX6 := X6.out.has.lt
            have G6 := Lib.hid (G5.out.past hb)
            have cG6 := G6.out.has.cell
            have lG6 := G6.out.has.lt
            clear cF5 lF5 fF5 cP5 lP5 cX5 lX5 cG5 lG5 hb
            have nb := Bx.new F6.out #[.int .i64 (o.now + x.d + sl.amt), .int .i64 o.next, .int .i64 x.a, .int .i64 x.b, .slice x.A x.n x.c] 40
            have bk7 := below_alloc1 w6 (.cells #[.int .i64 (o.now + x.d + sl.amt), .int .i64 o.next, .int .i64 x.a, .int .i64 x.b, .slice x.A x.n x.c] 40)
            have B7 := Lib.hid (below_from bk7 B6.out B6.out.size)
            have F7 := Lib.hid (F6.out.past bk7)
            have cF7 := (show ∀ i, World.cell? _ ⟨_, i, none⟩ = #[.int .i64 o.now, .int .i64 o.next, .slice o.LA o.Ln o.Lc, .slice o.SA o.Sn o.Sc, .slice o.CA o.Cn o.Cc, .slice o.KA o.Kn o.Kc][i]? from F7.out.net.cell)
            have lF7 := F7.out.net.lt
            have fF7 := F7.out.net.free
            have P7 := Lib.hid (P6.out.past bk7)
            have cP7 := P7.out.has.cell
            have lP7 := P7.out.has.lt
            have Q7 := Lib.hid (Q6.out.past bk7)
            have X7 := Lib.hid (X6.out.past bk7)
            have cX7 := X7.out.has.cell
            have lX7 := X7.out.has.lt
            have G7 := Lib.hid (G6.out.past bk7)
            have cG7 := G7.out.has.cell
            have lG7 := G7.out.has.lt
            clear bk7
            have RB := Lib.hid nb
            clear nb
            have MIN := Lib.hid (show Mg.In _ (⟨o.now + x.d + sl.amt, o.next, x.a, x.b, x.A, x.n, x.c, x.bs⟩ : Mg) from XB.out.below B7.out)
            go_wp2_with (at_builtin; refine wpList_app1_sort (K := mgK) (S := NB) _ rfl _ _ 22 rfl w.heap.size 40 i0 _ 56 Try.underlying22 hi0 hz0 hs0 hb0 rfl Wn.A Wn.n Wn.c Wn.l rfl F7.out.want.own w6.heap.size rfl (⟨o.now + x.d + sl.amt, o.next, x.a, x.b, x.A, x.n, x.c, x.bs⟩ : Mg) (fun j _ => mg_cells (x := (⟨o.now + x.d + sl.amt, o.next, x.a, x.b, x.A, x.n, x.c, x.bs⟩ : Mg)) RB.out.has j) ?q637 ?qby7 B7.out.size F7.out.want.sort mg_nb ZN.out ?_)
            case q637 => unfold maxLen; omega
            case qby7 => omega
            intro A7 c7 w7 ho hg hq hv
            have hz : (w6.alloc (.cells #[.int .i64 (o.now + x.d + sl.amt), .int .i64 o.next, .int .i64 x.a, .int .i64 x.b, .slice x.A x.n x.c] 40)).heap.size = w6.heap.size + 1 := by simp
            rw [← hz] at hv
            clear hz
            have b7 := grown_below hg B7.out.size (fun q e => (F7.out.want.own.2.lt q e).1)
            have B8 := Lib.hid (B7.out.trans b7)
            have F8 := Lib.hid (F7.out.wants ho hg hq (fun m hm => by rw [List.mem_singleton.1 hm]; exact MIN.out) hv)
            have cF8 := (show ∀ i, World.cell? _ ⟨_, i, none⟩ = #[.int .i64 o.now, .int .i64 o.next, .slice o.LA o.Ln o.Lc, .slice o.SA o.Sn o.Sc, .slice o.CA o.Cn o.Cc, .slice o.KA o.Kn o.Kc][i]? from F8.out.net.cell)
            have lF8 := F8.out.net.lt
            have fF8 := F8.out.net.free
            have P8 := Lib.hid (P7.out.wants (l := [(⟨o.now + x.d + sl.amt, o.next, x.a, x.b, x.A, x.n, x.c, x.bs⟩ : Mg)]) hg hv)
            have cP8 := P8.out.has.cell
            have lP8 := P8.out.has.lt
            have Q8 := Lib.hid (Q7.out.wants (l := [(⟨o.now + x.d + sl.amt, o.next, x.a, x.b, x.A, x.n, x.c, x.bs⟩ : Mg)]) F7.out hg hv)
            have X8 := Lib.hid (X7.out.wants (l := [(⟨o.now + x.d + sl.amt, o.next, x.a, x.b, x.A, x.n, x.c, x.bs⟩ : Mg)]) hg hv)
            have cX8 := X8.out.has.cell
            have lX8 := X8.out.has.lt
            have G8 := Lib.hid (G7.out.wants (l := [(⟨o.now + x.d + sl.amt, o.next, x.a, x.b, x.A, x.n, x.c, x.bs⟩ : Mg)]) hg hv)
            have cG8 := G8.out.has.cell
            have lG8 := G8.out.has.lt
            clear cF6 lF6 fF6 cP6 lP6 cX6 lX6 cG6 lG6 cF7 lF7 fF7 cP7 lP7 cX7 lX7 cG7 lG7 ho hg hq hv b7 RB MIN
            obtain ⟨L7, hL7⟩ : ∃ l, l = Wn.l ++ [(⟨o.now + x.d + sl.amt, o.next, x.a, x.b, x.A, x.n, x.c, x.bs⟩ : Mg)] := ⟨_, rfl⟩
            rw [← hL7] at F8 P8 Q8 X8 G8
            have HL7 := Lib.hid hL7
            clear hL7
            go_wp2_with fail
            refine (OPN.out _ F8.out.at_).mono ?_
            intro e w8 hx
            obtain ⟨rfl, hb⟩ := hx
            have B9 := Lib.hid (below_from hb B8.out B8.out.size)
            have F9 := Lib.hid (F8.out.past hb)
            have cF9 := (show ∀ i, World.cell? _ ⟨_, i, none⟩ = #[.int .i64 o.now, .int .i64 o.next, .slice o.LA o.Ln o.Lc, .slice o.SA o.Sn o.Sc, .slice o.CA o.Cn o.Cc, .slice o.KA o.Kn o.Kc][i]? from F9.out.net.cell)
            have lF9 := F9.out.net.lt
            have fF9 := F9.out.net.free
            have P9 := Lib.hid (P8.out.past hb)
            have cP9 := P9.out.has.cell
            have lP9 := P9.out.has.lt
            have Q9 := Lib.hid (Q8.out.past hb)
            have X9 := Lib.hid (X8.out.past hb)
            have cX9 := X9.out.has.cell
            have lX9 := X9.out.has.lt
            have G9 := Lib.hid (G8.out.past hb)
            have cG9 := G9.out.has.cell
            have lG9 := G9.out.has.lt
            clear cF8 lF8 fF8 cP8 lP8 cX8 lX8 cG8 lG8 hb
            have FA3 := Lib.hid (show Fair S (k + 1) o2.val (L7.map Mg.val) (Cm.l.map Mg.val) from by rw [HL7.out, MW.out]; exact FA2.out)
            have ft := F9.out.turn (w' := ((((((w8.setCell ⟨g, 0, none⟩ (.int .i64 o2.now)).setCell ⟨g, 1, none⟩ (.int .i64 o2.next)).setCell ⟨g, 2, none⟩ (.slice o2.LA o2.Ln o2.Lc)).setCell ⟨g, 3, none⟩ (.slice o2.SA o2.Sn o2.Sc)).setCell ⟨g, 4, none⟩ (.slice o2.CA o2.Cn o2.Cc)).setCell ⟨g, 5, none⟩ (.slice o2.KA o2.Kn o2.Kc))) Q9.out rfl
            have bt : Below w.heap.size w8 ((((((w8.setCell ⟨g, 0, none⟩ (.int .i64 o2.now)).setCell ⟨g, 1, none⟩ (.int .i64 o2.next)).setCell ⟨g, 2, none⟩ (.slice o2.LA o2.Ln o2.Lc)).setCell ⟨g, 3, none⟩ (.slice o2.SA o2.Sn o2.Sc)).setCell ⟨g, 4, none⟩ (.slice o2.CA o2.Cn o2.Cc)).setCell ⟨g, 5, none⟩ (.slice o2.KA o2.Kn o2.Kc)) := grown_below (setCells_grown g [.int .i64 o2.now, .int .i64 o2.next, .slice o2.LA o2.Ln o2.Lc, .slice o2.SA o2.Sn o2.Sc, .slice o2.CA o2.Cn o2.Cc, .slice o2.KA o2.Kn o2.Kc] 0 w8) B9.out.size (fun j hj => by injection hj with hj; have := F9.out.low; omega)
            have b9 := B9.out.trans bt
            obtain ⟨W9, hW9⟩ : ∃ W, W = ((((((w8.setCell ⟨g, 0, none⟩ (.int .i64 o2.now)).setCell ⟨g, 1, none⟩ (.int .i64 o2.next)).setCell ⟨g, 2, none⟩ (.slice o2.LA o2.Ln o2.Lc)).setCell ⟨g, 3, none⟩ (.slice o2.SA o2.Sn o2.Sc)).setCell ⟨g, 4, none⟩ (.slice o2.CA o2.Cn o2.Cc)).setCell ⟨g, 5, none⟩ (.slice o2.KA o2.Kn o2.Kc)) := ⟨_, rfl⟩
            go_upto_region 53 with (fail)
            rw [← hW9] at ft b9
            rw [← hW9]
            clear hW9 bt
            have B10 := Lib.hid b9
            have F10 := Lib.hid ft
            clear b9 ft cF9 lF9 fF9 cP9 lP9 cX9 lX9 cG9 lG9
            have cF10 := (show ∀ i, World.cell? _ ⟨_, i, none⟩ = #[.int .i64 o2.now, .int .i64 o2.next, .slice o2.LA o2.Ln o2.Lc, .slice o2.SA o2.Sn o2.Sc, .slice o2.CA o2.Cn o2.Cc, .slice o2.KA o2.Kn o2.Kc][i]? from F10.out.net.cell)
            have lF10 := F10.out.net.lt
            have fF10 := F10.out.net.free
            have CKA := Lib.hid (check_ok F10.out.at_ FA3.out.chk (by have h1 := (FA3.out.few (by omega) LS.out).2.1; have h2 := F10.out.at_.s.len; have h3 : o2.S.length ≤ 20 := h1; omega))
            go_wp2_with fail
            refine (CKA.out).mono ?_
            intro e w9 hx
            obtain ⟨rfl, hb⟩ := hx
            have B11 := Lib.hid (below_from hb B10.out B10.out.size)
            have F11 := Lib.hid (F10.out.past hb)
            have cF11 := (show ∀ i, World.cell? _ ⟨_, i, none⟩ = #[.int .i64 o2.now, .int .i64 o2.next, .slice o2.LA o2.Ln o2.Lc, .slice o2.SA o2.Sn o2.Sc, .slice o2.CA o2.Cn o2.Cc, .slice o2.KA o2.Kn o2.Kc][i]? from F11.out.net.cell)
            have lF11 := F11.out.net.lt
            have fF11 := F11.out.net.free
            clear cF10 lF10 fF10 hb
            go_wp2_with fail
            exact WI.mk o2 (⟨A7, Wn.n + 1, c7, L7⟩ : Rw) Cm (by kernel_rfl) (by omega) (show Wn.n + 1 ≤ 2 * (k + 1) from by omega) B11 F11 FA3
  · skip
    have hca : (c2 == 0) = false := by rw [beq_eq_false_iff_ne]; exact hc
    have hcb : (c2 != 0) = true := by rw [bne_iff_ne]; exact hc
    have hcc : decide (c2 = 0) = false := decide_eq_false hc
    have FA2 := Lib.hid (FA1.out.more (Nat.le_succ k))
    clear hc
    go_wp2_with fail
    exact WI.mk o Wn Cm (by kernel_rfl) (by omega) (show Wn.n ≤ 2 * (k + 1) from by omega) B3 F3 FA2

end Go.Proofs.Ytmlgahambecamaa

namespace Go.Proofs.Ytmlgahambecamaa
open Go.RowKit Go.Shelf

set_option maxHeartbeats 16000000 in
set_option maxRecDepth 100000 in
theorem fairtt (c : Nat → Value) (g : Nat) (SA : Option Addr) (Sn Sc : Nat) (LA : Option Addr) (Ln Lc : Nat) (f : Nat → Value) (v8 : Value) (S : List Sp) (L : List St) (w : World) (_HS : Hid (Sl spK w SA Sn Sc S)) (HL : Hid (Sl stK w LA Ln Lc L)) (LS : Hid (S.length ≤ 20)) (SN : Hid (S.length = Sn)) (p3 : Ln ≤ 40) (k : Nat) (o : Nt) (Wn Cm : Rw) (wr : World) (hw2 : Wn.n ≤ 2 * k) (B1 : Hid (Below w.heap.size w wr)) (F1 : Hid (FS w.heap.size g wr o Wn Cm)) (FA1 : Hid (Fair S k o.val (Wn.l.map Mg.val) (Cm.l.map Mg.val))) (hlt : k < Ln) (x : St) (hx : L[k]? = some x) (g1 : ¬ 100 < x.n) (g2 : ¬ x.d < 0) (g3 : ¬ 1000 < x.d) (ZK : Hid (x.kind = 1)) (K : Act → World → Prop) (Q0 : Exit → Act → World → Prop) (hK : ∀ a' w', WI c g SA Sn Sc LA Ln Lc S w (k + 1) a' w' → K a' w') : Code.wp Try.prog fbody (Exit.then K Q0) (fr c g SA Sn Sc LA Ln Lc f v8 (.slice Wn.A Wn.n Wn.c) (.slice Cm.A Cm.n Cm.c) (.int .i64 k)) wr := by
  obtain ⟨i0, hi0, hz0, hs0, hb0⟩ := info_parts inf40
  have ZN := Lib.hid zero_nb
  have sn20 : Sn ≤ 20 := by have h1 := SN.out; have h2 := LS.out; omega
  unfold fr
  conv => arg 2; whnf
  have cF1 := (show ∀ i, World.cell? _ ⟨_, i, none⟩ = #[.int .i64 o.now, .int .i64 o.next, .slice o.LA o.Ln o.Lc, .slice o.SA o.Sn o.Sc, .slice o.CA o.Cn o.Cc, .slice o.KA o.Kn o.Kc][i]? from F1.out.net.cell)
  have lF1 := F1.out.net.lt
  have fF1 := F1.out.net.free
  obtain ⟨bb, off, hkl, hLA, hbl, x0, x1, x2, x3, x4⟩ := st_at (HL.out.below B1.out) hlt
  have XB := Lib.hid (show Sl u8K w L[k].A L[k].n L[k].c L[k].bs from HL.out.each _ (List.getElem_mem hkl))
  have ex : L[k] = x := by rw [List.getElem?_eq_getElem hkl] at hx; injection hx
  rw [ex] at x0 x1 x2 x3 x4 XB
  clear ex hx
  subst hLA
  have xcap := XB.out.cap
  have xmax := XB.out.max
  have TK := Lib.hid tick_any
  have dg10 : decide (100 < x.n) = false := decide_eq_false (by omega)
  have dg11 : decide ((100 : Int) < (x.n : Int)) = false := decide_eq_false (by omega)
  have dg20 : decide (x.d < 0) = false := decide_eq_false (by omega)
  have dg30 : decide (1000 < x.d) = false := decide_eq_false (by omega)
  have nb := Bx.new F1.out #[.int .i64 x.kind, .int .i64 x.a, .int .i64 x.b, .int .i64 x.d, .slice x.A x.n x.c] 52
  have bk2 := below_alloc1 wr (.cells #[.int .i64 x.kind, .int .i64 x.a, .int .i64 x.b, .int .i64 x.d, .slice x.A x.n x.c] 52)
  have B2 := Lib.hid (below_from bk2 B1.out B1.out.size)
  have F2 := Lib.hid (F1.out.past bk2)
  have cF2 := (show ∀ i, World.cell? _ ⟨_, i, none⟩ = #[.int .i64 o.now, .int .i64 o.next, .slice o.LA o.Ln o.Lc, .slice o.SA o.Sn o.Sc, .slice o.CA o.Cn o.Cc, .slice o.KA o.Kn o.Kc][i]? from F2.out.net.cell)
  have lF2 := F2.out.net.lt
  have fF2 := F2.out.net.free
  have P2 := Lib.hid nb
  have cP2 := P2.out.has.cell
  have lP2 := P2.out.has.lt
  clear cF1 lF1 fF1 bk2 nb
  have lg2 := F1.out.net.lt
  go_upto_region 14 with (fail)
  obtain ⟨W1, hW1⟩ : ∃ W, W = wr.alloc (.cells #[.int .i64 x.kind, .int .i64 x.a, .int .i64 x.b, .int .i64 x.d, .slice x.A x.n x.c] 52) := ⟨_, rfl⟩
  rw [← hW1] at B2 F2 cF2 lF2 fF2 P2 cP2 lP2
  rw [← hW1]
  clear hW1
  clear lg2 x0 x1 x2 x3 x4
  have DN := Lib.hid (show 0 ≤ x.d ∧ x.d ≤ 1000 from by omega)
  clear g1 g2 g3
  have z1 := ZK.out
  have z0 : ¬ x.kind = 0 := by omega
  have z0a : (x.kind == 0) = false := by rw [beq_eq_false_iff_ne]; exact z0
  have z0b : (x.kind != 0) = true := by rw [bne_iff_ne]; exact z0
  have z0c : decide (x.kind = 0) = false := decide_eq_false z0
  clear z0 z0c
  have z1a : (x.kind == 1) = true := by rw [beq_iff_eq]; exact z1
  have z1b : (x.kind != 1) = false := by rw [bne_eq_false_iff_eq]; exact z1
  have z1c : decide (x.kind = 1) = true := decide_eq_true z1
  clear z1 z1c
  obtain ⟨V2, M, et, en, hm, fa2⟩ := FA1.out.tick DN.out.1 DN.out.2 (by omega)
  have HV := Lib.hid et
  have EN := Lib.hid en
  have HMM := Lib.hid hm
  have FA2 := Lib.hid fa2
  clear et en hm fa2
  go_wp2_with fail
  refine (tick_whole (V := V2) (M := M) (c := 0) (TK.out o x.d _ F2.out.at_ (FA1.out.few_nt (by omega) LS.out F2.out.at_)) HV.out).mono ?_
  intro e w4 hx
  obtain ⟨o2, A2, n2, cc2, l2, rfl, hv2, ho2, hm2, hs2, hb⟩ := hx
  subst hv2 hm2
  have ML0 := hs2.below (below_alloc1 w4 (.cells #[.int .i64 o2.now, .int .i64 o2.next, .slice o2.LA o2.Ln o2.Lc, .slice o2.SA o2.Sn o2.Sc, .slice o2.CA o2.Cn o2.Cc, .slice o2.KA o2.Kn o2.Kc] 27))
  have qs := QS.start F2.out ho2 B2.out.size
  have f4 := F2.out.past hb
  have nb := Bx.new f4 #[.int .i64 o2.now, .int .i64 o2.next, .slice o2.LA o2.Ln o2.Lc, .slice o2.SA o2.Sn o2.Sc, .slice o2.CA o2.Cn o2.Cc, .slice o2.KA o2.Kn o2.Kc] 27
  have bk3 := hb.alloc hb.size (.cells #[.int .i64 o2.now, .int .i64 o2.next, .slice o2.LA o2.Ln o2.Lc, .slice o2.SA o2.Sn o2.Sc, .slice o2.CA o2.Cn o2.Cc, .slice o2.KA o2.Kn o2.Kc] 27)
  have B3 := Lib.hid (below_from bk3 B2.out B2.out.size)
  have F3 := Lib.hid (F2.out.past bk3)
  have cF3 := (show ∀ i, World.cell? _ ⟨_, i, none⟩ = #[.int .i64 o.now, .int .i64 o.next, .slice o.LA o.Ln o.Lc, .slice o.SA o.Sn o.Sc, .slice o.CA o.Cn o.Cc, .slice o.KA o.Kn o.Kc][i]? from F3.out.net.cell)
  have lF3 := F3.out.net.lt
  have fF3 := F3.out.net.free
  have P3 := Lib.hid (P2.out.past bk3)
  have cP3 := P3.out.has.cell
  have lP3 := P3.out.has.lt
  have Q3 := Lib.hid (qs.past (below_alloc1 w4 (.cells #[.int .i64 o2.now, .int .i64 o2.next, .slice o2.LA o2.Ln o2.Lc, .slice o2.SA o2.Sn o2.Sc, .slice o2.CA o2.Cn o2.Cc, .slice o2.KA o2.Kn o2.Kc] 27)))
  have X3 := Lib.hid nb
  have cX3 := X3.out.has.cell
  have lX3 := X3.out.has.lt
  clear cF2 lF2 fF2 cP2 lP2 qs f4 nb bk3 hb ho2
  have ML3 := Lib.hid ML0
  clear ML0 hs2
  have fn := FA1.out.next
  have dn := DN.out
  have fn1 : 0 ≤ o.now := fn.1
  have fn2 : o.now ≤ 1099511627776 := fn.2.1
  have wr1 : IntKind.i64.wrap (o.now + x.d) = o.now + x.d := IntWalk.i64_in _ (by omega)
  have nw : (o2.now != o.now + x.d) = false := by rw [bne_eq_false_iff_eq]; exact EN.out
  have NB2 := Lib.hid (show Cm.n + n2 ≤ Wn.n from by
    have h1 := FA2.out.lens
    rw [List.length_append, List.length_map, List.length_map, List.length_map, F3.out.want.own.1, F3.out.come.own.1, ML3.out.len] at h1
    exact h1)
  have mcap := ML3.out.cap
  have mmax := ML3.out.max
  clear fn dn fn1 fn2
  go_upto_region 39 with (fail)
  obtain ⟨W5, hW5⟩ : ∃ W, W = w4.alloc (.cells #[.int .i64 o2.now, .int .i64 o2.next, .slice o2.LA o2.Ln o2.Lc, .slice o2.SA o2.Sn o2.Sc, .slice o2.CA o2.Cn o2.Cc, .slice o2.KA o2.Kn o2.Kc] 27) := ⟨_, rfl⟩
  rw [← hW5] at B3 F3 cF3 lF3 fF3 P3 cP3 lP3 Q3 X3 cX3 lX3 ML3
  rw [← hW5]
  clear hW5
  go_wp2_with fail
  go_loopg [215] n2 (fun gg s wr => ∃ j : Nat, j ≤ n2 ∧ n2 - j ≤ gg ∧ s = .int .i64 j ∧ Hid (Below W5.heap.size W5 wr))
  case atStart => exact ⟨0, Nat.zero_le _, by omega, rfl, Lib.hid (Below.refl _ _)⟩
  case round =>
    clear cF3 lF3 fF3 cP3 lP3 cX3 lX3 nw wr1
    obtain ⟨j, hj, hjg, rfl, BI⟩ := hrel
    by_cases hjs : j < n2
    · skip
      obtain ⟨b2, off2, hjl, hA2, hbl2, y0, y1, y2, y3, y4⟩ := mg_at (ML3.out.below BI.out) hjs
      have hm := HMM.out l2[j].val (List.mem_map_of_mem (List.getElem_mem hjl))
      have fi := F3.out.past BI.out
      have cf := (show ∀ i, World.cell? _ ⟨_, i, none⟩ = #[.int .i64 o.now, .int .i64 o.next, .slice o.LA o.Ln o.Lc, .slice o.SA o.Sn o.Sc, .slice o.CA o.Cn o.Cc, .slice o.KA o.Kn o.Kc][i]? from fi.net.cell)
      have lf := fi.net.lt
      have xi := X3.out.past BI.out
      have cx := xi.has.cell
      have lx := xi.has.lt
      clear fi xi
      generalize l2[j] = y at *
      have BN := Lib.hid (BI.out.alloc BI.out.size (.cells #[.int .i64 y.t, .int .i64 y.no, .int .i64 y.frm, .int .i64 y.dst, .slice y.A y.n y.c] 40))
      have d1 : decide (o2.now < y.t) = false := decide_eq_false (show ¬ o2.val.now < y.val.t from by have := hm.1; omega)
      have d2 : decide (y.t < o.now) = false := decide_eq_false (show ¬ y.val.t < o.val.now from by have := hm.2; omega)
      clear hm
      go_wp2_with fail
      try rw [← hA2]
      go_roundg (n2 - (j + 1))
      case measure => omega
      case rel => exact ⟨j + 1, by omega, by omega, by go_num, BN⟩
    · skip
      obtain rfl : n2 = j := by omega
      have bi := BI.out
      have B4 := Lib.hid (below_from bi B3.out B3.out.size)
      have F4 := Lib.hid (F3.out.past bi)
      have cF4 := (show ∀ i, World.cell? _ ⟨_, i, none⟩ = #[.int .i64 o.now, .int .i64 o.next, .slice o.LA o.Ln o.Lc, .slice o.SA o.Sn o.Sc, .slice o.CA o.Cn o.Cc, .slice o.KA o.Kn o.Kc][i]? from F4.out.net.cell)
      have lF4 := F4.out.net.lt
      have fF4 := F4.out.net.free
      have P4 := Lib.hid (P3.out.past bi)
      have cP4 := P4.out.has.cell
      have lP4 := P4.out.has.lt
      have Q4 := Lib.hid (Q3.out.past bi)
      have X4 := Lib.hid (X3.out.past bi)
      have cX4 := X4.out.has.cell
      have lX4 := X4.out.has.lt
      have ML4 := Lib.hid (ML3.out.below bi)
      clear bi BI
      have nb2 := NB2.out
      go_wp2_with (at_builtin; refine wpList_sl_sort (K := mgK) (S := NB) _ rfl _ _ 22 rfl w.heap.size 40 i0 _ 56 Try.underlying22 hi0 hz0 hs0 hb0 rfl Cm.A Cm.n Cm.c Cm.l rfl F4.out.come.own A2 n2 cc2 l2 rfl ML4.out ?q63 ?qby B4.out.size F4.out.come.sort mg_nb ZN.out ?_)
      case q63 => unfold maxLen; omega
      case qby => omega
      intro A7 c7 w7 ho hg hq hv
      have b7 := grown_below hg B4.out.size (fun q e => (F4.out.come.own.2.lt q e).1)
      have B5 := Lib.hid (B4.out.trans b7)
      have F5 := Lib.hid (F4.out.comes ho hg hq (fun m hm => ML4.out.each m hm) hv)
      have Q5 := Lib.hid (Q4.out.comes (l := l2) F4.out hg hv)
      have X5 := Lib.hid (X4.out.comes (l := l2) hg hv)
      have cF5 := (show ∀ i, World.cell? _ ⟨_, i, none⟩ = #[.int .i64 o.now, .int .i64 o.next, .slice o.LA o.Ln o.Lc, .slice o.SA o.Sn o.Sc, .slice o.CA o.Cn o.Cc, .slice o.KA o.Kn o.Kc][i]? from F5.out.net.cell)
      have lF5 := F5.out.net.lt
      have fF5 := F5.out.net.free
      have cX5 := X5.out.has.cell
      have lX5 := X5.out.has.lt
      clear cF4 lF4 fF4 cP4 lP4 cX4 lX4 ho hg hq hv b7
      have FA3 := Lib.hid (show Fair S (k + 1) o2.val (Wn.l.map Mg.val) ((Cm.l ++ l2).map Mg.val) from by rw [List.map_append]; exact FA2.out)
      have ft := F5.out.turn (w' := ((((((w7.setCell ⟨g, 0, none⟩ (.int .i64 o2.now)).setCell ⟨g, 1, none⟩ (.int .i64 o2.next)).setCell ⟨g, 2, none⟩ (.slice o2.LA o2.Ln o2.Lc)).setCell ⟨g, 3, none⟩ (.slice o2.SA o2.Sn o2.Sc)).setCell ⟨g, 4, none⟩ (.slice o2.CA o2.Cn o2.Cc)).setCell ⟨g, 5, none⟩ (.slice o2.KA o2.Kn o2.Kc))) Q5.out rfl
      have bt : Below w.heap.size w7 ((((((w7.setCell ⟨g, 0, none⟩ (.int .i64 o2.now)).setCell ⟨g, 1, none⟩ (.int .i64 o2.next)).setCell ⟨g, 2, none⟩ (.slice o2.LA o2.Ln o2.Lc)).setCell ⟨g, 3, none⟩ (.slice o2.SA o2.Sn o2.Sc)).setCell ⟨g, 4, none⟩ (.slice o2.CA o2.Cn o2.Cc)).setCell ⟨g, 5, none⟩ (.slice o2.KA o2.Kn o2.Kc)) := grown_below (setCells_grown g [.int .i64 o2.now, .int .i64 o2.next, .slice o2.LA o2.Ln o2.Lc, .slice o2.SA o2.Sn o2.Sc, .slice o2.CA o2.Cn o2.Cc, .slice o2.KA o2.Kn o2.Kc] 0 w7) B5.out.size (fun j hj => by injection hj with hj; have := F5.out.low; omega)
      have b9 := B5.out.trans bt
      obtain ⟨W9, hW9⟩ : ∃ W, W = ((((((w7.setCell ⟨g, 0, none⟩ (.int .i64 o2.now)).setCell ⟨g, 1, none⟩ (.int .i64 o2.next)).setCell ⟨g, 2, none⟩ (.slice o2.LA o2.Ln o2.Lc)).setCell ⟨g, 3, none⟩ (.slice o2.SA o2.Sn o2.Sc)).setCell ⟨g, 4, none⟩ (.slice o2.CA o2.Cn o2.Cc)).setCell ⟨g, 5, none⟩ (.slice o2.KA o2.Kn o2.Kc)) := ⟨_, rfl⟩
      go_upto_region 53 with (fail)
      rw [← hW9] at ft b9
      rw [← hW9]
      clear hW9 bt
      have B6 := Lib.hid b9
      have F6 := Lib.hid ft
      clear b9 ft cF5 lF5 fF5 cX5 lX5
      have cF6 := (show ∀ i, World.cell? _ ⟨_, i, none⟩ = #[.int .i64 o2.now, .int .i64 o2.next, .slice o2.LA o2.Ln o2.Lc, .slice o2.SA o2.Sn o2.Sc, .slice o2.CA o2.Cn o2.Cc, .slice o2.KA o2.Kn o2.Kc][i]? from F6.out.net.cell)
      have lF6 := F6.out.net.lt
      have fF6 := F6.out.net.free
      have CKA := Lib.hid (check_ok F6.out.at_ FA3.out.chk (by have h1 := (FA3.out.few (by omega) LS.out).2.1; have h2 := F6.out.at_.s.len; have h3 : o2.S.length ≤ 20 := h1; omega))
      go_wp2_with fail
      refine (CKA.out).mono ?_
      intro e w9 hx
      obtain ⟨rfl, hb⟩ := hx
      have B7 := Lib.hid (below_from hb B6.out B6.out.size)
      have F7 := Lib.hid (F6.out.past hb)
      have cF7 := (show ∀ i, World.cell? _ ⟨_, i, none⟩ = #[.int .i64 o2.now, .int .i64 o2.next, .slice o2.LA o2.Ln o2.Lc, .slice o2.SA o2.Sn o2.Sc, .slice o2.CA o2.Cn o2.Cc, .slice o2.KA o2.Kn o2.Kc][i]? from F7.out.net.cell)
      have lF7 := F7.out.net.lt
      have fF7 := F7.out.net.free
      clear cF6 lF6 fF6 hb
      go_wp2_with fail
      exact WI.mk o2 Wn (⟨A7, Cm.n + n2, c7, Cm.l ++ l2⟩ : Rw) (by kernel_rfl) (by omega) (show Wn.n ≤ 2 * (k + 1) from by omega) B7 F7 FA3

end Go.Proofs.Ytmlgahambecamaa

namespace Go.Proofs.Ytmlgahambecamaa
open Go.RowKit Go.Shelf

set_option maxHeartbeats 16000000 in
set_option maxRecDepth 100000 in
theorem fairtc (c : Nat → Value) (g : Nat) (SA : Option Addr) (Sn Sc : Nat) (LA : Option Addr) (Ln Lc : Nat) (f : Nat → Value) (v8 : Value) (S : List Sp) (L : List St) (w : World) (_HS : Hid (Sl spK w SA Sn Sc S)) (HL : Hid (Sl stK w LA Ln Lc L)) (LS : Hid (S.length ≤ 20)) (SN : Hid (S.length = Sn)) (p3 : Ln ≤ 40) (k : Nat) (o : Nt) (Wn Cm : Rw) (wr : World) (hw2 : Wn.n ≤ 2 * k) (B1 : Hid (Below w.heap.size w wr)) (F1 : Hid (FS w.heap.size g wr o Wn Cm)) (FA1 : Hid (Fair S k o.val (Wn.l.map Mg.val) (Cm.l.map Mg.val))) (hlt : k < Ln) (x : St) (hx : L[k]? = some x) (g1 : ¬ 100 < x.n) (g2 : ¬ x.d < 0) (g3 : ¬ 1000 < x.d) (ZK : Hid (x.kind = 2)) (K : Act → World → Prop) (Q0 : Exit → Act → World → Prop) (hK : ∀ a' w', WI c g SA Sn Sc LA Ln Lc S w (k + 1) a' w' → K a' w') : Code.wp Try.prog fbody (Exit.then K Q0) (fr c g SA Sn Sc LA Ln Lc f v8 (.slice Wn.A Wn.n Wn.c) (.slice Cm.A Cm.n Cm.c) (.int .i64 k)) wr := by
  obtain ⟨i0, hi0, hz0, hs0, hb0⟩ := info_parts inf40
  have ZN := Lib.hid zero_nb
  have sn20 : Sn ≤ 20 := by have h1 := SN.out; have h2 := LS.out; omega
  unfold fr
  conv => arg 2; whnf
  have cF1 := (show ∀ i, World.cell? _ ⟨_, i, none⟩ = #[.int .i64 o.now, .int .i64 o.next, .slice o.LA o.Ln o.Lc, .slice o.SA o.Sn o.Sc, .slice o.CA o.Cn o.Cc, .slice o.KA o.Kn o.Kc][i]? from F1.out.net.cell)
  have lF1 := F1.out.net.lt
  have fF1 := F1.out.net.free
  obtain ⟨bb, off, hkl, hLA, hbl, x0, x1, x2, x3, x4⟩ := st_at (HL.out.below B1.out) hlt
  have XB := Lib.hid (show Sl u8K w L[k].A L[k].n L[k].c L[k].bs from HL.out.each _ (List.getElem_mem hkl))
  have ex : L[k] = x := by rw [List.getElem?_eq_getElem hkl] at hx; injection hx
  rw [ex] at x0 x1 x2 x3 x4 XB
  clear ex hx
  subst hLA
  have xcap := XB.out.cap
  have xmax := XB.out.max
  have CU := Lib.hid cut_any
  have dg10 : decide (100 < x.n) = false := decide_eq_false (by omega)
  have dg11 : decide ((100 : Int) < (x.n : Int)) = false := decide_eq_false (by omega)
  have dg20 : decide (x.d < 0) = false := decide_eq_false (by omega)
  have dg30 : decide (1000 < x.d) = false := decide_eq_false (by omega)
  have nb := Bx.new F1.out #[.int .i64 x.kind, .int .i64 x.a, .int .i64 x.b, .int .i64 x.d, .slice x.A x.n x.c] 52
  have bk2 := below_alloc1 wr (.cells #[.int .i64 x.kind, .int .i64 x.a, .int .i64 x.b, .int .i64 x.d, .slice x.A x.n x.c] 52)
  have B2 := Lib.hid (below_from bk2 B1.out B1.out.size)
  have F2 := Lib.hid (F1.out.past bk2)
  have cF2 := (show ∀ i, World.cell? _ ⟨_, i, none⟩ = #[.int .i64 o.now, .int .i64 o.next, .slice o.LA o.Ln o.Lc, .slice o.SA o.Sn o.Sc, .slice o.CA o.Cn o.Cc, .slice o.KA o.Kn o.Kc][i]? from F2.out.net.cell)
  have lF2 := F2.out.net.lt
  have fF2 := F2.out.net.free
  have P2 := Lib.hid nb
  have cP2 := P2.out.has.cell
  have lP2 := P2.out.has.lt
  clear cF1 lF1 fF1 bk2 nb
  have lg2 := F1.out.net.lt
  go_upto_region 14 with (fail)
  obtain ⟨W1, hW1⟩ : ∃ W, W = wr.alloc (.cells #[.int .i64 x.kind, .int .i64 x.a, .int .i64 x.b, .int .i64 x.d, .slice x.A x.n x.c] 52) := ⟨_, rfl⟩
  rw [← hW1] at B2 F2 cF2 lF2 fF2 P2 cP2 lP2
  rw [← hW1]
  clear hW1
  clear lg2 x0 x1 x2 x3 x4
  have DN := Lib.hid (show 0 ≤ x.d ∧ x.d ≤ 1000 from by omega)
  clear g1 g2 g3
  have z2 := ZK.out
  have z0 : ¬ x.kind = 0 := by omega
  have z1 : ¬ x.kind = 1 := by omega
  have z0a : (x.kind == 0) = false := by rw [beq_eq_false_iff_ne]; exact z0
  have z0b : (x.kind != 0) = true := by rw [bne_iff_ne]; exact z0
  have z0c : decide (x.kind = 0) = false := decide_eq_false z0
  clear z0 z0c
  have z1a : (x.kind == 1) = false := by rw [beq_eq_false_iff_ne]; exact z1
  have z1b : (x.kind != 1) = true := by rw [bne_iff_ne]; exact z1
  have z1c : decide (x.kind = 1) = false := decide_eq_false z1
  clear z1 z1c
  have z2a : (x.kind == 2) = true := by rw [beq_iff_eq]; exact z2
  have z2b : (x.kind != 2) = false := by rw [bne_eq_false_iff_eq]; exact z2
  have z2c : decide (x.kind = 2) = true := decide_eq_true z2
  clear z2 z2c
  obtain ⟨V2, hV2⟩ : ∃ V, waysV o.val x.a x.b true = V := ⟨_, rfl⟩
  obtain ⟨V2, c2⟩ := V2
  have HV := Lib.hid hV2
  clear hV2
  go_wp2_with fail
  refine (net_whole (V := V2) (c := c2) (CU.out o x.a x.b _ F2.out.at_ (FA1.out.few_nt (by omega) LS.out F2.out.at_)) HV.out).mono ?_
  intro e w4 hx
  obtain ⟨o2, rfl, hv2, ho2, hb⟩ := hx
  subst hv2
  have qs := QS.start F2.out ho2 B2.out.size
  have f4 := F2.out.past hb
  have nb := Bx.new f4 #[.int .i64 o2.now, .int .i64 o2.next, .slice o2.LA o2.Ln o2.Lc, .slice o2.SA o2.Sn o2.Sc, .slice o2.CA o2.Cn o2.Cc, .slice o2.KA o2.Kn o2.Kc] 27
  have bk3 := hb.alloc hb.size (.cells #[.int .i64 o2.now, .int .i64 o2.next, .slice o2.LA o2.Ln o2.Lc, .slice o2.SA o2.Sn o2.Sc, .slice o2.CA o2.Cn o2.Cc, .slice o2.KA o2.Kn o2.Kc] 27)
  have B3 := Lib.hid (below_from bk3 B2.out B2.out.size)
  have F3 := Lib.hid (F2.out.past bk3)
  have cF3 := (show ∀ i, World.cell? _ ⟨_, i, none⟩ = #[.int .i64 o.now, .int .i64 o.next, .slice o.LA o.Ln o.Lc, .slice o.SA o.Sn o.Sc, .slice o.CA o.Cn o.Cc, .slice o.KA o.Kn o.Kc][i]? from F3.out.net.cell)
  have lF3 := F3.out.net.lt
  have fF3 := F3.out.net.free
  have P3 := Lib.hid (P2.out.past bk3)
  have cP3 := P3.out.has.cell
  have lP3 := P3.out.has.lt
  have Q3 := Lib.hid (qs.past (below_alloc1 w4 (.cells #[.int .i64 o2.now, .int .i64 o2.next, .slice o2.LA o2.Ln o2.Lc, .slice o2.SA o2.Sn o2.Sc, .slice o2.CA o2.Cn o2.Cc, .slice o2.KA o2.Kn o2.Kc] 27)))
  have X3 := Lib.hid nb
  have cX3 := X3.out.has.cell
  have lX3 := X3.out.has.lt
  clear cF2 lF2 fF2 cP2 lP2 qs f4 nb bk3 hb ho2
  by_cases hc : c2 = 0
  · skip
    subst hc
    have FA2 := Lib.hid (FA1.out.ways HV.out)
    go_upto_region 51 with (fail)
    obtain ⟨W5, hW5⟩ : ∃ W, W = w4.alloc (.cells #[.int .i64 o2.now, .int .i64 o2.next, .slice o2.LA o2.Ln o2.Lc, .slice o2.SA o2.Sn o2.Sc, .slice o2.CA o2.Cn o2.Cc, .slice o2.KA o2.Kn o2.Kc] 27) := ⟨_, rfl⟩
    rw [← hW5] at B3 F3 cF3 lF3 fF3 P3 cP3 lP3 Q3 X3 cX3 lX3
    rw [← hW5]
    clear hW5
    have ft := F3.out.turn (w' := ((((((W5.setCell ⟨g, 0, none⟩ (.int .i64 o2.now)).setCell ⟨g, 1, none⟩ (.int .i64 o2.next)).setCell ⟨g, 2, none⟩ (.slice o2.LA o2.Ln o2.Lc)).setCell ⟨g, 3, none⟩ (.slice o2.SA o2.Sn o2.Sc)).setCell ⟨g, 4, none⟩ (.slice o2.CA o2.Cn o2.Cc)).setCell ⟨g, 5, none⟩ (.slice o2.KA o2.Kn o2.Kc))) Q3.out rfl
    have bt : Below w.heap.size W5 ((((((W5.setCell ⟨g, 0, none⟩ (.int .i64 o2.now)).setCell ⟨g, 1, none⟩ (.int .i64 o2.next)).setCell ⟨g, 2, none⟩ (.slice o2.LA o2.Ln o2.Lc)).setCell ⟨g, 3, none⟩ (.slice o2.SA o2.Sn o2.Sc)).setCell ⟨g, 4, none⟩ (.slice o2.CA o2.Cn o2.Cc)).setCell ⟨g, 5, none⟩ (.slice o2.KA o2.Kn o2.Kc)) := grown_below (setCells_grown g [.int .i64 o2.now, .int .i64 o2.next, .slice o2.LA o2.Ln o2.Lc, .slice o2.SA o2.Sn o2.Sc, .slice o2.CA o2.Cn o2.Cc, .slice o2.KA o2.Kn o2.Kc] 0 W5) B3.out.size (fun j hj => by injection hj with hj; have := F3.out.low; omega)
    have b9 := B3.out.trans bt
    obtain ⟨W9, hW9⟩ : ∃ W, W = ((((((W5.setCell ⟨g, 0, none⟩ (.int .i64 o2.now)).setCell ⟨g, 1, none⟩ (.int .i64 o2.next)).setCell ⟨g, 2, none⟩ (.slice o2.LA o2.Ln o2.Lc)).setCell ⟨g, 3, none⟩ (.slice o2.SA o2.Sn o2.Sc)).setCell ⟨g, 4, none⟩ (.slice o2.CA o2.Cn o2.Cc)).setCell ⟨g, 5, none⟩ (.slice o2.KA o2.Kn o2.Kc)) := ⟨_, rfl⟩
    go_upto_region 53 with (fail)
    rw [← hW9] at ft b9
    rw [← hW9]
    clear hW9 bt
    have B4 := Lib.hid b9
    have F4 := Lib.hid ft
    clear b9 ft cF3 lF3 fF3 cP3 lP3 cX3 lX3
    have cF4 := (show ∀ i, World.cell? _ ⟨_, i, none⟩ = #[.int .i64 o2.now, .int .i64 o2.next, .slice o2.LA o2.Ln o2.Lc, .slice o2.SA o2.Sn o2.Sc, .slice o2.CA o2.Cn o2.Cc, .slice o2.KA o2.Kn o2.Kc][i]? from F4.out.net.cell)
    have lF4 := F4.out.net.lt
    have fF4 := F4.out.net.free
    have CKA := Lib.hid (check_ok F4.out.at_ FA2.out.chk (by have h1 := (FA2.out.few (by omega) LS.out).2.1; have h2 := F4.out.at_.s.len; have h3 : o2.S.length ≤ 20 := h1; omega))
    go_wp2_with fail
    refine (CKA.out).mono ?_
    intro e w9 hx
    obtain ⟨rfl, hb⟩ := hx
    have B5 := Lib.hid (below_from hb B4.out B4.out.size)
    have F5 := Lib.hid (F4.out.past hb)
    have cF5 := (show ∀ i, World.cell? _ ⟨_, i, none⟩ = #[.int .i64 o2.now, .int .i64 o2.next, .slice o2.LA o2.Ln o2.Lc, .slice o2.SA o2.Sn o2.Sc, .slice o2.CA o2.Cn o2.Cc, .slice o2.KA o2.Kn o2.Kc][i]? from F5.out.net.cell)
    have lF5 := F5.out.net.lt
    have fF5 := F5.out.net.free
    clear cF4 lF4 fF4 hb
    go_wp2_with fail
    exact WI.mk o2 Wn Cm (by kernel_rfl) (by omega) (show Wn.n ≤ 2 * (k + 1) from by omega) B5 F5 FA2
  · skip
    have hca : (c2 == 0) = false := by rw [beq_eq_false_iff_ne]; exact hc
    have hcb : (c2 != 0) = true := by rw [bne_iff_ne]; exact hc
    have hcc : decide (c2 = 0) = false := decide_eq_false hc
    have FA2 := Lib.hid (FA1.out.more (Nat.le_succ k))
    clear hc
    have CKA := Lib.hid (check_ok F3.out.at_ FA2.out.chk (by have h1 := (FA2.out.few (by omega) LS.out).2.1; have h2 := F3.out.at_.s.len; have h3 : o.S.length ≤ 20 := h1; omega))
    go_wp2_with fail
    refine (CKA.out).mono ?_
    intro e w9 hx
    obtain ⟨rfl, hb⟩ := hx
    have B4 := Lib.hid (below_from hb B3.out B3.out.size)
    have F4 := Lib.hid (F3.out.past hb)
    have cF4 := (show ∀ i, World.cell? _ ⟨_, i, none⟩ = #[.int .i64 o.now, .int .i64 o.next, .slice o.LA o.Ln o.Lc, .slice o.SA o.Sn o.Sc, .slice o.CA o.Cn o.Cc, .slice o.KA o.Kn o.Kc][i]? from F4.out.net.cell)
    have lF4 := F4.out.net.lt
    have fF4 := F4.out.net.free
    have P4 := Lib.hid (P3.out.past hb)
    have cP4 := P4.out.has.cell
    have lP4 := P4.out.has.lt
    have Q4 := Lib.hid (Q3.out.past hb)
    have X4 := Lib.hid (X3.out.past hb)
    have cX4 := X4.out.has.cell
    have lX4 := X4.out.has.lt
    clear cF3 lF3 fF3 cP3 lP3 cX3 lX3 hb
    go_wp2_with fail
    exact WI.mk o Wn Cm (by kernel_rfl) (by omega) (show Wn.n ≤ 2 * (k + 1) from by omega) B4 F4 FA2

end Go.Proofs.Ytmlgahambecamaa

namespace Go.Proofs.Ytmlgahambecamaa
open Go.RowKit Go.Shelf

set_option maxHeartbeats 16000000 in
set_option maxRecDepth 100000 in
theorem fairth (c : Nat → Value) (g : Nat) (SA : Option Addr) (Sn Sc : Nat) (LA : Option Addr) (Ln Lc : Nat) (f : Nat → Value) (v8 : Value) (S : List Sp) (L : List St) (w : World) (_HS : Hid (Sl spK w SA Sn Sc S)) (HL : Hid (Sl stK w LA Ln Lc L)) (LS : Hid (S.length ≤ 20)) (SN : Hid (S.length = Sn)) (p3 : Ln ≤ 40) (k : Nat) (o : Nt) (Wn Cm : Rw) (wr : World) (hw2 : Wn.n ≤ 2 * k) (B1 : Hid (Below w.heap.size w wr)) (F1 : Hid (FS w.heap.size g wr o Wn Cm)) (FA1 : Hid (Fair S k o.val (Wn.l.map Mg.val) (Cm.l.map Mg.val))) (hlt : k < Ln) (x : St) (hx : L[k]? = some x) (g1 : ¬ 100 < x.n) (g2 : ¬ x.d < 0) (g3 : ¬ 1000 < x.d) (z0 : ¬ x.kind = 0) (z1 : ¬ x.kind = 1) (z2 : ¬ x.kind = 2) (K : Act → World → Prop) (Q0 : Exit → Act → World → Prop) (hK : ∀ a' w', WI c g SA Sn Sc LA Ln Lc S w (k + 1) a' w' → K a' w') : Code.wp Try.prog fbody (Exit.then K Q0) (fr c g SA Sn Sc LA Ln Lc f v8 (.slice Wn.A Wn.n Wn.c) (.slice Cm.A Cm.n Cm.c) (.int .i64 k)) wr := by
  obtain ⟨i0, hi0, hz0, hs0, hb0⟩ := info_parts inf40
  have ZN := Lib.hid zero_nb
  have sn20 : Sn ≤ 20 := by have h1 := SN.out; have h2 := LS.out; omega
  unfold fr
  conv => arg 2; whnf
  have cF1 := (show ∀ i, World.cell? _ ⟨_, i, none⟩ = #[.int .i64 o.now, .int .i64 o.next, .slice o.LA o.Ln o.Lc, .slice o.SA o.Sn o.Sc, .slice o.CA o.Cn o.Cc, .slice o.KA o.Kn o.Kc][i]? from F1.out.net.cell)
  have lF1 := F1.out.net.lt
  have fF1 := F1.out.net.free
  obtain ⟨bb, off, hkl, hLA, hbl, x0, x1, x2, x3, x4⟩ := st_at (HL.out.below B1.out) hlt
  have XB := Lib.hid (show Sl u8K w L[k].A L[k].n L[k].c L[k].bs from HL.out.each _ (List.getElem_mem hkl))
  have ex : L[k] = x := by rw [List.getElem?_eq_getElem hkl] at hx; injection hx
  rw [ex] at x0 x1 x2 x3 x4 XB
  clear ex hx
  subst hLA
  have xcap := XB.out.cap
  have xmax := XB.out.max
  have HE := Lib.hid heal_any
  have dg10 : decide (100 < x.n) = false := decide_eq_false (by omega)
  have dg11 : decide ((100 : Int) < (x.n : Int)) = false := decide_eq_false (by omega)
  have dg20 : decide (x.d < 0) = false := decide_eq_false (by omega)
  have dg30 : decide (1000 < x.d) = false := decide_eq_false (by omega)
  have nb := Bx.new F1.out #[.int .i64 x.kind, .int .i64 x.a, .int .i64 x.b, .int .i64 x.d, .slice x.A x.n x.c] 52
  have bk2 := below_alloc1 wr (.cells #[.int .i64 x.kind, .int .i64 x.a, .int .i64 x.b, .int .i64 x.d, .slice x.A x.n x.c] 52)
  have B2 := Lib.hid (below_from bk2 B1.out B1.out.size)
  have F2 := Lib.hid (F1.out.past bk2)
  have cF2 := (show ∀ i, World.cell? _ ⟨_, i, none⟩ = #[.int .i64 o.now, .int .i64 o.next, .slice o.LA o.Ln o.Lc, .slice o.SA o.Sn o.Sc, .slice o.CA o.Cn o.Cc, .slice o.KA o.Kn o.Kc][i]? from F2.out.net.cell)
  have lF2 := F2.out.net.lt
  have fF2 := F2.out.net.free
  have P2 := Lib.hid nb
  have cP2 := P2.out.has.cell
  have lP2 := P2.out.has.lt
  clear cF1 lF1 fF1 bk2 nb
  have lg2 := F1.out.net.lt
  go_upto_region 14 with (fail)
  obtain ⟨W1, hW1⟩ : ∃ W, W = wr.alloc (.cells #[.int .i64 x.kind, .int .i64 x.a, .int .i64 x.b, .int .i64 x.d, .slice x.A x.n x.c] 52) := ⟨_, rfl⟩
  rw [← hW1] at B2 F2 cF2 lF2 fF2 P2 cP2 lP2
  rw [← hW1]
  clear hW1
  clear lg2 x0 x1 x2 x3 x4
  have DN := Lib.hid (show 0 ≤ x.d ∧ x.d ≤ 1000 from by omega)
  clear g1 g2 g3
  have z0a : (x.kind == 0) = false := by rw [beq_eq_false_iff_ne]; exact z0
  have z0b : (x.kind != 0) = true := by rw [bne_iff_ne]; exact z0
  have z0c : decide (x.kind = 0) = false := decide_eq_false z0
  clear z0 z0c
  have z1a : (x.kind == 1) = false := by rw [beq_eq_false_iff_ne]; exact z1
  have z1b : (x.kind != 1) = true := by rw [bne_iff_ne]; exact z1
  have z1c : decide (x.kind = 1) = false := decide_eq_false z1
  clear z1 z1c
  have z2a : (x.kind == 2) = false := by rw [beq_eq_false_iff_ne]; exact z2
  have z2b : (x.kind != 2) = true := by rw [bne_iff_ne]; exact z2
  have z2c : decide (x.kind = 2) = false := decide_eq_false z2
  clear z2 z2c
  obtain ⟨V2, hV2⟩ : ∃ V, waysV o.val x.a x.b false = V := ⟨_, rfl⟩
  obtain ⟨V2, c2⟩ := V2
  have HV := Lib.hid hV2
  clear hV2
  go_wp2_with fail
  refine (net_whole (V := V2) (c := c2) (HE.out o x.a x.b _ F2.out.at_ (FA1.out.few_nt (by omega) LS.out F2.out.at_)) HV.out).mono ?_
  intro e w4 hx
  obtain ⟨o2, rfl, hv2, ho2, hb⟩ := hx
  subst hv2
  have qs := QS.start F2.out ho2 B2.out.size
  have f4 := F2.out.past hb
  have nb := Bx.new f4 #[.int .i64 o2.now, .int .i64 o2.next, .slice o2.LA o2.Ln o2.Lc, .slice o2.SA o2.Sn o2.Sc, .slice o2.CA o2.Cn o2.Cc, .slice o2.KA o2.Kn o2.Kc] 27
  have bk3 := hb.alloc hb.size (.cells #[.int .i64 o2.now, .int .i64 o2.next, .slice o2.LA o2.Ln o2.Lc, .slice o2.SA o2.Sn o2.Sc, .slice o2.CA o2.Cn o2.Cc, .slice o2.KA o2.Kn o2.Kc] 27)
  have B3 := Lib.hid (below_from bk3 B2.out B2.out.size)
  have F3 := Lib.hid (F2.out.past bk3)
  have cF3 := (show ∀ i, World.cell? _ ⟨_, i, none⟩ = #[.int .i64 o.now, .int .i64 o.next, .slice o.LA o.Ln o.Lc, .slice o.SA o.Sn o.Sc, .slice o.CA o.Cn o.Cc, .slice o.KA o.Kn o.Kc][i]? from F3.out.net.cell)
  have lF3 := F3.out.net.lt
  have fF3 := F3.out.net.free
  have P3 := Lib.hid (P2.out.past bk3)
  have cP3 := P3.out.has.cell
  have lP3 := P3.out.has.lt
  have Q3 := Lib.hid (qs.past (below_alloc1 w4 (.cells #[.int .i64 o2.now, .int .i64 o2.next, .slice o2.LA o2.Ln o2.Lc, .slice o2.SA o2.Sn o2.Sc, .slice o2.CA o2.Cn o2.Cc, .slice o2.KA o2.Kn o2.Kc] 27)))
  have X3 := Lib.hid nb
  have cX3 := X3.out.has.cell
  have lX3 := X3.out.has.lt
  clear cF2 lF2 fF2 cP2 lP2 qs f4 nb bk3 hb ho2
  by_cases hc : c2 = 0
  · skip
    subst hc
    have FA2 := Lib.hid (FA1.out.ways HV.out)
    go_upto_region 16 with (fail)
    obtain ⟨W5, hW5⟩ : ∃ W, W = w4.alloc (.cells #[.int .i64 o2.now, .int .i64 o2.next, .slice o2.LA o2.Ln o2.Lc, .slice o2.SA o2.Sn o2.Sc, .slice o2.CA o2.Cn o2.Cc, .slice o2.KA o2.Kn o2.Kc] 27) := ⟨_, rfl⟩
    rw [← hW5] at B3 F3 cF3 lF3 fF3 P3 cP3 lP3 Q3 X3 cX3 lX3
    rw [← hW5]
    clear hW5
    have ft := F3.out.turn (w' := ((((((W5.setCell ⟨g, 0, none⟩ (.int .i64 o2.now)).setCell ⟨g, 1, none⟩ (.int .i64 o2.next)).setCell ⟨g, 2, none⟩ (.slice o2.LA o2.Ln o2.Lc)).setCell ⟨g, 3, none⟩ (.slice o2.SA o2.Sn o2.Sc)).setCell ⟨g, 4, none⟩ (.slice o2.CA o2.Cn o2.Cc)).setCell ⟨g, 5, none⟩ (.slice o2.KA o2.Kn o2.Kc))) Q3.out rfl
    have bt : Below w.heap.size W5 ((((((W5.setCell ⟨g, 0, none⟩ (.int .i64 o2.now)).setCell ⟨g, 1, none⟩ (.int .i64 o2.next)).setCell ⟨g, 2, none⟩ (.slice o2.LA o2.Ln o2.Lc)).setCell ⟨g, 3, none⟩ (.slice o2.SA o2.Sn o2.Sc)).setCell ⟨g, 4, none⟩ (.slice o2.CA o2.Cn o2.Cc)).setCell ⟨g, 5, none⟩ (.slice o2.KA o2.Kn o2.Kc)) := grown_below (setCells_grown g [.int .i64 o2.now, .int .i64 o2.next, .slice o2.LA o2.Ln o2.Lc, .slice o2.SA o2.Sn o2.Sc, .slice o2.CA o2.Cn o2.Cc, .slice o2.KA o2.Kn o2.Kc] 0 W5) B3.out.size (fun j hj => by injection hj with hj; have := F3.out.low; omega)
    have b9 := B3.out.trans bt
    obtain ⟨W9, hW9⟩ : ∃ W, W = ((((((W5.setCell ⟨g, 0, none⟩ (.int .i64 o2.now)).setCell ⟨g, 1, none⟩ (.int .i64 o2.next)).setCell ⟨g, 2, none⟩ (.slice o2.LA o2.Ln o2.Lc)).setCell ⟨g, 3, none⟩ (.slice o2.SA o2.Sn o2.Sc)).setCell ⟨g, 4, none⟩ (.slice o2.CA o2.Cn o2.Cc)).setCell ⟨g, 5, none⟩ (.slice o2.KA o2.Kn o2.Kc)) := ⟨_, rfl⟩
    go_upto_region 53 with (fail)
    rw [← hW9] at ft b9
    rw [← hW9]
    clear hW9 bt
    have B4 := Lib.hid b9
    have F4 := Lib.hid ft
    clear b9 ft cF3 lF3 fF3 cP3 lP3 cX3 lX3
    have cF4 := (show ∀ i, World.cell? _ ⟨_, i, none⟩ = #[.int .i64 o2.now, .int .i64 o2.next, .slice o2.LA o2.Ln o2.Lc, .slice o2.SA o2.Sn o2.Sc, .slice o2.CA o2.Cn o2.Cc, .slice o2.KA o2.Kn o2.Kc][i]? from F4.out.net.cell)
    have lF4 := F4.out.net.lt
    have fF4 := F4.out.net.free
    have CKA := Lib.hid (check_ok F4.out.at_ FA2.out.chk (by have h1 := (FA2.out.few (by omega) LS.out).2.1; have h2 := F4.out.at_.s.len; have h3 : o2.S.length ≤ 20 := h1; omega))
    go_wp2_with fail
    refine (CKA.out).mono ?_
    intro e w9 hx
    obtain ⟨rfl, hb⟩ := hx
    have B5 := Lib.hid (below_from hb B4.out B4.out.size)
    have F5 := Lib.hid (F4.out.past hb)
    have cF5 := (show ∀ i, World.cell? _ ⟨_, i, none⟩ = #[.int .i64 o2.now, .int .i64 o2.next, .slice o2.LA o2.Ln o2.Lc, .slice o2.SA o2.Sn o2.Sc, .slice o2.CA o2.Cn o2.Cc, .slice o2.KA o2.Kn o2.Kc][i]? from F5.out.net.cell)
    have lF5 := F5.out.net.lt
    have fF5 := F5.out.net.free
    clear cF4 lF4 fF4 hb
    go_wp2_with fail
    exact WI.mk o2 Wn Cm (by kernel_rfl) (by omega) (show Wn.n ≤ 2 * (k + 1) from by omega) B5 F5 FA2
  · skip
    have hca : (c2 == 0) = false := by rw [beq_eq_false_iff_ne]; exact hc
    have hcb : (c2 != 0) = true := by rw [bne_iff_ne]; exact hc
    have hcc : decide (c2 = 0) = false := decide_eq_false hc
    have FA2 := Lib.hid (FA1.out.more (Nat.le_succ k))
    clear hc
    have CKA := Lib.hid (check_ok F3.out.at_ FA2.out.chk (by have h1 := (FA2.out.few (by omega) LS.out).2.1; have h2 := F3.out.at_.s.len; have h3 : o.S.length ≤ 20 := h1; omega))
    go_wp2_with fail
    refine (CKA.out).mono ?_
    intro e w9 hx
    obtain ⟨rfl, hb⟩ := hx
    have B4 := Lib.hid (below_from hb B3.out B3.out.size)
    have F4 := Lib.hid (F3.out.past hb)
    have cF4 := (show ∀ i, World.cell? _ ⟨_, i, none⟩ = #[.int .i64 o.now, .int .i64 o.next, .slice o.LA o.Ln o.Lc, .slice o.SA o.Sn o.Sc, .slice o.CA o.Cn o.Cc, .slice o.KA o.Kn o.Kc][i]? from F4.out.net.cell)
    have lF4 := F4.out.net.lt
    have fF4 := F4.out.net.free
    have P4 := Lib.hid (P3.out.past hb)
    have cP4 := P4.out.has.cell
    have lP4 := P4.out.has.lt
    have Q4 := Lib.hid (Q3.out.past hb)
    have X4 := Lib.hid (X3.out.past hb)
    have cX4 := X4.out.has.cell
    have lX4 := X4.out.has.lt
    clear cF3 lF3 fF3 cP3 lP3 cX3 lX3 hb
    go_wp2_with fail
    exact WI.mk o Wn Cm (by kernel_rfl) (by omega) (show Wn.n ≤ 2 * (k + 1) from by omega) B4 F4 FA2

end Go.Proofs.Ytmlgahambecamaa

namespace Go.Proofs.Ytmlgahambecamaa
open Go.RowKit Go.Shelf

set_option maxHeartbeats 16000000 in
set_option maxRecDepth 100000 in
theorem fairtr (c : Nat → Value) (g : Nat) (SA : Option Addr) (Sn Sc : Nat) (LA : Option Addr) (Ln Lc : Nat) (f : Nat → Value) (v8 : Value) (S : List Sp) (L : List St) (w : World) (_HS : Hid (Sl spK w SA Sn Sc S)) (HL : Hid (Sl stK w LA Ln Lc L)) (LS : Hid (S.length ≤ 20)) (SN : Hid (S.length = Sn)) (_p3 : Ln ≤ 40) (k : Nat) (o : Nt) (Wn Cm : Rw) (wr : World) (_hw2 : Wn.n ≤ 2 * k) (B1 : Hid (Below w.heap.size w wr)) (F1 : Hid (FS w.heap.size g wr o Wn Cm)) (_FA1 : Hid (Fair S k o.val (Wn.l.map Mg.val) (Cm.l.map Mg.val))) (hlt : k < Ln) (x : St) (hx : L[k]? = some x) (hg : 100 < x.n ∨ x.d < 0 ∨ 1000 < x.d) (K : Act → World → Prop) (Q0 : Exit → Act → World → Prop) (hR : ∀ a' w', WR c g SA Sn Sc LA Ln Lc S w a' w' → Q0 .ret a' w') : Code.wp Try.prog fbody (Exit.then K Q0) (fr c g SA Sn Sc LA Ln Lc f v8 (.slice Wn.A Wn.n Wn.c) (.slice Cm.A Cm.n Cm.c) (.int .i64 k)) wr := by
  obtain ⟨i0, hi0, hz0, hs0, hb0⟩ := info_parts inf40
  have ZN := Lib.hid zero_nb
  have sn20 : Sn ≤ 20 := by have h1 := SN.out; have h2 := LS.out; omega
  unfold fr
  conv => arg 2; whnf
  have cF1 := (show ∀ i, World.cell? _ ⟨_, i, none⟩ = #[.int .i64 o.now, .int .i64 o.next, .slice o.LA o.Ln o.Lc, .slice o.SA o.Sn o.Sc, .slice o.CA o.Cn o.Cc, .slice o.KA o.Kn o.Kc][i]? from F1.out.net.cell)
  have lF1 := F1.out.net.lt
  have fF1 := F1.out.net.free
  obtain ⟨bb, off, hkl, hLA, hbl, x0, x1, x2, x3, x4⟩ := st_at (HL.out.below B1.out) hlt
  have XB := Lib.hid (show Sl u8K w L[k].A L[k].n L[k].c L[k].bs from HL.out.each _ (List.getElem_mem hkl))
  have ex : L[k] = x := by rw [List.getElem?_eq_getElem hkl] at hx; injection hx
  rw [ex] at x0 x1 x2 x3 x4 XB
  clear ex hx
  subst hLA
  have xcap := XB.out.cap
  have xmax := XB.out.max
  by_cases g1 : 100 < x.n
  · have dg10 : decide (100 < x.n) = true := decide_eq_true (by omega)
    have dg11 : decide ((100 : Int) < (x.n : Int)) = true := decide_eq_true (by omega)
    go_wp2_with fail
    exact WR.mk (by kernel_rfl) (Lib.hid (B1.out.alloc B1.out.size _))
  have dg10 : decide (100 < x.n) = false := decide_eq_false (by omega)
  have dg11 : decide ((100 : Int) < (x.n : Int)) = false := decide_eq_false (by omega)
  by_cases g2 : x.d < 0
  · have dg20 : decide (x.d < 0) = true := decide_eq_true (by omega)
    go_wp2_with fail
    exact WR.mk (by kernel_rfl) (Lib.hid (B1.out.alloc B1.out.size _))
  have dg20 : decide (x.d < 0) = false := decide_eq_false (by omega)
  have g3 : 1000 < x.d := by omega
  have dg30 : decide (1000 < x.d) = true := decide_eq_true (by omega)
  go_wp2_with fail
  exact WR.mk (by kernel_rfl) (Lib.hid (B1.out.alloc B1.out.size _))
set_option maxHeartbeats 16000000 in
set_option maxRecDepth 100000 in
theorem fairtx (c : Nat → Value) (g : Nat) (SA : Option Addr) (Sn Sc : Nat) (LA : Option Addr) (Ln Lc : Nat) (f : Nat → Value) (v8 : Value) (S : List Sp) (L : List St) (w : World) (_HS : Hid (Sl spK w SA Sn Sc S)) (HL : Hid (Sl stK w LA Ln Lc L)) (LS : Hid (S.length ≤ 20)) (SN : Hid (S.length = Sn)) (p3 : Ln ≤ 40) (k : Nat) (o : Nt) (Wn Cm : Rw) (wr : World) (hw2 : Wn.n ≤ 2 * k) (B1 : Hid (Below w.heap.size w wr)) (F1 : Hid (FS w.heap.size g wr o Wn Cm)) (FA1 : Hid (Fair S k o.val (Wn.l.map Mg.val) (Cm.l.map Mg.val))) (hk : k = Ln) (K : Act → World → Prop) (Q0 : Exit → Act → World → Prop) (hX : ∀ a' w', WI c g SA Sn Sc LA Ln Lc S w Ln a' w' → Q0 (.exit 0) a' w') : Code.wp Try.prog fbody (Exit.then K Q0) (fr c g SA Sn Sc LA Ln Lc f v8 (.slice Wn.A Wn.n Wn.c) (.slice Cm.A Cm.n Cm.c) (.int .i64 k)) wr := by
  subst hk
  obtain ⟨i0, hi0, hz0, hs0, hb0⟩ := info_parts inf40
  have ZN := Lib.hid zero_nb
  have sn20 : Sn ≤ 20 := by have h1 := SN.out; have h2 := LS.out; omega
  unfold fr
  conv => arg 2; whnf
  have cF1 := (show ∀ i, World.cell? _ ⟨_, i, none⟩ = #[.int .i64 o.now, .int .i64 o.next, .slice o.LA o.Ln o.Lc, .slice o.SA o.Sn o.Sc, .slice o.CA o.Cn o.Cc, .slice o.KA o.Kn o.Kc][i]? from F1.out.net.cell)
  have lF1 := F1.out.net.lt
  have fF1 := F1.out.net.free
  go_wp2_with fail
  exact WI.mk o Wn Cm (by kernel_rfl) (Nat.le_refl _) hw2 B1 F1 FA1

end Go.Proofs.Ytmlgahambecamaa

namespace Go.Proofs.Ytmlgahambecamaa
open Go.RowKit Go.Shelf

set_option maxHeartbeats 16000000 in
set_option maxRecDepth 100000 in
theorem fair_round (c : Nat → Value) (g : Nat) (SA : Option Addr) (Sn Sc : Nat) (LA : Option Addr) (Ln Lc : Nat) (f : Nat → Value) (v8 : Value) (S : List Sp) (L : List St) (w : World) (HS : Hid (Sl spK w SA Sn Sc S)) (HL : Hid (Sl stK w LA Ln Lc L)) (LS : Hid (S.length ≤ 20)) (SN : Hid (S.length = Sn)) (p3 : Ln ≤ 40) (k : Nat) (o : Nt) (Wn Cm : Rw) (wr : World) (hw2 : Wn.n ≤ 2 * k) (B1 : Hid (Below w.heap.size w wr)) (F1 : Hid (FS w.heap.size g wr o Wn Cm)) (FA1 : Hid (Fair S k o.val (Wn.l.map Mg.val) (Cm.l.map Mg.val))) (hk : k ≤ Ln) (K : Act → World → Prop) (Q0 : Exit → Act → World → Prop) (hK : ∀ a' w', WI c g SA Sn Sc LA Ln Lc S w (k + 1) a' w' → K a' w') (hX : ∀ a' w', WI c g SA Sn Sc LA Ln Lc S w Ln a' w' → Q0 (.exit 0) a' w') (hR : ∀ a' w', WR c g SA Sn Sc LA Ln Lc S w a' w' → Q0 .ret a' w') : Code.wp Try.prog fbody (Exit.then K Q0) (fr c g SA Sn Sc LA Ln Lc f v8 (.slice Wn.A Wn.n Wn.c) (.slice Cm.A Cm.n Cm.c) (.int .i64 k)) wr := by
  by_cases hlt : k < Ln
  · obtain ⟨x, hx⟩ : ∃ x, L[k]? = some x := ⟨_, List.getElem?_eq_getElem (by have := HL.out.len; omega)⟩
    by_cases hg : 100 < x.n ∨ x.d < 0 ∨ 1000 < x.d
    · exact fairtr c g SA Sn Sc LA Ln Lc f v8 S L w HS HL LS SN p3 k o Wn Cm wr hw2 B1 F1 FA1 hlt x hx hg K Q0 hR
    · have g1 : ¬ 100 < x.n := fun h => hg (.inl h)
      have g2 : ¬ x.d < 0 := fun h => hg (.inr (.inl h))
      have g3 : ¬ 1000 < x.d := fun h => hg (.inr (.inr h))
      by_cases z0 : x.kind = 0
      · exact fairts c g SA Sn Sc LA Ln Lc f v8 S L w HS HL LS SN p3 k o Wn Cm wr hw2 B1 F1 FA1 hlt x hx g1 g2 g3 (Lib.hid z0) K Q0 hK
      by_cases z1 : x.kind = 1
      · exact fairtt c g SA Sn Sc LA Ln Lc f v8 S L w HS HL LS SN p3 k o Wn Cm wr hw2 B1 F1 FA1 hlt x hx g1 g2 g3 (Lib.hid z1) K Q0 hK
      by_cases z2 : x.kind = 2
      · exact fairtc c g SA Sn Sc LA Ln Lc f v8 S L w HS HL LS SN p3 k o Wn Cm wr hw2 B1 F1 FA1 hlt x hx g1 g2 g3 (Lib.hid z2) K Q0 hK
      exact fairth c g SA Sn Sc LA Ln Lc f v8 S L w HS HL LS SN p3 k o Wn Cm wr hw2 B1 F1 FA1 hlt x hx g1 g2 g3 z0 z1 z2 K Q0 hK
  · exact fairtx c g SA Sn Sc LA Ln Lc f v8 S L w HS HL LS SN p3 k o Wn Cm wr hw2 B1 F1 FA1 (Nat.le_antisymm hk (Nat.le_of_not_lt hlt)) K Q0 hX
theorem fair_loop {c : Nat → Value} {g : Nat} {SA : Option Addr} {Sn Sc : Nat} {LA : Option Addr} {Ln Lc : Nat} {f : Nat → Value} {v8 : Value} (S : List Sp) (L : List St) (w : World) (HS : Hid (Sl spK w SA Sn Sc S)) (HL : Hid (Sl stK w LA Ln Lc L)) (LS : Hid (S.length ≤ 20)) (SN : Hid (S.length = Sn)) (p3 : Ln ≤ 40) {o : Nt} {wr : World} {Q0 : Exit → Act → World → Prop} (B1 : Hid (Below w.heap.size w wr)) (F1 : Hid (FS w.heap.size g wr o ⟨none, 0, 0, []⟩ ⟨none, 0, 0, []⟩)) (FA1 : Hid (Fair S 0 o.val [] []))
    (hX : ∀ a' w', WI c g SA Sn Sc LA Ln Lc S w Ln a' w' → Q0 (.exit 0) a' w') (hR : ∀ a' w', WR c g SA Sn Sc LA Ln Lc S w a' w' → Q0 .ret a' w') : Code.wp Try.prog (Code.loop fbody) Q0 (fr c g SA Sn Sc LA Ln Lc f v8 (.slice none 0 0) (.slice none 0 0) (.int .i64 0)) wr := by
  refine wp_loop_ghost (fun n a w' => ∃ k, Ln - k ≤ n ∧ k ≤ Ln ∧ WI c g SA Sn Sc LA Ln Lc S w k a w') Ln ⟨0, by omega, Nat.zero_le _, f, v8, o, ⟨none, 0, 0, []⟩, ⟨none, 0, 0, []⟩, rfl, Nat.zero_le _, Nat.zero_le _, B1, F1, FA1⟩ ?_
  rintro n a w' ⟨k, hn, hk, f, v8, o, Wn, Cm, rfl, _, h2, h3, h4, h5⟩
  by_cases hlt : k < Ln
  · exact fair_round c g SA Sn Sc LA Ln Lc f v8 S L w HS HL LS SN p3 k o Wn Cm w' h2 h3 h4 h5 hk _ Q0 (fun a' w'' h => ⟨n - 1, by omega, k + 1, by omega, by omega, h⟩) hX hR
  · exact fairtx c g SA Sn Sc LA Ln Lc f v8 S L w HS HL LS SN p3 k o Wn Cm w' h2 h3 h4 h5 (Nat.le_antisymm hk (Nat.le_of_not_lt hlt)) _ Q0 hX
theorem fair_loop_at {a : Act} {cd : Code} {g : Nat} {SA : Option Addr} {Sn Sc : Nat} {LA : Option Addr} {Ln Lc : Nat} (S : List Sp) (L : List St) (w : World) (HS : Hid (Sl spK w SA Sn Sc S)) (HL : Hid (Sl stK w LA Ln Lc L)) (LS : Hid (S.length ≤ 20)) (SN : Hid (S.length = Sn)) (p3 : Ln ≤ 40) {o : Nt} {wr : World} {Q0 : Exit → Act → World → Prop} (B1 : Hid (Below w.heap.size w wr)) (F1 : Hid (FS w.heap.size g wr o ⟨none, 0, 0, []⟩ ⟨none, 0, 0, []⟩)) (FA1 : Hid (Fair S 0 o.val [] []))
    (ha : a = fr (nth a.tmps.toList) g SA Sn Sc LA Ln Lc (nth a.tmps.toList) (nth a.tmps.toList 8) (.slice none 0 0) (.slice none 0 0) (.int .i64 0)) (hc : cd = Code.loop fbody)
    (hX : ∀ c a' w', WI c g SA Sn Sc LA Ln Lc S w Ln a' w' → Q0 (.exit 0) a' w') (hR : ∀ c a' w', WR c g SA Sn Sc LA Ln Lc S w a' w' → Q0 .ret a' w') : Code.wp Try.prog cd Q0 a wr := by
  rw [ha, hc]
  exact fair_loop S L w HS HL LS SN p3 B1 F1 FA1 (hX _) (hR _)

end Go.Proofs.Ytmlgahambecamaa
