/- Steps that come in, opened. NetFair: whatever is sent, cut and healed, each message comes once, with its bytes, when it takes that long, if its way was open and it has no slip; else as its slip says. NetFair: for a number, slips, how far the clocks are ahead, and steps the law answers true, and each argument reads as it did. No condition. -/
import Derived.Test.YtmlgahambecamaaFrame
import Derived.Test.YtmlgahambecamaaFairA
import Derived.Test.YtmlgahambecamaaFairB
namespace Go.Proofs.Ytmlgahambecamaa
open Go.ChangeShapes Go.WideShapes Go.ChangeAt Go.RowKit

theorem c52 : Try.prog.cellsOf 52 = 5 := by kernel_rfl
section
variable {H : Type} {enc : TypeId × Value → H}

set_option maxRecDepth 100000 in
theorem opens_st : Opens enc Try.prog stK 52 := by
  intro w base spare held fuel cs d ps h hw
  obtain ⟨hlen, n, hf⟩ := open_field Try.underlying52 h hw
  have hl : cs.length = 5 := hlen.trans c52
  match cs, hl with
  | [a, b, c, e, f], _ =>
    obtain ⟨d0, p0, g0, w0⟩ := hf 0 _ rfl
    obtain ⟨d1, p1, g1, w1⟩ := hf 1 _ rfl
    obtain ⟨d2, p2, g2, w2⟩ := hf 2 _ rfl
    obtain ⟨d3, p3, g3, w3⟩ := hf 3 _ rfl
    obtain ⟨d4, p4, g4, w4⟩ := hf 4 _ rfl
    replace g0 : DataW.trod enc Try.prog w base spare held n 3 (List.take (Try.prog.cellsOf 3) [a, b, c, e, f]) = some (d0, p0) := g0
    rw [c3] at g0
    replace g1 : DataW.trod enc Try.prog w base spare held n 3 (List.take (Try.prog.cellsOf 3) [b, c, e, f]) = some (d1, p1) := g1
    rw [c3] at g1
    replace g2 : DataW.trod enc Try.prog w base spare held n 3 (List.take (Try.prog.cellsOf 3) [c, e, f]) = some (d2, p2) := g2
    rw [c3] at g2
    replace g3 : DataW.trod enc Try.prog w base spare held n 3 (List.take (Try.prog.cellsOf 3) [e, f]) = some (d3, p3) := g3
    rw [c3] at g3
    replace g4 : DataW.trod enc Try.prog w base spare held n 36 (List.take (Try.prog.cellsOf 36) [f]) = some (d4, p4) := g4
    rw [c36] at g4
    obtain ⟨x0, k0, _, h0⟩ := DataW.trod_int Try.underlying3 g0
    simp at k0
    obtain ⟨x1, k1, _, h1⟩ := DataW.trod_int Try.underlying3 g1
    simp at k1
    obtain ⟨x2, k2, _, h2⟩ := DataW.trod_int Try.underlying3 g2
    simp at k2
    obtain ⟨x3, k3, _, h3⟩ := DataW.trod_int Try.underlying3 g3
    simp at k3
    obtain ⟨A, m, k, l, k4, hsl, _⟩ := opens_slice (opens_u8 Try.underlying5) Try.underlying36 c5 g4 w4
    exact ⟨⟨x0, x1, x2, x3, A, m, k, l⟩, by rw [k0, k1, k2, k3, k4]; rfl, hsl⟩
end
section
variable {H : Type} {enc : TypeId × Value → H}
variable {w : World} {base : Nat} {spare : Nat → Bool} {held : Bool} {r : Reach} {b0 : Nat} {v : Value} {d : DataW H} {p : List MemPlace}
set_option maxRecDepth 100000 in
theorem open_steps (hv : Value.okWide Try.prog w r b0 50 v) (h : DataW.Trod enc Try.prog w base spare held 50 v d p) (hw : ∀ n ∈ d.weights Try.prog 50, n ≤ reachBytes) : ∃ A n c l, v = .slice A n c ∧ Sl stK w A n c l := by
  obtain ⟨A, n, c, rfl⟩ := okWide_slice Try.underlying50 hv
  obtain ⟨fuel, hf⟩ := h
  obtain ⟨A', n', c', l, e, hsl, hm⟩ := opens_slice opens_st Try.underlying50 c52 hf hw
  injection e with e1 e2 e3
  subst e1 e2 e3
  exact ⟨A, n, c, l, rfl, hsl⟩
end

end Go.Proofs.Ytmlgahambecamaa

namespace Go.Proofs.Ytmlgahambecamaa
open Go.RowKit Go.Shelf

set_option maxHeartbeats 16000000 in
set_option maxRecDepth 100000 in
theorem lfair_any (m : Int) (SA : Option Addr) (Sn Sc : Nat) (S : List Sp) (KA : Option Addr) (Kn Kc : Nat) (K : List Int) (LA : Option Addr) (Ln Lc : Nat) (L : List St) (w : World) (hs : Sl spK w SA Sn Sc S) (hk : Sl intK w KA Kn Kc K) (hl : Sl stK w LA Ln Lc L) : Calls Try.prog 8 #[.int .i64 m, .slice SA Sn Sc, .slice KA Kn Kc, .slice LA Ln Lc] w fun e w' => e = .returned (.bool true) ∧ Below w.heap.size w w' := by
  obtain ⟨i0, hi0, hz0, hs0, hb0⟩ := info_parts inf40
  have h1 := hs.cap
  have h2 := hs.max
  have h3 := hk.cap
  have h4 := hk.max
  have h5 := hl.cap
  have h6 := hl.max
  have HS := Lib.hid hs
  have HK := Lib.hid hk
  have HL := Lib.hid hl
  have SN := Lib.hid hs.len
  have ZN := Lib.hid zero_nb
  have B0 := Lib.hid (Below.refl w.heap.size w)
  have LV := Lib.hid live_any
  have NW := Lib.hid new_any
  clear hs hk hl
  go_enter Try.func8, Try.ntmps8
  go_wp2_with fail
  refine (LV.out _).mono ?_
  intro e w1 hx
  obtain ⟨rfl, hb⟩ := hx
  have B1 := Lib.hid (below_from hb B0.out B0.out.size)
  clear hb
  by_cases p1 : 20 < Sn
  · have d1 : decide ((20 : Int) < (Sn : Int)) = true := decide_eq_true (by omega)
    have d2 : decide (20 < Sn) = true := decide_eq_true p1
    go_wp2_with fail
    go_ret
    exact ⟨rfl, B1.out⟩
  have dp11 : decide ((20 : Int) < (Sn : Int)) = false := decide_eq_false (by omega)
  have dp12 : decide (20 < Sn) = false := decide_eq_false p1
  by_cases p2 : 20 < Kn
  · have d1 : decide ((20 : Int) < (Kn : Int)) = true := decide_eq_true (by omega)
    have d2 : decide (20 < Kn) = true := decide_eq_true p2
    go_wp2_with fail
    go_ret
    exact ⟨rfl, B1.out⟩
  have dp21 : decide ((20 : Int) < (Kn : Int)) = false := decide_eq_false (by omega)
  have dp22 : decide (20 < Kn) = false := decide_eq_false p2
  by_cases p3 : 40 < Ln
  · have d1 : decide ((40 : Int) < (Ln : Int)) = true := decide_eq_true (by omega)
    have d2 : decide (40 < Ln) = true := decide_eq_true p3
    go_wp2_with fail
    go_ret
    exact ⟨rfl, B1.out⟩
  have dp31 : decide ((40 : Int) < (Ln : Int)) = false := decide_eq_false (by omega)
  have dp32 : decide (40 < Ln) = false := decide_eq_false p3
  have LS := Lib.hid (show S.length ≤ 20 from by have := SN.out; omega)
  go_wp2_with fail
  rcases newV_cases m S K with ev | ⟨V, ev⟩
  · skip
    have EV := Lib.hid ev
    clear ev
    refine (net_whole (V := noV) (c := 1) (NW.out m SA Sn Sc S KA Kn Kc K _ (HS.out.below B1.out) (HK.out.below B1.out) (by omega) (by omega)) EV.out).mono ?_
    intro e w3 hx
    obtain ⟨o, rfl, hv, ho, hb⟩ := hx
    have bk2 := hb.alloc hb.size (.cells #[.int .i64 o.now, .int .i64 o.next, .slice o.LA o.Ln o.Lc, .slice o.SA o.Sn o.Sc, .slice o.CA o.Cn o.Cc, .slice o.KA o.Kn o.Kc] 27)
    have B2 := Lib.hid (below_from bk2 B1.out B1.out.size)
    have SAM := Lib.hid (same_at (w := w3.alloc (.cells #[.int .i64 o.now, .int .i64 o.next, .slice o.LA o.Ln o.Lc, .slice o.SA o.Sn o.Sc, .slice o.CA o.Cn o.Cc, .slice o.KA o.Kn o.Kc] 27)) ⟨(ho.kept (below_alloc1 w3 (.cells #[.int .i64 o.now, .int .i64 o.next, .slice o.LA o.Ln o.Lc, .slice o.SA o.Sn o.Sc, .slice o.CA o.Cn o.Cc, .slice o.KA o.Kn o.Kc] 27))).at_, hv⟩ (show Nt.Is _ noN noV from ⟨noN_at _, rfl⟩))
    have S2 := Has.newAt w3 #[.int .i64 o.now, .int .i64 o.next, .slice o.LA o.Ln o.Lc, .slice o.SA o.Sn o.Sc, .slice o.CA o.Cn o.Cc, .slice o.KA o.Kn o.Kc] 27 (g := w3.heap.size) rfl
    have cS := S2.cell
    have lS := S2.lt
    clear S2 bk2 hb hv ho
    go_wp2_with fail
    refine (SAM.out).mono ?_
    intro e w4 hx
    obtain ⟨rfl, hb⟩ := hx
    have B3 := Lib.hid (below_from hb B2.out B2.out.size)
    clear hb
    go_wp2_with fail
    go_ret
    exact ⟨rfl, B3.out⟩
  · skip
    have EV := Lib.hid ev
    have FA0 := Lib.hid (Fair.start ev)
    clear ev
    refine (net_whole (V := V) (c := 0) (NW.out m SA Sn Sc S KA Kn Kc K _ (HS.out.below B1.out) (HK.out.below B1.out) (by omega) (by omega)) EV.out).mono ?_
    intro e w3 hx
    obtain ⟨o0, rfl, hv, ho, hb⟩ := hx
    subst hv
    have bk2 := hb.alloc hb.size (.cells #[.int .i64 o0.now, .int .i64 o0.next, .slice o0.LA o0.Ln o0.Lc, .slice o0.SA o0.Sn o0.Sc, .slice o0.CA o0.Cn o0.Cc, .slice o0.KA o0.Kn o0.Kc] 27)
    have B2 := Lib.hid (below_from bk2 B1.out B1.out.size)
    have F2 := Lib.hid (FS.start (ho.base B1.out.size) (Nat.le_trans B1.out.size hb.size))
    clear bk2 hb ho EV
    go_wp2_with fail
    obtain ⟨g, hg⟩ : ∃ g, g = w3.heap.size := ⟨_, rfl⟩
    obtain ⟨W4, hW4⟩ : ∃ W, W = w3.alloc (.cells #[.int .i64 o0.now, .int .i64 o0.next, .slice o0.LA o0.Ln o0.Lc, .slice o0.SA o0.Sn o0.Sc, .slice o0.CA o0.Cn o0.Cc, .slice o0.KA o0.Kn o0.Kc] 27) := ⟨_, rfl⟩
    rw [← hW4] at B2
    rw [← hW4, ← hg] at F2
    rw [← hW4, ← hg]
    clear hW4 hg
    refine fair_loop_at S L w HS HL LS SN (by omega) (o := o0) B2 F2 FA0 (by kernel_rfl) (by kernel_rfl) ?_ ?_
    · intro c a' wr hX
      obtain ⟨f, v8, o, Wn, Cm, rfl, hkk, hw2, B1, F1, FA1⟩ := hX
      unfold fr
      clear FA0 F2 B2 hkk
      have p3' : Ln ≤ 40 := by omega
      have E := FA1.out.count
      rw [F1.out.come.own.1, F1.out.own.at_.l.len, F1.out.want.own.1] at E
      have EH := Lib.hid E
      clear E
      have cF1 := (show ∀ i, World.cell? _ ⟨_, i, none⟩ = #[.int .i64 o.now, .int .i64 o.next, .slice o.LA o.Ln o.Lc, .slice o.SA o.Sn o.Sc, .slice o.CA o.Cn o.Cc, .slice o.KA o.Kn o.Kc][i]? from F1.out.net.cell)
      have lF1 := F1.out.net.lt
      have fF1 := F1.out.net.free
      have cmle := Nat.le_of_eq EH.out
      have olc := F1.out.own.at_.l.cap
      have olm := F1.out.own.at_.l.max
      go_wp2_with (at_builtin; refine wpList_sl_sort (K := mgK) (S := NB) _ rfl _ _ 22 rfl w.heap.size 40 i0 _ 56 Try.underlying22 hi0 hz0 hs0 hb0 rfl Cm.A Cm.n Cm.c Cm.l rfl F1.out.come.own o.LA o.Ln o.Lc o.L rfl F1.out.own.at_.l ?q63 ?qby B1.out.size F1.out.come.sort mg_nb ZN.out ?_)
      case q63 => unfold maxLen; omega
      case qby => omega
      intro A7 c7 w7 ho hg hq hv
      rw [EH.out] at ho hq hv
      rw [EH.out]
      have b7 := grown_below hg B1.out.size (fun q e => (F1.out.come.own.2.lt q e).1)
      have B2 := Lib.hid (B1.out.trans b7)
      have f2 := F1.out.comes ho hg hq (fun m hm => F1.out.own.at_.l.each m hm) hv
      have CS := Lib.hid f2.come.sl
      have WS := Lib.hid f2.want.sl
      have wcap := f2.want.sl.cap
      have wmax := f2.want.sl.max
      have ccap := f2.come.sl.cap
      have cmax := f2.come.sl.max
      clear cmle olc olm cF1 lF1 fF1 ho hg hq hv b7 f2
      have SM := Lib.hid msgs_any
      have CNT := Lib.hid (fun m => FA1.out.same (o := o) m CS.out.len WS.out.len)
      generalize Cm.l ++ o.L = CL at *
      generalize Wn.l = WL at *
      go_wp2_with fail
      go_loopg [265] Wn.n (fun gg s wr => ∃ i : Nat, i ≤ Wn.n ∧ Wn.n - i ≤ gg ∧ s = .int .i64 i ∧ Hid (Below w7.heap.size w7 wr))
      case atStart => exact ⟨0, Nat.zero_le _, by omega, rfl, Lib.hid (Below.refl _ _)⟩
      case round =>
        obtain ⟨i, hi, hig, rfl, BI⟩ := hrel
        by_cases his : i < Wn.n
        · skip
          obtain ⟨b2, off2, hil, hA2, hbl2, y0, y1, y2, y3, y4⟩ := mg_at (WS.out.below BI.out) his
          have MI := WS.out.each _ (List.getElem_mem hil)
          have CN := CNT.out WL[i]
          have ML := Lib.hid (show Mg.In w7 WL[i] from MI)
          have CNH := Lib.hid CN
          clear MI CN
          generalize WL[i] = m at *
          have BM := Lib.hid (BI.out.alloc BI.out.size (.cells #[.int .i64 m.t, .int .i64 m.no, .int .i64 m.frm, .int .i64 m.dst, .slice m.A m.n m.c] 40))
          have XM := Lib.hid (Has.newAt wr #[.int .i64 m.t, .int .i64 m.no, .int .i64 m.frm, .int .i64 m.dst, .slice m.A m.n m.c] 40 (g := wr.heap.size) rfl)
          obtain ⟨g32, hg32⟩ : ∃ g, g = wr.heap.size := ⟨_, rfl⟩
          obtain ⟨W10, hW10⟩ : ∃ W, W = wr.alloc (.cells #[.int .i64 m.t, .int .i64 m.no, .int .i64 m.frm, .int .i64 m.dst, .slice m.A m.n m.c] 40) := ⟨_, rfl⟩
          go_upto_region 62 with (fail)
          rw [← hW10, ← hg32] at XM
          rw [← hW10] at BM
          rw [← hW10, ← hg32]
          clear hW10 hg32 y0 y1 y2 y3 y4 hA2
          go_wp2_with fail
          go_loopg [33, 271] Wn.n (fun gg sc s wr => ∃ j : Nat, j ≤ Wn.n ∧ Wn.n - j ≤ gg ∧ s = .int .i64 j ∧ sc = .int .i64 (cntM CL m j : Nat) ∧ Hid (Below W10.heap.size W10 wr))
          case atStart => exact ⟨0, Nat.zero_le _, by omega, rfl, rfl, Lib.hid (Below.refl _ _)⟩
          case round =>
            obtain ⟨j, hj, hjg, rfl, rfl, BJ⟩ := hrel
            by_cases hjs : j < Wn.n
            · skip
              have BB := below_from BJ.out BM.out BM.out.size
              obtain ⟨b3, off3, hjl, hA3, hbl3, z0, z1, z2, z3, z4⟩ := mg_at (CS.out.below BB) hjs
              have MY := CS.out.each _ (List.getElem_mem hjl)
              have CT := cntM_step CL m hjl
              have CLE := cntM_le CL m j
              have MYH := Lib.hid (show Mg.In w7 CL[j] from MY)
              have CTH := Lib.hid CT
              clear MY CT
              generalize CL[j] = y at *
              have xm := XM.out.past BJ.out
              have xmc := xm.cell
              have xml := xm.lt
              obtain ⟨q, hq⟩ : ∃ q, decide ([y].map Mg.val = [m].map Mg.val) = q := ⟨_, rfl⟩
              have CTQ := Lib.hid (show cntM CL m (j + 1) = cntM CL m j + (if q = true then 1 else 0) from by rw [← hq]; exact CTH.out)
              have b1 := below_alloc1 wr (.cells #[.int .i64 y.t, .int .i64 y.no, .int .i64 y.frm, .int .i64 y.dst, .slice y.A y.n y.c] 40)
              have b2 := b1.alloc b1.size (.cells #[.int .i64 y.t, .int .i64 y.no, .int .i64 y.frm, .int .i64 y.dst, .slice y.A y.n y.c] 40)
              have b3 := b2.alloc b2.size (.cells #[.int .i64 m.t, .int .i64 m.no, .int .i64 m.frm, .int .i64 m.dst, .slice m.A m.n m.c] 40)
              have ry := mg_row (x := y) ((Has.newAt (wr.alloc (.cells #[.int .i64 y.t, .int .i64 y.no, .int .i64 y.frm, .int .i64 y.dst, .slice y.A y.n y.c] 40)) #[.int .i64 y.t, .int .i64 y.no, .int .i64 y.frm, .int .i64 y.dst, .slice y.A y.n y.c] 40 (g := wr.heap.size + 1) (by simp)).alloc (.cells #[.int .i64 m.t, .int .i64 m.no, .int .i64 m.frm, .int .i64 m.dst, .slice m.A m.n m.c] 40)) (Sl.below MYH.out (below_from b3 BB BB.size))
              have rm := mg_row (x := m) (Has.newAt ((wr.alloc (.cells #[.int .i64 y.t, .int .i64 y.no, .int .i64 y.frm, .int .i64 y.dst, .slice y.A y.n y.c] 40)).alloc (.cells #[.int .i64 y.t, .int .i64 y.no, .int .i64 y.frm, .int .i64 y.dst, .slice y.A y.n y.c] 40)) #[.int .i64 m.t, .int .i64 m.no, .int .i64 m.frm, .int .i64 m.dst, .slice m.A m.n m.c] 40 (g := wr.heap.size + 1 + 1) (by simp)) (Sl.below ML.out (below_from b3 BB BB.size))
              have SMA := SM.out _ _ _ _ _ _ _ _ _ ry rm
              rw [hq] at SMA
              have SMH := Lib.hid SMA
              have BY := Lib.hid (below_from b3 BJ.out BJ.out.size)
              have x1 := xm.alloc (.cells #[.int .i64 y.t, .int .i64 y.no, .int .i64 y.frm, .int .i64 y.dst, .slice y.A y.n y.c] 40)
              have x1c := x1.cell
              have x1l := x1.lt
              have x2 := x1.alloc (.cells #[.int .i64 y.t, .int .i64 y.no, .int .i64 y.frm, .int .i64 y.dst, .slice y.A y.n y.c] 40)
              have x2c := x2.cell
              have x2l := x2.lt
              generalize cntM CL m j = cc at *
              have ccs : cc + 1 ≤ 9223372036854775807 := by omega
              clear SMA hq ry rm b1 b2 b3 BB xm x1 x2 CLE CTH
              cases q with
              | false =>
                go_wp2_with fail
                refine (SMH.out).mono ?_
                intro e w9 hx
                obtain ⟨rfl, hb⟩ := hx
                have BZ := Lib.hid (below_from hb BY.out BY.out.size)
                clear hb
                go_wp2_with fail
                rw [← hA3]
                go_roundg (Wn.n - (j + 1))
                case measure => omega
                case rel => exact ⟨j + 1, by omega, by omega, by go_num, by rw [CTQ.out]; rfl, BZ⟩
              | true =>
                go_wp2_with fail
                refine (SMH.out).mono ?_
                intro e w9 hx
                obtain ⟨rfl, hb⟩ := hx
                have BZ := Lib.hid (below_from hb BY.out BY.out.size)
                clear hb
                go_wp2_with fail
                rw [← hA3]
                go_roundg (Wn.n - (j + 1))
                case measure => omega
                case rel => exact ⟨j + 1, by omega, by omega, by go_num, by rw [CTQ.out]; go_num, BZ⟩
            · skip
              have ejn : j = Wn.n := by omega
              rw [ejn]
              clear ejn hj hjg hjs j
              obtain ⟨n1, hn1⟩ : ∃ n, cntM CL m Wn.n = n := ⟨_, rfl⟩
              rw [hn1]
              have CN2 := Lib.hid (show cntM WL m Wn.n = n1 from by rw [← hn1]; exact CNH.out.symm)
              clear hn1
              go_wp2_with fail
              go_loopg [34, 285] Wn.n (fun gg sc s wr => ∃ j : Nat, j ≤ Wn.n ∧ Wn.n - j ≤ gg ∧ s = .int .i64 j ∧ sc = .int .i64 (cntM WL m j : Nat) ∧ Hid (Below W10.heap.size W10 wr))
              case atStart => exact ⟨0, Nat.zero_le _, by omega, rfl, rfl, BJ⟩
              case round =>
                obtain ⟨j, hj, hjg, rfl, rfl, BK⟩ := hrel
                by_cases hjs : j < Wn.n
                · skip
                  have BB := below_from BK.out BM.out BM.out.size
                  obtain ⟨b3, off3, hjl, hA3, hbl3, z0, z1, z2, z3, z4⟩ := mg_at (WS.out.below BB) hjs
                  have MY := WS.out.each _ (List.getElem_mem hjl)
                  have CT := cntM_step WL m hjl
                  have CLE := cntM_le WL m j
                  have MYH := Lib.hid (show Mg.In w7 WL[j] from MY)
                  have CTH := Lib.hid CT
                  clear MY CT
                  generalize WL[j] = y at *
                  have xm := XM.out.past BK.out
                  have xmc := xm.cell
                  have xml := xm.lt
                  obtain ⟨q, hq⟩ : ∃ q, decide ([y].map Mg.val = [m].map Mg.val) = q := ⟨_, rfl⟩
                  have CTQ := Lib.hid (show cntM WL m (j + 1) = cntM WL m j + (if q = true then 1 else 0) from by rw [← hq]; exact CTH.out)
                  have b1 := below_alloc1 wr (.cells #[.int .i64 y.t, .int .i64 y.no, .int .i64 y.frm, .int .i64 y.dst, .slice y.A y.n y.c] 40)
                  have b2 := b1.alloc b1.size (.cells #[.int .i64 y.t, .int .i64 y.no, .int .i64 y.frm, .int .i64 y.dst, .slice y.A y.n y.c] 40)
                  have b3 := b2.alloc b2.size (.cells #[.int .i64 m.t, .int .i64 m.no, .int .i64 m.frm, .int .i64 m.dst, .slice m.A m.n m.c] 40)
                  have ry := mg_row (x := y) ((Has.newAt (wr.alloc (.cells #[.int .i64 y.t, .int .i64 y.no, .int .i64 y.frm, .int .i64 y.dst, .slice y.A y.n y.c] 40)) #[.int .i64 y.t, .int .i64 y.no, .int .i64 y.frm, .int .i64 y.dst, .slice y.A y.n y.c] 40 (g := wr.heap.size + 1) (by simp)).alloc (.cells #[.int .i64 m.t, .int .i64 m.no, .int .i64 m.frm, .int .i64 m.dst, .slice m.A m.n m.c] 40)) (Sl.below MYH.out (below_from b3 BB BB.size))
                  have rm := mg_row (x := m) (Has.newAt ((wr.alloc (.cells #[.int .i64 y.t, .int .i64 y.no, .int .i64 y.frm, .int .i64 y.dst, .slice y.A y.n y.c] 40)).alloc (.cells #[.int .i64 y.t, .int .i64 y.no, .int .i64 y.frm, .int .i64 y.dst, .slice y.A y.n y.c] 40)) #[.int .i64 m.t, .int .i64 m.no, .int .i64 m.frm, .int .i64 m.dst, .slice m.A m.n m.c] 40 (g := wr.heap.size + 1 + 1) (by simp)) (Sl.below ML.out (below_from b3 BB BB.size))
                  have SMA := SM.out _ _ _ _ _ _ _ _ _ ry rm
                  rw [hq] at SMA
                  have SMH := Lib.hid SMA
                  have BY := Lib.hid (below_from b3 BK.out BK.out.size)
                  have x1 := xm.alloc (.cells #[.int .i64 y.t, .int .i64 y.no, .int .i64 y.frm, .int .i64 y.dst, .slice y.A y.n y.c] 40)
                  have x1c := x1.cell
                  have x1l := x1.lt
                  have x2 := x1.alloc (.cells #[.int .i64 y.t, .int .i64 y.no, .int .i64 y.frm, .int .i64 y.dst, .slice y.A y.n y.c] 40)
                  have x2c := x2.cell
                  have x2l := x2.lt
                  generalize cntM WL m j = cc at *
                  have ccs : cc + 1 ≤ 9223372036854775807 := by omega
                  clear SMA hq ry rm b1 b2 b3 BB xm x1 x2 CLE CTH
                  cases q with
                  | false =>
                    go_wp2_with fail
                    refine (SMH.out).mono ?_
                    intro e w9 hx
                    obtain ⟨rfl, hb⟩ := hx
                    have BZ := Lib.hid (below_from hb BY.out BY.out.size)
                    clear hb
                    go_wp2_with fail
                    rw [← hA3]
                    go_roundg (Wn.n - (j + 1))
                    case measure => omega
                    case rel => exact ⟨j + 1, by omega, by omega, by go_num, by rw [CTQ.out]; rfl, BZ⟩
                  | true =>
                    go_wp2_with fail
                    refine (SMH.out).mono ?_
                    intro e w9 hx
                    obtain ⟨rfl, hb⟩ := hx
                    have BZ := Lib.hid (below_from hb BY.out BY.out.size)
                    clear hb
                    go_wp2_with fail
                    rw [← hA3]
                    go_roundg (Wn.n - (j + 1))
                    case measure => omega
                    case rel => exact ⟨j + 1, by omega, by omega, by go_num, by rw [CTQ.out]; go_num, BZ⟩
                · skip
                  have ejn : j = Wn.n := by omega
                  rw [ejn]
                  clear ejn hj hjg hjs j
                  rw [CN2.out]
                  have BF := Lib.hid (below_from BK.out BM.out BM.out.size)
                  clear BK BJ
                  go_wp2_with fail
                  go_roundg (Wn.n - (i + 1))
                  case measure => omega
                  case rel => exact ⟨i + 1, by omega, by omega, by go_num, BF⟩
        · skip
          go_wp2_with fail
          go_ret
          exact ⟨rfl, below_from BI.out B2.out B2.out.size⟩
    · intro c a' wr hR
      obtain ⟨f, v11, v12, v68, rfl, BR⟩ := hR
      unfold fr
      go_wp2_with fail
      go_ret
      exact ⟨rfl, BR.out⟩

end Go.Proofs.Ytmlgahambecamaa

namespace Go.Proofs.Ytmlgahambecamaa
open Go.ChangeShapes Go.WideShapes Go.ChangeAt Go.RowKit

set_option maxRecDepth 100000 in
theorem netFair_lifted (os : Os) (started : os.Started) (H : Type) (enc : TypeId × Value → H) :
    ReturnsInHanded {} Try.checked os 8 .any (Rows.netFairSpec.pre6 enc Try.prog Try.f8 Rows.netFairRow.domain false) (Rows.netFairSpec.post enc Try.prog Try.f8 false true false false) := by
  refine returnsInHanded_of_change_sized (C := Try.checked) Try.own started (by kernel_rfl) Try.func8
    (ChangeSpec.witness6 (enc := enc) (C := Try.checked) false ⟨#[], #[.int .i64 0, .slice none 0 0, .slice none 0 0, .slice none 0 0], []⟩ 8 (by kernel_rfl) (by kernel_rfl) (by kernel_rfl) (by kernel_rfl)) ?_
  intro W base args ds gs before hval0 hW hcnd hsz _
  have hval : ∀ (j : Nat) t v, Try.f8.params[j]? = some t → args[j]? = some v → Value.okWide Try.prog W .any base t v := hval0
  have hW' := hW
  obtain ⟨p, q, hA0, hV, rfl, hfz, hnd⟩ := hW
  have hA : DataW.TrodAll enc Try.prog W 0 (fun _ => true) true Try.f8.params.toList args.toList ds p := hA0
  rw [Try.params8] at hA hval
  obtain ⟨v0, v1, v2, v3, d0, d1, d2, d3, p0, p1, p2, p3, rfl, rfl, rfl, h0, h1, h2, h3⟩ := trodAll_four hA
  obtain ⟨rfl, rfl⟩ := trodVars_none hV
  have hwt : ∀ (j : Nat) (t : TypeId) (d : DataW H), Try.f8.params.toList[j]? = some t → ([d0, d1, d2, d3] : List (DataW H))[j]? = some d → ∀ n ∈ d.weights Try.prog t, n ≤ reachBytes := fun j t d h1 h2 =>
    weights_param (P := Try.prog) hsz (j := j) (t := t) (d := d) (by rw [List.getElem?_append_left (List.getElem?_eq_some_iff.1 h1).1]; exact h1) (by rw [List.getElem?_append_left (List.getElem?_eq_some_iff.1 h2).1]; exact h2)
  obtain ⟨m0, rfl, wm0⟩ := open_num (hval 0 3 v0 rfl rfl) h0
  obtain ⟨A1, n1, c1, l1, rfl, hl1⟩ := open_slips (hval 1 23 v1 rfl rfl) h1 (hwt 1 23 d1 rfl rfl)
  obtain ⟨A2, n2, c2, l2, rfl, hl2⟩ := open_skew (hval 2 25 v2 rfl rfl) h2 (hwt 2 25 d2 rfl rfl)
  obtain ⟨A3, n3, c3, l3, rfl, hl3⟩ := open_steps (hval 3 50 v3 rfl rfl) h3 (hwt 3 50 d3 rfl rfl)
  refine (lfair_any m0 A1 n1 c1 l1 A2 n2 c2 l2 A3 n3 c3 l3 W hl1 hl2 hl3).mono fun e W' ⟨he, hb⟩ => ?_
  subst he
  exact ⟨_, rfl, law_post Try.laidOut (by kernel_rfl) (by kernel_rfl) Try.underlying4 rfl rfl hW' hb⟩

theorem netFair_holds : Rows.NetFairSaid :=
  OpenClaim.holds_of_wide 8 Try.f8 rfl rfl rfl rfl rfl rfl rfl ⟨rfl, rfl, rfl, rfl, rfl⟩ rfl rfl rfl rfl rfl (by kernel_rfl) Try.func8 (by kernel_rfl)
    (of_decide_eq_true (by kernel_rfl)) (by unfold Func.isWrapper; first | (rw [if_pos (by decide +kernel)]; kernel_rfl) | (rw [if_neg (by decide +kernel)]; exact ⟨rfl, rfl⟩))
    (fun os started H enc _ => netFair_lifted os started H enc)

end Go.Proofs.Ytmlgahambecamaa
