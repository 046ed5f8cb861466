/- Tick, of the program. -/
import Derived.Test.YtmlgahambecamaaTickP
import Derived.Test.YtmlgahambecamaaRes
import Derived.Deep.DeepCutAuto
namespace Go.Proofs.Ytmlgahambecamaa
open Go.RowKit Go.Shelf

set_option maxHeartbeats 16000000 in
set_option maxRecDepth 100000 in
theorem tick_any (o : Nt) (d : Int) (w : World) (ho : Nt.At w o) (hf : o.Few) : Calls Try.prog 21 #[o.v, .int .i64 d] w fun e w' => TickRes w.heap.size (tickV o.val d) e w' ∧ Below w.heap.size w w' := by
  have HO := Lib.hid ho
  have HF := Lib.hid hf
  obtain ⟨W0, hW0⟩ : ∃ W0, W0 = (w.alloc (.cells #[.int .i64 o.now, .int .i64 o.next, .slice o.LA o.Ln o.Lc, .slice o.SA o.Sn o.Sc, .slice o.CA o.Cn o.Cc, .slice o.KA o.Kn o.Kc] 27)).alloc (.cells #[.int .i64 0, .int .i64 0, .slice none 0 0, .slice none 0 0, .slice none 0 0, .slice none 0 0] 27) := ⟨_, rfl⟩
  have B0 := Lib.hid (show Below w.heap.size w W0 from by rw [hW0]; exact ((Below.refl _ w).alloc (Nat.le_refl _) _).alloc (by simp) _)
  have N0 := Lib.hid (show Has W0 w.heap.size #[.int .i64 o.now, .int .i64 o.next, .slice o.LA o.Ln o.Lc, .slice o.SA o.Sn o.Sc, .slice o.CA o.Cn o.Cc, .slice o.KA o.Kn o.Kc] from by rw [hW0]; exact (Has.newAt w #[.int .i64 o.now, .int .i64 o.next, .slice o.LA o.Ln o.Lc, .slice o.SA o.Sn o.Sc, .slice o.CA o.Cn o.Cc, .slice o.KA o.Kn o.Kc] 27 rfl).alloc _)
  have X0 := Lib.hid (show Has W0 (w.heap.size + 1) #[.int .i64 0, .int .i64 0, .slice none 0 0, .slice none 0 0, .slice none 0 0, .slice none 0 0] from by rw [hW0]; exact Has.newAt _ #[.int .i64 0, .int .i64 0, .slice none 0 0, .slice none 0 0, .slice none 0 0, .slice none 0 0] 27 (by simp))
  have CK := Lib.hid (check_any o W0 (ho.below B0.out) (by have := hf.s; omega))
  have HW0 := Lib.hid hW0
  have n0c := N0.out.cell
  have n0l := N0.out.lt
  clear ho hf hW0
  cases hc : checkB o.val with
  | false =>
    rw [checkI_no hc] at CK
    have TV := Lib.hid (tickV_arg (d := d) (.inl hc))
    clear hc
    go_enter Try.func21, Try.ntmps21
    go_upto_region 1 with (fail)
    rw [← HW0.out]
    go_wp2_with (go_at_call 15; refine CK.out.mono ?_; rintro e w1 ⟨rfl, hb⟩; have B1 := Lib.hid (below_from hb B0.out B0.out.size); have N1 := Lib.hid (N0.out.past hb); have X1 := Lib.hid (X0.out.past hb); have c1 := N1.out.cell; have l1 := N1.out.lt; have x1c := X1.out.cell; have x1l := X1.out.lt; have x1f := X1.out.free; clear hb)
    refine bodyPost_ret (v := .tuple #[noN.v, .slice none 0 0, .int .i64 1]) (by simp [results, Try.results21, go_sem, noN, x1c]) rfl ?_
    exact ⟨TickRes.no (TV.out), B1.out.trans (grown_below (setCells_grown (w.heap.size + 1) [.int .i64 0, .int .i64 0, .slice none 0 0, .slice none 0 0, .slice none 0 0, .slice none 0 0] 0 w1) B1.out.size (fun q hq => by injection hq with hq; omega))⟩
  | true =>
  rw [checkI_yes hc] at CK
  have NW : 0 ≤ o.now ∧ o.now ≤ 1099511627776 := chk_now hc
  cases hd : inR d 0 1099511627776 with
  | false =>
    have E1 := Lib.hid hd
    have TV := Lib.hid (tickV_arg (n := o.val) (.inr hd))
    clear hc hd
    go_enter Try.func21, Try.ntmps21
    go_upto_region 1 with (fail)
    rw [← HW0.out]
    go_wp2_with (first | (go_at_call 15; refine CK.out.mono ?_; rintro e w1 ⟨rfl, hb⟩; have B1 := Lib.hid (below_from hb B0.out B0.out.size); have N1 := Lib.hid (N0.out.past hb); have X1 := Lib.hid (X0.out.past hb); have c1 := N1.out.cell; have l1 := N1.out.lt; have x1c := X1.out.cell; have x1l := X1.out.lt; have x1f := X1.out.free; clear hb) | (go_at_call 35; refine (within_any _ _ _ _).mono ?_; rintro e w' ⟨rfl, rfl⟩; rw [E1.out]))
    refine bodyPost_ret (v := .tuple #[noN.v, .slice none 0 0, .int .i64 1]) (by simp [results, Try.results21, go_sem, noN, x1c]) rfl ?_
    exact ⟨TickRes.no (TV.out), B1.out.trans (grown_below (setCells_grown (w.heap.size + 1) [.int .i64 0, .int .i64 0, .slice none 0 0, .slice none 0 0, .slice none 0 0, .slice none 0 0] 0 w1) B1.out.size (fun q hq => by injection hq with hq; omega))⟩
  | true =>
  have E1 := Lib.hid hd
  have DR : 0 ≤ d ∧ d ≤ 1099511627776 := by unfold inR at hd; simpa using hd
  have wr0 : IntKind.i64.wrap (o.now + d) = o.now + d := IntWalk.i64_in _ (by omega)
  by_cases hm : 1099511627776 < o.now + d
  · have dm : decide (1099511627776 < o.now + d) = true := decide_eq_true hm
    have TV := Lib.hid (tickV_bound hc hd hm)
    clear hc hd hm
    go_enter Try.func21, Try.ntmps21
    go_upto_region 1 with (fail)
    rw [← HW0.out]
    go_wp2_with (first | (go_at_call 15; refine CK.out.mono ?_; rintro e w1 ⟨rfl, hb⟩; have B1 := Lib.hid (below_from hb B0.out B0.out.size); have N1 := Lib.hid (N0.out.past hb); have X1 := Lib.hid (X0.out.past hb); have c1 := N1.out.cell; have l1 := N1.out.lt; have x1c := X1.out.cell; have x1l := X1.out.lt; have x1f := X1.out.free; clear hb) | (go_at_call 35; refine (within_any _ _ _ _).mono ?_; rintro e w' ⟨rfl, rfl⟩; rw [E1.out]))
    refine bodyPost_ret (v := .tuple #[noN.v, .slice none 0 0, .int .i64 2]) (by simp [results, Try.results21, go_sem, noN, x1c]) rfl ?_
    exact ⟨TickRes.no (TV.out), B1.out.trans (grown_below (setCells_grown (w.heap.size + 1) [.int .i64 0, .int .i64 0, .slice none 0 0, .slice none 0 0, .slice none 0 0, .slice none 0 0] 0 w1) B1.out.size (fun q hq => by injection hq with hq; omega))⟩
  · have dm : decide (1099511627776 < o.now + d) = false := decide_eq_false hm
    have TY := Lib.hid (fun k hk h4 h5 => tickV_yes hc hd hm (k := k) hk h4 h5)
    clear hc hd
    go_enter Try.func21, Try.ntmps21
    go_upto_region 1 with (fail)
    rw [← HW0.out]
    go_wp2_with (first | (go_at_call 15; refine CK.out.mono ?_; rintro e w1 ⟨rfl, hb⟩; have B1 := Lib.hid (below_from hb B0.out B0.out.size); have N1 := Lib.hid (N0.out.past hb); have X1 := Lib.hid (X0.out.past hb); have c1 := N1.out.cell; have l1 := N1.out.lt; have x1c := X1.out.cell; have x1l := X1.out.lt; have x1f := X1.out.free; clear hb) | (go_at_call 35; refine (within_any _ _ _ _).mono ?_; rintro e w' ⟨rfl, rfl⟩; rw [E1.out]) | (go_at_call 33; refine (own_any o _ (HO.out.below B1.out) HF.out).mono ?_; rintro e w2 ⟨q, rfl, hL, hO, hb⟩; have QL := Lib.hid hL; have QO := Lib.hid hO; have B2 := Lib.hid (below_from hb B1.out B1.out.size); have N2 := Lib.hid (N1.out.past hb); have X2 := Lib.hid (X1.out.past hb); have x2c := X2.out.cell; have x2l := X2.out.lt; have x2f := X2.out.free; have Z12 := Lib.hid (Nat.lt_of_lt_of_le X1.out.lt hb.size); have Z11 := Lib.hid (X1.out.lt); have wr : IntKind.i64.wrap (q.now + d) = q.now + d := (by rw [hL.now]; exact IntWalk.i64_in _ (by omega)); clear hL hO hb))
    obtain ⟨W3, hW3⟩ : ∃ W3, W3 = (((((((w2.setCell ⟨w.heap.size + 1, 0, none⟩ (.int .i64 q.now)).setCell ⟨w.heap.size + 1, 1, none⟩ (.int .i64 q.next)).setCell ⟨w.heap.size + 1, 2, none⟩ (.slice q.LA q.Ln q.Lc)).setCell ⟨w.heap.size + 1, 3, none⟩ (.slice q.SA q.Sn q.Sc)).setCell ⟨w.heap.size + 1, 4, none⟩ (.slice q.CA q.Cn q.Cc)).setCell ⟨w.heap.size + 1, 5, none⟩ (.slice q.KA q.Kn q.Kc)).setCell ⟨w.heap.size + 1, 0, none⟩ (.int .i64 (q.now + d))) := ⟨_, rfl⟩
    rw [← hW3]
    have g1 := setCells_grown (w.heap.size + 1) [.int .i64 q.now, .int .i64 q.next, .slice q.LA q.Ln q.Lc, .slice q.SA q.Sn q.Sc, .slice q.CA q.Cn q.Cc, .slice q.KA q.Kn q.Kc] 0 w2
    have g2 := setCells_grown (w.heap.size + 1) [.int .i64 (q.now + d)] 0 (w2.setCells (w.heap.size + 1) 0 [.int .i64 q.now, .int .i64 q.next, .slice q.LA q.Ln q.Lc, .slice q.SA q.Sn q.Sc, .slice q.CA q.Cn q.Cc, .slice q.KA q.Kn q.Kc])
    have z12 := Z12.out
    have b3a := B2.out.trans (grown_below g1 B2.out.size (fun q hq => by injection hq with hq; omega))
    have B3 := Lib.hid (show Below w.heap.size w W3 from by rw [hW3]; exact b3a.trans (grown_below g2 b3a.size (fun q hq => by injection hq with hq; omega)))
    have X3 := Lib.hid (show Has W3 (w.heap.size + 1) #[.int .i64 (q.now + d), .int .i64 q.next, .slice q.LA q.Ln q.Lc, .slice q.SA q.Sn q.Sc, .slice q.CA q.Cn q.Cc, .slice q.KA q.Kn q.Kc] from by rw [hW3]; exact (X2.out.set [.int .i64 q.now, .int .i64 q.next, .slice q.LA q.Ln q.Lc, .slice q.SA q.Sn q.Sc, .slice q.CA q.Cn q.Cc, .slice q.KA q.Kn q.Kc] rfl).setAt 0 (.int .i64 (q.now + d)) (by simp))
    have IN0 := Lib.hid (fun W (h : Below w.heap.size w W) (a : Mg) (ha : a ∈ q.L) => (show Mg.In W a from mgK.below (HO.out.l.each a (by rw [← QL.out.L]; exact ha)) h))
    have QO3 := Lib.hid (show Nt.Own W3 w1.heap.size q from by rw [hW3]; exact (QO.out.grown g1 (by have := Z11.out; omega) (IN0.out _ b3a)).grown g2 (by have := Z11.out; omega) (IN0.out _ (by rw [hW3] at B3; exact B3.out)))
    have Z23 := Lib.hid (show w2.heap.size ≤ W3.heap.size from by rw [hW3]; exact Nat.le_trans g1.size g2.size)
    have NV : Hid (q.now = o.now) := Lib.hid QL.out.now
    have LNQ : q.Ln ≤ 2000 := by rw [QL.out.Ln]; exact HF.out.l
    have CP := Lib.hid QO3.out.l.sl.cap
    clear g1 g2 b3a hW3 z12 x2c x2l x2f wr
    have IX := Lib.hid (indexM q.LA q.Ln q.Lc q.L W3 54 #[.pointer (some ⟨w.heap.size + 1, 0, none⟩)] (fun _ W => Below W3.heap.size W3 W) (fun j => match q.L[j]? with | some x => decide (q.now + d < x.t) | none => false)
      (enters_of Try.func54 (by kernel_rfl) rfl) (by omega) (Below.refl _ _) (fun _ W hb => QO3.out.l.sl.below hb) (fun j hj W hb => by
        refine (show Calls Try.prog 54 #[(q.L[j]).v, .pointer (some ⟨w.heap.size + 1, 0, none⟩)] W _ from later_any q.L[j] ⟨q.now + d, q.next, q.LA, q.Ln, q.Lc, q.L, q.SA, q.Sn, q.Sc, q.S, q.CA, q.Cn, q.Cc, q.C, q.KA, q.Kn, q.Kc, q.K⟩ (w.heap.size + 1) W (X3.out.past hb)).mono ?_
        rintro e w' ⟨h1, h2⟩
        refine ⟨?_, below_from h2 hb hb.size⟩
        rw [h1, List.getElem?_eq_getElem hj]))
    refine IX.out.mono ?_
    rintro e w4 ⟨r, rfl, hF⟩
    clear IX
    have KK : Hid (∃ k : Nat, k ≤ q.Ln ∧ ((r = -1 ∧ k = q.Ln) ∨ (r = k ∧ k < q.Ln)) ∧ Below W3.heap.size W3 w4 ∧ (∀ j (hj : j < q.L.length), j < k → ¬ q.now + d < q.L[j].t) ∧ (∀ h : k < q.L.length, q.now + d < q.L[k].t)) := Lib.hid (by
      have LQ : q.L.length = q.Ln := QO3.out.l.1
      rcases hF with ⟨rfl, hall, hb⟩ | ⟨k, rfl, hkn, hpk, hbefore, hb⟩
      · refine ⟨q.Ln, Nat.le_refl _, .inl ⟨rfl, rfl⟩, hb, fun j hj hjk => ?_, fun h => by omega⟩
        have := hall j hjk
        simp only [List.getElem?_eq_getElem hj] at this
        exact of_decide_eq_false this
      · refine ⟨k, by omega, .inr ⟨rfl, hkn⟩, hb, fun j hj hjk => ?_, fun h => ?_⟩
        · have := hbefore j hjk
          simp only [List.getElem?_eq_getElem hj] at this
          exact of_decide_eq_false this
        · simp only [List.getElem?_eq_getElem h] at hpk
          exact of_decide_eq_true hpk)
    clear hF
    obtain ⟨k, hk, hr, hb, h4, h5⟩ := KK.out
    clear KK
    have TV := Lib.hid (TY.out k (by show k ≤ (o.L.map Mg.val).length; rw [List.length_map, ← QL.out.L, QO3.out.l.1]; exact hk)
      (fun j hj hjk => by
        have hj' : j < q.L.length := by rw [QL.out.L]; simpa [Nt.val] using hj
        have := h4 j hj' hjk
        rw [NV.out] at this
        have e : (o.val.L[j]'hj).t = q.L[j].t := by simp only [Nt.val, List.getElem_map, Mg.val, QL.out.L]
        rw [e]; exact Int.not_lt.1 this)
      (fun h => by
        have hj' : k < q.L.length := by rw [QL.out.L]; simpa [Nt.val] using h
        have := h5 hj'
        rw [NV.out] at this
        have e : (o.val.L[k]'h).t = q.L[k].t := by simp only [Nt.val, List.getElem_map, Mg.val, QL.out.L]
        rw [e]; exact this))
    have B4 := Lib.hid (below_from hb B3.out B3.out.size)
    have X4 := Lib.hid (X3.out.past hb)
    have QO4 := Lib.hid (QO3.out.kept hb)
    have Z34 := Lib.hid hb.size
    have x4c := X4.out.cell
    have x4l := X4.out.lt
    have x4f := X4.out.free
    clear hb h4 h5 TY B3 X3 QO3
    rcases hr with ⟨rfl, rfl⟩ | ⟨rfl, hkn⟩
    · skip
      by_cases hck : q.Lc = q.Ln
      · have hck2 : (q.Lc = q.Ln) = True := eq_true hck
        replace hck := Lib.hid hck
        have qcap := CP.out
        have qmax := QO4.out.l.sl.max
        have qm1 : ((q.Ln : Nat) : Int) ≤ (q.Ln : Int) := by omega
        have qm2 : ((q.Ln : Nat) : Int) ≤ (q.Lc : Int) := by omega
        have qm3 : (q.Ln : Int) ≤ (q.Lc : Int) := by omega
        have qm4 : (0 : Int) ≤ ((q.Ln : Nat) : Int) := by omega
        have qk : q.Ln ≤ q.Ln := by omega
        have SL1 := Lib.hid ((QO4.out.l.sl).take q.Ln (by omega))
        have SL2 := Lib.hid (show Sl mgK w4 q.LA 0 (q.Lc - q.Ln) (q.L.drop q.Ln) from by have := sl_dropG QO4.out.l.sl q.Ln (by omega); rw [if_pos hck.out, Nat.sub_self] at this; exact this)
        go_wp2_with (go_at_call 55; refine (cloneM _ _ _ _ _ SL1.out (by omega)).mono ?_; rintro e w5 ⟨A5, c5, rfl, hO, hb⟩; have O5 := Lib.hid hO; have B5 := Lib.hid (below_from hb B4.out B4.out.size); have X5 := Lib.hid (X4.out.past hb); have x5c := X5.out.cell; have x5l := X5.out.lt; have QO5 := Lib.hid (QO4.out.kept hb); have SL3 := Lib.hid (SL2.out.below hb); have Z45 := Lib.hid hb.size; clear hb hO x4c x4l x4f)
        clear X4
        go_wp2_with (go_at_call 55; refine (cloneM _ _ _ _ _ SL3.out (by omega)).mono ?_; rintro e w6 ⟨A6, c6, rfl, hO, hb⟩; have O6 := Lib.hid hO; have B6 := Lib.hid (below_from hb B5.out B5.out.size); have X6 := Lib.hid (X5.out.past hb); have x6c := X6.out.cell; have x6l := X6.out.lt; have x6f := X6.out.free; have QO6 := Lib.hid (QO5.out.kept hb); have O56 := Lib.hid (O5.out.kept hb); have Z56 := Lib.hid hb.size; clear hb hO x5c x5l)
        refine bodyPost_ret (v := .tuple #[(⟨q.now + d, q.next, A6, 0, c6, q.L.drop q.Ln, q.SA, q.Sn, q.Sc, q.S, q.CA, q.Cn, q.Cc, q.C, q.KA, q.Kn, q.Kc, q.K⟩ : Nt).v, .slice A5 q.Ln c5, .int .i64 0]) (by simp [results, Try.results21, go_sem, x6c]) rfl ?_
        have G1 := setCells_grown (w.heap.size + 1) [.slice A6 0 c6] 2 w6
        have G2 := setCells_grown (w.heap.size + 1) [.int .i64 (q.now + d), .int .i64 q.next, .slice A6 0 c6, .slice q.SA q.Sn q.Sc, .slice q.CA q.Cn q.Cc, .slice q.KA q.Kn q.Kc] 0 (w6.setCell ⟨w.heap.size + 1, 2, none⟩ (.slice A6 0 c6))
        have BB1 := B6.out.trans (grown_below G1 B6.out.size (fun q hq => by injection hq with hq; omega))
        have BB2 := BB1.trans (grown_below G2 BB1.size (fun q hq => by injection hq with hq; omega))
        have z12 := Z12.out
        have z11 := Z11.out
        have z45 := Z45.out
        have z56 := Z56.out
        have z23 := Z23.out
        have z34 := Z34.out
        have IN1 : ∀ a ∈ q.L, Mg.In _ a := fun a ha => mgK.below (HO.out.l.each a (by rw [← QL.out.L]; exact ha)) BB1
        have IN2 : ∀ a ∈ q.L, Mg.In _ a := fun a ha => mgK.below (HO.out.l.each a (by rw [← QL.out.L]; exact ha)) BB2
        refine ⟨⟨(⟨q.now + d, q.next, A6, 0, c6, q.L.drop q.Ln, q.SA, q.Sn, q.Sc, q.S, q.CA, q.Cn, q.Cc, q.C, q.KA, q.Kn, q.Kc, q.K⟩ : Nt), A5, q.Ln, c5, q.L.take q.Ln, ?_, ?_, ?_, ⟨?_, ?_, ?_, ?_⟩, ?_, ?_⟩, BB2⟩
        · rw [TV.out]
        · rw [TV.out]
          unfold Nt.val
          simp only [QL.out.now, QL.out.next, QL.out.S, QL.out.C, QL.out.K, QL.out.L, List.map_drop]
        · rw [TV.out, QL.out.L, List.map_take]
          rfl
        · exact ((O6.out.grown G1 (by omega) (fun a ha => IN1 a (List.mem_of_mem_drop ha))).grown G2 (by omega) (fun a ha => IN2 a (List.mem_of_mem_drop ha))).base (by omega)
        · exact ((QO6.out.s.grown G1 (by omega) (fun a ha => QO6.out.s.2.2 a ha)).grown G2 (by omega) (fun a ha => QO6.out.s.2.2 a ha)).base (by omega)
        · exact ((QO6.out.c.grown G1 (by omega) (fun a ha => QO6.out.c.2.2 a ha)).grown G2 (by omega) (fun a ha => QO6.out.c.2.2 a ha)).base (by omega)
        · exact ((QO6.out.k.grown G1 (by omega) (fun a ha => QO6.out.k.2.2 a ha)).grown G2 (by omega) (fun a ha => QO6.out.k.2.2 a ha)).base (by omega)
        · exact ((O56.out.grown G1 (by omega) (fun a ha => IN1 a (List.mem_of_mem_take ha))).grown G2 (by omega) (fun a ha => IN2 a (List.mem_of_mem_take ha))).base (by omega)
        · intro b hb1 hb2
          have y1 := (O5.out.2.1.lt b hb1).2
          have y2 := (O6.out.2.1.lt b hb2).1
          omega
      · skip
        have qcap := CP.out
        have qmax := QO4.out.l.sl.max
        have qm1 : ((q.Ln : Nat) : Int) ≤ (q.Ln : Int) := by omega
        have qm2 : ((q.Ln : Nat) : Int) ≤ (q.Lc : Int) := by omega
        have qm3 : (q.Ln : Int) ≤ (q.Lc : Int) := by omega
        have qm4 : (0 : Int) ≤ ((q.Ln : Nat) : Int) := by omega
        have qk : q.Ln ≤ q.Ln := by omega
        have SL1 := Lib.hid ((QO4.out.l.sl).take q.Ln (by omega))
        have SL2 := Lib.hid (show Sl mgK w4 (q.LA.map fun x => x.add (q.Ln * 5)) 0 (q.Lc - q.Ln) (q.L.drop q.Ln) from by have := sl_dropG QO4.out.l.sl q.Ln (by omega); rw [if_neg hck, Nat.sub_self] at this; exact this)
        go_wp2_with (go_at_call 55; refine (cloneM _ _ _ _ _ SL1.out (by omega)).mono ?_; rintro e w5 ⟨A5, c5, rfl, hO, hb⟩; have O5 := Lib.hid hO; have B5 := Lib.hid (below_from hb B4.out B4.out.size); have X5 := Lib.hid (X4.out.past hb); have x5c := X5.out.cell; have x5l := X5.out.lt; have QO5 := Lib.hid (QO4.out.kept hb); have SL3 := Lib.hid (SL2.out.below hb); have Z45 := Lib.hid hb.size; clear hb hO x4c x4l x4f)
        clear X4
        go_wp2_with (go_at_call 55; refine (cloneM _ _ _ _ _ SL3.out (by omega)).mono ?_; rintro e w6 ⟨A6, c6, rfl, hO, hb⟩; have O6 := Lib.hid hO; have B6 := Lib.hid (below_from hb B5.out B5.out.size); have X6 := Lib.hid (X5.out.past hb); have x6c := X6.out.cell; have x6l := X6.out.lt; have x6f := X6.out.free; have QO6 := Lib.hid (QO5.out.kept hb); have O56 := Lib.hid (O5.out.kept hb); have Z56 := Lib.hid hb.size; clear hb hO x5c x5l)
        refine bodyPost_ret (v := .tuple #[(⟨q.now + d, q.next, A6, 0, c6, q.L.drop q.Ln, q.SA, q.Sn, q.Sc, q.S, q.CA, q.Cn, q.Cc, q.C, q.KA, q.Kn, q.Kc, q.K⟩ : Nt).v, .slice A5 q.Ln c5, .int .i64 0]) (by simp [results, Try.results21, go_sem, x6c]) rfl ?_
        have G1 := setCells_grown (w.heap.size + 1) [.slice A6 0 c6] 2 w6
        have G2 := setCells_grown (w.heap.size + 1) [.int .i64 (q.now + d), .int .i64 q.next, .slice A6 0 c6, .slice q.SA q.Sn q.Sc, .slice q.CA q.Cn q.Cc, .slice q.KA q.Kn q.Kc] 0 (w6.setCell ⟨w.heap.size + 1, 2, none⟩ (.slice A6 0 c6))
        have BB1 := B6.out.trans (grown_below G1 B6.out.size (fun q hq => by injection hq with hq; omega))
        have BB2 := BB1.trans (grown_below G2 BB1.size (fun q hq => by injection hq with hq; omega))
        have z12 := Z12.out
        have z11 := Z11.out
        have z45 := Z45.out
        have z56 := Z56.out
        have z23 := Z23.out
        have z34 := Z34.out
        have IN1 : ∀ a ∈ q.L, Mg.In _ a := fun a ha => mgK.below (HO.out.l.each a (by rw [← QL.out.L]; exact ha)) BB1
        have IN2 : ∀ a ∈ q.L, Mg.In _ a := fun a ha => mgK.below (HO.out.l.each a (by rw [← QL.out.L]; exact ha)) BB2
        refine ⟨⟨(⟨q.now + d, q.next, A6, 0, c6, q.L.drop q.Ln, q.SA, q.Sn, q.Sc, q.S, q.CA, q.Cn, q.Cc, q.C, q.KA, q.Kn, q.Kc, q.K⟩ : Nt), A5, q.Ln, c5, q.L.take q.Ln, ?_, ?_, ?_, ⟨?_, ?_, ?_, ?_⟩, ?_, ?_⟩, BB2⟩
        · rw [TV.out]
        · rw [TV.out]
          unfold Nt.val
          simp only [QL.out.now, QL.out.next, QL.out.S, QL.out.C, QL.out.K, QL.out.L, List.map_drop]
        · rw [TV.out, QL.out.L, List.map_take]
          rfl
        · exact ((O6.out.grown G1 (by omega) (fun a ha => IN1 a (List.mem_of_mem_drop ha))).grown G2 (by omega) (fun a ha => IN2 a (List.mem_of_mem_drop ha))).base (by omega)
        · exact ((QO6.out.s.grown G1 (by omega) (fun a ha => QO6.out.s.2.2 a ha)).grown G2 (by omega) (fun a ha => QO6.out.s.2.2 a ha)).base (by omega)
        · exact ((QO6.out.c.grown G1 (by omega) (fun a ha => QO6.out.c.2.2 a ha)).grown G2 (by omega) (fun a ha => QO6.out.c.2.2 a ha)).base (by omega)
        · exact ((QO6.out.k.grown G1 (by omega) (fun a ha => QO6.out.k.2.2 a ha)).grown G2 (by omega) (fun a ha => QO6.out.k.2.2 a ha)).base (by omega)
        · exact ((O56.out.grown G1 (by omega) (fun a ha => IN1 a (List.mem_of_mem_take ha))).grown G2 (by omega) (fun a ha => IN2 a (List.mem_of_mem_take ha))).base (by omega)
        · intro b hb1 hb2
          have y1 := (O5.out.2.1.lt b hb1).2
          have y2 := (O6.out.2.1.lt b hb2).1
          omega
    · have dr : decide ((k : Int) < 0) = false := decide_eq_false (by omega)
      by_cases hck : q.Lc = k
      · have hck2 : (q.Lc = k) = True := eq_true hck
        replace hck := Lib.hid hck
        have qcap := CP.out
        have qmax := QO4.out.l.sl.max
        have qm1 : ((k : Nat) : Int) ≤ (q.Ln : Int) := by omega
        have qm2 : ((k : Nat) : Int) ≤ (q.Lc : Int) := by omega
        have qm3 : (q.Ln : Int) ≤ (q.Lc : Int) := by omega
        have qm4 : (0 : Int) ≤ ((k : Nat) : Int) := by omega
        have qk : k ≤ q.Ln := by omega
        have SL1 := Lib.hid ((QO4.out.l.sl).take k (by omega))
        have SL2 := Lib.hid (show Sl mgK w4 q.LA (q.Ln - k) (q.Lc - k) (q.L.drop k) from by have := sl_dropG QO4.out.l.sl k (by omega); rw [if_pos hck.out] at this; exact this)
        go_wp2_with (go_at_call 55; refine (cloneM _ _ _ _ _ SL1.out (by omega)).mono ?_; rintro e w5 ⟨A5, c5, rfl, hO, hb⟩; have O5 := Lib.hid hO; have B5 := Lib.hid (below_from hb B4.out B4.out.size); have X5 := Lib.hid (X4.out.past hb); have x5c := X5.out.cell; have x5l := X5.out.lt; have QO5 := Lib.hid (QO4.out.kept hb); have SL3 := Lib.hid (SL2.out.below hb); have Z45 := Lib.hid hb.size; clear hb hO x4c x4l x4f)
        clear X4
        go_wp2_with (go_at_call 55; refine (cloneM _ _ _ _ _ SL3.out (by omega)).mono ?_; rintro e w6 ⟨A6, c6, rfl, hO, hb⟩; have O6 := Lib.hid hO; have B6 := Lib.hid (below_from hb B5.out B5.out.size); have X6 := Lib.hid (X5.out.past hb); have x6c := X6.out.cell; have x6l := X6.out.lt; have x6f := X6.out.free; have QO6 := Lib.hid (QO5.out.kept hb); have O56 := Lib.hid (O5.out.kept hb); have Z56 := Lib.hid hb.size; clear hb hO x5c x5l)
        refine bodyPost_ret (v := .tuple #[(⟨q.now + d, q.next, A6, q.Ln - k, c6, q.L.drop k, q.SA, q.Sn, q.Sc, q.S, q.CA, q.Cn, q.Cc, q.C, q.KA, q.Kn, q.Kc, q.K⟩ : Nt).v, .slice A5 k c5, .int .i64 0]) (by simp [results, Try.results21, go_sem, x6c]) rfl ?_
        have G1 := setCells_grown (w.heap.size + 1) [.slice A6 (q.Ln - k) c6] 2 w6
        have G2 := setCells_grown (w.heap.size + 1) [.int .i64 (q.now + d), .int .i64 q.next, .slice A6 (q.Ln - k) c6, .slice q.SA q.Sn q.Sc, .slice q.CA q.Cn q.Cc, .slice q.KA q.Kn q.Kc] 0 (w6.setCell ⟨w.heap.size + 1, 2, none⟩ (.slice A6 (q.Ln - k) c6))
        have BB1 := B6.out.trans (grown_below G1 B6.out.size (fun q hq => by injection hq with hq; omega))
        have BB2 := BB1.trans (grown_below G2 BB1.size (fun q hq => by injection hq with hq; omega))
        have z12 := Z12.out
        have z11 := Z11.out
        have z45 := Z45.out
        have z56 := Z56.out
        have z23 := Z23.out
        have z34 := Z34.out
        have IN1 : ∀ a ∈ q.L, Mg.In _ a := fun a ha => mgK.below (HO.out.l.each a (by rw [← QL.out.L]; exact ha)) BB1
        have IN2 : ∀ a ∈ q.L, Mg.In _ a := fun a ha => mgK.below (HO.out.l.each a (by rw [← QL.out.L]; exact ha)) BB2
        refine ⟨⟨(⟨q.now + d, q.next, A6, q.Ln - k, c6, q.L.drop k, q.SA, q.Sn, q.Sc, q.S, q.CA, q.Cn, q.Cc, q.C, q.KA, q.Kn, q.Kc, q.K⟩ : Nt), A5, k, c5, q.L.take k, ?_, ?_, ?_, ⟨?_, ?_, ?_, ?_⟩, ?_, ?_⟩, BB2⟩
        · rw [TV.out]
        · rw [TV.out]
          unfold Nt.val
          simp only [QL.out.now, QL.out.next, QL.out.S, QL.out.C, QL.out.K, QL.out.L, List.map_drop]
        · rw [TV.out, QL.out.L, List.map_take]
          rfl
        · exact ((O6.out.grown G1 (by omega) (fun a ha => IN1 a (List.mem_of_mem_drop ha))).grown G2 (by omega) (fun a ha => IN2 a (List.mem_of_mem_drop ha))).base (by omega)
        · exact ((QO6.out.s.grown G1 (by omega) (fun a ha => QO6.out.s.2.2 a ha)).grown G2 (by omega) (fun a ha => QO6.out.s.2.2 a ha)).base (by omega)
        · exact ((QO6.out.c.grown G1 (by omega) (fun a ha => QO6.out.c.2.2 a ha)).grown G2 (by omega) (fun a ha => QO6.out.c.2.2 a ha)).base (by omega)
        · exact ((QO6.out.k.grown G1 (by omega) (fun a ha => QO6.out.k.2.2 a ha)).grown G2 (by omega) (fun a ha => QO6.out.k.2.2 a ha)).base (by omega)
        · exact ((O56.out.grown G1 (by omega) (fun a ha => IN1 a (List.mem_of_mem_take ha))).grown G2 (by omega) (fun a ha => IN2 a (List.mem_of_mem_take ha))).base (by omega)
        · intro b hb1 hb2
          have y1 := (O5.out.2.1.lt b hb1).2
          have y2 := (O6.out.2.1.lt b hb2).1
          omega
      · skip
        have qcap := CP.out
        have qmax := QO4.out.l.sl.max
        have qm1 : ((k : Nat) : Int) ≤ (q.Ln : Int) := by omega
        have qm2 : ((k : Nat) : Int) ≤ (q.Lc : Int) := by omega
        have qm3 : (q.Ln : Int) ≤ (q.Lc : Int) := by omega
        have qm4 : (0 : Int) ≤ ((k : Nat) : Int) := by omega
        have qk : k ≤ q.Ln := by omega
        have SL1 := Lib.hid ((QO4.out.l.sl).take k (by omega))
        have SL2 := Lib.hid (show Sl mgK w4 (q.LA.map fun x => x.add (k * 5)) (q.Ln - k) (q.Lc - k) (q.L.drop k) from by have := sl_dropG QO4.out.l.sl k (by omega); rw [if_neg hck] at this; exact this)
        go_wp2_with (go_at_call 55; refine (cloneM _ _ _ _ _ SL1.out (by omega)).mono ?_; rintro e w5 ⟨A5, c5, rfl, hO, hb⟩; have O5 := Lib.hid hO; have B5 := Lib.hid (below_from hb B4.out B4.out.size); have X5 := Lib.hid (X4.out.past hb); have x5c := X5.out.cell; have x5l := X5.out.lt; have QO5 := Lib.hid (QO4.out.kept hb); have SL3 := Lib.hid (SL2.out.below hb); have Z45 := Lib.hid hb.size; clear hb hO x4c x4l x4f)
        clear X4
        go_wp2_with (go_at_call 55; refine (cloneM _ _ _ _ _ SL3.out (by omega)).mono ?_; rintro e w6 ⟨A6, c6, rfl, hO, hb⟩; have O6 := Lib.hid hO; have B6 := Lib.hid (below_from hb B5.out B5.out.size); have X6 := Lib.hid (X5.out.past hb); have x6c := X6.out.cell; have x6l := X6.out.lt; have x6f := X6.out.free; have QO6 := Lib.hid (QO5.out.kept hb); have O56 := Lib.hid (O5.out.kept hb); have Z56 := Lib.hid hb.size; clear hb hO x5c x5l)
        refine bodyPost_ret (v := .tuple #[(⟨q.now + d, q.next, A6, q.Ln - k, c6, q.L.drop k, q.SA, q.Sn, q.Sc, q.S, q.CA, q.Cn, q.Cc, q.C, q.KA, q.Kn, q.Kc, q.K⟩ : Nt).v, .slice A5 k c5, .int .i64 0]) (by simp [results, Try.results21, go_sem, x6c]) rfl ?_
        have G1 := setCells_grown (w.heap.size + 1) [.slice A6 (q.Ln - k) c6] 2 w6
        have G2 := setCells_grown (w.heap.size + 1) [.int .i64 (q.now + d), .int .i64 q.next, .slice A6 (q.Ln - k) c6, .slice q.SA q.Sn q.Sc, .slice q.CA q.Cn q.Cc, .slice q.KA q.Kn q.Kc] 0 (w6.setCell ⟨w.heap.size + 1, 2, none⟩ (.slice A6 (q.Ln - k) c6))
        have BB1 := B6.out.trans (grown_below G1 B6.out.size (fun q hq => by injection hq with hq; omega))
        have BB2 := BB1.trans (grown_below G2 BB1.size (fun q hq => by injection hq with hq; omega))
        have z12 := Z12.out
        have z11 := Z11.out
        have z45 := Z45.out
        have z56 := Z56.out
        have z23 := Z23.out
        have z34 := Z34.out
        have IN1 : ∀ a ∈ q.L, Mg.In _ a := fun a ha => mgK.below (HO.out.l.each a (by rw [← QL.out.L]; exact ha)) BB1
        have IN2 : ∀ a ∈ q.L, Mg.In _ a := fun a ha => mgK.below (HO.out.l.each a (by rw [← QL.out.L]; exact ha)) BB2
        refine ⟨⟨(⟨q.now + d, q.next, A6, q.Ln - k, c6, q.L.drop k, q.SA, q.Sn, q.Sc, q.S, q.CA, q.Cn, q.Cc, q.C, q.KA, q.Kn, q.Kc, q.K⟩ : Nt), A5, k, c5, q.L.take k, ?_, ?_, ?_, ⟨?_, ?_, ?_, ?_⟩, ?_, ?_⟩, BB2⟩
        · rw [TV.out]
        · rw [TV.out]
          unfold Nt.val
          simp only [QL.out.now, QL.out.next, QL.out.S, QL.out.C, QL.out.K, QL.out.L, List.map_drop]
        · rw [TV.out, QL.out.L, List.map_take]
          rfl
        · exact ((O6.out.grown G1 (by omega) (fun a ha => IN1 a (List.mem_of_mem_drop ha))).grown G2 (by omega) (fun a ha => IN2 a (List.mem_of_mem_drop ha))).base (by omega)
        · exact ((QO6.out.s.grown G1 (by omega) (fun a ha => QO6.out.s.2.2 a ha)).grown G2 (by omega) (fun a ha => QO6.out.s.2.2 a ha)).base (by omega)
        · exact ((QO6.out.c.grown G1 (by omega) (fun a ha => QO6.out.c.2.2 a ha)).grown G2 (by omega) (fun a ha => QO6.out.c.2.2 a ha)).base (by omega)
        · exact ((QO6.out.k.grown G1 (by omega) (fun a ha => QO6.out.k.2.2 a ha)).grown G2 (by omega) (fun a ha => QO6.out.k.2.2 a ha)).base (by omega)
        · exact ((O56.out.grown G1 (by omega) (fun a ha => IN1 a (List.mem_of_mem_take ha))).grown G2 (by omega) (fun a ha => IN2 a (List.mem_of_mem_take ha))).base (by omega)
        · intro b hb1 hb2
          have y1 := (O5.out.2.1.lt b hb1).2
          have y2 := (O6.out.2.1.lt b hb2).1
          omega

end Go.Proofs.Ytmlgahambecamaa
