/- Tick, of the document. -/
import Derived.Test.YtmlgahambecamaaTickP
import Derived.Test.YtmlgahambecamaaAppR
import Derived.Deep.DeepCutAuto
namespace Go.Proofs.Ytmlgahambecamaa
open Go.RowKit Go.Shelf

theorem tickV_go {n : Nv} {d : Int} (h1 : checkB n = true) (h2 : inR d 0 1099511627776 = true) (h3 : ¬ 1099511627776 < n.now + d) :
    tickV n d = ({ n with now := n.now + d, L := n.L.filter fun m => !decide (m.t ≤ n.now + d) }, n.L.filter fun m => decide (m.t ≤ n.now + d), 0) := by
  unfold tickV
  rw [if_pos ⟨h1, h2⟩, if_neg (show ¬ maxO < n.now + d from h3)]
theorem val_filter (l : List Mg) (p : Int → Bool) : (l.filter fun m => p m.t).map Mg.val = (l.map Mg.val).filter fun m => p m.t := by
  induction l with
  | nil => rfl
  | cons a l ih =>
    rw [List.map_cons, List.filter_cons, List.filter_cons]
    have e : (Mg.val a).t = a.t := rfl
    rw [e]
    cases p a.t
    · simpa using ih
    · simp only [if_true, List.map_cons]; rw [ih]

set_option maxHeartbeats 16000000 in
set_option maxRecDepth 100000 in
theorem rtick_any (o : Nt) (d : Int) (w : World) (ho : Nt.At w o) (hf : o.Few) : Calls Try.prog 22 #[o.v, .int .i64 d] w fun e w' => TickRes w.heap.size (tickV o.val d) e w' ∧ Below w.heap.size w w' := by
  obtain ⟨i0, hi0, hz0, hs0, hb0⟩ := info_parts inf40
  have HO := Lib.hid ho
  have HF := Lib.hid hf
  have hl1 := ho.l.cap
  have hl2 := ho.l.max
  obtain ⟨W0, hW0⟩ : ∃ W0, W0 = (w.alloc (.cells #[.int .i64 o.now, .int .i64 o.next, .slice o.LA o.Ln o.Lc, .slice o.SA o.Sn o.Sc, .slice o.CA o.Cn o.Cc, .slice o.KA o.Kn o.Kc] 27)).alloc (.cells #[.int .i64 0, .int .i64 0, .slice none 0 0, .slice none 0 0, .slice none 0 0, .slice none 0 0] 27) := ⟨_, rfl⟩
  have B0 := Lib.hid (show Below w.heap.size w W0 from by rw [hW0]; exact ((Below.refl _ w).alloc (Nat.le_refl _) _).alloc (by simp) _)
  have N0 := Lib.hid (show Has W0 w.heap.size #[.int .i64 o.now, .int .i64 o.next, .slice o.LA o.Ln o.Lc, .slice o.SA o.Sn o.Sc, .slice o.CA o.Cn o.Cc, .slice o.KA o.Kn o.Kc] from by rw [hW0]; exact (Has.newAt w #[.int .i64 o.now, .int .i64 o.next, .slice o.LA o.Ln o.Lc, .slice o.SA o.Sn o.Sc, .slice o.CA o.Cn o.Cc, .slice o.KA o.Kn o.Kc] 27 rfl).alloc _)
  have X0 := Lib.hid (show Has W0 (w.heap.size + 1) #[.int .i64 0, .int .i64 0, .slice none 0 0, .slice none 0 0, .slice none 0 0, .slice none 0 0] from by rw [hW0]; exact Has.newAt _ #[.int .i64 0, .int .i64 0, .slice none 0 0, .slice none 0 0, .slice none 0 0, .slice none 0 0] 27 (by simp))
  have CK := Lib.hid (rcheck_any o W0 (ho.below B0.out))
  have HW0 := Lib.hid hW0
  have n0c := N0.out.cell
  have n0l := N0.out.lt
  clear ho hf hW0
  cases hc : checkB o.val with
  | false =>
    rw [checkI_no hc] at CK
    have TV := Lib.hid (tickV_arg (d := d) (.inl hc))
    clear hc
    go_enter Try.func22, Try.ntmps22
    go_upto_region 1 with (fail)
    rw [← HW0.out]
    go_wp2_with (go_at_call 16; refine CK.out.mono ?_; rintro e w1 ⟨rfl, hb⟩; have B1 := Lib.hid (below_from hb B0.out B0.out.size); have N1 := Lib.hid (N0.out.past hb); have X1 := Lib.hid (X0.out.past hb); have c1 := N1.out.cell; have l1 := N1.out.lt; have x1c := X1.out.cell; have x1l := X1.out.lt; have x1f := X1.out.free; clear hb)
    refine bodyPost_ret (v := .tuple #[noN.v, .slice none 0 0, .int .i64 1]) (by simp [results, Try.results22, go_sem, noN, x1c]) rfl ?_
    exact ⟨TickRes.no (TV.out), B1.out.trans (grown_below (setCells_grown (w.heap.size + 1) [.int .i64 0, .int .i64 0, .slice none 0 0, .slice none 0 0, .slice none 0 0, .slice none 0 0] 0 w1) B1.out.size (fun q hq => by injection hq with hq; omega))⟩
  | true =>
  rw [checkI_yes hc] at CK
  have NW : 0 ≤ o.now ∧ o.now ≤ 1099511627776 := chk_now hc
  cases hd : inR d 0 1099511627776 with
  | false =>
    have E1 := Lib.hid hd
    have TV := Lib.hid (tickV_arg (n := o.val) (.inr hd))
    clear hc hd
    go_enter Try.func22, Try.ntmps22
    go_upto_region 1 with (fail)
    rw [← HW0.out]
    go_wp2_with (first | (go_at_call 16; refine CK.out.mono ?_; rintro e w1 ⟨rfl, hb⟩; have B1 := Lib.hid (below_from hb B0.out B0.out.size); have N1 := Lib.hid (N0.out.past hb); have X1 := Lib.hid (X0.out.past hb); have c1 := N1.out.cell; have l1 := N1.out.lt; have x1c := X1.out.cell; have x1l := X1.out.lt; have x1f := X1.out.free; clear hb) | (go_at_call 39; refine (in_any _ _ _ _).mono ?_; rintro e w' ⟨rfl, rfl⟩; rw [E1.out]))
    refine bodyPost_ret (v := .tuple #[noN.v, .slice none 0 0, .int .i64 1]) (by simp [results, Try.results22, go_sem, noN, x1c]) rfl ?_
    exact ⟨TickRes.no (TV.out), B1.out.trans (grown_below (setCells_grown (w.heap.size + 1) [.int .i64 0, .int .i64 0, .slice none 0 0, .slice none 0 0, .slice none 0 0, .slice none 0 0] 0 w1) B1.out.size (fun q hq => by injection hq with hq; omega))⟩
  | true =>
  have E1 := Lib.hid hd
  have DR : 0 ≤ d ∧ d ≤ 1099511627776 := by unfold inR at hd; simpa using hd
  have wr0 : IntKind.i64.wrap (o.now + d) = o.now + d := IntWalk.i64_in _ (by omega)
  by_cases hm : 1099511627776 < o.now + d
  · have dm : decide (1099511627776 < o.now + d) = true := decide_eq_true hm
    have TV := Lib.hid (tickV_bound hc hd hm)
    clear hc hd hm
    go_enter Try.func22, Try.ntmps22
    go_upto_region 1 with (fail)
    rw [← HW0.out]
    go_wp2_with (first | (go_at_call 16; refine CK.out.mono ?_; rintro e w1 ⟨rfl, hb⟩; have B1 := Lib.hid (below_from hb B0.out B0.out.size); have N1 := Lib.hid (N0.out.past hb); have X1 := Lib.hid (X0.out.past hb); have c1 := N1.out.cell; have l1 := N1.out.lt; have x1c := X1.out.cell; have x1l := X1.out.lt; have x1f := X1.out.free; clear hb) | (go_at_call 39; refine (in_any _ _ _ _).mono ?_; rintro e w' ⟨rfl, rfl⟩; rw [E1.out]))
    refine bodyPost_ret (v := .tuple #[noN.v, .slice none 0 0, .int .i64 2]) (by simp [results, Try.results22, go_sem, noN, x1c]) rfl ?_
    exact ⟨TickRes.no (TV.out), B1.out.trans (grown_below (setCells_grown (w.heap.size + 1) [.int .i64 0, .int .i64 0, .slice none 0 0, .slice none 0 0, .slice none 0 0, .slice none 0 0] 0 w1) B1.out.size (fun q hq => by injection hq with hq; omega))⟩
  · have dm : decide (1099511627776 < o.now + d) = false := decide_eq_false hm
    have TV := Lib.hid (tickV_go hc hd hm)
    clear hc hd hm
    go_enter Try.func22, Try.ntmps22
    go_upto_region 1 with (fail)
    rw [← HW0.out]
    go_wp2_with (first | (go_at_call 16; refine CK.out.mono ?_; rintro e w1 ⟨rfl, hb⟩; have B1 := Lib.hid (below_from hb B0.out B0.out.size); have N1 := Lib.hid (N0.out.past hb); have X1 := Lib.hid (X0.out.past hb); have c1 := N1.out.cell; have l1 := N1.out.lt; have x1c := X1.out.cell; have x1l := X1.out.lt; have x1f := X1.out.free; clear hb) | (go_at_call 39; refine (in_any _ _ _ _).mono ?_; rintro e w' ⟨rfl, rfl⟩; rw [E1.out]) | (go_at_call 18; refine (copy_any o _ (HO.out.below B1.out) HF.out).mono ?_; rintro e w2 ⟨q, rfl, hL, hO, hb⟩; have QL := Lib.hid hL; have QO := Lib.hid hO; have B2 := Lib.hid (below_from hb B1.out B1.out.size); have N2 := Lib.hid (N1.out.past hb); have X2 := Lib.hid (X1.out.past hb); have Z11 := Lib.hid X1.out.lt; have Z12 := Lib.hid hb.size; have wr : IntKind.i64.wrap (q.now + d) = q.now + d := (by rw [hL.now]; exact IntWalk.i64_in _ (by omega)); have n2c := (N1.out.past hb).cell; have n2l := (N1.out.past hb).lt; clear hL hO hb))
    obtain ⟨W3, hW3⟩ : ∃ W3, W3 = (w2.alloc (.cells #[.int .i64 (q.now + d), .int .i64 q.next, .slice none 0 0, .slice q.SA q.Sn q.Sc, .slice q.CA q.Cn q.Cc, .slice q.KA q.Kn q.Kc] 27)) := ⟨_, rfl⟩
    rw [← hW3]
    have z11 := Z11.out
    have z12 := Z12.out
    have bk := below_alloc1 w2 (.cells #[.int .i64 (q.now + d), .int .i64 q.next, .slice none 0 0, .slice q.SA q.Sn q.Sc, .slice q.CA q.Cn q.Cc, .slice q.KA q.Kn q.Kc] 27)
    have B3 := Lib.hid (show Below w.heap.size w W3 from by rw [hW3]; exact B2.out.alloc B2.out.size _)
    have N3 := Lib.hid (show Has W3 w.heap.size #[.int .i64 o.now, .int .i64 o.next, .slice o.LA o.Ln o.Lc, .slice o.SA o.Sn o.Sc, .slice o.CA o.Cn o.Cc, .slice o.KA o.Kn o.Kc] from by rw [hW3]; exact N2.out.alloc _)
    have X3 := Lib.hid (show Has W3 (w.heap.size + 1) #[.int .i64 0, .int .i64 0, .slice none 0 0, .slice none 0 0, .slice none 0 0, .slice none 0 0] from by rw [hW3]; exact X2.out.alloc _)
    have Y3 := Lib.hid (show Has W3 w2.heap.size #[.int .i64 (q.now + d), .int .i64 q.next, .slice none 0 0, .slice q.SA q.Sn q.Sc, .slice q.CA q.Cn q.Cc, .slice q.KA q.Kn q.Kc] from by rw [hW3]; exact Has.newAt w2 _ 27 (g := w2.heap.size) rfl)
    have QR := Lib.hid (show Nt.Own W3 w1.heap.size ⟨0, 0, none, 0, 0, [], q.SA, q.Sn, q.Sc, q.S, q.CA, q.Cn, q.Cc, q.C, q.KA, q.Kn, q.Kc, q.K⟩ from by
      have h0 := QO.out.kept bk
      rw [hW3]
      exact ⟨(noN_own _ _).l, h0.s, h0.c, h0.k⟩)
    have Z3 := Lib.hid (show w2.heap.size + 1 ≤ W3.heap.size from by rw [hW3]; simp)
    have z3 := Z3.out
    clear bk hW3 n2c n2l
    have y3c := Y3.out.cell
    have y3l := Y3.out.lt
    have n3c := N3.out.cell
    have n3l := N3.out.lt
    have LNF : o.Ln ≤ 2000 := HF.out.l
    have HL := Lib.hid HO.out.l
    obtain ⟨LA, hLA⟩ : ∃ A, o.LA = A := ⟨_, rfl⟩
    rw [hLA] at HL N3 n3c ⊢
    clear hLA n0c
    have QK := Lib.hid (fun (W W' : World) (r : Option Nat) (h : Nt.Own W w1.heap.size ⟨0, 0, none, 0, 0, [], q.SA, q.Sn, q.Sc, q.S, q.CA, q.Cn, q.Cc, q.C, q.KA, q.Kn, q.Kc, q.K⟩) (hg : W.grownBy W' r) (hr : ∀ b, r = some b → w2.heap.size ≤ b) => (show Nt.Own W' w1.heap.size ⟨0, 0, none, 0, 0, [], q.SA, q.Sn, q.Sc, q.S, q.CA, q.Cn, q.Cc, q.C, q.KA, q.Kn, q.Kc, q.K⟩ from
      ⟨(noN_own _ _).l, (h.s.rown.apart hg (fun b hb e => by have := (QO.out.s.2.1.lt b hb).2; have := hr b e; omega)).own (fun a ha => h.s.2.2 a ha),
        (h.c.rown.apart hg (fun b hb e => by have := (QO.out.c.2.1.lt b hb).2; have := hr b e; omega)).own (fun a ha => h.c.2.2 a ha),
        (h.k.rown.apart hg (fun b hb e => by have := (QO.out.k.2.1.lt b hb).2; have := hr b e; omega)).own (fun a ha => h.k.2.2 a ha)⟩))
    go_loopg [8, 37] o.Ln (fun gg s8 s wr => ∃ (k : Nat) (A : Option Addr) (n c : Nat) (A' : Option Addr) (n' c' : Nat), k ≤ o.Ln ∧ o.Ln - k ≤ gg ∧ s8 = .slice A n c ∧ s = .int .i64 k ∧ n ≤ k ∧ n' ≤ k ∧ w2.heap.size < wr.heap.size ∧ Hid (Below w.heap.size w wr) ∧ Hid (Has wr w.heap.size #[.int .i64 o.now, .int .i64 o.next, .slice LA o.Ln o.Lc, .slice o.SA o.Sn o.Sc, .slice o.CA o.Cn o.Cc, .slice o.KA o.Kn o.Kc]) ∧ Hid (Has wr (w.heap.size + 1) #[.int .i64 0, .int .i64 0, .slice none 0 0, .slice none 0 0, .slice none 0 0, .slice none 0 0]) ∧ Hid (Has wr w2.heap.size #[.int .i64 (q.now + d), .int .i64 q.next, .slice A' n' c', .slice q.SA q.Sn q.Sc, .slice q.CA q.Cn q.Cc, .slice q.KA q.Kn q.Kc]) ∧ Hid (ROwn mgK 40 wr (w2.heap.size + 1) A n c ((o.L.take k).filter fun m => decide (m.t ≤ q.now + d))) ∧ Hid (ROwn mgK 40 wr (w2.heap.size + 1) A' n' c' ((o.L.take k).filter fun m => !decide (m.t ≤ q.now + d))) ∧ Hid (∀ b, (Value.slice A n c).ownBlock = some b → (Value.slice A' n' c').ownBlock ≠ some b) ∧ Hid (Nt.Own wr w1.heap.size ⟨0, 0, none, 0, 0, [], q.SA, q.Sn, q.Sc, q.S, q.CA, q.Cn, q.Cc, q.C, q.KA, q.Kn, q.Kc, q.K⟩) ∧ Hid (w2.heap.size + 1 ≤ wr.heap.size))
    case atStart => exact ⟨0, none, 0, 0, none, 0, 0, Nat.zero_le _, by omega, rfl, rfl, Nat.le_refl _, Nat.le_refl _, by omega, B3, N3, X3, Y3, Lib.hid (by simpa using ROwn.nil _ _ _ _), Lib.hid (by simpa using ROwn.nil _ _ _ _), Lib.hid (fun b hb => by cases hb), QR, Z3⟩
    case round =>
      clear y3c y3l n3c n3l N3 X3 Y3 B3 QR Z3 z3
      obtain ⟨k, A, n, c, A', n', c', hk, hgg, rfl, rfl, hn, hn', hzr, B4, N4, X4, Y4, R1, R2, AP, QR, Z4⟩ := hrel
      have y4c := Y4.out.cell
      have y4l := Y4.out.lt
      have y4f := Y4.out.free
      by_cases hlt : k < o.Ln
      · obtain ⟨b, off, hkl, rfl, hbl, x0, x1, x2, x3, x4⟩ := mg_at (HL.out.below B4.out) hlt
        have TS1 := Lib.hid (show (o.L.take (k + 1)).filter (fun m => decide (m.t ≤ q.now + d)) = (o.L.take k).filter (fun m => decide (m.t ≤ q.now + d)) ++ if o.L[k].t ≤ q.now + d then [o.L[k]] else [] from by
          rw [List.take_succ_eq_append_getElem hkl, List.filter_append]
          by_cases h : o.L[k].t ≤ q.now + d <;> simp [h])
        have TS2 := Lib.hid (show (o.L.take (k + 1)).filter (fun m => !decide (m.t ≤ q.now + d)) = (o.L.take k).filter (fun m => !decide (m.t ≤ q.now + d)) ++ if o.L[k].t ≤ q.now + d then [] else [o.L[k]] from by
          rw [List.take_succ_eq_append_getElem hkl, List.filter_append]
          by_cases h : o.L[k].t ≤ q.now + d <;> simp [h])
        generalize o.L[k] = x at *
        have bk1 := below_alloc1 wr (.cells #[.int .i64 x.t, .int .i64 x.no, .int .i64 x.frm, .int .i64 x.dst, .slice x.A x.n x.c] 40)
        have bk2 := bk1.alloc bk1.size (.cells #[.int .i64 x.t, .int .i64 x.no, .int .i64 x.frm, .int .i64 x.dst, .slice x.A x.n x.c] 40)
        have M5 := Has.newAt (wr.alloc (.cells #[.int .i64 x.t, .int .i64 x.no, .int .i64 x.frm, .int .i64 x.dst, .slice x.A x.n x.c] 40)) #[.int .i64 x.t, .int .i64 x.no, .int .i64 x.frm, .int .i64 x.dst, .slice x.A x.n x.c] 40 (g := wr.heap.size + 1) (by simp)
        have B5 := Lib.hid (below_from bk2 B4.out B4.out.size)
        have N5 := Lib.hid (N4.out.past bk2)
        have X5 := Lib.hid (X4.out.past bk2)
        have Y5 := Lib.hid (Y4.out.past bk2)
        have S1 := Lib.hid (R1.out.kept bk2)
        have S2 := Lib.hid (R2.out.kept bk2)
        have Q5 := Lib.hid (QR.out.kept bk2)
        have B41 := Lib.hid (below_from bk1 B4.out B4.out.size)
        have N41 := Lib.hid (N4.out.past bk1)
        have X41 := Lib.hid (X4.out.past bk1)
        have Y41 := Lib.hid (Y4.out.past bk1)
        have S11 := Lib.hid (R1.out.kept bk1)
        have S21 := Lib.hid (R2.out.kept bk1)
        have Q51 := Lib.hid (QR.out.kept bk1)
        have MC := Lib.hid M5.cell
        have Z5 := Lib.hid (Nat.le_trans Z4.out bk2.size)
        clear bk1 bk2 M5
        by_cases ht : x.t ≤ q.now + d
        · have dt : decide (x.t ≤ q.now + d) = true := decide_eq_true ht
          rw [if_pos ht] at TS1 TS2
          rw [List.append_nil] at TS2
          clear ht
          go_wp2_with (at_builtin; refine wpList_app1R (K := mgK) _ rfl _ _ 22 rfl (w2.heap.size + 1) 40 i0 _ 56 Try.underlying22 hi0 hz0 hs0 hb0 rfl A n c _ rfl S1.out (wr.heap.size + 1) rfl x ?qc1 ?qc2 ?qc3 ?qc4 ?_)
          case qc1 => intro j _; exact (MC.out j).trans (by simp [mgK, Mg.cells])
          case qc2 => unfold maxLen; omega
          case qc3 => omega
          case qc4 => exact Z5.out
          intro A2 c2 w5 hown hgrow hat
          have GB := grown_below (B := w2.heap.size + 1) hgrow Z5.out (fun j hj => (S1.out.2.lt j hj).1)
          have B6 := Lib.hid (B5.out.trans (GB.mono (by have := B2.out.size; omega)))
          have N6 := Lib.hid (N5.out.below GB (by have := Z11.out; omega))
          have X6 := Lib.hid (X5.out.below GB (by have := Z11.out; omega))
          have Y6 := Lib.hid (Y5.out.below GB (by omega))
          have T1 := Lib.hid hown
          have T2 := Lib.hid (S2.out.apart hgrow (fun b hb e => AP.out b e hb))
          have AP2 := Lib.hid (show ∀ b, (Value.slice A2 (n + 1) c2).ownBlock = some b → (Value.slice A' n' c').ownBlock ≠ some b from fun b hb e => by
            rcases hat with h | h
            · rw [h] at hb; exact AP.out b hb e
            · rw [h] at hb; injection hb with hb; have h3 := (S2.out.2.lt b e).2; simp at h3 hb; omega)
          have Q6 := Lib.hid (QK.out _ _ _ Q5.out hgrow (fun b hb => by have := (S1.out.2.lt b hb).1; omega))
          have Z6 := Lib.hid (Nat.le_trans Z5.out GB.size)
          clear hown hgrow hat GB y4c y4l y4f
          go_wp2_with fail
          go_roundg (o.Ln - (k + 1))
          case measure => omega
          case rel => exact ⟨k + 1, A2, n + 1, c2, A', n', c', by omega, by omega, rfl, by go_num, by omega, by omega, by have := Z6.out; omega, B6, N6, X6, Y6, by rw [TS1.out]; exact T1, by rw [TS2.out]; exact T2, AP2, Q6, Z6⟩
        · have dt : decide (x.t ≤ q.now + d) = false := decide_eq_false ht
          rw [if_neg ht] at TS1 TS2
          rw [List.append_nil] at TS1
          clear ht
          go_wp2_with (at_builtin; refine wpList_app1R (K := mgK) _ rfl _ _ 22 rfl (w2.heap.size + 1) 40 i0 _ 56 Try.underlying22 hi0 hz0 hs0 hb0 rfl A' n' c' _ rfl S2.out (wr.heap.size + 1) rfl x ?qc1 ?qc2 ?qc3 ?qc4 ?_)
          case qc1 => intro j _; exact (MC.out j).trans (by simp [mgK, Mg.cells])
          case qc2 => unfold maxLen; omega
          case qc3 => omega
          case qc4 => exact Z5.out
          intro A2 c2 w5 hown hgrow hat
          have GB := grown_below (B := w2.heap.size + 1) hgrow Z5.out (fun j hj => (S2.out.2.lt j hj).1)
          have ST := setCells_grown w2.heap.size [.slice A2 (n' + 1) c2] 2 w5
          have z2 := B2.out.size
          have B6a := B5.out.trans (GB.mono (by omega))
          have B6 := Lib.hid (B6a.trans (grown_below ST B6a.size (fun j hj => by injection hj with hj; omega)))
          have N6 := Lib.hid ((N5.out.below GB (by have := Z11.out; omega)).grown ST (by have := Z11.out; omega))
          have X6 := Lib.hid ((X5.out.below GB (by have := Z11.out; omega)).grown ST (by have := Z11.out; omega))
          have Y6a := Y5.out.below GB (by omega)
          have Y6 := Lib.hid (show Has (w5.setCell ⟨w2.heap.size, 2, none⟩ (.slice A2 (n' + 1) c2)) w2.heap.size #[.int .i64 (q.now + d), .int .i64 q.next, .slice A2 (n' + 1) c2, .slice q.SA q.Sn q.Sc, .slice q.CA q.Cn q.Cc, .slice q.KA q.Kn q.Kc] from Y6a.setAt 2 (.slice A2 (n' + 1) c2) (by simp))
          have y6c := Y6a.cell
          have y6l := Y6a.lt
          have y6f := Y6a.free
          have T2 := Lib.hid (hown.grown ST (by omega))
          have T1 := Lib.hid ((S1.out.apart hgrow (fun b hb e => AP.out b hb e)).grown ST (by omega))
          have AP2 := Lib.hid (show ∀ b, (Value.slice A n c).ownBlock = some b → (Value.slice A2 (n' + 1) c2).ownBlock ≠ some b from fun b hb e => by
            rcases hat with h | h
            · rw [h] at e; exact AP.out b hb e
            · rw [h] at e; injection e with e; have h3 := (S1.out.2.lt b hb).2; simp at h3 e; omega)
          have Q6a := QK.out _ _ _ Q5.out hgrow (fun b hb => by have := (S2.out.2.lt b hb).1; omega)
          have Q6 := Lib.hid (QK.out _ _ _ Q6a ST (fun b hb => by injection hb with hb; omega))
          have Z6 := Lib.hid (Nat.le_trans (Nat.le_trans Z5.out GB.size) ST.size)
          clear hown hgrow hat GB ST B6a Y6a Q6a y4c y4l y4f z2
          go_wp2_with fail
          go_roundg (o.Ln - (k + 1))
          case measure => omega
          case rel => exact ⟨k + 1, A, n, c, A2, n' + 1, c2, by omega, by omega, rfl, by go_num, by omega, by omega, Z6.out, B6, N6, X6, Y6, by rw [TS1.out]; exact T1, by rw [TS2.out]; exact T2, AP2, Q6, Z6⟩
      · have kn : k = o.Ln := by omega
        subst kn
        have x4c := X4.out.cell
        have x4l := X4.out.lt
        have x4f := X4.out.free
        have LT : o.L.take o.Ln = o.L := List.take_of_length_le (by rw [HO.out.l.len]; exact Nat.le_refl _)
        have R1' := Lib.hid (show ROwn mgK 40 wr (w2.heap.size + 1) A n c (o.L.filter fun m => decide (m.t ≤ q.now + d)) from by have := R1.out; rwa [LT] at this)
        have R2' := Lib.hid (show ROwn mgK 40 wr (w2.heap.size + 1) A' n' c' (o.L.filter fun m => !decide (m.t ≤ q.now + d)) from by have := R2.out; rwa [LT] at this)
        clear LT R1 R2
        go_wp2_with fail
        refine bodyPost_ret (v := .tuple #[(⟨q.now + d, q.next, A', n', c', o.L.filter fun m => !decide (m.t ≤ q.now + d), q.SA, q.Sn, q.Sc, q.S, q.CA, q.Cn, q.Cc, q.C, q.KA, q.Kn, q.Kc, q.K⟩ : Nt).v, .slice A n c, .int .i64 0]) (by simp [results, Try.results22, go_sem, x4c]) rfl ?_
        have G2 := setCells_grown (w.heap.size + 1) [.int .i64 (q.now + d), .int .i64 q.next, .slice A' n' c', .slice q.SA q.Sn q.Sc, .slice q.CA q.Cn q.Cc, .slice q.KA q.Kn q.Kc] 0 wr
        have BB := B4.out.trans (grown_below G2 B4.out.size (fun j hj => by injection hj with hj; omega))
        have z11 := Z11.out
        have z12 := Z12.out
        have INB : ∀ a ∈ o.L, Mg.In _ a := fun a ha => mgK.below (HO.out.l.each a ha) BB
        refine ⟨⟨⟨q.now + d, q.next, A', n', c', o.L.filter fun m => !decide (m.t ≤ q.now + d), q.SA, q.Sn, q.Sc, q.S, q.CA, q.Cn, q.Cc, q.C, q.KA, q.Kn, q.Kc, q.K⟩, A, n, c, o.L.filter fun m => decide (m.t ≤ q.now + d), ?_, ?_, ?_, ⟨?_, ?_, ?_, ?_⟩, ?_, AP.out⟩, BB⟩
        · rw [TV.out]
        · rw [TV.out]
          unfold Nt.val
          simp only [QL.out.now, QL.out.next, QL.out.S, QL.out.C, QL.out.K, val_filter o.L (fun t => !decide (t ≤ o.now + d))]
        · rw [TV.out, QL.out.now]
          exact val_filter o.L (fun t => decide (t ≤ o.now + d))
        · exact ((R2'.out.grown G2 (by omega)).own (fun a ha => INB a (List.mem_filter.1 ha).1)).base (by omega)
        · exact ((QR.out.s.grown G2 (by omega) (fun a ha => QR.out.s.2.2 a ha))).base (by omega)
        · exact ((QR.out.c.grown G2 (by omega) (fun a ha => QR.out.c.2.2 a ha))).base (by omega)
        · exact ((QR.out.k.grown G2 (by omega) (fun a ha => QR.out.k.2.2 a ha))).base (by omega)
        · exact ((R1'.out.grown G2 (by omega)).own (fun a ha => INB a (List.mem_filter.1 ha).1)).base (by omega)

end Go.Proofs.Ytmlgahambecamaa
