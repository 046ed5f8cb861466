/- Check, of the program. -/
import Derived.Test.YtmlgahambecamaaMet
import Derived.Test.YtmlgahambecamaaInp
import Derived.BigRegion
namespace Go.Proofs.Ytmlgahambecamaa
open Go.RowKit Go.Shelf

set_option maxHeartbeats 16000000 in
set_option maxRecDepth 100000 in
/-- Whether a net may be. -/
theorem check_any (o : Nt) (w : World) (ho : Nt.At w o) (hf : o.Sn ≤ 50000) : Calls Try.prog 15 #[o.v] w fun e w' => e = .returned (.int .i64 (checkI o.val)) ∧ Below w.heap.size w w' := by
  have hk1 := ho.k.cap
  have hk2 := ho.k.max
  have hs1 := ho.s.cap
  have hs2 := ho.s.max
  have hc1 := ho.c.cap
  have hc2 := ho.c.max
  have hl1 := ho.l.cap
  have hl2 := ho.l.max
  obtain ⟨V, hV⟩ : ∃ V, o.val = V := ⟨_, rfl⟩
  have VK : V.K = o.K := by rw [← hV]; rfl
  have VS : V.S = o.S := by rw [← hV]; rfl
  have VC : V.C = o.C := by rw [← hV]; rfl
  have VL : V.L = o.L.map Mg.val := by rw [← hV]; rfl
  have VN : V.now = o.now := by rw [← hV]; rfl
  have VX : V.next = o.next := by rw [← hV]; rfl
  have KL : V.K.length = o.Kn := by rw [VK]; exact ho.k.len
  have SL : V.S.length = o.Sn := by rw [VS]; exact ho.s.len
  have CL : V.C.length = o.Cn := by rw [VC]; exact ho.c.len
  have LL : V.L.length = o.Ln := by rw [VL, ← ho.l.len]; exact List.length_map _
  have TOP := Lib.hid (show topB V = (inR (o.Kn : Int) 1 20 && inR o.now 0 1099511627776 && inR o.next 0 1099511627776 && decide (o.Ln ≤ 1024)) from by unfold topB; rw [KL, LL, VN, VX]; rfl)
  have XK := Lib.hid (fun k (hk : k < o.Kn) (h : skewAt o.K k = false) => chk_skew (n := V) (k := k) (by rw [KL]; exact hk) (by rw [VK]; exact h))
  have XS := Lib.hid (fun k (hk : k < o.Sn) (h : slipAt o.S k = false) => chk_slip (n := V) (k := k) (by rw [SL]; exact hk) (by rw [VS]; exact h))
  have XC := Lib.hid (fun k (hk : k < o.Cn) (h : cutAt o.Kn o.C k = false) => chk_cut (n := V) (k := k) (by rw [CL]; exact hk) (by rw [KL, VC]; exact h))
  have XM := Lib.hid (fun k (hk : k < o.Ln) (h : msgAt o.Kn o.now o.next (o.L.map Mg.val) k = false) => chk_msg (n := V) (k := k) (by rw [LL]; exact hk) (by rw [KL, VN, VX, VL]; exact h))
  have YES := Lib.hid (fun (h0 : topB V = true) (h1 : allTo (skewAt o.K) o.Kn = true) (h2 : allTo (slipAt o.S) o.Sn = true) (h3 : allTo (cutAt o.Kn o.C) o.Cn = true) (h4 : allTo (msgAt o.Kn o.now o.next (o.L.map Mg.val)) o.Ln = true) => chk_yes (n := V) h0 (by rw [KL, VK]; exact h1) (by rw [SL, VS]; exact h2) (by rw [CL, KL, VC]; exact h3) (by rw [LL, KL, VN, VX, VL]; exact h4))
  have HK := Lib.hid ho.k
  have HS := Lib.hid ho.s
  have HC := Lib.hid ho.c
  have HL := Lib.hid ho.l
  rw [hV]
  clear VK VS VC VL VN VX KL SL CL LL ho hV
  obtain ⟨now, next, LA, Ln, Lc, L, SA, Sn, Sc, S, CA, Cn, Cc, C, KA, Kn, Kc, K⟩ := o
  dsimp only at *
  have hmm := @run_makeMap Try.prog
  obtain ⟨W0, hW0⟩ : ∃ W0, W0 = w.alloc (.cells #[.int .i64 now, .int .i64 next, .slice LA Ln Lc, .slice SA Sn Sc, .slice CA Cn Cc, .slice KA Kn Kc] 27) := ⟨_, rfl⟩
  have B0 := Lib.hid (show Below w.heap.size w W0 from by rw [hW0]; exact below_alloc1 w _)
  have N0 := Lib.hid (show Has W0 w.heap.size #[.int .i64 now, .int .i64 next, .slice LA Ln Lc, .slice SA Sn Sc, .slice CA Cn Cc, .slice KA Kn Kc] from by rw [hW0]; exact Has.newAt w _ 27 rfl)
  have HW0 := Lib.hid hW0
  have c0 := N0.out.cell
  have l0 := N0.out.lt
  clear hW0
  show Calls Try.prog 15 #[.agg #[.int .i64 now, .int .i64 next, .slice LA Ln Lc, .slice SA Sn Sc, .slice CA Cn Cc, .slice KA Kn Kc]] w _
  cases q1 : inR (Kn : Int) 1 20 with
  | false =>
    have Q1 := Lib.hid q1
    have R := Lib.hid (chk_top (n := V) (by rw [TOP.out, q1]; simp))
    clear q1
    go_enter Try.func15, Try.ntmps15
    go_wp2_with (go_at_call 35; refine (within_any _ _ _ _).mono ?_; rintro e w' ⟨rfl, rfl⟩; first | rw [Q1.out])
    go_ret
    exact ⟨ret_int R.out.symm, by rw [← HW0.out]; exact B0.out⟩
  | true =>
  cases q2 : inR now 0 1099511627776 with
  | false =>
    have Q1 := Lib.hid q1
    have Q2 := Lib.hid q2
    have R := Lib.hid (chk_top (n := V) (by rw [TOP.out, q2]; simp))
    clear q1 q2
    go_enter Try.func15, Try.ntmps15
    go_wp2_with (go_at_call 35; refine (within_any _ _ _ _).mono ?_; rintro e w' ⟨rfl, rfl⟩; first | rw [Q1.out] | rw [Q2.out])
    go_ret
    exact ⟨ret_int R.out.symm, by rw [← HW0.out]; exact B0.out⟩
  | true =>
  cases q3 : inR next 0 1099511627776 with
  | false =>
    have Q1 := Lib.hid q1
    have Q2 := Lib.hid q2
    have Q3 := Lib.hid q3
    have R := Lib.hid (chk_top (n := V) (by rw [TOP.out, q3]; simp))
    clear q1 q2 q3
    go_enter Try.func15, Try.ntmps15
    go_wp2_with (go_at_call 35; refine (within_any _ _ _ _).mono ?_; rintro e w' ⟨rfl, rfl⟩; first | rw [Q1.out] | rw [Q2.out] | rw [Q3.out])
    go_ret
    exact ⟨ret_int R.out.symm, by rw [← HW0.out]; exact B0.out⟩
  | true =>
  have Q1 := Lib.hid q1
  have Q2 := Lib.hid q2
  have Q3 := Lib.hid q3
  by_cases q4 : 1024 < Ln
  · have R := Lib.hid (chk_top (n := V) (by rw [TOP.out, decide_eq_false (by omega)]; simp))
    have d4 : decide ((1024 : Int) < (Ln : Int)) = true := decide_eq_true (by omega)
    have d4n : decide (1024 < Ln) = true := decide_eq_true (by omega)
    clear q1 q2 q3
    go_enter Try.func15, Try.ntmps15
    go_wp2_with (go_at_call 35; refine (within_any _ _ _ _).mono ?_; rintro e w' ⟨rfl, rfl⟩; first | rw [Q1.out] | rw [Q2.out] | rw [Q3.out])
    go_ret
    exact ⟨ret_int R.out.symm, by rw [← HW0.out]; exact B0.out⟩
  have T1 := Lib.hid (show topB V = true from by rw [TOP.out, q1, q2, q3, decide_eq_true (by omega)]; rfl)
  have d4 : decide ((1024 : Int) < (Ln : Int)) = false := decide_eq_false (by omega)
  have d4n : decide (1024 < Ln) = false := decide_eq_false (by omega)
  have NX := Lib.hid (show 0 ≤ next ∧ next ≤ 1099511627776 from by unfold inR at q3; simpa using q3)
  clear q1 q2 q3 q4 TOP
  go_enter Try.func15, Try.ntmps15
  go_wp2_with (go_at_call 35; refine (within_any _ _ _ _).mono ?_; rintro e w' ⟨rfl, rfl⟩; first | rw [Q1.out] | rw [Q2.out] | rw [Q3.out])
  rw [← HW0.out]
  clear Q1 Q2 Q3 d4 d4n
  go_loopg [40] Kn (fun gg s wr => ∃ k : Nat, k ≤ Kn ∧ Kn - k ≤ gg ∧ s = .int .i64 k ∧ W0 = wr ∧ Hid (allTo (skewAt K) k = true))
  case atStart => exact ⟨0, Nat.zero_le _, by omega, rfl, rfl, Lib.hid (allTo_zero _)⟩
  case round =>
    obtain ⟨k, hk, hgg, rfl, rfl, I1⟩ := hrel
    by_cases hlt : k < Kn
    · obtain ⟨b, off, hkl, rfl, hbl, x0⟩ := int_at (HK.out.below B0.out) hlt
      have AT := Lib.hid (skewAt_at hkl)
      generalize K[k] = x at *
      cases hq : inR x (-10) 10 with
      | false =>
        have HQ := Lib.hid hq
        have R := Lib.hid (XK.out k hlt (AT.out.trans hq))
        clear hq
        go_wp2_with (go_at_call 35; refine (within_any _ _ _ _).mono ?_; rintro e w' ⟨rfl, rfl⟩; first | rw [HQ.out])
        go_ret
        exact ⟨ret_int R.out.symm, B0.out⟩
      | true =>
        have HQ := Lib.hid hq
        have I2 := Lib.hid (show allTo (skewAt K) (k + 1) = true from by rw [allTo_succ, I1.out, AT.out, hq]; rfl)
        clear hq
        go_wp2_with (go_at_call 35; refine (within_any _ _ _ _).mono ?_; rintro e w' ⟨rfl, rfl⟩; first | rw [HQ.out])
        go_roundg (Kn - (k + 1))
        case measure => omega
        case rel => exact ⟨k + 1, by omega, by omega, by go_num, rfl, I2⟩
    · obtain rfl : Kn = k := by omega
      have IK := I1
      clear I1 hgg hk hlt
      have N1 := Lib.hid (N0.out.alloc (.map #[] 0))
      have B1 := Lib.hid (B0.out.alloc B0.out.size (.map #[] 0))
      have M1 := Lib.hid (met_made W0)
      have mz := N0.out.lt
      go_wp2_with fail
      go_loopg [52] Sn (fun gg s wr => ∃ k : Nat, k ≤ Sn ∧ Sn - k ≤ gg ∧ s = .int .i64 k ∧ W0.heap.size < wr.heap.size ∧ Hid (Has wr w.heap.size #[.int .i64 now, .int .i64 next, .slice LA Ln Lc, .slice SA Sn Sc, .slice CA Cn Cc, .slice KA Kn Kc]) ∧ Hid (Below w.heap.size w wr) ∧ Hid (Met wr W0.heap.size (S.take k)) ∧ Hid (allTo (slipAt S) k = true))
      case atStart => exact ⟨0, Nat.zero_le _, by omega, rfl, by simp, N1, B1, by simpa using M1, Lib.hid (allTo_zero _)⟩
      case round =>
        obtain ⟨k, hk, hgg, rfl, hmb, N2, B2, M2, I1⟩ := hrel
        clear c0 l0 N1 B1 M1
        have c2 := N2.out.cell
        have l2 := N2.out.lt
        by_cases hlt : k < Sn
        · obtain ⟨b, off, hkl, rfl, hbl, x0, x1, x2⟩ := sp_at (HS.out.below B2.out) hlt
          have wf := (HS.out.each S[k] (List.getElem_mem hkl)).1
          have AT := Lib.hid (slipAt_at hkl)
          have TS := Lib.hid (List.take_succ_eq_append_getElem hkl)
          have XSK := Lib.hid (fun h => XS.out k hlt h)
          generalize S[k] = x at *
          have B3 := Lib.hid (B2.out.alloc B2.out.size (.cells #[.int .i64 x.no, .int .i64 x.kind, .int .i64 x.amt] 54))
          have N3 := Lib.hid (N2.out.alloc (.cells #[.int .i64 x.no, .int .i64 x.kind, .int .i64 x.amt] 54))
          have M3 := Lib.hid (M2.out.below (below_alloc1 wr (.cells #[.int .i64 x.no, .int .i64 x.kind, .int .i64 x.amt] 54)))
          have X3 := Lib.hid (Has.newAt wr #[.int .i64 x.no, .int .i64 x.kind, .int .i64 x.amt] 54 (g := wr.heap.size) rfl)
          have SP := Lib.hid (slipped_any x)
          cases hq : okSlip x with
          | false =>
            rw [hq] at SP
            have R := Lib.hid (XSK.out (by rw [AT.out, hq]; rfl))
            clear hq
            go_wp2_with (refine (SP.out _).mono ?_; rintro e w3 ⟨rfl, hb3⟩; have BB := Lib.hid (below_from hb3 B3.out B3.out.size); clear hb3)
            go_ret
            exact ⟨ret_int R.out.symm, BB.out⟩
          | true =>
            rw [hq] at SP
            cases hn : noIn x.no (S.take k) with
            | true =>
              have HN := Lib.hid hn
              have R := Lib.hid (XSK.out (by rw [AT.out, hq, hn]; rfl))
              clear hq hn
              go_wp2_with (refine (SP.out _).mono ?_; rintro e w3 ⟨rfl, hb3⟩; have BB := Lib.hid (below_from hb3 B3.out B3.out.size); have X4 := X3.out.past hb3; have x4 := X4.cell; have xl := X4.lt; have lk := (M3.out.below hb3).look wf; rw [HN.out] at lk; clear hb3 X4)
              go_ret
              exact ⟨ret_int R.out.symm, BB.out⟩
            | false =>
              have HN := Lib.hid hn
              have I2 := Lib.hid (show allTo (slipAt S) (k + 1) = true from by rw [allTo_succ, I1.out, AT.out, hq, hn]; rfl)
              clear hq hn
              go_wp2_with (refine (SP.out _).mono ?_; rintro e w3 ⟨rfl, hb3⟩; have BB := Lib.hid (below_from hb3 B3.out B3.out.size); have X4 := X3.out.past hb3; have N4 := Lib.hid (N3.out.past hb3); have x4 := X4.cell; have xl := X4.lt; have M4 := Lib.hid (M3.out.below hb3); have lk := M4.out.look wf; rw [HN.out] at lk; obtain ⟨w5, r1, r2, r3⟩ := M4.out.more wf (by rw [List.length_take]; omega); have M5 := Lib.hid r2; have G5 := Lib.hid r3; have hs3 := Nat.lt_of_lt_of_le hmb (Nat.le_trans (by simp) hb3.size); clear hb3 X4 r2 r3)
              have ne2 : w.heap.size ≠ W0.heap.size := by omega
              have N5 := Lib.hid (N4.out.grown G5.out ne2)
              have B5 := Lib.hid (BB.out.grown G5.out BB.out.size (fun q hq => by injection hq; omega))
              have z5 := G5.out.size
              go_roundg (Sn - (k + 1))
              case measure => omega
              case rel => exact ⟨k + 1, by omega, by omega, by go_num, by omega, N5, B5, by rw [TS.out]; exact M5, I2⟩
        · obtain rfl : Sn = k := by omega
          have IS := I1
          clear I1 hgg hk hlt M2
          go_wp2_with fail
          go_loopg [72] Cn (fun gg s wr => ∃ k : Nat, k ≤ Cn ∧ Cn - k ≤ gg ∧ s = .int .i64 k ∧ Hid (Has wr w.heap.size #[.int .i64 now, .int .i64 next, .slice LA Ln Lc, .slice SA Sn Sc, .slice CA Cn Cc, .slice KA Kn Kc]) ∧ Hid (Below w.heap.size w wr) ∧ Hid (allTo (cutAt Kn C) k = true))
          case atStart => exact ⟨0, Nat.zero_le _, by omega, rfl, N2, B2, Lib.hid (allTo_zero _)⟩
          case round =>
            obtain ⟨k, hk, hgg, rfl, N3, B3, I1⟩ := hrel
            clear c2 l2 N2 B2
            have c3 := N3.out.cell
            have l3 := N3.out.lt
            by_cases hlt : k < Cn
            · obtain ⟨b, off, hkl, rfl, hbl, x0, x1⟩ := pr_at (HC.out.below B3.out) hlt
              have wf := HC.out.each C[k] (List.getElem_mem hkl)
              have XCK := Lib.hid (fun h => XC.out k hlt h)
              have B4 := Lib.hid (B3.out.alloc B3.out.size (.cells #[.int .i64 C[k].a, .int .i64 C[k].b] 63))
              by_cases h0 : k = 0
              · subst h0
                have AT := Lib.hid (cutAt_zero (m := Kn) hkl)
                generalize C[0] = x at *
                simp only [Nat.zero_mul, Nat.add_zero] at x0 x1
                have N4 := Lib.hid (N3.out.alloc (.cells #[.int .i64 x.a, .int .i64 x.b] 63))
                have X4 := Lib.hid (Has.newAt wr #[.int .i64 x.a, .int .i64 x.b] 63 (g := wr.heap.size) rfl)
                have rx0 := at_regrown (X4.out.cell 0)
                have rx1 := at_regrown (X4.out.cell 1)
                have rn4 := at_regrown (N4.out.cell 4)
                have IA := Lib.hid (fun w' (h : Below (wr.alloc (.cells #[.int .i64 x.a, .int .i64 x.b] 63)).heap.size (wr.alloc (.cells #[.int .i64 x.a, .int .i64 x.b] 63)) w') => is_any ⟨now, next, LA, Ln, Lc, L, SA, Sn, Sc, S, some ⟨b, off, none⟩, Cn, Cc, C, KA, Kn, Kc, K⟩ x.a w.heap.size w' (N4.out.past h) (Nat.le_trans hk1 hk2))
                have IB := Lib.hid (fun w' (h : Below (wr.alloc (.cells #[.int .i64 x.a, .int .i64 x.b] 63)).heap.size (wr.alloc (.cells #[.int .i64 x.a, .int .i64 x.b] 63)) w') => is_any ⟨now, next, LA, Ln, Lc, L, SA, Sn, Sc, S, some ⟨b, off, none⟩, Cn, Cc, C, KA, Kn, Kc, K⟩ x.b w.heap.size w' (N4.out.past h) (Nat.le_trans hk1 hk2))
                dsimp only at IA IB
                have PO := IA
                clear wf hkl
                cases e1 : endB Kn x.a with
                | false =>
                  rw [e1] at IA
                  have R := Lib.hid (XCK.out (by rw [AT.out, e1]; simp))
                  go_wp2_with fail
                  refine region_below (by kernel_rfl) (by kernel_rfl) ?_
                  iterate 4 (go_big_quiet_step (exact call_regrown_same IA.out))
                  iterate 6 (go_big_quiet_step (exact call_regrown_same IB.out))
                  repeat (go_big_quiet_step (exact call_regrown PO.out))
                  refine wpQuiet_nil ?_
                  intro wz hbz
                  have BZ := Lib.hid (below_from hbz B4.out B4.out.size)
                  have NZ := Lib.hid (N4.out.past hbz)
                  clear hbz
                  go_wp2_with fail
                  go_ret
                  exact ⟨ret_int R.out.symm, BZ.out⟩
                | true =>
                rw [e1] at IA
                cases e2 : endB Kn x.b with
                | false =>
                  rw [e2] at IB
                  have R := Lib.hid (XCK.out (by rw [AT.out, e2]; simp))
                  go_wp2_with fail
                  refine region_below (by kernel_rfl) (by kernel_rfl) ?_
                  iterate 4 (go_big_quiet_step (exact call_regrown_same IA.out))
                  iterate 6 (go_big_quiet_step (exact call_regrown_same IB.out))
                  repeat (go_big_quiet_step (exact call_regrown PO.out))
                  refine wpQuiet_nil ?_
                  intro wz hbz
                  have BZ := Lib.hid (below_from hbz B4.out B4.out.size)
                  have NZ := Lib.hid (N4.out.past hbz)
                  clear hbz
                  go_wp2_with fail
                  go_ret
                  exact ⟨ret_int R.out.symm, BZ.out⟩
                | true =>
                rw [e2] at IB
                by_cases e3 : x.a < x.b
                · have g3 : decide (x.b ≤ x.a) = false := decide_eq_false (by omega)
                  have I2 := Lib.hid (show allTo (cutAt Kn C) (0 + 1) = true from by rw [allTo_succ, I1.out, AT.out, e1, e2, decide_eq_true e3]; rfl)
                  go_wp2_with fail
                  refine region_below (by kernel_rfl) (by kernel_rfl) ?_
                  iterate 4 (go_big_quiet_step (exact call_regrown_same IA.out))
                  iterate 6 (go_big_quiet_step (exact call_regrown_same IB.out))
                  repeat (go_big_quiet_step (exact call_regrown PO.out))
                  refine wpQuiet_nil ?_
                  intro wz hbz
                  have BZ := Lib.hid (below_from hbz B4.out B4.out.size)
                  have NZ := Lib.hid (N4.out.past hbz)
                  clear hbz
                  go_wp2_with fail
                  go_roundg (Cn - (0 + 1))
                  case measure => omega
                  case rel => exact ⟨0 + 1, by omega, by omega, by go_num, NZ, BZ, I2⟩
                · have g3 : decide (x.b ≤ x.a) = true := decide_eq_true (by omega)
                  have R := Lib.hid (XCK.out (by rw [AT.out, decide_eq_false e3]; simp))
                  go_wp2_with fail
                  refine region_below (by kernel_rfl) (by kernel_rfl) ?_
                  iterate 4 (go_big_quiet_step (exact call_regrown_same IA.out))
                  iterate 6 (go_big_quiet_step (exact call_regrown_same IB.out))
                  repeat (go_big_quiet_step (exact call_regrown PO.out))
                  refine wpQuiet_nil ?_
                  intro wz hbz
                  have BZ := Lib.hid (below_from hbz B4.out B4.out.size)
                  have NZ := Lib.hid (N4.out.past hbz)
                  clear hbz
                  go_wp2_with fail
                  go_ret
                  exact ⟨ret_int R.out.symm, BZ.out⟩
              · obtain ⟨j, rfl⟩ : ∃ j, k = j + 1 := ⟨k - 1, by omega⟩
                obtain ⟨b2, off2, hkl2, e, hbl2, y0, y1⟩ := pr_at (HC.out.below B4.out) (show j < Cn by omega)
                injection e with e; injection e with e1 e2
                subst e1 e2
                have AT := Lib.hid (cutAt_succ (m := Kn) hkl hkl2)
                have wfy := HC.out.each C[j] (List.getElem_mem hkl2)
                have dk : decide ((0 : Int) < (j : Int) + 1) = true := decide_eq_true (by omega)
                have jk : (j : Int) < (Cn : Int) := by omega
                generalize C[j + 1] = x at *
                generalize C[j] = y at *
                have N4 := Lib.hid (N3.out.alloc (.cells #[.int .i64 x.a, .int .i64 x.b] 63))
                have X4 := Lib.hid (Has.newAt wr #[.int .i64 x.a, .int .i64 x.b] 63 (g := wr.heap.size) rfl)
                have rx0 := at_regrown (X4.out.cell 0)
                have rx1 := at_regrown (X4.out.cell 1)
                have rn4 := at_regrown (N4.out.cell 4)
                have IA := Lib.hid (fun w' (h : Below (wr.alloc (.cells #[.int .i64 x.a, .int .i64 x.b] 63)).heap.size (wr.alloc (.cells #[.int .i64 x.a, .int .i64 x.b] 63)) w') => is_any ⟨now, next, LA, Ln, Lc, L, SA, Sn, Sc, S, some ⟨b, off, none⟩, Cn, Cc, C, KA, Kn, Kc, K⟩ x.a w.heap.size w' (N4.out.past h) (Nat.le_trans hk1 hk2))
                have IB := Lib.hid (fun w' (h : Below (wr.alloc (.cells #[.int .i64 x.a, .int .i64 x.b] 63)).heap.size (wr.alloc (.cells #[.int .i64 x.a, .int .i64 x.b] 63)) w') => is_any ⟨now, next, LA, Ln, Lc, L, SA, Sn, Sc, S, some ⟨b, off, none⟩, Cn, Cc, C, KA, Kn, Kc, K⟩ x.b w.heap.size w' (N4.out.past h) (Nat.le_trans hk1 hk2))
                dsimp only at IA IB
                have ry0 := at_regrown y0
                have ry1 := at_regrown y1
                have LT := Lib.hid (ordPr_lt y x)
                have PO := Lib.hid (fun w' (_ : Below (wr.alloc (.cells #[.int .i64 x.a, .int .i64 x.b] 63)).heap.size (wr.alloc (.cells #[.int .i64 x.a, .int .i64 x.b] 63)) w') => pairs_any y x wfy wf w')
                generalize ordPr y x = q at *
                clear wf hkl
                cases e1 : endB Kn x.a with
                | false =>
                  rw [e1] at IA
                  have R := Lib.hid (XCK.out (by rw [AT.out, e1]; simp))
                  go_wp2_with fail
                  refine region_below (by kernel_rfl) (by kernel_rfl) ?_
                  iterate 4 (go_big_quiet_step (exact call_regrown_same IA.out))
                  iterate 6 (go_big_quiet_step (exact call_regrown_same IB.out))
                  repeat (go_big_quiet_step (exact call_regrown PO.out))
                  refine wpQuiet_nil ?_
                  intro wz hbz
                  have BZ := Lib.hid (below_from hbz B4.out B4.out.size)
                  have NZ := Lib.hid (N4.out.past hbz)
                  clear hbz
                  go_wp2_with fail
                  go_ret
                  exact ⟨ret_int R.out.symm, BZ.out⟩
                | true =>
                rw [e1] at IA
                cases e2 : endB Kn x.b with
                | false =>
                  rw [e2] at IB
                  have R := Lib.hid (XCK.out (by rw [AT.out, e2]; simp))
                  go_wp2_with fail
                  refine region_below (by kernel_rfl) (by kernel_rfl) ?_
                  iterate 4 (go_big_quiet_step (exact call_regrown_same IA.out))
                  iterate 6 (go_big_quiet_step (exact call_regrown_same IB.out))
                  repeat (go_big_quiet_step (exact call_regrown PO.out))
                  refine wpQuiet_nil ?_
                  intro wz hbz
                  have BZ := Lib.hid (below_from hbz B4.out B4.out.size)
                  have NZ := Lib.hid (N4.out.past hbz)
                  clear hbz
                  go_wp2_with fail
                  go_ret
                  exact ⟨ret_int R.out.symm, BZ.out⟩
                | true =>
                rw [e2] at IB
                by_cases e3 : x.a < x.b
                · have g3 : decide (x.b ≤ x.a) = false := decide_eq_false (by omega)
                  cases e4 : ltP y x with
                  | false =>
                    have g4 : decide (0 ≤ q) = true := decide_eq_true (by apply Int.not_lt.1; intro h; rw [LT.out] at h; rw [h] at e4; cases e4)
                    have R := Lib.hid (XCK.out (by rw [AT.out, e4]; simp))
                    go_wp2_with fail
                    refine region_below (by kernel_rfl) (by kernel_rfl) ?_
                    iterate 4 (go_big_quiet_step (exact call_regrown_same IA.out))
                    iterate 6 (go_big_quiet_step (exact call_regrown_same IB.out))
                    repeat (go_big_quiet_step (exact call_regrown PO.out))
                    refine wpQuiet_nil ?_
                    intro wz hbz
                    have BZ := Lib.hid (below_from hbz B4.out B4.out.size)
                    have NZ := Lib.hid (N4.out.past hbz)
                    clear hbz
                    go_wp2_with fail
                    go_ret
                    exact ⟨ret_int R.out.symm, BZ.out⟩
                  | true =>
                    have g4 : decide (0 ≤ q) = false := decide_eq_false (by have := LT.out.2 e4; omega)
                    have I2 := Lib.hid (show allTo (cutAt Kn C) ((j + 1) + 1) = true from by rw [allTo_succ, I1.out, AT.out, e1, e2, decide_eq_true e3, e4]; rfl)
                    go_wp2_with fail
                    refine region_below (by kernel_rfl) (by kernel_rfl) ?_
                    iterate 4 (go_big_quiet_step (exact call_regrown_same IA.out))
                    iterate 6 (go_big_quiet_step (exact call_regrown_same IB.out))
                    repeat (go_big_quiet_step (exact call_regrown PO.out))
                    refine wpQuiet_nil ?_
                    intro wz hbz
                    have BZ := Lib.hid (below_from hbz B4.out B4.out.size)
                    have NZ := Lib.hid (N4.out.past hbz)
                    clear hbz
                    go_wp2_with fail
                    go_roundg (Cn - ((j + 1) + 1))
                    case measure => omega
                    case rel => exact ⟨(j + 1) + 1, by omega, by omega, by go_num, NZ, BZ, I2⟩
                · have g3 : decide (x.b ≤ x.a) = true := decide_eq_true (by omega)
                  have R := Lib.hid (XCK.out (by rw [AT.out, decide_eq_false e3]; simp))
                  go_wp2_with fail
                  refine region_below (by kernel_rfl) (by kernel_rfl) ?_
                  iterate 4 (go_big_quiet_step (exact call_regrown_same IA.out))
                  iterate 6 (go_big_quiet_step (exact call_regrown_same IB.out))
                  repeat (go_big_quiet_step (exact call_regrown PO.out))
                  refine wpQuiet_nil ?_
                  intro wz hbz
                  have BZ := Lib.hid (below_from hbz B4.out B4.out.size)
                  have NZ := Lib.hid (N4.out.past hbz)
                  clear hbz
                  go_wp2_with fail
                  go_ret
                  exact ⟨ret_int R.out.symm, BZ.out⟩
            · obtain rfl : Cn = k := by omega
              have IC := I1
              clear I1 hgg hk hlt
              go_wp2_with fail
              go_loopg [115] Ln (fun gg s wr => ∃ k : Nat, k ≤ Ln ∧ Ln - k ≤ gg ∧ s = .int .i64 k ∧ Hid (Has wr w.heap.size #[.int .i64 now, .int .i64 next, .slice LA Ln Lc, .slice SA Sn Sc, .slice CA Cn Cc, .slice KA Kn Kc]) ∧ Hid (Below w.heap.size w wr) ∧ Hid (allTo (msgAt Kn now next (L.map Mg.val)) k = true))
              case atStart => exact ⟨0, Nat.zero_le _, by omega, rfl, N3, B3, Lib.hid (allTo_zero _)⟩
              case round =>
                obtain ⟨k, hk, hgg, rfl, N4, B4, I1⟩ := hrel
                clear c3 l3 N3 B3
                have c4 := N4.out.cell
                have l4 := N4.out.lt
                by_cases hlt : k < Ln
                · obtain ⟨b, off, hkl, rfl, hbl, x0, x1, x2, x3, x4⟩ := mg_at (HL.out.below B4.out) hlt
                  have bl : L[k].bs.length = L[k].n := (HL.out.each L[k] (List.getElem_mem hkl)).len
                  have XMK := Lib.hid (fun h => XM.out k hlt h)
                  have wrn : IntKind.i64.wrap (next - 1) = next - 1 := IntWalk.i64_in _ (by have := NX.out; omega)
                  by_cases h0 : k = 0
                  · subst h0
                    have AT := Lib.hid (show _ = (endB Kn L[0].frm && endB Kn L[0].dst && inR L[0].t now 1099511627776 && inR L[0].no 0 (next - 1) && decide (L[0].bs.length ≤ 4096)) from msgAt_zero (m := Kn) (now := now) (next := next) hkl)
                    generalize L[0] = x at *
                    simp only [Nat.zero_mul, Nat.add_zero] at x0 x1 x2 x3 x4
                    have B5 := Lib.hid (B4.out.alloc B4.out.size (.cells #[.int .i64 x.t, .int .i64 x.no, .int .i64 x.frm, .int .i64 x.dst, .slice x.A x.n x.c] 40))
                    have N5 := Lib.hid (N4.out.alloc (.cells #[.int .i64 x.t, .int .i64 x.no, .int .i64 x.frm, .int .i64 x.dst, .slice x.A x.n x.c] 40))
                    have X5 := Lib.hid (Has.newAt wr #[.int .i64 x.t, .int .i64 x.no, .int .i64 x.frm, .int .i64 x.dst, .slice x.A x.n x.c] 40 (g := wr.heap.size) rfl)
                    have IS := Lib.hid (fun a => (show Calls Try.prog 34 #[.int .i64 a, .pointer (some ⟨w.heap.size, 0, none⟩)] (wr.alloc (.cells #[.int .i64 x.t, .int .i64 x.no, .int .i64 x.frm, .int .i64 x.dst, .slice x.A x.n x.c] 40)) (fun e w' => e = .returned (.bool (endB Kn a)) ∧ wr.alloc (.cells #[.int .i64 x.t, .int .i64 x.no, .int .i64 x.frm, .int .i64 x.dst, .slice x.A x.n x.c] 40) = w') from is_any ⟨now, next, some ⟨b, off, none⟩, Ln, Lc, L, SA, Sn, Sc, S, CA, Cn, Cc, C, KA, Kn, Kc, K⟩ a w.heap.size _ N5.out (Nat.le_trans hk1 hk2)))
                    cases e1 : endB Kn x.frm with
                    | false =>
                      have E1 := Lib.hid e1
                      have R := Lib.hid (XMK.out (by rw [AT.out, e1]; simp))
                      go_wp2_with ((go_at_call 34; refine (IS.out _).mono ?_; rintro e w' ⟨rfl, rfl⟩; first | rw [E1.out]))
                      go_ret
                      exact ⟨ret_int R.out.symm, B5.out⟩
                    | true =>
                    have E1 := Lib.hid e1
                    cases e2 : endB Kn x.dst with
                    | false =>
                      have E2 := Lib.hid e2
                      have R := Lib.hid (XMK.out (by rw [AT.out, e2]; simp))
                      go_wp2_with ((go_at_call 34; refine (IS.out _).mono ?_; rintro e w' ⟨rfl, rfl⟩; first | rw [E1.out] | rw [E2.out]))
                      go_ret
                      exact ⟨ret_int R.out.symm, B5.out⟩
                    | true =>
                    have E2 := Lib.hid e2
                    cases e3 : inR x.t now 1099511627776 with
                    | false =>
                      have E3 := Lib.hid e3
                      have R := Lib.hid (XMK.out (by rw [AT.out, e3]; simp))
                      go_wp2_with (first | (go_at_call 34; refine (IS.out _).mono ?_; rintro e w' ⟨rfl, rfl⟩; first | rw [E1.out] | rw [E2.out]) | (go_at_call 35; refine (within_any _ _ _ _).mono ?_; rintro e w' ⟨rfl, rfl⟩; first | rw [E3.out]))
                      go_ret
                      exact ⟨ret_int R.out.symm, B5.out⟩
                    | true =>
                    have E3 := Lib.hid e3
                    cases e4 : inR x.no 0 (next - 1) with
                    | false =>
                      have E4 := Lib.hid e4
                      have R := Lib.hid (XMK.out (by rw [AT.out, e4]; simp))
                      go_wp2_with (first | (go_at_call 34; refine (IS.out _).mono ?_; rintro e w' ⟨rfl, rfl⟩; first | rw [E1.out] | rw [E2.out]) | (go_at_call 35; refine (within_any _ _ _ _).mono ?_; rintro e w' ⟨rfl, rfl⟩; first | rw [E3.out] | rw [E4.out]))
                      go_ret
                      exact ⟨ret_int R.out.symm, B5.out⟩
                    | true =>
                    have E4 := Lib.hid e4
                    by_cases e5 : x.bs.length ≤ 4096
                    · have g5 : decide ((4096 : Int) < (x.n : Int)) = false := decide_eq_false (by omega)
                      have g6 : decide (4096 < x.n) = false := decide_eq_false (by omega)
                      have I2 := Lib.hid (show allTo (msgAt Kn now next (L.map Mg.val)) (0 + 1) = true from by rw [allTo_succ, I1.out, AT.out, e1, e2, e3, e4, decide_eq_true e5]; rfl)
                      go_wp2_with (first | (go_at_call 34; refine (IS.out _).mono ?_; rintro e w' ⟨rfl, rfl⟩; first | rw [E1.out] | rw [E2.out]) | (go_at_call 35; refine (within_any _ _ _ _).mono ?_; rintro e w' ⟨rfl, rfl⟩; first | rw [E3.out] | rw [E4.out]))
                      refine region_below (by kernel_rfl) (by kernel_rfl) ?_
                      repeat (go_big_quiet_step (fail))
                      refine wpQuiet_nil ?_
                      intro wz hbz
                      have BZ := Lib.hid (below_from hbz B5.out B5.out.size)
                      have NZ := Lib.hid (N5.out.past hbz)
                      clear hbz
                      go_wp2_with fail
                      go_roundg (Ln - (0 + 1))
                      case measure => omega
                      case rel => exact ⟨0 + 1, by omega, by omega, by go_num, NZ, BZ, I2⟩
                    · have g5 : decide ((4096 : Int) < (x.n : Int)) = true := decide_eq_true (by omega)
                      have g6 : decide (4096 < x.n) = true := decide_eq_true (by omega)
                      have R := Lib.hid (XMK.out (by rw [AT.out, decide_eq_false e5]; simp))
                      go_wp2_with (first | (go_at_call 34; refine (IS.out _).mono ?_; rintro e w' ⟨rfl, rfl⟩; first | rw [E1.out] | rw [E2.out]) | (go_at_call 35; refine (within_any _ _ _ _).mono ?_; rintro e w' ⟨rfl, rfl⟩; first | rw [E3.out] | rw [E4.out]))
                      go_ret
                      exact ⟨ret_int R.out.symm, B5.out⟩
                  · obtain ⟨j, rfl⟩ : ∃ j, k = j + 1 := ⟨k - 1, by omega⟩
                    obtain ⟨b2, off2, hkl2, e, hbl2, y0, y1, y2, y3, y4⟩ := mg_at (HL.out.below ((B4.out.alloc B4.out.size (.cells #[.int .i64 L[j + 1].t, .int .i64 L[j + 1].no, .int .i64 L[j + 1].frm, .int .i64 L[j + 1].dst, .slice L[j + 1].A L[j + 1].n L[j + 1].c] 40)))) (show j < Ln by omega)
                    injection e with e; injection e with e1 e2
                    subst e1 e2
                    have AT := Lib.hid (show _ = (endB Kn L[j + 1].frm && endB Kn L[j + 1].dst && inR L[j + 1].t now 1099511627776 && inR L[j + 1].no 0 (next - 1) && decide (L[j + 1].bs.length ≤ 4096) && aheadB L[j].val L[j + 1].val) from msgAt_succ (m := Kn) (now := now) (next := next) hkl hkl2)
                    have dk : decide ((0 : Int) < (j : Int) + 1) = true := decide_eq_true (by omega)
                    have jk : (j : Int) < (Ln : Int) := by omega
                    generalize L[j + 1] = x at *
                    generalize L[j] = y at *
                    have B5 := Lib.hid (B4.out.alloc B4.out.size (.cells #[.int .i64 x.t, .int .i64 x.no, .int .i64 x.frm, .int .i64 x.dst, .slice x.A x.n x.c] 40))
                    have N5 := Lib.hid (N4.out.alloc (.cells #[.int .i64 x.t, .int .i64 x.no, .int .i64 x.frm, .int .i64 x.dst, .slice x.A x.n x.c] 40))
                    have X5 := Lib.hid (Has.newAt wr #[.int .i64 x.t, .int .i64 x.no, .int .i64 x.frm, .int .i64 x.dst, .slice x.A x.n x.c] 40 (g := wr.heap.size) rfl)
                    have IS := Lib.hid (fun a => (show Calls Try.prog 34 #[.int .i64 a, .pointer (some ⟨w.heap.size, 0, none⟩)] (wr.alloc (.cells #[.int .i64 x.t, .int .i64 x.no, .int .i64 x.frm, .int .i64 x.dst, .slice x.A x.n x.c] 40)) (fun e w' => e = .returned (.bool (endB Kn a)) ∧ wr.alloc (.cells #[.int .i64 x.t, .int .i64 x.no, .int .i64 x.frm, .int .i64 x.dst, .slice x.A x.n x.c] 40) = w') from is_any ⟨now, next, some ⟨b, off, none⟩, Ln, Lc, L, SA, Sn, Sc, S, CA, Cn, Cc, C, KA, Kn, Kc, K⟩ a w.heap.size _ N5.out (Nat.le_trans hk1 hk2)))
                    have rn2 := at_regrown (N5.out.cell 2)
                    have rx0 := at_regrown (X5.out.cell 0)
                    have rx1 := at_regrown (X5.out.cell 1)
                    have rx2 := at_regrown (X5.out.cell 2)
                    have rx3 := at_regrown (X5.out.cell 3)
                    have rx4 := at_regrown (X5.out.cell 4)
                    have ry0 := at_regrown y0
                    have ry1 := at_regrown y1
                    have ry2 := at_regrown y2
                    have ry3 := at_regrown y3
                    have ry4 := at_regrown y4
                    have LT := Lib.hid (ordM_ahead y.val x.val)
                    have PO := Lib.hid (fun w' (_ : Below (wr.alloc (.cells #[.int .i64 x.t, .int .i64 x.no, .int .i64 x.frm, .int .i64 x.dst, .slice x.A x.n x.c] 40)).heap.size (wr.alloc (.cells #[.int .i64 x.t, .int .i64 x.no, .int .i64 x.frm, .int .i64 x.dst, .slice x.A x.n x.c] 40)) w') => order_any y x w')
                    generalize ordM y.val x.val = q at *
                    cases e1 : endB Kn x.frm with
                    | false =>
                      have E1 := Lib.hid e1
                      have R := Lib.hid (XMK.out (by rw [AT.out, e1]; simp))
                      go_wp2_with ((go_at_call 34; refine (IS.out _).mono ?_; rintro e w' ⟨rfl, rfl⟩; first | rw [E1.out]))
                      go_ret
                      exact ⟨ret_int R.out.symm, B5.out⟩
                    | true =>
                    have E1 := Lib.hid e1
                    cases e2 : endB Kn x.dst with
                    | false =>
                      have E2 := Lib.hid e2
                      have R := Lib.hid (XMK.out (by rw [AT.out, e2]; simp))
                      go_wp2_with ((go_at_call 34; refine (IS.out _).mono ?_; rintro e w' ⟨rfl, rfl⟩; first | rw [E1.out] | rw [E2.out]))
                      go_ret
                      exact ⟨ret_int R.out.symm, B5.out⟩
                    | true =>
                    have E2 := Lib.hid e2
                    cases e3 : inR x.t now 1099511627776 with
                    | false =>
                      have E3 := Lib.hid e3
                      have R := Lib.hid (XMK.out (by rw [AT.out, e3]; simp))
                      go_wp2_with (first | (go_at_call 34; refine (IS.out _).mono ?_; rintro e w' ⟨rfl, rfl⟩; first | rw [E1.out] | rw [E2.out]) | (go_at_call 35; refine (within_any _ _ _ _).mono ?_; rintro e w' ⟨rfl, rfl⟩; first | rw [E3.out]))
                      go_ret
                      exact ⟨ret_int R.out.symm, B5.out⟩
                    | true =>
                    have E3 := Lib.hid e3
                    cases e4 : inR x.no 0 (next - 1) with
                    | false =>
                      have E4 := Lib.hid e4
                      have R := Lib.hid (XMK.out (by rw [AT.out, e4]; simp))
                      go_wp2_with (first | (go_at_call 34; refine (IS.out _).mono ?_; rintro e w' ⟨rfl, rfl⟩; first | rw [E1.out] | rw [E2.out]) | (go_at_call 35; refine (within_any _ _ _ _).mono ?_; rintro e w' ⟨rfl, rfl⟩; first | rw [E3.out] | rw [E4.out]))
                      go_ret
                      exact ⟨ret_int R.out.symm, B5.out⟩
                    | true =>
                    have E4 := Lib.hid e4
                    by_cases e5 : x.bs.length ≤ 4096
                    · have g5 : decide ((4096 : Int) < (x.n : Int)) = false := decide_eq_false (by omega)
                      have g6 : decide (4096 < x.n) = false := decide_eq_false (by omega)
                      cases e6 : aheadB y.val x.val with
                      | false =>
                        have g4 : decide (0 < q) = true := decide_eq_true (by apply Int.not_le.1; intro h; rw [LT.out] at h; rw [h] at e6; cases e6)
                        have R := Lib.hid (XMK.out (by rw [AT.out, e6]; simp))
                        go_wp2_with (first | (go_at_call 34; refine (IS.out _).mono ?_; rintro e w' ⟨rfl, rfl⟩; first | rw [E1.out] | rw [E2.out]) | (go_at_call 35; refine (within_any _ _ _ _).mono ?_; rintro e w' ⟨rfl, rfl⟩; first | rw [E3.out] | rw [E4.out]))
                        refine region_below (by kernel_rfl) (by kernel_rfl) ?_
                        repeat (go_big_quiet_step (exact call_regrown PO.out))
                        refine wpQuiet_nil ?_
                        intro wz hbz
                        have BZ := Lib.hid (below_from hbz B5.out B5.out.size)
                        have NZ := Lib.hid (N5.out.past hbz)
                        clear hbz
                        go_wp2_with fail
                        go_ret
                        exact ⟨ret_int R.out.symm, BZ.out⟩
                      | true =>
                        have g4 : decide (0 < q) = false := decide_eq_false (by have := LT.out.2 e6; omega)
                        have I2 := Lib.hid (show allTo (msgAt Kn now next (L.map Mg.val)) ((j + 1) + 1) = true from by rw [allTo_succ, I1.out, AT.out, e1, e2, e3, e4, decide_eq_true e5, e6]; rfl)
                        go_wp2_with (first | (go_at_call 34; refine (IS.out _).mono ?_; rintro e w' ⟨rfl, rfl⟩; first | rw [E1.out] | rw [E2.out]) | (go_at_call 35; refine (within_any _ _ _ _).mono ?_; rintro e w' ⟨rfl, rfl⟩; first | rw [E3.out] | rw [E4.out]))
                        refine region_below (by kernel_rfl) (by kernel_rfl) ?_
                        repeat (go_big_quiet_step (exact call_regrown PO.out))
                        refine wpQuiet_nil ?_
                        intro wz hbz
                        have BZ := Lib.hid (below_from hbz B5.out B5.out.size)
                        have NZ := Lib.hid (N5.out.past hbz)
                        clear hbz
                        go_wp2_with fail
                        go_roundg (Ln - ((j + 1) + 1))
                        case measure => omega
                        case rel => exact ⟨(j + 1) + 1, by omega, by omega, by go_num, NZ, BZ, I2⟩
                    · have g5 : decide ((4096 : Int) < (x.n : Int)) = true := decide_eq_true (by omega)
                      have g6 : decide (4096 < x.n) = true := decide_eq_true (by omega)
                      have R := Lib.hid (XMK.out (by rw [AT.out, decide_eq_false e5]; simp))
                      go_wp2_with (first | (go_at_call 34; refine (IS.out _).mono ?_; rintro e w' ⟨rfl, rfl⟩; first | rw [E1.out] | rw [E2.out]) | (go_at_call 35; refine (within_any _ _ _ _).mono ?_; rintro e w' ⟨rfl, rfl⟩; first | rw [E3.out] | rw [E4.out]))
                      go_ret
                      exact ⟨ret_int R.out.symm, B5.out⟩
                · obtain rfl : Ln = k := by omega
                  have IM := I1
                  clear I1 hgg hk hlt
                  have R := Lib.hid (YES.out T1.out IK.out IS.out IC.out IM.out)
                  go_wp2_with fail
                  go_ret
                  exact ⟨ret_int R.out.symm, B4.out⟩

end Go.Proofs.Ytmlgahambecamaa
