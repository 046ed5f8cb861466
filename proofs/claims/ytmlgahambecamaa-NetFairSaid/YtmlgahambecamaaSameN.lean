/- Whether two nets are the same; whether a net is small; of the document. -/
import Derived.Test.YtmlgahambecamaaSameM
import Derived.Test.YtmlgahambecamaaArrEq
import Derived.Deep.DeepCutAuto
namespace Go.Proofs.Ytmlgahambecamaa
open Go.RowKit Go.Shelf

/-- Two rows agree as far as looked. -/
def upto {α : Type} (l m : List α) (k : Nat) : Prop := ∀ j (hj : j < l.length) (hj' : j < m.length), j < k → l[j] = m[j]
theorem upto_zero {α : Type} (l m : List α) : upto l m 0 := fun _ _ _ h => absurd h (Nat.not_lt_zero _)
theorem upto_succ {α : Type} {l m : List α} {k : Nat} (h : upto l m k) (h1 : k < l.length) (h2 : k < m.length) (e : l[k] = m[k]) : upto l m (k + 1) := fun j hj hj' hjk => by
  rcases Nat.lt_or_ge j k with h' | h'
  · exact h j hj hj' h'
  · obtain rfl : j = k := by omega
    exact e
theorem upto_all {α : Type} {l m : List α} {n : Nat} (h : upto l m n) (h1 : l.length = n) (h2 : m.length = n) : l = m := List.ext_getElem (by omega) (fun j hj hj' => h j hj hj' (by omega))
theorem upto_ne {α : Type} {l m : List α} {k : Nat} (h1 : k < l.length) (h2 : k < m.length) (h : l[k] ≠ m[k]) : l ≠ m := fun e => h (by subst e; rfl)
/-- A Bool that is a test. -/
theorem same_no {o q : Nv} (h : ¬ o = q) : decide (o = q) = false := decide_eq_false h

set_option maxHeartbeats 16000000 in
set_option maxRecDepth 100000 in
/-- Whether two nets are the same. -/
theorem same_any (o q : Nt) (w : World) (ho : Nt.At w o) (hq : Nt.At w q) : Calls Try.prog 17 #[o.v, q.v] w fun e w' => e = .returned (.bool (decide (o.val = q.val))) ∧ Below w.heap.size w w' := by
  have s1 := ho.s.cap
  have s2 := ho.s.max
  have s3 := hq.s.cap
  have s4 := hq.s.max
  have c1 := ho.c.cap
  have c2 := ho.c.max
  have c3 := hq.c.cap
  have c4 := hq.c.max
  have k1 := ho.k.cap
  have k2 := ho.k.max
  have k3 := hq.k.cap
  have k4 := hq.k.max
  have hl1 := ho.l.cap
  have hl2 := ho.l.max
  have hl3 := hq.l.cap
  have hl4 := hq.l.max
  have NE := Lib.hid (show (o.now ≠ q.now ∨ o.next ≠ q.next ∨ o.L.map Mg.val ≠ q.L.map Mg.val ∨ o.S ≠ q.S ∨ o.C ≠ q.C ∨ o.K ≠ q.K) → decide (o.val = q.val) = false from fun h => decide_eq_false (fun e => by
    unfold Nt.val at e
    simp only [Nv.mk.injEq] at e
    obtain ⟨e1, e2, e3, e4, e5, e6⟩ := e
    rcases h with h | h | h | h | h | h <;> exact h (by assumption)))
  have EQ := Lib.hid (show o.now = q.now → o.next = q.next → o.L.map Mg.val = q.L.map Mg.val → o.S = q.S → o.C = q.C → o.K = q.K → decide (o.val = q.val) = true from fun h1 h2 h3 h4 h5 h6 => decide_eq_true (by unfold Nt.val; rw [h1, h2, h3, h4, h5, h6]))
  have HS := Lib.hid ho.s
  have HC := Lib.hid ho.c
  have HK := Lib.hid ho.k
  have HL := Lib.hid ho.l
  have GS := Lib.hid hq.s
  have GC := Lib.hid hq.c
  have GK := Lib.hid hq.k
  have GL := Lib.hid hq.l
  obtain ⟨R, hR⟩ : ∃ b, decide (o.val = q.val) = b := ⟨_, rfl⟩
  rw [hR] at NE EQ
  rw [hR]
  clear hR ho hq
  obtain ⟨now, next, LA, Ln, Lc, L, SA, Sn, Sc, S, CA, Cn, Cc, C, KA, Kn, Kc, K⟩ := o
  obtain ⟨now', next', LA', Ln', Lc', L', SA', Sn', Sc', S', CA', Cn', Cc', C', KA', Kn', Kc', K'⟩ := q
  dsimp only at *
  obtain ⟨W0, hW0⟩ : ∃ W0, W0 = (w.alloc (.cells #[.int .i64 now, .int .i64 next, .slice LA Ln Lc, .slice SA Sn Sc, .slice CA Cn Cc, .slice KA Kn Kc] 27)).alloc (.cells #[.int .i64 now', .int .i64 next', .slice LA' Ln' Lc', .slice SA' Sn' Sc', .slice CA' Cn' Cc', .slice KA' Kn' Kc'] 27) := ⟨_, rfl⟩
  have B0 := Lib.hid (show Below w.heap.size w W0 from by rw [hW0]; exact ((Below.refl _ w).alloc (Nat.le_refl _) _).alloc (by simp) _)
  have N0 := Lib.hid (show Has W0 w.heap.size #[.int .i64 now, .int .i64 next, .slice LA Ln Lc, .slice SA Sn Sc, .slice CA Cn Cc, .slice KA Kn Kc] from by rw [hW0]; exact (Has.newAt w _ 27 rfl).alloc _)
  have M0 := Lib.hid (show Has W0 (w.heap.size + 1) #[.int .i64 now', .int .i64 next', .slice LA' Ln' Lc', .slice SA' Sn' Sc', .slice CA' Cn' Cc', .slice KA' Kn' Kc'] from by rw [hW0]; exact Has.newAt _ _ 27 (by simp))
  have HW0 := Lib.hid hW0
  have MS := Lib.hid (fun W (h : Below w.heap.size w W) => msgs_any LA Ln Lc L LA' Ln' Lc' L' W (HL.out.below h) (GL.out.below h))
  have n0c := N0.out.cell
  have n0l := N0.out.lt
  have m0c := M0.out.cell
  have m0l := M0.out.lt
  clear hW0
  show Calls Try.prog 17 #[.agg #[.int .i64 now, .int .i64 next, .slice LA Ln Lc, .slice SA Sn Sc, .slice CA Cn Cc, .slice KA Kn Kc], .agg #[.int .i64 now', .int .i64 next', .slice LA' Ln' Lc', .slice SA' Sn' Sc', .slice CA' Cn' Cc', .slice KA' Kn' Kc']] w _
  by_cases E1 : now = now'
  · have d1 : (now != now') = false := by rw [E1]; simp
    replace E1 := Lib.hid E1
    by_cases E2 : next = next'
    · have d2 : (next != next') = false := by rw [E2]; simp
      replace E2 := Lib.hid E2
      cases hm : decide (L.map Mg.val = L'.map Mg.val) with
      | false =>
        have EM := Lib.hid hm
        have E3 : ¬ L.map Mg.val = L'.map Mg.val := of_decide_eq_false hm
        clear hm
        have R0 := Lib.hid (NE.out (.inr (.inr (.inl E3))))
        go_enter Try.func17, Try.ntmps17
        go_upto_region 1 with (fail)
        rw [← HW0.out]
        go_wp2_with (go_at_call 23; refine (MS.out _ B0.out).mono ?_; rintro e w' ⟨rfl, hb⟩; rw [EM.out]; have N1 := Lib.hid (N0.out.past hb); have M1 := Lib.hid (M0.out.past hb); have n1c := N1.out.cell; have n1l := N1.out.lt; have m1c := M1.out.cell; have m1l := M1.out.lt; have B1 := Lib.hid (below_from hb B0.out B0.out.size); clear hb)
        go_ret
        exact ⟨ret_bool R0.out.symm, B1.out⟩
      | true =>
        have EM := Lib.hid hm
        have E3 := Lib.hid (of_decide_eq_true hm)
        clear hm
        by_cases e4 : Sn = Sn'
        · subst e4
          have d4 : ((Sn : Int) != (Sn : Int)) = false := by simp
          by_cases e5 : Cn = Cn'
          · subst e5
            have d5 : ((Cn : Int) != (Cn : Int)) = false := by simp
            by_cases e6 : Kn = Kn'
            · subst e6
              have d6 : ((Kn : Int) != (Kn : Int)) = false := by simp
              clear n0l m0l
              go_enter Try.func17, Try.ntmps17
              go_upto_region 1 with (fail)
              rw [← HW0.out]
              go_wp2_with (go_at_call 23; refine (MS.out _ B0.out).mono ?_; rintro e w' ⟨rfl, hb⟩; rw [EM.out]; have N1 := Lib.hid (N0.out.past hb); have M1 := Lib.hid (M0.out.past hb); have n1c := N1.out.cell; have n1l := N1.out.lt; have m1c := M1.out.cell; have m1l := M1.out.lt; have B1 := Lib.hid (below_from hb B0.out B0.out.size); clear hb)
              go_loopg [58] Sn (fun gg s wr => ∃ k : Nat, k ≤ Sn ∧ Sn - k ≤ gg ∧ s = .int .i64 k ∧ Hid (Below w.heap.size w wr) ∧ Hid (Has wr w.heap.size #[.int .i64 now, .int .i64 next, .slice LA Ln Lc, .slice SA Sn Sc, .slice CA Cn Cc, .slice KA Kn Kc]) ∧ Hid (Has wr (w.heap.size + 1) #[.int .i64 now', .int .i64 next', .slice LA' Ln' Lc', .slice SA' Sn Sc', .slice CA' Cn Cc', .slice KA' Kn Kc']) ∧ Hid (upto S S' k))
              case atStart => exact ⟨0, Nat.zero_le _, by omega, rfl, B1, N1, M1, Lib.hid (upto_zero _ _)⟩
              case round =>
                clear n1c n1l m1c m1l N1 M1 B1
                obtain ⟨k, hk, hgg, rfl, B2, N2, M2, I⟩ := hrel
                have n2c := N2.out.cell
                have n2l := N2.out.lt
                have m2c := M2.out.cell
                have m2l := M2.out.lt
                by_cases hlt : k < Sn
                · obtain ⟨b, off, hkl, rfl, hbl, x0, x1, x2⟩ := sp_at (HS.out.below B2.out) hlt
                  obtain ⟨b2, off2, hkm, rfl, hbl2, y0, y1, y2⟩ := sp_at (GS.out.below B2.out) hlt
                  have UN := Lib.hid (fun h => upto_ne (l := S) (m := S') hkl hkm h)
                  have US := Lib.hid (fun h => upto_succ I.out hkl hkm h)
                  generalize S[k] = x at *
                  generalize S'[k] = y at *
                  have rn := at_regrown (N2.out.cell 3)
                  have rm := at_regrown (M2.out.cell 3)
                  have rx0 := at_regrown x0
                  have ry0 := at_regrown y0
                  have rx1 := at_regrown x1
                  have ry1 := at_regrown y1
                  have rx2 := at_regrown x2
                  have ry2 := at_regrown y2
                  by_cases e : x = y
                  · subst e
                    have NX := Lib.hid (US.out rfl)
                    clear US UN
                    go_wp2_with fail
                    refine region_below (by kernel_rfl) (by kernel_rfl) ?_
                    repeat (go_big_quiet_step (fail))
                    refine wpQuiet_nil ?_
                    intro wz hbz
                    have BZ := Lib.hid (below_from hbz B2.out B2.out.size)
                    have NZ := Lib.hid (N2.out.past hbz)
                    have MZ := Lib.hid (M2.out.past hbz)
                    clear hbz
                    go_wp2_with fail
                    go_roundg (Sn - (k + 1))
                    case measure => omega
                    case rel => exact ⟨k + 1, by omega, by omega, by go_num, BZ, NZ, MZ, NX⟩
                  · have R0 := Lib.hid (NE.out (by have := UN.out e; simp [this]))
                    obtain ⟨xa, xb, xc⟩ := x
                    obtain ⟨ya, yb, yc⟩ := y
                    dsimp only at *
                    by_cases ea : xa = ya
                    · by_cases eb : xb = yb
                      · have ec : ¬ xc = yc := fun ec => e (by rw [ea, eb, ec])
                        subst ea eb
                        have d3 : (xc == yc) = false := by rw [beq_eq_false_iff_ne]; exact ec
                        clear e
                        go_wp2_with fail
                        refine region_below (by kernel_rfl) (by kernel_rfl) ?_
                        repeat (go_big_quiet_step (fail))
                        refine wpQuiet_nil ?_
                        intro wz hbz
                        have BZ := Lib.hid (below_from hbz B2.out B2.out.size)
                        have NZ := Lib.hid (N2.out.past hbz)
                        have MZ := Lib.hid (M2.out.past hbz)
                        clear hbz
                        go_wp2_with fail
                        go_ret
                        exact ⟨ret_bool R0.out.symm, BZ.out⟩
                      · subst ea
                        have d2 : (xb == yb) = false := by rw [beq_eq_false_iff_ne]; exact eb
                        clear e
                        go_wp2_with fail
                        refine region_below (by kernel_rfl) (by kernel_rfl) ?_
                        repeat (go_big_quiet_step (fail))
                        refine wpQuiet_nil ?_
                        intro wz hbz
                        have BZ := Lib.hid (below_from hbz B2.out B2.out.size)
                        have NZ := Lib.hid (N2.out.past hbz)
                        have MZ := Lib.hid (M2.out.past hbz)
                        clear hbz
                        go_wp2_with fail
                        go_ret
                        exact ⟨ret_bool R0.out.symm, BZ.out⟩
                    · have d1 : (xa == ya) = false := by rw [beq_eq_false_iff_ne]; exact ea
                      clear e
                      go_wp2_with fail
                      refine region_below (by kernel_rfl) (by kernel_rfl) ?_
                      repeat (go_big_quiet_step (fail))
                      refine wpQuiet_nil ?_
                      intro wz hbz
                      have BZ := Lib.hid (below_from hbz B2.out B2.out.size)
                      have NZ := Lib.hid (N2.out.past hbz)
                      have MZ := Lib.hid (M2.out.past hbz)
                      clear hbz
                      go_wp2_with fail
                      go_ret
                      exact ⟨ret_bool R0.out.symm, BZ.out⟩
                · obtain rfl : Sn = k := by omega
                  have ES := Lib.hid (upto_all I.out HS.out.len GS.out.len)
                  clear I hgg hk hlt
                  go_wp2_with fail
                  go_loopg [76] Cn (fun gg s wr => ∃ k : Nat, k ≤ Cn ∧ Cn - k ≤ gg ∧ s = .int .i64 k ∧ Hid (Below w.heap.size w wr) ∧ Hid (Has wr w.heap.size #[.int .i64 now, .int .i64 next, .slice LA Ln Lc, .slice SA Sn Sc, .slice CA Cn Cc, .slice KA Kn Kc]) ∧ Hid (Has wr (w.heap.size + 1) #[.int .i64 now', .int .i64 next', .slice LA' Ln' Lc', .slice SA' Sn Sc', .slice CA' Cn Cc', .slice KA' Kn Kc']) ∧ Hid (upto C C' k))
                  case atStart => exact ⟨0, Nat.zero_le _, by omega, rfl, B2, N2, M2, Lib.hid (upto_zero _ _)⟩
                  case round =>
                    clear n2c n2l m2c m2l N2 M2 B2
                    obtain ⟨k, hk, hgg, rfl, B3, N3, M3, I⟩ := hrel
                    have n3c := N3.out.cell
                    have n3l := N3.out.lt
                    have m3c := M3.out.cell
                    have m3l := M3.out.lt
                    by_cases hlt : k < Cn
                    · obtain ⟨b, off, hkl, rfl, hbl, x0, x1⟩ := pr_at (HC.out.below B3.out) hlt
                      obtain ⟨b2, off2, hkm, rfl, hbl2, y0, y1⟩ := pr_at (GC.out.below B3.out) hlt
                      have UN := Lib.hid (fun h => upto_ne (l := C) (m := C') hkl hkm h)
                      have US := Lib.hid (fun h => upto_succ I.out hkl hkm h)
                      generalize C[k] = x at *
                      generalize C'[k] = y at *
                      have rn := at_regrown (N3.out.cell 4)
                      have rm := at_regrown (M3.out.cell 4)
                      have q63 := fun w => eq63 x.a x.b y.a y.b w
                      have rx0 := at_regrown x0
                      have ry0 := at_regrown y0
                      have rx1 := at_regrown x1
                      have ry1 := at_regrown y1
                      by_cases e : x = y
                      · subst e
                        have NX := Lib.hid (US.out rfl)
                        clear US UN
                        go_wp2_with fail
                        refine region_below (by kernel_rfl) (by kernel_rfl) ?_
                        repeat (go_big_quiet_step (fail))
                        refine wpQuiet_nil ?_
                        intro wz hbz
                        have BZ := Lib.hid (below_from hbz B3.out B3.out.size)
                        have NZ := Lib.hid (N3.out.past hbz)
                        have MZ := Lib.hid (M3.out.past hbz)
                        clear hbz
                        go_wp2_with fail
                        go_roundg (Cn - (k + 1))
                        case measure => omega
                        case rel => exact ⟨k + 1, by omega, by omega, by go_num, BZ, NZ, MZ, NX⟩
                      · have R0 := Lib.hid (NE.out (by have := UN.out e; simp [this]))
                        obtain ⟨xa, xb⟩ := x
                        obtain ⟨ya, yb⟩ := y
                        dsimp only at *
                        by_cases ea : xa = ya
                        · have eb : ¬ xb = yb := fun eb => e (by rw [ea, eb])
                          subst ea
                          have d2 : (xb == yb) = false := by rw [beq_eq_false_iff_ne]; exact eb
                          clear e
                          go_wp2_with fail
                          refine region_below (by kernel_rfl) (by kernel_rfl) ?_
                          repeat (go_big_quiet_step (fail))
                          refine wpQuiet_nil ?_
                          intro wz hbz
                          have BZ := Lib.hid (below_from hbz B3.out B3.out.size)
                          have NZ := Lib.hid (N3.out.past hbz)
                          have MZ := Lib.hid (M3.out.past hbz)
                          clear hbz
                          go_wp2_with fail
                          go_ret
                          exact ⟨ret_bool R0.out.symm, BZ.out⟩
                        · have d1 : (xa == ya) = false := by rw [beq_eq_false_iff_ne]; exact ea
                          clear e
                          go_wp2_with fail
                          refine region_below (by kernel_rfl) (by kernel_rfl) ?_
                          repeat (go_big_quiet_step (fail))
                          refine wpQuiet_nil ?_
                          intro wz hbz
                          have BZ := Lib.hid (below_from hbz B3.out B3.out.size)
                          have NZ := Lib.hid (N3.out.past hbz)
                          have MZ := Lib.hid (M3.out.past hbz)
                          clear hbz
                          go_wp2_with fail
                          go_ret
                          exact ⟨ret_bool R0.out.symm, BZ.out⟩
                    · obtain rfl : Cn = k := by omega
                      have EC := Lib.hid (upto_all I.out HC.out.len GC.out.len)
                      clear I hgg hk hlt
                      go_wp2_with fail
                      go_loopg [94] Kn (fun gg s wr => ∃ k : Nat, k ≤ Kn ∧ Kn - k ≤ gg ∧ s = .int .i64 k ∧ Hid (Below w.heap.size w wr) ∧ Hid (Has wr w.heap.size #[.int .i64 now, .int .i64 next, .slice LA Ln Lc, .slice SA Sn Sc, .slice CA Cn Cc, .slice KA Kn Kc]) ∧ Hid (Has wr (w.heap.size + 1) #[.int .i64 now', .int .i64 next', .slice LA' Ln' Lc', .slice SA' Sn Sc', .slice CA' Cn Cc', .slice KA' Kn Kc']) ∧ Hid (upto K K' k))
                      case atStart => exact ⟨0, Nat.zero_le _, by omega, rfl, B3, N3, M3, Lib.hid (upto_zero _ _)⟩
                      case round =>
                        clear n3c n3l m3c m3l N3 M3 B3
                        obtain ⟨k, hk, hgg, rfl, B4, N4, M4, I⟩ := hrel
                        have n4c := N4.out.cell
                        have n4l := N4.out.lt
                        have m4c := M4.out.cell
                        have m4l := M4.out.lt
                        by_cases hlt : k < Kn
                        · obtain ⟨b, off, hkl, rfl, hbl, x0⟩ := int_at (HK.out.below B4.out) hlt
                          obtain ⟨b2, off2, hkm, rfl, hbl2, y0⟩ := int_at (GK.out.below B4.out) hlt
                          have UN := Lib.hid (fun h => upto_ne (l := K) (m := K') hkl hkm h)
                          have US := Lib.hid (fun h => upto_succ I.out hkl hkm h)
                          generalize K[k] = x at *
                          generalize K'[k] = y at *
                          have rn := at_regrown (N4.out.cell 5)
                          have rm := at_regrown (M4.out.cell 5)
                          have rx0 := at_regrown x0
                          have ry0 := at_regrown y0
                          by_cases e : x = y
                          · subst e
                            have NX := Lib.hid (US.out rfl)
                            clear US UN
                            go_wp2_with fail
                            refine region_below (by kernel_rfl) (by kernel_rfl) ?_
                            repeat (go_big_quiet_step (fail))
                            refine wpQuiet_nil ?_
                            intro wz hbz
                            have BZ := Lib.hid (below_from hbz B4.out B4.out.size)
                            have NZ := Lib.hid (N4.out.past hbz)
                            have MZ := Lib.hid (M4.out.past hbz)
                            clear hbz
                            go_wp2_with fail
                            go_roundg (Kn - (k + 1))
                            case measure => omega
                            case rel => exact ⟨k + 1, by omega, by omega, by go_num, BZ, NZ, MZ, NX⟩
                          · have R0 := Lib.hid (NE.out (by have := UN.out e; simp [this]))
                            have d1 : (x == y) = false := by rw [beq_eq_false_iff_ne]; exact e
                            have d2 : (x != y) = true := by rw [bne_iff_ne]; exact e
                            clear e
                            go_wp2_with fail
                            refine region_below (by kernel_rfl) (by kernel_rfl) ?_
                            repeat (go_big_quiet_step (fail))
                            refine wpQuiet_nil ?_
                            intro wz hbz
                            have BZ := Lib.hid (below_from hbz B4.out B4.out.size)
                            have NZ := Lib.hid (N4.out.past hbz)
                            have MZ := Lib.hid (M4.out.past hbz)
                            clear hbz
                            go_wp2_with fail
                            go_ret
                            exact ⟨ret_bool R0.out.symm, BZ.out⟩
                        · obtain rfl : Kn = k := by omega
                          have EK := Lib.hid (upto_all I.out HK.out.len GK.out.len)
                          clear I hgg hk hlt
                          go_wp2_with fail
                          have R0 := Lib.hid (EQ.out E1.out E2.out E3.out ES.out EC.out EK.out)
                          go_ret
                          exact ⟨ret_bool R0.out.symm, B4.out⟩
            · have d6 : ((Kn : Int) != (Kn' : Int)) = true := by rw [bne_iff_ne]; omega
              have R0 := Lib.hid (NE.out (.inr (.inr (.inr (.inr (.inr (fun h => e6 (by rw [← HK.out.len, ← GK.out.len, h]))))))))
              go_enter Try.func17, Try.ntmps17
              go_upto_region 1 with (fail)
              rw [← HW0.out]
              go_wp2_with (go_at_call 23; refine (MS.out _ B0.out).mono ?_; rintro e w' ⟨rfl, hb⟩; rw [EM.out]; have N1 := Lib.hid (N0.out.past hb); have M1 := Lib.hid (M0.out.past hb); have n1c := N1.out.cell; have n1l := N1.out.lt; have m1c := M1.out.cell; have m1l := M1.out.lt; have B1 := Lib.hid (below_from hb B0.out B0.out.size); clear hb)
              go_ret
              exact ⟨ret_bool R0.out.symm, B1.out⟩
          · have d5 : ((Cn : Int) != (Cn' : Int)) = true := by rw [bne_iff_ne]; omega
            have R0 := Lib.hid (NE.out (.inr (.inr (.inr (.inr (.inl (fun h => e5 (by rw [← HC.out.len, ← GC.out.len, h]))))))))
            go_enter Try.func17, Try.ntmps17
            go_upto_region 1 with (fail)
            rw [← HW0.out]
            go_wp2_with (go_at_call 23; refine (MS.out _ B0.out).mono ?_; rintro e w' ⟨rfl, hb⟩; rw [EM.out]; have N1 := Lib.hid (N0.out.past hb); have M1 := Lib.hid (M0.out.past hb); have n1c := N1.out.cell; have n1l := N1.out.lt; have m1c := M1.out.cell; have m1l := M1.out.lt; have B1 := Lib.hid (below_from hb B0.out B0.out.size); clear hb)
            go_ret
            exact ⟨ret_bool R0.out.symm, B1.out⟩
        · have d4 : ((Sn : Int) != (Sn' : Int)) = true := by rw [bne_iff_ne]; omega
          have R0 := Lib.hid (NE.out (.inr (.inr (.inr (.inl (fun h => e4 (by rw [← HS.out.len, ← GS.out.len, h])))))))
          go_enter Try.func17, Try.ntmps17
          go_upto_region 1 with (fail)
          rw [← HW0.out]
          go_wp2_with (go_at_call 23; refine (MS.out _ B0.out).mono ?_; rintro e w' ⟨rfl, hb⟩; rw [EM.out]; have N1 := Lib.hid (N0.out.past hb); have M1 := Lib.hid (M0.out.past hb); have n1c := N1.out.cell; have n1l := N1.out.lt; have m1c := M1.out.cell; have m1l := M1.out.lt; have B1 := Lib.hid (below_from hb B0.out B0.out.size); clear hb)
          go_ret
          exact ⟨ret_bool R0.out.symm, B1.out⟩
    · have d2 : (next != next') = true := by rw [bne_iff_ne]; exact E2
      replace E2 := Lib.hid E2
      have R0 := Lib.hid (NE.out (.inr (.inl E2.out)))
      go_enter Try.func17, Try.ntmps17
      go_upto_region 1 with (fail)
      rw [← HW0.out]
      go_wp2_with fail
      go_ret
      exact ⟨ret_bool R0.out.symm, B0.out⟩
  · have d1 : (now != now') = true := by rw [bne_iff_ne]; exact E1
    replace E1 := Lib.hid E1
    have R0 := Lib.hid (NE.out (.inl E1.out))
    go_enter Try.func17, Try.ntmps17
    go_upto_region 1 with (fail)
    rw [← HW0.out]
    go_wp2_with fail
    go_ret
    exact ⟨ret_bool R0.out.symm, B0.out⟩

end Go.Proofs.Ytmlgahambecamaa
