/- Whether a way is cut, or open; what a clock says; of the program and of the document. -/
import Derived.Test.YtmlgahambecamaaCheck
import Derived.Test.YtmlgahambecamaaRCheck
import Derived.Test.YtmlgahambecamaaArrEq
import Derived.Deep.DeepCutAuto
namespace Go.Proofs.Ytmlgahambecamaa
open Go.RowKit Go.Shelf

def hasP (l : List Pr) (p : Pr) : Bool := l.any fun c => decide (c = p)
/-- A place that is found, or none. -/
def IdxR (b : Bool) (e : Ending) : Prop := ∃ r : Int, e = .returned (.int .i64 r) ∧ decide (0 ≤ r) = b
theorem hasP_no {l : List Pr} {p : Pr} (h : ∀ j (hj : j < l.length), ¬ l[j] = p) : hasP l p = false := by
  unfold hasP
  rw [List.any_eq_false]
  intro x hx
  obtain ⟨j, hj, rfl⟩ := List.getElem_of_mem hx
  simpa using h j hj
theorem hasP_yes {l : List Pr} {p : Pr} {k : Nat} (hk : k < l.length) (h : l[k] = p) : hasP l p = true := by
  unfold hasP
  rw [List.any_eq_true]
  exact ⟨l[k], List.getElem_mem hk, by simpa using h⟩
theorem pr_eqb (x y : Pr) : (x.a == y.a && x.b == y.b) = decide (x = y) := by
  obtain ⟨a, b⟩ := x
  obtain ⟨c, d⟩ := y
  by_cases h1 : a = c <;> by_cases h2 : b = d <;> simp [h1, h2]

set_option maxHeartbeats 4000000 in
set_option maxRecDepth 100000 in
theorem index_any (A : Option Addr) (n c : Nat) (l : List Pr) (p : Pr) (w : World) (hl : Sl prK w A n c l) : Calls Try.prog 73 #[.slice A n c, .agg #[.int .i64 p.a, .int .i64 p.b]] w fun e w' => IdxR (hasP l p) e ∧ Below w.heap.size w w' := by
  have h1 := hl.cap
  have h2 := hl.max
  have HL := Lib.hid hl
  have B0 := Lib.hid (below_alloc1 w (.cells #[.int .i64 p.a, .int .i64 p.b] 63))
  have P0 := Lib.hid (Has.newAt w #[.int .i64 p.a, .int .i64 p.b] 63 (g := w.heap.size) rfl)
  clear hl
  go_enter Try.func73, Try.ntmps73
  go_wp2_with fail
  go_loopg [8] n (fun gg s wr => ∃ k : Nat, k ≤ n ∧ n - k ≤ gg ∧ s = .int .i64 k ∧ Hid (Below w.heap.size w wr) ∧ Hid (Has wr w.heap.size #[.int .i64 p.a, .int .i64 p.b]) ∧ Hid (∀ j (hj : j < l.length), j < k → ¬ l[j] = p))
  case atStart => exact ⟨0, Nat.zero_le _, by omega, rfl, B0, P0, Lib.hid (fun j _ h => absurd h (Nat.not_lt_zero _))⟩
  case round =>
    obtain ⟨k, hk, hgg, rfl, B1, P1, I⟩ := hrel
    by_cases hlt : k < n
    · obtain ⟨b, off, hkl, rfl, hbl, x0, x1⟩ := pr_at (HL.out.below B1.out) hlt
      have YES := Lib.hid (fun h => hasP_yes (p := p) hkl h)
      have NX := Lib.hid (show ¬ l[k] = p → ∀ j (hj : j < l.length), j < k + 1 → ¬ l[j] = p from fun h j hj hjk => by
        rcases Nat.lt_or_ge j k with h' | h'
        · exact I.out j hj h'
        · obtain rfl : j = k := by omega
          exact h)
      generalize l[k] = x at *
      have rx0 := at_regrown x0
      have rx1 := at_regrown x1
      have rp0 := at_regrown (P1.out.cell 0)
      have rp1 := at_regrown (P1.out.cell 1)
      have q63 := fun w => eq63 p.a p.b x.a x.b w
      have QE := Lib.hid (pr_eqb p x)
      obtain ⟨q, hq⟩ : ∃ q, (p.a == x.a && p.b == x.b) = q := ⟨_, rfl⟩
      rw [hq] at QE
      rw [hq] at q63
      clear hq
      cases q with
      | true =>
        have R := Lib.hid (YES.out (of_decide_eq_true QE.out.symm).symm)
        go_wp2_with fail
        refine region_below (by kernel_rfl) (by kernel_rfl) ?_
        repeat (go_big_quiet_step (fail))
        refine wpQuiet_nil ?_
        intro wz hbz
        have BZ := Lib.hid (below_from hbz B1.out B1.out.size)
        clear hbz
        go_wp2_with fail
        go_ret
        exact ⟨⟨k, rfl, by rw [R.out]; exact decide_eq_true (by omega)⟩, BZ.out⟩
      | false =>
        have N2 := Lib.hid (NX.out (fun h => (of_decide_eq_false QE.out.symm) h.symm))
        go_wp2_with fail
        refine region_below (by kernel_rfl) (by kernel_rfl) ?_
        repeat (go_big_quiet_step (fail))
        refine wpQuiet_nil ?_
        intro wz hbz
        have BZ := Lib.hid (below_from hbz B1.out B1.out.size)
        have PZ := Lib.hid (P1.out.past hbz)
        clear hbz
        go_wp2_with fail
        go_roundg (n - (k + 1))
        case measure => omega
        case rel => exact ⟨k + 1, by omega, by omega, by go_num, BZ, PZ, N2⟩
    · obtain rfl : n = k := by omega
      have R := Lib.hid (hasP_no (p := p) (fun j hj => I.out j hj (by rw [← HL.out.len]; exact hj)))
      go_wp2_with fail
      go_ret
      exact ⟨⟨-1, rfl, by rw [R.out]; rfl⟩, B1.out⟩

theorem contains_any (A : Option Addr) (n c : Nat) (l : List Pr) (p : Pr) (w : World) (hl : Sl prK w A n c l) : Calls Try.prog 56 #[.slice A n c, .agg #[.int .i64 p.a, .int .i64 p.b]] w fun e w' => e = .returned (.bool (hasP l p)) ∧ Below w.heap.size w w' := by
  have B0 := Lib.hid (below_alloc1 w (.cells #[.int .i64 p.a, .int .i64 p.b] 63))
  have IX := Lib.hid (index_any A n c l p _ (hl.alloc (.cells #[.int .i64 p.a, .int .i64 p.b] 63)))
  clear hl
  go_enter Try.func56, Try.ntmps56
  go_wp2_with (go_at_call 73; refine IX.out.mono ?_; rintro e w1 ⟨⟨r, rfl, hr⟩, hb⟩; have HR := Lib.hid hr; have B1 := Lib.hid (below_from hb B0.out B0.out.size); clear hr hb)
  go_ret
  exact ⟨ret_bool (by first | exact HR.out | rw [HR.out]), B1.out⟩

set_option maxHeartbeats 4000000 in
set_option maxRecDepth 100000 in
/-- The document's cut. -/
theorem rcut_any (o : Nt) (a b : Int) (w : World) (ho : Nt.At w o) : Calls Try.prog 50 #[o.v, .int .i64 a, .int .i64 b] w fun e w' => e = .returned (.bool (hasP o.C (pairP a b))) ∧ Below w.heap.size w w' := by
  have h1 := ho.c.cap
  have h2 := ho.c.max
  have HL := Lib.hid ho.c
  clear ho
  obtain ⟨now, next, LA, Ln, Lc, L, SA, Sn, Sc, S, CA, Cn, Cc, C, KA, Kn, Kc, K⟩ := o
  dsimp only at *
  obtain ⟨W0, hW0⟩ : ∃ W0, W0 = w.alloc (.cells #[.int .i64 now, .int .i64 next, .slice LA Ln Lc, .slice SA Sn Sc, .slice CA Cn Cc, .slice KA Kn Kc] 27) := ⟨_, rfl⟩
  have B0 := Lib.hid (show Below w.heap.size w W0 from by rw [hW0]; exact below_alloc1 w _)
  have N0 := Lib.hid (show Has W0 w.heap.size #[.int .i64 now, .int .i64 next, .slice LA Ln Lc, .slice SA Sn Sc, .slice CA Cn Cc, .slice KA Kn Kc] from by rw [hW0]; exact Has.newAt w _ 27 rfl)
  have HW0 := Lib.hid hW0
  have c0 := N0.out.cell
  have l0 := N0.out.lt
  clear hW0
  show Calls Try.prog 50 #[.agg #[.int .i64 now, .int .i64 next, .slice LA Ln Lc, .slice SA Sn Sc, .slice CA Cn Cc, .slice KA Kn Kc], .int .i64 a, .int .i64 b] w _
  go_enter Try.func50, Try.ntmps50
  go_wp2_with fail
  rw [← HW0.out]
  go_loopg [12] Cn (fun gg s wr => ∃ k : Nat, k ≤ Cn ∧ Cn - k ≤ gg ∧ s = .int .i64 k ∧ Hid (Below w.heap.size w wr) ∧ Hid (∀ j (hj : j < C.length), j < k → ¬ C[j] = pairP a b))
  case atStart => exact ⟨0, Nat.zero_le _, by omega, rfl, B0, Lib.hid (fun j _ h => absurd h (Nat.not_lt_zero _))⟩
  case round =>
    clear c0 l0
    obtain ⟨k, hk, hgg, rfl, B1, I⟩ := hrel
    by_cases hlt : k < Cn
    · obtain ⟨bb, off, hkl, rfl, hbl, x0, x1⟩ := pr_at (HL.out.below B1.out) hlt
      have YES := Lib.hid (fun h => hasP_yes (p := pairP a b) hkl h)
      have NX := Lib.hid (show ¬ C[k] = pairP a b → ∀ j (hj : j < C.length), j < k + 1 → ¬ C[j] = pairP a b from fun h j hj hjk => by
        rcases Nat.lt_or_ge j k with h' | h'
        · exact I.out j hj h'
        · obtain rfl : j = k := by omega
          exact h)
      generalize C[k] = x at *
      have B2 := Lib.hid (B1.out.alloc B1.out.size (.cells #[.int .i64 x.a, .int .i64 x.b] 63))
      have q63 := fun w => eq63 x.a x.b (min a b) (max a b) w
      have QE := Lib.hid (show (x.a == min a b && x.b == max a b) = decide (x = pairP a b) from pr_eqb x (pairP a b))
      obtain ⟨q, hq⟩ : ∃ q, (x.a == min a b && x.b == max a b) = q := ⟨_, rfl⟩
      rw [hq] at QE
      rw [hq] at q63
      clear hq
      cases q with
      | true =>
        have R := Lib.hid (YES.out (of_decide_eq_true QE.out.symm))
        go_wp2_with fail
        go_ret
        exact ⟨ret_bool R.out.symm, B2.out⟩
      | false =>
        have N2 := Lib.hid (NX.out (of_decide_eq_false QE.out.symm))
        go_wp2_with fail
        go_roundg (Cn - (k + 1))
        case measure => omega
        case rel => exact ⟨k + 1, by omega, by omega, by go_num, B2, N2⟩
    · obtain rfl : Cn = k := by omega
      have R := Lib.hid (hasP_no (p := pairP a b) (fun j hj => I.out j hj (by rw [← HL.out.len]; exact hj)))
      go_wp2_with fail
      go_ret
      exact ⟨ret_bool R.out.symm, B1.out⟩

theorem open_eq (n : Nv) (a b : Int) : openB n a b = (checkB n && (endB n.K.length a && endB n.K.length b) && (decide (a = b) || !hasP n.C (pairP a b))) := by
  unfold openB cutB hasP
  simp only [Bool.and_assoc]
theorem ends_min {m : Nat} {a b : Int} (h : ¬ (0 ≤ min a b ∧ min a b ≤ (m : Int) - 1)) : (endB m a && endB m b) = false := by
  unfold endB
  rw [Bool.and_eq_false_iff, Bool.and_eq_false_iff, Bool.and_eq_false_iff]
  simp only [decide_eq_false_iff_not]
  omega
theorem ends_max {m : Nat} {a b : Int} (h : (m : Int) ≤ max a b) : (endB m a && endB m b) = false := by
  unfold endB
  rw [Bool.and_eq_false_iff, Bool.and_eq_false_iff, Bool.and_eq_false_iff]
  simp only [decide_eq_false_iff_not]
  omega
theorem ends_yes {m : Nat} {a b : Int} (h1 : 0 ≤ min a b) (h2 : max a b < (m : Int)) : (endB m a && endB m b) = true := by
  unfold endB
  simp only [Bool.and_eq_true, decide_eq_true_eq]
  omega

set_option maxHeartbeats 4000000 in
set_option maxRecDepth 100000 in
/-- Whether there is a way. -/
theorem open_any (o : Nt) (a b : Int) (w : World) (ho : Nt.At w o) (hs : o.Sn ≤ 50000) : Calls Try.prog 25 #[o.v, .int .i64 a, .int .i64 b] w fun e w' => e = .returned (.bool (openB o.val a b)) ∧ Below w.heap.size w w' := by
  have hk := Nat.le_trans ho.k.cap ho.k.max
  have HO := Lib.hid ho
  have B0 := Lib.hid (below_alloc1 w (.cells #[.int .i64 o.now, .int .i64 o.next, .slice o.LA o.Ln o.Lc, .slice o.SA o.Sn o.Sc, .slice o.CA o.Cn o.Cc, .slice o.KA o.Kn o.Kc] 27))
  have N0 := Lib.hid (Has.newAt w #[.int .i64 o.now, .int .i64 o.next, .slice o.LA o.Ln o.Lc, .slice o.SA o.Sn o.Sc, .slice o.CA o.Cn o.Cc, .slice o.KA o.Kn o.Kc] 27 (g := w.heap.size) rfl)
  have CK := Lib.hid (check_any o (w.alloc (.cells #[.int .i64 o.now, .int .i64 o.next, .slice o.LA o.Ln o.Lc, .slice o.SA o.Sn o.Sc, .slice o.CA o.Cn o.Cc, .slice o.KA o.Kn o.Kc] 27)) (ho.alloc _) hs)
  have KL := Lib.hid (show o.val.K.length = o.Kn from ho.k.len)
  clear ho
  have OB := Lib.hid (show openB o.val a b = (checkB o.val && (endB o.Kn a && endB o.Kn b) && (decide (a = b) || !hasP o.C (pairP a b))) from by rw [open_eq, KL.out]; rfl)
  cases hc : checkB o.val with
  | false =>
    rw [checkI_no hc] at CK
    have R := Lib.hid (show openB o.val a b = false from by rw [OB.out, hc]; rfl)
    clear hc
    go_enter Try.func25, Try.ntmps25
    go_wp2_with (go_at_call 15; refine CK.out.mono ?_; rintro e w1 ⟨rfl, hb⟩; have B1 := Lib.hid (below_from hb B0.out B0.out.size); have N1 := Lib.hid (N0.out.past hb); have c1 := N1.out.cell; have l1 := N1.out.lt; clear hb)
    go_ret
    exact ⟨ret_bool R.out.symm, B1.out⟩
  | true =>
    rw [checkI_yes hc] at CK
    have HC := Lib.hid hc
    clear hc
    by_cases h1 : 0 ≤ min a b ∧ min a b ≤ (o.Kn : Int) - 1
    · have E1 := Lib.hid (show inR (min a b) 0 ((o.Kn : Int) - 1) = true from by unfold inR; simp only [h1.1, h1.2, decide_true, Bool.and_self])
      by_cases h2 : (o.Kn : Int) ≤ max a b
      · have d2 : decide ((o.Kn : Int) ≤ max a b) = true := decide_eq_true h2
        have R := Lib.hid (show openB o.val a b = false from by rw [OB.out, HC.out, ends_max h2]; rfl)
        clear h1 h2
        go_enter Try.func25, Try.ntmps25
        go_wp2_with (first | (go_at_call 15; refine CK.out.mono ?_; rintro e w1 ⟨rfl, hb⟩; have B1 := Lib.hid (below_from hb B0.out B0.out.size); have N1 := Lib.hid (N0.out.past hb); have c1 := N1.out.cell; have l1 := N1.out.lt; clear hb) | (go_at_call 35; refine (within_any _ _ _ _).mono ?_; rintro e w' ⟨rfl, rfl⟩; rw [E1.out]))
        go_ret
        exact ⟨ret_bool R.out.symm, B1.out⟩
      · have d2 : decide ((o.Kn : Int) ≤ max a b) = false := decide_eq_false h2
        have EE := Lib.hid (ends_yes (m := o.Kn) h1.1 (by omega))
        clear h1 h2
        by_cases h3 : a = b
        · have d3 : (a == b) = true := by rw [beq_iff_eq]; exact h3
          have R := Lib.hid (show openB o.val a b = true from by rw [OB.out, HC.out, EE.out, decide_eq_true h3]; rfl)
          clear h3
          go_enter Try.func25, Try.ntmps25
          go_wp2_with (first | (go_at_call 15; refine CK.out.mono ?_; rintro e w1 ⟨rfl, hb⟩; have B1 := Lib.hid (below_from hb B0.out B0.out.size); have N1 := Lib.hid (N0.out.past hb); have c1 := N1.out.cell; have l1 := N1.out.lt; clear hb) | (go_at_call 35; refine (within_any _ _ _ _).mono ?_; rintro e w' ⟨rfl, rfl⟩; rw [E1.out]))
          first
            | (go_ret; exact ⟨ret_bool R.out.symm, B1.out⟩)
            | (have r4 := at_regrown (N1.out.cell 4)
               refine region_below (by kernel_rfl) (by kernel_rfl) ?_
               repeat (go_big_quiet_step (fail))
               refine wpQuiet_nil ?_
               intro wz hbz
               have BZ := Lib.hid (below_from hbz B1.out B1.out.size)
               clear hbz
               go_wp2_with fail
               go_ret
               exact ⟨ret_bool R.out.symm, BZ.out⟩)
        · have d3 : (a == b) = false := by rw [beq_eq_false_iff_ne]; exact h3
          have R := Lib.hid (show openB o.val a b = !hasP o.C (pairP a b) from by rw [OB.out, HC.out, EE.out, decide_eq_false h3]; rfl)
          clear h3
          go_enter Try.func25, Try.ntmps25
          go_wp2_with (first | (go_at_call 15; refine CK.out.mono ?_; rintro e w1 ⟨rfl, hb⟩; have B1 := Lib.hid (below_from hb B0.out B0.out.size); have N1 := Lib.hid (N0.out.past hb); have c1 := N1.out.cell; have l1 := N1.out.lt; clear hb) | (go_at_call 35; refine (within_any _ _ _ _).mono ?_; rintro e w' ⟨rfl, rfl⟩; rw [E1.out]))
          have r4 := at_regrown (N1.out.cell 4)
          have PA := Lib.hid (fun w' (_ : Below w1.heap.size w1 w') => pair_any a b w')
          have CO := Lib.hid (fun w' (h : Below w1.heap.size w1 w') => contains_any o.CA o.Cn o.Cc o.C (pairP a b) w' ((HO.out.c.below B1.out).below h))
          refine region_below (by kernel_rfl) (by kernel_rfl) ?_
          iterate 9 (go_big_quiet_step (exact call_regrown PA.out))
          repeat (go_big_quiet_step (exact call_regrown CO.out))
          refine wpQuiet_nil ?_
          intro wz hbz
          have BZ := Lib.hid (below_from hbz B1.out B1.out.size)
          clear hbz
          go_wp2_with fail
          go_ret
          exact ⟨ret_bool R.out.symm, BZ.out⟩
    · have E1 := Lib.hid (show inR (min a b) 0 ((o.Kn : Int) - 1) = false from by unfold inR; rw [Bool.and_eq_false_iff, decide_eq_false_iff_not, decide_eq_false_iff_not]; omega)
      have R := Lib.hid (show openB o.val a b = false from by rw [OB.out, HC.out, ends_min h1]; rfl)
      clear h1
      go_enter Try.func25, Try.ntmps25
      go_wp2_with (first | (go_at_call 15; refine CK.out.mono ?_; rintro e w1 ⟨rfl, hb⟩; have B1 := Lib.hid (below_from hb B0.out B0.out.size); have N1 := Lib.hid (N0.out.past hb); have c1 := N1.out.cell; have l1 := N1.out.lt; clear hb) | (go_at_call 35; refine (within_any _ _ _ _).mono ?_; rintro e w' ⟨rfl, rfl⟩; rw [E1.out]))
      go_ret
      exact ⟨ret_bool R.out.symm, B1.out⟩

end Go.Proofs.Ytmlgahambecamaa
