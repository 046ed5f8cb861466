/- The document's Open; both clocks. -/
import Derived.Test.YtmlgahambecamaaCuts
namespace Go.Proofs.Ytmlgahambecamaa
open Go.RowKit Go.Shelf

set_option maxHeartbeats 4000000 in
set_option maxRecDepth 100000 in
/-- Whether there is a way, in the document. -/
theorem ropen_any (o : Nt) (a b : Int) (w : World) (ho : Nt.At w o) : Calls Try.prog 31 #[o.v, .int .i64 a, .int .i64 b] w fun e w' => e = .returned (.bool (openB o.val a b)) ∧ Below w.heap.size w w' := by
  have hk := Nat.le_trans ho.k.cap ho.k.max
  have HO := Lib.hid ho
  have B0 := Lib.hid (below_alloc1 w (.cells #[.int .i64 o.now, .int .i64 o.next, .slice o.LA o.Ln o.Lc, .slice o.SA o.Sn o.Sc, .slice o.CA o.Cn o.Cc, .slice o.KA o.Kn o.Kc] 27))
  have N0 := Lib.hid (Has.newAt w #[.int .i64 o.now, .int .i64 o.next, .slice o.LA o.Ln o.Lc, .slice o.SA o.Sn o.Sc, .slice o.CA o.Cn o.Cc, .slice o.KA o.Kn o.Kc] 27 (g := w.heap.size) rfl)
  have CK := Lib.hid (rcheck_any o (w.alloc (.cells #[.int .i64 o.now, .int .i64 o.next, .slice o.LA o.Ln o.Lc, .slice o.SA o.Sn o.Sc, .slice o.CA o.Cn o.Cc, .slice o.KA o.Kn o.Kc] 27)) (ho.alloc _))
  have KL := Lib.hid (show o.val.K.length = o.Kn from ho.k.len)
  have EA := Lib.hid (fun a W => (show Calls Try.prog 40 #[.agg #[.int .i64 o.now, .int .i64 o.next, .slice o.LA o.Ln o.Lc, .slice o.SA o.Sn o.Sc, .slice o.CA o.Cn o.Cc, .slice o.KA o.Kn o.Kc], .int .i64 a] W (fun e w' => e = .returned (.bool (endB o.Kn a)) ∧ Below W.heap.size W w') from end_any o a W))
  clear ho
  have OB := Lib.hid (show openB o.val a b = (checkB o.val && (endB o.Kn a && endB o.Kn b) && (decide (a = b) || !hasP o.C (pairP a b))) from by rw [open_eq, KL.out]; rfl)
  cases hc : checkB o.val with
  | false =>
    rw [checkI_no hc] at CK
    have R := Lib.hid (show openB o.val a b = false from by rw [OB.out, hc]; rfl)
    clear hc
    go_enter Try.func31, Try.ntmps31
    go_wp2_with (first | (go_at_call 16; refine CK.out.mono ?_; rintro e w1 ⟨rfl, hb⟩; have B1 := Lib.hid (below_from hb B0.out B0.out.size); have N1 := Lib.hid (N0.out.past hb); have c1 := N1.out.cell; have l1 := N1.out.lt; clear hb))
    go_ret
    exact ⟨ret_bool R.out.symm, B1.out⟩
  | true =>
  rw [checkI_yes hc] at CK
  cases h1 : endB o.Kn a with
  | false =>
    have E1 := Lib.hid h1
    have R := Lib.hid (show openB o.val a b = false from by rw [OB.out, hc, h1]; rfl)
    clear hc h1
    go_enter Try.func31, Try.ntmps31
    go_wp2_with (first | (go_at_call 16; refine CK.out.mono ?_; rintro e w1 ⟨rfl, hb⟩; have B1 := Lib.hid (below_from hb B0.out B0.out.size); have N1 := Lib.hid (N0.out.past hb); have c1 := N1.out.cell; have l1 := N1.out.lt; clear hb) | (go_at_call 40; refine (EA.out _ _).mono ?_; rintro e w' ⟨rfl, hb⟩; rw [E1.out]; replace B1 := Lib.hid (below_from hb B1.out B1.out.size); replace N1 := Lib.hid (N1.out.past hb); replace c1 := N1.out.cell; replace l1 := N1.out.lt; clear hb))
    go_ret
    exact ⟨ret_bool R.out.symm, B1.out⟩
  | true =>
  have E1 := Lib.hid h1
  cases h2 : endB o.Kn b with
  | false =>
    have E2 := Lib.hid h2
    have R := Lib.hid (show openB o.val a b = false from by rw [OB.out, hc, h1, h2]; rfl)
    clear hc h1 h2
    go_enter Try.func31, Try.ntmps31
    go_wp2_with (first | (go_at_call 16; refine CK.out.mono ?_; rintro e w1 ⟨rfl, hb⟩; have B1 := Lib.hid (below_from hb B0.out B0.out.size); have N1 := Lib.hid (N0.out.past hb); have c1 := N1.out.cell; have l1 := N1.out.lt; clear hb) | (go_at_call 40; refine (EA.out _ _).mono ?_; rintro e w' ⟨rfl, hb⟩; (first | rw [E1.out] | rw [E2.out]); replace B1 := Lib.hid (below_from hb B1.out B1.out.size); replace N1 := Lib.hid (N1.out.past hb); replace c1 := N1.out.cell; replace l1 := N1.out.lt; clear hb))
    go_ret
    exact ⟨ret_bool R.out.symm, B1.out⟩
  | true =>
  have E2 := Lib.hid h2
  by_cases h3 : a = b
  · have d3 : (a == b) = true := by rw [beq_iff_eq]; exact h3
    have R := Lib.hid (show openB o.val a b = true from by rw [OB.out, hc, h1, h2, decide_eq_true h3]; rfl)
    clear hc h1 h2 h3
    go_enter Try.func31, Try.ntmps31
    go_wp2_with (first | (go_at_call 16; refine CK.out.mono ?_; rintro e w1 ⟨rfl, hb⟩; have B1 := Lib.hid (below_from hb B0.out B0.out.size); have N1 := Lib.hid (N0.out.past hb); have c1 := N1.out.cell; have l1 := N1.out.lt; clear hb) | (go_at_call 40; refine (EA.out _ _).mono ?_; rintro e w' ⟨rfl, hb⟩; (first | rw [E1.out] | rw [E2.out]); replace B1 := Lib.hid (below_from hb B1.out B1.out.size); replace N1 := Lib.hid (N1.out.past hb); replace c1 := N1.out.cell; replace l1 := N1.out.lt; clear hb))
    go_ret
    exact ⟨ret_bool R.out.symm, B1.out⟩
  · have d3 : (a == b) = false := by rw [beq_eq_false_iff_ne]; exact h3
    have R := Lib.hid (show openB o.val a b = !hasP o.C (pairP a b) from by rw [OB.out, hc, h1, h2, decide_eq_false h3]; rfl)
    clear hc h1 h2 h3
    go_enter Try.func31, Try.ntmps31
    go_wp2_with (first | (go_at_call 16; refine CK.out.mono ?_; rintro e w1 ⟨rfl, hb⟩; have B1 := Lib.hid (below_from hb B0.out B0.out.size); have N1 := Lib.hid (N0.out.past hb); have c1 := N1.out.cell; have l1 := N1.out.lt; clear hb) | (go_at_call 40; refine (EA.out _ _).mono ?_; rintro e w' ⟨rfl, hb⟩; (first | rw [E1.out] | rw [E2.out]); replace B1 := Lib.hid (below_from hb B1.out B1.out.size); replace N1 := Lib.hid (N1.out.past hb); replace c1 := N1.out.cell; replace l1 := N1.out.lt; clear hb) | (go_at_call 50; refine (rcut_any o a b _ (HO.out.below B1.out)).mono ?_; rintro e w' ⟨rfl, hb⟩; replace B1 := Lib.hid (below_from hb B1.out B1.out.size); clear hb))
    go_ret
    exact ⟨ret_bool (by rw [R.out]), B1.out⟩

theorem clock_no {n : Nv} {a : Int} (h : checkB n = false ∨ endB n.K.length a = false) : clockV n a = (0, 1) := by
  unfold clockV
  rw [if_neg]
  rintro ⟨h1, h2⟩
  rcases h with h | h
  · rw [h] at h1; cases h1
  · rw [h] at h2; cases h2
theorem chk_parts {n : Nv} (h : checkB n = true) : topB n = true ∧ allTo (skewAt n.K) n.K.length = true ∧ allTo (slipAt n.S) n.S.length = true ∧ allTo (cutAt n.K.length n.C) n.C.length = true ∧ allTo (msgAt n.K.length n.now n.next n.L) n.L.length = true := by
  unfold checkB at h
  simp only [Bool.and_eq_true] at h
  exact ⟨h.1.1.1.1, h.1.1.1.2, h.1.1.2, h.1.2, h.2⟩
theorem chk_now {n : Nv} (h : checkB n = true) : 0 ≤ n.now ∧ n.now ≤ 1099511627776 := by
  have := (chk_parts h).1
  unfold topB inR maxO at this
  simp only [Bool.and_eq_true, decide_eq_true_eq] at this
  omega
theorem chk_skews {n : Nv} (h : checkB n = true) {k : Nat} (hk : k < n.K.length) : -10 ≤ n.K[k] ∧ n.K[k] ≤ 10 := by
  have := allTo_at (chk_parts h).2.1 hk
  rw [skewAt_at hk] at this
  unfold inR at this
  simpa using this

set_option maxHeartbeats 4000000 in
set_option maxRecDepth 100000 in
/-- What a clock says. -/
theorem clock_any (o : Nt) (a : Int) (w : World) (ho : Nt.At w o) (hs : o.Sn ≤ 50000) : Calls Try.prog 24 #[o.v, .int .i64 a] w fun e w' => e = .returned (.tuple #[.int .i64 (clockV o.val a).1, .int .i64 (clockV o.val a).2]) ∧ Below w.heap.size w w' := by
  have hk := Nat.le_trans ho.k.cap ho.k.max
  have HO := Lib.hid ho
  have B0 := Lib.hid (below_alloc1 w (.cells #[.int .i64 o.now, .int .i64 o.next, .slice o.LA o.Ln o.Lc, .slice o.SA o.Sn o.Sc, .slice o.CA o.Cn o.Cc, .slice o.KA o.Kn o.Kc] 27))
  have N0 := Lib.hid (Has.newAt w #[.int .i64 o.now, .int .i64 o.next, .slice o.LA o.Ln o.Lc, .slice o.SA o.Sn o.Sc, .slice o.CA o.Cn o.Cc, .slice o.KA o.Kn o.Kc] 27 (g := w.heap.size) rfl)
  have CK := Lib.hid (check_any o (w.alloc (.cells #[.int .i64 o.now, .int .i64 o.next, .slice o.LA o.Ln o.Lc, .slice o.SA o.Sn o.Sc, .slice o.CA o.Cn o.Cc, .slice o.KA o.Kn o.Kc] 27)) (ho.alloc _) hs)
  have KL := Lib.hid (show o.val.K.length = o.Kn from ho.k.len)
  have EA := Lib.hid (fun a W => (show Calls Try.prog 40 #[.agg #[.int .i64 o.now, .int .i64 o.next, .slice o.LA o.Ln o.Lc, .slice o.SA o.Sn o.Sc, .slice o.CA o.Cn o.Cc, .slice o.KA o.Kn o.Kc], .int .i64 a] W (fun e w' => e = .returned (.bool (endB o.Kn a)) ∧ Below W.heap.size W w') from end_any o a W))
  clear ho
  have EI : Hid (inR a 0 ((o.Kn : Int) - 1) = endB o.Kn a) := Lib.hid (by
    unfold inR endB
    congr 1
    rw [decide_eq_decide]
    omega)
  cases hc : checkB o.val with
  | false =>
    rw [checkI_no hc] at CK
    rw [clock_no (.inl hc)]
    clear hc
    go_enter Try.func24, Try.ntmps24
    go_wp2_with (first | (go_at_call 15; refine CK.out.mono ?_; rintro e w1 ⟨rfl, hb⟩; have B1 := Lib.hid (below_from hb B0.out B0.out.size); have N1 := Lib.hid (N0.out.past hb); have c1 := N1.out.cell; have l1 := N1.out.lt; clear hb))
    go_ret2
    exact ⟨rfl, B1.out⟩
  | true =>
  rw [checkI_yes hc] at CK
  cases h1 : endB o.Kn a with
  | false =>
    have E1 := Lib.hid h1
    rw [clock_no (.inr (by rw [KL.out]; exact h1))]
    clear hc h1
    go_enter Try.func24, Try.ntmps24
    go_wp2_with (first | (go_at_call 15; refine CK.out.mono ?_; rintro e w1 ⟨rfl, hb⟩; have B1 := Lib.hid (below_from hb B0.out B0.out.size); have N1 := Lib.hid (N0.out.past hb); have c1 := N1.out.cell; have l1 := N1.out.lt; clear hb) | (go_at_call 35; refine (within_any _ _ _ _).mono ?_; rintro e w' ⟨rfl, rfl⟩; rw [EI.out, E1.out]))
    go_ret2
    exact ⟨rfl, B1.out⟩
  | true =>
    have E1 := Lib.hid h1
    have hb1 : 0 ≤ a ∧ a < (o.Kn : Int) := by unfold endB at h1; simpa using h1
    obtain ⟨k, rfl⟩ : ∃ k : Nat, a = k := ⟨a.toNat, by omega⟩
    have hlt : k < o.Kn := by omega
    have hkl : k < o.K.length := by rw [HO.out.k.len]; exact hlt
    have SK := chk_skews hc (k := k) hkl
    have NW := chk_now hc
    have RV : clockV o.val k = (max 0 (o.now + o.K[k]), 0) := by
      unfold clockV
      rw [if_pos ⟨hc, by rw [KL.out]; exact h1⟩, Int.toNat_natCast]
      show (max 0 (o.now + (o.K[k]?).getD 0), (0 : Int)) = _
      rw [List.getElem?_eq_getElem hkl]
      rfl
    rw [RV]
    have HX := Lib.hid (show ∃ b off, o.KA = some ⟨b, off, none⟩ ∧ b < w.heap.size ∧ w.cell? ⟨b, off + k, none⟩ = some (.int .i64 o.K[k]) from by
      obtain ⟨b, off, _, h2, h3, h4⟩ := int_at HO.out.k hlt
      exact ⟨b, off, h2, h3, h4⟩)
    replace SK : -10 ≤ o.K[k] ∧ o.K[k] ≤ 10 := SK
    replace NW : 0 ≤ o.now ∧ o.now ≤ 1099511627776 := NW
    generalize o.K[k] = x at *
    have wr : IntKind.i64.wrap (o.now + x) = o.now + x := IntWalk.i64_in _ (by omega)
    clear hc h1 RV
    go_enter Try.func24, Try.ntmps24
    go_wp2_with (first | (go_at_call 15; refine CK.out.mono ?_; rintro e w1 ⟨rfl, hb⟩; have B1 := Lib.hid (below_from hb B0.out B0.out.size); have N1 := Lib.hid (N0.out.past hb); have c1 := N1.out.cell; have l1 := N1.out.lt; clear hb) | (go_at_call 35; refine (within_any _ _ _ _).mono ?_; rintro e w' ⟨rfl, rfl⟩; rw [EI.out, E1.out]))
    obtain ⟨b, off, hA, hbl, x0⟩ := HX.out
    have y0 : w1.cell? ⟨b, off + k, none⟩ = some (.int .i64 x) := (B1.out.cell (p := ⟨b, off + k, none⟩) hbl).trans x0
    have ry := at_regrown y0
    have rn0 := at_regrown (N1.out.cell 0)
    have rn5 := at_regrown (N1.out.cell 5)
    rw [hA] at rn5
    refine region_below (by kernel_rfl) (by kernel_rfl) ?_
    repeat (go_big_quiet_step (fail))
    refine wpQuiet_nil ?_
    intro wz hbz
    have BZ := Lib.hid (below_from hbz B1.out B1.out.size)
    clear hbz
    go_wp2_with fail
    go_ret2
    exact ⟨by simp, BZ.out⟩

set_option maxHeartbeats 4000000 in
set_option maxRecDepth 100000 in
/-- What a clock says. -/
theorem rclock_any (o : Nt) (a : Int) (w : World) (ho : Nt.At w o) : Calls Try.prog 30 #[o.v, .int .i64 a] w fun e w' => e = .returned (.tuple #[.int .i64 (clockV o.val a).1, .int .i64 (clockV o.val a).2]) ∧ Below w.heap.size w w' := by
  have hk := Nat.le_trans ho.k.cap ho.k.max
  have HO := Lib.hid ho
  have B0 := Lib.hid (below_alloc1 w (.cells #[.int .i64 o.now, .int .i64 o.next, .slice o.LA o.Ln o.Lc, .slice o.SA o.Sn o.Sc, .slice o.CA o.Cn o.Cc, .slice o.KA o.Kn o.Kc] 27))
  have N0 := Lib.hid (Has.newAt w #[.int .i64 o.now, .int .i64 o.next, .slice o.LA o.Ln o.Lc, .slice o.SA o.Sn o.Sc, .slice o.CA o.Cn o.Cc, .slice o.KA o.Kn o.Kc] 27 (g := w.heap.size) rfl)
  have CK := Lib.hid (rcheck_any o (w.alloc (.cells #[.int .i64 o.now, .int .i64 o.next, .slice o.LA o.Ln o.Lc, .slice o.SA o.Sn o.Sc, .slice o.CA o.Cn o.Cc, .slice o.KA o.Kn o.Kc] 27)) (ho.alloc _))
  have KL := Lib.hid (show o.val.K.length = o.Kn from ho.k.len)
  have EA := Lib.hid (fun a W => (show Calls Try.prog 40 #[.agg #[.int .i64 o.now, .int .i64 o.next, .slice o.LA o.Ln o.Lc, .slice o.SA o.Sn o.Sc, .slice o.CA o.Cn o.Cc, .slice o.KA o.Kn o.Kc], .int .i64 a] W (fun e w' => e = .returned (.bool (endB o.Kn a)) ∧ Below W.heap.size W w') from end_any o a W))
  clear ho
  have EI : Hid (inR a 0 ((o.Kn : Int) - 1) = endB o.Kn a) := Lib.hid (by
    unfold inR endB
    congr 1
    rw [decide_eq_decide]
    omega)
  cases hc : checkB o.val with
  | false =>
    rw [checkI_no hc] at CK
    rw [clock_no (.inl hc)]
    clear hc
    go_enter Try.func30, Try.ntmps30
    go_wp2_with (first | (go_at_call 16; refine CK.out.mono ?_; rintro e w1 ⟨rfl, hb⟩; have B1 := Lib.hid (below_from hb B0.out B0.out.size); have N1 := Lib.hid (N0.out.past hb); have c1 := N1.out.cell; have l1 := N1.out.lt; clear hb))
    go_ret2
    exact ⟨rfl, B1.out⟩
  | true =>
  rw [checkI_yes hc] at CK
  cases h1 : endB o.Kn a with
  | false =>
    have E1 := Lib.hid h1
    rw [clock_no (.inr (by rw [KL.out]; exact h1))]
    clear hc h1
    go_enter Try.func30, Try.ntmps30
    go_wp2_with (first | (go_at_call 16; refine CK.out.mono ?_; rintro e w1 ⟨rfl, hb⟩; have B1 := Lib.hid (below_from hb B0.out B0.out.size); have N1 := Lib.hid (N0.out.past hb); have c1 := N1.out.cell; have l1 := N1.out.lt; clear hb) | (go_at_call 40; refine (EA.out _ _).mono ?_; rintro e w' ⟨rfl, hb⟩; rw [E1.out]; replace B1 := Lib.hid (below_from hb B1.out B1.out.size); replace N1 := Lib.hid (N1.out.past hb); replace c1 := N1.out.cell; replace l1 := N1.out.lt; clear hb))
    go_ret2
    exact ⟨rfl, B1.out⟩
  | true =>
    have E1 := Lib.hid h1
    have hb1 : 0 ≤ a ∧ a < (o.Kn : Int) := by unfold endB at h1; simpa using h1
    obtain ⟨k, rfl⟩ : ∃ k : Nat, a = k := ⟨a.toNat, by omega⟩
    have hlt : k < o.Kn := by omega
    have hkl : k < o.K.length := by rw [HO.out.k.len]; exact hlt
    have SK := chk_skews hc (k := k) hkl
    have NW := chk_now hc
    have RV : clockV o.val k = (max 0 (o.now + o.K[k]), 0) := by
      unfold clockV
      rw [if_pos ⟨hc, by rw [KL.out]; exact h1⟩, Int.toNat_natCast]
      show (max 0 (o.now + (o.K[k]?).getD 0), (0 : Int)) = _
      rw [List.getElem?_eq_getElem hkl]
      rfl
    rw [RV]
    have HX := Lib.hid (show ∃ b off, o.KA = some ⟨b, off, none⟩ ∧ b < w.heap.size ∧ w.cell? ⟨b, off + k, none⟩ = some (.int .i64 o.K[k]) from by
      obtain ⟨b, off, _, h2, h3, h4⟩ := int_at HO.out.k hlt
      exact ⟨b, off, h2, h3, h4⟩)
    replace SK : -10 ≤ o.K[k] ∧ o.K[k] ≤ 10 := SK
    replace NW : 0 ≤ o.now ∧ o.now ≤ 1099511627776 := NW
    generalize o.K[k] = x at *
    have wr : IntKind.i64.wrap (o.now + x) = o.now + x := IntWalk.i64_in _ (by omega)
    clear hc h1 RV
    go_enter Try.func30, Try.ntmps30
    go_wp2_with (first | (go_at_call 16; refine CK.out.mono ?_; rintro e w1 ⟨rfl, hb⟩; have B1 := Lib.hid (below_from hb B0.out B0.out.size); have N1 := Lib.hid (N0.out.past hb); have c1 := N1.out.cell; have l1 := N1.out.lt; clear hb) | (go_at_call 40; refine (EA.out _ _).mono ?_; rintro e w' ⟨rfl, hb⟩; rw [E1.out]; replace B1 := Lib.hid (below_from hb B1.out B1.out.size); replace N1 := Lib.hid (N1.out.past hb); replace c1 := N1.out.cell; replace l1 := N1.out.lt; clear hb))
    obtain ⟨b, off, hA, hbl, x0⟩ := HX.out
    have y0 : w'.cell? ⟨b, off + k, none⟩ = some (.int .i64 x) := (B1.out.cell (p := ⟨b, off + k, none⟩) hbl).trans x0
    have ry := at_regrown y0
    have rn0 := at_regrown (N1.out.cell 0)
    have rn5 := at_regrown (N1.out.cell 5)
    rw [hA] at rn5
    refine region_below (by kernel_rfl) (by kernel_rfl) ?_
    repeat (go_big_quiet_step (fail))
    refine wpQuiet_nil ?_
    intro wz hbz
    have BZ := Lib.hid (below_from hbz B1.out B1.out.size)
    clear hbz
    go_wp2_with fail
    go_ret2
    exact ⟨by simp, BZ.out⟩

end Go.Proofs.Ytmlgahambecamaa
