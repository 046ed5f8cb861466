/- NetHalves: time that goes by in two parts brings what it brings at once, in the same order. -/
import Derived.Test.YtmlgahambecamaaLawL
import Derived.Test.YtmlgahambecamaaChkP
namespace Go.Proofs.Ytmlgahambecamaa
open Go.RowKit Go.Shelf

set_option maxHeartbeats 16000000 in
set_option maxRecDepth 100000 in
theorem lhalves_any (o : Nt) (a b : Int) (w : World) (ho : Nt.At w o) : Calls Try.prog 6 #[o.v, .int .i64 a, .int .i64 b] w fun e w' => e = .returned (.bool true) ∧ Below w.heap.size w w' := by
  obtain ⟨i0, hi0, hz0, hs0, hb0⟩ := info_parts inf40
  obtain ⟨V1, hV1⟩ : ∃ V, tickV o.val a = V := ⟨_, rfl⟩
  obtain ⟨V2, hV2⟩ : ∃ V, tickV V1.1 b = V := ⟨_, rfl⟩
  obtain ⟨V3, hV3⟩ : ∃ V, tickV o.val (a + b) = V := ⟨_, rfl⟩
  have T1 := tick_len o.val a
  rw [hV1] at T1
  have T2 := tick_len V1.1 b
  rw [hV2] at T2
  obtain ⟨V1, M1, e1⟩ := V1
  obtain ⟨V2, M2, e2⟩ := V2
  obtain ⟨V3, M3, e3⟩ := V3
  have H1 := Lib.hid hV1
  have H2 := Lib.hid hV2
  have H3 := Lib.hid hV3
  have LE := Lib.hid ho.l.len
  have TL1 := Lib.hid T1
  have TL2 := Lib.hid T2
  clear hV1 hV2 hV3 T1 T2
  have bw := below_alloc1 w (.cells #[.int .i64 o.now, .int .i64 o.next, .slice o.LA o.Ln o.Lc, .slice o.SA o.Sn o.Sc, .slice o.CA o.Cn o.Cc, .slice o.KA o.Kn o.Kc] 27)
  have B0 := Lib.hid bw
  have SO0 := Lib.hid (Has.newAt w #[.int .i64 o.now, .int .i64 o.next, .slice o.LA o.Ln o.Lc, .slice o.SA o.Sn o.Sc, .slice o.CA o.Cn o.Cc, .slice o.KA o.Kn o.Kc] 27 (g := w.heap.size) rfl)
  have cSO0 := SO0.out.cell
  have lSO0 := SO0.out.lt
  have O0 := Lib.hid (show Nt.Is (w.alloc (.cells #[.int .i64 o.now, .int .i64 o.next, .slice o.LA o.Ln o.Lc, .slice o.SA o.Sn o.Sc, .slice o.CA o.Cn o.Cc, .slice o.KA o.Kn o.Kc] 27)) o o.val from ⟨ho.below bw, rfl⟩)
  have LV := Lib.hid live_any
  have FW := Lib.hid few_any
  have TK := Lib.hid tick_any
  clear bw ho 
  go_enter Try.func6, Try.ntmps6
  go_wp2_with fail
  refine (LV.out _).mono ?_
  intro e w1 hx
  obtain ⟨rfl, hb⟩ := hx
  have B1 := Lib.hid (below_from hb B0.out B0.out.size)
  have SO1 := Lib.hid (SO0.out.past hb)
  have cSO1 := SO1.out.cell
  have lSO1 := SO1.out.lt
  have O1 := Lib.hid (Nt.past O0.out hb)
  clear cSO0 lSO0 hb
  go_wp2_with fail
  refine (FW.out o _ O1.out.1).mono ?_
  intro e w2 hx
  obtain ⟨⟨bf, rfl, hf⟩, hb⟩ := hx
  have HF := Lib.hid hf
  clear hf
  have B2 := Lib.hid (below_from hb B1.out B1.out.size)
  have SO2 := Lib.hid (SO1.out.past hb)
  have cSO2 := SO2.out.cell
  have lSO2 := SO2.out.lt
  have O2 := Lib.hid (Nt.past O1.out hb)
  clear cSO1 lSO1 hb
  cases bf with
  | false =>
    go_wp2_with fail
    go_ret
    exact ⟨rfl, B2.out⟩
  | true =>
  have HF := Lib.hid (HF.out rfl)
  by_cases ha : a < 0
  · have d1 : decide (a < 0) = true := decide_eq_true ha
    go_wp2_with fail
    go_ret
    exact ⟨rfl, B2.out⟩
  have dha : decide (a < 0) = false := decide_eq_false ha
  by_cases hb : b < 0
  · have d1 : decide (b < 0) = true := decide_eq_true hb
    go_wp2_with fail
    go_ret
    exact ⟨rfl, B2.out⟩
  have dhb : decide (b < 0) = false := decide_eq_false hb
  by_cases hc : 1099511627776 < a
  · have d1 : decide (1099511627776 < a) = true := decide_eq_true hc
    go_wp2_with fail
    go_ret
    exact ⟨rfl, B2.out⟩
  have dhc : decide (1099511627776 < a) = false := decide_eq_false hc
  have wr0 : IntKind.i64.wrap (1099511627776 - a) = 1099511627776 - a := IntWalk.i64_in _ (by omega)
  by_cases hd : 1099511627776 - a < b
  · have d1 : decide (1099511627776 - a < b) = true := decide_eq_true hd
    go_wp2_with fail
    go_ret
    exact ⟨rfl, B2.out⟩
  have dhd : decide (1099511627776 - a < b) = false := decide_eq_false hd
  have wr1 : IntKind.i64.wrap (a + b) = a + b := IntWalk.i64_in _ (by omega)
  have FEW := Lib.hid (show o.Few from ⟨by have := HF.out; omega, by have := HF.out; omega, by have := HF.out; omega, by have := HF.out; omega⟩)
  have AB := Lib.hid (show 0 ≤ a ∧ 0 ≤ b ∧ a + b ≤ maxO from ⟨by omega, by omega, by unfold maxO; omega⟩)
  clear ha hb hc hd
  go_wp2_with fail
  refine (tick_at (V := V1) (M := M1) (c := e1) (TK.out o a _ O2.out.1 FEW.out) H1.out).mono ?_
  intro e w3 hx
  obtain ⟨o1, A1, n1, c1, l1, rfl, ha, hm, hb⟩ := hx
  have bk3 := hb.alloc hb.size (.cells #[.int .i64 o1.now, .int .i64 o1.next, .slice o1.LA o1.Ln o1.Lc, .slice o1.SA o1.Sn o1.Sc, .slice o1.CA o1.Cn o1.Cc, .slice o1.KA o1.Kn o1.Kc] 27)
  have B3 := Lib.hid (below_from bk3 B2.out B2.out.size)
  have SO3 := Lib.hid (SO2.out.past bk3)
  have cSO3 := SO3.out.cell
  have lSO3 := SO3.out.lt
  have O3 := Lib.hid (Nt.past O2.out bk3)
  have O1_3 := Lib.hid (Nt.past ha (below_alloc1 w3 (.cells #[.int .i64 o1.now, .int .i64 o1.next, .slice o1.LA o1.Ln o1.Lc, .slice o1.SA o1.Sn o1.Sc, .slice o1.CA o1.Cn o1.Cc, .slice o1.KA o1.Kn o1.Kc] 27)))
  have M1_3 := Lib.hid (Ms.past hm (below_alloc1 w3 (.cells #[.int .i64 o1.now, .int .i64 o1.next, .slice o1.LA o1.Ln o1.Lc, .slice o1.SA o1.Sn o1.Sc, .slice o1.CA o1.Cn o1.Cc, .slice o1.KA o1.Kn o1.Kc] 27)))
  have S1_3 := Lib.hid (Has.newAt w3 #[.int .i64 o1.now, .int .i64 o1.next, .slice o1.LA o1.Ln o1.Lc, .slice o1.SA o1.Sn o1.Sc, .slice o1.CA o1.Cn o1.Cc, .slice o1.KA o1.Kn o1.Kc] 27 (g := w3.heap.size) rfl)
  have cS1_3 := S1_3.out.cell
  have lS1_3 := S1_3.out.lt
  clear cSO2 lSO2 hb ha hm bk3
  have FEW1 := Lib.hid (show o1.Few from by
    have t := TL1.out
    have f := FEW.out
    have l := O3.out.1
    refine O1_3.out.few ?_ ?_ ?_ ?_
    · have h := t.1; have h2 : o.val.L.length = o.Ln := by rw [← LE.out]; simp [Nt.val]
      have := f.l; exact Nat.le_trans h (by omega)
    · have h := t.2.1; have h2 := l.s.len; have := f.s; exact Nat.le_trans h (by show o.S.length ≤ _; omega)
    · have h := t.2.2.1; have h2 := l.c.len; have := f.c; exact Nat.le_trans h (by show o.C.length ≤ _; omega)
    · have h := t.2.2.2.1; have h2 := l.k.len; have := f.k; exact Nat.le_trans h (by show o.K.length ≤ _; omega))
  go_wp2_with fail
  refine (tick_at (V := V2) (M := M2) (c := e2) (TK.out o1 b _ O1_3.out.1 FEW1.out) (by rw [O1_3.out.2]; exact H2.out)).mono ?_
  intro e w4 hx
  obtain ⟨o2, A2, n2, c2, l2, rfl, ha, hm, hb⟩ := hx
  have bk4 := hb.alloc hb.size (.cells #[.int .i64 o2.now, .int .i64 o2.next, .slice o2.LA o2.Ln o2.Lc, .slice o2.SA o2.Sn o2.Sc, .slice o2.CA o2.Cn o2.Cc, .slice o2.KA o2.Kn o2.Kc] 27)
  have B4 := Lib.hid (below_from bk4 B3.out B3.out.size)
  have SO4 := Lib.hid (SO3.out.past bk4)
  have cSO4 := SO4.out.cell
  have lSO4 := SO4.out.lt
  have O4 := Lib.hid (Nt.past O3.out bk4)
  have O1_4 := Lib.hid (Nt.past O1_3.out bk4)
  have M1_4 := Lib.hid (Ms.past M1_3.out bk4)
  have S1_4 := Lib.hid (S1_3.out.past bk4)
  have cS1_4 := S1_4.out.cell
  have lS1_4 := S1_4.out.lt
  have O2_4 := Lib.hid (Nt.past ha (below_alloc1 w4 (.cells #[.int .i64 o2.now, .int .i64 o2.next, .slice o2.LA o2.Ln o2.Lc, .slice o2.SA o2.Sn o2.Sc, .slice o2.CA o2.Cn o2.Cc, .slice o2.KA o2.Kn o2.Kc] 27)))
  have M2_4 := Lib.hid (Ms.past hm (below_alloc1 w4 (.cells #[.int .i64 o2.now, .int .i64 o2.next, .slice o2.LA o2.Ln o2.Lc, .slice o2.SA o2.Sn o2.Sc, .slice o2.CA o2.Cn o2.Cc, .slice o2.KA o2.Kn o2.Kc] 27)))
  have S2_4 := Lib.hid (Has.newAt w4 #[.int .i64 o2.now, .int .i64 o2.next, .slice o2.LA o2.Ln o2.Lc, .slice o2.SA o2.Sn o2.Sc, .slice o2.CA o2.Cn o2.Cc, .slice o2.KA o2.Kn o2.Kc] 27 (g := w4.heap.size) rfl)
  have cS2_4 := S2_4.out.cell
  have lS2_4 := S2_4.out.lt
  clear cSO3 lSO3 cS1_3 lS1_3 hb ha hm bk4
  go_wp2_with fail
  refine (tick_at (V := V3) (M := M3) (c := e3) (TK.out o (a + b) _ O4.out.1 FEW.out) H3.out).mono ?_
  intro e w5 hx
  obtain ⟨o3, A3, n3, c3, l3, rfl, ha, hm, hb⟩ := hx
  have bk5 := hb.alloc hb.size (.cells #[.int .i64 o3.now, .int .i64 o3.next, .slice o3.LA o3.Ln o3.Lc, .slice o3.SA o3.Sn o3.Sc, .slice o3.CA o3.Cn o3.Cc, .slice o3.KA o3.Kn o3.Kc] 27)
  have B5 := Lib.hid (below_from bk5 B4.out B4.out.size)
  have SO5 := Lib.hid (SO4.out.past bk5)
  have cSO5 := SO5.out.cell
  have lSO5 := SO5.out.lt
  have O5 := Lib.hid (Nt.past O4.out bk5)
  have O1_5 := Lib.hid (Nt.past O1_4.out bk5)
  have M1_5 := Lib.hid (Ms.past M1_4.out bk5)
  have S1_5 := Lib.hid (S1_4.out.past bk5)
  have cS1_5 := S1_5.out.cell
  have lS1_5 := S1_5.out.lt
  have O2_5 := Lib.hid (Nt.past O2_4.out bk5)
  have M2_5 := Lib.hid (Ms.past M2_4.out bk5)
  have S2_5 := Lib.hid (S2_4.out.past bk5)
  have cS2_5 := S2_5.out.cell
  have lS2_5 := S2_5.out.lt
  have O3_5 := Lib.hid (Nt.past ha (below_alloc1 w5 (.cells #[.int .i64 o3.now, .int .i64 o3.next, .slice o3.LA o3.Ln o3.Lc, .slice o3.SA o3.Sn o3.Sc, .slice o3.CA o3.Cn o3.Cc, .slice o3.KA o3.Kn o3.Kc] 27)))
  have M3_5 := Lib.hid (Ms.past hm (below_alloc1 w5 (.cells #[.int .i64 o3.now, .int .i64 o3.next, .slice o3.LA o3.Ln o3.Lc, .slice o3.SA o3.Sn o3.Sc, .slice o3.CA o3.Cn o3.Cc, .slice o3.KA o3.Kn o3.Kc] 27)))
  have S3_5 := Lib.hid (Has.newAt w5 #[.int .i64 o3.now, .int .i64 o3.next, .slice o3.LA o3.Ln o3.Lc, .slice o3.SA o3.Sn o3.Sc, .slice o3.CA o3.Cn o3.Cc, .slice o3.KA o3.Kn o3.Kc] 27 (g := w5.heap.size) rfl)
  have cS3_5 := S3_5.out.cell
  have lS3_5 := S3_5.out.lt
  clear cSO4 lSO4 cS1_4 lS1_4 cS2_4 lS2_4 hb ha hm bk5
  by_cases h3 : e3 = 0
  · skip
    subst h3
    obtain ⟨V1', M1', M2', k1, k2, k3⟩ := tick_two AB.out.1 AB.out.2.1 H3.out
    rw [H1.out] at k1
    injection k1 with z1 k1
    injection k1 with z2 z3
    subst z1 z2 z3
    rw [H2.out] at k2
    injection k2 with z1 k2
    injection k2 with z2 z3
    subst z1 z2 z3
    have MM := Lib.hid k3
    clear k3
    have bn1 : n1 ≤ 2000 := by
      have h1 := TL1.out.2.2.2.2
      have h2 : o.val.L.length = o.Ln := by rw [← LE.out]; simp [Nt.val]
      have h3 : M1.length = n1 := by rw [← M1_5.out.2, List.length_map]; exact M1_5.out.1.len
      have := FEW.out.l
      exact Nat.le_trans (Nat.le_of_eq h3.symm) (Nat.le_trans h1 (by omega))
    have bn2 : n2 ≤ 2000 := by
      have h1 := TL2.out.2.2.2.2
      have h0 := TL1.out.1
      have h2 : o.val.L.length = o.Ln := by rw [← LE.out]; simp [Nt.val]
      have h3 : M2.length = n2 := by rw [← M2_5.out.2, List.length_map]; exact M2_5.out.1.len
      have := FEW.out.l
      exact Nat.le_trans (Nat.le_of_eq h3.symm) (Nat.le_trans h1 (Nat.le_trans h0 (by omega)))
    obtain ⟨W6, hW6⟩ : ∃ W, W = w5.alloc (.cells #[.int .i64 o3.now, .int .i64 o3.next, .slice o3.LA o3.Ln o3.Lc, .slice o3.SA o3.Sn o3.Sc, .slice o3.CA o3.Cn o3.Cc, .slice o3.KA o3.Kn o3.Kc] 27) := ⟨_, rfl⟩
    go_upto_region 10 with (fail)
    rw [← hW6] at B5 S2_5 S3_5 cS2_5 cS3_5 lS2_5 lS3_5 O2_5 O3_5 M1_5 M2_5 M3_5
    rw [← hW6]
    clear hW6
    have SA := Lib.hid (same_at O2_5.out O3_5.out)
    go_wp2_with (first
      | (go_at_call 17; refine SA.out.mono ?_; rintro e w7 ⟨rfl, hb⟩; have B7 := Lib.hid (below_from hb B5.out B5.out.size); have X1 := Lib.hid (Ms.past M1_5.out hb); have X2 := Lib.hid (Ms.past M2_5.out hb); have X3 := Lib.hid (Ms.past M3_5.out hb); clear hb)
      | (at_builtin; refine wpList_unguard (by rfl) ?_; refine wpList_append_sl (K := mgK) _ rfl _ _ 22 rfl w7.heap.size 40 i0 _ 56 Try.underlying22 hi0 hz0 hs0 hb0 rfl none 0 0 [] rfl (World.ownsRow_nil _ _ _ _) A1 n1 c1 l1 rfl X1.out.1 ?qc1 ?qc2 ?qc3 ?_))
    case qc1 => unfold maxLen; omega
    case qc2 => omega
    case qc3 => exact Nat.le_refl _
    intro A7 c7 w8 ho hg _
    have b8 := grown_below hg (Nat.le_refl _) (fun j hj => by cases hj)
    have BB := Lib.hid b8
    have R8 := Lib.hid ho
    have Y2 := Lib.hid (Ms.past X2.out b8)
    clear ho hg b8
    go_wp2_with (at_builtin; refine wpList_unguard (by rfl) ?_; refine wpList_append_sl (K := mgK) _ rfl _ _ 22 rfl w7.heap.size 40 i0 _ 56 Try.underlying22 hi0 hz0 hs0 hb0 rfl A7 n1 c7 _ rfl R8.out A2 n2 c2 l2 rfl Y2.out.1 ?qd1 ?qd2 ?qd3 ?_)
    case qd1 => unfold maxLen; omega
    case qd2 => omega
    case qd3 => exact BB.out.size
    intro A9 c9 w9 ho hg _
    have b9 := BB.out.trans (grown_below hg BB.out.size (fun j hj => (R8.out.lt j hj).1))
    have B9 := Lib.hid (below_from b9 B7.out B7.out.size)
    have Z1 := Ms.past X1.out b9
    have Z2 := Ms.past X2.out b9
    have RO := (ROwn.own (K := mgK) (l := l1 ++ l2) ⟨by rw [List.length_append, Z1.1.len, Z2.1.len], by rw [List.flatMap_append]; exact ho⟩ (fun x hx => by rcases List.mem_append.1 hx with h | h; exact Z1.1.each x h; exact Z2.1.each x h)).sl
    have MS := Lib.hid (msgs_at (M := M3) ⟨RO, by rw [List.map_append, Z1.2, Z2.2]; exact MM.out⟩ (Ms.past X3.out b9))
    clear ho hg b9 Z1 Z2 RO
    go_wp2_with (go_at_call 23; refine MS.out.mono ?_; rintro e w10 ⟨rfl, hb⟩; have BE := Lib.hid (below_from hb B9.out B9.out.size); clear hb)
    go_ret
    exact ⟨rfl, BE.out⟩
  · skip
    obtain ⟨h1, h2⟩ := tick_not AB.out.1 AB.out.2.1 AB.out.2.2 H3.out h3
    subst h1
    obtain rfl : n3 = 0 := M3_5.out.none
    have e3a : (e3 != 0) = true := by rw [bne_iff_ne]; exact h3
    have e3b : (e3 == 0) = false := by rw [beq_eq_false_iff_ne]; exact h3
    have e3c : decide (e3 = 0) = false := decide_eq_false h3
    have h4 := h2 e1 e2 H1.out H2.out
    clear h2 h3
    by_cases h5 : e1 = 0
    · have h6 : e2 ≠ 0 := h4.resolve_left (fun h => h h5)
      subst h5
      have e2a : (e2 != 0) = true := by rw [bne_iff_ne]; exact h6
      have e2b : (e2 == 0) = false := by rw [beq_eq_false_iff_ne]; exact h6
      have e2c : decide (e2 = 0) = false := decide_eq_false h6
      clear h4 h6
      go_wp2_with fail
      go_ret
      exact ⟨rfl, B5.out⟩
    · have e1a : (e1 != 0) = true := by rw [bne_iff_ne]; exact h5
      have e1b : (e1 == 0) = false := by rw [beq_eq_false_iff_ne]; exact h5
      have e1c : decide (e1 = 0) = false := decide_eq_false h5
      clear h4 h5
      go_wp2_with fail
      go_ret
      exact ⟨rfl, B5.out⟩

end Go.Proofs.Ytmlgahambecamaa
