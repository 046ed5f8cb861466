/- New, of the document. -/
import Derived.Test.YtmlgahambecamaaRes
import Derived.Test.YtmlgahambecamaaRCheck
import Derived.Deep.DeepCutAuto
namespace Go.Proofs.Ytmlgahambecamaa
open Go.RowKit Go.Shelf

set_option maxRecDepth 100000 in
set_option maxHeartbeats 8000000 in
theorem rnew_any (m : Int) (SA : Option Addr) (Sn Sc : Nat) (S : List Sp) (KA : Option Addr) (Kn Kc : Nat) (K : List Int) (w : World) (hs : Sl spK w SA Sn Sc S) (hk : Sl intK w KA Kn Kc K) (hS : Sn ≤ 60) (hK : Kn ≤ 40) :
    Calls Try.prog 14 #[.int .i64 m, .slice SA Sn Sc, .slice KA Kn Kc] w fun e w' => NetRes w.heap.size (newV m S K) e w' ∧ Below w.heap.size w w' := by
  obtain ⟨i1, hi1, hz1, hs1, hb1⟩ := info_parts inf54
  obtain ⟨i3, hi3, hz3, hs3, hb3⟩ := info_parts inf3
  obtain ⟨W0, hW0⟩ : ∃ W0, W0 = w.alloc (.cells #[.int .i64 0, .int .i64 0, .slice none 0 0, .slice none 0 0, .slice none 0 0, .slice none 0 0] 27) := ⟨_, rfl⟩
  have R0 := Lib.hid (show Has W0 w.heap.size #[.int .i64 0, .int .i64 0, .slice none 0 0, .slice none 0 0, .slice none 0 0, .slice none 0 0] from by rw [hW0]; exact Has.newAt w #[.int .i64 0, .int .i64 0, .slice none 0 0, .slice none 0 0, .slice none 0 0, .slice none 0 0] 27 (g := w.heap.size) rfl)
  have B0 := Lib.hid (show Below w.heap.size w W0 from by rw [hW0]; exact below_alloc1 w (.cells #[.int .i64 0, .int .i64 0, .slice none 0 0, .slice none 0 0, .slice none 0 0, .slice none 0 0] 27))
  have S0 := Lib.hid (show w.heap.size + 1 ≤ W0.heap.size from by rw [hW0]; simp)
  have HW0 := Lib.hid hW0
  have HS := Lib.hid hs
  have HKK := Lib.hid hk
  have HK : Hid ((K.length : Int) = Kn) := Lib.hid (by rw [hk.len])
  clear hs hk hW0
  by_cases hm : m = (Kn : Int)
  · subst hm
    have dm : ((Kn : Int) != (Kn : Int)) = false := by simp
    cases hc : checkB ⟨0, 0, [], S, [], K⟩ with
    | false =>
      have HC := Lib.hid hc
      clear hc
      go_enter Try.func14, Try.ntmps14
      go_upto_region 1 with (fail)
      rw [← HW0.out]
      go_wp2_with (at_builtin; refine wpList_append_sl (K := spK) _ rfl _ _ 23 rfl (w.heap.size + 1) 54 i1 _ 24 Try.underlying23 hi1 hz1 hs1 hb1 rfl none 0 0 [] rfl (World.ownsRow_nil _ _ _ _) SA Sn Sc _ rfl (HS.out.below B0.out) ?qa1 ?qb1 ?qc1 ?_)
      case qa1 => unfold maxLen; omega
      case qb1 => omega
      case qc1 => exact S0.out
      intro A1 c1 w1 hown hgrow _
      have GX := Lib.hid (grown_below hgrow (Nat.le_refl _) (fun j hj => by simp [Value.ownBlock] at hj))
      have B1 := Lib.hid (below_from GX.out B0.out B0.out.size)
      have R1 := Lib.hid (R0.out.past GX.out)
      have S1 := Lib.hid (Nat.le_trans S0.out GX.out.size)
      have P1_1 := Lib.hid (show Own spK 54 w1 (w.heap.size + 1) A1 Sn c1 _ from ⟨HS.out.len, by simpa using hown, fun a ha => spK.below (HS.out.each a ha) B1.out⟩)
      clear hown hgrow GX
      go_wp2_with (at_builtin; refine wpList_append_sl (K := intK) _ rfl _ _ 25 rfl (w.heap.size + 1) 3 i3 _ 8 Try.underlying25 hi3 hz3 hs3 hb3 rfl none 0 0 [] rfl (World.ownsRow_nil _ _ _ _) KA Kn Kc _ rfl (HKK.out.below B1.out) ?qa2 ?qb2 ?qc2 ?_)
      case qa2 => unfold maxLen; omega
      case qb2 => omega
      case qc2 => exact S1.out
      intro A2 c2 w2 hown hgrow _
      have GX := Lib.hid (grown_below hgrow (Nat.le_refl _) (fun j hj => by simp [Value.ownBlock] at hj))
      have B2 := Lib.hid (below_from GX.out B1.out B1.out.size)
      have R2 := Lib.hid (R1.out.past GX.out)
      have S2 := Lib.hid (Nat.le_trans S1.out GX.out.size)
      have P1_2 := Lib.hid (P1_1.out.kept GX.out)
      have P2_2 := Lib.hid (show Own intK 3 w2 (w.heap.size + 1) A2 Kn c2 _ from ⟨HKK.out.len, by simpa using hown, fun a ha => intK.below (HKK.out.each a ha) B2.out⟩)
      clear hown hgrow GX
      have R3 := Lib.hid (R2.out.alloc (.cells #[.int .i64 0, .int .i64 0, .slice none 0 0, .slice A1 Sn c1, .slice none 0 0, .slice A2 Kn c2] 27))
      have B3 := Lib.hid (B2.out.alloc B2.out.size (.cells #[.int .i64 0, .int .i64 0, .slice none 0 0, .slice A1 Sn c1, .slice none 0 0, .slice A2 Kn c2] 27))
      have T3 := Lib.hid (Has.newAt w2 #[.int .i64 0, .int .i64 0, .slice none 0 0, .slice A1 Sn c1, .slice none 0 0, .slice A2 Kn c2] 27 (g := w2.heap.size) rfl)
      have QO := Lib.hid (show Nt.Own (w2.alloc (.cells #[.int .i64 0, .int .i64 0, .slice none 0 0, .slice A1 Sn c1, .slice none 0 0, .slice A2 Kn c2] 27)) (w.heap.size + 1) (⟨0, 0, none, 0, 0, [], A1, Sn, c1, S, none, 0, 0, [], A2, Kn, c2, K⟩ : Nt) from ⟨(noN_own _ _).l, P1_2.out.kept (below_alloc1 w2 _), (noN_own _ _).c, P2_2.out.kept (below_alloc1 w2 _)⟩)
      have r3c := R3.out.cell
      have r3l := R3.out.lt
      have r3f := R3.out.free
      have CK := Lib.hid (show Calls Try.prog 16 #[.agg #[.int .i64 0, .int .i64 0, .slice none 0 0, .slice A1 Sn c1, .slice none 0 0, .slice A2 Kn c2]] (w2.alloc (.cells #[.int .i64 0, .int .i64 0, .slice none 0 0, .slice A1 Sn c1, .slice none 0 0, .slice A2 Kn c2] 27)) (fun e w' => e = .returned (.int .i64 (checkI ⟨0, 0, [], S, [], K⟩)) ∧ Below (w2.alloc (.cells #[.int .i64 0, .int .i64 0, .slice none 0 0, .slice A1 Sn c1, .slice none 0 0, .slice A2 Kn c2] 27)).heap.size (w2.alloc (.cells #[.int .i64 0, .int .i64 0, .slice none 0 0, .slice A1 Sn c1, .slice none 0 0, .slice A2 Kn c2] 27)) w') from rcheck_any (⟨0, 0, none, 0, 0, [], A1, Sn, c1, S, none, 0, 0, [], A2, Kn, c2, K⟩ : Nt) (w2.alloc (.cells #[.int .i64 0, .int .i64 0, .slice none 0 0, .slice A1 Sn c1, .slice none 0 0, .slice A2 Kn c2] 27)) QO.out.at_)
      rw [checkI_one HC.out] at CK
      clear r3c r3l r3f
      go_wp2_with (go_at_call 16; refine CK.out.mono ?_; rintro e w4 ⟨rfl, hb⟩; have B4 := Lib.hid (below_from hb B3.out B3.out.size); have R4 := Lib.hid (R3.out.past hb); have r4c := R4.out.cell; have r4l := R4.out.lt; have r4f := R4.out.free; have T4 := Lib.hid (T3.out.past hb); have t4c := T4.out.cell; have t4l := T4.out.lt; have O4 := Lib.hid (QO.out.kept hb); clear hb)
      refine bodyPost_ret (v := .tuple #[noN.v, .int .i64 1]) (by simp [results, Try.results14, go_sem, noN, r4c]) rfl ?_
      exact ⟨NetRes.no (newV_no (.inr HC.out)), B4.out.trans (grown_below (setCells_grown w.heap.size [.int .i64 0, .int .i64 0, .slice none 0 0, .slice none 0 0, .slice none 0 0, .slice none 0 0] 0 w4) B4.out.size (fun q hq => by injection hq with hq; omega))⟩
    | true =>
      have HC := Lib.hid hc
      clear hc
      go_enter Try.func14, Try.ntmps14
      go_upto_region 1 with (fail)
      rw [← HW0.out]
      go_wp2_with (at_builtin; refine wpList_append_sl (K := spK) _ rfl _ _ 23 rfl (w.heap.size + 1) 54 i1 _ 24 Try.underlying23 hi1 hz1 hs1 hb1 rfl none 0 0 [] rfl (World.ownsRow_nil _ _ _ _) SA Sn Sc _ rfl (HS.out.below B0.out) ?qa1 ?qb1 ?qc1 ?_)
      case qa1 => unfold maxLen; omega
      case qb1 => omega
      case qc1 => exact S0.out
      intro A1 c1 w1 hown hgrow _
      have GX := Lib.hid (grown_below hgrow (Nat.le_refl _) (fun j hj => by simp [Value.ownBlock] at hj))
      have B1 := Lib.hid (below_from GX.out B0.out B0.out.size)
      have R1 := Lib.hid (R0.out.past GX.out)
      have S1 := Lib.hid (Nat.le_trans S0.out GX.out.size)
      have P1_1 := Lib.hid (show Own spK 54 w1 (w.heap.size + 1) A1 Sn c1 _ from ⟨HS.out.len, by simpa using hown, fun a ha => spK.below (HS.out.each a ha) B1.out⟩)
      clear hown hgrow GX
      go_wp2_with (at_builtin; refine wpList_append_sl (K := intK) _ rfl _ _ 25 rfl (w.heap.size + 1) 3 i3 _ 8 Try.underlying25 hi3 hz3 hs3 hb3 rfl none 0 0 [] rfl (World.ownsRow_nil _ _ _ _) KA Kn Kc _ rfl (HKK.out.below B1.out) ?qa2 ?qb2 ?qc2 ?_)
      case qa2 => unfold maxLen; omega
      case qb2 => omega
      case qc2 => exact S1.out
      intro A2 c2 w2 hown hgrow _
      have GX := Lib.hid (grown_below hgrow (Nat.le_refl _) (fun j hj => by simp [Value.ownBlock] at hj))
      have B2 := Lib.hid (below_from GX.out B1.out B1.out.size)
      have R2 := Lib.hid (R1.out.past GX.out)
      have S2 := Lib.hid (Nat.le_trans S1.out GX.out.size)
      have P1_2 := Lib.hid (P1_1.out.kept GX.out)
      have P2_2 := Lib.hid (show Own intK 3 w2 (w.heap.size + 1) A2 Kn c2 _ from ⟨HKK.out.len, by simpa using hown, fun a ha => intK.below (HKK.out.each a ha) B2.out⟩)
      clear hown hgrow GX
      have R3 := Lib.hid (R2.out.alloc (.cells #[.int .i64 0, .int .i64 0, .slice none 0 0, .slice A1 Sn c1, .slice none 0 0, .slice A2 Kn c2] 27))
      have B3 := Lib.hid (B2.out.alloc B2.out.size (.cells #[.int .i64 0, .int .i64 0, .slice none 0 0, .slice A1 Sn c1, .slice none 0 0, .slice A2 Kn c2] 27))
      have T3 := Lib.hid (Has.newAt w2 #[.int .i64 0, .int .i64 0, .slice none 0 0, .slice A1 Sn c1, .slice none 0 0, .slice A2 Kn c2] 27 (g := w2.heap.size) rfl)
      have QO := Lib.hid (show Nt.Own (w2.alloc (.cells #[.int .i64 0, .int .i64 0, .slice none 0 0, .slice A1 Sn c1, .slice none 0 0, .slice A2 Kn c2] 27)) (w.heap.size + 1) (⟨0, 0, none, 0, 0, [], A1, Sn, c1, S, none, 0, 0, [], A2, Kn, c2, K⟩ : Nt) from ⟨(noN_own _ _).l, P1_2.out.kept (below_alloc1 w2 _), (noN_own _ _).c, P2_2.out.kept (below_alloc1 w2 _)⟩)
      have r3c := R3.out.cell
      have r3l := R3.out.lt
      have r3f := R3.out.free
      have CK := Lib.hid (show Calls Try.prog 16 #[.agg #[.int .i64 0, .int .i64 0, .slice none 0 0, .slice A1 Sn c1, .slice none 0 0, .slice A2 Kn c2]] (w2.alloc (.cells #[.int .i64 0, .int .i64 0, .slice none 0 0, .slice A1 Sn c1, .slice none 0 0, .slice A2 Kn c2] 27)) (fun e w' => e = .returned (.int .i64 (checkI ⟨0, 0, [], S, [], K⟩)) ∧ Below (w2.alloc (.cells #[.int .i64 0, .int .i64 0, .slice none 0 0, .slice A1 Sn c1, .slice none 0 0, .slice A2 Kn c2] 27)).heap.size (w2.alloc (.cells #[.int .i64 0, .int .i64 0, .slice none 0 0, .slice A1 Sn c1, .slice none 0 0, .slice A2 Kn c2] 27)) w') from rcheck_any (⟨0, 0, none, 0, 0, [], A1, Sn, c1, S, none, 0, 0, [], A2, Kn, c2, K⟩ : Nt) (w2.alloc (.cells #[.int .i64 0, .int .i64 0, .slice none 0 0, .slice A1 Sn c1, .slice none 0 0, .slice A2 Kn c2] 27)) QO.out.at_)
      rw [checkI_nil HC.out] at CK
      clear r3c r3l r3f
      go_wp2_with (go_at_call 16; refine CK.out.mono ?_; rintro e w4 ⟨rfl, hb⟩; have B4 := Lib.hid (below_from hb B3.out B3.out.size); have R4 := Lib.hid (R3.out.past hb); have r4c := R4.out.cell; have r4l := R4.out.lt; have r4f := R4.out.free; have T4 := Lib.hid (T3.out.past hb); have t4c := T4.out.cell; have t4l := T4.out.lt; have O4 := Lib.hid (QO.out.kept hb); clear hb)
      refine bodyPost_ret (v := .tuple #[(⟨0, 0, none, 0, 0, [], A1, Sn, c1, S, none, 0, 0, [], A2, Kn, c2, K⟩ : Nt).v, .int .i64 0]) (by simp [results, Try.results14, go_sem, r4c]) rfl ?_
      have G := setCells_grown w.heap.size [.int .i64 0, .int .i64 0, .slice none 0 0, .slice A1 Sn c1, .slice none 0 0, .slice A2 Kn c2] 0 w4
      exact ⟨NetRes.mk (⟨0, 0, none, 0, 0, [], A1, Sn, c1, S, none, 0, 0, [], A2, Kn, c2, K⟩ : Nt) (by rw [newV_yes HK.out HC.out]; rfl) ((O4.out.grown G (by omega) (by intro a ha; cases ha)).base (by omega)), B4.out.trans (grown_below G B4.out.size (fun q hq => by injection hq with hq; omega))⟩
  · have dm : ((Kn : Int) != m) = true := by rw [bne_iff_ne]; exact fun h => hm h.symm
    go_enter Try.func14, Try.ntmps14
    go_upto_region 1 with (fail)
    rw [← HW0.out]
    go_wp2_with (at_builtin; refine wpList_append_sl (K := spK) _ rfl _ _ 23 rfl (w.heap.size + 1) 54 i1 _ 24 Try.underlying23 hi1 hz1 hs1 hb1 rfl none 0 0 [] rfl (World.ownsRow_nil _ _ _ _) SA Sn Sc _ rfl (HS.out.below B0.out) ?qa1 ?qb1 ?qc1 ?_)
    case qa1 => unfold maxLen; omega
    case qb1 => omega
    case qc1 => exact S0.out
    intro A1 c1 w1 hown hgrow _
    have GX := Lib.hid (grown_below hgrow (Nat.le_refl _) (fun j hj => by simp [Value.ownBlock] at hj))
    have B1 := Lib.hid (below_from GX.out B0.out B0.out.size)
    have R1 := Lib.hid (R0.out.past GX.out)
    have S1 := Lib.hid (Nat.le_trans S0.out GX.out.size)
    have P1_1 := Lib.hid (show Own spK 54 w1 (w.heap.size + 1) A1 Sn c1 _ from ⟨HS.out.len, by simpa using hown, fun a ha => spK.below (HS.out.each a ha) B1.out⟩)
    clear hown hgrow GX
    go_wp2_with (at_builtin; refine wpList_append_sl (K := intK) _ rfl _ _ 25 rfl (w.heap.size + 1) 3 i3 _ 8 Try.underlying25 hi3 hz3 hs3 hb3 rfl none 0 0 [] rfl (World.ownsRow_nil _ _ _ _) KA Kn Kc _ rfl (HKK.out.below B1.out) ?qa2 ?qb2 ?qc2 ?_)
    case qa2 => unfold maxLen; omega
    case qb2 => omega
    case qc2 => exact S1.out
    intro A2 c2 w2 hown hgrow _
    have GX := Lib.hid (grown_below hgrow (Nat.le_refl _) (fun j hj => by simp [Value.ownBlock] at hj))
    have B2 := Lib.hid (below_from GX.out B1.out B1.out.size)
    have R2 := Lib.hid (R1.out.past GX.out)
    have S2 := Lib.hid (Nat.le_trans S1.out GX.out.size)
    have P1_2 := Lib.hid (P1_1.out.kept GX.out)
    have P2_2 := Lib.hid (show Own intK 3 w2 (w.heap.size + 1) A2 Kn c2 _ from ⟨HKK.out.len, by simpa using hown, fun a ha => intK.below (HKK.out.each a ha) B2.out⟩)
    clear hown hgrow GX
    have R3 := Lib.hid (R2.out.alloc (.cells #[.int .i64 0, .int .i64 0, .slice none 0 0, .slice A1 Sn c1, .slice none 0 0, .slice A2 Kn c2] 27))
    have B3 := Lib.hid (B2.out.alloc B2.out.size (.cells #[.int .i64 0, .int .i64 0, .slice none 0 0, .slice A1 Sn c1, .slice none 0 0, .slice A2 Kn c2] 27))
    have T3 := Lib.hid (Has.newAt w2 #[.int .i64 0, .int .i64 0, .slice none 0 0, .slice A1 Sn c1, .slice none 0 0, .slice A2 Kn c2] 27 (g := w2.heap.size) rfl)
    have QO := Lib.hid (show Nt.Own (w2.alloc (.cells #[.int .i64 0, .int .i64 0, .slice none 0 0, .slice A1 Sn c1, .slice none 0 0, .slice A2 Kn c2] 27)) (w.heap.size + 1) (⟨0, 0, none, 0, 0, [], A1, Sn, c1, S, none, 0, 0, [], A2, Kn, c2, K⟩ : Nt) from ⟨(noN_own _ _).l, P1_2.out.kept (below_alloc1 w2 _), (noN_own _ _).c, P2_2.out.kept (below_alloc1 w2 _)⟩)
    have r3c := R3.out.cell
    have r3l := R3.out.lt
    have r3f := R3.out.free
    go_wp2_with fail
    refine bodyPost_ret (v := .tuple #[noN.v, .int .i64 1]) (by simp [results, Try.results14, go_sem, noN, r3c]) rfl ?_
    exact ⟨NetRes.no (newV_no (.inl (fun h => hm (by rw [← h, HK.out])))), B3.out.trans (grown_below (setCells_grown w.heap.size [.int .i64 0, .int .i64 0, .slice none 0 0, .slice none 0 0, .slice none 0 0, .slice none 0 0] 0 (w2.alloc (.cells #[.int .i64 0, .int .i64 0, .slice none 0 0, .slice A1 Sn c1, .slice none 0 0, .slice A2 Kn c2] 27))) B3.out.size (fun q hq => by injection hq with hq; omega))⟩

end Go.Proofs.Ytmlgahambecamaa
