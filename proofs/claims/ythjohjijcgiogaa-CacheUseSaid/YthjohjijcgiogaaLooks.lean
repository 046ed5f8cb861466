/- CacheLooks of layer 16: the walk. -/
import Derived.Test.YthjohjijcgiogaaLive
import Derived.Test.YthjohjijcgiogaaSame
namespace Go.Proofs.Ythjohjijcgiogaa
open Go.RowKit

theorem few_le {w : World} {A : Option Addr} {n c : Nat} {l : List Hd} (hl : Hds w A n c l) (hf : fewC (l.map Hd.val) = true) : n ≤ 60 ∧ total l ≤ 20000 := by
  unfold fewC at hf
  rw [decide_eq_true_eq, List.length_map, hl.len, ← total_sz hl.each] at hf
  exact hf
theorem same_true {cap cap' : Int} {l l' : List Hd} (h1 : cap = cap') (h2 : l.map Hd.val = l'.map Hd.val) : sameC cap l cap' l' = true := by unfold sameC; exact decide_eq_true ⟨h1, h2⟩

set_option maxHeartbeats 4000000 in
set_option maxRecDepth 100000 in
theorem looks_any (cap : Int) (A : Option Addr) (n c : Nat) (l : List Hd) (most : Int) (w : World) (hl : Hds w A n c l) :
    Calls Try.prog 3 #[.agg #[.int .i64 cap, .slice A n c], .int .i64 most] w fun e w' => e = .returned (.bool true) ∧ Below w.heap.size w w' := by
  have B0 := Lib.hid (below_alloc1 w (.cells #[.int .i64 cap, .slice A n c] 24))
  have N2 := Lib.hid (Has.newAt w #[.int .i64 cap, .slice A n c] 24 (g := w.heap.size) rfl)
  have FW := Lib.hid (fun w' (hb : Below w.heap.size w w') => few_any cap A n c l w' (hl.below hb))
  cases hf : fewC (l.map Hd.val) with
  | false =>
    rw [hf] at FW
    clear hl hf
    go_enter Try.func3, Try.ntmps3
    go_wp2_with (first | (go_at_call 11; refine (live_any _).mono ?_; rintro e w1 ⟨rfl, hb1⟩; have HB1 := Lib.hid (below_from hb1 B0.out B0.out.size); have M2 := N2.out.past hb1; have c2 := M2.cell; have m2 := M2.lt; clear M2 hb1) | (go_at_call 12; refine (FW.out _ HB1.out).mono ?_; rintro e w2 ⟨rfl, hb2⟩; have HB2 := Lib.hid (below_from hb2 HB1.out HB1.out.size); clear hb2))
    go_ret
    exact ⟨rfl, HB2.out⟩
  | true =>
    rw [hf] at FW
    have hn := (few_le hl hf).1
    have HL := Lib.hid hl
    clear hl hf
    go_enter Try.func3, Try.ntmps3
    go_wp2_with (first | (go_at_call 11; refine (live_any _).mono ?_; rintro e w1 ⟨rfl, hb1⟩; have HB1 := Lib.hid (below_from hb1 B0.out B0.out.size); have M2 := Lib.hid (N2.out.past hb1); have c2 := M2.out.cell; have m2 := M2.out.lt; clear hb1) | (go_at_call 12; refine (FW.out _ HB1.out).mono ?_; rintro e w2 ⟨rfl, hb2⟩; have HB2 := Lib.hid (below_from hb2 HB1.out HB1.out.size); have M3 := Lib.hid (M2.out.past hb2); clear hb2 c2 m2; have c3 := M3.out.cell; have m3 := M3.out.lt) | (go_at_call 13; refine (new_any most _).mono ?_; intro e w3 hx; obtain ⟨A1, n1, c1, l1, rfl, hh1, hv1, hb3, _⟩ := hx; clear c3 m3; have H1 := Lib.hid hh1; have V1 := Lib.hid hv1; have HB3 := Lib.hid (below_from hb3 HB2.out HB2.out.size); have M4 := Lib.hid ((M3.out.past hb3).alloc (.cells #[.int .i64 (newCap most), .slice A1 n1 c1] 24)); have X4 := Lib.hid (Has.newAt w3 #[.int .i64 (newCap most), .slice A1 n1 c1] 24 (g := w3.heap.size) rfl); have HB4 := Lib.hid (HB3.out.alloc HB3.out.size (.cells #[.int .i64 (newCap most), .slice A1 n1 c1] 24)); have H1' := Lib.hid (hh1.alloc (.cells #[.int .i64 (newCap most), .slice A1 n1 c1] 24)); clear hh1 hv1 hb3) | (go_at_call 14; refine (rnew_any most _).mono ?_; intro e w5 hx; obtain ⟨A2, n2, cc2, l2, rfl, hh2, hv2, hb5, _⟩ := hx; have H2 := Lib.hid hh2; have V2 := Lib.hid hv2; have HB5 := Lib.hid (below_from hb5 HB4.out HB4.out.size); have M5 := Lib.hid (M4.out.past hb5); have X5 := Lib.hid (X4.out.past hb5); have H15 := Lib.hid (H1'.out.below hb5); clear hh2 hv2 hb5))
    obtain ⟨W6, hW6⟩ : ∃ W6, W6 = w5.alloc (.cells #[.int .i64 (newCap most), .slice A2 n2 cc2] 24) := ⟨_, rfl⟩
    have b6 : Below w5.heap.size w5 W6 := by rw [hW6]; exact below_alloc1 _ _
    have Y6 := Lib.hid (show Has W6 w5.heap.size #[.int .i64 (newCap most), .slice A2 n2 cc2] by rw [hW6]; exact Has.newAt w5 _ 24 rfl)
    have M6 := Lib.hid (M5.out.past b6)
    have X6 := Lib.hid (X5.out.past b6)
    have B6 := Lib.hid (below_from b6 HB5.out HB5.out.size)
    have r20 := at_regrown (a := ⟨w.heap.size, 0, none⟩) (v := .int .i64 cap) (M6.out.cell 0)
    have r21 := at_regrown (a := ⟨w.heap.size, 1, none⟩) (v := .slice A n c) (M6.out.cell 1)
    have r50 := at_regrown (a := ⟨w3.heap.size, 0, none⟩) (v := .int .i64 (newCap most)) (X6.out.cell 0)
    have r51 := at_regrown (a := ⟨w3.heap.size, 1, none⟩) (v := .slice A1 n1 c1) (X6.out.cell 1)
    have r70 := at_regrown (a := ⟨w5.heap.size, 0, none⟩) (v := .int .i64 (newCap most)) (Y6.out.cell 0)
    have r71 := at_regrown (a := ⟨w5.heap.size, 1, none⟩) (v := .slice A2 n2 cc2) (Y6.out.cell 1)
    have OLD : ∀ w', Below W6.heap.size W6 w' → Hds w' A n c l := fun w' hb => HL.out.below (below_from hb B6.out B6.out.size)
    have CK := Lib.hid (fun w' hb => check_any cap A n c l w' (OLD w' hb) (by omega))
    have RC := Lib.hid (fun w' hb => rcheck_any cap A n c l w' (OLD w' hb) (by omega))
    have US := Lib.hid (fun w' hb => used_any cap A n c l w' (OLD w' hb) (by omega))
    have RU := Lib.hid (fun w' hb => rused_any cap A n c l w' (OLD w' hb) (by omega))
    have SM := Lib.hid (fun w' (hb : Below W6.heap.size W6 w') => by
      have := same_any (newCap most) A1 n1 c1 l1 (newCap most) A2 n2 cc2 l2 w' ((H15.out.below b6).below hb) ((H2.out.below b6).below hb)
      rw [same_true rfl (by rw [V1.out, V2.out])] at this
      exact this)
    clear OLD b6
    subst hW6
    go_wp2_with fail
    refine region_below (by kernel_rfl) (by kernel_rfl) ?_
    repeat (go_big_quiet_step (first | (go_at_call 15; exact call_regrown CK.out) | (go_at_call 16; exact call_regrown RC.out) | (go_at_call 17; exact call_regrown US.out) | (go_at_call 18; exact call_regrown RU.out) | (go_at_call 19; exact call_regrown SM.out)))
    refine wpQuiet_nil ?_
    intro w7 hb7
    have HB7 := Lib.hid (below_from hb7 B6.out B6.out.size)
    clear hb7
    go_wp2_with fail
    go_ret
    exact ⟨ret_bool (by rfl), HB7.out⟩

end Go.Proofs.Ythjohjijcgiogaa
