/- QuotaWaits of layer 20: the walk. -/
import Derived.Test.YthmnojlenaddeaaMoved
namespace Go.Proofs.Ythmnojlenaddeaa
open Go.RowKit Q

theorem waits_big (who : ByteArray) (rate burst level at_ now m : Int) (w : World) (hs : 200 < who.size) :
    Calls Try.prog 6 #[.agg #[.string who, .int .i64 rate, .int .i64 burst, .int .i64 level, .int .i64 at_], .int .i64 now, .int .i64 m] w fun e w' => e = .returned (.bool true) ∧ Below w.heap.size w w' := by
  go_enter Try.func6, Try.ntmps6
  have H1a := Has.newAt w #[.string who, .int .i64 rate, .int .i64 burst, .int .i64 level, .int .i64 at_] 23 (g := w.heap.size) (by simp)
  have B1 := Below.alloc (Below.refl w.heap.size w) ((Below.refl w.heap.size w).size) (.cells #[.string who, .int .i64 rate, .int .i64 burst, .int .i64 level, .int .i64 at_] 23)
  go_wp2_with fail
  refine (live_any _).mono ?_
  rintro e w2 ⟨rfl, hb2⟩
  have H2a := Has.below hb2 H1a
  have B2 := below_from hb2 B1 (B1.size)
  have c2a := H2a.cell
  have l2a := H2a.lt
  go_wp2_with fail
  go_ret
  exact ⟨rfl, B2⟩

set_option maxHeartbeats 4000000 in
theorem waits_err (who : ByteArray) (rate burst level at_ now m k : Int) (w : World) (hs : who.size ≤ 200) (hk : (k != 0) = true)
    (N1 : Hid (∀ w, Calls Try.prog 20 #[.agg #[.string who, .int .i64 rate, .int .i64 burst, .int .i64 level, .int .i64 at_], .int .i64 now, .int .i64 m] w fun e w' => e = .returned (.tuple #[.agg #[.string ⟨#[]⟩, .int .i64 0, .int .i64 0, .int .i64 0, .int .i64 0], .int .i64 0, .int .i64 k]) ∧ Below w.heap.size w w')) :
    Calls Try.prog 6 #[.agg #[.string who, .int .i64 rate, .int .i64 burst, .int .i64 level, .int .i64 at_], .int .i64 now, .int .i64 m] w fun e w' => e = .returned (.bool true) ∧ Below w.heap.size w w' := by
  go_enter Try.func6, Try.ntmps6
  have H1a := Has.newAt w #[.string who, .int .i64 rate, .int .i64 burst, .int .i64 level, .int .i64 at_] 23 (g := w.heap.size) (by simp)
  have B1 := Below.alloc (Below.refl w.heap.size w) ((Below.refl w.heap.size w).size) (.cells #[.string who, .int .i64 rate, .int .i64 burst, .int .i64 level, .int .i64 at_] 23)
  go_wp2_with fail
  refine (live_any _).mono ?_
  rintro e w2 ⟨rfl, hb2⟩
  have H2a := Has.below hb2 H1a
  have B2 := below_from hb2 B1 (B1.size)
  have c2a := H2a.cell
  have l2a := H2a.lt
  go_wp2_with fail
  refine (N1.out _).mono ?_
  rintro e w3 ⟨rfl, hb3⟩
  have H3a := Has.below hb3 H2a
  have B3 := below_from hb3 B2 (B2.size)
  have c3a := H3a.cell
  have l3a := H3a.lt
  have H4a := Has.alloc H3a (.cells #[.string ⟨#[]⟩, .int .i64 0, .int .i64 0, .int .i64 0, .int .i64 0] 23)
  have H4c := Has.newAt w3 #[.string ⟨#[]⟩, .int .i64 0, .int .i64 0, .int .i64 0, .int .i64 0] 23 (g := w3.heap.size) (by simp)
  have B4 := Below.alloc B3 (B3.size) (.cells #[.string ⟨#[]⟩, .int .i64 0, .int .i64 0, .int .i64 0, .int .i64 0] 23)
  have za := H4a.cell
  have zc := H4c.cell
  go_wp2_with fail
  go_ret
  exact ⟨rfl, B4⟩

set_option maxHeartbeats 4000000 in
theorem waits_late (who : ByteArray) (rate burst level at_ now m L wt : Int) (w : World) (hs : who.size ≤ 200) (hL : L < 0) (hw : 1 ≤ wt) (hw0 : (wt == 0) = false) (hL0 : decide (0 ≤ L) = false)
    (N1 : Hid (∀ w, Calls Try.prog 20 #[.agg #[.string who, .int .i64 rate, .int .i64 burst, .int .i64 level, .int .i64 at_], .int .i64 now, .int .i64 m] w fun e w' => e = .returned (.tuple #[.agg #[.string who, .int .i64 rate, .int .i64 burst, .int .i64 L, .int .i64 now], .int .i64 wt, .int .i64 0]) ∧ Below w.heap.size w w')) (N2 : Hid (∀ w, Calls Try.prog 22 #[.int .i64 now, .int .i64 wt] w fun e w' => e = .returned (.tuple #[.int .i64 0, .bool false]) ∧ w = w')) :
    Calls Try.prog 6 #[.agg #[.string who, .int .i64 rate, .int .i64 burst, .int .i64 level, .int .i64 at_], .int .i64 now, .int .i64 m] w fun e w' => e = .returned (.bool true) ∧ Below w.heap.size w w' := by
  go_enter Try.func6, Try.ntmps6
  have H1a := Has.newAt w #[.string who, .int .i64 rate, .int .i64 burst, .int .i64 level, .int .i64 at_] 23 (g := w.heap.size) (by simp)
  have B1 := Below.alloc (Below.refl w.heap.size w) ((Below.refl w.heap.size w).size) (.cells #[.string who, .int .i64 rate, .int .i64 burst, .int .i64 level, .int .i64 at_] 23)
  go_wp2_with fail
  refine (live_any _).mono ?_
  rintro e w2 ⟨rfl, hb2⟩
  have H2a := Has.below hb2 H1a
  have B2 := below_from hb2 B1 (B1.size)
  have c2a := H2a.cell
  have l2a := H2a.lt
  go_wp2_with fail
  refine (N1.out _).mono ?_
  rintro e w3 ⟨rfl, hb3⟩
  have H3a := Has.below hb3 H2a
  have B3 := below_from hb3 B2 (B2.size)
  have c3a := H3a.cell
  have l3a := H3a.lt
  have H4a := Has.alloc H3a (.cells #[.string who, .int .i64 rate, .int .i64 burst, .int .i64 L, .int .i64 now] 23)
  have H4c := Has.newAt w3 #[.string who, .int .i64 rate, .int .i64 burst, .int .i64 L, .int .i64 now] 23 (g := w3.heap.size) (by simp)
  have B4 := Below.alloc B3 (B3.size) (.cells #[.string who, .int .i64 rate, .int .i64 burst, .int .i64 L, .int .i64 now] 23)
  have zz4a := H4a.cell
  have zz4c := H4c.cell
  go_wp2_with fail
  refine (N2.out _).mono ?_
  rintro e w' ⟨rfl, rfl⟩
  have za := H4a.cell
  have zc := H4c.cell
  go_wp2_with fail
  go_ret
  exact ⟨rfl, B4⟩

set_option maxHeartbeats 4000000 in
theorem waits_none (who : ByteArray) (rate burst level at_ now m L : Int) (w : World) (hs : who.size ≤ 200) (hL : 0 ≤ L) (hL0 : decide (0 ≤ L) = true)
    (N1 : Hid (∀ w, Calls Try.prog 20 #[.agg #[.string who, .int .i64 rate, .int .i64 burst, .int .i64 level, .int .i64 at_], .int .i64 now, .int .i64 m] w fun e w' => e = .returned (.tuple #[.agg #[.string who, .int .i64 rate, .int .i64 burst, .int .i64 L, .int .i64 now], .int .i64 0, .int .i64 0]) ∧ Below w.heap.size w w')) (N2 : Hid (∀ w, Calls Try.prog 22 #[.int .i64 now, .int .i64 0] w fun e w' => e = .returned (.tuple #[.int .i64 (now), .bool true]) ∧ w = w')) (N3 : Hid (∀ w, Calls Try.prog 18 #[.agg #[.string who, .int .i64 rate, .int .i64 burst, .int .i64 L, .int .i64 now], .int .i64 (now)] w fun e w' => e = .returned (.tuple #[.agg #[.string who, .int .i64 rate, .int .i64 burst, .int .i64 L, .int .i64 (now)], .int .i64 0]) ∧ Below w.heap.size w w')) :
    Calls Try.prog 6 #[.agg #[.string who, .int .i64 rate, .int .i64 burst, .int .i64 level, .int .i64 at_], .int .i64 now, .int .i64 m] w fun e w' => e = .returned (.bool true) ∧ Below w.heap.size w w' := by
  go_enter Try.func6, Try.ntmps6
  have H1a := Has.newAt w #[.string who, .int .i64 rate, .int .i64 burst, .int .i64 level, .int .i64 at_] 23 (g := w.heap.size) (by simp)
  have B1 := Below.alloc (Below.refl w.heap.size w) ((Below.refl w.heap.size w).size) (.cells #[.string who, .int .i64 rate, .int .i64 burst, .int .i64 level, .int .i64 at_] 23)
  go_wp2_with fail
  refine (live_any _).mono ?_
  rintro e w2 ⟨rfl, hb2⟩
  have H2a := Has.below hb2 H1a
  have B2 := below_from hb2 B1 (B1.size)
  have c2a := H2a.cell
  have l2a := H2a.lt
  go_wp2_with fail
  refine (N1.out _).mono ?_
  rintro e w3 ⟨rfl, hb3⟩
  have H3a := Has.below hb3 H2a
  have B3 := below_from hb3 B2 (B2.size)
  have c3a := H3a.cell
  have l3a := H3a.lt
  have H4a := Has.alloc H3a (.cells #[.string who, .int .i64 rate, .int .i64 burst, .int .i64 L, .int .i64 now] 23)
  have H4c := Has.newAt w3 #[.string who, .int .i64 rate, .int .i64 burst, .int .i64 L, .int .i64 now] 23 (g := w3.heap.size) (by simp)
  have B4 := Below.alloc B3 (B3.size) (.cells #[.string who, .int .i64 rate, .int .i64 burst, .int .i64 L, .int .i64 now] 23)
  have zz4a := H4a.cell
  have zz4c := H4c.cell
  go_wp2_with fail
  refine (N2.out _).mono ?_
  rintro e w' ⟨rfl, rfl⟩
  go_wp2_with fail
  refine (N3.out _).mono ?_
  rintro e w5 ⟨rfl, hb5⟩
  have H5a := Has.below hb5 H4a
  have H5c := Has.below hb5 H4c
  have B5 := below_from hb5 B4 (B4.size)
  have c5a := H5a.cell
  have l5a := H5a.lt
  have c5c := H5c.cell
  have l5c := H5c.lt
  have H6a := Has.alloc H5a (.cells #[.string who, .int .i64 rate, .int .i64 burst, .int .i64 L, .int .i64 now] 23)
  have H6c := Has.alloc H5c (.cells #[.string who, .int .i64 rate, .int .i64 burst, .int .i64 L, .int .i64 now] 23)
  have H6d := Has.newAt w5 #[.string who, .int .i64 rate, .int .i64 burst, .int .i64 L, .int .i64 now] 23 (g := w5.heap.size) (by simp)
  have B6 := Below.alloc B5 (B5.size) (.cells #[.string who, .int .i64 rate, .int .i64 burst, .int .i64 L, .int .i64 now] 23)
  have za := H6a.cell
  have zc := H6c.cell
  have zd := H6d.cell
  go_wp2_with fail
  go_ret
  exact ⟨rfl, B6⟩

set_option maxHeartbeats 4000000 in
theorem waits_some (who : ByteArray) (rate burst level at_ now m L wt L2 L3 : Int) (w : World) (hs : who.size ≤ 200) (hL : L < 0) (hw : 1 ≤ wt) (hw0 : (wt == 0) = false) (hL0 : decide (0 ≤ L) = false) (hwm : wt ≤ 1099511627776) (hn : 0 ≤ now) (hn' : now ≤ 1099511627776) (h2 : 0 ≤ L2) (h3 : L3 < 0)
    (N1 : Hid (∀ w, Calls Try.prog 20 #[.agg #[.string who, .int .i64 rate, .int .i64 burst, .int .i64 level, .int .i64 at_], .int .i64 now, .int .i64 m] w fun e w' => e = .returned (.tuple #[.agg #[.string who, .int .i64 rate, .int .i64 burst, .int .i64 L, .int .i64 now], .int .i64 wt, .int .i64 0]) ∧ Below w.heap.size w w')) (N2 : Hid (∀ w, Calls Try.prog 22 #[.int .i64 now, .int .i64 wt] w fun e w' => e = .returned (.tuple #[.int .i64 (now + wt), .bool true]) ∧ w = w')) (N3 : Hid (∀ w, Calls Try.prog 18 #[.agg #[.string who, .int .i64 rate, .int .i64 burst, .int .i64 L, .int .i64 now], .int .i64 (now + wt)] w fun e w' => e = .returned (.tuple #[.agg #[.string who, .int .i64 rate, .int .i64 burst, .int .i64 L2, .int .i64 (now + wt)], .int .i64 0]) ∧ Below w.heap.size w w')) (N4 : Hid (∀ w, Calls Try.prog 18 #[.agg #[.string who, .int .i64 rate, .int .i64 burst, .int .i64 L, .int .i64 now], .int .i64 (now + wt - 1)] w fun e w' => e = .returned (.tuple #[.agg #[.string who, .int .i64 rate, .int .i64 burst, .int .i64 L3, .int .i64 (now + wt - 1)], .int .i64 0]) ∧ Below w.heap.size w w')) :
    Calls Try.prog 6 #[.agg #[.string who, .int .i64 rate, .int .i64 burst, .int .i64 level, .int .i64 at_], .int .i64 now, .int .i64 m] w fun e w' => e = .returned (.bool true) ∧ Below w.heap.size w w' := by
  go_enter Try.func6, Try.ntmps6
  have H1a := Has.newAt w #[.string who, .int .i64 rate, .int .i64 burst, .int .i64 level, .int .i64 at_] 23 (g := w.heap.size) (by simp)
  have B1 := Below.alloc (Below.refl w.heap.size w) ((Below.refl w.heap.size w).size) (.cells #[.string who, .int .i64 rate, .int .i64 burst, .int .i64 level, .int .i64 at_] 23)
  go_wp2_with fail
  refine (live_any _).mono ?_
  rintro e w2 ⟨rfl, hb2⟩
  have H2a := Has.below hb2 H1a
  have B2 := below_from hb2 B1 (B1.size)
  have c2a := H2a.cell
  have l2a := H2a.lt
  go_wp2_with fail
  refine (N1.out _).mono ?_
  rintro e w3 ⟨rfl, hb3⟩
  have H3a := Has.below hb3 H2a
  have B3 := below_from hb3 B2 (B2.size)
  have c3a := H3a.cell
  have l3a := H3a.lt
  have H4a := Has.alloc H3a (.cells #[.string who, .int .i64 rate, .int .i64 burst, .int .i64 L, .int .i64 now] 23)
  have H4c := Has.newAt w3 #[.string who, .int .i64 rate, .int .i64 burst, .int .i64 L, .int .i64 now] 23 (g := w3.heap.size) (by simp)
  have B4 := Below.alloc B3 (B3.size) (.cells #[.string who, .int .i64 rate, .int .i64 burst, .int .i64 L, .int .i64 now] 23)
  have zz4a := H4a.cell
  have zz4c := H4c.cell
  go_wp2_with fail
  refine (N2.out _).mono ?_
  rintro e w' ⟨rfl, rfl⟩
  go_wp2_with fail
  refine (N3.out _).mono ?_
  rintro e w5 ⟨rfl, hb5⟩
  have H5a := Has.below hb5 H4a
  have H5c := Has.below hb5 H4c
  have B5 := below_from hb5 B4 (B4.size)
  have c5a := H5a.cell
  have l5a := H5a.lt
  have c5c := H5c.cell
  have l5c := H5c.lt
  have H6a := Has.alloc H5a (.cells #[.string who, .int .i64 rate, .int .i64 burst, .int .i64 L2, .int .i64 (now + wt)] 23)
  have H6c := Has.alloc H5c (.cells #[.string who, .int .i64 rate, .int .i64 burst, .int .i64 L2, .int .i64 (now + wt)] 23)
  have H6d := Has.newAt w5 #[.string who, .int .i64 rate, .int .i64 burst, .int .i64 L2, .int .i64 (now + wt)] 23 (g := w5.heap.size) (by simp)
  have B6 := Below.alloc B5 (B5.size) (.cells #[.string who, .int .i64 rate, .int .i64 burst, .int .i64 L2, .int .i64 (now + wt)] 23)
  have zz6a := H6a.cell
  have zz6c := H6c.cell
  have zz6d := H6d.cell
  go_wp2_with fail
  refine (N4.out _).mono ?_
  rintro e w7 ⟨rfl, hb7⟩
  have H7a := Has.below hb7 H6a
  have H7c := Has.below hb7 H6c
  have H7d := Has.below hb7 H6d
  have B7 := below_from hb7 B6 (B6.size)
  have c7a := H7a.cell
  have l7a := H7a.lt
  have c7c := H7c.cell
  have l7c := H7c.lt
  have c7d := H7d.cell
  have l7d := H7d.lt
  have H8a := Has.alloc H7a (.cells #[.string who, .int .i64 rate, .int .i64 burst, .int .i64 L3, .int .i64 (now + wt - 1)] 23)
  have H8c := Has.alloc H7c (.cells #[.string who, .int .i64 rate, .int .i64 burst, .int .i64 L3, .int .i64 (now + wt - 1)] 23)
  have H8d := Has.alloc H7d (.cells #[.string who, .int .i64 rate, .int .i64 burst, .int .i64 L3, .int .i64 (now + wt - 1)] 23)
  have H8e := Has.newAt w7 #[.string who, .int .i64 rate, .int .i64 burst, .int .i64 L3, .int .i64 (now + wt - 1)] 23 (g := w7.heap.size) (by simp)
  have B8 := Below.alloc B7 (B7.size) (.cells #[.string who, .int .i64 rate, .int .i64 burst, .int .i64 L3, .int .i64 (now + wt - 1)] 23)
  have za := H8a.cell
  have zc := H8c.cell
  have zd := H8d.cell
  have ze := H8e.cell
  go_wp2_with fail
  go_ret
  exact ⟨rfl, B8⟩

theorem waits_any (who : ByteArray) (rate burst level at_ now m : Int) (w : World) :
    Calls Try.prog 6 #[.agg #[.string who, .int .i64 rate, .int .i64 burst, .int .i64 level, .int .i64 at_], .int .i64 now, .int .i64 m] w fun e w' => e = .returned (.bool true) ∧ Below w.heap.size w w' := by
  by_cases hs : who.size ≤ 200
  · by_cases he : takeE who.size rate burst level at_ now m = 0
    · obtain ⟨h', h1, h2, h3, h4, h5⟩ := takeE_zero he
      have hx := take_ok he
      obtain ⟨g0, g1, g2, g3, g4, g5, g6, g7, g8⟩ := okB_parts h'
      have hle := fillL_le rate burst level at_ now
      have N1 := fun w => take_in who rate burst level at_ now m w h' h1 h2 h3 h4 h5
      by_cases hL : 0 ≤ takeL rate burst level at_ now m
      · rw [waitOf_zero hL] at N1
        refine waits_none who rate burst level at_ now m _ w hs hL (decide_eq_true hL) N1 (fun w => moved_ok now 0 w (by omega) (by omega) (by omega) (by omega) (by omega)) (fun w => ?_)
        have := fill_ok who rate burst _ now now w (fillE_zero hx h3 (Int.le_refl _))
        rw [fill_now _ _ _ _ (by unfold takeL; omega)] at this
        exact this
      · obtain ⟨e1, e2, e3⟩ := wait_enough g1 (show takeL rate burst level at_ now m < 0 by omega)
        have e4 := (waitOf_bd g1 (show -1099511627776 ≤ takeL rate burst level at_ now m by unfold takeL; omega)).2
        by_cases hw : waitOf rate (takeL rate burst level at_ now m) ≤ 1099511627776 - now
        · refine waits_some who rate burst level at_ now m _ _ (fillL rate burst (takeL rate burst level at_ now m) now (now + waitOf rate (takeL rate burst level at_ now m))) (fillL rate burst (takeL rate burst level at_ now m) now (now + waitOf rate (takeL rate burst level at_ now m) - 1)) w hs (by omega) e3 (beq_eq_false_iff_ne.2 (by omega)) (decide_eq_false (by omega)) e4 (by omega) h3 ?_ ?_ N1
            (fun w => moved_ok now _ w (by omega) (by omega) (by omega) (by omega) rfl)
            (fun w => fill_ok who rate burst _ now _ w (fillE_zero hx (by omega) (by omega))) (fun w => fill_ok who rate burst _ now _ w (fillE_zero hx (by omega) (by omega)))
          · unfold fillL
            rw [show now + waitOf rate (takeL rate burst level at_ now m) - now = waitOf rate (takeL rate burst level at_ now m) by omega]
            omega
          · unfold fillL
            rw [show now + waitOf rate (takeL rate burst level at_ now m) - 1 - now = waitOf rate (takeL rate burst level at_ now m) - 1 by omega]
            omega
        · exact waits_late who rate burst level at_ now m _ _ w hs (by omega) e3 (beq_eq_false_iff_ne.2 (by omega)) (decide_eq_false (by omega)) N1 (fun w => moved_no now _ w (by omega))
    · exact waits_err who rate burst level at_ now m _ w hs (by simpa using he) (fun w => take_err who rate burst level at_ now m w he)
  · exact waits_big who rate burst level at_ now m w (by omega)

end Go.Proofs.Ythmnojlenaddeaa
