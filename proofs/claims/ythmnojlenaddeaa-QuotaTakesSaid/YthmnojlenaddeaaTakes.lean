/- QuotaTakes of layer 20: the walk. -/
import Derived.Test.YthmnojlenaddeaaMoved
namespace Go.Proofs.Ythmnojlenaddeaa
open Go.RowKit Q

theorem fill_both (who : ByteArray) (rate burst level at_ now : Int) : ∃ (xw : ByteArray) (x1 x2 x3 x4 xe : Int),
    (∀ w, Calls Try.prog 18 #[.agg #[.string who, .int .i64 rate, .int .i64 burst, .int .i64 level, .int .i64 at_], .int .i64 now] w fun e w' => e = .returned (.tuple #[.agg #[.string xw, .int .i64 x1, .int .i64 x2, .int .i64 x3, .int .i64 x4], .int .i64 xe]) ∧ Below w.heap.size w w') ∧
    (∀ w, Calls Try.prog 19 #[.agg #[.string who, .int .i64 rate, .int .i64 burst, .int .i64 level, .int .i64 at_], .int .i64 now] w fun e w' => e = .returned (.tuple #[.agg #[.string xw, .int .i64 x1, .int .i64 x2, .int .i64 x3, .int .i64 x4], .int .i64 xe]) ∧ Below w.heap.size w w') :=
  ⟨_, _, _, _, _, _, fun w => fill_any who rate burst level at_ now w, fun w => rfill_any who rate burst level at_ now w⟩
theorem take_both (who : ByteArray) (rate burst level at_ now m : Int) : ∃ (xw : ByteArray) (x1 x2 x3 x4 xt xe : Int),
    (∀ w, Calls Try.prog 20 #[.agg #[.string who, .int .i64 rate, .int .i64 burst, .int .i64 level, .int .i64 at_], .int .i64 now, .int .i64 m] w fun e w' => e = .returned (.tuple #[.agg #[.string xw, .int .i64 x1, .int .i64 x2, .int .i64 x3, .int .i64 x4], .int .i64 xt, .int .i64 xe]) ∧ Below w.heap.size w w') ∧
    (∀ w, Calls Try.prog 21 #[.agg #[.string who, .int .i64 rate, .int .i64 burst, .int .i64 level, .int .i64 at_], .int .i64 now, .int .i64 m] w fun e w' => e = .returned (.tuple #[.agg #[.string xw, .int .i64 x1, .int .i64 x2, .int .i64 x3, .int .i64 x4], .int .i64 xt, .int .i64 xe]) ∧ Below w.heap.size w w') :=
  ⟨_, _, _, _, _, _, _, fun w => take_any who rate burst level at_ now m w, fun w => rtake_any who rate burst level at_ now m w⟩

theorem takes_big (who : ByteArray) (rate burst level at_ now m : Int) (w : World) (hs : 200 < who.size) :
    Calls Try.prog 4 #[.agg #[.string who, .int .i64 rate, .int .i64 burst, .int .i64 level, .int .i64 at_], .int .i64 now, .int .i64 m] w fun e w' => e = .returned (.bool true) ∧ Below w.heap.size w w' := by
  go_enter Try.func4, Try.ntmps4
  have H1a := Has.newAt w #[.string who, .int .i64 rate, .int .i64 burst, .int .i64 level, .int .i64 at_] 23 (g := w.heap.size) (by simp)
  have B1 := Below.alloc (Below.refl w.heap.size w) ((Below.refl w.heap.size w).size) (.cells #[.string who, .int .i64 rate, .int .i64 burst, .int .i64 level, .int .i64 at_] 23)
  go_wp2_with fail
  refine (live_any _).mono ?_
  rintro e w2 ⟨rfl, hb2⟩
  have H2a := Has.below hb2 H1a
  have B2 := below_from hb2 B1 (B1.size)
  have c2a := H2a.cell
  have l2a := H2a.lt
  go_wp2_with fail
  go_ret
  exact ⟨rfl, B2⟩

set_option maxHeartbeats 4000000 in
theorem takes_few (who : ByteArray) (rate burst level at_ now m : Int) (w : World) (hs : who.size ≤ 200) :
    Calls Try.prog 4 #[.agg #[.string who, .int .i64 rate, .int .i64 burst, .int .i64 level, .int .i64 at_], .int .i64 now, .int .i64 m] w fun e w' => e = .returned (.bool true) ∧ Below w.heap.size w w' := by
  obtain ⟨xw, x1, x2, x3, x4, xe, F1, F2⟩ := fill_both who rate burst level at_ now
  obtain ⟨yw, y1, y2, y3, y4, yt, ye, S1, S2⟩ := take_both who rate burst level at_ now m
  have N1 := Lib.hid F1
  have N2 := Lib.hid F2
  have N3 := Lib.hid S1
  have N4 := Lib.hid S2
  clear F1 F2 S1 S2
  go_enter Try.func4, Try.ntmps4
  have H1a := Has.newAt w #[.string who, .int .i64 rate, .int .i64 burst, .int .i64 level, .int .i64 at_] 23 (g := w.heap.size) (by simp)
  have B1 := Below.alloc (Below.refl w.heap.size w) ((Below.refl w.heap.size w).size) (.cells #[.string who, .int .i64 rate, .int .i64 burst, .int .i64 level, .int .i64 at_] 23)
  go_wp2_with fail
  refine (live_any _).mono ?_
  rintro e w2 ⟨rfl, hb2⟩
  have H2a := Has.below hb2 H1a
  have B2 := below_from hb2 B1 (B1.size)
  have c2a := H2a.cell
  have l2a := H2a.lt
  go_wp2_with fail
  refine (N1.out _).mono ?_
  rintro e w3 ⟨rfl, hb3⟩
  have H3a := Has.below hb3 H2a
  have B3 := below_from hb3 B2 (B2.size)
  have c3a := H3a.cell
  have l3a := H3a.lt
  go_wp2_with fail
  have H4a := Has.alloc H3a (.cells #[.string xw, .int .i64 x1, .int .i64 x2, .int .i64 x3, .int .i64 x4] 23)
  have H4c := Has.newAt w3 #[.string xw, .int .i64 x1, .int .i64 x2, .int .i64 x3, .int .i64 x4] 23 (g := w3.heap.size) (by simp)
  have B4 := Below.alloc B3 (B3.size) (.cells #[.string xw, .int .i64 x1, .int .i64 x2, .int .i64 x3, .int .i64 x4] 23)
  refine (N2.out _).mono ?_
  rintro e w5 ⟨rfl, hb5⟩
  have H5a := Has.below hb5 H4a
  have H5c := Has.below hb5 H4c
  have B5 := below_from hb5 B4 (B4.size)
  have c5a := H5a.cell
  have l5a := H5a.lt
  have c5c := H5c.cell
  have l5c := H5c.lt
  go_wp2_with fail
  have H6a := Has.alloc H5a (.cells #[.string xw, .int .i64 x1, .int .i64 x2, .int .i64 x3, .int .i64 x4] 23)
  have H6c := Has.alloc H5c (.cells #[.string xw, .int .i64 x1, .int .i64 x2, .int .i64 x3, .int .i64 x4] 23)
  have H6d := Has.newAt w5 #[.string xw, .int .i64 x1, .int .i64 x2, .int .i64 x3, .int .i64 x4] 23 (g := w5.heap.size) (by simp)
  have B6 := Below.alloc B5 (B5.size) (.cells #[.string xw, .int .i64 x1, .int .i64 x2, .int .i64 x3, .int .i64 x4] 23)
  refine (N3.out _).mono ?_
  rintro e w7 ⟨rfl, hb7⟩
  have H7a := Has.below hb7 H6a
  have H7c := Has.below hb7 H6c
  have H7d := Has.below hb7 H6d
  have B7 := below_from hb7 B6 (B6.size)
  have c7a := H7a.cell
  have l7a := H7a.lt
  have c7c := H7c.cell
  have l7c := H7c.lt
  have c7d := H7d.cell
  have l7d := H7d.lt
  go_wp2_with fail
  have H8a := Has.alloc H7a (.cells #[.string yw, .int .i64 y1, .int .i64 y2, .int .i64 y3, .int .i64 y4] 23)
  have H8c := Has.alloc H7c (.cells #[.string yw, .int .i64 y1, .int .i64 y2, .int .i64 y3, .int .i64 y4] 23)
  have H8d := Has.alloc H7d (.cells #[.string yw, .int .i64 y1, .int .i64 y2, .int .i64 y3, .int .i64 y4] 23)
  have H8e := Has.newAt w7 #[.string yw, .int .i64 y1, .int .i64 y2, .int .i64 y3, .int .i64 y4] 23 (g := w7.heap.size) (by simp)
  have B8 := Below.alloc B7 (B7.size) (.cells #[.string yw, .int .i64 y1, .int .i64 y2, .int .i64 y3, .int .i64 y4] 23)
  refine (N4.out _).mono ?_
  rintro e w9 ⟨rfl, hb9⟩
  have H9a := Has.below hb9 H8a
  have H9c := Has.below hb9 H8c
  have H9d := Has.below hb9 H8d
  have H9e := Has.below hb9 H8e
  have B9 := below_from hb9 B8 (B8.size)
  have c9a := H9a.cell
  have l9a := H9a.lt
  have c9c := H9c.cell
  have l9c := H9c.lt
  have c9d := H9d.cell
  have l9d := H9d.lt
  have c9e := H9e.cell
  have l9e := H9e.lt
  have H10a := Has.alloc H9a (.cells #[.string yw, .int .i64 y1, .int .i64 y2, .int .i64 y3, .int .i64 y4] 23)
  have H10c := Has.alloc H9c (.cells #[.string yw, .int .i64 y1, .int .i64 y2, .int .i64 y3, .int .i64 y4] 23)
  have H10d := Has.alloc H9d (.cells #[.string yw, .int .i64 y1, .int .i64 y2, .int .i64 y3, .int .i64 y4] 23)
  have H10e := Has.alloc H9e (.cells #[.string yw, .int .i64 y1, .int .i64 y2, .int .i64 y3, .int .i64 y4] 23)
  have H10f := Has.newAt w9 #[.string yw, .int .i64 y1, .int .i64 y2, .int .i64 y3, .int .i64 y4] 23 (g := w9.heap.size) (by simp)
  have B10 := Below.alloc B9 (B9.size) (.cells #[.string yw, .int .i64 y1, .int .i64 y2, .int .i64 y3, .int .i64 y4] 23)
  have za := H10a.cell
  have zc := H10c.cell
  have zd := H10d.cell
  have ze := H10e.cell
  have zf := H10f.cell
  go_wp2_with fail
  go_ret
  exact ⟨rfl, B10⟩

theorem takes_any (who : ByteArray) (rate burst level at_ now m : Int) (w : World) :
    Calls Try.prog 4 #[.agg #[.string who, .int .i64 rate, .int .i64 burst, .int .i64 level, .int .i64 at_], .int .i64 now, .int .i64 m] w fun e w' => e = .returned (.bool true) ∧ Below w.heap.size w w' := by
  by_cases hs : who.size ≤ 200
  · exact takes_few who rate burst level at_ now m w hs
  · exact takes_big who rate burst level at_ now m w (by omega)

end Go.Proofs.Ythmnojlenaddeaa
