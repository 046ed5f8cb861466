/- QuotaSets of layer 20: the walk. -/
import Derived.Test.YthmnojlenaddeaaMoved
namespace Go.Proofs.Ythmnojlenaddeaa
open Go.RowKit Q

theorem sets_big0 (who who' : ByteArray) (rate burst level at_ rate' burst' now : Int) (w : World) (hs : 200 < who.size) :
    Calls Try.prog 9 #[.agg #[.string who, .int .i64 rate, .int .i64 burst, .int .i64 level, .int .i64 at_], .agg #[.string who', .int .i64 rate', .int .i64 burst'], .int .i64 now] w fun e w' => e = .returned (.bool true) ∧ Below w.heap.size w w' := by
  go_enter Try.func9, Try.ntmps9
  have H1a := Has.newAt w #[.string who, .int .i64 rate, .int .i64 burst, .int .i64 level, .int .i64 at_] 23 (g := w.heap.size) (by simp)
  have B1 := Below.alloc (Below.refl w.heap.size w) ((Below.refl w.heap.size w).size) (.cells #[.string who, .int .i64 rate, .int .i64 burst, .int .i64 level, .int .i64 at_] 23)
  have H2a := Has.alloc H1a (.cells #[.string who', .int .i64 rate', .int .i64 burst'] 25)
  have H2b := Has.newAt (w.alloc (.cells #[.string who, .int .i64 rate, .int .i64 burst, .int .i64 level, .int .i64 at_] 23)) #[.string who', .int .i64 rate', .int .i64 burst'] 25 (g := w.heap.size + 1) (by simp)
  have B2 := Below.alloc B1 (B1.size) (.cells #[.string who', .int .i64 rate', .int .i64 burst'] 25)
  go_wp2_with fail
  refine (live_any _).mono ?_
  rintro e w3 ⟨rfl, hb3⟩
  have H3a := Has.below hb3 H2a
  have H3b := Has.below hb3 H2b
  have B3 := below_from hb3 B2 (B2.size)
  have c3a := H3a.cell
  have l3a := H3a.lt
  have c3b := H3b.cell
  have l3b := H3b.lt
  go_wp2_with fail
  go_ret
  exact ⟨rfl, B3⟩

theorem sets_big1 (who who' : ByteArray) (rate burst level at_ rate' burst' now : Int) (w : World) (hs : who.size ≤ 200) (hs' : 200 < who'.size) :
    Calls Try.prog 9 #[.agg #[.string who, .int .i64 rate, .int .i64 burst, .int .i64 level, .int .i64 at_], .agg #[.string who', .int .i64 rate', .int .i64 burst'], .int .i64 now] w fun e w' => e = .returned (.bool true) ∧ Below w.heap.size w w' := by
  go_enter Try.func9, Try.ntmps9
  have H1a := Has.newAt w #[.string who, .int .i64 rate, .int .i64 burst, .int .i64 level, .int .i64 at_] 23 (g := w.heap.size) (by simp)
  have B1 := Below.alloc (Below.refl w.heap.size w) ((Below.refl w.heap.size w).size) (.cells #[.string who, .int .i64 rate, .int .i64 burst, .int .i64 level, .int .i64 at_] 23)
  have H2a := Has.alloc H1a (.cells #[.string who', .int .i64 rate', .int .i64 burst'] 25)
  have H2b := Has.newAt (w.alloc (.cells #[.string who, .int .i64 rate, .int .i64 burst, .int .i64 level, .int .i64 at_] 23)) #[.string who', .int .i64 rate', .int .i64 burst'] 25 (g := w.heap.size + 1) (by simp)
  have B2 := Below.alloc B1 (B1.size) (.cells #[.string who', .int .i64 rate', .int .i64 burst'] 25)
  go_wp2_with fail
  refine (live_any _).mono ?_
  rintro e w3 ⟨rfl, hb3⟩
  have H3a := Has.below hb3 H2a
  have H3b := Has.below hb3 H2b
  have B3 := below_from hb3 B2 (B2.size)
  have c3a := H3a.cell
  have l3a := H3a.lt
  have c3b := H3b.cell
  have l3b := H3b.lt
  go_wp2_with fail
  go_ret
  exact ⟨rfl, B3⟩

set_option maxHeartbeats 4000000 in
theorem sets_err (who who' : ByteArray) (rate burst level at_ rate' burst' now k : Int) (w : World) (hs : who.size ≤ 200) (hs' : who'.size ≤ 200) (hk : (k != 0) = true)
    (N1 : Hid (∀ w, Calls Try.prog 14 #[.agg #[.string who, .int .i64 rate, .int .i64 burst, .int .i64 level, .int .i64 at_], .agg #[.string who', .int .i64 rate', .int .i64 burst'], .int .i64 now] w fun e w' => e = .returned (.tuple #[.agg #[.string ⟨#[]⟩, .int .i64 0, .int .i64 0, .int .i64 0, .int .i64 0], .int .i64 k]) ∧ Below w.heap.size w w')) :
    Calls Try.prog 9 #[.agg #[.string who, .int .i64 rate, .int .i64 burst, .int .i64 level, .int .i64 at_], .agg #[.string who', .int .i64 rate', .int .i64 burst'], .int .i64 now] w fun e w' => e = .returned (.bool true) ∧ Below w.heap.size w w' := by
  go_enter Try.func9, Try.ntmps9
  have H1a := Has.newAt w #[.string who, .int .i64 rate, .int .i64 burst, .int .i64 level, .int .i64 at_] 23 (g := w.heap.size) (by simp)
  have B1 := Below.alloc (Below.refl w.heap.size w) ((Below.refl w.heap.size w).size) (.cells #[.string who, .int .i64 rate, .int .i64 burst, .int .i64 level, .int .i64 at_] 23)
  have H2a := Has.alloc H1a (.cells #[.string who', .int .i64 rate', .int .i64 burst'] 25)
  have H2b := Has.newAt (w.alloc (.cells #[.string who, .int .i64 rate, .int .i64 burst, .int .i64 level, .int .i64 at_] 23)) #[.string who', .int .i64 rate', .int .i64 burst'] 25 (g := w.heap.size + 1) (by simp)
  have B2 := Below.alloc B1 (B1.size) (.cells #[.string who', .int .i64 rate', .int .i64 burst'] 25)
  go_wp2_with fail
  refine (live_any _).mono ?_
  rintro e w3 ⟨rfl, hb3⟩
  have H3a := Has.below hb3 H2a
  have H3b := Has.below hb3 H2b
  have B3 := below_from hb3 B2 (B2.size)
  have c3a := H3a.cell
  have l3a := H3a.lt
  have c3b := H3b.cell
  have l3b := H3b.lt
  go_wp2_with fail
  refine (N1.out _).mono ?_
  rintro e w4 ⟨rfl, hb4⟩
  have H4a := Has.below hb4 H3a
  have H4b := Has.below hb4 H3b
  have B4 := below_from hb4 B3 (B3.size)
  have c4a := H4a.cell
  have l4a := H4a.lt
  have c4b := H4b.cell
  have l4b := H4b.lt
  have H5a := Has.alloc H4a (.cells #[.string ⟨#[]⟩, .int .i64 0, .int .i64 0, .int .i64 0, .int .i64 0] 23)
  have H5b := Has.alloc H4b (.cells #[.string ⟨#[]⟩, .int .i64 0, .int .i64 0, .int .i64 0, .int .i64 0] 23)
  have H5c := Has.newAt w4 #[.string ⟨#[]⟩, .int .i64 0, .int .i64 0, .int .i64 0, .int .i64 0] 23 (g := w4.heap.size) (by simp)
  have B5 := Below.alloc B4 (B4.size) (.cells #[.string ⟨#[]⟩, .int .i64 0, .int .i64 0, .int .i64 0, .int .i64 0] 23)
  have za := H5a.cell
  have zb := H5b.cell
  have zc := H5c.cell
  go_wp2_with fail
  go_ret
  exact ⟨rfl, B5⟩

set_option maxHeartbeats 4000000 in
theorem sets_yes1 (who : ByteArray) (rate burst level at_ rate' burst' now L : Int) (w : World) (hs : who.size ≤ 200) (hc : chk who.size rate' burst' L now = 0) (hL : L ≤ burst')
    (N1 : Hid (∀ w, Calls Try.prog 14 #[.agg #[.string who, .int .i64 rate, .int .i64 burst, .int .i64 level, .int .i64 at_], .agg #[.string who, .int .i64 rate', .int .i64 burst'], .int .i64 now] w fun e w' => e = .returned (.tuple #[.agg #[.string who, .int .i64 rate', .int .i64 burst', .int .i64 L, .int .i64 now], .int .i64 0]) ∧ Below w.heap.size w w')) (N2 : Hid (∀ w, Calls Try.prog 18 #[.agg #[.string who, .int .i64 rate, .int .i64 burst, .int .i64 level, .int .i64 at_], .int .i64 now] w fun e w' => e = .returned (.tuple #[.agg #[.string who, .int .i64 rate, .int .i64 burst, .int .i64 L, .int .i64 now], .int .i64 0]) ∧ Below w.heap.size w w')) (N3 : Hid (∀ w, Calls Try.prog 14 #[.agg #[.string who, .int .i64 rate', .int .i64 burst', .int .i64 L, .int .i64 now], .agg #[.string who, .int .i64 rate', .int .i64 burst'], .int .i64 now] w fun e w' => e = .returned (.tuple #[.agg #[.string who, .int .i64 rate', .int .i64 burst', .int .i64 L, .int .i64 now], .int .i64 0]) ∧ Below w.heap.size w w')) (N4 : Hid (∀ w, Calls Try.prog 14 #[.agg #[.string who, .int .i64 rate, .int .i64 burst, .int .i64 level, .int .i64 at_], .agg #[.string who, .int .i64 rate, .int .i64 burst], .int .i64 now] w fun e w' => e = .returned (.tuple #[.agg #[.string who, .int .i64 rate, .int .i64 burst, .int .i64 L, .int .i64 now], .int .i64 0]) ∧ Below w.heap.size w w')) :
    Calls Try.prog 9 #[.agg #[.string who, .int .i64 rate, .int .i64 burst, .int .i64 level, .int .i64 at_], .agg #[.string who, .int .i64 rate', .int .i64 burst'], .int .i64 now] w fun e w' => e = .returned (.bool true) ∧ Below w.heap.size w w' := by
  go_enter Try.func9, Try.ntmps9
  have H1a := Has.newAt w #[.string who, .int .i64 rate, .int .i64 burst, .int .i64 level, .int .i64 at_] 23 (g := w.heap.size) (by simp)
  have B1 := Below.alloc (Below.refl w.heap.size w) ((Below.refl w.heap.size w).size) (.cells #[.string who, .int .i64 rate, .int .i64 burst, .int .i64 level, .int .i64 at_] 23)
  have H2a := Has.alloc H1a (.cells #[.string who, .int .i64 rate', .int .i64 burst'] 25)
  have H2b := Has.newAt (w.alloc (.cells #[.string who, .int .i64 rate, .int .i64 burst, .int .i64 level, .int .i64 at_] 23)) #[.string who, .int .i64 rate', .int .i64 burst'] 25 (g := w.heap.size + 1) (by simp)
  have B2 := Below.alloc B1 (B1.size) (.cells #[.string who, .int .i64 rate', .int .i64 burst'] 25)
  go_wp2_with fail
  refine (live_any _).mono ?_
  rintro e w3 ⟨rfl, hb3⟩
  have H3a := Has.below hb3 H2a
  have H3b := Has.below hb3 H2b
  have B3 := below_from hb3 B2 (B2.size)
  have c3a := H3a.cell
  have l3a := H3a.lt
  have c3b := H3b.cell
  have l3b := H3b.lt
  go_wp2_with fail
  refine (N1.out _).mono ?_
  rintro e w4 ⟨rfl, hb4⟩
  have H4a := Has.below hb4 H3a
  have H4b := Has.below hb4 H3b
  have B4 := below_from hb4 B3 (B3.size)
  have c4a := H4a.cell
  have l4a := H4a.lt
  have c4b := H4b.cell
  have l4b := H4b.lt
  have H5a := Has.alloc H4a (.cells #[.string who, .int .i64 rate', .int .i64 burst', .int .i64 L, .int .i64 now] 23)
  have H5b := Has.alloc H4b (.cells #[.string who, .int .i64 rate', .int .i64 burst', .int .i64 L, .int .i64 now] 23)
  have H5c := Has.newAt w4 #[.string who, .int .i64 rate', .int .i64 burst', .int .i64 L, .int .i64 now] 23 (g := w4.heap.size) (by simp)
  have B5 := Below.alloc B4 (B4.size) (.cells #[.string who, .int .i64 rate', .int .i64 burst', .int .i64 L, .int .i64 now] 23)
  have zz5a := H5a.cell
  have zz5b := H5b.cell
  have zz5c := H5c.cell
  go_wp2_with fail
  refine (N2.out _).mono ?_
  rintro e w6 ⟨rfl, hb6⟩
  have H6a := Has.below hb6 H5a
  have H6b := Has.below hb6 H5b
  have H6c := Has.below hb6 H5c
  have B6 := below_from hb6 B5 (B5.size)
  have c6a := H6a.cell
  have l6a := H6a.lt
  have c6b := H6b.cell
  have l6b := H6b.lt
  have c6c := H6c.cell
  have l6c := H6c.lt
  have H7a := Has.alloc H6a (.cells #[.string who, .int .i64 rate, .int .i64 burst, .int .i64 L, .int .i64 now] 23)
  have H7b := Has.alloc H6b (.cells #[.string who, .int .i64 rate, .int .i64 burst, .int .i64 L, .int .i64 now] 23)
  have H7c := Has.alloc H6c (.cells #[.string who, .int .i64 rate, .int .i64 burst, .int .i64 L, .int .i64 now] 23)
  have H7d := Has.newAt w6 #[.string who, .int .i64 rate, .int .i64 burst, .int .i64 L, .int .i64 now] 23 (g := w6.heap.size) (by simp)
  have B7 := Below.alloc B6 (B6.size) (.cells #[.string who, .int .i64 rate, .int .i64 burst, .int .i64 L, .int .i64 now] 23)
  have zz7a := H7a.cell
  have zz7b := H7b.cell
  have zz7c := H7c.cell
  have zz7d := H7d.cell
  go_wp2_with fail
  refine (N3.out _).mono ?_
  rintro e w8 ⟨rfl, hb8⟩
  have H8a := Has.below hb8 H7a
  have H8b := Has.below hb8 H7b
  have H8c := Has.below hb8 H7c
  have H8d := Has.below hb8 H7d
  have B8 := below_from hb8 B7 (B7.size)
  have c8a := H8a.cell
  have l8a := H8a.lt
  have c8b := H8b.cell
  have l8b := H8b.lt
  have c8c := H8c.cell
  have l8c := H8c.lt
  have c8d := H8d.cell
  have l8d := H8d.lt
  have H9a := Has.alloc H8a (.cells #[.string who, .int .i64 rate', .int .i64 burst', .int .i64 L, .int .i64 now] 23)
  have H9b := Has.alloc H8b (.cells #[.string who, .int .i64 rate', .int .i64 burst', .int .i64 L, .int .i64 now] 23)
  have H9c := Has.alloc H8c (.cells #[.string who, .int .i64 rate', .int .i64 burst', .int .i64 L, .int .i64 now] 23)
  have H9d := Has.alloc H8d (.cells #[.string who, .int .i64 rate', .int .i64 burst', .int .i64 L, .int .i64 now] 23)
  have H9e := Has.newAt w8 #[.string who, .int .i64 rate', .int .i64 burst', .int .i64 L, .int .i64 now] 23 (g := w8.heap.size) (by simp)
  have B9 := Below.alloc B8 (B8.size) (.cells #[.string who, .int .i64 rate', .int .i64 burst', .int .i64 L, .int .i64 now] 23)
  have zz9a := H9a.cell
  have zz9b := H9b.cell
  have zz9c := H9c.cell
  have zz9d := H9d.cell
  have zz9e := H9e.cell
  go_wp2_with fail
  refine (N4.out _).mono ?_
  rintro e w10 ⟨rfl, hb10⟩
  have H10a := Has.below hb10 H9a
  have H10b := Has.below hb10 H9b
  have H10c := Has.below hb10 H9c
  have H10d := Has.below hb10 H9d
  have H10e := Has.below hb10 H9e
  have B10 := below_from hb10 B9 (B9.size)
  have c10a := H10a.cell
  have l10a := H10a.lt
  have c10b := H10b.cell
  have l10b := H10b.lt
  have c10c := H10c.cell
  have l10c := H10c.lt
  have c10d := H10d.cell
  have l10d := H10d.lt
  have c10e := H10e.cell
  have l10e := H10e.lt
  have H11a := Has.alloc H10a (.cells #[.string who, .int .i64 rate, .int .i64 burst, .int .i64 L, .int .i64 now] 23)
  have H11b := Has.alloc H10b (.cells #[.string who, .int .i64 rate, .int .i64 burst, .int .i64 L, .int .i64 now] 23)
  have H11c := Has.alloc H10c (.cells #[.string who, .int .i64 rate, .int .i64 burst, .int .i64 L, .int .i64 now] 23)
  have H11d := Has.alloc H10d (.cells #[.string who, .int .i64 rate, .int .i64 burst, .int .i64 L, .int .i64 now] 23)
  have H11e := Has.alloc H10e (.cells #[.string who, .int .i64 rate, .int .i64 burst, .int .i64 L, .int .i64 now] 23)
  have H11f := Has.newAt w10 #[.string who, .int .i64 rate, .int .i64 burst, .int .i64 L, .int .i64 now] 23 (g := w10.heap.size) (by simp)
  have B11 := Below.alloc B10 (B10.size) (.cells #[.string who, .int .i64 rate, .int .i64 burst, .int .i64 L, .int .i64 now] 23)
  have za := H11a.cell
  have zb := H11b.cell
  have zc := H11c.cell
  have zd := H11d.cell
  have ze := H11e.cell
  have zf := H11f.cell
  go_wp2_with fail
  generalize hWW : (w10.alloc (.cells #[.string who, .int .i64 rate, .int .i64 burst, .int .i64 L, .int .i64 now] 23)) = W at *
  clear hWW
  have zla := H11a.lt
  have zlb := H11b.lt
  have zlc := H11c.lt
  have zld := H11d.lt
  have zle := H11e.lt
  have zlf := H11f.lt
  have zB := B11.size
  have ZB := Lib.hid B11
  go_wp2_with (go_at_call 16; refine (check_any _ _ _ _ _ _).mono ?_; rintro e w' ⟨rfl, rfl⟩)
  go_ret
  refine ⟨rfl, ?_⟩
  have B0 := ZB.out
  repeat (first | with_reducible exact B0 | (refine Below.alloc ?_ (by first | omega | (simp <;> omega)) _))

set_option maxHeartbeats 4000000 in
theorem sets_yes2 (who : ByteArray) (rate burst level at_ rate' burst' now K : Int) (w : World) (hs : who.size ≤ 200) (hc : chk who.size rate' burst' burst' now = 0) (hL : burst' < K)
    (N1 : Hid (∀ w, Calls Try.prog 14 #[.agg #[.string who, .int .i64 rate, .int .i64 burst, .int .i64 level, .int .i64 at_], .agg #[.string who, .int .i64 rate', .int .i64 burst'], .int .i64 now] w fun e w' => e = .returned (.tuple #[.agg #[.string who, .int .i64 rate', .int .i64 burst', .int .i64 burst', .int .i64 now], .int .i64 0]) ∧ Below w.heap.size w w')) (N2 : Hid (∀ w, Calls Try.prog 18 #[.agg #[.string who, .int .i64 rate, .int .i64 burst, .int .i64 level, .int .i64 at_], .int .i64 now] w fun e w' => e = .returned (.tuple #[.agg #[.string who, .int .i64 rate, .int .i64 burst, .int .i64 K, .int .i64 now], .int .i64 0]) ∧ Below w.heap.size w w')) (N3 : Hid (∀ w, Calls Try.prog 14 #[.agg #[.string who, .int .i64 rate', .int .i64 burst', .int .i64 burst', .int .i64 now], .agg #[.string who, .int .i64 rate', .int .i64 burst'], .int .i64 now] w fun e w' => e = .returned (.tuple #[.agg #[.string who, .int .i64 rate', .int .i64 burst', .int .i64 burst', .int .i64 now], .int .i64 0]) ∧ Below w.heap.size w w')) (N4 : Hid (∀ w, Calls Try.prog 14 #[.agg #[.string who, .int .i64 rate, .int .i64 burst, .int .i64 level, .int .i64 at_], .agg #[.string who, .int .i64 rate, .int .i64 burst], .int .i64 now] w fun e w' => e = .returned (.tuple #[.agg #[.string who, .int .i64 rate, .int .i64 burst, .int .i64 K, .int .i64 now], .int .i64 0]) ∧ Below w.heap.size w w')) :
    Calls Try.prog 9 #[.agg #[.string who, .int .i64 rate, .int .i64 burst, .int .i64 level, .int .i64 at_], .agg #[.string who, .int .i64 rate', .int .i64 burst'], .int .i64 now] w fun e w' => e = .returned (.bool true) ∧ Below w.heap.size w w' := by
  go_enter Try.func9, Try.ntmps9
  have H1a := Has.newAt w #[.string who, .int .i64 rate, .int .i64 burst, .int .i64 level, .int .i64 at_] 23 (g := w.heap.size) (by simp)
  have B1 := Below.alloc (Below.refl w.heap.size w) ((Below.refl w.heap.size w).size) (.cells #[.string who, .int .i64 rate, .int .i64 burst, .int .i64 level, .int .i64 at_] 23)
  have H2a := Has.alloc H1a (.cells #[.string who, .int .i64 rate', .int .i64 burst'] 25)
  have H2b := Has.newAt (w.alloc (.cells #[.string who, .int .i64 rate, .int .i64 burst, .int .i64 level, .int .i64 at_] 23)) #[.string who, .int .i64 rate', .int .i64 burst'] 25 (g := w.heap.size + 1) (by simp)
  have B2 := Below.alloc B1 (B1.size) (.cells #[.string who, .int .i64 rate', .int .i64 burst'] 25)
  go_wp2_with fail
  refine (live_any _).mono ?_
  rintro e w3 ⟨rfl, hb3⟩
  have H3a := Has.below hb3 H2a
  have H3b := Has.below hb3 H2b
  have B3 := below_from hb3 B2 (B2.size)
  have c3a := H3a.cell
  have l3a := H3a.lt
  have c3b := H3b.cell
  have l3b := H3b.lt
  go_wp2_with fail
  refine (N1.out _).mono ?_
  rintro e w4 ⟨rfl, hb4⟩
  have H4a := Has.below hb4 H3a
  have H4b := Has.below hb4 H3b
  have B4 := below_from hb4 B3 (B3.size)
  have c4a := H4a.cell
  have l4a := H4a.lt
  have c4b := H4b.cell
  have l4b := H4b.lt
  have H5a := Has.alloc H4a (.cells #[.string who, .int .i64 rate', .int .i64 burst', .int .i64 burst', .int .i64 now] 23)
  have H5b := Has.alloc H4b (.cells #[.string who, .int .i64 rate', .int .i64 burst', .int .i64 burst', .int .i64 now] 23)
  have H5c := Has.newAt w4 #[.string who, .int .i64 rate', .int .i64 burst', .int .i64 burst', .int .i64 now] 23 (g := w4.heap.size) (by simp)
  have B5 := Below.alloc B4 (B4.size) (.cells #[.string who, .int .i64 rate', .int .i64 burst', .int .i64 burst', .int .i64 now] 23)
  have zz5a := H5a.cell
  have zz5b := H5b.cell
  have zz5c := H5c.cell
  go_wp2_with fail
  refine (N2.out _).mono ?_
  rintro e w6 ⟨rfl, hb6⟩
  have H6a := Has.below hb6 H5a
  have H6b := Has.below hb6 H5b
  have H6c := Has.below hb6 H5c
  have B6 := below_from hb6 B5 (B5.size)
  have c6a := H6a.cell
  have l6a := H6a.lt
  have c6b := H6b.cell
  have l6b := H6b.lt
  have c6c := H6c.cell
  have l6c := H6c.lt
  have H7a := Has.alloc H6a (.cells #[.string who, .int .i64 rate, .int .i64 burst, .int .i64 K, .int .i64 now] 23)
  have H7b := Has.alloc H6b (.cells #[.string who, .int .i64 rate, .int .i64 burst, .int .i64 K, .int .i64 now] 23)
  have H7c := Has.alloc H6c (.cells #[.string who, .int .i64 rate, .int .i64 burst, .int .i64 K, .int .i64 now] 23)
  have H7d := Has.newAt w6 #[.string who, .int .i64 rate, .int .i64 burst, .int .i64 K, .int .i64 now] 23 (g := w6.heap.size) (by simp)
  have B7 := Below.alloc B6 (B6.size) (.cells #[.string who, .int .i64 rate, .int .i64 burst, .int .i64 K, .int .i64 now] 23)
  have zz7a := H7a.cell
  have zz7b := H7b.cell
  have zz7c := H7c.cell
  have zz7d := H7d.cell
  go_wp2_with fail
  refine (N3.out _).mono ?_
  rintro e w8 ⟨rfl, hb8⟩
  have H8a := Has.below hb8 H7a
  have H8b := Has.below hb8 H7b
  have H8c := Has.below hb8 H7c
  have H8d := Has.below hb8 H7d
  have B8 := below_from hb8 B7 (B7.size)
  have c8a := H8a.cell
  have l8a := H8a.lt
  have c8b := H8b.cell
  have l8b := H8b.lt
  have c8c := H8c.cell
  have l8c := H8c.lt
  have c8d := H8d.cell
  have l8d := H8d.lt
  have H9a := Has.alloc H8a (.cells #[.string who, .int .i64 rate', .int .i64 burst', .int .i64 burst', .int .i64 now] 23)
  have H9b := Has.alloc H8b (.cells #[.string who, .int .i64 rate', .int .i64 burst', .int .i64 burst', .int .i64 now] 23)
  have H9c := Has.alloc H8c (.cells #[.string who, .int .i64 rate', .int .i64 burst', .int .i64 burst', .int .i64 now] 23)
  have H9d := Has.alloc H8d (.cells #[.string who, .int .i64 rate', .int .i64 burst', .int .i64 burst', .int .i64 now] 23)
  have H9e := Has.newAt w8 #[.string who, .int .i64 rate', .int .i64 burst', .int .i64 burst', .int .i64 now] 23 (g := w8.heap.size) (by simp)
  have B9 := Below.alloc B8 (B8.size) (.cells #[.string who, .int .i64 rate', .int .i64 burst', .int .i64 burst', .int .i64 now] 23)
  have zz9a := H9a.cell
  have zz9b := H9b.cell
  have zz9c := H9c.cell
  have zz9d := H9d.cell
  have zz9e := H9e.cell
  go_wp2_with fail
  refine (N4.out _).mono ?_
  rintro e w10 ⟨rfl, hb10⟩
  have H10a := Has.below hb10 H9a
  have H10b := Has.below hb10 H9b
  have H10c := Has.below hb10 H9c
  have H10d := Has.below hb10 H9d
  have H10e := Has.below hb10 H9e
  have B10 := below_from hb10 B9 (B9.size)
  have c10a := H10a.cell
  have l10a := H10a.lt
  have c10b := H10b.cell
  have l10b := H10b.lt
  have c10c := H10c.cell
  have l10c := H10c.lt
  have c10d := H10d.cell
  have l10d := H10d.lt
  have c10e := H10e.cell
  have l10e := H10e.lt
  have H11a := Has.alloc H10a (.cells #[.string who, .int .i64 rate, .int .i64 burst, .int .i64 K, .int .i64 now] 23)
  have H11b := Has.alloc H10b (.cells #[.string who, .int .i64 rate, .int .i64 burst, .int .i64 K, .int .i64 now] 23)
  have H11c := Has.alloc H10c (.cells #[.string who, .int .i64 rate, .int .i64 burst, .int .i64 K, .int .i64 now] 23)
  have H11d := Has.alloc H10d (.cells #[.string who, .int .i64 rate, .int .i64 burst, .int .i64 K, .int .i64 now] 23)
  have H11e := Has.alloc H10e (.cells #[.string who, .int .i64 rate, .int .i64 burst, .int .i64 K, .int .i64 now] 23)
  have H11f := Has.newAt w10 #[.string who, .int .i64 rate, .int .i64 burst, .int .i64 K, .int .i64 now] 23 (g := w10.heap.size) (by simp)
  have B11 := Below.alloc B10 (B10.size) (.cells #[.string who, .int .i64 rate, .int .i64 burst, .int .i64 K, .int .i64 now] 23)
  have za := H11a.cell
  have zb := H11b.cell
  have zc := H11c.cell
  have zd := H11d.cell
  have ze := H11e.cell
  have zf := H11f.cell
  go_wp2_with fail
  generalize hWW : (w10.alloc (.cells #[.string who, .int .i64 rate, .int .i64 burst, .int .i64 K, .int .i64 now] 23)) = W at *
  clear hWW
  have zla := H11a.lt
  have zlb := H11b.lt
  have zlc := H11c.lt
  have zld := H11d.lt
  have zle := H11e.lt
  have zlf := H11f.lt
  have zB := B11.size
  have ZB := Lib.hid B11
  go_wp2_with (go_at_call 16; refine (check_any _ _ _ _ _ _).mono ?_; rintro e w' ⟨rfl, rfl⟩)
  go_ret
  refine ⟨rfl, ?_⟩
  have B0 := ZB.out
  repeat (first | with_reducible exact B0 | (refine Below.alloc ?_ (by first | omega | (simp <;> omega)) _))

theorem sets_any (who who' : ByteArray) (rate burst level at_ rate' burst' now : Int) (w : World) :
    Calls Try.prog 9 #[.agg #[.string who, .int .i64 rate, .int .i64 burst, .int .i64 level, .int .i64 at_], .agg #[.string who', .int .i64 rate', .int .i64 burst'], .int .i64 now] w fun e w' => e = .returned (.bool true) ∧ Below w.heap.size w w' := by
  by_cases hs : who.size ≤ 200
  · by_cases hs' : who'.size ≤ 200
    · have hS := fun w => set_any who who' rate burst level at_ rate' burst' now w
      by_cases he : setK who who' rate burst level at_ rate' burst' now = 0
      · have he' := he
        unfold setK at he'
        rcases setE_cases who.size (who'.toList == who.toList) rate burst level at_ who'.size rate' burst' now with ⟨c0, e1⟩ | ⟨c0, c1, e1⟩ | ⟨c0, c1, c2, e1⟩ | ⟨c0, c1, c2, c3, e1⟩ | ⟨c0, c1, c2, c3, c4, e1⟩ | ⟨c0, c1, c2, c3, c4, e1⟩
        · omega
        · omega
        · omega
        · omega
        · omega
        · obtain rfl := set_same c1
          obtain ⟨g0, g1, g2, g3, g4, g5, g6, g7, g8⟩ := okB_parts c0
          obtain ⟨r0, r1, r2, r3, r4⟩ := okR_parts c2
          have hle := fillL_le rate burst level at_ now
          have hge := fillL_ge g1 c4 g6
          have hx : okB who'.size rate' burst' (setL rate burst level at_ burst' now) now = true := okB_mk r0 r1 r2 r3 r4 (by unfold setL; omega) (by unfold setL; omega) (by omega) c3
          have n1 := fun w => set_ok who' rate burst level at_ rate' burst' now w c0 c2 c3 c4
          have n2 := fun w => fill_ok who' rate burst level at_ now w (fillE_zero c0 c3 c4)
          have n3 := fun w => set_ok who' rate' burst' (setL rate burst level at_ burst' now) now rate' burst' now w hx c2 c3 (Int.le_refl _)
          have n4 := fun w => set_ok who' rate burst level at_ rate burst now w c0 (by simp [okR]; omega) c3 c4
          rw [show setL rate' burst' (setL rate burst level at_ burst' now) now burst' now = setL rate burst level at_ burst' now by
            unfold setL; rw [fill_now _ _ _ _ (by omega)]; omega] at n3
          rw [show setL rate burst level at_ burst now = fillL rate burst level at_ now by unfold setL; omega] at n4
          by_cases hK : fillL rate burst level at_ now ≤ burst'
          · rw [show setL rate burst level at_ burst' now = fillL rate burst level at_ now by unfold setL; omega] at n1 n3 hx
            exact sets_yes1 who' rate burst level at_ rate' burst' now _ w hs (by simp [chk, hx]) hK n1 n2 n3 n4
          · rw [show setL rate burst level at_ burst' now = burst' by unfold setL; omega] at n1 n3 hx
            exact sets_yes2 who' rate burst level at_ rate' burst' now _ w hs (by simp [chk, hx]) (by omega) n1 n2 n3 n4
      · simp only [z, zw, if_neg he] at hS
        exact sets_err who who' rate burst level at_ rate' burst' now _ w hs hs' (by simpa using he) hS
    · exact sets_big1 who who' rate burst level at_ rate' burst' now w hs (by omega)
  · exact sets_big0 who who' rate burst level at_ rate' burst' now w (by omega)

end Go.Proofs.Ythmnojlenaddeaa
