/- QuotaKeeps of layer 20: the walk. -/
import Derived.Test.YthmnojlenaddeaaMoved
namespace Go.Proofs.Ythmnojlenaddeaa
open Go.RowKit Q

theorem keeps_big (who : ByteArray) (rate burst level at_ now m : Int) (w : World) (hs : 200 < who.size) :
    Calls Try.prog 10 #[.agg #[.string who, .int .i64 rate, .int .i64 burst, .int .i64 level, .int .i64 at_], .int .i64 now, .int .i64 m] w fun e w' => e = .returned (.bool true) ∧ Below w.heap.size w w' := by
  go_enter Try.func10, Try.ntmps10
  have H1a := Has.newAt w #[.string who, .int .i64 rate, .int .i64 burst, .int .i64 level, .int .i64 at_] 23 (g := w.heap.size) (by simp)
  have B1 := Below.alloc (Below.refl w.heap.size w) ((Below.refl w.heap.size w).size) (.cells #[.string who, .int .i64 rate, .int .i64 burst, .int .i64 level, .int .i64 at_] 23)
  go_wp2_with fail
  refine (live_any _).mono ?_
  rintro e w2 ⟨rfl, hb2⟩
  have H2a := Has.below hb2 H1a
  have B2 := below_from hb2 B1 (B1.size)
  have c2a := H2a.cell
  have l2a := H2a.lt
  go_wp2_with fail
  go_ret
  exact ⟨rfl, B2⟩

set_option maxHeartbeats 4000000 in
theorem keeps_err0 (who : ByteArray) (rate burst level at_ now m k : Int) (w : World) (hs : who.size ≤ 200) (hk : (k != 0) = true) (hc : chk who.size rate burst level at_ = 1)
    (N1 : Hid (∀ w, Calls Try.prog 20 #[.agg #[.string who, .int .i64 rate, .int .i64 burst, .int .i64 level, .int .i64 at_], .int .i64 now, .int .i64 m] w fun e w' => e = .returned (.tuple #[.agg #[.string ⟨#[]⟩, .int .i64 0, .int .i64 0, .int .i64 0, .int .i64 0], .int .i64 0, .int .i64 k]) ∧ Below w.heap.size w w')) :
    Calls Try.prog 10 #[.agg #[.string who, .int .i64 rate, .int .i64 burst, .int .i64 level, .int .i64 at_], .int .i64 now, .int .i64 m] w fun e w' => e = .returned (.bool true) ∧ Below w.heap.size w w' := by
  go_enter Try.func10, Try.ntmps10
  have H1a := Has.newAt w #[.string who, .int .i64 rate, .int .i64 burst, .int .i64 level, .int .i64 at_] 23 (g := w.heap.size) (by simp)
  have B1 := Below.alloc (Below.refl w.heap.size w) ((Below.refl w.heap.size w).size) (.cells #[.string who, .int .i64 rate, .int .i64 burst, .int .i64 level, .int .i64 at_] 23)
  go_wp2_with fail
  refine (live_any _).mono ?_
  rintro e w2 ⟨rfl, hb2⟩
  have H2a := Has.below hb2 H1a
  have B2 := below_from hb2 B1 (B1.size)
  have c2a := H2a.cell
  have l2a := H2a.lt
  go_wp2_with fail
  refine (N1.out _).mono ?_
  rintro e w3 ⟨rfl, hb3⟩
  have H3a := Has.below hb3 H2a
  have B3 := below_from hb3 B2 (B2.size)
  have c3a := H3a.cell
  have l3a := H3a.lt
  have H4a := Has.alloc H3a (.cells #[.string ⟨#[]⟩, .int .i64 0, .int .i64 0, .int .i64 0, .int .i64 0] 23)
  have H4c := Has.newAt w3 #[.string ⟨#[]⟩, .int .i64 0, .int .i64 0, .int .i64 0, .int .i64 0] 23 (g := w3.heap.size) (by simp)
  have B4 := Below.alloc B3 (B3.size) (.cells #[.string ⟨#[]⟩, .int .i64 0, .int .i64 0, .int .i64 0, .int .i64 0] 23)
  have za := H4a.cell
  have zc := H4c.cell
  go_wp2_with fail
  generalize hWW : (w3.alloc (.cells #[.string ⟨#[]⟩, .int .i64 0, .int .i64 0, .int .i64 0, .int .i64 0] 23)) = W at *
  clear hWW
  have zla := H4a.lt
  have zlc := H4c.lt
  have zB := B4.size
  have ZB := Lib.hid B4
  go_wp2_with (go_at_call 16; refine (check_any _ _ _ _ _ _).mono ?_; rintro e w' ⟨rfl, rfl⟩)
  go_ret
  refine ⟨rfl, ?_⟩
  have B0 := ZB.out
  repeat (first | with_reducible exact B0 | (refine Below.alloc ?_ (by first | omega | (simp <;> omega)) _))

set_option maxHeartbeats 4000000 in
theorem keeps_err1 (who : ByteArray) (rate burst level at_ now m k : Int) (w : World) (hs : who.size ≤ 200) (hk : (k != 0) = true) (hc : chk who.size rate burst level at_ = 0) (h1 : m < 0)
    (N1 : Hid (∀ w, Calls Try.prog 20 #[.agg #[.string who, .int .i64 rate, .int .i64 burst, .int .i64 level, .int .i64 at_], .int .i64 now, .int .i64 m] w fun e w' => e = .returned (.tuple #[.agg #[.string ⟨#[]⟩, .int .i64 0, .int .i64 0, .int .i64 0, .int .i64 0], .int .i64 0, .int .i64 k]) ∧ Below w.heap.size w w')) :
    Calls Try.prog 10 #[.agg #[.string who, .int .i64 rate, .int .i64 burst, .int .i64 level, .int .i64 at_], .int .i64 now, .int .i64 m] w fun e w' => e = .returned (.bool true) ∧ Below w.heap.size w w' := by
  go_enter Try.func10, Try.ntmps10
  have H1a := Has.newAt w #[.string who, .int .i64 rate, .int .i64 burst, .int .i64 level, .int .i64 at_] 23 (g := w.heap.size) (by simp)
  have B1 := Below.alloc (Below.refl w.heap.size w) ((Below.refl w.heap.size w).size) (.cells #[.string who, .int .i64 rate, .int .i64 burst, .int .i64 level, .int .i64 at_] 23)
  go_wp2_with fail
  refine (live_any _).mono ?_
  rintro e w2 ⟨rfl, hb2⟩
  have H2a := Has.below hb2 H1a
  have B2 := below_from hb2 B1 (B1.size)
  have c2a := H2a.cell
  have l2a := H2a.lt
  go_wp2_with fail
  refine (N1.out _).mono ?_
  rintro e w3 ⟨rfl, hb3⟩
  have H3a := Has.below hb3 H2a
  have B3 := below_from hb3 B2 (B2.size)
  have c3a := H3a.cell
  have l3a := H3a.lt
  have H4a := Has.alloc H3a (.cells #[.string ⟨#[]⟩, .int .i64 0, .int .i64 0, .int .i64 0, .int .i64 0] 23)
  have H4c := Has.newAt w3 #[.string ⟨#[]⟩, .int .i64 0, .int .i64 0, .int .i64 0, .int .i64 0] 23 (g := w3.heap.size) (by simp)
  have B4 := Below.alloc B3 (B3.size) (.cells #[.string ⟨#[]⟩, .int .i64 0, .int .i64 0, .int .i64 0, .int .i64 0] 23)
  have za := H4a.cell
  have zc := H4c.cell
  go_wp2_with fail
  generalize hWW : (w3.alloc (.cells #[.string ⟨#[]⟩, .int .i64 0, .int .i64 0, .int .i64 0, .int .i64 0] 23)) = W at *
  clear hWW
  have zla := H4a.lt
  have zlc := H4c.lt
  have zB := B4.size
  have ZB := Lib.hid B4
  go_wp2_with (go_at_call 16; refine (check_any _ _ _ _ _ _).mono ?_; rintro e w' ⟨rfl, rfl⟩)
  go_ret
  refine ⟨rfl, ?_⟩
  have B0 := ZB.out
  repeat (first | with_reducible exact B0 | (refine Below.alloc ?_ (by first | omega | (simp <;> omega)) _))

set_option maxHeartbeats 4000000 in
theorem keeps_err2 (who : ByteArray) (rate burst level at_ now m k : Int) (w : World) (hs : who.size ≤ 200) (hk : (k != 0) = true) (hc : chk who.size rate burst level at_ = 0) (h1 : 0 ≤ m) (h2 : 1099511627776 < m)
    (N1 : Hid (∀ w, Calls Try.prog 20 #[.agg #[.string who, .int .i64 rate, .int .i64 burst, .int .i64 level, .int .i64 at_], .int .i64 now, .int .i64 m] w fun e w' => e = .returned (.tuple #[.agg #[.string ⟨#[]⟩, .int .i64 0, .int .i64 0, .int .i64 0, .int .i64 0], .int .i64 0, .int .i64 k]) ∧ Below w.heap.size w w')) :
    Calls Try.prog 10 #[.agg #[.string who, .int .i64 rate, .int .i64 burst, .int .i64 level, .int .i64 at_], .int .i64 now, .int .i64 m] w fun e w' => e = .returned (.bool true) ∧ Below w.heap.size w w' := by
  go_enter Try.func10, Try.ntmps10
  have H1a := Has.newAt w #[.string who, .int .i64 rate, .int .i64 burst, .int .i64 level, .int .i64 at_] 23 (g := w.heap.size) (by simp)
  have B1 := Below.alloc (Below.refl w.heap.size w) ((Below.refl w.heap.size w).size) (.cells #[.string who, .int .i64 rate, .int .i64 burst, .int .i64 level, .int .i64 at_] 23)
  go_wp2_with fail
  refine (live_any _).mono ?_
  rintro e w2 ⟨rfl, hb2⟩
  have H2a := Has.below hb2 H1a
  have B2 := below_from hb2 B1 (B1.size)
  have c2a := H2a.cell
  have l2a := H2a.lt
  go_wp2_with fail
  refine (N1.out _).mono ?_
  rintro e w3 ⟨rfl, hb3⟩
  have H3a := Has.below hb3 H2a
  have B3 := below_from hb3 B2 (B2.size)
  have c3a := H3a.cell
  have l3a := H3a.lt
  have H4a := Has.alloc H3a (.cells #[.string ⟨#[]⟩, .int .i64 0, .int .i64 0, .int .i64 0, .int .i64 0] 23)
  have H4c := Has.newAt w3 #[.string ⟨#[]⟩, .int .i64 0, .int .i64 0, .int .i64 0, .int .i64 0] 23 (g := w3.heap.size) (by simp)
  have B4 := Below.alloc B3 (B3.size) (.cells #[.string ⟨#[]⟩, .int .i64 0, .int .i64 0, .int .i64 0, .int .i64 0] 23)
  have za := H4a.cell
  have zc := H4c.cell
  go_wp2_with fail
  generalize hWW : (w3.alloc (.cells #[.string ⟨#[]⟩, .int .i64 0, .int .i64 0, .int .i64 0, .int .i64 0] 23)) = W at *
  clear hWW
  have zla := H4a.lt
  have zlc := H4c.lt
  have zB := B4.size
  have ZB := Lib.hid B4
  go_wp2_with (go_at_call 16; refine (check_any _ _ _ _ _ _).mono ?_; rintro e w' ⟨rfl, rfl⟩)
  go_ret
  refine ⟨rfl, ?_⟩
  have B0 := ZB.out
  repeat (first | with_reducible exact B0 | (refine Below.alloc ?_ (by first | omega | (simp <;> omega)) _))

set_option maxHeartbeats 4000000 in
theorem keeps_err3 (who : ByteArray) (rate burst level at_ now m k : Int) (w : World) (hs : who.size ≤ 200) (hk : (k != 0) = true) (hc : chk who.size rate burst level at_ = 0) (h1 : 0 ≤ m) (h2 : m ≤ 1099511627776) (h3 : now < at_)
    (N1 : Hid (∀ w, Calls Try.prog 20 #[.agg #[.string who, .int .i64 rate, .int .i64 burst, .int .i64 level, .int .i64 at_], .int .i64 now, .int .i64 m] w fun e w' => e = .returned (.tuple #[.agg #[.string ⟨#[]⟩, .int .i64 0, .int .i64 0, .int .i64 0, .int .i64 0], .int .i64 0, .int .i64 k]) ∧ Below w.heap.size w w')) :
    Calls Try.prog 10 #[.agg #[.string who, .int .i64 rate, .int .i64 burst, .int .i64 level, .int .i64 at_], .int .i64 now, .int .i64 m] w fun e w' => e = .returned (.bool true) ∧ Below w.heap.size w w' := by
  go_enter Try.func10, Try.ntmps10
  have H1a := Has.newAt w #[.string who, .int .i64 rate, .int .i64 burst, .int .i64 level, .int .i64 at_] 23 (g := w.heap.size) (by simp)
  have B1 := Below.alloc (Below.refl w.heap.size w) ((Below.refl w.heap.size w).size) (.cells #[.string who, .int .i64 rate, .int .i64 burst, .int .i64 level, .int .i64 at_] 23)
  go_wp2_with fail
  refine (live_any _).mono ?_
  rintro e w2 ⟨rfl, hb2⟩
  have H2a := Has.below hb2 H1a
  have B2 := below_from hb2 B1 (B1.size)
  have c2a := H2a.cell
  have l2a := H2a.lt
  go_wp2_with fail
  refine (N1.out _).mono ?_
  rintro e w3 ⟨rfl, hb3⟩
  have H3a := Has.below hb3 H2a
  have B3 := below_from hb3 B2 (B2.size)
  have c3a := H3a.cell
  have l3a := H3a.lt
  have H4a := Has.alloc H3a (.cells #[.string ⟨#[]⟩, .int .i64 0, .int .i64 0, .int .i64 0, .int .i64 0] 23)
  have H4c := Has.newAt w3 #[.string ⟨#[]⟩, .int .i64 0, .int .i64 0, .int .i64 0, .int .i64 0] 23 (g := w3.heap.size) (by simp)
  have B4 := Below.alloc B3 (B3.size) (.cells #[.string ⟨#[]⟩, .int .i64 0, .int .i64 0, .int .i64 0, .int .i64 0] 23)
  have za := H4a.cell
  have zc := H4c.cell
  go_wp2_with fail
  generalize hWW : (w3.alloc (.cells #[.string ⟨#[]⟩, .int .i64 0, .int .i64 0, .int .i64 0, .int .i64 0] 23)) = W at *
  clear hWW
  have zla := H4a.lt
  have zlc := H4c.lt
  have zB := B4.size
  have ZB := Lib.hid B4
  go_wp2_with (go_at_call 16; refine (check_any _ _ _ _ _ _).mono ?_; rintro e w' ⟨rfl, rfl⟩)
  go_ret
  refine ⟨rfl, ?_⟩
  have B0 := ZB.out
  repeat (first | with_reducible exact B0 | (refine Below.alloc ?_ (by first | omega | (simp <;> omega)) _))

set_option maxHeartbeats 4000000 in
theorem keeps_err4 (who : ByteArray) (rate burst level at_ now m k : Int) (w : World) (hs : who.size ≤ 200) (hk : (k != 0) = true) (hc : chk who.size rate burst level at_ = 0) (h1 : 0 ≤ m) (h2 : m ≤ 1099511627776) (h3 : at_ ≤ now) (h4 : 1099511627776 < now)
    (N1 : Hid (∀ w, Calls Try.prog 20 #[.agg #[.string who, .int .i64 rate, .int .i64 burst, .int .i64 level, .int .i64 at_], .int .i64 now, .int .i64 m] w fun e w' => e = .returned (.tuple #[.agg #[.string ⟨#[]⟩, .int .i64 0, .int .i64 0, .int .i64 0, .int .i64 0], .int .i64 0, .int .i64 k]) ∧ Below w.heap.size w w')) :
    Calls Try.prog 10 #[.agg #[.string who, .int .i64 rate, .int .i64 burst, .int .i64 level, .int .i64 at_], .int .i64 now, .int .i64 m] w fun e w' => e = .returned (.bool true) ∧ Below w.heap.size w w' := by
  go_enter Try.func10, Try.ntmps10
  have H1a := Has.newAt w #[.string who, .int .i64 rate, .int .i64 burst, .int .i64 level, .int .i64 at_] 23 (g := w.heap.size) (by simp)
  have B1 := Below.alloc (Below.refl w.heap.size w) ((Below.refl w.heap.size w).size) (.cells #[.string who, .int .i64 rate, .int .i64 burst, .int .i64 level, .int .i64 at_] 23)
  go_wp2_with fail
  refine (live_any _).mono ?_
  rintro e w2 ⟨rfl, hb2⟩
  have H2a := Has.below hb2 H1a
  have B2 := below_from hb2 B1 (B1.size)
  have c2a := H2a.cell
  have l2a := H2a.lt
  go_wp2_with fail
  refine (N1.out _).mono ?_
  rintro e w3 ⟨rfl, hb3⟩
  have H3a := Has.below hb3 H2a
  have B3 := below_from hb3 B2 (B2.size)
  have c3a := H3a.cell
  have l3a := H3a.lt
  have H4a := Has.alloc H3a (.cells #[.string ⟨#[]⟩, .int .i64 0, .int .i64 0, .int .i64 0, .int .i64 0] 23)
  have H4c := Has.newAt w3 #[.string ⟨#[]⟩, .int .i64 0, .int .i64 0, .int .i64 0, .int .i64 0] 23 (g := w3.heap.size) (by simp)
  have B4 := Below.alloc B3 (B3.size) (.cells #[.string ⟨#[]⟩, .int .i64 0, .int .i64 0, .int .i64 0, .int .i64 0] 23)
  have za := H4a.cell
  have zc := H4c.cell
  go_wp2_with fail
  generalize hWW : (w3.alloc (.cells #[.string ⟨#[]⟩, .int .i64 0, .int .i64 0, .int .i64 0, .int .i64 0] 23)) = W at *
  clear hWW
  have zla := H4a.lt
  have zlc := H4c.lt
  have zB := B4.size
  have ZB := Lib.hid B4
  go_wp2_with (go_at_call 16; refine (check_any _ _ _ _ _ _).mono ?_; rintro e w' ⟨rfl, rfl⟩)
  go_ret
  refine ⟨rfl, ?_⟩
  have B0 := ZB.out
  repeat (first | with_reducible exact B0 | (refine Below.alloc ?_ (by first | omega | (simp <;> omega)) _))

set_option maxHeartbeats 4000000 in
theorem keeps_err5 (who : ByteArray) (rate burst level at_ now m k : Int) (w : World) (hs : who.size ≤ 200) (hk : (k != 0) = true) (hc : chk who.size rate burst level at_ = 0) (h1 : 0 ≤ m) (h2 : m ≤ 1099511627776) (h3 : at_ ≤ now) (h4 : now ≤ 1099511627776) (h5 : (k == 2) = true)
    (N1 : Hid (∀ w, Calls Try.prog 20 #[.agg #[.string who, .int .i64 rate, .int .i64 burst, .int .i64 level, .int .i64 at_], .int .i64 now, .int .i64 m] w fun e w' => e = .returned (.tuple #[.agg #[.string ⟨#[]⟩, .int .i64 0, .int .i64 0, .int .i64 0, .int .i64 0], .int .i64 0, .int .i64 k]) ∧ Below w.heap.size w w')) :
    Calls Try.prog 10 #[.agg #[.string who, .int .i64 rate, .int .i64 burst, .int .i64 level, .int .i64 at_], .int .i64 now, .int .i64 m] w fun e w' => e = .returned (.bool true) ∧ Below w.heap.size w w' := by
  go_enter Try.func10, Try.ntmps10
  have H1a := Has.newAt w #[.string who, .int .i64 rate, .int .i64 burst, .int .i64 level, .int .i64 at_] 23 (g := w.heap.size) (by simp)
  have B1 := Below.alloc (Below.refl w.heap.size w) ((Below.refl w.heap.size w).size) (.cells #[.string who, .int .i64 rate, .int .i64 burst, .int .i64 level, .int .i64 at_] 23)
  go_wp2_with fail
  refine (live_any _).mono ?_
  rintro e w2 ⟨rfl, hb2⟩
  have H2a := Has.below hb2 H1a
  have B2 := below_from hb2 B1 (B1.size)
  have c2a := H2a.cell
  have l2a := H2a.lt
  go_wp2_with fail
  refine (N1.out _).mono ?_
  rintro e w3 ⟨rfl, hb3⟩
  have H3a := Has.below hb3 H2a
  have B3 := below_from hb3 B2 (B2.size)
  have c3a := H3a.cell
  have l3a := H3a.lt
  have H4a := Has.alloc H3a (.cells #[.string ⟨#[]⟩, .int .i64 0, .int .i64 0, .int .i64 0, .int .i64 0] 23)
  have H4c := Has.newAt w3 #[.string ⟨#[]⟩, .int .i64 0, .int .i64 0, .int .i64 0, .int .i64 0] 23 (g := w3.heap.size) (by simp)
  have B4 := Below.alloc B3 (B3.size) (.cells #[.string ⟨#[]⟩, .int .i64 0, .int .i64 0, .int .i64 0, .int .i64 0] 23)
  have za := H4a.cell
  have zc := H4c.cell
  go_wp2_with fail
  generalize hWW : (w3.alloc (.cells #[.string ⟨#[]⟩, .int .i64 0, .int .i64 0, .int .i64 0, .int .i64 0] 23)) = W at *
  clear hWW
  have zla := H4a.lt
  have zlc := H4c.lt
  have zB := B4.size
  have ZB := Lib.hid B4
  go_wp2_with (go_at_call 16; refine (check_any _ _ _ _ _ _).mono ?_; rintro e w' ⟨rfl, rfl⟩)
  go_ret
  refine ⟨rfl, ?_⟩
  have B0 := ZB.out
  repeat (first | with_reducible exact B0 | (refine Below.alloc ?_ (by first | omega | (simp <;> omega)) _))

set_option maxHeartbeats 4000000 in
theorem keeps_yes (who : ByteArray) (rate burst level at_ now m L wt : Int) (w : World) (hs : who.size ≤ 200) (hc : chk who.size rate burst L now = 0) (hL : L ≤ burst - m) (hb0 : 1 ≤ burst) (hb : burst ≤ 1048576) (hm0 : 0 ≤ m) (hm : m ≤ 1099511627776)
    (N1 : Hid (∀ w, Calls Try.prog 20 #[.agg #[.string who, .int .i64 rate, .int .i64 burst, .int .i64 level, .int .i64 at_], .int .i64 now, .int .i64 m] w fun e w' => e = .returned (.tuple #[.agg #[.string who, .int .i64 rate, .int .i64 burst, .int .i64 L, .int .i64 now], .int .i64 wt, .int .i64 0]) ∧ Below w.heap.size w w')) :
    Calls Try.prog 10 #[.agg #[.string who, .int .i64 rate, .int .i64 burst, .int .i64 level, .int .i64 at_], .int .i64 now, .int .i64 m] w fun e w' => e = .returned (.bool true) ∧ Below w.heap.size w w' := by
  go_enter Try.func10, Try.ntmps10
  have H1a := Has.newAt w #[.string who, .int .i64 rate, .int .i64 burst, .int .i64 level, .int .i64 at_] 23 (g := w.heap.size) (by simp)
  have B1 := Below.alloc (Below.refl w.heap.size w) ((Below.refl w.heap.size w).size) (.cells #[.string who, .int .i64 rate, .int .i64 burst, .int .i64 level, .int .i64 at_] 23)
  go_wp2_with fail
  refine (live_any _).mono ?_
  rintro e w2 ⟨rfl, hb2⟩
  have H2a := Has.below hb2 H1a
  have B2 := below_from hb2 B1 (B1.size)
  have c2a := H2a.cell
  have l2a := H2a.lt
  go_wp2_with fail
  refine (N1.out _).mono ?_
  rintro e w3 ⟨rfl, hb3⟩
  have H3a := Has.below hb3 H2a
  have B3 := below_from hb3 B2 (B2.size)
  have c3a := H3a.cell
  have l3a := H3a.lt
  have H4a := Has.alloc H3a (.cells #[.string who, .int .i64 rate, .int .i64 burst, .int .i64 L, .int .i64 now] 23)
  have H4c := Has.newAt w3 #[.string who, .int .i64 rate, .int .i64 burst, .int .i64 L, .int .i64 now] 23 (g := w3.heap.size) (by simp)
  have B4 := Below.alloc B3 (B3.size) (.cells #[.string who, .int .i64 rate, .int .i64 burst, .int .i64 L, .int .i64 now] 23)
  have za := H4a.cell
  have zc := H4c.cell
  go_wp2_with fail
  generalize hWW : (w3.alloc (.cells #[.string who, .int .i64 rate, .int .i64 burst, .int .i64 L, .int .i64 now] 23)) = W at *
  clear hWW
  have zla := H4a.lt
  have zlc := H4c.lt
  have zB := B4.size
  have ZB := Lib.hid B4
  go_wp2_with (go_at_call 16; refine (check_any _ _ _ _ _ _).mono ?_; rintro e w' ⟨rfl, rfl⟩)
  go_ret
  refine ⟨rfl, ?_⟩
  have B0 := ZB.out
  repeat (first | with_reducible exact B0 | (refine Below.alloc ?_ (by first | omega | (simp <;> omega)) _))

theorem keeps_any (who : ByteArray) (rate burst level at_ now m : Int) (w : World) :
    Calls Try.prog 10 #[.agg #[.string who, .int .i64 rate, .int .i64 burst, .int .i64 level, .int .i64 at_], .int .i64 now, .int .i64 m] w fun e w' => e = .returned (.bool true) ∧ Below w.heap.size w w' := by
  by_cases hs : who.size ≤ 200
  · rcases takeE_cases who.size rate burst level at_ now m with ⟨c0, e1⟩ | ⟨c0, c1, e1⟩ | ⟨c0, c1, c2, c3, e1⟩ | ⟨c0, c1, c2, c3, c4, e1⟩ | ⟨c0, c1, c2, c3, c4, c5, e1⟩ | ⟨c0, c1, c2, c3, c4, c5, e1⟩
    · have n1 := fun w => take_err who rate burst level at_ now m w (by omega)
      exact keeps_err0 who rate burst level at_ now m _ w hs (by rw [e1]; decide) (by simp [chk, c0]) n1
    · have n1 := fun w => take_err who rate burst level at_ now m w (by omega)
      rcases (show m < 0 ∨ (0 ≤ m ∧ 1099511627776 < m) by omega) with h1 | ⟨h1, h2⟩
      · exact keeps_err1 who rate burst level at_ now m _ w hs (by rw [e1]; decide) (by simp [chk, c0]) h1 n1
      · exact keeps_err2 who rate burst level at_ now m _ w hs (by rw [e1]; decide) (by simp [chk, c0]) h1 h2 n1
    · have n1 := fun w => take_err who rate burst level at_ now m w (by omega)
      have g8 := (okB_parts c0).2.2.2.2.2.2.2.2
      exact keeps_err4 who rate burst level at_ now m _ w hs (by rw [e1]; decide) (by simp [chk, c0]) c1 c2 (by omega) c3 n1
    · have n1 := fun w => take_err who rate burst level at_ now m w (by omega)
      exact keeps_err3 who rate burst level at_ now m _ w hs (by rw [e1]; decide) (by simp [chk, c0]) c1 c2 c4 n1
    · have n1 := fun w => take_err who rate burst level at_ now m w (by omega)
      exact keeps_err5 who rate burst level at_ now m _ w hs (by rw [e1]; decide) (by simp [chk, c0]) c1 c2 c4 c3 (by rw [e1]; decide) n1
    · have n1 := fun w => take_in who rate burst level at_ now m w c0 c1 c2 c3 c4 c5
      obtain ⟨g0, g1, g2, g3, g4, g5, g6, g7, g8⟩ := okB_parts c0
      have hle := fillL_le rate burst level at_ now
      exact keeps_yes who rate burst level at_ now m _ _ w hs (by simp [chk, take_ok e1]) (by unfold takeL; omega) g3 g4 c1 c2 n1
  · exact keeps_big who rate burst level at_ now m w (by omega)

end Go.Proofs.Ythmnojlenaddeaa
