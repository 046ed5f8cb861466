/- QuotaPieces of layer 20: the walk. -/
import Derived.Test.YthmnojlenaddeaaMoved
namespace Go.Proofs.Ythmnojlenaddeaa
open Go.RowKit Q

theorem pieces_big0 (who : ByteArray) (rate burst level at_ now n m : Int) (w : World) (hs : 200 < who.size) :
    Calls Try.prog 8 #[.agg #[.string who, .int .i64 rate, .int .i64 burst, .int .i64 level, .int .i64 at_], .int .i64 now, .int .i64 n, .int .i64 m] w fun e w' => e = .returned (.bool true) ∧ Below w.heap.size w w' := by
  go_enter Try.func8, Try.ntmps8
  have H1a := Has.newAt w #[.string who, .int .i64 rate, .int .i64 burst, .int .i64 level, .int .i64 at_] 23 (g := w.heap.size) (by simp)
  have B1 := Below.alloc (Below.refl w.heap.size w) ((Below.refl w.heap.size w).size) (.cells #[.string who, .int .i64 rate, .int .i64 burst, .int .i64 level, .int .i64 at_] 23)
  go_wp2_with fail
  refine (live_any _).mono ?_
  rintro e w2 ⟨rfl, hb2⟩
  have H2a := Has.below hb2 H1a
  have B2 := below_from hb2 B1 (B1.size)
  have c2a := H2a.cell
  have l2a := H2a.lt
  go_wp2_with fail
  go_ret
  exact ⟨rfl, B2⟩

theorem pieces_big1 (who : ByteArray) (rate burst level at_ now n m : Int) (w : World) (hs : who.size ≤ 200) (h1 : n < 0) :
    Calls Try.prog 8 #[.agg #[.string who, .int .i64 rate, .int .i64 burst, .int .i64 level, .int .i64 at_], .int .i64 now, .int .i64 n, .int .i64 m] w fun e w' => e = .returned (.bool true) ∧ Below w.heap.size w w' := by
  go_enter Try.func8, Try.ntmps8
  have H1a := Has.newAt w #[.string who, .int .i64 rate, .int .i64 burst, .int .i64 level, .int .i64 at_] 23 (g := w.heap.size) (by simp)
  have B1 := Below.alloc (Below.refl w.heap.size w) ((Below.refl w.heap.size w).size) (.cells #[.string who, .int .i64 rate, .int .i64 burst, .int .i64 level, .int .i64 at_] 23)
  go_wp2_with fail
  refine (live_any _).mono ?_
  rintro e w2 ⟨rfl, hb2⟩
  have H2a := Has.below hb2 H1a
  have B2 := below_from hb2 B1 (B1.size)
  have c2a := H2a.cell
  have l2a := H2a.lt
  go_wp2_with fail
  go_ret
  exact ⟨rfl, B2⟩

theorem pieces_big2 (who : ByteArray) (rate burst level at_ now n m : Int) (w : World) (hs : who.size ≤ 200) (h1 : 0 ≤ n) (h2 : m < 0) :
    Calls Try.prog 8 #[.agg #[.string who, .int .i64 rate, .int .i64 burst, .int .i64 level, .int .i64 at_], .int .i64 now, .int .i64 n, .int .i64 m] w fun e w' => e = .returned (.bool true) ∧ Below w.heap.size w w' := by
  go_enter Try.func8, Try.ntmps8
  have H1a := Has.newAt w #[.string who, .int .i64 rate, .int .i64 burst, .int .i64 level, .int .i64 at_] 23 (g := w.heap.size) (by simp)
  have B1 := Below.alloc (Below.refl w.heap.size w) ((Below.refl w.heap.size w).size) (.cells #[.string who, .int .i64 rate, .int .i64 burst, .int .i64 level, .int .i64 at_] 23)
  go_wp2_with fail
  refine (live_any _).mono ?_
  rintro e w2 ⟨rfl, hb2⟩
  have H2a := Has.below hb2 H1a
  have B2 := below_from hb2 B1 (B1.size)
  have c2a := H2a.cell
  have l2a := H2a.lt
  go_wp2_with fail
  go_ret
  exact ⟨rfl, B2⟩

theorem pieces_big3 (who : ByteArray) (rate burst level at_ now n m : Int) (w : World) (hs : who.size ≤ 200) (h1 : 0 ≤ n) (h2 : 0 ≤ m) (h3 : 1099511627776 < n) :
    Calls Try.prog 8 #[.agg #[.string who, .int .i64 rate, .int .i64 burst, .int .i64 level, .int .i64 at_], .int .i64 now, .int .i64 n, .int .i64 m] w fun e w' => e = .returned (.bool true) ∧ Below w.heap.size w w' := by
  go_enter Try.func8, Try.ntmps8
  have H1a := Has.newAt w #[.string who, .int .i64 rate, .int .i64 burst, .int .i64 level, .int .i64 at_] 23 (g := w.heap.size) (by simp)
  have B1 := Below.alloc (Below.refl w.heap.size w) ((Below.refl w.heap.size w).size) (.cells #[.string who, .int .i64 rate, .int .i64 burst, .int .i64 level, .int .i64 at_] 23)
  go_wp2_with fail
  refine (live_any _).mono ?_
  rintro e w2 ⟨rfl, hb2⟩
  have H2a := Has.below hb2 H1a
  have B2 := below_from hb2 B1 (B1.size)
  have c2a := H2a.cell
  have l2a := H2a.lt
  go_wp2_with fail
  go_ret
  exact ⟨rfl, B2⟩

theorem pieces_big4 (who : ByteArray) (rate burst level at_ now n m : Int) (w : World) (hs : who.size ≤ 200) (h1 : 0 ≤ n) (h2 : 0 ≤ m) (h3 : n ≤ 1099511627776) (h4 : 1099511627776 - n < m) :
    Calls Try.prog 8 #[.agg #[.string who, .int .i64 rate, .int .i64 burst, .int .i64 level, .int .i64 at_], .int .i64 now, .int .i64 n, .int .i64 m] w fun e w' => e = .returned (.bool true) ∧ Below w.heap.size w w' := by
  go_enter Try.func8, Try.ntmps8
  have H1a := Has.newAt w #[.string who, .int .i64 rate, .int .i64 burst, .int .i64 level, .int .i64 at_] 23 (g := w.heap.size) (by simp)
  have B1 := Below.alloc (Below.refl w.heap.size w) ((Below.refl w.heap.size w).size) (.cells #[.string who, .int .i64 rate, .int .i64 burst, .int .i64 level, .int .i64 at_] 23)
  go_wp2_with fail
  refine (live_any _).mono ?_
  rintro e w2 ⟨rfl, hb2⟩
  have H2a := Has.below hb2 H1a
  have B2 := below_from hb2 B1 (B1.size)
  have c2a := H2a.cell
  have l2a := H2a.lt
  go_wp2_with fail
  go_ret
  exact ⟨rfl, B2⟩

set_option maxHeartbeats 4000000 in
theorem pieces_err (who : ByteArray) (rate burst level at_ now n m k k' : Int) (w : World) (hs : who.size ≤ 200) (h1 : 0 ≤ n) (h2 : 0 ≤ m) (h3 : n ≤ 1099511627776) (h4 : m ≤ 1099511627776 - n) (hk : (k != 0) = true)
    (N1 : Hid (∀ w, Calls Try.prog 20 #[.agg #[.string who, .int .i64 rate, .int .i64 burst, .int .i64 level, .int .i64 at_], .int .i64 now, .int .i64 n] w fun e w' => e = .returned (.tuple #[.agg #[.string ⟨#[]⟩, .int .i64 0, .int .i64 0, .int .i64 0, .int .i64 0], .int .i64 0, .int .i64 k]) ∧ Below w.heap.size w w')) (N2 : Hid (∀ w, Calls Try.prog 20 #[.agg #[.string ⟨#[]⟩, .int .i64 0, .int .i64 0, .int .i64 0, .int .i64 0], .int .i64 now, .int .i64 m] w fun e w' => e = .returned (.tuple #[.agg #[.string ⟨#[]⟩, .int .i64 0, .int .i64 0, .int .i64 0, .int .i64 0], .int .i64 0, .int .i64 k']) ∧ Below w.heap.size w w')) (N3 : Hid (∀ w, Calls Try.prog 20 #[.agg #[.string who, .int .i64 rate, .int .i64 burst, .int .i64 level, .int .i64 at_], .int .i64 now, .int .i64 (n + m)] w fun e w' => e = .returned (.tuple #[.agg #[.string ⟨#[]⟩, .int .i64 0, .int .i64 0, .int .i64 0, .int .i64 0], .int .i64 0, .int .i64 k]) ∧ Below w.heap.size w w')) :
    Calls Try.prog 8 #[.agg #[.string who, .int .i64 rate, .int .i64 burst, .int .i64 level, .int .i64 at_], .int .i64 now, .int .i64 n, .int .i64 m] w fun e w' => e = .returned (.bool true) ∧ Below w.heap.size w w' := by
  go_enter Try.func8, Try.ntmps8
  have H1a := Has.newAt w #[.string who, .int .i64 rate, .int .i64 burst, .int .i64 level, .int .i64 at_] 23 (g := w.heap.size) (by simp)
  have B1 := Below.alloc (Below.refl w.heap.size w) ((Below.refl w.heap.size w).size) (.cells #[.string who, .int .i64 rate, .int .i64 burst, .int .i64 level, .int .i64 at_] 23)
  go_wp2_with fail
  refine (live_any _).mono ?_
  rintro e w2 ⟨rfl, hb2⟩
  have H2a := Has.below hb2 H1a
  have B2 := below_from hb2 B1 (B1.size)
  have c2a := H2a.cell
  have l2a := H2a.lt
  go_wp2_with fail
  refine (N1.out _).mono ?_
  rintro e w3 ⟨rfl, hb3⟩
  have H3a := Has.below hb3 H2a
  have B3 := below_from hb3 B2 (B2.size)
  have c3a := H3a.cell
  have l3a := H3a.lt
  have H4a := Has.alloc H3a (.cells #[.string ⟨#[]⟩, .int .i64 0, .int .i64 0, .int .i64 0, .int .i64 0] 23)
  have H4c := Has.newAt w3 #[.string ⟨#[]⟩, .int .i64 0, .int .i64 0, .int .i64 0, .int .i64 0] 23 (g := w3.heap.size) (by simp)
  have B4 := Below.alloc B3 (B3.size) (.cells #[.string ⟨#[]⟩, .int .i64 0, .int .i64 0, .int .i64 0, .int .i64 0] 23)
  have zz4a := H4a.cell
  have zz4c := H4c.cell
  go_wp2_with fail
  refine (N2.out _).mono ?_
  rintro e w5 ⟨rfl, hb5⟩
  have H5a := Has.below hb5 H4a
  have H5c := Has.below hb5 H4c
  have B5 := below_from hb5 B4 (B4.size)
  have c5a := H5a.cell
  have l5a := H5a.lt
  have c5c := H5c.cell
  have l5c := H5c.lt
  have H6a := Has.alloc H5a (.cells #[.string ⟨#[]⟩, .int .i64 0, .int .i64 0, .int .i64 0, .int .i64 0] 23)
  have H6c := Has.alloc H5c (.cells #[.string ⟨#[]⟩, .int .i64 0, .int .i64 0, .int .i64 0, .int .i64 0] 23)
  have H6d := Has.newAt w5 #[.string ⟨#[]⟩, .int .i64 0, .int .i64 0, .int .i64 0, .int .i64 0] 23 (g := w5.heap.size) (by simp)
  have B6 := Below.alloc B5 (B5.size) (.cells #[.string ⟨#[]⟩, .int .i64 0, .int .i64 0, .int .i64 0, .int .i64 0] 23)
  have zz6a := H6a.cell
  have zz6c := H6c.cell
  have zz6d := H6d.cell
  go_wp2_with fail
  refine (N3.out _).mono ?_
  rintro e w7 ⟨rfl, hb7⟩
  have H7a := Has.below hb7 H6a
  have H7c := Has.below hb7 H6c
  have H7d := Has.below hb7 H6d
  have B7 := below_from hb7 B6 (B6.size)
  have c7a := H7a.cell
  have l7a := H7a.lt
  have c7c := H7c.cell
  have l7c := H7c.lt
  have c7d := H7d.cell
  have l7d := H7d.lt
  have H8a := Has.alloc H7a (.cells #[.string ⟨#[]⟩, .int .i64 0, .int .i64 0, .int .i64 0, .int .i64 0] 23)
  have H8c := Has.alloc H7c (.cells #[.string ⟨#[]⟩, .int .i64 0, .int .i64 0, .int .i64 0, .int .i64 0] 23)
  have H8d := Has.alloc H7d (.cells #[.string ⟨#[]⟩, .int .i64 0, .int .i64 0, .int .i64 0, .int .i64 0] 23)
  have H8e := Has.newAt w7 #[.string ⟨#[]⟩, .int .i64 0, .int .i64 0, .int .i64 0, .int .i64 0] 23 (g := w7.heap.size) (by simp)
  have B8 := Below.alloc B7 (B7.size) (.cells #[.string ⟨#[]⟩, .int .i64 0, .int .i64 0, .int .i64 0, .int .i64 0] 23)
  have za := H8a.cell
  have zc := H8c.cell
  have zd := H8d.cell
  have ze := H8e.cell
  go_wp2_with fail
  go_ret
  exact ⟨rfl, B8⟩

set_option maxHeartbeats 4000000 in
theorem pieces_bound (who : ByteArray) (rate burst level at_ now n m k L1 t1 : Int) (w : World) (hs : who.size ≤ 200) (h1 : 0 ≤ n) (h2 : 0 ≤ m) (h3 : n ≤ 1099511627776) (h4 : m ≤ 1099511627776 - n) (hk : (k != 0) = true) (hk' : (k == 0) = false)
    (N1 : Hid (∀ w, Calls Try.prog 20 #[.agg #[.string who, .int .i64 rate, .int .i64 burst, .int .i64 level, .int .i64 at_], .int .i64 now, .int .i64 n] w fun e w' => e = .returned (.tuple #[.agg #[.string who, .int .i64 rate, .int .i64 burst, .int .i64 L1, .int .i64 now], .int .i64 t1, .int .i64 0]) ∧ Below w.heap.size w w')) (N2 : Hid (∀ w, Calls Try.prog 20 #[.agg #[.string who, .int .i64 rate, .int .i64 burst, .int .i64 L1, .int .i64 now], .int .i64 now, .int .i64 m] w fun e w' => e = .returned (.tuple #[.agg #[.string ⟨#[]⟩, .int .i64 0, .int .i64 0, .int .i64 0, .int .i64 0], .int .i64 0, .int .i64 k]) ∧ Below w.heap.size w w')) (N3 : Hid (∀ w, Calls Try.prog 20 #[.agg #[.string who, .int .i64 rate, .int .i64 burst, .int .i64 level, .int .i64 at_], .int .i64 now, .int .i64 (n + m)] w fun e w' => e = .returned (.tuple #[.agg #[.string ⟨#[]⟩, .int .i64 0, .int .i64 0, .int .i64 0, .int .i64 0], .int .i64 0, .int .i64 k]) ∧ Below w.heap.size w w')) :
    Calls Try.prog 8 #[.agg #[.string who, .int .i64 rate, .int .i64 burst, .int .i64 level, .int .i64 at_], .int .i64 now, .int .i64 n, .int .i64 m] w fun e w' => e = .returned (.bool true) ∧ Below w.heap.size w w' := by
  go_enter Try.func8, Try.ntmps8
  have H1a := Has.newAt w #[.string who, .int .i64 rate, .int .i64 burst, .int .i64 level, .int .i64 at_] 23 (g := w.heap.size) (by simp)
  have B1 := Below.alloc (Below.refl w.heap.size w) ((Below.refl w.heap.size w).size) (.cells #[.string who, .int .i64 rate, .int .i64 burst, .int .i64 level, .int .i64 at_] 23)
  go_wp2_with fail
  refine (live_any _).mono ?_
  rintro e w2 ⟨rfl, hb2⟩
  have H2a := Has.below hb2 H1a
  have B2 := below_from hb2 B1 (B1.size)
  have c2a := H2a.cell
  have l2a := H2a.lt
  go_wp2_with fail
  refine (N1.out _).mono ?_
  rintro e w3 ⟨rfl, hb3⟩
  have H3a := Has.below hb3 H2a
  have B3 := below_from hb3 B2 (B2.size)
  have c3a := H3a.cell
  have l3a := H3a.lt
  have H4a := Has.alloc H3a (.cells #[.string who, .int .i64 rate, .int .i64 burst, .int .i64 L1, .int .i64 now] 23)
  have H4c := Has.newAt w3 #[.string who, .int .i64 rate, .int .i64 burst, .int .i64 L1, .int .i64 now] 23 (g := w3.heap.size) (by simp)
  have B4 := Below.alloc B3 (B3.size) (.cells #[.string who, .int .i64 rate, .int .i64 burst, .int .i64 L1, .int .i64 now] 23)
  have zz4a := H4a.cell
  have zz4c := H4c.cell
  go_wp2_with fail
  refine (N2.out _).mono ?_
  rintro e w5 ⟨rfl, hb5⟩
  have H5a := Has.below hb5 H4a
  have H5c := Has.below hb5 H4c
  have B5 := below_from hb5 B4 (B4.size)
  have c5a := H5a.cell
  have l5a := H5a.lt
  have c5c := H5c.cell
  have l5c := H5c.lt
  have H6a := Has.alloc H5a (.cells #[.string ⟨#[]⟩, .int .i64 0, .int .i64 0, .int .i64 0, .int .i64 0] 23)
  have H6c := Has.alloc H5c (.cells #[.string ⟨#[]⟩, .int .i64 0, .int .i64 0, .int .i64 0, .int .i64 0] 23)
  have H6d := Has.newAt w5 #[.string ⟨#[]⟩, .int .i64 0, .int .i64 0, .int .i64 0, .int .i64 0] 23 (g := w5.heap.size) (by simp)
  have B6 := Below.alloc B5 (B5.size) (.cells #[.string ⟨#[]⟩, .int .i64 0, .int .i64 0, .int .i64 0, .int .i64 0] 23)
  have zz6a := H6a.cell
  have zz6c := H6c.cell
  have zz6d := H6d.cell
  go_wp2_with fail
  refine (N3.out _).mono ?_
  rintro e w7 ⟨rfl, hb7⟩
  have H7a := Has.below hb7 H6a
  have H7c := Has.below hb7 H6c
  have H7d := Has.below hb7 H6d
  have B7 := below_from hb7 B6 (B6.size)
  have c7a := H7a.cell
  have l7a := H7a.lt
  have c7c := H7c.cell
  have l7c := H7c.lt
  have c7d := H7d.cell
  have l7d := H7d.lt
  have H8a := Has.alloc H7a (.cells #[.string ⟨#[]⟩, .int .i64 0, .int .i64 0, .int .i64 0, .int .i64 0] 23)
  have H8c := Has.alloc H7c (.cells #[.string ⟨#[]⟩, .int .i64 0, .int .i64 0, .int .i64 0, .int .i64 0] 23)
  have H8d := Has.alloc H7d (.cells #[.string ⟨#[]⟩, .int .i64 0, .int .i64 0, .int .i64 0, .int .i64 0] 23)
  have H8e := Has.newAt w7 #[.string ⟨#[]⟩, .int .i64 0, .int .i64 0, .int .i64 0, .int .i64 0] 23 (g := w7.heap.size) (by simp)
  have B8 := Below.alloc B7 (B7.size) (.cells #[.string ⟨#[]⟩, .int .i64 0, .int .i64 0, .int .i64 0, .int .i64 0] 23)
  have za := H8a.cell
  have zc := H8c.cell
  have zd := H8d.cell
  have ze := H8e.cell
  go_wp2_with fail
  go_ret
  exact ⟨rfl, B8⟩

set_option maxHeartbeats 4000000 in
theorem pieces_yes (who : ByteArray) (rate burst level at_ now n m L1 t1 L2 t2 : Int) (w : World) (hs : who.size ≤ 200) (h1 : 0 ≤ n) (h2 : 0 ≤ m) (h3 : n ≤ 1099511627776) (h4 : m ≤ 1099511627776 - n) (ht : t1 ≤ t2)
    (N1 : Hid (∀ w, Calls Try.prog 20 #[.agg #[.string who, .int .i64 rate, .int .i64 burst, .int .i64 level, .int .i64 at_], .int .i64 now, .int .i64 n] w fun e w' => e = .returned (.tuple #[.agg #[.string who, .int .i64 rate, .int .i64 burst, .int .i64 L1, .int .i64 now], .int .i64 t1, .int .i64 0]) ∧ Below w.heap.size w w')) (N2 : Hid (∀ w, Calls Try.prog 20 #[.agg #[.string who, .int .i64 rate, .int .i64 burst, .int .i64 L1, .int .i64 now], .int .i64 now, .int .i64 m] w fun e w' => e = .returned (.tuple #[.agg #[.string who, .int .i64 rate, .int .i64 burst, .int .i64 L2, .int .i64 now], .int .i64 t2, .int .i64 0]) ∧ Below w.heap.size w w')) (N3 : Hid (∀ w, Calls Try.prog 20 #[.agg #[.string who, .int .i64 rate, .int .i64 burst, .int .i64 level, .int .i64 at_], .int .i64 now, .int .i64 (n + m)] w fun e w' => e = .returned (.tuple #[.agg #[.string who, .int .i64 rate, .int .i64 burst, .int .i64 L2, .int .i64 now], .int .i64 t2, .int .i64 0]) ∧ Below w.heap.size w w')) :
    Calls Try.prog 8 #[.agg #[.string who, .int .i64 rate, .int .i64 burst, .int .i64 level, .int .i64 at_], .int .i64 now, .int .i64 n, .int .i64 m] w fun e w' => e = .returned (.bool true) ∧ Below w.heap.size w w' := by
  go_enter Try.func8, Try.ntmps8
  have H1a := Has.newAt w #[.string who, .int .i64 rate, .int .i64 burst, .int .i64 level, .int .i64 at_] 23 (g := w.heap.size) (by simp)
  have B1 := Below.alloc (Below.refl w.heap.size w) ((Below.refl w.heap.size w).size) (.cells #[.string who, .int .i64 rate, .int .i64 burst, .int .i64 level, .int .i64 at_] 23)
  go_wp2_with fail
  refine (live_any _).mono ?_
  rintro e w2 ⟨rfl, hb2⟩
  have H2a := Has.below hb2 H1a
  have B2 := below_from hb2 B1 (B1.size)
  have c2a := H2a.cell
  have l2a := H2a.lt
  go_wp2_with fail
  refine (N1.out _).mono ?_
  rintro e w3 ⟨rfl, hb3⟩
  have H3a := Has.below hb3 H2a
  have B3 := below_from hb3 B2 (B2.size)
  have c3a := H3a.cell
  have l3a := H3a.lt
  have H4a := Has.alloc H3a (.cells #[.string who, .int .i64 rate, .int .i64 burst, .int .i64 L1, .int .i64 now] 23)
  have H4c := Has.newAt w3 #[.string who, .int .i64 rate, .int .i64 burst, .int .i64 L1, .int .i64 now] 23 (g := w3.heap.size) (by simp)
  have B4 := Below.alloc B3 (B3.size) (.cells #[.string who, .int .i64 rate, .int .i64 burst, .int .i64 L1, .int .i64 now] 23)
  have zz4a := H4a.cell
  have zz4c := H4c.cell
  go_wp2_with fail
  refine (N2.out _).mono ?_
  rintro e w5 ⟨rfl, hb5⟩
  have H5a := Has.below hb5 H4a
  have H5c := Has.below hb5 H4c
  have B5 := below_from hb5 B4 (B4.size)
  have c5a := H5a.cell
  have l5a := H5a.lt
  have c5c := H5c.cell
  have l5c := H5c.lt
  have H6a := Has.alloc H5a (.cells #[.string who, .int .i64 rate, .int .i64 burst, .int .i64 L2, .int .i64 now] 23)
  have H6c := Has.alloc H5c (.cells #[.string who, .int .i64 rate, .int .i64 burst, .int .i64 L2, .int .i64 now] 23)
  have H6d := Has.newAt w5 #[.string who, .int .i64 rate, .int .i64 burst, .int .i64 L2, .int .i64 now] 23 (g := w5.heap.size) (by simp)
  have B6 := Below.alloc B5 (B5.size) (.cells #[.string who, .int .i64 rate, .int .i64 burst, .int .i64 L2, .int .i64 now] 23)
  have zz6a := H6a.cell
  have zz6c := H6c.cell
  have zz6d := H6d.cell
  go_wp2_with fail
  refine (N3.out _).mono ?_
  rintro e w7 ⟨rfl, hb7⟩
  have H7a := Has.below hb7 H6a
  have H7c := Has.below hb7 H6c
  have H7d := Has.below hb7 H6d
  have B7 := below_from hb7 B6 (B6.size)
  have c7a := H7a.cell
  have l7a := H7a.lt
  have c7c := H7c.cell
  have l7c := H7c.lt
  have c7d := H7d.cell
  have l7d := H7d.lt
  have H8a := Has.alloc H7a (.cells #[.string who, .int .i64 rate, .int .i64 burst, .int .i64 L2, .int .i64 now] 23)
  have H8c := Has.alloc H7c (.cells #[.string who, .int .i64 rate, .int .i64 burst, .int .i64 L2, .int .i64 now] 23)
  have H8d := Has.alloc H7d (.cells #[.string who, .int .i64 rate, .int .i64 burst, .int .i64 L2, .int .i64 now] 23)
  have H8e := Has.newAt w7 #[.string who, .int .i64 rate, .int .i64 burst, .int .i64 L2, .int .i64 now] 23 (g := w7.heap.size) (by simp)
  have B8 := Below.alloc B7 (B7.size) (.cells #[.string who, .int .i64 rate, .int .i64 burst, .int .i64 L2, .int .i64 now] 23)
  have za := H8a.cell
  have zc := H8c.cell
  have zd := H8d.cell
  have ze := H8e.cell
  go_wp2_with fail
  go_ret
  exact ⟨rfl, B8⟩

theorem pieces_any (who : ByteArray) (rate burst level at_ now n m : Int) (w : World) :
    Calls Try.prog 8 #[.agg #[.string who, .int .i64 rate, .int .i64 burst, .int .i64 level, .int .i64 at_], .int .i64 now, .int .i64 n, .int .i64 m] w fun e w' => e = .returned (.bool true) ∧ Below w.heap.size w w' := by
  by_cases hs : who.size ≤ 200
  · by_cases h1 : 0 ≤ n
    · by_cases h2 : 0 ≤ m
      · by_cases h3 : n ≤ 1099511627776
        · by_cases h4 : m ≤ 1099511627776 - n
          · rcases takeE_cases who.size rate burst level at_ now n with ⟨c0, e1⟩ | ⟨c0, c1, e1⟩ | ⟨c0, c1, c2, c3, e1⟩ | ⟨c0, c1, c2, c3, c4, e1⟩ | ⟨c0, c1, c2, c3, c4, c5, e1⟩ | ⟨c0, c1, c2, c3, c4, c5, e1⟩
            all_goals try
              (have hz : takeE 0 0 0 0 0 now m = 1 := by
                rcases takeE_cases 0 0 0 0 0 now m with ⟨d0, f1⟩ | ⟨d0, d1, f1⟩ | ⟨d0, d1, d2, d3, f1⟩ | ⟨d0, d1, d2, d3, d4, f1⟩ | ⟨d0, d1, d2, d3, d4, d5, f1⟩ | ⟨d0, d1, d2, d3, d4, d5, f1⟩ <;> first | exact f1 | (exact absurd d0 (by decide))
               have e2 : takeE who.size rate burst level at_ now (n + m) = takeE who.size rate burst level at_ now n := by
                rcases takeE_cases who.size rate burst level at_ now (n + m) with ⟨d0, f1⟩ | ⟨d0, d1, f1⟩ | ⟨d0, d1, d2, d3, f1⟩ | ⟨d0, d1, d2, d3, d4, f1⟩ | ⟨d0, d1, d2, d3, d4, d5, f1⟩ | ⟨d0, d1, d2, d3, d4, d5, f1⟩ <;> first | omega | (rw [c0] at d0; cases d0)
               have n1 := fun w => take_err who rate burst level at_ now n w (by omega)
               have n2 := fun w => take_err ⟨#[]⟩ 0 0 0 0 now m w (by show takeE 0 0 0 0 0 now m ≠ 0; omega)
               have n3 := fun w => take_err who rate burst level at_ now (n + m) w (by omega)
               rw [e2] at n3
               exact pieces_err who rate burst level at_ now n m _ _ w hs h1 h2 h3 h4 (by rw [e1]; decide) n1 n2 n3)
            have hx := take_ok e1
            have n1 := fun w => take_in who rate burst level at_ now n w c0 c1 c2 c3 c4 c5
            obtain ⟨g0, g1, g2, g3, g4, g5, g6, g7, g8⟩ := okB_parts c0
            have hp := take_pieces (rate := rate) (burst := burst) (level := level) (at_ := at_) (now := now) (m := m) h1
            have hle := fillL_le rate burst level at_ now
            have hf := fill_now rate burst (takeL rate burst level at_ now n) now (by unfold takeL; omega)
            by_cases hl : fillL rate burst level at_ now - (n + m) < -1099511627776
            · have k2 : takeE who.size rate burst (takeL rate burst level at_ now n) now now m = 2 := by
                unfold takeE
                rw [if_pos hx, if_pos ⟨h2, by omega⟩, fillE_zero hx c3 (Int.le_refl _), hf, if_pos rfl, if_pos (by unfold takeL; omega)]
              have k3 : takeE who.size rate burst level at_ now (n + m) = 2 := by
                unfold takeE
                rw [if_pos c0, if_pos ⟨by omega, by omega⟩, fillE_zero c0 c3 c4, if_pos rfl, if_pos hl]
              have n2 := fun w => take_err who rate burst (takeL rate burst level at_ now n) now now m w (by omega)
              have n3 := fun w => take_err who rate burst level at_ now (n + m) w (by omega)
              rw [k2] at n2
              rw [k3] at n3
              exact pieces_bound who rate burst level at_ now n m 2 _ _ w hs h1 h2 h3 h4 (by decide) (by decide) n1 n2 n3
            · have n2 := fun w => take_in who rate burst (takeL rate burst level at_ now n) now now m w hx h2 (by omega) c3 (Int.le_refl _) (by rw [hf]; unfold takeL; omega)
              have n3 := fun w => take_in who rate burst level at_ now (n + m) w c0 (by omega) (by omega) c3 c4 (by omega)
              rw [hp] at n2
              exact pieces_yes who rate burst level at_ now n m _ _ _ _ w hs h1 h2 h3 h4 (waitOf_mono g1 (by unfold takeL; omega)) n1 n2 n3
          · exact pieces_big4 who rate burst level at_ now n m w hs h1 h2 h3 (by omega)
        · exact pieces_big3 who rate burst level at_ now n m w hs h1 h2 (by omega)
      · exact pieces_big2 who rate burst level at_ now n m w hs h1 (by omega)
    · exact pieces_big1 who rate burst level at_ now n m w hs (by omega)
  · exact pieces_big0 who rate burst level at_ now n m w (by omega)

end Go.Proofs.Ythmnojlenaddeaa
