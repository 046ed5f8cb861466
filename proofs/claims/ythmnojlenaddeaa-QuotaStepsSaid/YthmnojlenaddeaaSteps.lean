/- QuotaSteps of layer 20: the walk. -/
import Derived.Test.YthmnojlenaddeaaMoved
namespace Go.Proofs.Ythmnojlenaddeaa
open Go.RowKit Q

theorem steps_big (who : ByteArray) (rate burst level at_ now one two : Int) (w : World) (hs : 200 < who.size) :
    Calls Try.prog 7 #[.agg #[.string who, .int .i64 rate, .int .i64 burst, .int .i64 level, .int .i64 at_], .int .i64 now, .int .i64 one, .int .i64 two] w fun e w' => e = .returned (.bool true) ∧ Below w.heap.size w w' := by
  go_enter Try.func7, Try.ntmps7
  have H1a := Has.newAt w #[.string who, .int .i64 rate, .int .i64 burst, .int .i64 level, .int .i64 at_] 23 (g := w.heap.size) (by simp)
  have B1 := Below.alloc (Below.refl w.heap.size w) ((Below.refl w.heap.size w).size) (.cells #[.string who, .int .i64 rate, .int .i64 burst, .int .i64 level, .int .i64 at_] 23)
  go_wp2_with fail
  refine (live_any _).mono ?_
  rintro e w2 ⟨rfl, hb2⟩
  have H2a := Has.below hb2 H1a
  have B2 := below_from hb2 B1 (B1.size)
  have c2a := H2a.cell
  have l2a := H2a.lt
  go_wp2_with fail
  go_ret
  exact ⟨rfl, B2⟩

set_option maxHeartbeats 4000000 in
theorem steps_no1 (who : ByteArray) (rate burst level at_ now one two s : Int) (y : Bool) (w : World) (hs : who.size ≤ 200)
    (N1 : Hid (∀ w, Calls Try.prog 22 #[.int .i64 now, .int .i64 one] w fun e w' => e = .returned (.tuple #[.int .i64 0, .bool false]) ∧ w = w')) (N2 : Hid (∀ w, Calls Try.prog 22 #[.int .i64 0, .int .i64 two] w fun e w' => e = .returned (.tuple #[.int .i64 s, .bool y]) ∧ w = w')) :
    Calls Try.prog 7 #[.agg #[.string who, .int .i64 rate, .int .i64 burst, .int .i64 level, .int .i64 at_], .int .i64 now, .int .i64 one, .int .i64 two] w fun e w' => e = .returned (.bool true) ∧ Below w.heap.size w w' := by
  go_enter Try.func7, Try.ntmps7
  have H1a := Has.newAt w #[.string who, .int .i64 rate, .int .i64 burst, .int .i64 level, .int .i64 at_] 23 (g := w.heap.size) (by simp)
  have B1 := Below.alloc (Below.refl w.heap.size w) ((Below.refl w.heap.size w).size) (.cells #[.string who, .int .i64 rate, .int .i64 burst, .int .i64 level, .int .i64 at_] 23)
  go_wp2_with fail
  refine (live_any _).mono ?_
  rintro e w2 ⟨rfl, hb2⟩
  have H2a := Has.below hb2 H1a
  have B2 := below_from hb2 B1 (B1.size)
  have c2a := H2a.cell
  have l2a := H2a.lt
  go_wp2_with fail
  refine (N1.out _).mono ?_
  rintro e w' ⟨rfl, rfl⟩
  go_wp2_with fail
  refine (N2.out _).mono ?_
  rintro e w' ⟨rfl, rfl⟩
  have za := H2a.cell
  go_wp2_with fail
  go_ret
  exact ⟨rfl, B2⟩

set_option maxHeartbeats 4000000 in
theorem steps_no2 (who : ByteArray) (rate burst level at_ now one two t : Int) (w : World) (hs : who.size ≤ 200)
    (N1 : Hid (∀ w, Calls Try.prog 22 #[.int .i64 now, .int .i64 one] w fun e w' => e = .returned (.tuple #[.int .i64 t, .bool true]) ∧ w = w')) (N2 : Hid (∀ w, Calls Try.prog 22 #[.int .i64 t, .int .i64 two] w fun e w' => e = .returned (.tuple #[.int .i64 0, .bool false]) ∧ w = w')) :
    Calls Try.prog 7 #[.agg #[.string who, .int .i64 rate, .int .i64 burst, .int .i64 level, .int .i64 at_], .int .i64 now, .int .i64 one, .int .i64 two] w fun e w' => e = .returned (.bool true) ∧ Below w.heap.size w w' := by
  go_enter Try.func7, Try.ntmps7
  have H1a := Has.newAt w #[.string who, .int .i64 rate, .int .i64 burst, .int .i64 level, .int .i64 at_] 23 (g := w.heap.size) (by simp)
  have B1 := Below.alloc (Below.refl w.heap.size w) ((Below.refl w.heap.size w).size) (.cells #[.string who, .int .i64 rate, .int .i64 burst, .int .i64 level, .int .i64 at_] 23)
  go_wp2_with fail
  refine (live_any _).mono ?_
  rintro e w2 ⟨rfl, hb2⟩
  have H2a := Has.below hb2 H1a
  have B2 := below_from hb2 B1 (B1.size)
  have c2a := H2a.cell
  have l2a := H2a.lt
  go_wp2_with fail
  refine (N1.out _).mono ?_
  rintro e w' ⟨rfl, rfl⟩
  go_wp2_with fail
  refine (N2.out _).mono ?_
  rintro e w' ⟨rfl, rfl⟩
  have za := H2a.cell
  go_wp2_with fail
  go_ret
  exact ⟨rfl, B2⟩

set_option maxHeartbeats 4000000 in
theorem steps_no3 (who : ByteArray) (rate burst level at_ now one two t u : Int) (w : World) (hs : who.size ≤ 200) (hc : chk who.size rate burst level at_ = 1)
    (N1 : Hid (∀ w, Calls Try.prog 22 #[.int .i64 now, .int .i64 one] w fun e w' => e = .returned (.tuple #[.int .i64 t, .bool true]) ∧ w = w')) (N2 : Hid (∀ w, Calls Try.prog 22 #[.int .i64 t, .int .i64 two] w fun e w' => e = .returned (.tuple #[.int .i64 u, .bool true]) ∧ w = w')) :
    Calls Try.prog 7 #[.agg #[.string who, .int .i64 rate, .int .i64 burst, .int .i64 level, .int .i64 at_], .int .i64 now, .int .i64 one, .int .i64 two] w fun e w' => e = .returned (.bool true) ∧ Below w.heap.size w w' := by
  go_enter Try.func7, Try.ntmps7
  have H1a := Has.newAt w #[.string who, .int .i64 rate, .int .i64 burst, .int .i64 level, .int .i64 at_] 23 (g := w.heap.size) (by simp)
  have B1 := Below.alloc (Below.refl w.heap.size w) ((Below.refl w.heap.size w).size) (.cells #[.string who, .int .i64 rate, .int .i64 burst, .int .i64 level, .int .i64 at_] 23)
  go_wp2_with fail
  refine (live_any _).mono ?_
  rintro e w2 ⟨rfl, hb2⟩
  have H2a := Has.below hb2 H1a
  have B2 := below_from hb2 B1 (B1.size)
  have c2a := H2a.cell
  have l2a := H2a.lt
  go_wp2_with fail
  refine (N1.out _).mono ?_
  rintro e w' ⟨rfl, rfl⟩
  go_wp2_with fail
  refine (N2.out _).mono ?_
  rintro e w' ⟨rfl, rfl⟩
  have zk2a := H2a.cell
  go_wp2_with fail
  refine (check_any _ _ _ _ _ _).mono ?_
  rintro e w' ⟨rfl, rfl⟩
  have H3a := Has.alloc H2a (.cells #[.string who, .int .i64 rate, .int .i64 burst, .int .i64 level, .int .i64 at_] 23)
  have H3k := Has.newAt w2 #[.string who, .int .i64 rate, .int .i64 burst, .int .i64 level, .int .i64 at_] 23 (g := w2.heap.size) (by simp)
  have B3 := Below.alloc B2 (B2.size) (.cells #[.string who, .int .i64 rate, .int .i64 burst, .int .i64 level, .int .i64 at_] 23)
  have za := H3a.cell
  have zk := H3k.cell
  go_wp2_with fail
  go_ret
  exact ⟨rfl, B3⟩

set_option maxHeartbeats 4000000 in
theorem steps_no4 (who : ByteArray) (rate burst level at_ now one two t u : Int) (w : World) (hs : who.size ≤ 200) (hc : chk who.size rate burst level at_ = 0) (hn : now < at_)
    (N1 : Hid (∀ w, Calls Try.prog 22 #[.int .i64 now, .int .i64 one] w fun e w' => e = .returned (.tuple #[.int .i64 t, .bool true]) ∧ w = w')) (N2 : Hid (∀ w, Calls Try.prog 22 #[.int .i64 t, .int .i64 two] w fun e w' => e = .returned (.tuple #[.int .i64 u, .bool true]) ∧ w = w')) :
    Calls Try.prog 7 #[.agg #[.string who, .int .i64 rate, .int .i64 burst, .int .i64 level, .int .i64 at_], .int .i64 now, .int .i64 one, .int .i64 two] w fun e w' => e = .returned (.bool true) ∧ Below w.heap.size w w' := by
  go_enter Try.func7, Try.ntmps7
  have H1a := Has.newAt w #[.string who, .int .i64 rate, .int .i64 burst, .int .i64 level, .int .i64 at_] 23 (g := w.heap.size) (by simp)
  have B1 := Below.alloc (Below.refl w.heap.size w) ((Below.refl w.heap.size w).size) (.cells #[.string who, .int .i64 rate, .int .i64 burst, .int .i64 level, .int .i64 at_] 23)
  go_wp2_with fail
  refine (live_any _).mono ?_
  rintro e w2 ⟨rfl, hb2⟩
  have H2a := Has.below hb2 H1a
  have B2 := below_from hb2 B1 (B1.size)
  have c2a := H2a.cell
  have l2a := H2a.lt
  go_wp2_with fail
  refine (N1.out _).mono ?_
  rintro e w' ⟨rfl, rfl⟩
  go_wp2_with fail
  refine (N2.out _).mono ?_
  rintro e w' ⟨rfl, rfl⟩
  have zk2a := H2a.cell
  go_wp2_with fail
  refine (check_any _ _ _ _ _ _).mono ?_
  rintro e w' ⟨rfl, rfl⟩
  have H3a := Has.alloc H2a (.cells #[.string who, .int .i64 rate, .int .i64 burst, .int .i64 level, .int .i64 at_] 23)
  have H3k := Has.newAt w2 #[.string who, .int .i64 rate, .int .i64 burst, .int .i64 level, .int .i64 at_] 23 (g := w2.heap.size) (by simp)
  have B3 := Below.alloc B2 (B2.size) (.cells #[.string who, .int .i64 rate, .int .i64 burst, .int .i64 level, .int .i64 at_] 23)
  have za := H3a.cell
  have zk := H3k.cell
  go_wp2_with fail
  go_ret
  exact ⟨rfl, B3⟩

set_option maxHeartbeats 4000000 in
theorem steps_yes (who : ByteArray) (rate burst level at_ now one two t u L1 L2 : Int) (w : World) (hs : who.size ≤ 200) (hc : chk who.size rate burst level at_ = 0) (hn : at_ ≤ now) (h1 : level ≤ L1) (h2 : L1 ≤ L2) (h3 : L2 ≤ burst)
    (N1 : Hid (∀ w, Calls Try.prog 22 #[.int .i64 now, .int .i64 one] w fun e w' => e = .returned (.tuple #[.int .i64 t, .bool true]) ∧ w = w')) (N2 : Hid (∀ w, Calls Try.prog 22 #[.int .i64 t, .int .i64 two] w fun e w' => e = .returned (.tuple #[.int .i64 u, .bool true]) ∧ w = w')) (N3 : Hid (∀ w, Calls Try.prog 18 #[.agg #[.string who, .int .i64 rate, .int .i64 burst, .int .i64 level, .int .i64 at_], .int .i64 t] w fun e w' => e = .returned (.tuple #[.agg #[.string who, .int .i64 rate, .int .i64 burst, .int .i64 L1, .int .i64 t], .int .i64 0]) ∧ Below w.heap.size w w')) (N4 : Hid (∀ w, Calls Try.prog 18 #[.agg #[.string who, .int .i64 rate, .int .i64 burst, .int .i64 L1, .int .i64 t], .int .i64 u] w fun e w' => e = .returned (.tuple #[.agg #[.string who, .int .i64 rate, .int .i64 burst, .int .i64 L2, .int .i64 u], .int .i64 0]) ∧ Below w.heap.size w w')) (N5 : Hid (∀ w, Calls Try.prog 18 #[.agg #[.string who, .int .i64 rate, .int .i64 burst, .int .i64 level, .int .i64 at_], .int .i64 u] w fun e w' => e = .returned (.tuple #[.agg #[.string who, .int .i64 rate, .int .i64 burst, .int .i64 L2, .int .i64 u], .int .i64 0]) ∧ Below w.heap.size w w')) :
    Calls Try.prog 7 #[.agg #[.string who, .int .i64 rate, .int .i64 burst, .int .i64 level, .int .i64 at_], .int .i64 now, .int .i64 one, .int .i64 two] w fun e w' => e = .returned (.bool true) ∧ Below w.heap.size w w' := by
  go_enter Try.func7, Try.ntmps7
  have H1a := Has.newAt w #[.string who, .int .i64 rate, .int .i64 burst, .int .i64 level, .int .i64 at_] 23 (g := w.heap.size) (by simp)
  have B1 := Below.alloc (Below.refl w.heap.size w) ((Below.refl w.heap.size w).size) (.cells #[.string who, .int .i64 rate, .int .i64 burst, .int .i64 level, .int .i64 at_] 23)
  go_wp2_with fail
  refine (live_any _).mono ?_
  rintro e w2 ⟨rfl, hb2⟩
  have H2a := Has.below hb2 H1a
  have B2 := below_from hb2 B1 (B1.size)
  have c2a := H2a.cell
  have l2a := H2a.lt
  go_wp2_with fail
  refine (N1.out _).mono ?_
  rintro e w' ⟨rfl, rfl⟩
  go_wp2_with fail
  refine (N2.out _).mono ?_
  rintro e w' ⟨rfl, rfl⟩
  have zk2a := H2a.cell
  go_wp2_with fail
  refine (check_any _ _ _ _ _ _).mono ?_
  rintro e w' ⟨rfl, rfl⟩
  have H3a := Has.alloc H2a (.cells #[.string who, .int .i64 rate, .int .i64 burst, .int .i64 level, .int .i64 at_] 23)
  have H3k := Has.newAt w2 #[.string who, .int .i64 rate, .int .i64 burst, .int .i64 level, .int .i64 at_] 23 (g := w2.heap.size) (by simp)
  have B3 := Below.alloc B2 (B2.size) (.cells #[.string who, .int .i64 rate, .int .i64 burst, .int .i64 level, .int .i64 at_] 23)
  have zz3a := H3a.cell
  have zz3k := H3k.cell
  go_wp2_with fail
  refine (N3.out _).mono ?_
  rintro e w4 ⟨rfl, hb4⟩
  have H4a := Has.below hb4 H3a
  have H4k := Has.below hb4 H3k
  have B4 := below_from hb4 B3 (B3.size)
  have c4a := H4a.cell
  have l4a := H4a.lt
  have c4k := H4k.cell
  have l4k := H4k.lt
  have H5a := Has.alloc H4a (.cells #[.string who, .int .i64 rate, .int .i64 burst, .int .i64 L1, .int .i64 t] 23)
  have H5k := Has.alloc H4k (.cells #[.string who, .int .i64 rate, .int .i64 burst, .int .i64 L1, .int .i64 t] 23)
  have H5c := Has.newAt w4 #[.string who, .int .i64 rate, .int .i64 burst, .int .i64 L1, .int .i64 t] 23 (g := w4.heap.size) (by simp)
  have B5 := Below.alloc B4 (B4.size) (.cells #[.string who, .int .i64 rate, .int .i64 burst, .int .i64 L1, .int .i64 t] 23)
  have zz5a := H5a.cell
  have zz5k := H5k.cell
  have zz5c := H5c.cell
  go_wp2_with fail
  refine (N4.out _).mono ?_
  rintro e w6 ⟨rfl, hb6⟩
  have H6a := Has.below hb6 H5a
  have H6k := Has.below hb6 H5k
  have H6c := Has.below hb6 H5c
  have B6 := below_from hb6 B5 (B5.size)
  have c6a := H6a.cell
  have l6a := H6a.lt
  have c6k := H6k.cell
  have l6k := H6k.lt
  have c6c := H6c.cell
  have l6c := H6c.lt
  have H7a := Has.alloc H6a (.cells #[.string who, .int .i64 rate, .int .i64 burst, .int .i64 L2, .int .i64 u] 23)
  have H7k := Has.alloc H6k (.cells #[.string who, .int .i64 rate, .int .i64 burst, .int .i64 L2, .int .i64 u] 23)
  have H7c := Has.alloc H6c (.cells #[.string who, .int .i64 rate, .int .i64 burst, .int .i64 L2, .int .i64 u] 23)
  have H7d := Has.newAt w6 #[.string who, .int .i64 rate, .int .i64 burst, .int .i64 L2, .int .i64 u] 23 (g := w6.heap.size) (by simp)
  have B7 := Below.alloc B6 (B6.size) (.cells #[.string who, .int .i64 rate, .int .i64 burst, .int .i64 L2, .int .i64 u] 23)
  have zz7a := H7a.cell
  have zz7k := H7k.cell
  have zz7c := H7c.cell
  have zz7d := H7d.cell
  go_wp2_with fail
  refine (N5.out _).mono ?_
  rintro e w8 ⟨rfl, hb8⟩
  have H8a := Has.below hb8 H7a
  have H8k := Has.below hb8 H7k
  have H8c := Has.below hb8 H7c
  have H8d := Has.below hb8 H7d
  have B8 := below_from hb8 B7 (B7.size)
  have c8a := H8a.cell
  have l8a := H8a.lt
  have c8k := H8k.cell
  have l8k := H8k.lt
  have c8c := H8c.cell
  have l8c := H8c.lt
  have c8d := H8d.cell
  have l8d := H8d.lt
  have H9a := Has.alloc H8a (.cells #[.string who, .int .i64 rate, .int .i64 burst, .int .i64 L2, .int .i64 u] 23)
  have H9k := Has.alloc H8k (.cells #[.string who, .int .i64 rate, .int .i64 burst, .int .i64 L2, .int .i64 u] 23)
  have H9c := Has.alloc H8c (.cells #[.string who, .int .i64 rate, .int .i64 burst, .int .i64 L2, .int .i64 u] 23)
  have H9d := Has.alloc H8d (.cells #[.string who, .int .i64 rate, .int .i64 burst, .int .i64 L2, .int .i64 u] 23)
  have H9e := Has.newAt w8 #[.string who, .int .i64 rate, .int .i64 burst, .int .i64 L2, .int .i64 u] 23 (g := w8.heap.size) (by simp)
  have B9 := Below.alloc B8 (B8.size) (.cells #[.string who, .int .i64 rate, .int .i64 burst, .int .i64 L2, .int .i64 u] 23)
  have za := H9a.cell
  have zk := H9k.cell
  have zc := H9c.cell
  have zd := H9d.cell
  have ze := H9e.cell
  go_wp2_with fail
  go_ret
  exact ⟨rfl, B9⟩

theorem moved_cases (now by_ : Int) : (∀ w, Calls Try.prog 22 #[.int .i64 now, .int .i64 by_] w fun e w' => e = .returned (.tuple #[.int .i64 0, .bool false]) ∧ w = w') ∨
    (0 ≤ now ∧ now ≤ 1099511627776 ∧ 0 ≤ by_ ∧ by_ ≤ 1099511627776 - now ∧ ∀ w, Calls Try.prog 22 #[.int .i64 now, .int .i64 by_] w fun e w' => e = .returned (.tuple #[.int .i64 (now + by_), .bool true]) ∧ w = w') := by
  by_cases h : 0 ≤ now ∧ now ≤ 1099511627776 ∧ 0 ≤ by_ ∧ by_ ≤ 1099511627776 - now
  · exact .inr ⟨h.1, h.2.1, h.2.2.1, h.2.2.2, fun w => moved_ok now by_ w h.1 h.2.1 h.2.2.1 h.2.2.2 rfl⟩
  · exact .inl fun w => moved_no now by_ w h

theorem steps_any (who : ByteArray) (rate burst level at_ now one two : Int) (w : World) :
    Calls Try.prog 7 #[.agg #[.string who, .int .i64 rate, .int .i64 burst, .int .i64 level, .int .i64 at_], .int .i64 now, .int .i64 one, .int .i64 two] w fun e w' => e = .returned (.bool true) ∧ Below w.heap.size w w' := by
  by_cases hs : who.size ≤ 200
  · rcases moved_cases now one with N1 | ⟨a1, a2, a3, a4, N1⟩
    · rcases moved_cases 0 two with N2 | ⟨b1, b2, b3, b4, N2⟩
      · exact steps_no1 who rate burst level at_ now one two _ _ w hs N1 N2
      · exact steps_no1 who rate burst level at_ now one two _ _ w hs N1 N2
    · rcases moved_cases (now + one) two with N2 | ⟨b1, b2, b3, b4, N2⟩
      · exact steps_no2 who rate burst level at_ now one two _ w hs N1 N2
      · cases hb : okB who.size rate burst level at_
        · exact steps_no3 who rate burst level at_ now one two _ _ w hs (by simp [chk, hb]) N1 N2
        · have hc : chk who.size rate burst level at_ = 0 := by simp [chk, hb]
          by_cases hn : now < at_
          · exact steps_no4 who rate burst level at_ now one two _ _ w hs hc hn N1 N2
          · obtain ⟨g0, g1, g2, g3, g4, g5, g6, g7, g8⟩ := okB_parts hb
            have l1 := fillL_ge g1 (show at_ ≤ now + one by omega) g6
            have l2 := fillL_le rate burst level at_ (now + one)
            have l3 := fillL_ge g1 (show now + one ≤ now + one + two by omega) l2
            have l4 := fillL_le rate burst (fillL rate burst level at_ (now + one)) (now + one) (now + one + two)
            have e := fill_steps (burst := burst) (level := level) g1 (show at_ ≤ now + one by omega) (show now + one ≤ now + one + two by omega)
            have hx : okB who.size rate burst (fillL rate burst level at_ (now + one)) (now + one) = true := okB_mk g0 g1 g2 g3 g4 (by omega) l2 (by omega) (by omega)
            refine steps_yes who rate burst level at_ now one two (now + one) (now + one + two) (fillL rate burst level at_ (now + one)) (fillL rate burst level at_ (now + one + two)) w hs hc (by omega) l1 (by rw [← e]; exact l3) (by rw [← e]; exact l4) N1 N2
              (fun w => fill_ok who rate burst level at_ _ w (fillE_zero hb (by omega) (by omega))) (fun w => ?_) (fun w => fill_ok who rate burst level at_ _ w (fillE_zero hb (by omega) (by omega)))
            rw [← e]
            exact fill_ok who rate burst _ _ _ w (fillE_zero hx (by omega) (by omega))
  · exact steps_big who rate burst level at_ now one two w (by omega)

end Go.Proofs.Ythmnojlenaddeaa
