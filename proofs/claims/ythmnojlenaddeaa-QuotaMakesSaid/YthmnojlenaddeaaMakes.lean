/- QuotaMakes of layer 20: the walk. -/
import Derived.Test.YthmnojlenaddeaaLive
namespace Go.Proofs.Ythmnojlenaddeaa
open Go.RowKit Q

/-- A bucket's value. -/
abbrev bkV (a : ByteArray) (b c d e : Int) : Value := .agg #[.string a, .int .i64 b, .int .i64 c, .int .i64 d, .int .i64 e]

theorem new_both (who : ByteArray) (rate burst now : Int) : ∃ (xw : ByteArray) (x1 x2 x3 x4 xe : Int),
    (∀ w, Calls Try.prog 12 #[.agg #[.string who, .int .i64 rate, .int .i64 burst], .int .i64 now] w fun e w' => e = .returned (.tuple #[.agg #[.string xw, .int .i64 x1, .int .i64 x2, .int .i64 x3, .int .i64 x4], .int .i64 xe]) ∧ Below w.heap.size w w') ∧
    (∀ w, Calls Try.prog 13 #[.agg #[.string who, .int .i64 rate, .int .i64 burst], .int .i64 now] w fun e w' => e = .returned (.tuple #[.agg #[.string xw, .int .i64 x1, .int .i64 x2, .int .i64 x3, .int .i64 x4], .int .i64 xe]) ∧ Below w.heap.size w w') :=
  ⟨_, _, _, _, _, _, fun w => new_any who rate burst now w, fun w => rnew_any who rate burst now w⟩
theorem set_both (who who' : ByteArray) (rate burst level at_ rate' burst' now : Int) : ∃ (xw : ByteArray) (x1 x2 x3 x4 xe : Int),
    (∀ w, Calls Try.prog 14 #[.agg #[.string who, .int .i64 rate, .int .i64 burst, .int .i64 level, .int .i64 at_], .agg #[.string who', .int .i64 rate', .int .i64 burst'], .int .i64 now] w fun e w' => e = .returned (.tuple #[.agg #[.string xw, .int .i64 x1, .int .i64 x2, .int .i64 x3, .int .i64 x4], .int .i64 xe]) ∧ Below w.heap.size w w') ∧
    (∀ w, Calls Try.prog 15 #[.agg #[.string who, .int .i64 rate, .int .i64 burst, .int .i64 level, .int .i64 at_], .agg #[.string who', .int .i64 rate', .int .i64 burst'], .int .i64 now] w fun e w' => e = .returned (.tuple #[.agg #[.string xw, .int .i64 x1, .int .i64 x2, .int .i64 x3, .int .i64 x4], .int .i64 xe]) ∧ Below w.heap.size w w') :=
  ⟨_, _, _, _, _, _, fun w => set_any who who' rate burst level at_ rate' burst' now w, fun w => rset_any who who' rate burst level at_ rate' burst' now w⟩

set_option maxHeartbeats 4000000 in
theorem makes_few (who who' : ByteArray) (rate burst level at_ rate' burst' now : Int) (w : World) (hs : who.size ≤ 200) (hs' : who'.size ≤ 200) :
    Calls Try.prog 3 #[.agg #[.string who, .int .i64 rate, .int .i64 burst, .int .i64 level, .int .i64 at_], .agg #[.string who', .int .i64 rate', .int .i64 burst'], .int .i64 now] w fun e w' =>
      e = .returned (.bool true) ∧ Below w.heap.size w w' := by
  obtain ⟨xw, x1, x2, x3, x4, xe, N1, N2⟩ := new_both who' rate' burst' now
  obtain ⟨yw, y1, y2, y3, y4, ye, S1, S2⟩ := set_both who who' rate burst level at_ rate' burst' now
  have N1 := Lib.hid N1
  have N2 := Lib.hid N2
  have S1 := Lib.hid S1
  have S2 := Lib.hid S2
  go_enter Try.func3, Try.ntmps3
  go_wp2_with fail
  have H1a := Has.newAt w #[.string who, .int .i64 rate, .int .i64 burst, .int .i64 level, .int .i64 at_] 23 (g := w.heap.size) (by simp)
  have B1 := Below.alloc (Below.refl w.heap.size w) ((Below.refl w.heap.size w).size) (.cells #[.string who, .int .i64 rate, .int .i64 burst, .int .i64 level, .int .i64 at_] 23)
  have H2a := Has.alloc H1a (.cells #[.string who', .int .i64 rate', .int .i64 burst'] 25)
  have H2b := Has.newAt (w.alloc (.cells #[.string who, .int .i64 rate, .int .i64 burst, .int .i64 level, .int .i64 at_] 23)) #[.string who', .int .i64 rate', .int .i64 burst'] 25 (g := w.heap.size + 1) (by simp)
  have B2 := Below.alloc B1 (B1.size) (.cells #[.string who', .int .i64 rate', .int .i64 burst'] 25)
  refine (live_any _).mono ?_
  rintro e w3 ⟨rfl, hb3⟩
  have H3a := Has.below hb3 H2a
  have H3b := Has.below hb3 H2b
  have B3 := below_from hb3 B2 (B2.size)
  have c3a := H3a.cell
  have l3a := H3a.lt
  have c3b := H3b.cell
  have l3b := H3b.lt
  go_wp2_with fail
  refine (N1.out _).mono ?_
  rintro e w4 ⟨rfl, hb4⟩
  have H4a := Has.below hb4 H3a
  have H4b := Has.below hb4 H3b
  have B4 := below_from hb4 B3 (B3.size)
  have c4a := H4a.cell
  have l4a := H4a.lt
  have c4b := H4b.cell
  have l4b := H4b.lt
  go_wp2_with fail
  have H5a := Has.alloc H4a (.cells #[.string xw, .int .i64 x1, .int .i64 x2, .int .i64 x3, .int .i64 x4] 23)
  have H5b := Has.alloc H4b (.cells #[.string xw, .int .i64 x1, .int .i64 x2, .int .i64 x3, .int .i64 x4] 23)
  have H5c := Has.newAt w4 #[.string xw, .int .i64 x1, .int .i64 x2, .int .i64 x3, .int .i64 x4] 23 (g := w4.heap.size) (by simp)
  have B5 := Below.alloc B4 (B4.size) (.cells #[.string xw, .int .i64 x1, .int .i64 x2, .int .i64 x3, .int .i64 x4] 23)
  refine (N2.out _).mono ?_
  rintro e w6 ⟨rfl, hb6⟩
  have H6a := Has.below hb6 H5a
  have H6b := Has.below hb6 H5b
  have H6c := Has.below hb6 H5c
  have B6 := below_from hb6 B5 (B5.size)
  have c6a := H6a.cell
  have l6a := H6a.lt
  have c6b := H6b.cell
  have l6b := H6b.lt
  have c6c := H6c.cell
  have l6c := H6c.lt
  go_wp2_with fail
  have H7a := Has.alloc H6a (.cells #[.string xw, .int .i64 x1, .int .i64 x2, .int .i64 x3, .int .i64 x4] 23)
  have H7b := Has.alloc H6b (.cells #[.string xw, .int .i64 x1, .int .i64 x2, .int .i64 x3, .int .i64 x4] 23)
  have H7c := Has.alloc H6c (.cells #[.string xw, .int .i64 x1, .int .i64 x2, .int .i64 x3, .int .i64 x4] 23)
  have H7d := Has.newAt w6 #[.string xw, .int .i64 x1, .int .i64 x2, .int .i64 x3, .int .i64 x4] 23 (g := w6.heap.size) (by simp)
  have B7 := Below.alloc B6 (B6.size) (.cells #[.string xw, .int .i64 x1, .int .i64 x2, .int .i64 x3, .int .i64 x4] 23)
  refine (S1.out _).mono ?_
  rintro e w8 ⟨rfl, hb8⟩
  have H8a := Has.below hb8 H7a
  have H8b := Has.below hb8 H7b
  have H8c := Has.below hb8 H7c
  have H8d := Has.below hb8 H7d
  have B8 := below_from hb8 B7 (B7.size)
  have c8a := H8a.cell
  have l8a := H8a.lt
  have c8b := H8b.cell
  have l8b := H8b.lt
  have c8c := H8c.cell
  have l8c := H8c.lt
  have c8d := H8d.cell
  have l8d := H8d.lt
  go_wp2_with fail
  have H9a := Has.alloc H8a (.cells #[.string yw, .int .i64 y1, .int .i64 y2, .int .i64 y3, .int .i64 y4] 23)
  have H9b := Has.alloc H8b (.cells #[.string yw, .int .i64 y1, .int .i64 y2, .int .i64 y3, .int .i64 y4] 23)
  have H9c := Has.alloc H8c (.cells #[.string yw, .int .i64 y1, .int .i64 y2, .int .i64 y3, .int .i64 y4] 23)
  have H9d := Has.alloc H8d (.cells #[.string yw, .int .i64 y1, .int .i64 y2, .int .i64 y3, .int .i64 y4] 23)
  have H9e := Has.newAt w8 #[.string yw, .int .i64 y1, .int .i64 y2, .int .i64 y3, .int .i64 y4] 23 (g := w8.heap.size) (by simp)
  have B9 := Below.alloc B8 (B8.size) (.cells #[.string yw, .int .i64 y1, .int .i64 y2, .int .i64 y3, .int .i64 y4] 23)
  refine (S2.out _).mono ?_
  rintro e w10 ⟨rfl, hb10⟩
  have H10a := Has.below hb10 H9a
  have H10b := Has.below hb10 H9b
  have H10c := Has.below hb10 H9c
  have H10d := Has.below hb10 H9d
  have H10e := Has.below hb10 H9e
  have B10 := below_from hb10 B9 (B9.size)
  have c10a := H10a.cell
  have l10a := H10a.lt
  have c10b := H10b.cell
  have l10b := H10b.lt
  have c10c := H10c.cell
  have l10c := H10c.lt
  have c10d := H10d.cell
  have l10d := H10d.lt
  have c10e := H10e.cell
  have l10e := H10e.lt
  go_wp2_with fail
  have H11a := Has.alloc H10a (.cells #[.string yw, .int .i64 y1, .int .i64 y2, .int .i64 y3, .int .i64 y4] 23)
  have H11b := Has.alloc H10b (.cells #[.string yw, .int .i64 y1, .int .i64 y2, .int .i64 y3, .int .i64 y4] 23)
  have H11c := Has.alloc H10c (.cells #[.string yw, .int .i64 y1, .int .i64 y2, .int .i64 y3, .int .i64 y4] 23)
  have H11d := Has.alloc H10d (.cells #[.string yw, .int .i64 y1, .int .i64 y2, .int .i64 y3, .int .i64 y4] 23)
  have H11e := Has.alloc H10e (.cells #[.string yw, .int .i64 y1, .int .i64 y2, .int .i64 y3, .int .i64 y4] 23)
  have H11f := Has.newAt w10 #[.string yw, .int .i64 y1, .int .i64 y2, .int .i64 y3, .int .i64 y4] 23 (g := w10.heap.size) (by simp)
  have B11 := Below.alloc B10 (B10.size) (.cells #[.string yw, .int .i64 y1, .int .i64 y2, .int .i64 y3, .int .i64 y4] 23)
  generalize hWW : (w10.alloc (.cells #[.string yw, .int .i64 y1, .int .i64 y2, .int .i64 y3, .int .i64 y4] 23)) = W at *
  clear hWW
  have r1 := H11a.cell
  have r2 := H11c.cell
  have r3 := H11d.cell
  have r4 := H11e.cell
  have r5 := H11f.cell
  have l1 := H11a.lt
  have l2 := H11c.lt
  have l3 := H11d.lt
  have l4 := H11e.lt
  have l5 := H11f.lt
  have m1 : w.heap.size < W.heap.size + 1 := by omega
  have m2 : w4.heap.size < W.heap.size + 1 := by omega
  have m3 : w6.heap.size < W.heap.size + 1 := by omega
  have m4 : w8.heap.size < W.heap.size + 1 := by omega
  have m5 : w10.heap.size < W.heap.size + 1 := by omega
  have HB := Lib.hid B11
  go_region_held3 (fun w' => (∀ i, w'.cell? ⟨w.heap.size, i, none⟩ = #[.string who, .int .i64 rate, .int .i64 burst, .int .i64 level, .int .i64 at_][i]?) ∧ (∀ i, w'.cell? ⟨w4.heap.size, i, none⟩ = #[.string xw, .int .i64 x1, .int .i64 x2, .int .i64 x3, .int .i64 x4][i]?) ∧ (∀ i, w'.cell? ⟨w6.heap.size, i, none⟩ = #[.string xw, .int .i64 x1, .int .i64 x2, .int .i64 x3, .int .i64 x4][i]?) ∧ (∀ i, w'.cell? ⟨w8.heap.size, i, none⟩ = #[.string yw, .int .i64 y1, .int .i64 y2, .int .i64 y3, .int .i64 y4][i]?) ∧ (∀ i, w'.cell? ⟨w10.heap.size, i, none⟩ = #[.string yw, .int .i64 y1, .int .i64 y2, .int .i64 y3, .int .i64 y4][i]?))
    (simp [go_sem, World.cell?_alloc_past, *]) (first | (go_at_call 16; refine (check_any _ _ _ _ _ _).mono ?_; rintro e w' ⟨rfl, rfl⟩) | (go_at_call 17; refine (rcheck_any _ _ _ _ _ _).mono ?_; rintro e w' ⟨rfl, rfl⟩))
  go_wp2_with fail
  go_ret
  refine ⟨rfl, ?_⟩
  have B12 := HB.out
  repeat (first | with_reducible exact B12 | (refine Below.alloc ?_ (by first | omega | (simp <;> omega)) _) | refine Below.drew ?_)

theorem makes_big (who who' : ByteArray) (rate burst level at_ rate' burst' now : Int) (w : World) (hs : ¬ (who.size ≤ 200 ∧ who'.size ≤ 200)) :
    Calls Try.prog 3 #[.agg #[.string who, .int .i64 rate, .int .i64 burst, .int .i64 level, .int .i64 at_], .agg #[.string who', .int .i64 rate', .int .i64 burst'], .int .i64 now] w fun e w' =>
      e = .returned (.bool true) ∧ Below w.heap.size w w' := by
  rcases (show 200 < who.size ∨ (who.size ≤ 200 ∧ 200 < who'.size) by omega) with h | ⟨h, h'⟩
  all_goals
    clear hs
    go_enter Try.func3, Try.ntmps3
    have H1a := Has.newAt w #[.string who, .int .i64 rate, .int .i64 burst, .int .i64 level, .int .i64 at_] 23 (g := w.heap.size) (by simp)
    have B1 := Below.alloc (Below.refl w.heap.size w) (Nat.le_refl _) (.cells #[.string who, .int .i64 rate, .int .i64 burst, .int .i64 level, .int .i64 at_] 23)
    have H2a := Has.alloc H1a (.cells #[.string who', .int .i64 rate', .int .i64 burst'] 25)
    have H2b := Has.newAt (w.alloc (.cells #[.string who, .int .i64 rate, .int .i64 burst, .int .i64 level, .int .i64 at_] 23)) #[.string who', .int .i64 rate', .int .i64 burst'] 25 (g := w.heap.size + 1) (by simp)
    have B2 := Below.alloc B1 B1.size (.cells #[.string who', .int .i64 rate', .int .i64 burst'] 25)
    go_wp2_with fail
    refine (live_any _).mono ?_
    rintro e w3 ⟨rfl, hb3⟩
    have c3a := (Has.below hb3 H2a).cell
    have c3b := (Has.below hb3 H2b).cell
    have B3 := below_from hb3 B2 B2.size
    go_wp2_with fail
    go_ret
    exact ⟨rfl, B3⟩

theorem makes_any (who who' : ByteArray) (rate burst level at_ rate' burst' now : Int) (w : World) :
    Calls Try.prog 3 #[.agg #[.string who, .int .i64 rate, .int .i64 burst, .int .i64 level, .int .i64 at_], .agg #[.string who', .int .i64 rate', .int .i64 burst'], .int .i64 now] w fun e w' =>
      e = .returned (.bool true) ∧ Below w.heap.size w w' := by
  by_cases hs : who.size ≤ 200 ∧ who'.size ≤ 200
  · exact makes_few who who' rate burst level at_ rate' burst' now w hs.1 hs.2
  · exact makes_big who who' rate burst level at_ rate' burst' now w hs

end Go.Proofs.Ythmnojlenaddeaa
