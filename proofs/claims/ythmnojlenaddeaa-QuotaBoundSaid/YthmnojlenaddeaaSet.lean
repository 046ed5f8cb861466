/- The contracts of New and Set of layer 20. -/
import Derived.Test.YthmnojlenaddeaaTake
import Derived.Deep.QuietTactic
import Derived.BigQuiet
namespace Go.Proofs.Ythmnojlenaddeaa
open Go.RowKit Q
attribute [local go_sem] setCell_drewN alloc_drewN

theorem newE_cases (n : Nat) (rate burst now : Int) :
    (newE n rate burst now = 0 ∧ chk n rate burst burst now = 0) ∨ (newE n rate burst now = 1 ∧ chk n rate burst burst now = 1) := by
  cases h : okR n rate burst
  · right; simp [newE, chk, okB, h]
  · have hb : burst ≤ 1048576 ∧ 1 ≤ burst := by simp [okR] at h; omega
    by_cases h1 : 0 ≤ now ∧ now ≤ 1099511627776
    · left; simp [newE, chk, okB, h, h1.1, h1.2]; omega
    · right
      have h2 : (decide (0 ≤ now) && decide (now ≤ 1099511627776)) = false := by simp; omega
      simp [newE, chk, okB, h, h2]

/-- quota.New. -/
theorem new_ok (who : ByteArray) (rate burst now : Int) (w : World) (h : newE who.size rate burst now = 0) :
    Calls Try.prog 12 #[.agg #[.string who, .int .i64 rate, .int .i64 burst], .int .i64 now] w fun e w' =>
      e = .returned (.tuple #[.agg #[.string who, .int .i64 rate, .int .i64 burst, .int .i64 burst, .int .i64 now], .int .i64 0]) ∧ Below w.heap.size w w' := by
  have hc : chk who.size rate burst burst now = 0 := by rcases newE_cases who.size rate burst now with h' | h' <;> omega
  clear h
  go_enter Try.func12, Try.ntmps12
  go_wp2_with (go_at_call 16; refine (check_any _ _ _ _ _ _).mono ?_; rintro e w' ⟨rfl, rfl⟩)
  refine bodyPost_ret (v := .tuple #[.agg #[.string who, .int .i64 rate, .int .i64 burst, .int .i64 burst, .int .i64 now], .int .i64 0]) (by simp [results, go_sem]) rfl ⟨rfl, ?_⟩
  repeat (first | exact Below.refl _ _ | (refine Below.alloc ?_ (by simp <;> omega) _) | refine below_drewN ?_ _ | refine Below.drew ?_ | refine Below.setCell ?_ (by simp) _)
theorem new_err (who : ByteArray) (rate burst now : Int) (w : World) (h : newE who.size rate burst now ≠ 0) :
    Calls Try.prog 12 #[.agg #[.string who, .int .i64 rate, .int .i64 burst], .int .i64 now] w fun e w' =>
      e = .returned (.tuple #[.agg #[.string ⟨#[]⟩, .int .i64 0, .int .i64 0, .int .i64 0, .int .i64 0], .int .i64 (newE who.size rate burst now)]) ∧ Below w.heap.size w w' := by
  have hc : chk who.size rate burst burst now = 1 := by rcases newE_cases who.size rate burst now with h' | h' <;> omega
  have h1 : newE who.size rate burst now = 1 := by rcases newE_cases who.size rate burst now with h' | h' <;> omega
  have h1 := Lib.hid h1
  clear h
  go_enter Try.func12, Try.ntmps12
  go_wp2_with (go_at_call 16; refine (check_any _ _ _ _ _ _).mono ?_; rintro e w' ⟨rfl, rfl⟩)
  refine bodyPost_ret (v := .tuple #[.agg #[.string ⟨#[]⟩, .int .i64 0, .int .i64 0, .int .i64 0, .int .i64 0], .int .i64 1]) (by simp [results, go_sem]) rfl ⟨by rw [h1.out], ?_⟩
  repeat (first | exact Below.refl _ _ | (refine Below.alloc ?_ (by simp <;> omega) _) | refine below_drewN ?_ _ | refine Below.drew ?_ | refine Below.setCell ?_ (by simp) _)

theorem quiet_left {P : Program} {f : FuncId} {args : Array Value} {w : World} {n : Nat} {v : Value}
    (h : Calls P f args (w.drewN n) fun e w' => e = .returned v ∧ w.drewN n = w') : Calls P f args (w.drewN n) fun e w' => e = .returned v ∧ ∃ m, w' = w.drewN m :=
  h.mono fun _ _ ⟨he, hm⟩ => ⟨he, n, hm.symm⟩

set_option maxHeartbeats 4000000 in
/-- quota.Set, all well. -/
theorem set_ok (who : ByteArray) (rate burst level at_ : Int) (rate' burst' now : Int) (w : World) (hb : okB who.size rate burst level at_ = true) (hr : okR who.size rate' burst' = true) (h1 : now ≤ 1099511627776) (h2 : at_ ≤ now) :
    Calls Try.prog 14 #[.agg #[.string who, .int .i64 rate, .int .i64 burst, .int .i64 level, .int .i64 at_], .agg #[.string who, .int .i64 rate', .int .i64 burst'], .int .i64 now] w fun e w' =>
      e = .returned (.tuple #[.agg #[.string who, .int .i64 rate', .int .i64 burst', .int .i64 (setL rate burst level at_ burst' now), .int .i64 now], .int .i64 0]) ∧ Below w.heap.size w w' := by
  have hc : chk who.size rate burst level at_ = 0 := by simp [chk, hb]
  obtain ⟨g0, g1, g2, g3, g4, g5, g6, g7, g8⟩ := okB_parts hb
  have hmf := hmf
  have hB := Lib.hid hb
  clear hb
  unfold setL
  generalize hL : fillL rate burst level at_ now = L at *
  have hL := Lib.hid hL
  go_enter Try.func14, Try.ntmps14
  go_wp2_with (first
    | (go_at_call 16; refine (check_any _ _ _ _ _ _).mono ?_; rintro e w' ⟨rfl, rfl⟩)
    | (go_at_call 24; go_in) | (go_at_call 25; go_in))
  go_quiet ((go_at_call 26; exact quiet_left (rated_any _ _ _ _)))
  go_wp2_with fail
  refine (run_ok _ who rate burst level at_ now _ hB.out h1 h2 ?c1 ?c2 ?c3 ?c4 ?c5 ?c6).mono ?c7
  case c7 =>
    rintro e w' ⟨rfl, rfl⟩
    rw [hL.out]
    by_cases hle : L ≤ burst'
    · have hM := Lib.hid (show min L burst' = L by omega)
      go_wp2_with fail
      go_region
      go_wp2_with fail
      refine bodyPost_ret (v := .tuple #[.agg #[.string who, .int .i64 rate', .int .i64 burst', .int .i64 (L), .int .i64 now], .int .i64 0]) (by simp [results, Try.results24, go_sem]) rfl ?_
      go_wp2_with fail
      refine bodyPost_ret (v := .tuple #[.agg #[.string who, .int .i64 rate', .int .i64 burst', .int .i64 (L), .int .i64 now], .int .i64 0]) (by simp [results, Try.results14, go_sem]) rfl ⟨by rw [hM.out], ?_⟩
      repeat (first | exact Below.refl _ _ | (refine Below.alloc ?_ (by simp <;> omega) _) | refine below_drewN ?_ _ | refine Below.drew ?_ | refine Below.setCell ?_ (by simp) _)
    · have hM := Lib.hid (show min L burst' = burst' by omega)
      go_wp2_with fail
      go_region
      go_wp2_with fail
      refine bodyPost_ret (v := .tuple #[.agg #[.string who, .int .i64 rate', .int .i64 burst', .int .i64 (burst'), .int .i64 now], .int .i64 0]) (by simp [results, Try.results24, go_sem]) rfl ?_
      go_wp2_with fail
      refine bodyPost_ret (v := .tuple #[.agg #[.string who, .int .i64 rate', .int .i64 burst', .int .i64 (burst'), .int .i64 now], .int .i64 0]) (by simp [results, Try.results14, go_sem]) rfl ⟨by rw [hM.out], ?_⟩
      repeat (first | exact Below.refl _ _ | (refine Below.alloc ?_ (by simp <;> omega) _) | refine below_drewN ?_ _ | refine Below.drew ?_ | refine Below.setCell ?_ (by simp) _)
  all_goals (go_simp; done)

theorem setE_cases (n : Nat) (same : Bool) (rate burst level at_ : Int) (n' : Nat) (rate' burst' now : Int) :
    (okB n rate burst level at_ = false ∧ setE n same rate burst level at_ n' rate' burst' now = 1) ∨
    (okB n rate burst level at_ = true ∧ same = false ∧ setE n same rate burst level at_ n' rate' burst' now = 1) ∨
    (okB n rate burst level at_ = true ∧ same = true ∧ okR n' rate' burst' = false ∧ setE n same rate burst level at_ n' rate' burst' now = 1) ∨
    (okB n rate burst level at_ = true ∧ same = true ∧ okR n' rate' burst' = true ∧ 1099511627776 < now ∧ setE n same rate burst level at_ n' rate' burst' now = 1) ∨
    (okB n rate burst level at_ = true ∧ same = true ∧ okR n' rate' burst' = true ∧ now ≤ 1099511627776 ∧ now < at_ ∧ setE n same rate burst level at_ n' rate' burst' now = 71) ∨
    (okB n rate burst level at_ = true ∧ same = true ∧ okR n' rate' burst' = true ∧ now ≤ 1099511627776 ∧ at_ ≤ now ∧ setE n same rate burst level at_ n' rate' burst' now = 0) := by
  cases hs : same
  · rcases fillE_cases n rate burst level at_ now with ⟨h, h1⟩ | ⟨h, h2, h1⟩ | ⟨h, h2, h3, h1⟩ | ⟨h, h2, h3, h1⟩ <;> simp [setE, h]
  · cases hr : okR n' rate' burst'
    · rcases fillE_cases n rate burst level at_ now with ⟨h, h1⟩ | ⟨h, h2, h1⟩ | ⟨h, h2, h3, h1⟩ | ⟨h, h2, h3, h1⟩ <;> simp [setE, h, hr]
    · rcases fillE_cases n rate burst level at_ now with ⟨h, h1⟩ | ⟨h, h2, h1⟩ | ⟨h, h2, h3, h1⟩ | ⟨h, h2, h3, h1⟩
      · simp [setE, h]
      all_goals (simp [setE, h, hr, h1]; omega)

end Go.Proofs.Ythmnojlenaddeaa
