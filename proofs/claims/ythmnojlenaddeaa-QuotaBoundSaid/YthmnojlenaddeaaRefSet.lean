/- The contracts of the document's Set of layer 20. -/
import Derived.Test.YthmnojlenaddeaaRef
namespace Go.Proofs.Ythmnojlenaddeaa
open Go.RowKit Q
attribute [local go_sem] setCell_drewN alloc_drewN

set_option maxHeartbeats 2000000 in
theorem rset_ok (who : ByteArray) (rate burst level at_ : Int) (rate' burst' now : Int) (w : World) (hb : okB who.size rate burst level at_ = true) (hr : okR who.size rate' burst' = true) (h1 : now ≤ 1099511627776) (h2 : at_ ≤ now) :
    Calls Try.prog 15 #[.agg #[.string who, .int .i64 rate, .int .i64 burst, .int .i64 level, .int .i64 at_], .agg #[.string who, .int .i64 rate', .int .i64 burst'], .int .i64 now] w fun e w' =>
      e = .returned (.tuple #[.agg #[.string who, .int .i64 rate', .int .i64 burst', .int .i64 (setL rate burst level at_ burst' now), .int .i64 now], .int .i64 0]) ∧ Below w.heap.size w w' := by
  have hc : chk who.size rate burst level at_ = 0 := by simp [chk, hb]
  have hF := fun w => rfill_ok who rate burst level at_ now w hb h1 h2
  have HF := Lib.hid hF
  clear hb hF
  unfold setL
  generalize hL : fillL rate burst level at_ now = L at *
  clear hL
  by_cases hle : L ≤ burst'
  · have hM := Lib.hid (show min L burst' = L by omega)
    go_enter Try.func15, Try.ntmps15
    go_wp2_with (first
      | (go_at_call 17; refine (rcheck_any _ _ _ _ _ _).mono ?_; rintro e w' ⟨rfl, rfl⟩)
      | (go_at_call 23; refine (rrate_any _ _ _ _).mono ?_; rw [hr]; rintro e w' ⟨rfl, rfl⟩)
      | (go_at_call 19; refine (HF.out _).mono ?_; rintro e w1 ⟨rfl, hb1⟩; obtain ⟨hc1, hf1⟩ := bcell hb1; have hz1 := hb1.size; simp at hz1; have hz2 : w.heap.size + 1 + 1 < w1.heap.size := (by omega); have hz3 : w.heap.size + 1 < w1.heap.size := (by omega); have hz4 : w.heap.size < w1.heap.size := (by omega); have HB0 : Below w.heap.size w w1 := below_from hb1 (by repeat (first | with_reducible exact Below.refl _ _ | (refine Below.alloc ?_ (by simp <;> omega) _))) (by simp <;> omega)))
    refine bodyPost_ret (v := .tuple #[.agg #[.string who, .int .i64 rate', .int .i64 burst', .int .i64 L, .int .i64 now], .int .i64 0]) (by simp [results, go_sem, hc1, hz2]) rfl ⟨by rw [hM.out], ?_⟩
    repeat (first | with_reducible exact Below.refl _ _ | with_reducible exact HB0 | (refine Below.alloc ?_ (by simp <;> omega) _) | refine Below.drew ?_ | refine Below.setCell ?_ (by simp <;> omega) _)
  · have hM := Lib.hid (show min L burst' = burst' by omega)
    go_enter Try.func15, Try.ntmps15
    go_wp2_with (first
      | (go_at_call 17; refine (rcheck_any _ _ _ _ _ _).mono ?_; rintro e w' ⟨rfl, rfl⟩)
      | (go_at_call 23; refine (rrate_any _ _ _ _).mono ?_; rw [hr]; rintro e w' ⟨rfl, rfl⟩)
      | (go_at_call 19; refine (HF.out _).mono ?_; rintro e w1 ⟨rfl, hb1⟩; obtain ⟨hc1, hf1⟩ := bcell hb1; have hz1 := hb1.size; simp at hz1; have hz2 : w.heap.size + 1 + 1 < w1.heap.size := (by omega); have hz3 : w.heap.size + 1 < w1.heap.size := (by omega); have hz4 : w.heap.size < w1.heap.size := (by omega); have HB0 : Below w.heap.size w w1 := below_from hb1 (by repeat (first | with_reducible exact Below.refl _ _ | (refine Below.alloc ?_ (by simp <;> omega) _))) (by simp <;> omega)))
    refine bodyPost_ret (v := .tuple #[.agg #[.string who, .int .i64 rate', .int .i64 burst', .int .i64 burst', .int .i64 now], .int .i64 0]) (by simp [results, go_sem, hc1, hz2]) rfl ⟨by rw [hM.out], ?_⟩
    repeat (first | with_reducible exact Below.refl _ _ | with_reducible exact HB0 | (refine Below.alloc ?_ (by simp <;> omega) _) | refine Below.drew ?_ | refine Below.setCell ?_ (by simp <;> omega) _)

/-- No bucket; no rate; another one: all are told 1. -/
theorem rset_err1 (who who' : ByteArray) (rate burst level at_ : Int) (rate' burst' now : Int) (w : World)
    (h : okB who.size rate burst level at_ = false ∨ (okB who.size rate burst level at_ = true ∧ okR who'.size rate' burst' = false) ∨ (okB who.size rate burst level at_ = true ∧ okR who'.size rate' burst' = true ∧ (who'.toList == who.toList) = false)) :
    Calls Try.prog 15 #[.agg #[.string who, .int .i64 rate, .int .i64 burst, .int .i64 level, .int .i64 at_], .agg #[.string who', .int .i64 rate', .int .i64 burst'], .int .i64 now] w fun e w' =>
      e = .returned (.tuple #[.agg #[.string ⟨#[]⟩, .int .i64 0, .int .i64 0, .int .i64 0, .int .i64 0], .int .i64 1]) ∧ Below w.heap.size w w' := by
  rcases h with h | ⟨h, h1⟩ | ⟨h, h1, h2⟩
  · have hc : chk who.size rate burst level at_ = 1 := by simp [chk, h]
    clear h
    go_enter Try.func15, Try.ntmps15
    go_wp2_with (first | (go_at_call 17; refine (rcheck_any _ _ _ _ _ _).mono ?_; rintro e w' ⟨rfl, rfl⟩))
    refine bodyPost_ret (v := .tuple #[.agg #[.string ⟨#[]⟩, .int .i64 0, .int .i64 0, .int .i64 0, .int .i64 0], .int .i64 1]) (by simp [results, go_sem]) rfl ⟨rfl, ?_⟩
    repeat (first | with_reducible exact Below.refl _ _ | (refine Below.alloc ?_ (by simp <;> omega) _) | refine Below.drew ?_ | refine Below.setCell ?_ (by simp <;> omega) _)
  · have hc : chk who.size rate burst level at_ = 0 := by simp [chk, h]
    clear h
    go_enter Try.func15, Try.ntmps15
    go_wp2_with (first | (go_at_call 17; refine (rcheck_any _ _ _ _ _ _).mono ?_; rintro e w' ⟨rfl, rfl⟩) | (go_at_call 23; refine (rrate_any _ _ _ _).mono ?_; rw [h1]; rintro e w' ⟨rfl, rfl⟩))
    refine bodyPost_ret (v := .tuple #[.agg #[.string ⟨#[]⟩, .int .i64 0, .int .i64 0, .int .i64 0, .int .i64 0], .int .i64 1]) (by simp [results, go_sem]) rfl ⟨rfl, ?_⟩
    repeat (first | with_reducible exact Below.refl _ _ | (refine Below.alloc ?_ (by simp <;> omega) _) | refine Below.drew ?_ | refine Below.setCell ?_ (by simp <;> omega) _)
  · have hc : chk who.size rate burst level at_ = 0 := by simp [chk, h]
    clear h
    go_enter Try.func15, Try.ntmps15
    go_wp2_with (first | (go_at_call 17; refine (rcheck_any _ _ _ _ _ _).mono ?_; rintro e w' ⟨rfl, rfl⟩) | (go_at_call 23; refine (rrate_any _ _ _ _).mono ?_; rw [h1]; rintro e w' ⟨rfl, rfl⟩))
    refine bodyPost_ret (v := .tuple #[.agg #[.string ⟨#[]⟩, .int .i64 0, .int .i64 0, .int .i64 0, .int .i64 0], .int .i64 1]) (by simp [results, go_sem]) rfl ⟨rfl, ?_⟩
    repeat (first | with_reducible exact Below.refl _ _ | (refine Below.alloc ?_ (by simp <;> omega) _) | refine Below.drew ?_ | refine Below.setCell ?_ (by simp <;> omega) _)

set_option maxHeartbeats 2000000 in
/-- Fill's error. -/
theorem rset_fill (who : ByteArray) (rate burst level at_ : Int) (rate' burst' now : Int) (k : Int) (w : World) (h : okB who.size rate burst level at_ = true) (hr : okR who.size rate' burst' = true) (hk : fillE who.size rate burst level at_ now = k) (hk0 : k ≠ 0) :
    Calls Try.prog 15 #[.agg #[.string who, .int .i64 rate, .int .i64 burst, .int .i64 level, .int .i64 at_], .agg #[.string who, .int .i64 rate', .int .i64 burst'], .int .i64 now] w fun e w' =>
      e = .returned (.tuple #[.agg #[.string ⟨#[]⟩, .int .i64 0, .int .i64 0, .int .i64 0, .int .i64 0], .int .i64 k]) ∧ Below w.heap.size w w' := by
  have hc : chk who.size rate burst level at_ = 0 := by simp [chk, h]
  have hF := fun w => rfill_err who rate burst level at_ now w (by omega)
  rw [hk] at hF
  have HF := Lib.hid hF
  have kb : (k != 0) = true := by simpa using hk0
  clear h hF hk hk0
  go_enter Try.func15, Try.ntmps15
  go_wp2_with (first
    | (go_at_call 17; refine (rcheck_any _ _ _ _ _ _).mono ?_; rintro e w' ⟨rfl, rfl⟩)
    | (go_at_call 23; refine (rrate_any _ _ _ _).mono ?_; rw [hr]; rintro e w' ⟨rfl, rfl⟩)
    | (go_at_call 19; refine (HF.out _).mono ?_; rintro e w1 ⟨rfl, hb1⟩; obtain ⟨hc1, hf1⟩ := bcell hb1; have hz1 := hb1.size; simp at hz1; have hz2 : w.heap.size + 1 + 1 < w1.heap.size := (by omega); have hz3 : w.heap.size + 1 < w1.heap.size := (by omega); have hz4 : w.heap.size < w1.heap.size := (by omega); have HB0 : Below w.heap.size w w1 := below_from hb1 (by repeat (first | with_reducible exact Below.refl _ _ | (refine Below.alloc ?_ (by simp <;> omega) _))) (by simp <;> omega)))
  refine bodyPost_ret (v := .tuple #[.agg #[.string ⟨#[]⟩, .int .i64 0, .int .i64 0, .int .i64 0, .int .i64 0], .int .i64 k]) (by simp [results, go_sem, hc1, hz2]) rfl ⟨rfl, ?_⟩
  repeat (first | with_reducible exact Below.refl _ _ | with_reducible exact HB0 | (refine Below.alloc ?_ (by simp <;> omega) _) | refine Below.drew ?_ | refine Below.setCell ?_ (by simp <;> omega) _)

end Go.Proofs.Ythmnojlenaddeaa
