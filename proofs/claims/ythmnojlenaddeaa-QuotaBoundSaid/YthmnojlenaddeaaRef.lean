/- The contracts of the document's answer of layer 20: New, Fill, Take, Set. -/
import Derived.Test.YthmnojlenaddeaaTake
import Derived.Deep.RegionHeld3
import Derived.Deep.RegionWith
namespace Go.Proofs.Ythmnojlenaddeaa
open Go.RowKit Q
attribute [local go_sem] setCell_drewN alloc_drewN

theorem rnew_ok (who : ByteArray) (rate burst now : Int) (w : World) (h : newE who.size rate burst now = 0) :
    Calls Try.prog 13 #[.agg #[.string who, .int .i64 rate, .int .i64 burst], .int .i64 now] w fun e w' =>
      e = .returned (.tuple #[.agg #[.string who, .int .i64 rate, .int .i64 burst, .int .i64 burst, .int .i64 now], .int .i64 0]) ∧ Below w.heap.size w w' := by
  have hc : okR who.size rate burst = true ∧ 0 ≤ now ∧ now ≤ 1099511627776 := by
    unfold newE at h
    split at h
    · rename_i h1; simpa using h1
    · simp at h
  obtain ⟨hc, h1, h2⟩ := hc
  clear h
  go_enter Try.func13, Try.ntmps13
  go_wp2_with (go_at_call 23; refine (rrate_any _ _ _ _).mono ?_; rintro e w' ⟨rfl, rfl⟩)
  refine bodyPost_ret (v := .tuple #[.agg #[.string who, .int .i64 rate, .int .i64 burst, .int .i64 burst, .int .i64 now], .int .i64 0]) (by simp [results, go_sem]) rfl ⟨rfl, ?_⟩
  repeat (first | exact Below.refl _ _ | (refine Below.alloc ?_ (by simp <;> omega) _) | refine Below.drew ?_ | refine Below.setCell ?_ (by simp) _)

theorem rnew_err (who : ByteArray) (rate burst now : Int) (w : World) (h : newE who.size rate burst now ≠ 0) :
    Calls Try.prog 13 #[.agg #[.string who, .int .i64 rate, .int .i64 burst], .int .i64 now] w fun e w' =>
      e = .returned (.tuple #[.agg #[.string ⟨#[]⟩, .int .i64 0, .int .i64 0, .int .i64 0, .int .i64 0], .int .i64 (newE who.size rate burst now)]) ∧ Below w.heap.size w w' := by
  have hc : (okR who.size rate burst = false ∨ (okR who.size rate burst = true ∧ now < 0) ∨ (okR who.size rate burst = true ∧ 0 ≤ now ∧ 1099511627776 < now)) ∧ newE who.size rate burst now = 1 := by
    unfold newE at h ⊢
    split at h
    · simp at h
    · rename_i h1
      refine ⟨?_, by rw [if_neg h1]⟩
      cases hr : okR who.size rate burst
      · simp
      · by_cases h2 : now < 0
        · exact .inr (.inl ⟨rfl, h2⟩)
        · refine .inr (.inr ⟨rfl, by omega, ?_⟩)
          rw [hr] at h1
          have h3 : ¬ (0 ≤ now ∧ now ≤ 1099511627776) := fun h => h1 (by simp [h.1, h.2])
          omega
  obtain ⟨hc, h1⟩ := hc
  have h1 := Lib.hid h1
  clear h
  rcases hc with hc | ⟨hc, h2⟩ | ⟨hc, h2, h3⟩
  all_goals
    go_enter Try.func13, Try.ntmps13
    go_wp2_with (go_at_call 23; refine (rrate_any _ _ _ _).mono ?_; rintro e w' ⟨rfl, rfl⟩)
    refine bodyPost_ret (v := .tuple #[.agg #[.string ⟨#[]⟩, .int .i64 0, .int .i64 0, .int .i64 0, .int .i64 0], .int .i64 1]) (by simp [results, go_sem]) rfl ⟨by rw [h1.out], ?_⟩
    repeat (first | exact Below.refl _ _ | (refine Below.alloc ?_ (by simp <;> omega) _) | refine Below.drew ?_ | refine Below.setCell ?_ (by simp) _)

theorem rfill_ok (who : ByteArray) (rate burst level at_ now : Int) (w : World) (hb : okB who.size rate burst level at_ = true) (h1 : now ≤ 1099511627776) (h2 : at_ ≤ now) :
    Calls Try.prog 19 #[.agg #[.string who, .int .i64 rate, .int .i64 burst, .int .i64 level, .int .i64 at_], .int .i64 now] w fun e w' =>
      e = .returned (.tuple #[.agg #[.string who, .int .i64 rate, .int .i64 burst, .int .i64 (fillL rate burst level at_ now), .int .i64 now], .int .i64 0]) ∧ Below w.heap.size w w' := by
  have hc : chk who.size rate burst level at_ = 0 := by simp [chk, hb]
  obtain ⟨g0, g1, g2, g3, g4, g5, g6, g7, g8⟩ := okB_parts hb
  obtain ⟨m1, m2⟩ := mul_in rate at_ now g1 g2 g7 h2 h1
  clear hb
  by_cases hle : burst < level + rate * (now - at_)
  · have hf := Lib.hid (show fillL rate burst level at_ now = burst by unfold fillL; omega)
    go_enter Try.func19, Try.ntmps19
    go_wp2_with (go_at_call 17; refine (rcheck_any _ _ _ _ _ _).mono ?_; rintro e w' ⟨rfl, rfl⟩)
    refine bodyPost_ret (v := .tuple #[.agg #[.string who, .int .i64 rate, .int .i64 burst, .int .i64 burst, .int .i64 now], .int .i64 0]) (by simp [results, go_sem]) rfl ⟨by rw [hf.out], ?_⟩
    repeat (first | exact Below.refl _ _ | (refine Below.alloc ?_ (by simp <;> omega) _) | refine Below.drew ?_ | refine Below.setCell ?_ (by simp) _)
  · have hf := Lib.hid (show fillL rate burst level at_ now = level + rate * (now - at_) by unfold fillL; omega)
    go_enter Try.func19, Try.ntmps19
    go_wp2_with (go_at_call 17; refine (rcheck_any _ _ _ _ _ _).mono ?_; rintro e w' ⟨rfl, rfl⟩)
    refine bodyPost_ret (v := .tuple #[.agg #[.string who, .int .i64 rate, .int .i64 burst, .int .i64 (level + rate * (now - at_)), .int .i64 now], .int .i64 0]) (by simp [results, go_sem]) rfl ⟨by rw [hf.out], ?_⟩
    repeat (first | exact Below.refl _ _ | (refine Below.alloc ?_ (by simp <;> omega) _) | refine Below.drew ?_ | refine Below.setCell ?_ (by simp) _)

theorem rfill_err (who : ByteArray) (rate burst level at_ now : Int) (w : World) (he : fillE who.size rate burst level at_ now ≠ 0) :
    Calls Try.prog 19 #[.agg #[.string who, .int .i64 rate, .int .i64 burst, .int .i64 level, .int .i64 at_], .int .i64 now] w fun e w' =>
      e = .returned (.tuple #[.agg #[.string ⟨#[]⟩, .int .i64 0, .int .i64 0, .int .i64 0, .int .i64 0], .int .i64 (fillE who.size rate burst level at_ now)]) ∧ Below w.heap.size w w' := by
  rcases fillE_cases who.size rate burst level at_ now with ⟨h, e1⟩ | ⟨h, h1, e1⟩ | ⟨h, h1, h2, e1⟩ | ⟨h, h1, h2, e1⟩
  · have hc : chk who.size rate burst level at_ = 1 := by simp [chk, h]
    have E1 := Lib.hid e1
    clear e1 h he
    go_enter Try.func19, Try.ntmps19
    go_wp2_with (go_at_call 17; refine (rcheck_any _ _ _ _ _ _).mono ?_; rintro e w' ⟨rfl, rfl⟩)
    refine bodyPost_ret (v := .tuple #[.agg #[.string ⟨#[]⟩, .int .i64 0, .int .i64 0, .int .i64 0, .int .i64 0], .int .i64 1]) (by simp [results, go_sem]) rfl ⟨by rw [E1.out], ?_⟩
    repeat (first | exact Below.refl _ _ | (refine Below.alloc ?_ (by simp <;> omega) _) | refine Below.drew ?_ | refine Below.setCell ?_ (by simp) _)
  · have hc : chk who.size rate burst level at_ = 0 := by simp [chk, h]
    have E1 := Lib.hid e1
    clear e1 h he
    go_enter Try.func19, Try.ntmps19
    go_wp2_with (go_at_call 17; refine (rcheck_any _ _ _ _ _ _).mono ?_; rintro e w' ⟨rfl, rfl⟩)
    refine bodyPost_ret (v := .tuple #[.agg #[.string ⟨#[]⟩, .int .i64 0, .int .i64 0, .int .i64 0, .int .i64 0], .int .i64 1]) (by simp [results, go_sem]) rfl ⟨by rw [E1.out], ?_⟩
    repeat (first | exact Below.refl _ _ | (refine Below.alloc ?_ (by simp <;> omega) _) | refine Below.drew ?_ | refine Below.setCell ?_ (by simp) _)
  · have hc : chk who.size rate burst level at_ = 0 := by simp [chk, h]
    have E1 := Lib.hid e1
    clear e1 h he
    go_enter Try.func19, Try.ntmps19
    go_wp2_with (go_at_call 17; refine (rcheck_any _ _ _ _ _ _).mono ?_; rintro e w' ⟨rfl, rfl⟩)
    refine bodyPost_ret (v := .tuple #[.agg #[.string ⟨#[]⟩, .int .i64 0, .int .i64 0, .int .i64 0, .int .i64 0], .int .i64 71]) (by simp [results, go_sem]) rfl ⟨by rw [E1.out], ?_⟩
    repeat (first | exact Below.refl _ _ | (refine Below.alloc ?_ (by simp <;> omega) _) | refine Below.drew ?_ | refine Below.setCell ?_ (by simp) _)
  · exact absurd e1 he

theorem below_from {B : Nat} {w W w1 : World} (hb : Below W.heap.size W w1) (h : Below B w W) (hB : B ≤ W.heap.size) : Below B w w1 := h.trans (hb.mono hB)

theorem bcell {W w1 : World} (hb : Below W.heap.size W w1) : (∀ b o, b < W.heap.size → w1.cell? ⟨b, o, none⟩ = W.cell? ⟨b, o, none⟩) ∧ (∀ b o, b < W.heap.size → w1.frozen? ⟨b, o, none⟩ = W.frozen? ⟨b, o, none⟩) :=
  ⟨fun b o h => hb.cell (p := ⟨b, o, none⟩) h, fun b o h => hb.frozen (p := ⟨b, o, none⟩) h⟩

set_option maxHeartbeats 2000000 in
theorem rtake_ok (who : ByteArray) (rate burst level at_ now m : Int) (w : World) (hb : okB who.size rate burst level at_ = true) (hm0 : 0 ≤ m) (hm1 : m ≤ 1099511627776)
    (h1 : now ≤ 1099511627776) (h2 : at_ ≤ now) (hlo : -1099511627776 ≤ fillL rate burst level at_ now - m) :
    Calls Try.prog 21 #[.agg #[.string who, .int .i64 rate, .int .i64 burst, .int .i64 level, .int .i64 at_], .int .i64 now, .int .i64 m] w fun e w' =>
      e = .returned (.tuple #[.agg #[.string who, .int .i64 rate, .int .i64 burst, .int .i64 (takeL rate burst level at_ now m), .int .i64 now], .int .i64 (waitOf rate (takeL rate burst level at_ now m)), .int .i64 0]) ∧ Below w.heap.size w w' := by
  have hc : chk who.size rate burst level at_ = 0 := by simp [chk, hb]
  obtain ⟨g0, g1, g2, g3, g4, g5, g6, g7, g8⟩ := okB_parts hb
  have hL1 := fillL_le rate burst level at_ now
  have hF := fun w => rfill_ok who rate burst level at_ now w hb h1 h2
  clear hb
  unfold takeL
  generalize hL : fillL rate burst level at_ now = L at *
  have hF := Lib.hid hF
  clear hL
  go_enter Try.func21, Try.ntmps21
  go_wp2_with (first
    | (go_at_call 17; refine (rcheck_any _ _ _ _ _ _).mono ?_; rintro e w' ⟨rfl, rfl⟩)
    | (go_at_call 19; refine (hF.out _).mono ?_; rintro e w1 ⟨rfl, hb1⟩; obtain ⟨hc1, hf1⟩ := bcell hb1; have hz1 := hb1.size; simp at hz1))
  have q0 : w1.cell? ⟨w.heap.size + 1, 0, none⟩ = some (.string ⟨#[]⟩) := by rw [hc1 _ _ (by simp)]; go_simp
  have q1 : w1.cell? ⟨w.heap.size + 1, 1, none⟩ = some (.int .i64 0) := by rw [hc1 _ _ (by simp)]; go_simp
  have q2 : w1.cell? ⟨w.heap.size + 1, 2, none⟩ = some (.int .i64 0) := by rw [hc1 _ _ (by simp)]; go_simp
  have q3 : w1.cell? ⟨w.heap.size + 1, 3, none⟩ = some (.int .i64 0) := by rw [hc1 _ _ (by simp)]; go_simp
  have q4 : w1.cell? ⟨w.heap.size + 1, 4, none⟩ = some (.int .i64 0) := by rw [hc1 _ _ (by simp)]; go_simp
  have u0 : w1.frozen? ⟨w.heap.size + 1, 0, none⟩ = false := by rw [hf1 _ _ (by simp)]; go_simp
  have u1 : w1.frozen? ⟨w.heap.size + 1, 1, none⟩ = false := by rw [hf1 _ _ (by simp)]; go_simp
  have u2 : w1.frozen? ⟨w.heap.size + 1, 2, none⟩ = false := by rw [hf1 _ _ (by simp)]; go_simp
  have u3 : w1.frozen? ⟨w.heap.size + 1, 3, none⟩ = false := by rw [hf1 _ _ (by simp)]; go_simp
  have u4 : w1.frozen? ⟨w.heap.size + 1, 4, none⟩ = false := by rw [hf1 _ _ (by simp)]; go_simp
  have hz2 : w.heap.size + 1 < w1.heap.size := by omega
  have hz3 : w.heap.size < w1.heap.size := by omega
  have HB1 := Lib.hid hb1
  clear hc1 hf1 hb1
  have HB0 : Below w.heap.size w w1 :=
    ((((Below.refl w.heap.size w).alloc (Nat.le_refl _) (.cells #[.string who, .int .i64 rate, .int .i64 burst, .int .i64 level, .int .i64 at_] 23)).alloc (by simp) (.cells #[.string ⟨#[]⟩, .int .i64 0, .int .i64 0, .int .i64 0, .int .i64 0] 23)).alloc (by simp; omega) (.cells #[.string who, .int .i64 rate, .int .i64 burst, .int .i64 level, .int .i64 at_] 23)).trans (HB1.out.mono (by simp; omega))
  have HB0 := Lib.hid HB0
  go_region_held3 (fun w' => w'.cell? ⟨w1.heap.size, 0, none⟩ = some (.string who) ∧ w'.cell? ⟨w1.heap.size, 1, none⟩ = some (.int .i64 rate) ∧ w'.cell? ⟨w1.heap.size, 2, none⟩ = some (.int .i64 burst) ∧ w'.cell? ⟨w1.heap.size, 3, none⟩ = some (.int .i64 (L - m)) ∧ w'.cell? ⟨w1.heap.size, 4, none⟩ = some (.int .i64 now))
    (simp [go_sem, World.cell?_alloc_past]) (first | (go_at_call 31; refine (rwait_any _ _ _ _ _ _ g1 hlo (by omega) g2).mono ?_; rintro e w' ⟨rfl, rfl⟩))
  go_wp2_with fail
  refine bodyPost_ret (v := .tuple #[.agg #[.string who, .int .i64 rate, .int .i64 burst, .int .i64 (L - m), .int .i64 now], .int .i64 (waitOf rate (L - m)), .int .i64 0]) (by simp [results, go_sem, q0, q1, q2, q3, q4, hz2, hz3, World.cell?_alloc_past]) rfl ⟨rfl, ?_⟩
  repeat (first | with_reducible exact HB0.out | (refine Below.alloc ?_ (by simp <;> omega) _) | refine Below.drew ?_ | refine Below.setCell ?_ (by simp) _)

set_option maxHeartbeats 2000000 in
theorem rtake_fill (who : ByteArray) (rate burst level at_ now m : Int) (w : World) (k : Int) (h : okB who.size rate burst level at_ = true) (h1 : 0 ≤ m) (h2 : m ≤ 1099511627776) (hk : fillE who.size rate burst level at_ now = k) (hk0 : k ≠ 0)
    (e1 : takeE who.size rate burst level at_ now m = k) :
    Calls Try.prog 21 #[.agg #[.string who, .int .i64 rate, .int .i64 burst, .int .i64 level, .int .i64 at_], .int .i64 now, .int .i64 m] w fun e w' =>
      e = .returned (.tuple #[.agg #[.string ⟨#[]⟩, .int .i64 0, .int .i64 0, .int .i64 0, .int .i64 0], .int .i64 0, .int .i64 (takeE who.size rate burst level at_ now m)]) ∧ Below w.heap.size w w' := by
  have hc : chk who.size rate burst level at_ = 0 := by simp [chk, h]
  have hF := fun w => rfill_err who rate burst level at_ now w (by omega)
  rw [hk] at hF
  have E1 := Lib.hid e1
  have HF := Lib.hid hF
  have kb : (k != 0) = true := by simpa using hk0
  clear e1 h hF hk hk0
  go_enter Try.func21, Try.ntmps21
  go_wp2_with (first
    | (go_at_call 17; refine (rcheck_any _ _ _ _ _ _).mono ?_; rintro e w' ⟨rfl, rfl⟩)
    | (go_at_call 19; refine (HF.out _).mono ?_; rintro e w1 ⟨rfl, hb1⟩; obtain ⟨hc1, hf1⟩ := bcell hb1; have hz1 := hb1.size; simp at hz1; have hz2 : w.heap.size + 1 < w1.heap.size := (by omega); have hz3 : w.heap.size < w1.heap.size := (by omega); have HB0 : Below w.heap.size w w1 := below_from hb1 (by repeat (first | with_reducible exact Below.refl _ _ | (refine Below.alloc ?_ (by simp <;> omega) _))) (by simp <;> omega)))
  refine bodyPost_ret (v := .tuple #[.agg #[.string ⟨#[]⟩, .int .i64 0, .int .i64 0, .int .i64 0, .int .i64 0], .int .i64 0, .int .i64 k]) (by simp [results, go_sem, hc1, hz2]) rfl ⟨by rw [E1.out], ?_⟩
  repeat (first | with_reducible exact Below.refl _ _ | with_reducible exact HB0 | (refine Below.alloc ?_ (by simp <;> omega) _) | refine Below.drew ?_ | refine Below.setCell ?_ (by simp) _)

set_option maxHeartbeats 2000000 in
theorem rtake_err (who : ByteArray) (rate burst level at_ now m : Int) (w : World) (he : takeE who.size rate burst level at_ now m ≠ 0) :
    Calls Try.prog 21 #[.agg #[.string who, .int .i64 rate, .int .i64 burst, .int .i64 level, .int .i64 at_], .int .i64 now, .int .i64 m] w fun e w' =>
      e = .returned (.tuple #[.agg #[.string ⟨#[]⟩, .int .i64 0, .int .i64 0, .int .i64 0, .int .i64 0], .int .i64 0, .int .i64 (takeE who.size rate burst level at_ now m)]) ∧ Below w.heap.size w w' := by
  rcases takeE_cases who.size rate burst level at_ now m with ⟨h, e1⟩ | ⟨h, h1, e1⟩ | ⟨h, h1, h2, h3, e1⟩ | ⟨h, h1, h2, h3, h4, e1⟩ | ⟨h, h1, h2, h3, h4, h5, e1⟩ | ⟨h, h1, h2, h3, h4, h5, e1⟩
  · have hc : chk who.size rate burst level at_ = 1 := by simp [chk, h]
    have E1 := Lib.hid e1
    clear e1 h he
    go_enter Try.func21, Try.ntmps21
    go_wp2_with (go_at_call 17; refine (rcheck_any _ _ _ _ _ _).mono ?_; rintro e w' ⟨rfl, rfl⟩)
    refine bodyPost_ret (v := .tuple #[.agg #[.string ⟨#[]⟩, .int .i64 0, .int .i64 0, .int .i64 0, .int .i64 0], .int .i64 0, .int .i64 1]) (by simp [results, go_sem]) rfl ⟨by rw [E1.out], ?_⟩
    repeat (first | exact Below.refl _ _ | (refine Below.alloc ?_ (by simp <;> omega) _) | refine Below.drew ?_ | refine Below.setCell ?_ (by simp) _)
  · have hc : chk who.size rate burst level at_ = 0 := by simp [chk, h]
    have E1 := Lib.hid e1
    clear e1 h he
    rcases (show m < 0 ∨ (0 ≤ m ∧ 1099511627776 < m) by omega) with h2 | ⟨h2, h3⟩
    all_goals
      clear h1
      go_enter Try.func21, Try.ntmps21
      go_wp2_with (go_at_call 17; refine (rcheck_any _ _ _ _ _ _).mono ?_; rintro e w' ⟨rfl, rfl⟩)
      refine bodyPost_ret (v := .tuple #[.agg #[.string ⟨#[]⟩, .int .i64 0, .int .i64 0, .int .i64 0, .int .i64 0], .int .i64 0, .int .i64 1]) (by simp [results, go_sem]) rfl ⟨by rw [E1.out], ?_⟩
      repeat (first | exact Below.refl _ _ | (refine Below.alloc ?_ (by simp <;> omega) _) | refine Below.drew ?_ | refine Below.setCell ?_ (by simp) _)
  · exact rtake_fill who rate burst level at_ now m w 1 h h1 h2 (by unfold fillE; rw [if_pos h, if_pos (by omega)]) (by omega) e1
  · exact rtake_fill who rate burst level at_ now m w 71 h h1 h2 (by unfold fillE; rw [if_pos h, if_neg (by omega), if_pos (by omega)]) (by omega) e1
  · have hc : chk who.size rate burst level at_ = 0 := by simp [chk, h]
    obtain ⟨g0, g1, g2, g3, g4, g5, g6, g7, g8⟩ := okB_parts h
    have hL1 := fillL_le rate burst level at_ now
    have hL2 := fillL_ge g1 h4 g6
    have hF := fun w => rfill_ok who rate burst level at_ now w h h3 h4
    have E1 := Lib.hid e1
    clear e1 h he
    generalize hL : fillL rate burst level at_ now = L at *
    have HF := Lib.hid hF
    clear hL hF
    go_enter Try.func21, Try.ntmps21
    go_wp2_with (first
      | (go_at_call 17; refine (rcheck_any _ _ _ _ _ _).mono ?_; rintro e w' ⟨rfl, rfl⟩)
      | (go_at_call 19; refine (HF.out _).mono ?_; rintro e w1 ⟨rfl, hb1⟩; obtain ⟨hc1, hf1⟩ := bcell hb1; have hz1 := hb1.size; simp at hz1; have hz2 : w.heap.size + 1 < w1.heap.size := (by omega); have hz3 : w.heap.size < w1.heap.size := (by omega); have HB0 : Below w.heap.size w w1 := below_from hb1 (by repeat (first | with_reducible exact Below.refl _ _ | (refine Below.alloc ?_ (by simp <;> omega) _))) (by simp <;> omega)))
    refine bodyPost_ret (v := .tuple #[.agg #[.string ⟨#[]⟩, .int .i64 0, .int .i64 0, .int .i64 0, .int .i64 0], .int .i64 0, .int .i64 2]) (by simp [results, go_sem, hc1, hz2]) rfl ⟨by rw [E1.out], ?_⟩
    repeat (first | with_reducible exact Below.refl _ _ | with_reducible exact HB0 | (refine Below.alloc ?_ (by simp <;> omega) _) | refine Below.drew ?_ | refine Below.setCell ?_ (by simp) _)
  · exact absurd e1 he

end Go.Proofs.Ythmnojlenaddeaa
