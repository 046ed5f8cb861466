/- The contracts of wait and Take of layer 20. -/
import Derived.Test.YthmnojlenaddeaaFill
import Derived.Deep.QuietTactic
import Derived.BigQuiet
namespace Go.Proofs.Ythmnojlenaddeaa
open Go.RowKit Q

theorem setCell_drewN (w : World) (n : Nat) (a : Addr) (v : Value) : (w.drewN n).setCell a v = (w.setCell a v).drewN n := rfl
theorem alloc_drewN (w : World) (n : Nat) (o : Obj) : (w.drewN n).alloc o = (w.alloc o).drewN n := rfl
theorem below_drewN {B : Nat} {a w : World} (h : Below B a w) (n : Nat) : Below B a (w.drewN n) := ⟨h.os, h.tape, h.output, h.size, h.block⟩

theorem region_tail {P : Program} {id : Nat} {Q : Exit → Act → World → Prop} {a : Act} {w : World} {l : List Oper} (n : Nat) (hm : P.follows .mixedOrders = true) (hB : Region.lexTailB .any l.toArray n = true)
    (h : wpStill P l.toArray w.drew (fun a' => wpList P l.toArray Q (l.drop n) a' w.drew) (l.take n) a) : (Code.region id l.toArray true).wp P Q a w :=
  wp_region_still_tail n hm hB h

theorem fillE_cases (n : Nat) (rate burst level at_ now : Int) :
    (okB n rate burst level at_ = false ∧ fillE n rate burst level at_ now = 1) ∨
    (okB n rate burst level at_ = true ∧ 1099511627776 < now ∧ fillE n rate burst level at_ now = 1) ∨
    (okB n rate burst level at_ = true ∧ now ≤ 1099511627776 ∧ now < at_ ∧ fillE n rate burst level at_ now = 71) ∨
    (okB n rate burst level at_ = true ∧ now ≤ 1099511627776 ∧ at_ ≤ now ∧ fillE n rate burst level at_ now = 0) := by
  unfold fillE
  cases h : okB n rate burst level at_
  · simp
  · by_cases h1 : now > 1099511627776
    · simp [h1]
    · by_cases h2 : now < at_
      · simp [h1, h2]; omega
      · simp [h1, h2]; omega

theorem okB_parts {n : Nat} {rate burst level at_ : Int} (h : okB n rate burst level at_ = true) :
    n ≤ 64 ∧ 1 ≤ rate ∧ rate ≤ 1048576 ∧ 1 ≤ burst ∧ burst ≤ 1048576 ∧ -1099511627776 ≤ level ∧ level ≤ burst ∧ 0 ≤ at_ ∧ at_ ≤ 1099511627776 := by
  simp only [okB, okR, Bool.and_eq_true, decide_eq_true_eq] at h
  omega

theorem fillL_le (rate burst level at_ now : Int) : fillL rate burst level at_ now ≤ burst := by unfold fillL; omega
theorem fillL_ge {rate burst level at_ now : Int} (h1 : 1 ≤ rate) (h2 : at_ ≤ now) (h3 : level ≤ burst) : level ≤ fillL rate burst level at_ now := by
  have : 0 ≤ rate * (now - at_) := Int.mul_nonneg (by omega) (by omega)
  unfold fillL; omega

theorem waitOf_eq {rate level : Int} (h1 : 1 ≤ rate) (h : level < 0) : waitOf rate level = 1 + (-level - 1) / rate := by
  unfold waitOf
  rw [if_neg (by omega), show rate - 1 - level = (-level - 1) + rate * 1 by omega, Int.add_mul_ediv_left _ _ (by omega)]
  omega
theorem waitOf_zero {rate level : Int} (h : 0 ≤ level) : waitOf rate level = 0 := by unfold waitOf; rw [if_pos h]
theorem waitOf_bd {rate level : Int} (h1 : 1 ≤ rate) (h : -1099511627776 ≤ level) : 0 ≤ waitOf rate level ∧ waitOf rate level ≤ 1099511627776 := by
  by_cases h0 : level < 0
  · rw [waitOf_eq h1 h0]
    have a1 : 0 ≤ (-level - 1) / rate := Int.ediv_nonneg (by omega) (by omega)
    have a2 : (-level - 1) / rate ≤ -level - 1 := Int.ediv_le_self _ (by omega)
    omega
  · rw [waitOf_zero (by omega)]; omega

/-- (*tap).wait. -/
theorem wait_any (b : Nat) (rate level : Int) (w : World) (h1 : 1 ≤ rate) (h2 : -1099511627776 ≤ level) (h3 : level ≤ 1048576) (h4 : rate ≤ 1048576)
    (c1 : w.cell? ⟨b, 1, none⟩ = some (.int .i64 rate)) (c3 : w.cell? ⟨b, 3, none⟩ = some (.int .i64 level)) :
    Calls Try.prog 30 #[.pointer (some ⟨b, 0, none⟩)] w fun e w' => e = .returned (.int .i64 (waitOf rate level)) ∧ w = w' := by
  by_cases h : level < 0
  · have hw := Lib.hid (waitOf_eq h1 h)
    have a1 : 0 ≤ (-level - 1) / rate := Int.ediv_nonneg (by omega) (by omega)
    have a2 : (-level - 1) / rate ≤ -level - 1 := Int.ediv_le_self _ (by omega)
    go_enter Try.func30, Try.ntmps30
    go_wp2
    go_ret
    exact ⟨by rw [hw.out]; rfl, rfl⟩
  · have hw := Lib.hid (waitOf_zero (rate := rate) (show 0 ≤ level by omega))
    go_enter Try.func30, Try.ntmps30
    go_wp2
    go_ret
    exact ⟨by rw [hw.out]; rfl, rfl⟩

/-- The document's wait. -/
theorem rwait_any (who : ByteArray) (rate burst level at_ : Int) (w : World) (h1 : 1 ≤ rate) (h2 : -1099511627776 ≤ level) (h3 : level ≤ 1048576) (h4 : rate ≤ 1048576) :
    Calls Try.prog 31 #[.agg #[.string who, .int .i64 rate, .int .i64 burst, .int .i64 level, .int .i64 at_]] w fun e w' =>
      e = .returned (.int .i64 (waitOf rate level)) ∧ w.alloc (.cells #[.string who, .int .i64 rate, .int .i64 burst, .int .i64 level, .int .i64 at_] 23) = w' := by
  by_cases h : level < 0
  · have hw := Lib.hid (show waitOf rate level = (rate - 1 - level) / rate by unfold waitOf; rw [if_neg (by omega)])
    go_enter Try.func31, Try.ntmps31
    go_wp2
    go_ret
    exact ⟨by rw [hw.out]; rfl, rfl⟩
  · have hw := Lib.hid (waitOf_zero (rate := rate) (show 0 ≤ level by omega))
    go_enter Try.func31, Try.ntmps31
    go_wp2
    go_ret
    exact ⟨by rw [hw.out]; rfl, rfl⟩


theorem takeE_cases (n : Nat) (rate burst level at_ now m : Int) :
    (okB n rate burst level at_ = false ∧ takeE n rate burst level at_ now m = 1) ∨
    (okB n rate burst level at_ = true ∧ (m < 0 ∨ 1099511627776 < m) ∧ takeE n rate burst level at_ now m = 1) ∨
    (okB n rate burst level at_ = true ∧ 0 ≤ m ∧ m ≤ 1099511627776 ∧ 1099511627776 < now ∧ takeE n rate burst level at_ now m = 1) ∨
    (okB n rate burst level at_ = true ∧ 0 ≤ m ∧ m ≤ 1099511627776 ∧ now ≤ 1099511627776 ∧ now < at_ ∧ takeE n rate burst level at_ now m = 71) ∨
    (okB n rate burst level at_ = true ∧ 0 ≤ m ∧ m ≤ 1099511627776 ∧ now ≤ 1099511627776 ∧ at_ ≤ now ∧ fillL rate burst level at_ now - m < -1099511627776 ∧ takeE n rate burst level at_ now m = 2) ∨
    (okB n rate burst level at_ = true ∧ 0 ≤ m ∧ m ≤ 1099511627776 ∧ now ≤ 1099511627776 ∧ at_ ≤ now ∧ -1099511627776 ≤ fillL rate burst level at_ now - m ∧ takeE n rate burst level at_ now m = 0) := by
  by_cases hm : 0 ≤ m ∧ m ≤ 1099511627776
  · obtain ⟨m1, m2⟩ := hm
    rcases fillE_cases n rate burst level at_ now with ⟨h, h1⟩ | ⟨h, h2, h1⟩ | ⟨h, h2, h3, h1⟩ | ⟨h, h2, h3, h1⟩
    · simp [takeE, h]
    · simp [takeE, h, h1, m1, m2]; omega
    · simp [takeE, h, h1, m1, m2]; omega
    · by_cases hl : fillL rate burst level at_ now - m < -1099511627776
      · simp [takeE, h, h1, m1, m2, hl]; omega
      · simp [takeE, h, h1, m1, m2, hl]; omega
  · rcases fillE_cases n rate burst level at_ now with ⟨h, h1⟩ | ⟨h, h2, h1⟩ | ⟨h, h2, h3, h1⟩ | ⟨h, h2, h3, h1⟩
    · simp [takeE, h]
    all_goals (refine .inr (.inl ⟨h, by omega, ?_⟩); unfold takeE; rw [if_pos h, if_neg hm])

set_option maxHeartbeats 1000000 in
/-- quota.Take, all well, or too much. -/
theorem take_in (who : ByteArray) (rate burst level at_ now m : Int) (w : World) (hb : okB who.size rate burst level at_ = true) (hm0 : 0 ≤ m) (hm1 : m ≤ 1099511627776)
    (h1 : now ≤ 1099511627776) (h2 : at_ ≤ now) (hlo : -1099511627776 ≤ fillL rate burst level at_ now - m) :
    Calls Try.prog 20 #[.agg #[.string who, .int .i64 rate, .int .i64 burst, .int .i64 level, .int .i64 at_], .int .i64 now, .int .i64 m] w fun e w' =>
      e = .returned (.tuple #[.agg #[.string who, .int .i64 rate, .int .i64 burst, .int .i64 (takeL rate burst level at_ now m), .int .i64 now], .int .i64 (waitOf rate (takeL rate burst level at_ now m)), .int .i64 0]) ∧ Below w.heap.size w w' := by
  have hc : chk who.size rate burst level at_ = 0 := by simp [chk, hb]
  obtain ⟨g0, g1, g2, g3, g4, g5, g6, g7, g8⟩ := okB_parts hb
  have hL1 := fillL_le rate burst level at_ now
  have hmf := hmf
  have hB := Lib.hid hb
  clear hb
  unfold takeL
  generalize hL : fillL rate burst level at_ now = L at *
  have hL := Lib.hid hL
  go_enter Try.func20, Try.ntmps20
  go_wp2_with (first
    | (go_at_call 16; refine (check_any _ _ _ _ _ _).mono ?_; rintro e w' ⟨rfl, rfl⟩)
    | (go_at_call 27; refine (within_any _ _ _ _).mono ?_; rintro e w' ⟨rfl, rfl⟩)
    | (go_at_call 24; go_in) | (go_at_call 29; go_in))
  refine (run_ok (w.heap.size + 8) who rate burst level at_ now _ hB.out h1 h2 ?c1 ?c2 ?c3 ?c4 ?c5 ?c6).mono ?c7
  case c7 =>
    rintro e w' ⟨rfl, rfl⟩
    rw [hL.out]
    have wr : IntKind.i64.wrap (L - m) = L - m := IntWalk.i64_in _ (by omega)
    go_wp2_with fail
    refine region_tail 10 (by kernel_rfl) (by kernel_rfl) ?_
    simp only [List.take_succ_cons, List.take_zero, List.drop_succ_cons, List.drop_zero]
    repeat still_step
    refine wpStill_nil ?_
    go_wp2_with fail
    refine (wait_any (w.heap.size + 8) rate (L - m) _ g1 (by omega) (by omega) g2 ?d1 ?d2).mono ?d3
    case d3 =>
      rintro e w' ⟨rfl, rfl⟩
      go_wp2_with fail
      refine bodyPost_ret (v := .tuple #[.agg #[.string who, .int .i64 rate, .int .i64 burst, .int .i64 (L - m), .int .i64 now], .int .i64 0]) (by simp [results, Try.results24, go_sem]) rfl ?_
      go_wp2_with fail
      go_region
      all_goals go_wp2_with fail
      all_goals refine bodyPost_ret (v := .tuple #[.agg #[.string who, .int .i64 rate, .int .i64 burst, .int .i64 (L - m), .int .i64 now], .int .i64 (waitOf rate (L - m)), .int .i64 0]) (by simp [results, Try.results20, go_sem]) rfl ⟨rfl, ?_⟩
      all_goals repeat (first | exact Below.refl _ _ | (refine Below.alloc ?_ (by simp <;> omega) _) | refine Below.drew ?_ | refine Below.setCell ?_ (by simp) _)
    all_goals (go_simp; done)
  all_goals (go_simp; done)
end Go.Proofs.Ythmnojlenaddeaa
