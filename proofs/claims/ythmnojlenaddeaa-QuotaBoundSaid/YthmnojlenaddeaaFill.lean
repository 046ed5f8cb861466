/- The contracts of run, Fill, New of layer 20. -/
import Derived.Test.YthmnojlenaddeaaLeaf
import Derived.BigRegion
namespace Go.Proofs.Ythmnojlenaddeaa
open Go.RowKit Q

theorem mul_in (rate at_ now : Int) (h1 : 1 ≤ rate) (h2 : rate ≤ 1048576) (h3 : 0 ≤ at_) (h4 : at_ ≤ now) (h5 : now ≤ 1099511627776) :
    0 ≤ rate * (now - at_) ∧ rate * (now - at_) ≤ 1152921504606846976 := by
  refine ⟨Int.mul_nonneg (by omega) (by omega), ?_⟩
  have : rate * (now - at_) ≤ 1048576 * 1099511627776 := Int.mul_le_mul h2 (by omega) (by omega) (by omega)
  omega

/-- (*tap).run, all well. -/
theorem run_ok (b : Nat) (who : ByteArray) (rate burst level at_ now : Int) (w : World) (hb : okB who.size rate burst level at_ = true) (h1 : now ≤ 1099511627776) (h2 : at_ ≤ now)
    (c1 : w.cell? ⟨b, 1, none⟩ = some (.int .i64 rate)) (c2 : w.cell? ⟨b, 2, none⟩ = some (.int .i64 burst))
    (c3 : w.cell? ⟨b, 3, none⟩ = some (.int .i64 level)) (c4 : w.cell? ⟨b, 4, none⟩ = some (.int .i64 at_))
    (f3 : w.frozen? ⟨b, 3, none⟩ = false) (f4 : w.frozen? ⟨b, 4, none⟩ = false) :
    Calls Try.prog 32 #[.pointer (some ⟨b, 0, none⟩), .int .i64 now] w fun e w' =>
      e = .returned (.int .i64 0) ∧ ((w.setCell ⟨b, 3, none⟩ (.int .i64 (fillL rate burst level at_ now))).setCell ⟨b, 4, none⟩ (.int .i64 now)).drew = w' := by
  simp only [okB, okR, Bool.and_eq_true, decide_eq_true_eq] at hb
  obtain ⟨⟨⟨⟨h3, h4, h5⟩, h6, h7⟩, h8, h9⟩, h10, h11⟩ := hb
  obtain ⟨m1, m2⟩ := mul_in rate at_ now h4 h5 h10 h2 h1
  by_cases hle : burst < level + rate * (now - at_)
  · have hf := Lib.hid (show fillL rate burst level at_ now = burst by unfold fillL; omega)
    have w1 : IntKind.i64.wrap (now - at_) = now - at_ := IntWalk.i64_in _ (by omega)
    have w2 : IntKind.i64.wrap (rate * (now - at_)) = rate * (now - at_) := IntWalk.i64_in _ (by omega)
    have w3 : IntKind.i64.wrap (level + rate * (now - at_)) = level + rate * (now - at_) := IntWalk.i64_in _ (by omega)
    go_enter Try.func32, Try.ntmps32
    go_wp2
    go_still_tail 29, (by kernel_rfl)
    change wpList _ _ _ _ _ w.drew
    go_wp2
    go_ret
    exact ⟨rfl, by rw [hf.out]⟩
  · have hf := Lib.hid (show fillL rate burst level at_ now = level + rate * (now - at_) by unfold fillL; omega)
    have w1 : IntKind.i64.wrap (now - at_) = now - at_ := IntWalk.i64_in _ (by omega)
    have w2 : IntKind.i64.wrap (rate * (now - at_)) = rate * (now - at_) := IntWalk.i64_in _ (by omega)
    have w3 : IntKind.i64.wrap (level + rate * (now - at_)) = level + rate * (now - at_) := IntWalk.i64_in _ (by omega)
    go_enter Try.func32, Try.ntmps32
    go_wp2
    go_still_tail 29, (by kernel_rfl)
    change wpList _ _ _ _ _ w.drew
    go_wp2
    go_ret
    exact ⟨rfl, by rw [hf.out]⟩

/-- (*tap).run, too late. -/
theorem run_late (b : Nat) (now : Int) (w : World) (h1 : 1099511627776 < now) :
    Calls Try.prog 32 #[.pointer (some ⟨b, 0, none⟩), .int .i64 now] w fun e w' => e = .returned (.int .i64 1) ∧ w = w' := by
  go_enter Try.func32, Try.ntmps32
  go_wp2
  go_ret
  exact ⟨rfl, rfl⟩

/-- (*tap).run, back in time. -/
theorem run_back (b : Nat) (at_ now : Int) (w : World) (h1 : now ≤ 1099511627776) (h2 : now < at_) (c4 : w.cell? ⟨b, 4, none⟩ = some (.int .i64 at_)) :
    Calls Try.prog 32 #[.pointer (some ⟨b, 0, none⟩), .int .i64 now] w fun e w' => e = .returned (.int .i64 71) ∧ w = w' := by
  go_enter Try.func32, Try.ntmps32
  go_wp2
  go_ret
  exact ⟨rfl, rfl⟩

theorem hmf : ∀ (fn : Fn) (first cap : Array Value) (w : World), (Instr.makeFunc fn first cap).run Try.prog w = .ok (.func fn first cap) w := fun _ _ _ _ => rfl

/-- quota.Fill, all well. -/
theorem fill_ok (who : ByteArray) (rate burst level at_ now : Int) (w : World) (he : fillE who.size rate burst level at_ now = 0) :
    Calls Try.prog 18 #[.agg #[.string who, .int .i64 rate, .int .i64 burst, .int .i64 level, .int .i64 at_], .int .i64 now] w fun e w' =>
      e = .returned (.tuple #[.agg #[.string who, .int .i64 rate, .int .i64 burst, .int .i64 (fillL rate burst level at_ now), .int .i64 now], .int .i64 0]) ∧ Below w.heap.size w w' := by
  have hb : okB who.size rate burst level at_ = true := by
    unfold fillE at he; revert he; split <;> simp_all
  have h1 : now ≤ 1099511627776 := by
    unfold fillE at he; rw [if_pos hb] at he; revert he; split <;> (first | simp | skip); omega
  have h2 : at_ ≤ now := by
    unfold fillE at he; rw [if_pos hb, if_neg (by omega)] at he; revert he; split <;> (first | simp | skip); omega
  have hc : chk who.size rate burst level at_ = 0 := by simp [chk, hb]
  have hmf := hmf
  have hb := Lib.hid hb
  clear he
  go_enter Try.func18, Try.ntmps18
  go_wp2_with (first
    | (go_at_call 16; refine (check_any _ _ _ _ _ _).mono ?_; rintro e w' ⟨rfl, rfl⟩)
    | (go_at_call 24; go_in) | (go_at_call 28; go_in))
  refine (run_ok (w.heap.size + 6) who rate burst level at_ now _ hb.out h1 h2 ?c1 ?c2 ?c3 ?c4 ?c5 ?c6).mono ?c7
  case c7 =>
    rintro e w' ⟨rfl, rfl⟩
    go_wp2
    refine bodyPost_ret (v := .tuple #[.agg #[.string who, .int .i64 rate, .int .i64 burst, .int .i64 (fillL rate burst level at_ now), .int .i64 now], .int .i64 0]) (by simp [results, Try.results24, go_sem]) rfl ?_
    go_wp2
    refine bodyPost_ret (v := .tuple #[.agg #[.string who, .int .i64 rate, .int .i64 burst, .int .i64 (fillL rate burst level at_ now), .int .i64 now], .int .i64 0]) (by simp [results, Try.results18, go_sem]) rfl ⟨rfl, ?_⟩
    repeat (first | exact Below.refl _ _ | (refine Below.alloc ?_ (by simp <;> omega) _) | refine Below.drew ?_ | refine Below.setCell ?_ (by simp) _)
  all_goals (go_simp; done)

end Go.Proofs.Ythmnojlenaddeaa
