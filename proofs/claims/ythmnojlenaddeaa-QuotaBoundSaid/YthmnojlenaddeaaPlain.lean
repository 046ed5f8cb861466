/- The plain laws of layer 20: what fills, what is taken, how long it takes; numbers alone. -/
import Derived.Test.YthmnojlenaddeaaTake
import Derived.Test.YthmnojlenaddeaaSet
namespace Go.Proofs.Ythmnojlenaddeaa
open Q

theorem okB_mk {n : Nat} {rate burst level at_ : Int} (h0 : n ≤ 64) (h1 : 1 ≤ rate) (h2 : rate ≤ 1048576) (h3 : 1 ≤ burst) (h4 : burst ≤ 1048576) (h5 : -1099511627776 ≤ level) (h6 : level ≤ burst) (h7 : 0 ≤ at_) (h8 : at_ ≤ 1099511627776) : okB n rate burst level at_ = true := by
  simp [okB, okR]; omega
theorem okR_parts {n : Nat} {rate burst : Int} (h : okR n rate burst = true) : n ≤ 64 ∧ 1 ≤ rate ∧ rate ≤ 1048576 ∧ 1 ≤ burst ∧ burst ≤ 1048576 := by
  simp [okR] at h; omega

theorem fillE_zero {n : Nat} {rate burst level at_ now : Int} (h : okB n rate burst level at_ = true) (h1 : now ≤ 1099511627776) (h2 : at_ ≤ now) : fillE n rate burst level at_ now = 0 := by
  unfold fillE; rw [if_pos h, if_neg (by omega), if_neg (by omega)]
theorem takeE_zero {n : Nat} {rate burst level at_ now m : Int} (h : takeE n rate burst level at_ now m = 0) :
    okB n rate burst level at_ = true ∧ 0 ≤ m ∧ m ≤ 1099511627776 ∧ now ≤ 1099511627776 ∧ at_ ≤ now ∧ -1099511627776 ≤ fillL rate burst level at_ now - m := by
  rcases takeE_cases n rate burst level at_ now m with ⟨h', e1⟩ | ⟨h', h1, e1⟩ | ⟨h', h1, h2, h3, e1⟩ | ⟨h', h1, h2, h3, h4, e1⟩ | ⟨h', h1, h2, h3, h4, h5, e1⟩ | ⟨h', h1, h2, h3, h4, h5, e1⟩
  · omega
  · omega
  · omega
  · omega
  · omega
  · exact ⟨h', h1, h2, h3, h4, h5⟩

/-- What is left may be. -/
theorem take_ok {n : Nat} {rate burst level at_ now m : Int} (h : takeE n rate burst level at_ now m = 0) : okB n rate burst (takeL rate burst level at_ now m) now = true := by
  obtain ⟨h', h1, h2, h3, h4, h5⟩ := takeE_zero h
  obtain ⟨g0, g1, g2, g3, g4, g5, g6, g7, g8⟩ := okB_parts h'
  have := fillL_le rate burst level at_ now
  exact okB_mk g0 g1 g2 g3 g4 (by unfold takeL; omega) (by unfold takeL; omega) (by omega) h3

/-- Waiting as long as is told is enough. -/
theorem wait_enough {rate level : Int} (h1 : 1 ≤ rate) (h : level < 0) : 0 ≤ level + rate * waitOf rate level ∧ level + rate * (waitOf rate level - 1) < 0 ∧ 1 ≤ waitOf rate level := by
  rw [waitOf_eq h1 h]
  generalize hm : -level - 1 = m
  have a1 : 0 ≤ m / rate := Int.ediv_nonneg (by omega) (by omega)
  have a2 := Int.mul_ediv_add_emod m rate
  have a3 := Int.emod_lt_of_pos m (show 0 < rate by omega)
  have a4 := Int.emod_nonneg m (show rate ≠ 0 by omega)
  rw [Int.mul_add, show 1 + m / rate - 1 = m / rate by omega]
  omega

/-- Filling in two steps is filling in one. -/
theorem fill_steps {rate burst level at_ t u : Int} (h1 : 1 ≤ rate) (h2 : at_ ≤ t) (h3 : t ≤ u) : fillL rate burst (fillL rate burst level at_ t) t u = fillL rate burst level at_ u := by
  have e : rate * (u - at_) = rate * (t - at_) + rate * (u - t) := by rw [← Int.mul_add]; congr 1; omega
  have p : 0 ≤ rate * (u - t) := Int.mul_nonneg (by omega) (by omega)
  unfold fillL
  rw [e]
  omega
theorem fill_now (rate burst level now : Int) (h : level ≤ burst) : fillL rate burst level now now = level := by
  unfold fillL; rw [Int.sub_self, Int.mul_zero]; omega

/-- Taking in two pieces is taking in one. -/
theorem take_pieces {rate burst level at_ now n m : Int} (h : 0 ≤ n) : takeL rate burst (takeL rate burst level at_ now n) now now m = takeL rate burst level at_ now (n + m) := by
  have := fillL_le rate burst level at_ now
  unfold takeL
  rw [fill_now _ _ _ _ (by omega)]
  omega
theorem waitOf_mono {rate a b : Int} (h1 : 1 ≤ rate) (h : a ≤ b) : waitOf rate b ≤ waitOf rate a := by
  by_cases h2 : b < 0
  · rw [waitOf_eq h1 h2, waitOf_eq h1 (by omega)]
    have := Int.ediv_le_ediv (show 0 < rate by omega) (show -b - 1 ≤ -a - 1 by omega)
    omega
  · rw [waitOf_zero (show 0 ≤ b by omega)]
    by_cases h3 : a < 0
    · have := (wait_enough h1 h3).2.2; omega
    · rw [waitOf_zero (by omega)]; omega

end Go.Proofs.Ythmnojlenaddeaa
