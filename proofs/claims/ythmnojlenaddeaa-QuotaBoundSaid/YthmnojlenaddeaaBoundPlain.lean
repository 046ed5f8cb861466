/- The plain law behind QuotaBound: what a round does to what was taken, and to what is left. -/
import Derived.Test.YthmnojlenaddeaaPlain
namespace Go.Proofs.Ythmnojlenaddeaa
open Q

/-- What holds at a round's head: k rounds are done; it is now; so much is taken, and so much was taken last; the bucket has a level, of a time. -/
structure BInv (n : Nat) (rate burst first : Int) (k : Nat) (now taken last level at_ : Int) : Prop where
  ok : okB n rate burst level at_ = true
  f0 : 0 ≤ first
  f1 : first ≤ at_
  a1 : at_ ≤ now
  n1 : now ≤ 1099511627776
  l0 : 0 ≤ last
  l1 : last ≤ 1048576
  t0 : 0 ≤ taken
  t1 : taken ≤ k * 1048576
  up : level + (taken + last) ≤ burst + rate * (at_ - first)
  en : 0 ≤ level + rate * (now - at_)

theorem binv_start {n : Nat} {rate burst now : Int} (h : newE n rate burst now = 0) : BInv n rate burst now 0 now 0 0 burst now := by
  have hc : okB n rate burst burst now = true := by
    rcases newE_cases n rate burst now with ⟨_, h'⟩ | ⟨h', _⟩
    · revert h'; unfold chk; cases okB n rate burst burst now <;> simp
    · omega
  obtain ⟨g0, g1, g2, g3, g4, g5, g6, g7, g8⟩ := okB_parts hc
  exact ⟨hc, g7, Int.le_refl _, Int.le_refl _, g8, by omega, by omega, by omega, by omega, by rw [Int.sub_self, Int.mul_zero]; omega, by rw [Int.sub_self, Int.mul_zero]; omega⟩

/-- A round: the time goes on by 'by', m is taken. -/
theorem binv_round {n : Nat} {rate burst first : Int} {k : Nat} {now taken last level at_ by_ m : Int} (h : BInv n rate burst first k now taken last level at_) (hb0 : 0 ≤ by_) (hb1 : by_ ≤ 1099511627776 - now) (hm0 : 0 ≤ m) (hm1 : m ≤ 1048576) :
    takeE n rate burst level at_ (now + by_) m = 0 ∧ 0 ≤ waitOf rate (takeL rate burst level at_ (now + by_) m) ∧
    taken + last ≤ burst + rate * (now + by_ - first) ∧ 0 ≤ rate * (now + by_ - first) ∧ rate * (now + by_ - first) ≤ 1152921504606846976 ∧
    (waitOf rate (takeL rate burst level at_ (now + by_) m) ≤ 1099511627776 - (now + by_) →
      BInv n rate burst first (k + 1) (now + by_ + waitOf rate (takeL rate burst level at_ (now + by_) m)) (taken + last) m (takeL rate burst level at_ (now + by_) m) (now + by_)) := by
  obtain ⟨ok, f0, f1, a1, n1, l0, l1, t0, t1, up, en⟩ := h
  obtain ⟨g0, g1, g2, g3, g4, g5, g6, g7, g8⟩ := okB_parts ok
  have e1 : rate * (now + by_ - at_) = rate * (now - at_) + rate * by_ := by rw [← Int.mul_add]; congr 1; omega
  have e2 : rate * (now + by_ - first) = rate * (at_ - first) + rate * (now + by_ - at_) := by rw [← Int.mul_add]; congr 1; omega
  have p1 : 0 ≤ rate * by_ := Int.mul_nonneg (by omega) hb0
  have p2 : 0 ≤ rate * (now - at_) := Int.mul_nonneg (by omega) (by omega)
  have p3 : 0 ≤ rate * (at_ - first) := Int.mul_nonneg (by omega) (by omega)
  obtain ⟨q1, q2⟩ := mul_in rate first (now + by_) g1 g2 f0 (by omega) (by omega)
  have hf : fillL rate burst level at_ (now + by_) = min (level + rate * (now + by_ - at_)) burst := rfl
  have hlo : -1099511627776 ≤ fillL rate burst level at_ (now + by_) - m := by rw [hf]; omega
  have hE : takeE n rate burst level at_ (now + by_) m = 0 := by
    unfold takeE
    rw [if_pos ok, if_pos ⟨hm0, by omega⟩, fillE_zero ok (by omega) (by omega), if_pos rfl, if_neg (by omega)]
  have hL : takeL rate burst level at_ (now + by_) m = min (level + rate * (now + by_ - at_)) burst - m := rfl
  have hw := waitOf_bd g1 (show -1099511627776 ≤ takeL rate burst level at_ (now + by_) m from hlo)
  refine ⟨hE, hw.1, by omega, q1, q2, fun hle => ⟨take_ok hE, f0, by omega, by omega, by omega, hm0, hm1, by omega, ?_, ?_, ?_⟩⟩
  · rw [Int.natCast_add, Int.add_mul]; omega
  · rw [hL, show rate * (now + by_ - first) = rate * (at_ - first) + rate * (now + by_ - at_) from e2]; omega
  · rw [show now + by_ + waitOf rate (takeL rate burst level at_ (now + by_) m) - (now + by_) = waitOf rate (takeL rate burst level at_ (now + by_) m) by omega]
    by_cases h0 : takeL rate burst level at_ (now + by_) m < 0
    · exact (wait_enough g1 h0).1
    · rw [waitOf_zero (by omega), Int.mul_zero]; omega

end Go.Proofs.Ythmnojlenaddeaa
