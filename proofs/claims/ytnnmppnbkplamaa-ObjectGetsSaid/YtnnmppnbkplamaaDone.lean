/- done: a call does what it is to do, as its fault lets it. -/
import Derived.Test.YtnnmppnbkplamaaBegin
namespace Go.Proofs.Ytnnmppnbkplamaa
open Go.RowKit Go.Shelf

theorem nothing_any (w : World) : Calls Try.prog 44 #[] w fun e w' => e = .returned (.tuple #[]) ∧ w = w' := by
  go_enter Try.func44, Try.ntmps44
  go_wp2
  go_end0
  exact ⟨rfl, rfl⟩

/-- What a call answers, by its fault. -/
def doneE (ft : Int) : Int := if ft = 1 ∨ ft = 2 ∨ ft = 3 then 140 else 0
/-- A closure that changes the objects of the call's store at g, made since the world w. -/
def Does (w : World) (g : Nat) (calls : Int) (A' : Option Addr) (n' c' : Nat) (ft : Int) (E : Option Addr → Nat → Nat → World → World → Prop) (W : World) (e : Ending) (W' : World) : Prop :=
  (∃ v, e = .returned v) ∧ ∃ A5 n5 c5, Has W' g #[.slice A5 n5 c5, .int .i64 calls, .slice A' n' c', .int .i64 ft] ∧ E A5 n5 c5 W W' ∧ ∀ b cs, w.heap.size ≤ b → Has W b cs → Has W' b cs

def DoneR (w : World) (g : Nat) (A : Option Addr) (n c : Nat) (calls : Int) (A' : Option Addr) (n' c' : Nat) (ft : Int) (EA EH : Option Addr → Nat → Nat → World → World → Prop) (e : Ending) (w' : World) : Prop :=
  ∃ A5 n5 c5 W W', e = .returned (.tuple #[stV A5 n5 c5 calls A' n' c', .int .i64 (doneE ft)]) ∧ Below w.heap.size w W ∧ Has W' g #[.slice A5 n5 c5, .int .i64 calls, .slice A' n' c', .int .i64 ft] ∧
    (if ft = 1 then A5 = A ∧ n5 = n ∧ c5 = c ∧ W' = W else if ft = 3 then EH A5 n5 c5 W W' else EA A5 n5 c5 W W') ∧ W'.grownBy w' (some w.heap.size) ∧
    (Has W' w.heap.size #[.slice none 0 0, .int .i64 0, .slice none 0 0] ∨ W'.heap.size ≤ w.heap.size) ∧ (ft = 1 ∨ w.heap.size < W.heap.size)

set_option maxRecDepth 100000 in
set_option maxHeartbeats 4000000 in
theorem done_any (g : Nat) (A : Option Addr) (n c : Nat) (calls : Int) (A' : Option Addr) (n' c' : Nat) (ft : Int) (fA fH : Nat) (cbA cbH : Array Value) (EA EH : Option Addr → Nat → Nat → World → World → Prop) (w : World)
    (hg : Has w g #[.slice A n c, .int .i64 calls, .slice A' n' c', .int .i64 ft])
    (egA : ∀ args w, (callFunc fA args).run Try.prog w = .ok (.enter fA args) w) (egH : ∀ args w, (callFunc fH args).run Try.prog w = .ok (.enter fH args) w)
    (hA : ∀ W, Below w.heap.size w W → Calls Try.prog fA cbA W (Does w g calls A' n' c' ft EA W)) (hH : ∀ W, Below w.heap.size w W → Calls Try.prog fH cbH W (Does w g calls A' n' c' ft EH W)) :
    Calls Try.prog 36 #[.pointer (some ⟨g, 0, none⟩), .func (.func fA) #[] cbA, .func (.func fH) #[] cbH] w (DoneR w g A n c calls A' n' c' ft EA EH) := by
  have B1 := Lib.hid (below_alloc1 w (.cells #[.slice none 0 0, .int .i64 0, .slice none 0 0] 25))
  have R1 := Lib.hid (Has.newAt w #[.slice none 0 0, .int .i64 0, .slice none 0 0] 25 (g := w.heap.size) rfl)
  have G1 := Lib.hid (hg.alloc (.cells #[.slice none 0 0, .int .i64 0, .slice none 0 0] 25))
  have hgl := hg.lt
  have CA := Lib.hid (hA _ B1.out)
  have CH := Lib.hid (hH _ B1.out)
  have g1c := G1.out.cell
  have g1l := G1.out.lt
  have HG := Lib.hid hg
  clear hA hH hg
  by_cases f1 : ft = 1
  · subst f1
    go_enter Try.func36, Try.ntmps36
    go_wp2_with fail
    refine bodyPost_ret (v := .tuple #[stV A n c calls A' n' c', .int .i64 140]) (by simp [results, Try.results36, go_sem]) rfl ?_
    exact ⟨A, n, c, w, w, rfl, Below.refl _ _, HG.out, by rw [if_pos rfl]; exact ⟨rfl, rfl, rfl, rfl⟩, grown_of_below (below_alloc1 w _) _, .inr (Nat.le_refl _), .inl rfl⟩
  · have n1 : (ft == 1) = false := by rw [beq_eq_false_iff_ne]; exact f1
    have m1 : decide (ft = 1) = false := decide_eq_false f1
    by_cases f3 : ft = 3
    · subst f3
      go_enter Try.func36, Try.ntmps36
      go_wp2_with (refine CH.out.mono ?_; rintro e w2 ⟨⟨v, rfl⟩, A5, n5, c5, h5, hE, hK⟩; have G5 := Lib.hid h5; have E5 := Lib.hid hE; have R5 := Lib.hid (hK _ _ (Nat.le_refl _) R1.out); have g5c := G5.out.cell; have g5l := G5.out.lt; have r5c := R5.out.cell; have r5f := R5.out.free; have r5l := R5.out.lt; clear h5 hE hK g1c g1l)
      refine bodyPost_ret (v := .tuple #[stV A5 n5 c5 calls A' n' c', .int .i64 140]) (by simp [results, Try.results36, go_sem, r5c]) rfl ?_
      exact ⟨A5, n5, c5, _, w2, rfl, B1.out, G5.out, by rw [if_neg (by decide), if_pos rfl]; exact E5.out, setCells_grown w.heap.size [.slice A5 n5 c5, .int .i64 calls, .slice A' n' c'] 0 w2, .inl R5.out, .inr (by simp)⟩
    · have n3 : (ft == 3) = false := by rw [beq_eq_false_iff_ne]; exact f3
      have m3 : decide (ft = 3) = false := decide_eq_false f3
      by_cases f2 : ft = 2
      · subst f2
        go_enter Try.func36, Try.ntmps36
        go_wp2_with (refine CA.out.mono ?_; rintro e w2 ⟨⟨v, rfl⟩, A5, n5, c5, h5, hE, hK⟩; have G5 := Lib.hid h5; have E5 := Lib.hid hE; have R5 := Lib.hid (hK _ _ (Nat.le_refl _) R1.out); have g5c := G5.out.cell; have g5l := G5.out.lt; have r5c := R5.out.cell; have r5f := R5.out.free; have r5l := R5.out.lt; clear h5 hE hK g1c g1l)
        refine bodyPost_ret (v := .tuple #[stV A5 n5 c5 calls A' n' c', .int .i64 140]) (by simp [results, Try.results36, go_sem, r5c]) rfl ?_
        exact ⟨A5, n5, c5, _, w2, rfl, B1.out, G5.out, by rw [if_neg (by decide), if_neg (by decide)]; exact E5.out, setCells_grown w.heap.size [.slice A5 n5 c5, .int .i64 calls, .slice A' n' c'] 0 w2, .inl R5.out, .inr (by simp)⟩
      · have n2 : (ft == 2) = false := by rw [beq_eq_false_iff_ne]; exact f2
        have m2 : decide (ft = 2) = false := decide_eq_false f2
        have F1 := Lib.hid f1
        have F2 := Lib.hid f2
        have F3 := Lib.hid f3
        clear f1 f2 f3
        go_enter Try.func36, Try.ntmps36
        go_wp2_with (refine CA.out.mono ?_; rintro e w2 ⟨⟨v, rfl⟩, A5, n5, c5, h5, hE, hK⟩; have G5 := Lib.hid h5; have E5 := Lib.hid hE; have R5 := Lib.hid (hK _ _ (Nat.le_refl _) R1.out); have g5c := G5.out.cell; have g5l := G5.out.lt; have r5c := R5.out.cell; have r5f := R5.out.free; have r5l := R5.out.lt; clear h5 hE hK g1c g1l)
        refine bodyPost_ret (v := .tuple #[stV A5 n5 c5 calls A' n' c', .int .i64 0]) (by simp [results, Try.results36, go_sem, r5c]) rfl ?_
        refine ⟨A5, n5, c5, _, w2, by unfold doneE; rw [if_neg (fun h => by rcases h with h | h | h; exact F1.out h; exact F2.out h; exact F3.out h)], B1.out, G5.out, by rw [if_neg F1.out, if_neg F3.out]; exact E5.out, setCells_grown w.heap.size [.slice A5 n5 c5, .int .i64 calls, .slice A' n' c'] 0 w2, .inl R5.out, .inr (by simp)⟩

end Go.Proofs.Ytnnmppnbkplamaa
