/- As Seg, where two operations may come up beside one another: both ways are walked; of no function. -/
import Derived.Test.YtmlgahambecamaaSeg
namespace Go.Proofs.Ytmlgahambecamaa
open Go.RowKit

/-- An order, with forks. -/
inductive Tr where
  | tail : Tr
  | take : Nat → Tr → Tr
  | op : Nat → Tr → Tr
  | fork : Nat → Tr → Nat → Tr → Tr

section
variable {P : Program} {ops : Array Oper} {Q : Exit → Act → World → Prop} {md : Region.Mode} {S : World → Prop} {n : Nat}

def TrP (P : Program) (ops : Array Oper) (Q : Exit → Act → World → Prop) (S : World → Prop) (n : Nat) : Tr → Act → World → Prop
  | .tail, a, w => wpList P ops Q (ops.toList.drop n) a w
  | .take i r, a, w => ∃ oi, ops[i]? = some oi ∧ ∃ v, YieldsIf P ops S oi v a ∧ TrP P ops Q S n r (a.put oi.dst v) w
  | .op i r, a, w => wpOp P ops (NoPanic Q) i (fun a' w' => S w' ∧ TrP P ops Q S n r a' w') a w
  | .fork i r j s, a, w => wpOp P ops (NoPanic Q) i (fun a' w' => S w' ∧ TrP P ops Q S n r a' w') a w ∧ wpOp P ops (NoPanic Q) j (fun a' w' => S w' ∧ TrP P ops Q S n s a' w') a w

def trB (md : Region.Mode) (ops : Array Oper) (n : Nat) : Nat → Tr → Array Bool → Bool
  | 0, .tail, listed => Region.seqB md ops (ops.size - n) n listed
  | f + 1, .take i r, listed => decide (i < n) && (Region.ready md ops listed).contains i && Region.free md ops listed i && trB md ops n f r (listed.setIfInBounds i true)
  | f + 1, .op i r, listed => decide (i < n) && decide (Region.ready md ops listed = [i]) && trB md ops n f r (listed.setIfInBounds i true)
  | f + 1, .fork i r j s, listed => decide (i < n) && decide (j < n) && decide (Region.ready md ops listed = [i, j]) && trB md ops n f r (listed.setIfInBounds i true) && trB md ops n f s (listed.setIfInBounds j true)
  | _, _, _ => false
def trAll (md : Region.Mode) (ops : Array Oper) (n : Nat) (t : Tr) : Bool :=
  Region.noSelect ops && decide (n < ops.size) && Region.sinkB md ops n && Region.chainB md ops n && trB md ops n n t (Array.replicate ops.size false)

theorem head_of_tr (hsel : Region.noSelect ops = true) (hs : Region.sinkB md ops n = true) (hc : Region.chainB md ops n = true) (hn : n < ops.size) :
    ∀ (t : Tr) (f : Nat) (listed : Array Bool) (a : Act) (w : World), HeadInv md ops n listed → trB md ops n f t listed = true → S w → TrP P ops Q S n t a w →
    headAny P md ops Q S n (fun listed' a' w' => Region.seqB md ops (ops.size - n) n listed' = true ∧ wpList P ops Q (ops.toList.drop n) a' w') f listed a w
  | .tail, 0, _, _, _, _, hB, _, h => ⟨hB, h⟩
  | .tail, _ + 1, _, _, _, _, hB, _, _ => by simp [trB] at hB
  | .take _ _, 0, _, _, _, _, hB, _, _ => by simp [trB] at hB
  | .op _ _, 0, _, _, _, _, hB, _, _ => by simp [trB] at hB
  | .fork _ _ _ _, 0, _, _, _, _, hB, _, _ => by simp [trB] at hB
  | .take i r, f + 1, listed, a, w, inv, hB, hS, h => by
    simp only [trB, Bool.and_eq_true, decide_eq_true_eq] at hB
    obtain ⟨⟨⟨hin, hr⟩, hf⟩, hB'⟩ := hB
    obtain ⟨oi, hi, v, hy, hK⟩ := h
    have hr' : i ∈ Region.ready md ops listed := by simpa using hr
    exact head_first hi (Region.noSelect_spec hsel) hs hc hn hin (fun _ _ _ hL => seqB_ready hL.1) f listed a w inv (Region.free_spec hi hf) hr' hy hS
      (head_of_tr hsel hs hc hn r f _ _ w (inv.set hr' hin) hB' hS hK)
  | .op i r, f + 1, listed, a, w, inv, hB, _, h => by
    simp only [trB, Bool.and_eq_true, decide_eq_true_eq] at hB
    obtain ⟨⟨hin, hr⟩, hB'⟩ := hB
    refine ⟨by rw [hr]; simp, fun j hj => ?_⟩
    rw [hr] at hj
    obtain rfl : j = i := by simpa using hj
    have hr' : j ∈ Region.ready md ops listed := by rw [hr]; simp
    exact ⟨hin, wpOp_mono (fun a' w' ⟨h1, h2⟩ => ⟨h1, head_of_tr hsel hs hc hn r f _ a' w' (inv.set hr' hin) hB' h1 h2⟩) h⟩
  | .fork i r j s, f + 1, listed, a, w, inv, hB, _, h => by
    simp only [trB, Bool.and_eq_true, decide_eq_true_eq] at hB
    obtain ⟨⟨⟨⟨hin, hjn⟩, hr⟩, hB1⟩, hB2⟩ := hB
    refine ⟨by rw [hr]; simp, fun k hk => ?_⟩
    rw [hr] at hk
    have hi' : i ∈ Region.ready md ops listed := by rw [hr]; simp
    have hj' : j ∈ Region.ready md ops listed := by rw [hr]; simp
    rcases (show k = i ∨ k = j by simpa using hk) with e | e
    · rw [e]
      exact ⟨hin, wpOp_mono (fun a' w' ⟨h1, h2⟩ => ⟨h1, head_of_tr hsel hs hc hn r f _ a' w' (inv.set hi' hin) hB1 h1 h2⟩) h.1⟩
    · rw [e]
      exact ⟨hjn, wpOp_mono (fun a' w' ⟨h1, h2⟩ => ⟨h1, head_of_tr hsel hs hc hn s f _ a' w' (inv.set hj' hjn) hB2 h1 h2⟩) h.2⟩

/-- THE REGION, by a walk with forks. -/
theorem region_tr {id : Nat} {a : Act} {w : World} {l : List Oper} (S : World → Prop) (n : Nat) (t : Tr) (hm : P.follows .mixedOrders = true) (hB : trAll .any l.toArray n t = true)
    (hS : S w.drew) (h : S w.drew → TrP P l.toArray Q S n t a w.drew) : (Code.region id l.toArray true).wp P Q a w := by
  simp only [trAll, Bool.and_eq_true, decide_eq_true_eq] at hB
  obtain ⟨⟨⟨⟨hsel, hn⟩, hs⟩, hc⟩, hb⟩ := hB
  have inv0 : HeadInv .any l.toArray n (Array.replicate l.toArray.size false) :=
    ⟨by simp, fun j oj _ hl => (by rw [getD_replicate_false] at hl; cases hl), fun t _ ht => getD_in (by simpa using ht) (getD_replicate_false _ _)⟩
  have H := head_of_tr (P := P) (S := S) hsel hs hc hn t n _ a w.drew inv0 hb hS (h hS)
  refine wp_region_any hm ?_
  have hdl : (l.toArray.toList.drop n).length = l.toArray.size - n := by simp
  have := any_of_head (g := l.toArray.size - n) (fun listed a' w' (hL : Region.seqB .any l.toArray (l.toArray.size - n) n listed = true ∧ wpList P l.toArray Q (l.toArray.toList.drop n) a' w') => by
    have := wpAny_of_seq (md := .any) (Q' := Q) (l.toArray.toList.drop n) n listed a' w' (fun j => by simp [List.getElem?_drop]) (by rw [hdl]; exact hL.1) hL.2
    rwa [hdl] at this) _ _ _ _ H
  rw [show n + (l.toArray.size - n) = l.toArray.size by omega] at this
  exact this

theorem tr_take {i : Nat} {oi : Oper} {v : Value} {r : Tr} {a : Act} {w : World} (hi : ops[i]? = some oi) (hy : YieldsIf P ops S oi v a) (h : TrP P ops Q S n r (a.put oi.dst v) w) : TrP P ops Q S n (.take i r) a w :=
  ⟨oi, hi, v, hy, h⟩
theorem tr_wp {i : Nat} {oi : Oper} {r : Tr} {a : Act} {w : World} (hi : ops[i]? = some oi)
    (h : ∀ K : Exit → Act → World → Prop, Shut (∀ a w, S w → (S w → TrP P ops Q S n r a w) → K .normal a w) → wpList P ops K [oi] a w) : wpOp P ops (NoPanic Q) i (fun a' w' => S w' ∧ TrP P ops Q S n r a' w') a w := by
  have H := h (fun x a w => match x with | .normal => S w ∧ TrP P ops Q S n r a w | x => NoPanic Q x a w) (fun a w hS hK => ⟨hS, hK hS⟩)
  unfold wpOp
  simp only [hi]
  unfold wpList at H
  by_cases hw : Region.wanted oi (yielded ops a.tmps) = true
  · rw [if_pos hw] at H ⊢
    rcases H with H | ⟨H1, a0, w0, H2⟩
    · refine .inl ?_
      unfold Oper.wp at H ⊢
      generalize (execOp a.eval oi).run P w = res at H
      cases res with
      | ok nx w' =>
        cases nx <;> simp only [Oper.upon] at H ⊢
        case value => exact H
        case skip => exact H
        case defer => exact H
        case enter f args => exact Calls.mono H fun e w'' he => by cases e <;> first | exact he | (obtain ⟨a1, w1, h1⟩ := he; exact ⟨a1, w1, h1⟩)
        case row row args => exact Rows.mono H fun v w'' he => he
      | halt x w' => cases x <;> simp only [Oper.upon] at H ⊢ <;> exact H
    · exact .inr ⟨H1, a0, w0, H2⟩
  · rw [if_neg hw] at H ⊢
    exact H
theorem tr_op {i : Nat} {oi : Oper} {r : Tr} {a : Act} {w : World} (hi : ops[i]? = some oi)
    (h : ∀ K : Exit → Act → World → Prop, Shut (∀ a w, S w → (S w → TrP P ops Q S n r a w) → K .normal a w) → wpList P ops K [oi] a w) : TrP P ops Q S n (.op i r) a w := tr_wp hi h
theorem tr_fork {i j : Nat} {oi oj : Oper} {r s : Tr} {a : Act} {w : World} (hi : ops[i]? = some oi) (hj : ops[j]? = some oj)
    (h : ∀ K : Exit → Act → World → Prop, Shut (∀ a w, S w → (S w → TrP P ops Q S n r a w) → K .normal a w) → wpList P ops K [oi] a w)
    (k : ∀ K : Exit → Act → World → Prop, Shut (∀ a w, S w → (S w → TrP P ops Q S n s a w) → K .normal a w) → wpList P ops K [oj] a w) : TrP P ops Q S n (.fork i r j s) a w := ⟨tr_wp hi h, tr_wp hj k⟩
theorem tr_tail {l l' : List Oper} {a : Act} {w : World} (hl : l.drop n = l') (h : wpList P l.toArray Q l' a w) : TrP P l.toArray Q S n .tail a w := by
  subst hl
  simpa [TrP] using h
end

end Go.Proofs.Ytmlgahambecamaa
