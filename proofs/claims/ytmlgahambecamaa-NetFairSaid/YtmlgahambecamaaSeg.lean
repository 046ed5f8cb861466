/- A region that draws its order, whose loads may be taken first, whose other operations wait for one another, and whose last ones wait for all: walked once; of no function. -/
import Derived.Test.YtmlgahambecamaaSlc
import Derived.StillTail
import Derived.Deep.RegionHeld3
namespace Go.Proofs.Ytmlgahambecamaa
open Go.RowKit

section
variable {P : Program} {ops : Array Oper} {Q : Exit → Act → World → Prop} {md : Region.Mode} {S : World → Prop} {n : Nat}

/-- Whatever comes up ahead of the tail: it is of the head; behind it S holds. -/
def headAny (P : Program) (md : Region.Mode) (ops : Array Oper) (Q : Exit → Act → World → Prop) (S : World → Prop) (n : Nat) (L : Array Bool → Act → World → Prop) : Nat → Array Bool → Act → World → Prop
  | 0, listed, a, w => L listed a w
  | f + 1, listed, a, w => Region.ready md ops listed ≠ [] ∧ ∀ i ∈ Region.ready md ops listed, i < n ∧ wpOp P ops (NoPanic Q) i (fun a' w' => S w' ∧ headAny P md ops Q S n L f (listed.setIfInBounds i true) a' w') a w

theorem wpOp_calm {i : Nat} {a : Act} {w : World} {K : Act → World → Prop} (h : wpOp P ops (NoPanic Q) i K a w) : wpOp P ops Q i K a w := by
  have hout : LetsOut (NoPanic Q) → LetsOut Q := fun ⟨a, w, h⟩ => ⟨a, w, h⟩
  unfold wpOp at *
  split
  · simpa [*] using h
  · rename_i o ho
    simp only [ho] at h
    split
    · rename_i hw
      simp only [hw, if_true] at h
      refine h.imp (fun h => ?_) (fun h => ⟨h.1, hout h.2⟩)
      unfold Oper.wp at *
      generalize (execOp a.eval o).run P w = r at *
      cases r with
      | ok nx w' =>
        cases nx <;> simp only [Oper.upon] at h ⊢ <;> first | exact h | exact Calls.mono h (fun e w'' he => by cases e <;> first | exact he | exact (he : False).elim | exact hout he)
      | halt x w' => cases x <;> simp only [Oper.upon] at h ⊢ <;> first | exact h | exact (h : False).elim
    · rename_i hw; simp only [hw] at h; exact h

theorem any_of_head {g : Nat} {L : Array Bool → Act → World → Prop} (hL : ∀ listed a w, L listed a w → wpAny P md ops Q g listed a w) :
    ∀ (f : Nat) (listed : Array Bool) (a : Act) (w : World), headAny P md ops Q S n L f listed a w → wpAny P md ops Q (f + g) listed a w
  | 0, listed, a, w, h => by rw [Nat.zero_add]; exact hL _ _ _ h
  | f + 1, listed, a, w, h => by
    rw [show f + 1 + g = (f + g) + 1 by omega]
    exact ⟨fun h0 => absurd h0 h.1, fun i hi => wpOp_calm (wpOp_mono (fun a' w' h' => any_of_head hL f _ a' w' h'.2) (h.2 i hi).2)⟩

theorem head_first {i : Nat} {oi : Oper} {v : Value} {L : Array Bool → Act → World → Prop} (hi : ops[i]? = some oi) (hsel : ∀ (j : Nat) (o : Oper) cs b, ops[j]? = some o → o.op ≠ .select cs b)
    (hs : Region.sinkB md ops n = true) (hc : Region.chainB md ops n = true) (hn : n < ops.size) (hin : i < n)
    (hdone : ∀ listed a w, L listed a w → ∀ j ∈ Region.ready md ops listed, n ≤ j) :
    ∀ (f : Nat) (listed : Array Bool) (a : Act) (w : World), HeadInv md ops n listed →
      (∀ j oj, ops[j]? = some oj → j ≠ i → listed.getD j true = false → (∀ e ∈ oj.after, Region.binds md e = true → e.on ≠ i) → oi.apart ops oj = true) →
      i ∈ Region.ready md ops listed → YieldsIf P ops S oi v a → S w →
      headAny P md ops Q S n L f (listed.setIfInBounds i true) (a.put oi.dst v) w → headAny P md ops Q S n L (f + 1) listed a w := by
  intro f
  induction f with
  | zero =>
    intro listed a w inv _ hr hy hS H
    have hun := (mem_ready.1 hr).1
    refine ⟨fun h => (by rw [h] at hr; cases hr), fun j hj => ?_⟩
    have hjn : j < n := by
      rcases Nat.lt_or_ge j n with h | h
      · exact h
      · exact absurd hj (tail_waits hs hc hn inv _ i rfl hin hun j h)
    refine ⟨hjn, ?_⟩
    by_cases hji : j = i
    · subst hji; exact hy.wpOp hi hS ⟨hS, H⟩
    · have := hdone _ _ _ H j (ready_mono hj hji)
      omega
  | succ f ih =>
    intro listed a w inv hfree hr hy hS H
    have hun := (mem_ready.1 hr).1
    refine ⟨fun h => (by rw [h] at hr; cases hr), fun j hj => ?_⟩
    have hjn : j < n := by
      rcases Nat.lt_or_ge j n with h | h
      · exact h
      · exact absurd hj (tail_waits hs hc hn inv _ i rfl hin hun j h)
    refine ⟨hjn, ?_⟩
    by_cases hji : j = i
    · subst hji; exact hy.wpOp hi hS ⟨hS, H⟩
    · have h1 := (H.2 j (ready_mono hj hji)).2
      obtain ⟨hjun, oj, hoj, hall⟩ := mem_ready.1 hj
      have hnot : ∀ e ∈ oj.after, Region.binds md e = true → e.on ≠ i := fun e he hb heq => by
        have h1 := hall e he hb
        rw [heq, getD_both hun] at h1
        cases h1
      have h2 := wpOp_putIf hoj (hfree j oj hoj hji hjun hnot) (fun cs b => hsel i oi cs b hi) (fun cs b => hsel j oj cs b hoj) (fun _ _ _ h => h) hy h1
      have hfree' : ∀ k ok, ops[k]? = some ok → k ≠ i → (listed.setIfInBounds j true).getD k true = false →
          (∀ e ∈ ok.after, Region.binds md e = true → e.on ≠ i) → oi.apart ops ok = true := fun k ok hk hki hun hno => by
        refine hfree k ok hk hki ?_ hno
        by_cases hjk : j = k
        · subst hjk; exact hjun
        · rw [getD_set_ne true hjk] at hun; exact hun
      refine wpOp_mono (fun a' w' h3 => ⟨h3.2.1, ih (listed.setIfInBounds j true) a' w' (inv.set hj hjn) hfree' (ready_mono hr (Ne.symm hji)) h3.1 h3.2.1 ?_⟩) h2
      rw [Array.setIfInBounds_comm _ _ hji]
      exact h3.2.2

/-- The walk: (i, true): number i is taken first; (i, false): it is carried out; behind all of them the tail. -/
def Seg (P : Program) (ops : Array Oper) (Q : Exit → Act → World → Prop) (S : World → Prop) (n : Nat) : List (Nat × Bool) → Act → World → Prop
  | [], a, w => wpList P ops Q (ops.toList.drop n) a w
  | (i, true) :: r, a, w => ∃ oi, ops[i]? = some oi ∧ ∃ v, YieldsIf P ops S oi v a ∧ Seg P ops Q S n r (a.put oi.dst v) w
  | (i, false) :: r, a, w => wpOp P ops (NoPanic Q) i (fun a' w' => S w' ∧ Seg P ops Q S n r a' w') a w

/-- May it go in this order? -/
def segB (md : Region.Mode) (ops : Array Oper) (n : Nat) : List (Nat × Bool) → Array Bool → Bool
  | [], listed => Region.seqB md ops (ops.size - n) n listed
  | (i, true) :: r, listed => decide (i < n) && (Region.ready md ops listed).contains i && Region.free md ops listed i && segB md ops n r (listed.setIfInBounds i true)
  | (i, false) :: r, listed => decide (i < n) && decide (Region.ready md ops listed = [i]) && segB md ops n r (listed.setIfInBounds i true)
def segAll (md : Region.Mode) (ops : Array Oper) (n : Nat) (o : List (Nat × Bool)) : Bool :=
  Region.noSelect ops && decide (n < ops.size) && decide (o.length = n) && Region.sinkB md ops n && Region.chainB md ops n && segB md ops n o (Array.replicate ops.size false)

theorem head_of_seg (hsel : Region.noSelect ops = true) (hs : Region.sinkB md ops n = true) (hc : Region.chainB md ops n = true) (hn : n < ops.size) :
    ∀ (o : List (Nat × Bool)) (listed : Array Bool) (a : Act) (w : World), HeadInv md ops n listed → segB md ops n o listed = true → S w → Seg P ops Q S n o a w →
    headAny P md ops Q S n (fun listed' a' w' => Region.seqB md ops (ops.size - n) n listed' = true ∧ wpList P ops Q (ops.toList.drop n) a' w') o.length listed a w
  | [], _, _, _, _, hB, _, h => ⟨hB, h⟩
  | (i, true) :: r, listed, a, w, inv, hB, hS, h => by
    simp only [segB, Bool.and_eq_true, decide_eq_true_eq] at hB
    obtain ⟨⟨⟨hin, hr⟩, hf⟩, hB'⟩ := hB
    obtain ⟨oi, hi, v, hy, hK⟩ := h
    have hr' : i ∈ Region.ready md ops listed := by simpa using hr
    exact head_first hi (Region.noSelect_spec hsel) hs hc hn hin (fun _ _ _ hL => seqB_ready hL.1) r.length listed a w inv (Region.free_spec hi hf) hr' hy hS
      (head_of_seg hsel hs hc hn r _ _ w (inv.set hr' hin) hB' hS hK)
  | (i, false) :: r, listed, a, w, inv, hB, hS, h => by
    simp only [segB, Bool.and_eq_true, decide_eq_true_eq] at hB
    obtain ⟨⟨hin, hr⟩, hB'⟩ := hB
    refine ⟨by rw [hr]; simp, fun j hj => ?_⟩
    rw [hr] at hj
    obtain rfl : j = i := by simpa using hj
    have hr' : j ∈ Region.ready md ops listed := by rw [hr]; simp
    exact ⟨hin, wpOp_mono (fun a' w' ⟨h1, h2⟩ => ⟨h1, head_of_seg hsel hs hc hn r _ a' w' (inv.set hr' hin) hB' h1 h2⟩) h⟩

/-- THE REGION, by one walk in the order that is named. -/
theorem region_seg {id : Nat} {a : Act} {w : World} {l : List Oper} (S : World → Prop) (n : Nat) (o : List (Nat × Bool)) (hm : P.follows .mixedOrders = true) (hB : segAll .any l.toArray n o = true)
    (hS : S w.drew) (h : S w.drew → Seg P l.toArray Q S n o a w.drew) : (Code.region id l.toArray true).wp P Q a w := by
  simp only [segAll, Bool.and_eq_true, decide_eq_true_eq] at hB
  obtain ⟨⟨⟨⟨⟨hsel, hn⟩, ho⟩, hs⟩, hc⟩, hb⟩ := hB
  have inv0 : HeadInv .any l.toArray n (Array.replicate l.toArray.size false) :=
    ⟨by simp, fun j oj _ hl => (by rw [getD_replicate_false] at hl; cases hl), fun t _ ht => getD_in (by simpa using ht) (getD_replicate_false _ _)⟩
  have H := head_of_seg (P := P) (S := S) hsel hs hc hn o _ a w.drew inv0 hb hS (h hS)
  refine wp_region_any hm ?_
  have hdl : (l.toArray.toList.drop n).length = l.toArray.size - n := by simp
  have := any_of_head (g := l.toArray.size - n) (fun listed a' w' (hL : Region.seqB .any l.toArray (l.toArray.size - n) n listed = true ∧ wpList P l.toArray Q (l.toArray.toList.drop n) a' w') => by
    have := wpAny_of_seq (md := .any) (Q' := Q) (l.toArray.toList.drop n) n listed a' w' (fun j => by simp [List.getElem?_drop]) (by rw [hdl]; exact hL.1) hL.2
    rwa [hdl] at this) _ _ _ _ H
  rw [ho, show n + (l.toArray.size - n) = l.toArray.size by omega] at this
  exact this

/-- Number i is taken first. -/
theorem seg_take {i : Nat} {oi : Oper} {v : Value} {r : List (Nat × Bool)} {a : Act} {w : World} (hi : ops[i]? = some oi) (hy : YieldsIf P ops S oi v a) (h : Seg P ops Q S n r (a.put oi.dst v) w) : Seg P ops Q S n ((i, true) :: r) a w :=
  ⟨oi, hi, v, hy, h⟩
/-- Number i is carried out. -/
theorem seg_op {i : Nat} {oi : Oper} {r : List (Nat × Bool)} {a : Act} {w : World} (hi : ops[i]? = some oi)
    (h : ∀ K : Exit → Act → World → Prop, Shut (∀ a w, S w → (S w → Seg P ops Q S n r a w) → K .normal a w) → wpList P ops K [oi] a w) : Seg P ops Q S n ((i, false) :: r) a w := by
  show wpOp P ops (NoPanic Q) i _ a w
  have H := h (fun x a w => match x with | .normal => S w ∧ Seg P ops Q S n r a w | x => NoPanic Q x a w) (fun a w hS hK => ⟨hS, hK hS⟩)
  unfold wpOp
  simp only [hi]
  unfold wpList at H
  by_cases hw : Region.wanted oi (yielded ops a.tmps) = true
  · rw [if_pos hw] at H ⊢
    rcases H with H | ⟨H1, a0, w0, H2⟩
    · refine .inl ?_
      unfold Oper.wp at H ⊢
      generalize (execOp a.eval oi).run P w = res at H
      cases res with
      | ok nx w' =>
        cases nx <;> simp only [Oper.upon] at H ⊢
        case value => exact H
        case skip => exact H
        case defer => exact H
        case enter f args => exact Calls.mono H fun e w'' he => by cases e <;> first | exact he | (obtain ⟨a1, w1, h1⟩ := he; exact ⟨a1, w1, h1⟩)
        case row row args => exact Rows.mono H fun v w'' he => he
      | halt x w' => cases x <;> simp only [Oper.upon] at H ⊢ <;> exact H
    · exact .inr ⟨H1, a0, w0, H2⟩
  · rw [if_neg hw] at H ⊢
    exact H
/-- The tail. -/
theorem seg_tail {l l' : List Oper} {a : Act} {w : World} (hl : l.drop n = l') (h : wpList P l.toArray Q l' a w) : Seg P l.toArray Q S n [] a w := by
  subst hl
  simpa [Seg] using h
end

end Go.Proofs.Ytmlgahambecamaa
