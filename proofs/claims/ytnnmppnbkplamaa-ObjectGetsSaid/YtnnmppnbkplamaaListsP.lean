/- What Lists says, of the plain functions. -/
import Derived.Test.YtnnmppnbkplamaaPlain
import Derived.Test.YtnnmppnbkplamaaCallsP
namespace Go.Proofs.Ytnnmppnbkplamaa
open Go.RowKit Go.Shelf

theorem lists_cases (L : List Oc) (calls : Int) (fs : List Ft) (p : ByteArray) : ((listR L calls fs p).2.2 ≠ 0 ∧ (listR L calls fs p).2.1 = [] ∧ ((listR L calls fs p).2.2 ≠ 140 ∨ ((listR L calls fs p).2.2 = 140 ∧ (listR L calls fs p).1.c = calls + 1 ∧ 0 ≤ calls ∧ calls < 1099511627776))) ∨
    ((listR L calls fs p).2.2 = 0 ∧ (listR L calls fs p).2.1 = namesO L p ∧ (listR L calls fs p).1.L = L ∧ OkL L) := by
  unfold listR
  simp only
  by_cases he : mayE (checkO L calls fs) (decide (p.size ≤ 64)) = 0
  · rw [if_neg (fun h => h he)]
    have hok := check_zero (may_ok he).1
    obtain ⟨h1, h2, _⟩ := check_more (may_ok he).1
    rcases doneE_vals (faultC calls fs) with ⟨h, _⟩ | ⟨h, _⟩
    · refine .inr ⟨h, ?_, rfl, hok⟩
      simp only
      rw [if_pos h]
    · refine .inl ⟨by simp only; rw [h]; decide, ?_, .inr ⟨h, rfl, h1, h2⟩⟩
      simp only
      rw [if_neg (by rw [h]; decide)]
  · rw [if_pos he]
    refine .inl ⟨he, rfl, .inl ?_⟩
    rcases mayE_no (check_vals L calls fs) he with h | h <;> (simp only; rw [h]; decide)

theorem names_get {L : List Oc} {p : ByteArray} (h : OkL L) {k : Nat} (hk : k < (namesO L p).length) :
    ∃ b, byR L (namesO L p)[k] = (b, true) ∧ begP (namesO L p)[k] p = true ∧ (∀ j (hj : j < k), cmpS ((namesO L p)[j]'(Nat.lt_trans hj hk)) (namesO L p)[k] < 0) := by
  have hm : (namesO L p)[k] ∈ namesO L p := List.getElem_mem hk
  obtain ⟨x, hx, e⟩ := List.mem_map.1 hm
  obtain ⟨hx1, hx2⟩ := List.mem_filter.1 hx
  have hn := (h.nm x hx1).1
  have hf : ∃ o, findO (namesO L p)[k] L = some o := by
    rw [← Option.isSome_iff_exists, findO, List.find?_isSome]
    exact ⟨x, hx1, decide_eq_true e⟩
  obtain ⟨o, ho⟩ := hf
  refine ⟨o.bs, ?_, by rw [← e]; exact hx2, fun j hj => ?_⟩
  · rw [by_ok h (by rw [← e]; exact hn), ho]; rfl
  · have hp : (namesO L p).Pairwise fun a b => cmpS a b < 0 := by
      unfold namesO
      rw [List.pairwise_map]
      exact h.up.sublist List.filter_sublist
    exact List.pairwise_iff_getElem.1 hp j k _ hk hj
/-- Does a text stand in a list? -/
def inS (s : ByteArray) (l : List ByteArray) : Bool := l.any fun x => decide (x = s)
theorem inS_iff {s : ByteArray} {l : List ByteArray} : inS s l = true ↔ s ∈ l := by
  unfold inS
  rw [List.any_eq_true]
  exact ⟨fun ⟨x, hx, e⟩ => by rw [← of_decide_eq_true e]; exact hx, fun h => ⟨s, h, decide_eq_true rfl⟩⟩
theorem names_mem {L : List Oc} {p s : ByteArray} (h : OkL L) : inS s (namesO L p) = ((byR L s).2 && begP s p) := by
  rw [Bool.eq_iff_iff, Bool.and_eq_true, inS_iff]
  constructor
  · intro hm
    obtain ⟨x, hx, rfl⟩ := List.mem_map.1 hm
    obtain ⟨hx1, hx2⟩ := List.mem_filter.1 hx
    refine ⟨?_, hx2⟩
    have hf : ∃ o, findO x.name L = some o := by
      rw [← Option.isSome_iff_exists, findO, List.find?_isSome]
      exact ⟨x, hx1, decide_eq_true rfl⟩
    obtain ⟨o, ho⟩ := hf
    rw [by_ok h (h.nm x hx1).1, ho]
    rfl
  · rintro ⟨h1, h2⟩
    cases hs : nameC s with
    | false => rw [by_no hs] at h1; cases h1
    | true =>
      rw [by_ok h hs] at h1
      cases hf : findO s L with
      | none => rw [hf] at h1; cases h1
      | some o =>
        have ho : o.name = s := of_decide_eq_true (List.find?_some (p := fun x : Oc => decide (x.name = s)) hf)
        exact List.mem_map.2 ⟨o, List.mem_filter.2 ⟨List.mem_of_find?_eq_some hf, by rw [ho]; exact h2⟩, ho⟩
theorem take_mem {l : List ByteArray} {s : ByteArray} {k : Nat} (hk : k < l.length) : inS s (l.take (k + 1)) = (inS s (l.take k) || decide (l[k] = s)) := by
  unfold inS
  rw [List.take_succ_eq_append_getElem hk, List.any_append]
  simp
/-- A text that is later than another one is not 'no later'. -/
theorem later {a b : ByteArray} (h : cmpS b a < 0) : Op.bytesLess a.toList b.toList = false ∧ (a.toList == b.toList) = false := by
  have := leS_eq a b
  rw [decide_eq_false (fun hh => hh h)] at this
  unfold leS at this
  rw [Bool.or_eq_false_iff] at this
  exact this

end Go.Proofs.Ytnnmppnbkplamaa
