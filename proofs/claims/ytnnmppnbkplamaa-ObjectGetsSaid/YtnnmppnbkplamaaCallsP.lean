/- What Calls says, of the plain functions. -/
import Derived.Test.YtnnmppnbkplamaaPlain
namespace Go.Proofs.Ytnnmppnbkplamaa
open Go.RowKit Go.Shelf

/-- Is a call struck, as a list of faults says? Is it torn? -/
def strF (calls : Int) (fs : List Ft) : Bool := fs.any fun f => decide (f.call = calls)
def torF (calls : Int) (fs : List Ft) : Bool := decide (faultC calls fs = 3)
theorem strF_cons (calls : Int) (f : Ft) (fs : List Ft) : strF calls (f :: fs) = (decide (f.call = calls) || strF calls fs) := rfl
theorem faultC_cons (calls : Int) (f : Ft) (fs : List Ft) : faultC calls (f :: fs) = if f.call = calls then f.kind else faultC calls fs := by
  unfold faultC
  by_cases h : f.call = calls
  · simp [h]
  · simp [h]
theorem torF_cons (calls : Int) (f : Ft) (fs : List Ft) : torF calls (f :: fs) = if f.call = calls then decide (f.kind = 3) else torF calls fs := by
  unfold torF
  rw [faultC_cons]
  split <;> rfl
theorem fault_str {calls : Int} {fs : List Ft} (h : fs.any oddF = false) : (strF calls fs = true ∧ (faultC calls fs = 1 ∨ faultC calls fs = 2 ∨ faultC calls fs = 3)) ∨ (strF calls fs = false ∧ faultC calls fs = 0) := by
  induction fs with
  | nil => exact .inr ⟨rfl, rfl⟩
  | cons f fs ih =>
    rw [List.any_cons, Bool.or_eq_false_iff] at h
    rw [strF_cons, faultC_cons]
    by_cases hc : f.call = calls
    · refine .inl ⟨by rw [decide_eq_true hc]; rfl, ?_⟩
      rw [if_pos hc]
      have := h.1
      unfold oddF at this
      simp only [Bool.or_eq_false_iff, decide_eq_false_iff_not] at this
      omega
    · rw [decide_eq_false hc, if_neg hc, Bool.false_or]
      exact ih h.2

/-- How a call ends: refused; or counted, as its fault says (get: what a torn one says is not told). -/
def OutP (calls : Int) (fs : List Ft) (get : Bool) (x : Sx) (E : Int) : Prop :=
  ((E = 1 ∨ E = 2) ∧ x.c = 0 ∧ x.L = [] ∧ x.fs = []) ∨
  (x.c = calls + 1 ∧ x.fs = fs ∧ 0 ≤ calls ∧ calls < 1099511627776 ∧ ((E = 140 ∧ strF calls fs = true ∧ (get = true → torF calls fs = false)) ∨ ((E = 0 ∨ (get = true ∧ E = 141)) ∧ (strF calls fs = false ∨ (get = true ∧ torF calls fs = true)))))

theorem check_more {L : List Oc} {calls : Int} {fs : List Ft} (h : checkO L calls fs = 0) : 0 ≤ calls ∧ calls < 1099511627776 ∧ fs.any oddF = false := by
  unfold checkO at h
  split at h
  · omega
  · split at h
    · omega
    · rename_i h1 h2
      refine ⟨by omega, by omega, ?_⟩
      cases hq : fs.any oddF
      · rfl
      · exact absurd (.inr (.inr hq)) h2
theorem done_out {calls : Int} {fs : List Ft} (hf : fs.any oddF = false) : (doneE (faultC calls fs) = 140 ∧ strF calls fs = true) ∨ (doneE (faultC calls fs) = 0 ∧ strF calls fs = false) := by
  rcases fault_str hf with ⟨h1, h2⟩ | ⟨h1, h2⟩
  · exact .inl ⟨by unfold doneE; rw [if_pos h2], h1⟩
  · refine .inr ⟨?_, h1⟩
    rw [h2]; rfl
theorem mayE_no {ck : Int} {b : Bool} (hc : ck = 0 ∨ ck = 1 ∨ ck = 2) (h : mayE ck b ≠ 0) : mayE ck b = 1 ∨ mayE ck b = 2 := by
  rcases mayE_vals (b := b) hc with h' | h' | h'
  · exact absurd h' h
  · exact .inl h'
  · exact .inr h'

theorem calls_put (L : List Oc) (calls : Int) (fs : List Ft) (s : ByteArray) (b : List UInt8) : OutP calls fs false (putR L calls fs s b).1 (putR L calls fs s b).2 := by
  unfold putR
  by_cases he : mayR L calls fs s = 0
  · rw [if_neg (fun h => h he)]
    obtain ⟨h1, h2, h3⟩ := check_more (may_ok he).1
    split
    · exact .inl ⟨.inr rfl, rfl, rfl, rfl⟩
    · refine .inr ⟨rfl, rfl, h1, h2, ?_⟩
      rcases done_out (calls := calls) h3 with ⟨h4, h5⟩ | ⟨h4, h5⟩
      · exact .inl ⟨h4, h5, fun h => by cases h⟩
      · exact .inr ⟨.inl h4, .inl h5⟩
  · rw [if_pos he]
    exact .inl ⟨mayE_no (check_vals _ _ _) he, rfl, rfl, rfl⟩
theorem calls_del (L : List Oc) (calls : Int) (fs : List Ft) (s : ByteArray) : OutP calls fs false (delR L calls fs s).1 (delR L calls fs s).2 := by
  unfold delR
  by_cases he : mayR L calls fs s = 0
  · rw [if_neg (fun h => h he)]
    obtain ⟨h1, h2, h3⟩ := check_more (may_ok he).1
    refine .inr ⟨rfl, rfl, h1, h2, ?_⟩
    rcases done_out (calls := calls) h3 with ⟨h4, h5⟩ | ⟨h4, h5⟩
    · exact .inl ⟨h4, h5, fun h => by cases h⟩
    · exact .inr ⟨.inl h4, .inl h5⟩
  · rw [if_pos he]
    exact .inl ⟨mayE_no (check_vals _ _ _) he, rfl, rfl, rfl⟩
theorem calls_list (L : List Oc) (calls : Int) (fs : List Ft) (s : ByteArray) : OutP calls fs false (listR L calls fs s).1 (listR L calls fs s).2.2 := by
  unfold listR
  simp only
  by_cases he : mayE (checkO L calls fs) (decide (s.size ≤ 64)) = 0
  · rw [if_neg (fun h => h he)]
    obtain ⟨h1, h2, h3⟩ := check_more (may_ok he).1
    refine .inr ⟨rfl, rfl, h1, h2, ?_⟩
    rcases done_out (calls := calls) h3 with ⟨h4, h5⟩ | ⟨h4, h5⟩
    · exact .inl ⟨h4, h5, fun h => by cases h⟩
    · exact .inr ⟨.inl h4, .inl h5⟩
  · rw [if_pos he]
    exact .inl ⟨mayE_no (check_vals _ _ _) he, rfl, rfl, rfl⟩
theorem calls_get (L : List Oc) (calls : Int) (fs : List Ft) (s : ByteArray) : OutP calls fs true (getR L calls fs s).1 (getR L calls fs s).2.2 := by
  unfold getR
  by_cases he : mayR L calls fs s = 0
  · rw [if_neg (fun h => h he)]
    obtain ⟨h1, h2, h3⟩ := check_more (may_ok he).1
    refine .inr ⟨rfl, rfl, h1, h2, ?_⟩
    have hE : ∀ ft, ¬ (ft = 1 ∨ ft = 2) → getE L s ft = 0 ∨ getE L s ft = 141 := fun ft h => by
      unfold getE
      rw [if_neg h]
      split <;> simp
    rcases fault_str (calls := calls) h3 with ⟨h4, h5⟩ | ⟨h4, h5⟩
    · by_cases h12 : faultC calls fs = 1 ∨ faultC calls fs = 2
      · exact .inl ⟨by show getE _ _ _ = 140; unfold getE; rw [if_pos h12], h4, fun _ => decide_eq_false (by omega)⟩
      · refine .inr ⟨?_, .inr ⟨rfl, decide_eq_true (by omega)⟩⟩
        rcases hE _ h12 with h | h
        · exact .inl h
        · exact .inr ⟨rfl, h⟩
    · refine .inr ⟨?_, .inl h4⟩
      rcases hE (faultC calls fs) (by omega) with h | h
      · exact .inl h
      · exact .inr ⟨rfl, h⟩
  · rw [if_pos he]
    exact .inl ⟨mayE_no (check_vals _ _ _) he, rfl, rfl, rfl⟩

end Go.Proofs.Ytnnmppnbkplamaa
