/- What Torn says, of the plain functions. -/
import Derived.Test.YtnnmppnbkplamaaPlain
namespace Go.Proofs.Ytnnmppnbkplamaa
open Go.RowKit Go.Shelf

/-- How many bytes differ among the first k. -/
def cntD (a b : List UInt8) (k : Nat) : Nat := ((List.range k).filter fun j => !decide (a[j]? = b[j]?)).length
theorem cntD_succ (a b : List UInt8) (k : Nat) : cntD a b (k + 1) = cntD a b k + if a[k]? = b[k]? then 0 else 1 := by
  unfold cntD
  rw [List.range_succ, List.filter_append, List.length_append]
  congr 1
  by_cases h : a[k]? = b[k]?
  · rw [if_pos h]; simp [h]
  · rw [if_neg h]; simp [h]
theorem cntD_same (b : List UInt8) (k : Nat) : cntD b b k = 0 := by
  induction k with
  | zero => rfl
  | succ k ih => rw [cntD_succ, ih, if_pos rfl]
theorem torn_len (b : List UInt8) : (torn b).length = b.length := by unfold torn; simp
theorem cntD_torn (b : List UInt8) (k : Nat) : cntD (torn b) b k ≤ if b.length / 2 < k then 1 else 0 := by
  induction k with
  | zero => exact Nat.zero_le _
  | succ k ih =>
    rw [cntD_succ]
    by_cases hk : b.length / 2 = k
    · have h1 : ¬ b.length / 2 < k := by omega
      have h2 : b.length / 2 < k + 1 := by omega
      rw [if_neg h1] at ih
      rw [if_pos h2]
      split <;> omega
    · have e : (torn b)[k]? = b[k]? := by
        unfold torn
        rw [List.getElem?_modify]
        simp [hk]
      rw [if_pos e]
      refine Nat.le_trans ih ?_
      by_cases h1 : b.length / 2 < k
      · have h2 : b.length / 2 < k + 1 := by omega
        rw [if_pos h1, if_pos h2]
        omega
      · rw [if_neg h1]
        exact Nat.zero_le _

theorem torn_cases (L : List Oc) (calls : Int) (fs : List Ft) (s : ByteArray) : ((getR L calls fs s).2.2 ≠ 0 ∧ (getR L calls fs s).2.1 = []) ∨
    ((getR L calls fs s).2.2 = 0 ∧ (byR L s).2 = true ∧ (getR L calls fs s).2.1.length = (byR L s).1.length ∧ cntD (getR L calls fs s).2.1 (byR L s).1 (byR L s).1.length ≤ 1 ∧ (cntD (getR L calls fs s).2.1 (byR L s).1 (byR L s).1.length = 0 ∨ 0 < fs.length)) := by
  unfold getR
  by_cases he : mayR L calls fs s = 0
  · rw [if_neg (fun h => h he)]
    obtain ⟨hok, hs⟩ := mayR_zero he
    rw [by_ok hok hs]
    unfold getBs getE
    by_cases h12 : faultC calls fs = 1 ∨ faultC calls fs = 2
    · simp only [if_pos h12]
      exact .inl ⟨by decide, trivial⟩
    · simp only [if_neg h12]
      cases hf : findO s L with
      | none => exact .inl ⟨by simp, rfl⟩
      | some o =>
        refine .inr ⟨by simp, rfl, ?_⟩
        by_cases h3 : faultC calls fs = 3
        · have hfs : 0 < fs.length := by
            cases fs with
            | nil =>
              have h0 : faultC calls [] = 0 := rfl
              omega
            | cons => simp
          simp only [h3, Option.map_some, Option.getD_some, if_true]
          refine ⟨torn_len _, Nat.le_trans (cntD_torn _ _) (by split <;> omega), .inr hfs⟩
        · simp only [h3, Option.map_some, Option.getD_some, if_false]
          exact ⟨trivial, by rw [cntD_same]; omega, .inl (cntD_same _ _)⟩
  · rw [if_pos he]
    exact .inl ⟨he, rfl⟩

end Go.Proofs.Ytnnmppnbkplamaa
