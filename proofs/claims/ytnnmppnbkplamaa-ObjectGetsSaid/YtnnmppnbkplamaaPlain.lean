/- What the laws say, of the plain functions. -/
import Derived.Test.YtnnmppnbkplamaaSmall
namespace Go.Proofs.Ytnnmppnbkplamaa
open Go.RowKit Go.Shelf

theorem mayR_zero {L : List Oc} {calls : Int} {fs : List Ft} {s : ByteArray} (h : mayR L calls fs s = 0) : OkL L ∧ nameC s = true := ⟨check_zero (may_ok h).1, (may_ok h).2⟩
theorem mayE_vals {ck : Int} {b : Bool} (hc : ck = 0 ∨ ck = 1 ∨ ck = 2) : mayE ck b = 0 ∨ mayE ck b = 1 ∨ mayE ck b = 2 := by
  unfold mayE
  split
  · split <;> simp
  · exact hc
theorem mayR_vals (L : List Oc) (calls : Int) (fs : List Ft) (s : ByteArray) : mayR L calls fs s = 0 ∨ mayR L calls fs s = 1 ∨ mayR L calls fs s = 2 := mayE_vals (check_vals L calls fs)
theorem mayR_ok {L : List Oc} {s : ByteArray} (h : OkL L) (hs : nameC s = true) : mayR L 0 [] s = 0 := by
  unfold mayR mayE
  rw [zero_check h, if_pos rfl, if_pos hs]
theorem by_ok {L : List Oc} {s : ByteArray} (h : OkL L) (hs : nameC s = true) : byR L s = ((findO s L).map (fun o => (o.bs, true))).getD ([], false) := by
  unfold byR getR
  rw [if_neg (fun hh => hh (mayR_ok h hs))]
  have hf : faultC 0 [] = 0 := rfl
  unfold getBs getE
  rw [hf]
  cases findO s L with
  | none => simp
  | some o => simp
theorem by_no {L : List Oc} {s : ByteArray} (hs : nameC s = false) : byR L s = ([], false) := by
  have hm : mayR L 0 [] s ≠ 0 := fun h => by rw [(may_ok h).2] at hs; cases hs
  unfold byR getR
  rw [if_pos hm]
  simp [hm]
theorem doneE_vals (ft : Int) : (doneE ft = 0 ∧ ft ≠ 1 ∧ ft ≠ 2 ∧ ft ≠ 3) ∨ (doneE ft = 140 ∧ (ft = 1 ∨ ft = 2 ∨ ft = 3)) := by
  unfold doneE
  split
  · exact .inr ⟨rfl, by assumption⟩
  · exact .inl ⟨rfl, by omega⟩

theorem gone_cases (L : List Oc) (calls : Int) (fs : List Ft) (s : ByteArray) : ((delR L calls fs s).2 = 0 ∧ (byR (delR L calls fs s).1.L s).2 = false) ∨ ((delR L calls fs s).2 = 140 ∧ (byR (delR L calls fs s).1.L s).2 = false) ∨
    ((delR L calls fs s).2 = 140 ∧ byR (delR L calls fs s).1.L s = byR L s) ∨ ((delR L calls fs s).2 ≠ 0 ∧ (delR L calls fs s).2 ≠ 140 ∧ (delR L calls fs s).1.c = 0) := by
  unfold delR
  by_cases he : mayR L calls fs s = 0
  · rw [if_neg (fun h => h he)]
    obtain ⟨hok, hs⟩ := mayR_zero he
    unfold delL
    by_cases hf : faultC calls fs = 1 ∨ faultC calls fs = 3
    · simp only [if_pos hf]
      refine .inr (.inr (.inl ⟨?_, trivial⟩))
      unfold doneE
      rw [if_pos (by omega)]
    · simp only [if_neg hf]
      have hb : (byR (L.filter fun x => !decide (x.name = s)) s).2 = false := by rw [by_ok (hok.del _) hs, find_del]; rfl
      rcases doneE_vals (faultC calls fs) with h | h
      · exact .inl ⟨h.1, hb⟩
      · exact .inr (.inl ⟨h.1, hb⟩)
  · rw [if_pos he]
    refine .inr (.inr (.inr ?_))
    rcases mayR_vals L calls fs s with h | h | h
    · exact absurd h he
    · rw [h]; exact ⟨by decide, by decide, rfl⟩
    · rw [h]; exact ⟨by decide, by decide, rfl⟩

theorem there_cases (L : List Oc) (calls : Int) (fs : List Ft) (s : ByteArray) (b : List UInt8) : ((putR L calls fs s b).2 = 0 ∧ byR (putR L calls fs s b).1.L s = (b, true)) ∨ ((putR L calls fs s b).2 = 140 ∧ byR (putR L calls fs s b).1.L s = byR L s) ∨
    ((putR L calls fs s b).2 = 140 ∧ byR (putR L calls fs s b).1.L s = (b, true)) ∨ ((putR L calls fs s b).2 = 140 ∧ byR (putR L calls fs s b).1.L s = (b.take (b.length / 2), true)) ∨
    ((putR L calls fs s b).2 ≠ 0 ∧ (putR L calls fs s b).2 ≠ 140 ∧ (putR L calls fs s b).1.c = 0 ∧ (putR L calls fs s b).1.L = []) := by
  unfold putR
  by_cases he : mayR L calls fs s = 0
  · rw [if_neg (fun h => h he)]
    obtain ⟨hok, hs⟩ := mayR_zero he
    by_cases hb : boundR L s b = true
    · rw [if_pos hb]
      exact .inr (.inr (.inr (.inr ⟨by decide, by decide, rfl, rfl⟩)))
    · rw [if_neg hb]
      have hb' := fun h => hb ((find_dec s L L.length rfl b b.length rfl).2 h)
      have hbl : ¬ 8192 < b.length := fun h => hb' (.inl h)
      have hbn : findO s L = none → L.length < 1024 := fun h => Nat.lt_of_not_le (fun hh => hb' (.inr ⟨h, hh⟩))
      have ins : ∀ b' : List UInt8, b'.length ≤ 8192 → byR (insO s b' L) s = (b', true) := fun b' h8 => by
        rw [by_ok (hok.ins hs h8 hbn) hs, find_ins]; rfl
      unfold putL putBs
      by_cases f1 : faultC calls fs = 1
      · simp only [f1]
        exact .inr (.inl ⟨rfl, rfl⟩)
      · by_cases f3 : faultC calls fs = 3
        · simp only [f3]
          refine .inr (.inr (.inr (.inl ⟨rfl, ?_⟩)))
          exact ins (b.take (b.length / 2)) (by rw [List.length_take]; omega)
        · simp only [if_neg f1, if_neg f3]
          rcases doneE_vals (faultC calls fs) with h | h
          · exact .inl ⟨h.1, ins b (by omega)⟩
          · exact .inr (.inr (.inl ⟨h.1, ins b (by omega)⟩))
  · rw [if_pos he]
    refine .inr (.inr (.inr (.inr ?_)))
    rcases mayR_vals L calls fs s with h | h | h
    · exact absurd h he
    · rw [h]; exact ⟨by decide, by decide, rfl, rfl⟩
    · rw [h]; exact ⟨by decide, by decide, rfl, rfl⟩

theorem others_put (L : List Oc) (calls : Int) (fs : List Ft) (s o : ByteArray) (b : List UInt8) (hne : ¬ o = s) (h : (putR L calls fs s b).2 = 0 ∨ (putR L calls fs s b).2 = 140) : byR (putR L calls fs s b).1.L o = byR L o := by
  unfold putR at h ⊢
  by_cases he : mayR L calls fs s = 0
  · rw [if_neg (fun h => h he)] at h ⊢
    obtain ⟨hok, hs⟩ := mayR_zero he
    by_cases hb : boundR L s b = true
    · rw [if_pos hb] at h; rcases h with h | h <;> cases h
    · rw [if_neg hb]
      have hb' := fun h => hb ((find_dec s L L.length rfl b b.length rfl).2 h)
      have hbl : ¬ 8192 < b.length := fun h => hb' (.inl h)
      have hbn : findO s L = none → L.length < 1024 := fun h => Nat.lt_of_not_le (fun hh => hb' (.inr ⟨h, hh⟩))
      unfold putL
      simp only
      split
      · rfl
      · cases ho : nameC o with
        | false => rw [by_no ho, by_no ho]
        | true =>
          rw [by_ok (hok.ins hs (by unfold putBs; split; rw [List.length_take]; omega; omega) hbn) ho, by_ok hok ho, find_ins_other _ _ hne]
  · rw [if_pos he] at h
    rcases mayR_vals L calls fs s with h' | h' | h' <;> simp only [h'] at h <;> omega
theorem others_del (L : List Oc) (calls : Int) (fs : List Ft) (s o : ByteArray) (hne : ¬ o = s) (h : (delR L calls fs s).2 = 0 ∨ (delR L calls fs s).2 = 140) : byR (delR L calls fs s).1.L o = byR L o := by
  unfold delR at h ⊢
  by_cases he : mayR L calls fs s = 0
  · rw [if_neg (fun h => h he)] at h ⊢
    obtain ⟨hok, hs⟩ := mayR_zero he
    unfold delL
    simp only
    split
    · rfl
    · cases ho : nameC o with
      | false => rw [by_no ho, by_no ho]
      | true => rw [by_ok (hok.del _) ho, by_ok hok ho, find_del_other _ hne]
  · rw [if_pos he] at h
    rcases mayR_vals L calls fs s with h' | h' | h' <;> simp only [h'] at h <;> omega
theorem others_get (L : List Oc) (calls : Int) (fs : List Ft) (s : ByteArray) (h : (getR L calls fs s).2.2 = 0 ∨ (getR L calls fs s).2.2 = 140 ∨ (getR L calls fs s).2.2 = 141) : (getR L calls fs s).1.L = L := by
  unfold getR at h ⊢
  by_cases he : mayR L calls fs s = 0
  · rw [if_neg (fun h => h he)]
  · rw [if_pos he] at h
    rcases mayR_vals L calls fs s with h' | h' | h' <;> simp only [h'] at h <;> omega
theorem others_list (L : List Oc) (calls : Int) (fs : List Ft) (p : ByteArray) (h : (listR L calls fs p).2.2 = 0 ∨ (listR L calls fs p).2.2 = 140) : (listR L calls fs p).1.L = L := by
  unfold listR at h ⊢
  simp only at h ⊢
  by_cases he : mayE (checkO L calls fs) (decide (p.size ≤ 64)) = 0
  · rw [if_neg (fun h => h he)]
  · rw [if_pos he] at h
    rcases mayE_vals (b := decide (p.size ≤ 64)) (check_vals L calls fs) with h' | h' | h' <;> simp only [h'] at h <;> omega

end Go.Proofs.Ytnnmppnbkplamaa
