/- What the document's with makes of a list, step by step. -/
import Derived.Test.YtnnmppnbkplamaaPlain
namespace Go.Proofs.Ytnnmppnbkplamaa
open Go.RowKit Go.Shelf

/-- What stands there behind the first k objects. -/
def withR (s : ByteArray) (b : List UInt8) (done : Bool) (M : List Oc) : List Oc := if done = true then insO s b M else M
/-- Behind the first k: is the new object laid? -/
def laidO (s : ByteArray) (M : List Oc) : Bool := M.any fun x => !decide (cmpS x.name s < 0)

theorem laid_no {s : ByteArray} {M : List Oc} (h : laidO s M = false) : ∀ x ∈ M, cmpS x.name s < 0 := fun x hx => by
  unfold laidO at h
  rw [List.any_eq_false] at h
  have := h x hx
  simpa using this
theorem laid_snoc (s : ByteArray) (M : List Oc) (x : Oc) : laidO s (M ++ [x]) = (laidO s M || !decide (cmpS x.name s < 0)) := by
  unfold laidO; rw [List.any_append]; simp
theorem ins_all {s : ByteArray} {b : List UInt8} {M : List Oc} (h : ∀ x ∈ M, cmpS x.name s < 0) : insO s b M = M ++ [⟨s, b⟩] := by
  unfold insO
  have e1 : M.filter (fun x => decide (cmpS x.name s < 0)) = M := by
    rw [List.filter_eq_self]; intro x hx; exact decide_eq_true (h x hx)
  have e2 : M.filter (fun x => decide (cmpS s x.name < 0)) = [] := by
    rw [List.filter_eq_nil_iff]
    intro x hx
    have := h x hx
    rw [cmpS_swap] at this
    rw [decide_eq_false (by omega)]; decide
  rw [e1, e2]
theorem ins_snoc (s : ByteArray) (b : List UInt8) (M : List Oc) (x : Oc) (hx : ¬ cmpS x.name s < 0) : insO s b (M ++ [x]) = insO s b M ++ (if x.name = s then [] else [x]) := by
  unfold insO
  rw [List.filter_append, List.filter_append]
  have e1 : [x].filter (fun x => decide (cmpS x.name s < 0)) = [] := by
    rw [List.filter_eq_nil_iff]; intro y hy; rw [List.mem_singleton.1 hy, decide_eq_false hx]; decide
  rw [e1, List.append_nil]
  by_cases h : x.name = s
  · have e2 : [x].filter (fun x => decide (cmpS s x.name < 0)) = [] := by
      rw [List.filter_eq_nil_iff]; intro y hy; rw [List.mem_singleton.1 hy, h, cmpS_self]; decide
    rw [e2, if_pos h]
    simp
  · have h0 : cmpS x.name s ≠ 0 := fun e => h (cmpS_eq.1 e)
    have e2 : [x].filter (fun x => decide (cmpS s x.name < 0)) = [x] := by
      rw [List.filter_eq_self]; intro y hy; rw [List.mem_singleton.1 hy]
      have := cmpS_swap x.name s
      exact decide_eq_true (by omega)
    rw [e2, if_neg h]
    simp
/-- One object more. -/
theorem with_step (s : ByteArray) (b : List UInt8) (M : List Oc) (x : Oc) (up : (M ++ [x]).Pairwise fun x y => cmpS x.name y.name < 0) :
    (laidO s M = true → ¬ cmpS x.name s < 0 ∧ ¬ x.name = s ∧ withR s b true (M ++ [x]) = withR s b true M ++ [x]) ∧
    (laidO s M = false → cmpS x.name s < 0 → withR s b false (M ++ [x]) = M ++ [x] ∧ ¬ x.name = s) ∧
    (laidO s M = false → ¬ cmpS x.name s < 0 → withR s b true (M ++ [x]) = (M ++ [⟨s, b⟩]) ++ (if x.name = s then [] else [x])) := by
  refine ⟨fun h => ?_, fun h hx => ⟨rfl, fun e => by rw [e, cmpS_self] at hx; omega⟩, fun h hx => ?_⟩
  · unfold laidO at h
    obtain ⟨y, hy, hd⟩ := List.any_eq_true.1 h
    have hy1 : ¬ cmpS y.name s < 0 := by simpa using hd
    have hy2 : cmpS y.name x.name < 0 := (List.pairwise_append.1 up).2.2 y hy x (List.mem_singleton.2 rfl)
    have hsx : cmpS s x.name < 0 := by
      by_cases e : y.name = s
      · rw [e] at hy2; exact hy2
      · have h0 : cmpS y.name s ≠ 0 := fun e2 => e (cmpS_eq.1 e2)
        have := cmpS_swap y.name s
        exact cmpS_trans (by omega) hy2
    have hns : ¬ cmpS x.name s < 0 := by have := cmpS_swap x.name s; omega
    have hne : ¬ x.name = s := fun e => by rw [e, cmpS_self] at hsx; omega
    refine ⟨hns, hne, ?_⟩
    unfold withR
    rw [if_pos rfl, if_pos rfl, ins_snoc _ _ _ _ hns, if_neg hne]
  · unfold withR
    rw [if_pos rfl, ins_snoc _ _ _ _ hx, ins_all (laid_no h)]
/-- The whole. -/
theorem with_all (s : ByteArray) (b : List UInt8) (M : List Oc) (h : laidO s M = false) : withR s b false M ++ [⟨s, b⟩] = insO s b M := by
  unfold withR
  rw [if_neg (by decide), ins_all (laid_no h)]

/-- How the walk spells 'no earlier than'. -/
theorem ge_eq (a s : ByteArray) : (Op.bytesLess s.toList a.toList || s.toList == a.toList) = !decide (cmpS a s < 0) := by
  have := leS_eq s a
  unfold leS at this
  rw [this]
  by_cases h : cmpS a s < 0
  · rw [decide_eq_true h, decide_eq_false (fun hh => hh h)]; rfl
  · rw [decide_eq_false h, decide_eq_true h]; rfl

end Go.Proofs.Ytnnmppnbkplamaa
