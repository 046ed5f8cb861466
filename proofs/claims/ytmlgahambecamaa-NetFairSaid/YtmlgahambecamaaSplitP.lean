/- A way cut, and healed: what is open, in plain words. -/
import Derived.Test.YtmlgahambecamaaChkP
namespace Go.Proofs.Ytmlgahambecamaa

theorem pair_comm (a b : Int) : pairP a b = pairP b a := by
  unfold pairP
  rw [Pr.mk.injEq]
  omega
theorem pair_eq {a b c d : Int} : pairP c d = pairP a b ↔ (c = a ∧ d = b) ∨ (c = b ∧ d = a) := by
  unfold pairP
  rw [Pr.mk.injEq]
  omega
/-- The ways behind a cut, or a healing. -/
def waysC (C : List Pr) (p : Pr) (yes : Bool) : List Pr := C.filter (fun c => ltP c p) ++ (if yes = true then [p] else []) ++ C.filter (fun c => ltP p c)
theorem mem_waysC {C : List Pr} {p : Pr} {yes : Bool} {x : Pr} : x ∈ waysC C p yes ↔ (x ∈ C ∧ x ≠ p) ∨ (yes = true ∧ x = p) := by
  unfold waysC
  rw [List.mem_append, List.mem_append, List.mem_filter, List.mem_filter]
  constructor
  · rintro ((⟨h1, h2⟩ | h) | ⟨h1, h2⟩)
    · exact .inl ⟨h1, fun e => by rw [e, ltP_irr] at h2; cases h2⟩
    · cases yes with
      | false => simp at h
      | true => exact .inr ⟨rfl, by simpa using h⟩
    · exact .inl ⟨h1, fun e => by rw [e, ltP_irr] at h2; cases h2⟩
  · rintro (⟨h1, h2⟩ | ⟨rfl, rfl⟩)
    · rcases ltP_cases x p with h | h | h
      · exact .inl (.inl ⟨h1, h⟩)
      · exact absurd h h2
      · exact .inr ⟨h1, h⟩
    · exact .inl (.inr (by simp))
theorem cutB_mem {C : List Pr} {a b : Int} : cutB C a b = true ↔ pairP a b ∈ C := by
  unfold cutB
  rw [List.any_eq_true]
  constructor
  · rintro ⟨c, hc, h⟩
    rw [decide_eq_true_eq] at h
    rw [← h]
    exact hc
  · intro h
    exact ⟨_, h, decide_eq_true rfl⟩
theorem cutB_ways {C : List Pr} {p : Pr} {yes : Bool} {c d : Int} : cutB (waysC C p yes) c d = if pairP c d = p then yes else cutB C c d := by
  by_cases h : pairP c d = p
  · rw [if_pos h]
    cases yes with
    | true => exact cutB_mem.2 (mem_waysC.2 (.inr ⟨rfl, h⟩))
    | false =>
      cases e : cutB (waysC C p false) c d with
      | false => rfl
      | true =>
        rcases mem_waysC.1 (cutB_mem.1 e) with ⟨_, h2⟩ | ⟨h2, _⟩
        · exact absurd h h2
        · cases h2
  · rw [if_neg h]
    cases e : cutB C c d with
    | true => exact cutB_mem.2 (mem_waysC.2 (.inl ⟨cutB_mem.1 e, h⟩))
    | false =>
      cases e2 : cutB (waysC C p yes) c d with
      | false => rfl
      | true =>
        rcases mem_waysC.1 (cutB_mem.1 e2) with ⟨h2, _⟩ | ⟨_, h2⟩
        · rw [cutB_mem.2 h2] at e; cases e
        · exact absurd h2 h
theorem waysC_len (C : List Pr) (p : Pr) (yes : Bool) : (waysC C p yes).length ≤ C.length + 1 := by
  unfold waysC
  rw [List.length_append, List.length_append]
  have h : (C.filter fun c => ltP c p).length + (C.filter fun c => ltP p c).length ≤ C.length := by
    induction C with
    | nil => simp
    | cons x C ih =>
      rw [List.filter_cons, List.filter_cons]
      by_cases h1 : ltP x p = true
      · rw [if_pos h1, if_neg (by rw [ltP_asym h1]; simp)]
        simp only [List.length_cons]; omega
      · rw [if_neg h1]
        by_cases h2 : ltP p x = true
        · rw [if_pos h2]; simp only [List.length_cons]; omega
        · rw [if_neg h2]; simp only [List.length_cons]; omega
  have h2 : (if yes = true then [p] else []).length ≤ 1 := by cases yes <;> simp
  omega
theorem waysC_pair {C : List Pr} {p : Pr} {yes : Bool} (h : C.Pairwise (fun x y => ltP x y = true)) : (waysC C p yes).Pairwise (fun x y => ltP x y = true) := by
  unfold waysC
  rw [List.pairwise_append, List.pairwise_append]
  refine ⟨⟨h.filter _, by cases yes <;> simp, fun x hx y hy => ?_⟩, h.filter _, fun x hx y hy => ?_⟩
  · obtain ⟨_, h1⟩ := List.mem_filter.1 hx
    cases yes with
    | false => simp at hy
    | true => rw [show y = p by simpa using hy]; exact h1
  · obtain ⟨_, h2⟩ := List.mem_filter.1 hy
    rcases List.mem_append.1 hx with hx | hx
    · exact ltP_trans (List.mem_filter.1 hx).2 h2
    · cases yes with
      | false => simp at hx
      | true => rw [show x = p by simpa using hx]; exact h2
theorem ways_check {n : Nv} {a b : Int} {yes : Bool} (h : checkB n = true) (ha : endB n.K.length a = true) (hb : endB n.K.length b = true) (hab : a ≠ b) : checkB { n with C := waysC n.C (pairP a b) yes } = true := by
  obtain ⟨h1, h2, h3, ⟨h4, h5⟩, h6⟩ := (chk_iff n).1 h
  refine (chk_iff _).2 ⟨h1, h2, h3, ⟨fun c hc => ?_, waysC_pair h5⟩, h6⟩
  rcases mem_waysC.1 hc with ⟨hc, _⟩ | ⟨_, rfl⟩
  · exact h4 c hc
  · unfold CutOk pairP
    unfold endB at *
    simp only [Bool.and_eq_true, decide_eq_true_eq] at *
    omega
/-- What becomes of a cut, or a healing. -/
theorem ways_cases (n : Nv) (a b : Int) (yes : Bool) : (waysV n a b yes = (noV, 1) ∧ ¬ (checkB n = true ∧ endB n.K.length a = true ∧ endB n.K.length b = true ∧ a ≠ b)) ∨
    (checkB n = true ∧ endB n.K.length a = true ∧ endB n.K.length b = true ∧ a ≠ b ∧ waysV n a b yes = ({ n with C := waysC n.C (pairP a b) yes }, 0) ∧ checkB { n with C := waysC n.C (pairP a b) yes } = true) := by
  by_cases h : checkB n = true ∧ endB n.K.length a = true ∧ endB n.K.length b = true ∧ a ≠ b
  · refine .inr ⟨h.1, h.2.1, h.2.2.1, h.2.2.2, ?_, ways_check h.1 h.2.1 h.2.2.1 h.2.2.2⟩
    unfold waysV
    rw [if_pos h]
    rfl
  · refine .inl ⟨?_, h⟩
    unfold waysV
    rw [if_neg h]
/-- A way cut: what the law asks. -/
theorem split_law {n : Nv} {a b : Int} (hc : checkB n = true) (ha : endB n.K.length a = true) (hb : endB n.K.length b = true) (hab : a ≠ b) {V1 : Nv} (h1 : V1 = { n with C := waysC n.C (pairP a b) true }) :
    ∃ V2 : Nv, waysV V1 b a false = (V2, 0) ∧ V2.L = n.L ∧ V2.S = n.S ∧ V2.K = n.K ∧ V2.C.length ≤ n.C.length + 2 ∧ openB V1 a b = false ∧ openB V1 b a = false ∧ openB V2 a b = true ∧ openB V2 b a = true ∧
      (∀ c d, (c ≠ a ∨ d ≠ b) → (c ≠ b ∨ d ≠ a) → openB V1 c d = openB n c d ∧ openB V2 c d = openB n c d) ∧ (∀ t bs V g, sendV V1 a b t bs = (V, g) → g ≠ 0 ∨ V.L.length = V1.L.length) := by
  have k1 : checkB V1 = true := by rw [h1]; exact ways_check hc ha hb hab
  have k2 : checkB { V1 with C := waysC V1.C (pairP b a) false } = true := ways_check k1 (by rw [h1]; exact hb) (by rw [h1]; exact ha) (fun e => hab e.symm)
  have e2 : waysV V1 b a false = ({ V1 with C := waysC V1.C (pairP b a) false }, 0) := by
    unfold waysV
    rw [if_pos ⟨k1, by rw [h1]; exact hb, by rw [h1]; exact ha, fun e => hab e.symm⟩]
    rfl
  have eC : V1.C = waysC n.C (pairP a b) true := by rw [h1]
  have o1 : ∀ c d, openB V1 c d = (endB n.K.length c && endB n.K.length d && (decide (c = d) || !(if pairP c d = pairP a b then true else cutB n.C c d))) := fun c d => by
    unfold openB
    rw [k1, eC, cutB_ways, h1]
    simp
  have o2 : ∀ c d, openB { V1 with C := waysC V1.C (pairP b a) false } c d = (endB n.K.length c && endB n.K.length d && (decide (c = d) || !(if pairP c d = pairP a b then false else cutB n.C c d))) := fun c d => by
    unfold openB
    rw [k2]
    simp only
    rw [cutB_ways, eC, cutB_ways, pair_comm b a, h1]
    by_cases h : pairP c d = pairP a b
    · rw [if_pos h, if_pos h]; simp
    · rw [if_neg h, if_neg h, if_neg h]; simp
  have o0 : ∀ c d, openB n c d = (endB n.K.length c && endB n.K.length d && (decide (c = d) || !cutB n.C c d)) := fun c d => by
    unfold openB
    rw [hc]
    simp
  refine ⟨_, e2, by rw [h1], by rw [h1], by rw [h1], ?_, ?_, ?_, ?_, ?_, fun c d h2 h3 => ?_, fun t bs V g hs => ?_⟩
  · show (waysC V1.C (pairP b a) false).length ≤ _
    have := waysC_len V1.C (pairP b a) false
    have h2 := waysC_len n.C (pairP a b) true
    rw [← eC] at h2
    omega
  · rw [o1, if_pos rfl, decide_eq_false hab]; simp
  · rw [o1, if_pos (pair_comm b a), decide_eq_false (fun e => hab e.symm)]; simp
  · rw [o2, if_pos rfl, ha, hb]; simp
  · rw [o2, if_pos (pair_comm b a), ha, hb]; simp
  · have hne : ¬ pairP c d = pairP a b := fun e => by rcases pair_eq.1 e with ⟨x, y⟩ | ⟨x, y⟩ <;> omega
    rw [o1, o2, o0, if_neg hne, if_neg hne]
    exact ⟨rfl, rfl⟩
  · have hcut : cutB V1.C a b = true := by rw [eC, cutB_ways, if_pos rfl]
    unfold sendV at hs
    split at hs
    · split at hs
      · injection hs with _ h; left; omega
      · rw [if_pos (.inr hcut)] at hs
        injection hs with h _
        right
        rw [← h]
    · injection hs with _ h; left; omega

end Go.Proofs.Ytmlgahambecamaa
