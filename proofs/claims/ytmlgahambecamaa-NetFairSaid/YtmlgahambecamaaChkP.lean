/- Whether a net may be, said of its members; what time, a message, a cut way leave of that. -/
import Derived.Test.YtmlgahambecamaaWaysP
import Derived.Test.YtmlgahambecamaaSendQ
namespace Go.Proofs.Ytmlgahambecamaa

/-- A message may be. -/
def MsgOk (m : Nat) (now next : Int) (x : Mv) : Prop := endB m x.frm = true ∧ endB m x.dst = true ∧ inR x.t now maxO = true ∧ inR x.no 0 (next - 1) = true ∧ x.bs.length ≤ 4096
theorem msg_at {m : Nat} {now next : Int} {L : List Mv} {k : Nat} (hk : k < L.length) : msgAt m now next L k = true ↔ MsgOk m now next L[k] ∧ ∀ j (hj : j + 1 = k), aheadB (L[j]'(by omega)) L[k] = true := by
  unfold msgAt MsgOk
  rw [List.getElem?_eq_getElem hk]
  simp only [Bool.and_eq_true, decide_eq_true_eq, and_assoc]
  cases k with
  | zero => simp
  | succ j => 
    simp only [List.getElem?_eq_getElem (show j < L.length by omega)]
    constructor
    · rintro ⟨h1, h2, h3, h4, h5, h6⟩
      exact ⟨h1, h2, h3, h4, h5, fun i hi => by obtain rfl : i = j := by omega
                                                exact h6⟩
    · rintro ⟨h1, h2, h3, h4, h5, h6⟩
      exact ⟨h1, h2, h3, h4, h5, h6 j rfl⟩
theorem msgs_iff {m : Nat} {now next : Int} {L : List Mv} : allTo (msgAt m now next L) L.length = true ↔ (∀ x ∈ L, MsgOk m now next x) ∧ L.Pairwise (fun x y => aheadB x y = true) := by
  constructor
  · intro h
    have H := fun k (hk : k < L.length) => (msg_at hk).1 (allTo_at h hk)
    refine ⟨fun x hx => ?_, ?_⟩
    · obtain ⟨k, hk, rfl⟩ := List.getElem_of_mem hx
      exact (H k hk).1
    · rw [List.pairwise_iff_getElem]
      intro i j hi hj hij
      induction j with
      | zero => omega
      | succ j ih =>
        have st := (H (j + 1) hj).2 j rfl
        rcases Nat.lt_or_ge i j with h1 | h1
        · exact ahead_trans (ih (by omega) h1) st
        · obtain rfl : i = j := by omega
          exact st
  · rintro ⟨h1, h2⟩
    refine allTo_of fun k hk => (msg_at hk).2 ⟨h1 _ (List.getElem_mem hk), fun j hj => ?_⟩
    exact (List.pairwise_iff_getElem.1 h2) j k (by omega) hk (by omega)
/-- A cut way may be. -/
def CutOk (m : Nat) (c : Pr) : Prop := endB m c.a = true ∧ endB m c.b = true ∧ c.a < c.b
theorem cut_at {m : Nat} {C : List Pr} {k : Nat} (hk : k < C.length) : cutAt m C k = true ↔ CutOk m C[k] ∧ ∀ j (hj : j + 1 = k), ltP (C[j]'(by omega)) C[k] = true := by
  unfold cutAt CutOk
  rw [List.getElem?_eq_getElem hk]
  simp only [Bool.and_eq_true, decide_eq_true_eq, and_assoc]
  cases k with
  | zero => simp
  | succ j =>
    simp only [List.getElem?_eq_getElem (show j < C.length by omega)]
    constructor
    · rintro ⟨h1, h2, h3, h4⟩
      exact ⟨h1, h2, h3, fun i hi => by obtain rfl : i = j := by omega
                                        exact h4⟩
    · rintro ⟨h1, h2, h3, h4⟩
      exact ⟨h1, h2, h3, h4 j rfl⟩
theorem cuts_iff {m : Nat} {C : List Pr} : allTo (cutAt m C) C.length = true ↔ (∀ c ∈ C, CutOk m c) ∧ C.Pairwise (fun x y => ltP x y = true) := by
  constructor
  · intro h
    have H := fun k (hk : k < C.length) => (cut_at hk).1 (allTo_at h hk)
    refine ⟨fun x hx => ?_, ?_⟩
    · obtain ⟨k, hk, rfl⟩ := List.getElem_of_mem hx
      exact (H k hk).1
    · rw [List.pairwise_iff_getElem]
      intro i j hi hj hij
      induction j with
      | zero => omega
      | succ j ih =>
        have st := (H (j + 1) hj).2 j rfl
        rcases Nat.lt_or_ge i j with h1 | h1
        · exact ltP_trans (ih (by omega) h1) st
        · obtain rfl : i = j := by omega
          exact st
  · rintro ⟨h1, h2⟩
    refine allTo_of fun k hk => (cut_at hk).2 ⟨h1 _ (List.getElem_mem hk), fun j hj => ?_⟩
    exact (List.pairwise_iff_getElem.1 h2) j k (by omega) hk (by omega)
theorem chk_iff (n : Nv) : checkB n = true ↔ topB n = true ∧ allTo (skewAt n.K) n.K.length = true ∧ allTo (slipAt n.S) n.S.length = true ∧ ((∀ c ∈ n.C, CutOk n.K.length c) ∧ n.C.Pairwise (fun x y => ltP x y = true)) ∧
    ((∀ x ∈ n.L, MsgOk n.K.length n.now n.next x) ∧ n.L.Pairwise (fun x y => aheadB x y = true)) := by
  unfold checkB
  simp only [Bool.and_eq_true, cuts_iff, msgs_iff, and_assoc]
theorem top_iff (n : Nv) : topB n = true ↔ (1 ≤ n.K.length ∧ n.K.length ≤ 20) ∧ (0 ≤ n.now ∧ n.now ≤ maxO) ∧ (0 ≤ n.next ∧ n.next ≤ maxO) ∧ n.L.length ≤ 1024 := by
  unfold topB inR
  simp only [Bool.and_eq_true, decide_eq_true_eq, and_assoc]
  omega

/-- Time goes by: what is left may be. -/
theorem tick_check {n : Nv} {d : Int} (h : checkB n = true) (hd : 0 ≤ d) (hm : n.now + d ≤ maxO) : checkB { n with now := n.now + d, L := n.L.filter fun m => !decide (m.t ≤ n.now + d) } = true := by
  obtain ⟨h1, h2, h3, h4, h5, h6⟩ := (chk_iff n).1 h
  obtain ⟨t1, t2, t3, t4⟩ := (top_iff n).1 h1
  refine (chk_iff _).2 ⟨(top_iff _).2 ⟨t1, ⟨by show 0 ≤ n.now + d; omega, hm⟩, t3, Nat.le_trans (List.length_filter_le _ _) t4⟩, h2, h3, h4, fun x hx => ?_, h6.filter _⟩
  obtain ⟨hx1, hx2⟩ := List.mem_filter.1 hx
  obtain ⟨a1, a2, a3, a4, a5⟩ := h5 x hx1
  refine ⟨a1, a2, ?_, a4, a5⟩
  unfold inR at a3 ⊢
  simp only [Bool.and_eq_true, decide_eq_true_eq] at a3 ⊢
  simp at hx2
  omega
theorem tickV_ok {n : Nv} {d : Int} (h1 : checkB n = true) (h2 : 0 ≤ d) (h3 : d ≤ maxO) (h4 : n.now + d ≤ maxO) :
    tickV n d = ({ n with now := n.now + d, L := n.L.filter fun m => !decide (m.t ≤ n.now + d) }, n.L.filter fun m => decide (m.t ≤ n.now + d), 0) := by
  unfold tickV
  rw [if_pos ⟨h1, by unfold inR; simp [h2, h3]⟩, if_neg (by omega)]
/-- Time that goes by, and what became of it. -/
theorem tick_cases (n : Nv) (d : Int) : (∃ c : Int, (c = 1 ∨ c = 2) ∧ tickV n d = (noV, [], c) ∧ ¬ (checkB n = true ∧ 0 ≤ d ∧ d ≤ maxO ∧ n.now + d ≤ maxO)) ∨
    (checkB n = true ∧ 0 ≤ d ∧ d ≤ maxO ∧ n.now + d ≤ maxO ∧ tickV n d = ({ n with now := n.now + d, L := n.L.filter fun m => !decide (m.t ≤ n.now + d) }, n.L.filter fun m => decide (m.t ≤ n.now + d), 0)) := by
  by_cases h : checkB n = true ∧ 0 ≤ d ∧ d ≤ maxO ∧ n.now + d ≤ maxO
  · exact .inr ⟨h.1, h.2.1, h.2.2.1, h.2.2.2, tickV_ok h.1 h.2.1 h.2.2.1 h.2.2.2⟩
  · left
    by_cases h2 : checkB n = true ∧ inR d 0 maxO = true
    · have h3 : 0 ≤ d ∧ d ≤ maxO := by have := h2.2; unfold inR at this; simpa using this
      refine ⟨2, .inr rfl, ?_, h⟩
      unfold tickV
      rw [if_pos h2, if_pos]
      apply Int.not_le.1
      intro h4
      exact h ⟨h2.1, h3.1, h3.2, h4⟩
    · refine ⟨1, .inl rfl, ?_, h⟩
      unfold tickV
      rw [if_neg h2]
theorem split_filter {p q : Int} (hpq : p ≤ q) : ∀ {L : List Mv}, L.Pairwise (fun x y => aheadB x y = true) → (L.filter fun m => decide (m.t ≤ p)) ++ ((L.filter fun m => !decide (m.t ≤ p)).filter fun m => decide (m.t ≤ q)) = L.filter fun m => decide (m.t ≤ q)
  | [], _ => rfl
  | x :: L, h => by
    obtain ⟨h1, h2⟩ := List.pairwise_cons.1 h
    by_cases hx : x.t ≤ p
    · have hq : x.t ≤ q := by omega
      rw [List.filter_cons_of_pos (by simpa using hx), List.filter_cons_of_neg (by simpa using hx), List.filter_cons_of_pos (by simpa using hq), List.cons_append, split_filter hpq h2]
    · have hall : ∀ y ∈ x :: L, ¬ y.t ≤ p := fun y hy => by
        rcases List.mem_cons.1 hy with rfl | hy
        · exact hx
        · have := ahead_le (h1 y hy); omega
      have e1 : ((x :: L).filter fun m => decide (m.t ≤ p)) = [] := List.filter_eq_nil_iff.2 (fun y hy => by simpa using hall y hy)
      have e2 : ((x :: L).filter fun m => !decide (m.t ≤ p)) = x :: L := List.filter_eq_self.2 (fun y hy => by simpa using hall y hy)
      rw [e1, e2, List.nil_append]
theorem twice_filter {p q : Int} (hpq : p ≤ q) (L : List Mv) : (L.filter fun m => !decide (m.t ≤ p)).filter (fun m => !decide (m.t ≤ q)) = L.filter fun m => !decide (m.t ≤ q) := by
  rw [List.filter_filter]
  refine List.filter_congr (fun x _ => ?_)
  by_cases h : x.t ≤ q
  · simp [h]
  · simp [h]; omega
/-- Time that goes by in two parts. -/
theorem tick_two {n : Nv} {a b : Int} (ha : 0 ≤ a) (hb : 0 ≤ b) {V : Nv} {M : List Mv} (h : tickV n (a + b) = (V, M, 0)) : ∃ V1 M1 M2, tickV n a = (V1, M1, 0) ∧ tickV V1 b = (V, M2, 0) ∧ M1 ++ M2 = M := by
  rcases tick_cases n (a + b) with ⟨c, hc, e, _⟩ | ⟨h1, h2, h3, h4, e⟩
  · rw [e] at h
    injection h with _ h
    injection h with _ h
    omega
  · rw [e] at h
    injection h with hV h
    injection h with hM _
    subst hV hM
    have k1 := tickV_ok h1 ha (by omega) (show n.now + a ≤ maxO by omega)
    have k2 := tick_check h1 ha (show n.now + a ≤ maxO by omega)
    have k3 := tickV_ok k2 hb (by omega) (by show n.now + a + b ≤ maxO; omega)
    have P := ((chk_iff n).1 h1).2.2.2.2.2
    have en : n.now + a + b = n.now + (a + b) := by omega
    refine ⟨_, _, (n.L.filter fun m => !decide (m.t ≤ n.now + a)).filter fun m => decide (m.t ≤ n.now + (a + b)), k1, ?_, ?_⟩
    · rw [k3]
      simp only [en]
      rw [twice_filter (show n.now + a ≤ n.now + (a + b) by omega)]
    · show (n.L.filter fun m => decide (m.t ≤ n.now + a)) ++ ((n.L.filter fun m => !decide (m.t ≤ n.now + a)).filter fun m => decide (m.t ≤ n.now + (a + b))) = _
      exact split_filter (by omega) P
/-- What does not come at once does not come in two parts. -/
theorem tick_not {n : Nv} {a b c : Int} (ha : 0 ≤ a) (hb : 0 ≤ b) (hab : a + b ≤ maxO) {V V1 V2 : Nv} {M M1 M2 : List Mv} (h : tickV n (a + b) = (V, M, c)) (hc : c ≠ 0) : M = [] ∧ ∀ e1 e2, tickV n a = (V1, M1, e1) → tickV V1 b = (V2, M2, e2) → e1 ≠ 0 ∨ e2 ≠ 0 := by
  rcases tick_cases n (a + b) with ⟨c', hc', e, hno⟩ | ⟨h1, h2, h3, h4, e⟩
  · rw [e] at h
    injection h with hV h
    injection h with hM _
    refine ⟨hM.symm, fun e1 e2 k1 k2 => ?_⟩
    rcases tick_cases n a with ⟨d1, hd1, f1, _⟩ | ⟨g1, g2, g3, g4, f1⟩
    · rw [f1] at k1
      injection k1 with _ k1
      injection k1 with _ k1
      left; omega
    · rw [f1] at k1
      injection k1 with k0 k1
      subst k0
      rcases tick_cases _ b with ⟨d1, hd1, f2, _⟩ | ⟨g1', g2', g3', g4', f2⟩
      · rw [f2] at k2
        injection k2 with _ k2
        injection k2 with _ k2
        right; omega
      · exfalso
        refine hno ⟨g1, by omega, hab, ?_⟩
        have : n.now + a + b ≤ maxO := g4'
        omega
  · rw [e] at h
    injection h with _ h
    injection h with _ h
    exact absurd h.symm hc

/-- How much there is behind a time. -/
theorem tick_len (n : Nv) (d : Int) : (tickV n d).1.L.length ≤ n.L.length ∧ (tickV n d).1.S.length ≤ n.S.length ∧ (tickV n d).1.C.length ≤ n.C.length ∧ (tickV n d).1.K.length ≤ n.K.length ∧ (tickV n d).2.1.length ≤ n.L.length := by
  rcases tick_cases n d with ⟨c, _, e, _⟩ | ⟨_, _, _, _, e⟩
  · rw [e]; exact ⟨Nat.zero_le _, Nat.zero_le _, Nat.zero_le _, Nat.zero_le _, Nat.zero_le _⟩
  · rw [e]; exact ⟨List.length_filter_le _ _, Nat.le_refl _, Nat.le_refl _, Nat.le_refl _, List.length_filter_le _ _⟩
/-- What a clock says. -/
theorem clock_cases (n : Nv) (a : Int) : (clockV n a = (0, 1) ∧ ¬ (checkB n = true ∧ endB n.K.length a = true)) ∨ (checkB n = true ∧ endB n.K.length a = true ∧ ∃ x : Int, (n.K[a.toNat]?).getD 0 = x ∧ -10 ≤ x ∧ x ≤ 10 ∧ clockV n a = (max 0 (n.now + x), 0)) := by
  by_cases h : checkB n = true ∧ endB n.K.length a = true
  · right
    refine ⟨h.1, h.2, _, rfl, ?_⟩
    have hk : a.toNat < n.K.length := by have := h.2; unfold endB at this; simp only [Bool.and_eq_true, decide_eq_true_eq] at this; omega
    have hs := chk_skews h.1 hk
    rw [List.getElem?_eq_getElem hk]
    refine ⟨hs.1, hs.2, ?_⟩
    unfold clockV
    rw [if_pos h, List.getElem?_eq_getElem hk]
  · left
    refine ⟨?_, h⟩
    unfold clockV
    rw [if_neg h]

end Go.Proofs.Ytmlgahambecamaa
