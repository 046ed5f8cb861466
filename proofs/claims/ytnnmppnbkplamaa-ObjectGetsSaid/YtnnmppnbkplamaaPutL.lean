/- What Put makes of a list of objects, in plain Lean; and what is found there. -/
import Derived.Test.YtnnmppnbkplamaaGet
import Derived.Test.YtnnmppnbkplamaaPutE
namespace Go.Proofs.Ytnnmppnbkplamaa
open Go.RowKit Go.Shelf

theorem filter_take {α : Type} {p : α → Bool} {l : List α} {i : Nat} (h1 : ∀ j (h : j < l.length), j < i → p l[j] = true) (h2 : ∀ j (h : j < l.length), i ≤ j → p l[j] = false) : l.filter p = l.take i := by
  have a : (l.take i).filter p = l.take i := by
    rw [List.filter_eq_self]
    intro x hx
    obtain ⟨j, hj, rfl⟩ := List.getElem_of_mem hx
    rw [List.length_take] at hj
    rw [List.getElem_take]
    exact h1 j (by omega) (by omega)
  have b : (l.drop i).filter p = [] := by
    rw [List.filter_eq_nil_iff]
    intro x hx
    obtain ⟨j, hj, rfl⟩ := List.getElem_of_mem hx
    rw [List.length_drop] at hj
    rw [List.getElem_drop, h2 (i + j) (by omega) (by omega)]
    decide
  conv => lhs; rw [← List.take_append_drop i l]
  rw [List.filter_append, a, b, List.append_nil]
theorem filter_drop {α : Type} {p : α → Bool} {l : List α} {i : Nat} (h1 : ∀ j (h : j < l.length), j < i → p l[j] = false) (h2 : ∀ j (h : j < l.length), i ≤ j → p l[j] = true) : l.filter p = l.drop i := by
  have a : (l.take i).filter p = [] := by
    rw [List.filter_eq_nil_iff]
    intro x hx
    obtain ⟨j, hj, rfl⟩ := List.getElem_of_mem hx
    rw [List.length_take] at hj
    rw [List.getElem_take, h1 j (by omega) (by omega)]
    decide
  have b : (l.drop i).filter p = l.drop i := by
    rw [List.filter_eq_self]
    intro x hx
    obtain ⟨j, hj, rfl⟩ := List.getElem_of_mem hx
    rw [List.length_drop] at hj
    rw [List.getElem_drop]
    exact h2 (i + j) (by omega) (by omega)
  conv => lhs; rw [← List.take_append_drop i l]
  rw [List.filter_append, a, b, List.nil_append]

/-- A list with an object of that name and those bytes. -/
def insO (s : ByteArray) (b : List UInt8) (L : List Oc) : List Oc := L.filter (fun x => decide (cmpS x.name s < 0)) ++ ⟨s, b⟩ :: L.filter (fun x => decide (cmpS s x.name < 0))
def putBs (b : List UInt8) (ft : Int) : List UInt8 := if ft = 3 then b.take (b.length / 2) else b
def putL (L : List Oc) (s : ByteArray) (b : List UInt8) (ft : Int) : List Oc := if ft = 1 then L else insO s (putBs b ft) L

theorem ins_at {l : List Ob} {s : ByteArray} {i : Nat} {b : Bool} {x : Ob} {bl : List UInt8} (hr : Rises l) (h : AtR l s i b) (hn : x.name = s) (hb : x.bs = bl) :
    (l.take i ++ x :: (if b = true then l.drop (i + 1) else l.drop i)).map Ob.val = insO s bl (l.map Ob.val) := by
  obtain ⟨h1, h2, h3, h4⟩ := h
  replace h2 : ∀ j (h : j < l.length), j < i → cmpS l[j].name s < 0 := h2
  replace h3 : ∀ j (h : j < l.length), i ≤ j → 0 ≤ cmpS l[j].name s := h3
  replace h4 : b = true ↔ ∃ h : i < l.length, cmpS l[i].name s = 0 := h4
  have f1 : l.filter (fun x => decide (cmpS x.name s < 0)) = l.take i := filter_take (fun j h hj => decide_eq_true (h2 j h hj)) (fun j h hj => decide_eq_false (by have := h3 j h hj; omega))
  have f2 : l.filter (fun x => decide (cmpS s x.name < 0)) = if b = true then l.drop (i + 1) else l.drop i := by
    cases hbb : b with
    | true =>
      obtain ⟨hi, h0⟩ := h4.1 hbb
      rw [if_pos rfl]
      refine filter_drop (fun j h hj => decide_eq_false ?_) (fun j h hj => decide_eq_true ?_)
      · rw [cmpS_swap]
        rcases Nat.lt_or_ge j i with hlt | hge
        · have := h2 j h hlt; omega
        · obtain rfl : j = i := by omega
          omega
      · have := hr i j h (by omega)
        rw [cmpS_eq.1 h0] at this
        exact this
    | false =>
      rw [if_neg (by decide)]
      refine filter_drop (fun j h hj => decide_eq_false ?_) (fun j h hj => decide_eq_true ?_)
      · rw [cmpS_swap]
        have := h2 j h hj
        omega
      · rw [cmpS_swap]
        have h5 := h3 j h hj
        have h6 : cmpS l[j].name s ≠ 0 := fun h0 => by
          rcases Nat.lt_or_ge i j with hlt | hge
          · have h7 := hr i j h hlt
            rw [cmpS_eq.1 h0] at h7
            have := h3 i (Nat.lt_trans hlt h) (Nat.le_refl _)
            omega
          · obtain rfl : j = i := by omega
            have := h4.2 ⟨h, h0⟩
            rw [hbb] at this
            cases this
        omega
  unfold insO
  rw [List.map_append, List.map_cons, List.filter_map, List.filter_map, ← f2]
  have e1 : (fun x : Oc => decide (cmpS x.name s < 0)) ∘ Ob.val = fun x : Ob => decide (cmpS x.name s < 0) := rfl
  have e2 : (fun x : Oc => decide (cmpS s x.name < 0)) ∘ Ob.val = fun x : Ob => decide (cmpS s x.name < 0) := rfl
  rw [e1, e2, f1]
  have e3 : x.val = ⟨s, bl⟩ := by unfold Ob.val; rw [hn, hb]
  rw [e3]

theorem find_filter {p q : Oc → Bool} {L : List Oc} (h : ∀ x ∈ L, q x = true → p x = true) : (L.filter p).find? q = L.find? q := by
  induction L with
  | nil => rfl
  | cons a L ih =>
    have ih' := ih (fun x hx => h x (List.mem_cons_of_mem _ hx))
    rw [List.filter_cons]
    cases hq : q a with
    | true =>
      rw [if_pos (h a (List.mem_cons_self ..) hq), List.find?_cons_of_pos hq, List.find?_cons_of_pos hq]
    | false =>
      have hq' : ¬ q a = true := by rw [hq]; decide
      rw [List.find?_cons_of_neg hq']
      split
      · rw [List.find?_cons_of_neg hq']; exact ih'
      · exact ih'
theorem find_none {p q : Oc → Bool} {L : List Oc} (h : ∀ x ∈ L, p x = true → q x = false) : (L.filter p).find? q = none := by
  rw [List.find?_eq_none]
  intro x hx
  have := List.mem_filter.1 hx
  rw [h x this.1 this.2]
  decide
theorem cmpS_self (s : ByteArray) : cmpS s s = 0 := cmpS_eq.2 rfl

theorem find_ins (s : ByteArray) (b : List UInt8) (L : List Oc) : findO s (insO s b L) = some ⟨s, b⟩ := by
  unfold findO insO
  rw [List.find?_append, find_none (fun x _ hx => decide_eq_false (fun e => by have := of_decide_eq_true hx; rw [e, cmpS_self] at this; omega)), List.find?_cons_of_pos (by simp)]
  rfl
theorem find_ins_other {s s' : ByteArray} (b : List UInt8) (L : List Oc) (hne : ¬ s' = s) : findO s' (insO s b L) = findO s' L := by
  have h0 : cmpS s' s ≠ 0 := fun h => hne (cmpS_eq.1 h)
  have hs := cmpS_swap s' s
  unfold findO insO
  rw [List.find?_append, List.find?_cons_of_neg (by rw [decide_eq_false (fun e => hne e.symm)]; decide)]
  by_cases h : cmpS s' s < 0
  · rw [find_filter (fun x _ hx => decide_eq_true (by rw [of_decide_eq_true hx]; exact h)), find_none (L := L) (p := fun x => decide (cmpS s x.name < 0)) (fun x _ hx => decide_eq_false (fun e => by have := of_decide_eq_true hx; rw [e] at this; omega))]
    simp
  · rw [find_none (p := fun x => decide (cmpS x.name s < 0)) (fun x _ hx => decide_eq_false (fun e => by have := of_decide_eq_true hx; rw [e] at this; omega)), find_filter (fun x _ hx => decide_eq_true (by rw [of_decide_eq_true hx]; omega))]
    rfl
theorem find_del (s : ByteArray) (L : List Oc) : findO s (L.filter fun x => !decide (x.name = s)) = none := by
  unfold findO
  exact find_none (fun x _ hx => by simpa using hx)
theorem find_del_other {s s' : ByteArray} (L : List Oc) (hne : ¬ s' = s) : findO s' (L.filter fun x => !decide (x.name = s)) = findO s' L := by
  unfold findO
  exact find_filter (fun x _ hx => by have := of_decide_eq_true hx; simp [this, hne])

/-- A list of objects that may be. -/
structure OkL (L : List Oc) : Prop where
  len : L.length ≤ 1024
  nm : ∀ x ∈ L, nameC x.name = true ∧ x.bs.length ≤ 8192
  up : L.Pairwise fun x y => cmpS x.name y.name < 0

theorem objE_two (L : List Oc) : objE L = 0 ∨ objE L = 1 := by unfold objE; split <;> simp
/-- What Check says is what it says of a store without faults. -/
theorem check_zero {L : List Oc} {calls : Int} {fs : List Ft} (h : checkO L calls fs = 0) : OkL L := by
  unfold checkO at h
  split at h
  · omega
  · split at h
    · omega
    · rename_i h1 h2
      have hb : ∀ k, k < L.length → badO L k = false := by
        intro k hk
        cases hq : badO L k with
        | false => rfl
        | true => rw [objE_bad hk hq] at h; cases h
      have at_ : ∀ k (hk : k < L.length), nameC L[k].name = true ∧ leS L[k].name (preS L k) = false ∧ L[k].bs.length ≤ 8192 := by
        intro k hk
        have := hb k hk
        unfold badO at this
        rw [List.getElem?_eq_getElem hk] at this
        simp only [Option.map_some, Option.getD_some, Bool.or_eq_false_iff, decide_eq_false_iff_not, Bool.not_eq_false'] at this
        exact ⟨this.1, this.2.1, by have := this.2.2; omega⟩
      have step : ∀ k (hk : k + 1 < L.length), cmpS (L[k]'(by omega)).name L[k + 1].name < 0 := by
        intro k hk
        have h3 := (at_ (k + 1) hk).2.1
        rw [preS_succ (o := (L[k]'(by omega))) (List.getElem?_eq_getElem (by omega)), leS_eq] at h3
        have h4 := of_decide_eq_false h3
        exact Classical.byContradiction fun h5 => h4 h5
      refine ⟨by omega, fun x hx => ?_, ?_⟩
      · obtain ⟨k, hk, rfl⟩ := List.getElem_of_mem hx
        exact ⟨(at_ k hk).1, (at_ k hk).2.2⟩
      · rw [List.pairwise_iff_getElem]
        have key : ∀ d j (hk : j + d + 1 < L.length), cmpS (L[j]'(by omega)).name (L[j + d + 1]).name < 0 := by
          intro d
          induction d with
          | zero => intro j hk; exact step j hk
          | succ d ih => intro j hk; exact cmpS_trans (ih j (by omega)) (step (j + d + 1) hk)
        intro i j hi hj hij
        have := key (j - i - 1) i (by omega)
        simpa [show i + (j - i - 1) + 1 = j by omega] using this
theorem zero_check {L : List Oc} (h : OkL L) : checkO L 0 [] = 0 := by
  unfold checkO
  rw [if_neg (by have := h.len; simp; omega), if_neg (by simp)]
  refine objE_ok (fun k hk => ?_)
  have hm := h.nm L[k] (List.getElem_mem hk)
  have hn : 0 < L[k].name.size := by
    have := hm.1
    unfold nameC at this
    rw [Bool.and_eq_true, decide_eq_true_iff] at this
    exact this.1.1
  have hl : leS L[k].name (preS L k) = false := by
    rw [leS_eq]
    refine decide_eq_false (fun hc => hc ?_)
    cases k with
    | zero =>
      show cmpS ⟨#[]⟩ L[0].name < 0
      obtain ⟨⟨d⟩, hd⟩ : ∃ d : ByteArray, L[0].name = d := ⟨_, rfl⟩
      rw [hd] at hn ⊢
      unfold cmpS
      cases hdl : d.toList with
      | nil => rw [Array.toList_eq_nil_iff] at hdl; subst hdl; exact absurd hn (by decide)
      | cons a r =>
        show Lib.compareBytes [] (a :: r) < 0
        unfold Lib.compareBytes
        omega
    | succ k =>
      rw [preS_succ (List.getElem?_eq_getElem (Nat.lt_of_succ_lt hk))]
      exact (List.pairwise_iff_getElem.1 h.up) k (k + 1) (by omega) hk (by omega)
  unfold badO
  rw [List.getElem?_eq_getElem hk]
  simp only [Option.map_some, Option.getD_some]
  rw [hm.1, hl, decide_eq_false (by have := hm.2; omega)]
  rfl
theorem OkL.del {L : List Oc} (h : OkL L) (p : Oc → Bool) : OkL (L.filter p) :=
  ⟨Nat.le_trans (List.length_filter_le _ _) h.len, fun x hx => h.nm x (List.mem_filter.1 hx).1, h.up.sublist List.filter_sublist⟩
theorem OkL.ins {L : List Oc} (h : OkL L) {s : ByteArray} {b : List UInt8} (hs : nameC s = true) (hb : b.length ≤ 8192) (hl : findO s L = none → L.length < 1024) : OkL (insO s b L) := by
  refine ⟨?_, fun x hx => ?_, ?_⟩
  · unfold insO
    rw [List.length_append, List.length_cons]
    have key : ∀ M : List Oc, (M.filter fun x => decide (cmpS x.name s < 0)).length + (M.filter fun x => decide (cmpS s x.name < 0)).length ≤ M.length ∧
        (findO s M ≠ none → (M.filter fun x => decide (cmpS x.name s < 0)).length + (M.filter fun x => decide (cmpS s x.name < 0)).length + 1 ≤ M.length) := by
      intro M
      induction M with
      | nil => exact ⟨by simp, fun h => absurd rfl h⟩
      | cons x M ih =>
        have hsw := cmpS_swap x.name s
        rcases (show cmpS x.name s < 0 ∨ cmpS x.name s = 0 ∨ 0 < cmpS x.name s by omega) with h1 | h1 | h1
        · rw [List.filter_cons_of_pos (p := fun x : Oc => decide (cmpS x.name s < 0)) (decide_eq_true h1), List.filter_cons_of_neg (by rw [decide_eq_false (show ¬ cmpS s x.name < 0 by omega)]; decide)]
          have hf : findO s (x :: M) = findO s M := by
            unfold findO
            rw [List.find?_cons_of_neg (by rw [decide_eq_false (fun e => by rw [e, cmpS_self] at h1; omega)]; decide)]
          rw [hf]
          simp only [List.length_cons]
          exact ⟨by have := ih.1; omega, fun hh => by have := ih.2 hh; omega⟩
        · rw [List.filter_cons_of_neg (by rw [decide_eq_false (show ¬ cmpS x.name s < 0 by omega)]; decide), List.filter_cons_of_neg (by rw [decide_eq_false (show ¬ cmpS s x.name < 0 by omega)]; decide)]
          simp only [List.length_cons]
          exact ⟨by have := ih.1; omega, fun _ => by have := ih.1; omega⟩
        · rw [List.filter_cons_of_neg (by rw [decide_eq_false (show ¬ cmpS x.name s < 0 by omega)]; decide), List.filter_cons_of_pos (p := fun x : Oc => decide (cmpS s x.name < 0)) (decide_eq_true (show cmpS s x.name < 0 by omega))]
          have hf : findO s (x :: M) = findO s M := by
            unfold findO
            rw [List.find?_cons_of_neg (by rw [decide_eq_false (fun e => by rw [e, cmpS_self] at h1; omega)]; decide)]
          rw [hf]
          simp only [List.length_cons]
          exact ⟨by have := ih.1; omega, fun hh => by have := ih.2 hh; omega⟩
    have := key L
    have hlen := h.len
    cases hf : findO s L with
    | none => have := hl hf; omega
    | some o => have := this.2 (by rw [hf]; intro e; cases e); omega
  · unfold insO at hx
    rcases List.mem_append.1 hx with hx | hx
    · exact h.nm x (List.mem_filter.1 hx).1
    · rcases List.mem_cons.1 hx with rfl | hx
      · exact ⟨hs, hb⟩
      · exact h.nm x (List.mem_filter.1 hx).1
  · unfold insO
    rw [List.pairwise_append, List.pairwise_cons]
    refine ⟨h.up.sublist List.filter_sublist, ⟨fun y hy => of_decide_eq_true (List.mem_filter.1 hy).2, h.up.sublist List.filter_sublist⟩, fun x hx y hy => ?_⟩
    have hx' : cmpS x.name s < 0 := of_decide_eq_true (List.mem_filter.1 hx).2
    rcases List.mem_cons.1 hy with rfl | hy
    · exact hx'
    · exact cmpS_trans hx' (of_decide_eq_true (List.mem_filter.1 hy).2)

end Go.Proofs.Ytnnmppnbkplamaa
