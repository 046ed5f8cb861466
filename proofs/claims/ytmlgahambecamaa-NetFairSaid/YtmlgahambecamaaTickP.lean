/- What comes, and what stays, in plain words; slices cut in two. -/
import Derived.Test.YtmlgahambecamaaCuts2
import Derived.Test.YtmlgahambecamaaIdx
namespace Go.Proofs.Ytmlgahambecamaa
open Go.RowKit

theorem sl_zeroA {α : Type} {K : RK α} {w : World} {a : Addr} {c : Nat} {l : List α} (hc : c ≤ maxLen) (hl : l = []) : Sl K w (some a) 0 c l := by
  subst hl
  exact ⟨rfl, Nat.zero_le _, hc, fun e => (by cases e), Row.nil _ _, fun a ha => by simp at ha⟩
theorem sl_dropA {α : Type} {K : RK α} {w : World} {a : Addr} {n c : Nat} {l : List α} (h : Sl K w (some a) n c l) (m : Nat) (hm : m ≤ n) : Sl K w (some (if c = m then a else a.add (m * K.size))) (n - m) (c - m) (l.drop m) := by
  have hcap := h.cap
  have hmax := h.max
  rcases Nat.lt_or_ge m n with hlt | hge
  · obtain ⟨b, off, hl0, e, hbl, _⟩ := h.get (k := m) hlt
    injection e with e
    subst e
    rw [if_neg (by omega), Addr.add_lit]
    refine ⟨by rw [List.length_drop, h.len], by omega, by omega, fun e => (by cases e), fun hne => ?_, fun x hx => h.each x (List.mem_of_mem_drop hx)⟩
    obtain ⟨b', off', e, hlt', hc⟩ := h.row (fun e => by
      have h1 := h.flat_len
      rw [e] at h1
      have h2 := Nat.mul_pos (show 0 < n by omega) K.pos
      simp only [List.length_nil] at h1
      omega)
    injection e with e; injection e with e1 e2; subst e1; subst e2
    refine ⟨b, off + m * K.size, rfl, hlt', fun j hj => ?_⟩
    rw [Nat.add_assoc, hc (m * K.size + j) (by
      rw [flat_len K.cells K.size K.len, List.length_drop, Nat.sub_mul] at hj
      rw [flat_len K.cells K.size K.len]
      omega)]
    have := flat_drop K.cells K.size K.len l m
    rw [← List.getElem?_drop]
    exact congrArg (·[j]?) this
  · obtain rfl : m = n := by omega
    rw [Nat.sub_self]
    exact sl_zeroA (Nat.le_trans (Nat.sub_le _ _) hmax) (List.drop_eq_nil_of_le (by rw [h.len]; exact Nat.le_refl _))

theorem sl_dropG {α : Type} {K : RK α} {w : World} {A : Option Addr} {n c : Nat} {l : List α} (h : Sl K w A n c l) (m : Nat) (hm : m ≤ n) : Sl K w (if c = m then A else A.map fun x => x.add (m * K.size)) (n - m) (c - m) (l.drop m) := by
  cases A with
  | none =>
    obtain ⟨rfl, rfl⟩ := h.adr rfl
    obtain rfl : m = 0 := by omega
    rw [if_pos rfl]
    simpa using h
  | some a =>
    have := sl_dropA h m hm
    by_cases hc : c = m
    · rw [if_pos hc] at this ⊢; exact this
    · rw [if_neg hc] at this ⊢; exact this

theorem allTo_lt {f : Nat → Bool} {n : Nat} (h : allTo f n = true) : ∀ k, k < n → f k = true := fun _ hk => allTo_at h hk
theorem msg_step {m : Nat} {now next : Int} {L : List Mv} {k : Nat} (hk : k + 1 < L.length) (h : msgAt m now next L (k + 1) = true) : aheadB L[k] L[k + 1] = true := by
  unfold msgAt at h
  rw [List.getElem?_eq_getElem hk] at h
  simp only [List.getElem?_eq_getElem (show k < L.length by omega), Bool.and_eq_true] at h
  exact h.2
theorem ahead_le {x y : Mv} (h : aheadB x y = true) : x.t ≤ y.t := by
  unfold aheadB at h
  simp only [Bool.or_eq_true, Bool.and_eq_true, decide_eq_true_eq] at h
  omega
/-- Messages that stand in order come in order. -/
theorem chk_sorted {n : Nv} (h : checkB n = true) : ∀ j k (hk : k < n.L.length) (hj : j ≤ k), (n.L[j]'(Nat.lt_of_le_of_lt hj hk)).t ≤ n.L[k].t := by
  have H := allTo_lt (chk_parts h).2.2.2.2
  intro j k
  induction k with
  | zero => intro hk hj; obtain rfl : j = 0 := by omega
            exact Int.le_refl _
  | succ k ih =>
    intro hk hj
    rcases Nat.lt_or_ge k j with h1 | h1
    · obtain rfl : j = k + 1 := by omega
      exact Int.le_refl _
    · exact Int.le_trans (ih (by omega) h1) (ahead_le (msg_step hk (H (k + 1) hk)))
theorem part_at {L : List Mv} (hs : ∀ j k (hk : k < L.length) (hj : j ≤ k), (L[j]'(Nat.lt_of_le_of_lt hj hk)).t ≤ L[k].t) {d : Int} {k : Nat} (hk : k ≤ L.length) (h1 : ∀ j (hj : j < L.length), j < k → ¬ d < L[j].t) (h2 : ∀ h : k < L.length, d < L[k].t) :
    (L.filter fun m => decide (m.t ≤ d)) = L.take k ∧ (L.filter fun m => !decide (m.t ≤ d)) = L.drop k := by
  have e : L = L.take k ++ L.drop k := (List.take_append_drop k L).symm
  have a1 : ∀ m ∈ L.take k, m.t ≤ d := fun m hm => by
    obtain ⟨j, hj, rfl⟩ := List.getElem_of_mem hm
    rw [List.length_take] at hj
    rw [List.getElem_take]
    exact Int.not_lt.1 (h1 j (by omega) (by omega))
  have a2 : ∀ m ∈ L.drop k, d < m.t := fun m hm => by
    obtain ⟨j, hj, rfl⟩ := List.getElem_of_mem hm
    rw [List.length_drop] at hj
    rw [List.getElem_drop]
    have := hs k (k + j) (by omega) (by omega)
    have := h2 (by omega)
    omega
  constructor
  · conv => lhs; rw [e]
    rw [List.filter_append, List.filter_eq_self.2 (fun m hm => decide_eq_true (a1 m hm)), List.filter_eq_nil_iff.2 (fun m hm => by have := a2 m hm; simp; omega), List.append_nil]
  · conv => lhs; rw [e]
    rw [List.filter_append, List.filter_eq_nil_iff.2 (fun m hm => by have := a1 m hm; simp; omega), List.filter_eq_self.2 (fun m hm => by have := a2 m hm; simp; omega), List.nil_append]
theorem tickV_arg {n : Nv} {d : Int} (h : checkB n = false ∨ inR d 0 1099511627776 = false) : tickV n d = (noV, [], 1) := by
  unfold tickV
  rw [if_neg]
  rintro ⟨h1, h2⟩
  rcases h with h | h
  · rw [h] at h1; cases h1
  · rw [show maxO = 1099511627776 from rfl, h] at h2; cases h2
theorem tickV_bound {n : Nv} {d : Int} (h1 : checkB n = true) (h2 : inR d 0 1099511627776 = true) (h3 : 1099511627776 < n.now + d) : tickV n d = (noV, [], 2) := by
  unfold tickV
  rw [if_pos ⟨h1, h2⟩, if_pos (show maxO < n.now + d from h3)]
theorem tickV_yes {n : Nv} {d : Int} (h1 : checkB n = true) (h2 : inR d 0 1099511627776 = true) (h3 : ¬ 1099511627776 < n.now + d) {k : Nat} (hk : k ≤ n.L.length) (h4 : ∀ j (hj : j < n.L.length), j < k → ¬ n.now + d < n.L[j].t) (h5 : ∀ h : k < n.L.length, n.now + d < n.L[k].t) :
    tickV n d = ({ n with now := n.now + d, L := n.L.drop k }, n.L.take k, 0) := by
  unfold tickV
  rw [if_pos ⟨h1, h2⟩, if_neg (show ¬ maxO < n.now + d from h3)]
  obtain ⟨e1, e2⟩ := part_at (chk_sorted h1) hk h4 h5
  rw [e1, e2]

/-- What a call hands back that lets time go by: the net, what comes, and a code; the two lists lie apart. -/
def TickRes (B : Nat) (r : Nv × List Mv × Int) (e : Ending) (w' : World) : Prop := ∃ (q : Nt) (A : Option Addr) (n c : Nat) (l : List Mg),
  e = .returned (.tuple #[q.v, .slice A n c, .int .i64 r.2.2]) ∧ q.val = r.1 ∧ l.map Mg.val = r.2.1 ∧ Nt.Own w' B q ∧ Own mgK 40 w' B A n c l ∧ (∀ b, (Value.slice A n c).ownBlock = some b → (Value.slice q.LA q.Ln q.Lc).ownBlock ≠ some b)
theorem TickRes.no {B : Nat} {r : Nv × List Mv × Int} {w' : World} {c : Int} (h1 : r = (noV, [], c)) : TickRes B r (.returned (.tuple #[noN.v, .slice none 0 0, .int .i64 c])) w' := by
  subst h1
  exact ⟨noN, none, 0, 0, [], rfl, rfl, rfl, noN_own _ _, (noN_own _ _).l, fun b hb => by cases hb⟩

end Go.Proofs.Ytmlgahambecamaa
