/- What CacheLeast of layer 16 asks, in plain words. -/
import Derived.Test.YthjohjijcgiogaaThere
namespace Go.Proofs.Ythjohjijcgiogaa

theorem least_vals {cap : Int} {L : List Ch} {name : ByteArray} {no : Int} {b : List UInt8} (h : putE cap L name no = 0) (hb : ¬ cap < b.length) :
    ∃ m, m ≤ (dropC name no L).length ∧ putL cap L name no b = ⟨name, no, b⟩ :: (dropC name no L).take m ∧ ∀ hm : m < (dropC name no L).length, cap < sz (putL cap L name no b) + (dropC name no L)[m].bs.length := by
  have e : putL cap L name no b = fit cap (⟨name, no, b⟩ :: dropC name no L) := by unfold putL; rw [if_pos h, if_neg hb]
  rw [e]
  generalize dropC name no L = D
  obtain ⟨k, h1, h2, h3, h4⟩ := fit_take (⟨name, no, b⟩ :: D) cap
  rw [h2]
  cases k with
  | zero =>
    have := h4 (by simp)
    rw [List.take_succ_cons, sz_cons] at this
    simp [sz] at this
    omega
  | succ m =>
    rw [List.length_cons] at h1 h4
    refine ⟨m, by omega, by rw [List.take_succ_cons], fun hm => ?_⟩
    have := h4 (by omega)
    rw [List.take_succ_cons, sz_cons] at this ⊢
    rw [List.take_succ_eq_append_getElem hm, sz_append] at this
    simp [sz] at this ⊢
    omega

/-- A slice without its first so many. -/
theorem Sl.drop {α : Type} {K : RK α} {w : World} {b off n c : Nat} {l : List α} (i : Sl K w (some ⟨b, off, none⟩) n c l) (m : Nat) (hm : m ≤ n) : Sl K w (some ⟨b, off + m * K.size, none⟩) (n - m) (c - m) (l.drop m) := by
  have hc := i.cap
  have hx := i.max
  have hl := i.len
  refine ⟨by rw [List.length_drop]; omega, by omega, by omega, (fun h => by cases h), ?_, fun a ha => i.each a (List.mem_of_mem_drop ha)⟩
  rw [← flat_drop K.cells K.size K.len]
  exact i.row.drop _

end Go.Proofs.Ythjohjijcgiogaa
