/- Whether two lists of texts are the same. -/
import Derived.Test.YtnigjchgpmladaaLeaf2
namespace Go.Proofs.Ytnigjchgpmladaa
open Go.RowKit Go.Shelf

set_option maxHeartbeats 4000000 in
theorem texts_any (A : Option Addr) (n c : Nat) (l : List ByteArray) (A' : Option Addr) (n' c' : Nat) (l' : List ByteArray) (w : World) (h : Sl strK w A n c l) (h' : Sl strK w A' n' c' l') :
    Calls Try.prog 24 #[.slice A n c, .slice A' n' c'] w fun e w' => e = .returned (.bool (decide (l = l'))) ∧ Below w.heap.size w w' := by
  have HL := Lib.hid h.len
  have HL' := Lib.hid h'.len
  have hmax := h.max
  have hcap := h.cap
  by_cases hn : n = n'
  · subst hn
    have H := Lib.hid h
    have H' := Lib.hid h'
    clear h h'
    go_enter Try.func24, Try.ntmps24
    go_wp2_with fail
    go_loopg [5] n (fun gg s wr => ∃ k : Nat, k ≤ n ∧ n - k ≤ gg ∧ s = .int .i64 k ∧ Hid (Below w.heap.size w wr) ∧ Hid (∀ j, j < k → l[j]? = l'[j]?))
    case atStart => exact ⟨0, Nat.zero_le _, by omega, rfl, Lib.hid (Below.refl _ _), Lib.hid (fun j hj => absurd hj (Nat.not_lt_zero _))⟩
    case round =>
      obtain ⟨k, hk, hgg, rfl, hb, hp⟩ := hrel
      by_cases hlt : k < n
      · obtain ⟨b, off, hkl, rfl, hbl, x0⟩ := str_at (H.out.below hb.out) hlt
        obtain ⟨b', off', hkl', rfl, hbl', y0⟩ := str_at (H'.out.below hb.out) hlt
        have EV := Lib.hid (List.getElem?_eq_getElem hkl)
        have EV' := Lib.hid (List.getElem?_eq_getElem hkl')
        have B2 := Lib.hid (fun m : Nat => below_drewN (w := wr) (Below.refl wr.heap.size wr) m)
        generalize l[k] = x at *
        generalize l'[k] = y at *
        by_cases e1 : x = y
        · subst e1
          go_wp2_with fail
          go_quiet (fail)
          go_wp2_with fail
          go_roundg (n - (k + 1))
          case measure => omega
          case rel =>
            refine ⟨k + 1, by omega, by omega, by go_num, below_from (B2.out _) hb.out hb.out.size, Lib.hid (fun j hj => ?_)⟩
            by_cases ej : j = k
            · subst ej; rw [EV.out, EV'.out]
            · exact hp.out j (by omega)
        · have ne := str_ne e1
          go_wp2_with fail
          go_quiet (fail)
          go_wp2_with fail
          go_ret
          refine ⟨ret_bool ?_, below_from (B2.out _) hb.out hb.out.size⟩
          rw [eq_comm, decide_eq_false_iff_not]
          intro he
          have := EV.out
          rw [he, EV'.out] at this
          exact e1 (Option.some.inj this).symm
      · obtain rfl : k = n := by omega
        go_wp2_with fail
        go_ret
        refine ⟨ret_bool ?_, hb.out⟩
        rw [eq_comm, decide_eq_true_iff]
        refine List.ext_getElem? fun j => ?_
        by_cases hj : j < k
        · exact hp.out j hj
        · rw [List.getElem?_eq_none (by rw [HL.out]; omega), List.getElem?_eq_none (by rw [HL'.out]; omega)]
  · have hb : (n != n') = true := by simpa using hn
    have HN := Lib.hid (show decide (l = l') = false from by
      rw [decide_eq_false_iff_not]
      intro he
      have := congrArg List.length he
      rw [HL.out, HL'.out] at this
      exact hn this)
    clear h h'
    go_enter Try.func24, Try.ntmps24
    go_wp2_with fail
    go_ret
    exact ⟨ret_bool HN.out.symm, Below.refl _ _⟩

end Go.Proofs.Ytnigjchgpmladaa
