/- Objs: are objects alike. -/
import Derived.Test.YtnnmppnbkplamaaSmall
namespace Go.Proofs.Ytnnmppnbkplamaa
open Go.RowKit Go.Shelf

set_option maxHeartbeats 4000000 in
theorem objs_any (A : Option Addr) (n c : Nat) (l : List Ob) (A' : Option Addr) (n' c' : Nat) (l' : List Ob) (w : World) (h : Obs w A n c l) (h' : Obs w A' n' c' l') :
    Calls Try.prog 26 #[.slice A n c, .slice A' n' c'] w fun e w' => e = .returned (.bool (decide (l.map Ob.val = l'.map Ob.val))) ∧ Below w.heap.size w w' := by
  have HL := Lib.hid h.len
  have HL' := Lib.hid h'.len
  have hmax := h.max
  have hcap := h.cap
  by_cases hn : n = n'
  · subst hn
    have H := Lib.hid h
    have H' := Lib.hid h'
    clear h h'
    go_enter Try.func26, Try.ntmps26
    go_wp2_with fail
    go_loopg [5] n (fun gg s wr => ∃ k : Nat, k ≤ n ∧ n - k ≤ gg ∧ s = .int .i64 k ∧ Hid (Below w.heap.size w wr) ∧ Hid (∀ j, j < k → (l.map Ob.val)[j]? = (l'.map Ob.val)[j]?))
    case atStart => exact ⟨0, Nat.zero_le _, by omega, rfl, Lib.hid (Below.refl _ _), Lib.hid (fun j hj => absurd hj (Nat.not_lt_zero _))⟩
    case round =>
      obtain ⟨k, hk, hgg, rfl, hb, hp⟩ := hrel
      by_cases hlt : k < n
      · obtain ⟨b, off, hkl, rfl, hbl, x0, x1⟩ := Obs.at_ (H.out.below hb.out) hlt
        obtain ⟨b', off', hkl', rfl, hbl', y0, y1⟩ := Obs.at_ (H'.out.below hb.out) hlt
        have EV := Lib.hid (show (l.map Ob.val)[k]? = some l[k].val from by rw [List.getElem?_map, List.getElem?_eq_getElem hkl]; rfl)
        have EV' := Lib.hid (show (l'.map Ob.val)[k]? = some l'[k].val from by rw [List.getElem?_map, List.getElem?_eq_getElem hkl']; rfl)
        have hi := H.out.each l[k] (List.getElem_mem hkl)
        have hi' := H'.out.each l'[k] (List.getElem_mem hkl')
        have B2 := Lib.hid (fun m : Nat => below_drewN (w := wr) (Below.refl wr.heap.size wr) m)
        have C1 := fun m : Nat => conv_bs (P := Try.prog) (((hi.sl.below hb.out).below (B2.out m))) 26 Try.underlying26 Try.underlying5 Try.underlying9
        have C2 := fun m : Nat => conv_bs (P := Try.prog) (((hi'.sl.below hb.out).below (B2.out m))) 26 Try.underlying26 Try.underlying5 Try.underlying9
        clear hi hi'
        generalize l[k] = x at *
        generalize l'[k] = y at *
        obtain ⟨xn, xA, xN, xC, xb⟩ := x
        obtain ⟨yn, yA, yN, yC, yb⟩ := y
        simp only at x0 x1 y0 y1 C1 C2
        by_cases e1 : xn = yn
        · subst e1
          by_cases e3 : xb = yb
          · subst e3
            go_wp2_with fail
            go_quiet (fail)
            go_wp2_with fail
            go_roundg (n - (k + 1))
            case measure => omega
            case rel =>
              refine ⟨k + 1, by omega, by omega, by go_num, below_from (B2.out _) hb.out hb.out.size, Lib.hid (fun j hj => ?_)⟩
              by_cases ej : j = k
              · subst ej; rw [EV.out, EV'.out]; rfl
              · exact hp.out j (by omega)
          · have ne : (xb == yb) = false := by rw [beq_eq_false_iff_ne]; exact e3
            go_wp2_with fail
            go_quiet (fail)
            go_wp2_with fail
            go_ret
            refine ⟨ret_bool ?_, below_from (B2.out _) hb.out hb.out.size⟩
            rw [eq_comm, decide_eq_false_iff_not]
            intro he
            have := EV.out
            rw [he, EV'.out] at this
            exact e3 (congrArg Oc.bs (Option.some.inj this)).symm
        · have ne := str_ne e1
          go_wp2_with fail
          go_quiet (fail)
          go_wp2_with fail
          go_ret
          refine ⟨ret_bool ?_, below_from (B2.out _) hb.out hb.out.size⟩
          rw [eq_comm, decide_eq_false_iff_not]
          intro he
          have := EV.out
          rw [he, EV'.out] at this
          exact e1 (congrArg Oc.name (Option.some.inj this)).symm
      · obtain rfl : k = n := by omega
        go_wp2_with fail
        go_ret
        refine ⟨ret_bool ?_, hb.out⟩
        rw [eq_comm, decide_eq_true_iff]
        refine List.ext_getElem? fun j => ?_
        by_cases hj : j < k
        · exact hp.out j hj
        · rw [List.getElem?_eq_none (by rw [List.length_map, HL.out]; omega), List.getElem?_eq_none (by rw [List.length_map, HL'.out]; omega)]
  · have hb : (n != n') = true := by simpa using hn
    have HN := Lib.hid (show decide (l.map Ob.val = l'.map Ob.val) = false from by
      rw [decide_eq_false_iff_not]
      intro he
      have := congrArg List.length he
      rw [List.length_map, List.length_map, HL.out, HL'.out] at this
      exact hn this)
    clear h h'
    go_enter Try.func26, Try.ntmps26
    go_wp2_with fail
    go_ret
    exact ⟨ret_bool HN.out.symm, Below.refl _ _⟩

end Go.Proofs.Ytnnmppnbkplamaa
