/- Are positions the same, and are there few. -/
import Derived.Test.YtnkjkgakbgjddaaGet
namespace Go.Proofs.Ytnkjkgakbgjddaa
open Go.RowKit

set_option maxRecDepth 100000 in
set_option maxHeartbeats 8000000 in
theorem sameL_any (A : Option Addr) (n c : Nat) (l : List Ps) (A' : Option Addr) (n' c' : Nat) (l' : List Ps) (w : World) (hl : Sl psK w A n c l) (hl' : Sl psK w A' n' c' l') :
    Calls Try.prog 32 #[.slice A n c, .slice A' n' c'] w fun e w' => e = .returned (.bool (decide (l = l'))) ∧ Below w.heap.size w w' := by
  have HN := Lib.hid hl.len
  have HN2 := Lib.hid hl'.len
  have hmax := hl.max
  have hcap := hl.cap
  have HL := Lib.hid hl
  have HL2 := Lib.hid hl'
  clear hl hl'
  by_cases en : n = n'
  · subst en
    go_enter Try.func32, Try.ntmps32
    go_wp2_with fail
    go_loopg [5] n (fun gg s5 wr => ∃ k : Nat, k ≤ n ∧ n - k ≤ gg ∧ s5 = .int .i64 k ∧ Hid (Below w.heap.size w wr) ∧ Hid (∀ j, j < k → l[j]? = l'[j]?))
    case atStart => exact ⟨0, Nat.zero_le _, by omega, rfl, Lib.hid (Below.refl _ _), Lib.hid (fun j hj => absurd hj (Nat.not_lt_zero _))⟩
    case round =>
      obtain ⟨k, hk, hgg, rfl, hb, hok⟩ := hrel
      by_cases hlt : k < n
      · obtain ⟨b, off, hkl, rfl, hbl, u0, u1, u2, u3, u4⟩ := Pss.at_ (HL.out.below hb.out) hlt
        obtain ⟨b', off', hkl', rfl, hbl', v0, v1, v2, v3, v4⟩ := Pss.at_ (HL2.out.below hb.out) hlt
        have EV := Lib.hid (List.getElem?_eq_getElem hkl)
        have EV' := Lib.hid (List.getElem?_eq_getElem hkl')
        generalize l[k] = x at *
        generalize l'[k] = y at *
        obtain ⟨x0, x1, x2, x3, x4⟩ := x
        obtain ⟨y0, y1, y2, y3, y4⟩ := y
        simp only at u0 u1 u2 u3 u4 v0 v1 v2 v3 v4
        have r0 := at_regrown u0
        have r1 := at_regrown u1
        have r2 := at_regrown u2
        have r3 := at_regrown u3
        have r4 := at_regrown u4
        have s0 := at_regrown v0
        have s1 := at_regrown v1
        have s2 := at_regrown v2
        have s3 := at_regrown v3
        have s4 := at_regrown v4
        have k0 : (0 : Int) ≤ (k : Int) := by omega
        have k1 : (k : Int) < (n : Int) := by omega
        by_cases e0 : x0 = y0
        · subst e0
          by_cases e1 : x1 = y1
          · subst e1
            by_cases e2 : x2 = y2
            · subst e2
              by_cases e3 : x3 = y3
              · subst e3
                by_cases e4 : x4 = y4
                · subst e4
                  go_wp2_with fail
                  refine region_below (by kernel_rfl) (by kernel_rfl) ?_
                  repeat (go_big_quiet_step (fail))
                  refine wpQuiet_nil ?_
                  intro w3 hb3
                  have B3 := Lib.hid (below_from hb3 hb.out hb.out.size)
                  clear hb3
                  go_wp2_with fail
                  go_roundg (n - (k + 1))
                  case measure => omega
                  case rel =>
                    refine ⟨k + 1, by omega, by omega, by go_num, B3, Lib.hid (fun j hj => ?_)⟩
                    by_cases ej : j = k
                    · subst ej; rw [EV.out, EV'.out]
                    · exact hok.out j (by omega)
                · obtain ⟨d1, d2⟩ := int_ne e4
                  have HE := Lib.hid e4
                  clear e4
                  go_wp2_with fail
                  refine region_below (by kernel_rfl) (by kernel_rfl) ?_
                  repeat (go_big_quiet_step (fail))
                  refine wpQuiet_nil ?_
                  intro w3 hb3
                  have B3 := Lib.hid (below_from hb3 hb.out hb.out.size)
                  clear hb3
                  go_wp2_with fail
                  go_ret
                  refine ⟨ret_bool ?_, B3.out⟩
                  rw [eq_comm, decide_eq_false_iff_not]
                  intro he
                  have := EV.out
                  rw [he, EV'.out] at this
                  exact HE.out (congrArg Ps.o (Option.some.inj this)).symm
              · obtain ⟨d1, d2⟩ := int_ne e3
                have HE := Lib.hid e3
                clear e3
                go_wp2_with fail
                refine region_below (by kernel_rfl) (by kernel_rfl) ?_
                repeat (go_big_quiet_step (fail))
                refine wpQuiet_nil ?_
                intro w3 hb3
                have B3 := Lib.hid (below_from hb3 hb.out hb.out.size)
                clear hb3
                go_wp2_with fail
                go_ret
                refine ⟨ret_bool ?_, B3.out⟩
                rw [eq_comm, decide_eq_false_iff_not]
                intro he
                have := EV.out
                rw [he, EV'.out] at this
                exact HE.out (congrArg Ps.h (Option.some.inj this)).symm
            · obtain ⟨d1, d2⟩ := int_ne e2
              have HE := Lib.hid e2
              clear e2
              go_wp2_with fail
              refine region_below (by kernel_rfl) (by kernel_rfl) ?_
              repeat (go_big_quiet_step (fail))
              refine wpQuiet_nil ?_
              intro w3 hb3
              have B3 := Lib.hid (below_from hb3 hb.out hb.out.size)
              clear hb3
              go_wp2_with fail
              go_ret
              refine ⟨ret_bool ?_, B3.out⟩
              rw [eq_comm, decide_eq_false_iff_not]
              intro he
              have := EV.out
              rw [he, EV'.out] at this
              exact HE.out (congrArg Ps.p (Option.some.inj this)).symm
          · obtain ⟨d1, d2, d3⟩ := str_nes e1
            have HE := Lib.hid e1
            clear e1
            go_wp2_with fail
            refine region_below (by kernel_rfl) (by kernel_rfl) ?_
            repeat (go_big_quiet_step (fail))
            refine wpQuiet_nil ?_
            intro w3 hb3
            have B3 := Lib.hid (below_from hb3 hb.out hb.out.size)
            clear hb3
            go_wp2_with fail
            go_ret
            refine ⟨ret_bool ?_, B3.out⟩
            rw [eq_comm, decide_eq_false_iff_not]
            intro he
            have := EV.out
            rw [he, EV'.out] at this
            exact HE.out (congrArg Ps.t (Option.some.inj this)).symm
        · obtain ⟨d1, d2, d3⟩ := str_nes e0
          have HE := Lib.hid e0
          clear e0
          go_wp2_with fail
          refine region_below (by kernel_rfl) (by kernel_rfl) ?_
          repeat (go_big_quiet_step (fail))
          refine wpQuiet_nil ?_
          intro w3 hb3
          have B3 := Lib.hid (below_from hb3 hb.out hb.out.size)
          clear hb3
          go_wp2_with fail
          go_ret
          refine ⟨ret_bool ?_, B3.out⟩
          rw [eq_comm, decide_eq_false_iff_not]
          intro he
          have := EV.out
          rw [he, EV'.out] at this
          exact HE.out (congrArg Ps.g (Option.some.inj this)).symm
      · obtain rfl : k = n := by omega
        have EQ : l = l' := by
          apply List.ext_getElem?
          intro j
          rcases Nat.lt_or_ge j k with h | h
          · exact hok.out j h
          · rw [List.getElem?_eq_none (by rw [HN.out]; exact h), List.getElem?_eq_none (by rw [HN2.out]; exact h)]
        have EQ := Lib.hid EQ
        go_wp2_with fail
        go_ret
        exact ⟨ret_bool (decide_eq_true EQ.out).symm, hb.out⟩
  · have d1 : ((n : Int) == (n' : Int)) = false := by rw [beq_eq_false_iff_ne]; omega
    have d2 : decide ((n : Int) = (n' : Int)) = false := decide_eq_false (by omega)
    have d3 : (n == n') = false := by rw [beq_eq_false_iff_ne]; omega
    have NE := Lib.hid (show ¬ l = l' from fun h => en (by rw [← HN.out, ← HN2.out, h]))
    clear en
    go_enter Try.func32, Try.ntmps32
    go_wp2_with fail
    go_ret
    exact ⟨ret_bool (decide_eq_false NE.out).symm, Below.refl _ _⟩

end Go.Proofs.Ytnkjkgakbgjddaa
