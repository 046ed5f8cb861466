/- Are two lists of producers the same; two regions. -/
import Derived.Test.YtnigjchgpmladaaSameX
namespace Go.Proofs.Ytnigjchgpmladaa
open Go.RowKit Go.Shelf

set_option maxRecDepth 100000 in
set_option maxHeartbeats 16000000 in
theorem samel_any (A : Option Addr) (n c : Nat) (l : List Tx) (A' : Option Addr) (n' c' : Nat) (l' : List Tx) (w : World) (hl : Sl txK w A n c l) (hl' : Sl txK w A' n' c' l') :
    Calls Try.prog 21 #[.slice A n c, .slice A' n' c'] w fun e w' => e = .returned (.bool (decide (l.map Tx.val = l'.map Tx.val))) ∧ Below w.heap.size w w' := by
  have HN := Lib.hid hl.len
  have HN2 := Lib.hid hl'.len
  have hmax := hl.max
  have hcap := hl.cap
  have HL := Lib.hid hl
  have HL2 := Lib.hid hl'
  clear hl hl'
  by_cases en : n = n'
  · subst en
    go_enter Try.func21, Try.ntmps21
    go_wp2_with fail
    go_loopg [5] n (fun gg s5 wr => ∃ k : Nat, k ≤ n ∧ n - k ≤ gg ∧ s5 = .int .i64 k ∧ Hid (Below w.heap.size w wr) ∧ Hid (∀ j, j < k → (l.map Tx.val)[j]? = (l'.map Tx.val)[j]?))
    case atStart => exact ⟨0, Nat.zero_le _, by omega, rfl, Lib.hid (Below.refl _ _), Lib.hid (fun j hj => absurd hj (Nat.not_lt_zero _))⟩
    case round =>
      obtain ⟨k, hk, hgg, rfl, B1, hok⟩ := hrel
      by_cases hlt : k < n
      · obtain ⟨b, off, hkl, rfl, hbl, u0, u1, u2, u3, u4, u5, u6, u7⟩ := tx_at (HL.out.below B1.out) hlt
        obtain ⟨b', off', hkl', rfl, hbl', v0, v1, v2, v3, v4, v5, v6, v7⟩ := tx_at (HL2.out.below B1.out) hlt
        have EV := Lib.hid (show (l.map Tx.val)[k]? = some l[k].val from by rw [List.getElem?_map, List.getElem?_eq_getElem hkl]; rfl)
        have EV' := Lib.hid (show (l'.map Tx.val)[k]? = some l'[k].val from by rw [List.getElem?_map, List.getElem?_eq_getElem hkl']; rfl)
        have XI := Lib.hid (show Tx.In w l[k] from HL.out.each l[k] (List.getElem_mem hkl))
        have YI := Lib.hid (show Tx.In w l'[k] from HL2.out.each l'[k] (List.getElem_mem hkl'))
        generalize l[k] = x at *
        generalize l'[k] = y at *
        have SX := Lib.hid (fun w' (h : Below wr.heap.size wr w') => sametx_any x y w' ⟨XI.out.id, XI.out.p.below (below_from h B1.out B1.out.size), XI.out.g.below (below_from h B1.out B1.out.size)⟩ ⟨YI.out.id, YI.out.p.below (below_from h B1.out B1.out.size), YI.out.g.below (below_from h B1.out B1.out.size)⟩)
        have ru0 := at_regrown u0
        have rv0 := at_regrown v0
        have ru1 := at_regrown u1
        have rv1 := at_regrown v1
        have ru2 := at_regrown u2
        have rv2 := at_regrown v2
        have ru3 := at_regrown u3
        have rv3 := at_regrown v3
        have ru4 := at_regrown u4
        have rv4 := at_regrown v4
        have ru5 := at_regrown u5
        have rv5 := at_regrown v5
        have ru6 := at_regrown u6
        have rv6 := at_regrown v6
        have ru7 := at_regrown u7
        have rv7 := at_regrown v7
        have k0 : (0 : Int) ≤ (k : Int) := by omega
        have k1 : (k : Int) < (n : Int) := by omega
        by_cases e : x.val = y.val
        · have E := Lib.hid e
          rw [decide_eq_true e] at SX
          clear e
          go_wp2_with fail
          refine region_below (by kernel_rfl) (by kernel_rfl) ?_
          repeat (go_big_quiet_step ((go_at_call 20; exact call_regrown SX.out)))
          refine wpQuiet_nil ?_
          intro w3 hb3
          have B3 := Lib.hid (below_from hb3 B1.out B1.out.size)
          clear hb3
          go_wp2_with fail
          go_roundg (n - (k + 1))
          case measure => omega
          case rel =>
            refine ⟨k + 1, by omega, by omega, by go_num, B3, Lib.hid (fun j hj => ?_)⟩
            by_cases ej : j = k
            · subst ej; rw [EV.out, EV'.out, E.out]
            · exact hok.out j (by omega)
        · have R := Lib.hid (show decide (l.map Tx.val = l'.map Tx.val) = false from decide_eq_false (fun h => e (by have := EV.out; rw [h, EV'.out] at this; exact (Option.some.inj this).symm)))
          rw [decide_eq_false e] at SX
          clear e
          go_wp2_with fail
          refine region_below (by kernel_rfl) (by kernel_rfl) ?_
          repeat (go_big_quiet_step ((go_at_call 20; exact call_regrown SX.out)))
          refine wpQuiet_nil ?_
          intro w3 hb3
          have B3 := Lib.hid (below_from hb3 B1.out B1.out.size)
          clear hb3
          go_wp2_with fail
          go_ret
          exact ⟨ret_bool R.out.symm, B3.out⟩
      · obtain rfl : k = n := by omega
        have EQ := Lib.hid (show l.map Tx.val = l'.map Tx.val from by
          apply List.ext_getElem?
          intro j
          rcases Nat.lt_or_ge j k with h | h
          · exact hok.out j h
          · rw [List.getElem?_eq_none (by rw [List.length_map, HN.out]; exact h), List.getElem?_eq_none (by rw [List.length_map, HN2.out]; exact h)])
        go_wp2_with fail
        go_ret
        exact ⟨ret_bool (decide_eq_true EQ.out).symm, B1.out⟩
  · have d1 : ((n : Int) == (n' : Int)) = false := by rw [beq_eq_false_iff_ne]; omega
    have d2 : decide ((n : Int) = (n' : Int)) = false := decide_eq_false (by omega)
    have d3 : (n == n') = false := by rw [beq_eq_false_iff_ne]; omega
    have d0 : ((n : Int) != (n' : Int)) = true := by rw [bne_iff_ne]; omega
    have NE := Lib.hid (show ¬ l.map Tx.val = l'.map Tx.val from fun h => en (by have := congrArg List.length h; rw [List.length_map, List.length_map, HN.out, HN2.out] at this; exact this))
    clear en
    go_enter Try.func21, Try.ntmps21
    go_wp2_with fail
    go_ret
    exact ⟨ret_bool (decide_eq_false NE.out).symm, Below.refl _ _⟩

end Go.Proofs.Ytnigjchgpmladaa
