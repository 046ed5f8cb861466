/- Are all the same; are there few. -/
import Derived.Test.YtnkjkgakbgjddaaSameL
namespace Go.Proofs.Ytnkjkgakbgjddaa
open Go.RowKit

/-- Are two the same? -/
def sameO (L : List Ps) (M : List Wt) (L' : List Ps) (M' : List Wt) : Bool := decide (L = L' ∧ M = M')
set_option maxRecDepth 100000 in
set_option maxHeartbeats 8000000 in
theorem same_any (o q : Of) (w : World) (ho : Of.At w o) (hq : Of.At w q) : Calls Try.prog 22 #[o.v, q.v] w fun e w' => e = .returned (.bool (sameO o.L o.M q.L q.M)) ∧ Below w.heap.size w w' := by
  obtain ⟨X, a, d, L, A, n, c, l⟩ := o
  obtain ⟨X', a', d', L', A', n', c', l'⟩ := q
  obtain ⟨W0, hW0⟩ : ∃ W0, W0 = (w.alloc (.cells #[.slice X a d, .slice A n c] 25)).alloc (.cells #[.slice X' a' d', .slice A' n' c'] 25) := ⟨_, rfl⟩
  have B0 := Lib.hid (show Below w.heap.size w W0 from by rw [hW0]; exact (below_alloc1 w _).alloc (by simp) _)
  have S0 := Lib.hid (show Has W0 w.heap.size #[.slice X a d, .slice A n c] from by rw [hW0]; exact (Has.newAt w _ 25 rfl).alloc _)
  have T0 := Lib.hid (show Has W0 (w.heap.size + 1) #[.slice X' a' d', .slice A' n' c'] from by rw [hW0]; exact Has.newAt _ _ 25 (by simp))
  have SL := Lib.hid (sameL_any X a d L X' a' d' L' W0 ((show Sl psK w X a d L from ho.1).below B0.out) ((show Sl psK w X' a' d' L' from hq.1).below B0.out))
  have HL := Lib.hid (show Sl wtK w A n c l from ho.2)
  have HL2 := Lib.hid (show Sl wtK w A' n' c' l' from hq.2)
  have HN := Lib.hid HL.out.len
  have HN2 := Lib.hid HL2.out.len
  have hmax := HL.out.max
  have hcap := HL.out.cap
  have HW0 := Lib.hid hW0
  unfold sameO
  simp only
  clear ho hq hW0
  by_cases eL : L = L'
  · have ET := Lib.hid eL
    rw [decide_eq_true eL] at SL
    by_cases en : n = n'
    · subst en
      clear eL
      go_enter Try.func22, Try.ntmps22
      go_wp2_with fail
      rw [← HW0.out]
      refine SL.out.mono ?_
      rintro e W1 ⟨rfl, hb1⟩
      have B1 := Lib.hid (below_from hb1 B0.out B0.out.size)
      have S1 := Lib.hid (S0.out.past hb1)
      have T1 := Lib.hid (T0.out.past hb1)
      have s1c := S1.out.cell
      have s1l := S1.out.lt
      have t1c := T1.out.cell
      have t1l := T1.out.lt
      clear hb1 S0 T0 SL
      go_wp2_with fail
      go_loopg [5] n (fun gg s5 wr => ∃ k : Nat, k ≤ n ∧ n - k ≤ gg ∧ s5 = .int .i64 k ∧ Hid (Below W1.heap.size W1 wr) ∧ Hid (∀ j, j < k → l[j]? = l'[j]?))
      case atStart => exact ⟨0, Nat.zero_le _, by omega, rfl, Lib.hid (Below.refl _ _), Lib.hid (fun j hj => absurd hj (Nat.not_lt_zero _))⟩
      case round =>
        obtain ⟨k, hk, hgg, rfl, hb, hok⟩ := hrel
        clear s1c s1l t1c t1l
        have S2 := Lib.hid (S1.out.past hb.out)
        have T2 := Lib.hid (T1.out.past hb.out)
        have s2c := S2.out.cell
        have s2l := S2.out.lt
        have t2c := T2.out.cell
        have t2l := T2.out.lt
        have BB := Lib.hid (below_from hb.out B1.out B1.out.size)
        by_cases hlt : k < n
        · obtain ⟨b, off, hkl, rfl, hbl, u0, u1, u2, u3, u4, u5⟩ := Wts.at_ (HL.out.below BB.out) hlt
          obtain ⟨b', off', hkl', rfl, hbl', v0, v1, v2, v3, v4, v5⟩ := Wts.at_ (HL2.out.below BB.out) hlt
          have EV := Lib.hid (List.getElem?_eq_getElem hkl)
          have EV' := Lib.hid (List.getElem?_eq_getElem hkl')
          generalize l[k] = x at *
          generalize l'[k] = y at *
          obtain ⟨x0, ⟨x1, x2, x3, x4, x5⟩⟩ := x
          obtain ⟨y0, ⟨y1, y2, y3, y4, y5⟩⟩ := y
          simp only at u0 u1 u2 u3 u4 u5 v0 v1 v2 v3 v4 v5
          have r0 := at_regrown u0
          have r1 := at_regrown u1
          have r2 := at_regrown u2
          have r3 := at_regrown u3
          have r4 := at_regrown u4
          have r5 := at_regrown u5
          have s0 := at_regrown v0
          have s1 := at_regrown v1
          have s2 := at_regrown v2
          have s3 := at_regrown v3
          have s4 := at_regrown v4
          have s5 := at_regrown v5
          have r6 := at_regrown (a := ⟨w.heap.size, 1, none⟩) (v := .slice (some ⟨b, off, none⟩) n c) (S2.out.cell 1)
          have r7 := at_regrown (a := ⟨w.heap.size + 1, 1, none⟩) (v := .slice (some ⟨b', off', none⟩) n c') (T2.out.cell 1)
          have k0 : (0 : Int) ≤ (k : Int) := by omega
          have k1 : (k : Int) < (n : Int) := by omega
          by_cases e0 : x0 = y0
          · subst e0
            by_cases e1 : x1 = y1
            · subst e1
              by_cases e2 : x2 = y2
              · subst e2
                by_cases e3 : x3 = y3
                · subst e3
                  by_cases e4 : x4 = y4
                  · subst e4
                    by_cases e5 : x5 = y5
                    · subst e5
                      go_wp2_with fail
                      refine region_below (by kernel_rfl) (by kernel_rfl) ?_
                      repeat (go_big_quiet_step (fail))
                      refine wpQuiet_nil ?_
                      intro w3 hb3
                      have B3 := Lib.hid (below_from hb3 hb.out hb.out.size)
                      clear hb3
                      go_wp2_with fail
                      go_roundg (n - (k + 1))
                      case measure => omega
                      case rel =>
                        refine ⟨k + 1, by omega, by omega, by go_num, B3, Lib.hid (fun j hj => ?_)⟩
                        by_cases ej : j = k
                        · subst ej; rw [EV.out, EV'.out]
                        · exact hok.out j (by omega)
                    · obtain ⟨d1, d2⟩ := int_ne e5
                      have HE := Lib.hid e5
                      clear e5
                      go_wp2_with fail
                      refine region_below (by kernel_rfl) (by kernel_rfl) ?_
                      repeat (go_big_quiet_step (fail))
                      refine wpQuiet_nil ?_
                      intro w3 hb3
                      have B3 := Lib.hid (below_from hb3 BB.out BB.out.size)
                      clear hb3
                      go_wp2_with fail
                      go_ret
                      refine ⟨ret_bool ?_, B3.out⟩
                      rw [eq_comm, decide_eq_false_iff_not]
                      rintro ⟨_, he⟩
                      have := EV.out
                      rw [he, EV'.out] at this
                      exact HE.out (congrArg (fun z : Wt => z.pos.o) (Option.some.inj this)).symm
                  · obtain ⟨d1, d2⟩ := int_ne e4
                    have HE := Lib.hid e4
                    clear e4
                    go_wp2_with fail
                    refine region_below (by kernel_rfl) (by kernel_rfl) ?_
                    repeat (go_big_quiet_step (fail))
                    refine wpQuiet_nil ?_
                    intro w3 hb3
                    have B3 := Lib.hid (below_from hb3 BB.out BB.out.size)
                    clear hb3
                    go_wp2_with fail
                    go_ret
                    refine ⟨ret_bool ?_, B3.out⟩
                    rw [eq_comm, decide_eq_false_iff_not]
                    rintro ⟨_, he⟩
                    have := EV.out
                    rw [he, EV'.out] at this
                    exact HE.out (congrArg (fun z : Wt => z.pos.h) (Option.some.inj this)).symm
                · obtain ⟨d1, d2⟩ := int_ne e3
                  have HE := Lib.hid e3
                  clear e3
                  go_wp2_with fail
                  refine region_below (by kernel_rfl) (by kernel_rfl) ?_
                  repeat (go_big_quiet_step (fail))
                  refine wpQuiet_nil ?_
                  intro w3 hb3
                  have B3 := Lib.hid (below_from hb3 BB.out BB.out.size)
                  clear hb3
                  go_wp2_with fail
                  go_ret
                  refine ⟨ret_bool ?_, B3.out⟩
                  rw [eq_comm, decide_eq_false_iff_not]
                  rintro ⟨_, he⟩
                  have := EV.out
                  rw [he, EV'.out] at this
                  exact HE.out (congrArg (fun z : Wt => z.pos.p) (Option.some.inj this)).symm
              · obtain ⟨d1, d2, d3⟩ := str_nes e2
                have HE := Lib.hid e2
                clear e2
                go_wp2_with fail
                refine region_below (by kernel_rfl) (by kernel_rfl) ?_
                repeat (go_big_quiet_step (fail))
                refine wpQuiet_nil ?_
                intro w3 hb3
                have B3 := Lib.hid (below_from hb3 BB.out BB.out.size)
                clear hb3
                go_wp2_with fail
                go_ret
                refine ⟨ret_bool ?_, B3.out⟩
                rw [eq_comm, decide_eq_false_iff_not]
                rintro ⟨_, he⟩
                have := EV.out
                rw [he, EV'.out] at this
                exact HE.out (congrArg (fun z : Wt => z.pos.t) (Option.some.inj this)).symm
            · obtain ⟨d1, d2, d3⟩ := str_nes e1
              have HE := Lib.hid e1
              clear e1
              go_wp2_with fail
              refine region_below (by kernel_rfl) (by kernel_rfl) ?_
              repeat (go_big_quiet_step (fail))
              refine wpQuiet_nil ?_
              intro w3 hb3
              have B3 := Lib.hid (below_from hb3 BB.out BB.out.size)
              clear hb3
              go_wp2_with fail
              go_ret
              refine ⟨ret_bool ?_, B3.out⟩
              rw [eq_comm, decide_eq_false_iff_not]
              rintro ⟨_, he⟩
              have := EV.out
              rw [he, EV'.out] at this
              exact HE.out (congrArg (fun z : Wt => z.pos.g) (Option.some.inj this)).symm
          · obtain ⟨d1, d2⟩ := int_ne e0
            have HE := Lib.hid e0
            clear e0
            go_wp2_with fail
            refine region_below (by kernel_rfl) (by kernel_rfl) ?_
            repeat (go_big_quiet_step (fail))
            refine wpQuiet_nil ?_
            intro w3 hb3
            have B3 := Lib.hid (below_from hb3 BB.out BB.out.size)
            clear hb3
            go_wp2_with fail
            go_ret
            refine ⟨ret_bool ?_, B3.out⟩
            rw [eq_comm, decide_eq_false_iff_not]
            rintro ⟨_, he⟩
            have := EV.out
            rw [he, EV'.out] at this
            exact HE.out (congrArg Wt.pid (Option.some.inj this)).symm
        · obtain rfl : k = n := by omega
          have EQ : l = l' := by
            apply List.ext_getElem?
            intro j
            rcases Nat.lt_or_ge j k with h | h
            · exact hok.out j h
            · rw [List.getElem?_eq_none (by rw [HN.out]; exact h), List.getElem?_eq_none (by rw [HN2.out]; exact h)]
          have EQ := Lib.hid EQ
          go_wp2_with fail
          go_ret
          exact ⟨ret_bool (decide_eq_true ⟨ET.out, EQ.out⟩).symm, BB.out⟩
    · have d1 : ((n : Int) == (n' : Int)) = false := by rw [beq_eq_false_iff_ne]; omega
      have d2 : decide ((n : Int) = (n' : Int)) = false := decide_eq_false (by omega)
      have d3 : (n == n') = false := by rw [beq_eq_false_iff_ne]; omega
      have NE := Lib.hid (show ¬ l = l' from fun h => en (by rw [← HN.out, ← HN2.out, h]))
      clear en eL
      go_enter Try.func22, Try.ntmps22
      go_wp2_with fail
      rw [← HW0.out]
      refine SL.out.mono ?_
      rintro e W1 ⟨rfl, hb1⟩
      have B1 := Lib.hid (below_from hb1 B0.out B0.out.size)
      have s1c := (S0.out.past hb1).cell
      have s1l := (S0.out.past hb1).lt
      have t1c := (T0.out.past hb1).cell
      have t1l := (T0.out.past hb1).lt
      clear hb1
      go_wp2_with fail
      go_ret
      exact ⟨ret_bool (decide_eq_false fun h => NE.out h.2).symm, B1.out⟩
  · have NE := Lib.hid eL
    rw [decide_eq_false eL] at SL
    clear eL
    go_enter Try.func22, Try.ntmps22
    go_wp2_with fail
    rw [← HW0.out]
    refine SL.out.mono ?_
    rintro e W1 ⟨rfl, hb1⟩
    have B1 := Lib.hid (below_from hb1 B0.out B0.out.size)
    clear hb1
    go_wp2_with fail
    go_ret
    exact ⟨ret_bool (decide_eq_false fun h => NE.out h.1).symm, B1.out⟩

def fewO (o : Of) : Bool := decide (o.n ≤ 100) && decide (o.n' ≤ 100)
theorem few_any (o : Of) (w : World) : Calls Try.prog 12 #[o.v] w fun e w' => e = .returned (.bool (fewO o)) ∧ Below w.heap.size w w' := by
  have B := Lib.hid (below_alloc1 w (.cells o.box 25))
  by_cases h1 : o.n ≤ 100
  · have d1 : decide ((o.n : Int) ≤ 100) = true := decide_eq_true (by omega)
    have F := Lib.hid (show fewO o = decide ((o.n' : Int) ≤ 100) from by unfold fewO; rw [decide_eq_true h1, Bool.true_and, Bool.eq_iff_iff, decide_eq_true_iff, decide_eq_true_iff]; omega)
    go_enter Try.func12, Try.ntmps12
    go_wp2
    all_goals (first | (exfalso; omega) | skip)
    go_ret
    exact ⟨ret_bool F.out.symm, B.out⟩
  · have d1 : decide ((o.n : Int) ≤ 100) = false := decide_eq_false (by omega)
    have F := Lib.hid (show fewO o = false from by unfold fewO; rw [decide_eq_false h1]; rfl)
    go_enter Try.func12, Try.ntmps12
    go_wp2
    all_goals (first | (exfalso; omega) | skip)
    go_ret
    exact ⟨ret_bool F.out.symm, B.out⟩
def fewP (p : Ps) : Bool := decide (p.g.size ≤ 300) && decide (p.t.size ≤ 300)
theorem fewP_any (p : Ps) (w : World) : Calls Try.prog 13 #[p.v] w fun e w' => e = .returned (.bool (fewP p)) ∧ Below w.heap.size w w' := by
  have B := Lib.hid (below_alloc1 w (.cells #[.string p.g, .string p.t, .int .i64 p.p, .int .i64 p.h, .int .i64 p.o] 29))
  unfold Ps.v
  by_cases h1 : p.g.size ≤ 300
  · have d1 : decide ((p.g.size : Int) ≤ 300) = true := decide_eq_true (by omega)
    have F := Lib.hid (show fewP p = decide ((p.t.size : Int) ≤ 300) from by unfold fewP; rw [decide_eq_true h1, Bool.true_and, Bool.eq_iff_iff, decide_eq_true_iff, decide_eq_true_iff]; omega)
    go_enter Try.func13, Try.ntmps13
    go_wp2
    all_goals (first | (exfalso; omega) | skip)
    go_ret
    exact ⟨ret_bool F.out.symm, B.out⟩
  · have d1 : decide ((p.g.size : Int) ≤ 300) = false := decide_eq_false (by omega)
    have F := Lib.hid (show fewP p = false from by unfold fewP; rw [decide_eq_false h1]; rfl)
    go_enter Try.func13, Try.ntmps13
    go_wp2
    all_goals (first | (exfalso; omega) | skip)
    go_ret
    exact ⟨ret_bool F.out.symm, B.out⟩

end Go.Proofs.Ytnkjkgakbgjddaa
