/- Same: are stores alike. -/
import Derived.Test.YtnnmppnbkplamaaObjs
import Derived.Laws.StructEq
namespace Go.Proofs.Ytnnmppnbkplamaa
open Go.RowKit Go.Shelf

/-- Are two stores alike? -/
def sameX (L : List Oc) (k : Int) (fs : List Ft) (L' : List Oc) (k' : Int) (fs' : List Ft) : Bool := decide (k = k') && (decide (fs.length = fs'.length) && (decide (L = L') && decide (fs = fs')))

set_option maxRecDepth 100000 in
set_option maxHeartbeats 8000000 in
theorem sames_any (A : Option Addr) (n c : Nat) (l : List Ob) (k1 : Int) (A' : Option Addr) (n' c' : Nat) (fs : List Ft) (D : Option Addr) (m d : Nat) (l2 : List Ob) (k2 : Int) (D' : Option Addr) (m' d' : Nat) (fs2 : List Ft) (w : World)
    (hl : Obs w A n c l) (hf : Fts w A' n' c' fs) (hl2 : Obs w D m d l2) (hf2 : Fts w D' m' d' fs2) :
    Calls Try.prog 17 #[stV A n c k1 A' n' c', stV D m d k2 D' m' d'] w fun e w' => e = .returned (.bool (sameX (l.map Ob.val) k1 fs (l2.map Ob.val) k2 fs2)) ∧ Below w.heap.size w w' := by
  obtain ⟨W1, hW1⟩ : ∃ W1, W1 = (w.alloc (.cells #[.slice A n c, .int .i64 k1, .slice A' n' c'] 25)).alloc (.cells #[.slice D m d, .int .i64 k2, .slice D' m' d'] 25) := ⟨_, rfl⟩
  have B0 := Lib.hid (show Below w.heap.size w W1 from by rw [hW1]; exact ((Below.refl _ w).alloc (Nat.le_refl _) _).alloc (by simp) _)
  have S0 := Lib.hid (show Has W1 w.heap.size #[.slice A n c, .int .i64 k1, .slice A' n' c'] from by rw [hW1]; exact (Has.newAt w _ 25 rfl).alloc _)
  have T0 := Lib.hid (show Has W1 (w.heap.size + 1) #[.slice D m d, .int .i64 k2, .slice D' m' d'] from by rw [hW1]; exact Has.newAt _ _ 25 (by simp))
  have HF := Lib.hid hf
  have HF2 := Lib.hid hf2
  have hmax := hf.max
  have hcap := hf.cap
  have HN := Lib.hid hf.len
  have HN2 := Lib.hid hf2.len
  have OB := Lib.hid (objs_any A n c l D m d l2 W1 (hl.below B0.out) (hl2.below B0.out))
  have HW := Lib.hid hW1
  have HX : Hid (sameX (l.map Ob.val) k1 fs (l2.map Ob.val) k2 fs2 = (decide (k1 = k2) && (decide (n' = m') && (decide (l.map Ob.val = l2.map Ob.val) && decide (fs = fs2))))) := Lib.hid (by unfold sameX; rw [hf.len, hf2.len])
  generalize sameX (l.map Ob.val) k1 fs (l2.map Ob.val) k2 fs2 = R at *
  generalize decide (l.map Ob.val = l2.map Ob.val) = ob at *
  clear hl hf hl2 hf2 hW1
  by_cases e1 : k1 = k2
  · subst e1
    by_cases e2 : n' = m'
    · subst e2
      cases ob with
      | false =>
        have hR : R = false := by rw [HX.out]; simp
        subst hR
        go_enter Try.func17, Try.ntmps17
        go_wp2_with fail
        rw [← HW.out]
        refine OB.out.mono ?_
        rintro e w2 ⟨rfl, hb2⟩
        have B2 := Lib.hid (below_from hb2 B0.out B0.out.size)
        clear hb2
        go_wp2_with fail
        go_ret
        exact ⟨rfl, B2.out⟩
      | true =>
        have hR : R = decide (fs = fs2) := by rw [HX.out]; simp
        subst hR
        clear HX
        go_enter Try.func17, Try.ntmps17
        go_wp2_with fail
        rw [← HW.out]
        refine OB.out.mono ?_
        rintro e w2 ⟨rfl, hb2⟩
        have B2 := Lib.hid (below_from hb2 B0.out B0.out.size)
        have S2 := Lib.hid (S0.out.past hb2)
        have T2 := Lib.hid (T0.out.past hb2)
        clear hb2
        go_wp2_with fail
        go_loopg [5] n' (fun gg s5 wr => ∃ k : Nat, k ≤ n' ∧ n' - k ≤ gg ∧ s5 = .int .i64 k ∧ Hid (Below w2.heap.size w2 wr) ∧ Hid (∀ j, j < k → fs[j]? = fs2[j]?))
        case atStart => exact ⟨0, Nat.zero_le _, by omega, rfl, Lib.hid (Below.refl _ _), Lib.hid (fun j hj => absurd hj (Nat.not_lt_zero _))⟩
        case round =>
          obtain ⟨k, hk, hgg, rfl, hb, hok⟩ := hrel
          have S1 := Lib.hid (S2.out.past hb.out)
          have T1 := Lib.hid (T2.out.past hb.out)
          have s1c := S1.out.cell
          have s1l := S1.out.lt
          have t1c := T1.out.cell
          have t1l := T1.out.lt
          have BB := Lib.hid (below_from hb.out B2.out B2.out.size)
          by_cases hlt : k < n'
          · obtain ⟨b, off, hkl, rfl, hbl, x0, x1⟩ := Fts.at_ (HF.out.below BB.out) hlt
            obtain ⟨b', off', hkl', rfl, hbl', y0, y1⟩ := Fts.at_ (HF2.out.below BB.out) hlt
            have EV := Lib.hid (List.getElem?_eq_getElem hkl)
            have EV' := Lib.hid (List.getElem?_eq_getElem hkl')
            generalize fs[k] = x at *
            generalize fs2[k] = y at *
            obtain ⟨xc, xk⟩ := x
            obtain ⟨yc, yk⟩ := y
            simp only at x0 x1 y0 y1
            have r0 := at_regrown (a := ⟨w.heap.size, 2, none⟩) (v := .slice (some ⟨b, off, none⟩) n' c') (S1.out.cell 2)
            have r1 := at_regrown (a := ⟨w.heap.size + 1, 2, none⟩) (v := .slice (some ⟨b', off', none⟩) n' d') (T1.out.cell 2)
            have r2 := at_regrown x0
            have r3 := at_regrown x1
            have r4 := at_regrown y0
            have r5 := at_regrown y1
            have k0 : (0 : Int) ≤ (k : Int) := by omega
            have k1' : (k : Int) < (n' : Int) := by omega
            by_cases e3 : xc = yc
            · subst e3
              by_cases e4 : xk = yk
              · subst e4
                go_wp2_with fail
                refine region_below (by kernel_rfl) (by kernel_rfl) ?_
                repeat (go_big_quiet_step (fail))
                refine wpQuiet_nil ?_
                intro w3 hb3
                have B3 := Lib.hid (below_from hb3 hb.out hb.out.size)
                clear hb3
                go_wp2_with fail
                go_roundg (n' - (k + 1))
                case measure => omega
                case rel =>
                  refine ⟨k + 1, by omega, by omega, by go_num, B3, Lib.hid (fun j hj => ?_)⟩
                  by_cases ej : j = k
                  · subst ej; rw [EV.out, EV'.out]
                  · exact hok.out j (by omega)
              · have d4 : decide (xk = yk) = false := decide_eq_false e4
                have m4 : (xk == yk) = false := by rw [beq_eq_false_iff_ne]; exact e4
                go_wp2_with fail
                refine region_below (by kernel_rfl) (by kernel_rfl) ?_
                repeat (go_big_quiet_step (fail))
                refine wpQuiet_nil ?_
                intro w3 hb3
                have B3 := Lib.hid (below_from hb3 BB.out BB.out.size)
                clear hb3
                go_wp2_with fail
                go_ret
                refine ⟨ret_bool ?_, B3.out⟩
                rw [eq_comm, decide_eq_false_iff_not]
                intro he
                have := EV.out
                rw [he, EV'.out] at this
                exact e4 (congrArg Ft.kind (Option.some.inj this)).symm
            · have d4 : decide (xc = yc) = false := decide_eq_false e3
              have m4 : (xc == yc) = false := by rw [beq_eq_false_iff_ne]; exact e3
              go_wp2_with fail
              refine region_below (by kernel_rfl) (by kernel_rfl) ?_
              repeat (go_big_quiet_step (fail))
              refine wpQuiet_nil ?_
              intro w3 hb3
              have B3 := Lib.hid (below_from hb3 BB.out BB.out.size)
              clear hb3
              go_wp2_with fail
              go_ret
              refine ⟨ret_bool ?_, B3.out⟩
              rw [eq_comm, decide_eq_false_iff_not]
              intro he
              have := EV.out
              rw [he, EV'.out] at this
              exact e3 (congrArg Ft.call (Option.some.inj this)).symm
          · obtain rfl : k = n' := by omega
            go_wp2_with fail
            go_ret
            refine ⟨ret_bool ?_, BB.out⟩
            rw [eq_comm, decide_eq_true_iff]
            refine List.ext_getElem? fun j => ?_
            by_cases hj : j < k
            · exact hok.out j hj
            · rw [List.getElem?_eq_none (by rw [HN.out]; omega), List.getElem?_eq_none (by rw [HN2.out]; omega)]
    · have hR : R = false := by rw [HX.out, decide_eq_false e2]; simp
      subst hR
      have m2 : (n' != m') = true := by simpa using e2
      clear HX
      go_enter Try.func17, Try.ntmps17
      go_wp2_with fail
      rw [← HW.out]
      go_ret
      exact ⟨rfl, B0.out⟩
  · have hR : R = false := by rw [HX.out, decide_eq_false e1]; simp
    subst hR
    have m2 : (k1 != k2) = true := by simpa using e1
    clear HX
    go_enter Try.func17, Try.ntmps17
    go_wp2_with fail
    rw [← HW.out]
    go_ret
    exact ⟨rfl, B0.out⟩

end Go.Proofs.Ytnnmppnbkplamaa
