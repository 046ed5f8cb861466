/- Are two slices of bytes, and two caches, the same: the document's Same. -/
import Derived.Test.YthjohjijcgiogaaStr
import Derived.Test.YthjohjijcgiogaaHd
namespace Go.Proofs.Ythjohjijcgiogaa
open Go.RowKit

theorem sameBs (A : Option Addr) (n c : Nat) (l : List UInt8) (A' : Option Addr) (n' c' : Nat) (l' : List UInt8) (w : World) (h : Sl u8K w A n c l) (h' : Sl u8K w A' n' c' l') :
    Calls Try.prog 22 #[.slice A n c, .slice A' n' c'] w fun e w' => e = .returned (.bool (decide (l = l'))) ∧ w = w' := by
  have e1 := conv_bs h 34 Try.underlying34 Try.underlying5 Try.underlying9
  have e2 := conv_bs h' 34 Try.underlying34 Try.underlying5 Try.underlying9
  clear h h'
  go_enter Try.func22, Try.ntmps22
  go_wp2
  go_ret
  exact ⟨ret_bool (by rw [Bool.eq_iff_iff]; simp), rfl⟩

/-- Two caches are the same: what their chunks are. -/
def sameC (cap : Int) (l : List Hd) (cap' : Int) (l' : List Hd) : Bool := decide (cap = cap' ∧ l.map Hd.val = l'.map Hd.val)

theorem val_eq {x y : Hd} : x.val = y.val ↔ x.name = y.name ∧ x.no = y.no ∧ x.bs = y.bs := by simp [Hd.val]

set_option maxHeartbeats 4000000 in
set_option maxRecDepth 100000 in
theorem same_any (cap : Int) (A : Option Addr) (n c : Nat) (l : List Hd) (cap' : Int) (A' : Option Addr) (n' c' : Nat) (l' : List Hd) (w : World) (h : Hds w A n c l) (h' : Hds w A' n' c' l') :
    Calls Try.prog 19 #[.agg #[.int .i64 cap, .slice A n c], .agg #[.int .i64 cap', .slice A' n' c']] w fun e w' => e = .returned (.bool (sameC cap l cap' l')) ∧ Below w.heap.size w w' := by
  have HL := Lib.hid h.len
  have HL' := Lib.hid h'.len
  have hmax := h.max
  have hcap := h.cap
  by_cases hc : cap = cap'
  · by_cases hn : n = n'
    · subst hc
      subst hn
      have H := Lib.hid h
      have H' := Lib.hid h'
      clear h h'
      go_enter Try.func19, Try.ntmps19
      have H1 := Lib.hid ((Has.newAt w #[.int .i64 cap, .slice A n c] 24 (g := w.heap.size) rfl).alloc (.cells #[.int .i64 cap, .slice A' n c'] 24))
      have H2 := Lib.hid (Has.newAt (w.alloc (.cells #[.int .i64 cap, .slice A n c] 24)) #[.int .i64 cap, .slice A' n c'] 24 (g := w.heap.size + 1) (by simp))
      have B0 := Lib.hid (below_from (below_alloc1 (w.alloc (.cells #[.int .i64 cap, .slice A n c] 24)) (.cells #[.int .i64 cap, .slice A' n c'] 24)) (below_alloc1 w _) (by simp))
      go_wp2_with fail
      go_loopg [23] n (fun gg s wr => ∃ k : Nat, k ≤ n ∧ n - k ≤ gg ∧ s = .int .i64 k ∧ Hid (Has wr w.heap.size #[.int .i64 cap, .slice A n c]) ∧ Hid (Has wr (w.heap.size + 1) #[.int .i64 cap, .slice A' n c']) ∧ Hid (Below w.heap.size w wr) ∧ Hid (∀ j, j < k → (l.map Hd.val)[j]? = (l'.map Hd.val)[j]?))
      case atStart => exact ⟨0, Nat.zero_le _, by omega, rfl, H1, H2, B0, Lib.hid (fun j hj => absurd hj (Nat.not_lt_zero _))⟩
      case round =>
        obtain ⟨k, hk, hgg, rfl, h1, h2, hb, hp⟩ := hrel
        clear H1 H2 B0
        have c1 := h1.out.cell
        have c2 := h2.out.cell
        have l1 := h1.out.lt
        have l2 := h2.out.lt
        by_cases hlt : k < n
        · obtain ⟨b, off, hkl, rfl, hbl, x0, x1, x2⟩ := Hds.at_ (H.out.below hb.out) hlt
          obtain ⟨b', off', hkl', rfl, hbl', y0, y1, y2⟩ := Hds.at_ (H'.out.below hb.out) hlt
          have hi := H.out.each l[k] (List.getElem_mem hkl)
          have hi' := H'.out.each l'[k] (List.getElem_mem hkl')
          have ev : (l.map Hd.val)[k]? = some l[k].val := by rw [List.getElem?_map, List.getElem?_eq_getElem hkl]; rfl
          have ev' : (l'.map Hd.val)[k]? = some l'[k].val := by rw [List.getElem?_map, List.getElem?_eq_getElem hkl']; rfl
          have EV := Lib.hid ev
          have EV' := Lib.hid ev'
          have SB := Lib.hid (fun w' (hb' : Below wr.heap.size wr w') => sameBs l[k].A l[k].n l[k].c l[k].bs l'[k].A l'[k].n l'[k].c l'[k].bs w' ((hi.sl.below hb.out).below hb') ((hi'.sl.below hb.out).below hb'))
          clear ev ev' hi hi'
          generalize l[k] = x at *
          generalize l'[k] = y at *
          obtain ⟨xn, xo, xA, xN, xC, xb⟩ := x
          obtain ⟨yn, yo, yA, yN, yC, yb⟩ := y
          simp only at x0 x1 x2 y0 y1 y2 SB
          have B2 := Lib.hid (fun m : Nat => below_drewN (w := wr) (Below.refl wr.heap.size wr) m)
          have EH := Lib.hid (And.intro h1 (And.intro h2 (And.intro hb hp)))
          clear h1 h2 hb hp
          by_cases e1 : xn = yn
          · subst e1
            by_cases e2 : xo = yo
            · subst e2
              by_cases e3 : xb = yb
              · subst e3
                have ST := Lib.hid (fun w' hb' => by have := SB.out w' hb'; rwa [decide_eq_true (rfl : xb = xb)] at this)
                go_wp2_with fail
                go_quiet ((go_at_call 22; exact quiet_same (ST.out _ (B2.out _))))
                go_wp2_with fail
                go_roundg (n - (k + 1))
                case measure => omega
                case rel =>
                  obtain ⟨h1, h2, hb, hp⟩ := EH.out
                  refine ⟨k + 1, by omega, by omega, by go_num, h1.out.past (B2.out _), h2.out.past (B2.out _), below_from (B2.out _) hb.out hb.out.size, Lib.hid (fun j hj => ?_)⟩
                  by_cases ej : j = k
                  · subst ej; rw [EV.out, EV'.out]; rfl
                  · exact hp.out j (by omega)
              · have ST := Lib.hid (fun w' hb' => by have := SB.out w' hb'; rwa [decide_eq_false e3] at this)
                have E3 := Lib.hid e3
                clear e3
                go_wp2_with fail
                go_quiet ((go_at_call 22; exact quiet_same (ST.out _ (B2.out _))))
                go_wp2_with fail
                go_ret
                obtain ⟨h1, h2, hb, hp⟩ := EH.out
                refine ⟨ret_bool ?_, below_from (B2.out _) hb.out hb.out.size⟩
                rw [sameC, eq_comm, decide_eq_false_iff_not]
                rintro ⟨_, he⟩
                have := EV.out
                rw [he, EV'.out] at this
                injection this with this
                injection this with t1 t2 t3
                exact E3.out t3.symm
            · go_wp2_with fail
              go_quiet (fail)
              go_wp2_with fail
              go_ret
              obtain ⟨h1, h2, hb, hp⟩ := EH.out
              refine ⟨ret_bool ?_, below_from (B2.out _) hb.out hb.out.size⟩
              rw [sameC, eq_comm, decide_eq_false_iff_not]
              rintro ⟨_, he⟩
              have := EV.out
              rw [he, EV'.out] at this
              injection this with this
              injection this with t1 t2 t3
              exact e2 t2.symm
          · have ne := str_ne e1
            go_wp2_with fail
            go_quiet (fail)
            go_wp2_with fail
            go_ret
            obtain ⟨h1, h2, hb, hp⟩ := EH.out
            refine ⟨ret_bool ?_, below_from (B2.out _) hb.out hb.out.size⟩
            rw [sameC, eq_comm, decide_eq_false_iff_not]
            rintro ⟨_, he⟩
            have := EV.out
            rw [he, EV'.out] at this
            injection this with this
            injection this with t1 t2 t3
            exact e1 t1.symm
        · obtain rfl : k = n := by omega
          go_wp2_with fail
          go_ret
          refine ⟨ret_bool ?_, hb.out⟩
          rw [sameC, eq_comm, decide_eq_true_iff]
          refine ⟨rfl, List.ext_getElem? fun j => ?_⟩
          by_cases hj : j < k
          · exact hp.out j hj
          · rw [List.getElem?_eq_none (by rw [List.length_map, HL.out]; omega), List.getElem?_eq_none (by rw [List.length_map, HL'.out]; omega)]
    · have hb : (n != n') = true := by simpa using hn
      have hne : sameC cap l cap' l' = false := by
        rw [sameC, decide_eq_false_iff_not]
        rintro ⟨_, he⟩
        have := congrArg List.length he
        rw [List.length_map, List.length_map, HL.out, HL'.out] at this
        exact hn this
      have HN := Lib.hid hne
      clear hne h h'
      go_enter Try.func19, Try.ntmps19
      go_wp2_with fail
      go_ret
      exact ⟨ret_bool HN.out.symm, below_from (below_alloc1 (w.alloc _) _) (below_alloc1 w _) (by simp)⟩
  · have hne : sameC cap l cap' l' = false := by
      rw [sameC, decide_eq_false_iff_not]
      rintro ⟨he, _⟩
      exact hc he
    have HN := Lib.hid hne
    clear hne h h'
    go_enter Try.func19, Try.ntmps19
    go_wp2_with fail
    go_ret
    exact ⟨ret_bool HN.out.symm, below_from (below_alloc1 (w.alloc _) _) (below_alloc1 w _) (by simp)⟩
end Go.Proofs.Ythjohjijcgiogaa
