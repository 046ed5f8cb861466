/- Whether two nets are the same, and two lists of messages; of the document. -/
import Derived.Test.YtmlgahambecamaaPlain
import Derived.Test.YtmlgahambecamaaStr
import Derived.Shelf.Abstract
import Derived.Laws.StructEq
namespace Go.Proofs.Ytmlgahambecamaa
open Go.RowKit Go.Shelf

/-- Whether two rows of bytes are the same. -/
theorem bsame_any (A : Option Addr) (n c : Nat) (l : List UInt8) (A' : Option Addr) (n' c' : Nat) (m : List UInt8) (w : World) (hl : Sl u8K w A n c l) (hm : Sl u8K w A' n' c' m) :
    Calls Try.prog 32 #[.slice A n c, .slice A' n' c'] w fun e w' => e = .returned (.bool (decide (l = m))) ∧ w = w' := by
  have cv1 := conv_bs (P := Try.prog) hl 36 Try.underlying36 Try.underlying5 Try.underlying9
  have cv2 := conv_bs (P := Try.prog) hm 36 Try.underlying36 Try.underlying5 Try.underlying9
  clear hl hm
  by_cases h : l = m
  · subst h
    have e : decide (l = l) = true := decide_eq_true rfl
    rw [e]
    go_enter Try.func32, Try.ntmps32
    go_wp2_with fail
    go_ret
    exact ⟨ret_bool (by simp), rfl⟩
  · have e : decide (l = m) = false := decide_eq_false h
    have ne := str_ne (a := ⟨l.toArray⟩) (b := ⟨m.toArray⟩) (fun e => h ((str_eq _ _).1 e))
    rw [e]
    clear h
    go_enter Try.func32, Try.ntmps32
    go_wp2_with fail
    go_ret
    exact ⟨ret_bool (by first | rfl | exact ne | simpa using ne), rfl⟩

set_option maxHeartbeats 8000000 in
set_option maxRecDepth 100000 in
/-- Whether two lists of messages are the same. -/
theorem msgs_any (A : Option Addr) (n c : Nat) (l : List Mg) (A' : Option Addr) (n' c' : Nat) (m : List Mg) (w : World) (hl : Sl mgK w A n c l) (hm : Sl mgK w A' n' c' m) :
    Calls Try.prog 23 #[.slice A n c, .slice A' n' c'] w fun e w' => e = .returned (.bool (decide (l.map Mg.val = m.map Mg.val))) ∧ Below w.heap.size w w' := by
  have h1 := hl.cap
  have h2 := hl.max
  have h3 := hm.cap
  have h4 := hm.max
  have LN := Lib.hid hl.len
  have MN := Lib.hid hm.len
  have HL := Lib.hid hl
  have HM := Lib.hid hm
  clear hl hm
  by_cases hn : n = n'
  · subst hn
    have d0 : ((n : Int) != (n : Int)) = false := by simp
    go_enter Try.func23, Try.ntmps23
    go_wp2_with fail
    go_loopg [13] n (fun gg s wr => ∃ k : Nat, k ≤ n ∧ n - k ≤ gg ∧ s = .int .i64 k ∧ Hid (Below w.heap.size w wr) ∧ Hid (∀ j (hj : j < l.length) (hj' : j < m.length), j < k → l[j].val = m[j].val))
    case atStart => exact ⟨0, Nat.zero_le _, by omega, rfl, Below.refl _ _, Lib.hid (fun j _ _ h => absurd h (Nat.not_lt_zero _))⟩
    case round =>
      obtain ⟨k, hk, hgg, rfl, hb, I⟩ := hrel
      by_cases hlt : k < n
      · obtain ⟨b, off, hkl, rfl, hbl, x0, x1, x2, x3, x4⟩ := mg_at (HL.out.below hb.out) hlt
        obtain ⟨b2, off2, hkm, rfl, hbl2, y0, y1, y2, y3, y4⟩ := mg_at (HM.out.below hb.out) hlt
        have BS := Lib.hid (fun w' (h : Below wr.heap.size wr w') => bsame_any _ _ _ _ _ _ _ _ w' (((HL.out.below hb.out).each l[k] (List.getElem_mem hkl)).below h) (((HM.out.below hb.out).each m[k] (List.getElem_mem hkm)).below h))
        have NO := Lib.hid (show l[k].val ≠ m[k].val → decide (l.map Mg.val = m.map Mg.val) = false from fun h => decide_eq_false (fun e => h (by
          have h1 : (l.map Mg.val)[k]? = (m.map Mg.val)[k]? := by rw [e]
          rw [List.getElem?_map, List.getElem?_map, List.getElem?_eq_getElem hkl, List.getElem?_eq_getElem hkm] at h1
          simpa using h1)))
        have ST := Lib.hid (show l[k].val = m[k].val → ∀ j (hj : j < l.length) (hj' : j < m.length), j < k + 1 → l[j].val = m[j].val from fun h j hj hj' hjk => by
          rcases Nat.lt_or_ge j k with h' | h'
          · exact I.out j hj hj' h'
          · obtain rfl : j = k := by omega
            exact h)
        generalize l[k] = x at *
        generalize m[k] = y at *
        have rx0 := at_regrown x0
        have rx1 := at_regrown x1
        have rx2 := at_regrown x2
        have rx3 := at_regrown x3
        have rx4 := at_regrown x4
        have ry0 := at_regrown y0
        have ry1 := at_regrown y1
        have ry2 := at_regrown y2
        have ry3 := at_regrown y3
        have ry4 := at_regrown y4
        by_cases et : x.t = y.t
        · have dt : (x.t != y.t) = false := by rw [et]; simp
          by_cases eno : x.no = y.no
          · have dno : (x.no != y.no) = false := by rw [eno]; simp
            by_cases efrm : x.frm = y.frm
            · have dfrm : (x.frm != y.frm) = false := by rw [efrm]; simp
              by_cases edst : x.dst = y.dst
              · have ddst : (x.dst != y.dst) = false := by rw [edst]; simp
                by_cases eb : x.bs = y.bs
                · have BS := Lib.hid (show ∀ w', Below wr.heap.size wr w' → Calls Try.prog 32 #[.slice x.A x.n x.c, .slice y.A y.n y.c] w' fun e w'' => e = .returned (.bool true) ∧ w' = w'' from fun w' h => by have := BS.out w' h; rwa [decide_eq_true eb] at this)
                  have NX := Lib.hid (ST.out (by unfold Mg.val; rw [et, eno, efrm, edst, eb]))
                  go_wp2_with fail
                  refine region_below (by kernel_rfl) (by kernel_rfl) ?_
                  repeat (go_big_quiet_step (exact call_regrown_same BS.out))
                  refine wpQuiet_nil ?_
                  intro wz hbz
                  have BZ := Lib.hid (below_from hbz hb.out hb.out.size)
                  clear hbz
                  go_wp2_with fail
                  go_roundg (n - (k + 1))
                  case measure => omega
                  case rel => exact ⟨k + 1, by omega, by omega, by go_num, BZ, NX⟩
                · have BS := Lib.hid (show ∀ w', Below wr.heap.size wr w' → Calls Try.prog 32 #[.slice x.A x.n x.c, .slice y.A y.n y.c] w' fun e w'' => e = .returned (.bool false) ∧ w' = w'' from fun w' h => by have := BS.out w' h; rwa [decide_eq_false eb] at this)
                  have R := Lib.hid (NO.out (fun h => eb (congrArg Mv.bs h)))
                  go_wp2_with fail
                  refine region_below (by kernel_rfl) (by kernel_rfl) ?_
                  repeat (go_big_quiet_step (exact call_regrown_same BS.out))
                  refine wpQuiet_nil ?_
                  intro wz hbz
                  have BZ := Lib.hid (below_from hbz hb.out hb.out.size)
                  clear hbz
                  go_wp2_with fail
                  go_ret
                  exact ⟨ret_bool R.out.symm, BZ.out⟩
              · have ddst : (x.dst != y.dst) = true := by rw [bne_iff_ne]; exact edst
                have R := Lib.hid (NO.out (fun h => edst (congrArg Mv.dst h)))
                go_wp2_with fail
                refine region_below (by kernel_rfl) (by kernel_rfl) ?_
                repeat (go_big_quiet_step (exact call_regrown_same BS.out))
                refine wpQuiet_nil ?_
                intro wz hbz
                have BZ := Lib.hid (below_from hbz hb.out hb.out.size)
                clear hbz
                go_wp2_with fail
                go_ret
                exact ⟨ret_bool R.out.symm, BZ.out⟩
            · have dfrm : (x.frm != y.frm) = true := by rw [bne_iff_ne]; exact efrm
              have R := Lib.hid (NO.out (fun h => efrm (congrArg Mv.frm h)))
              go_wp2_with fail
              refine region_below (by kernel_rfl) (by kernel_rfl) ?_
              repeat (go_big_quiet_step (exact call_regrown_same BS.out))
              refine wpQuiet_nil ?_
              intro wz hbz
              have BZ := Lib.hid (below_from hbz hb.out hb.out.size)
              clear hbz
              go_wp2_with fail
              go_ret
              exact ⟨ret_bool R.out.symm, BZ.out⟩
          · have dno : (x.no != y.no) = true := by rw [bne_iff_ne]; exact eno
            have R := Lib.hid (NO.out (fun h => eno (congrArg Mv.no h)))
            go_wp2_with fail
            refine region_below (by kernel_rfl) (by kernel_rfl) ?_
            repeat (go_big_quiet_step (exact call_regrown_same BS.out))
            refine wpQuiet_nil ?_
            intro wz hbz
            have BZ := Lib.hid (below_from hbz hb.out hb.out.size)
            clear hbz
            go_wp2_with fail
            go_ret
            exact ⟨ret_bool R.out.symm, BZ.out⟩
        · have dt : (x.t != y.t) = true := by rw [bne_iff_ne]; exact et
          have R := Lib.hid (NO.out (fun h => et (congrArg Mv.t h)))
          go_wp2_with fail
          refine region_below (by kernel_rfl) (by kernel_rfl) ?_
          repeat (go_big_quiet_step (exact call_regrown_same BS.out))
          refine wpQuiet_nil ?_
          intro wz hbz
          have BZ := Lib.hid (below_from hbz hb.out hb.out.size)
          clear hbz
          go_wp2_with fail
          go_ret
          exact ⟨ret_bool R.out.symm, BZ.out⟩
      · obtain rfl : n = k := by omega
        have R := Lib.hid (show decide (l.map Mg.val = m.map Mg.val) = true from decide_eq_true (List.ext_getElem (by rw [List.length_map, List.length_map, LN.out, MN.out]) (fun j h1 h2 => by
          rw [List.getElem_map, List.getElem_map]
          rw [List.length_map] at h1 h2
          exact I.out j h1 h2 (by rw [← LN.out]; exact h1))))
        go_wp2_with fail
        go_ret
        exact ⟨ret_bool R.out.symm, hb.out⟩
  · have d0 : ((n : Int) != (n' : Int)) = true := by rw [bne_iff_ne]; omega
    have R := Lib.hid (show decide (l.map Mg.val = m.map Mg.val) = false from decide_eq_false (fun e => hn (by have := congrArg List.length e; rw [List.length_map, List.length_map, LN.out, MN.out] at this; exact this)))
    clear hn
    go_enter Try.func23, Try.ntmps23
    go_wp2_with fail
    go_ret
    exact ⟨ret_bool R.out.symm, Below.refl _ _⟩

end Go.Proofs.Ytmlgahambecamaa
