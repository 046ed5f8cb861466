/- The document's with, where an object is put. -/
import Derived.Test.YtnnmppnbkplamaaRWd
import Derived.Test.YtnnmppnbkplamaaWithP
namespace Go.Proofs.Ytnnmppnbkplamaa
open Go.RowKit Go.Shelf

theorem bl_eq (a b : ByteArray) : Op.bytesLess a.toList b.toList = decide (cmpS a b < 0) := by rw [Lib.toList_data, Lib.toList_data, less_eq]; rfl

set_option maxRecDepth 100000 in
set_option maxHeartbeats 8000000 in
theorem rwith_put (A : Option Addr) (n c : Nat) (l : List Ob) (calls : Int) (A' : Option Addr) (n' c' : Nat) (fs : List Ft) (s : ByteArray) (Ab : Option Addr) (mb kb : Nat) (bl : List UInt8) (w : World) (hl : Obs w A n c l) (hf : Fts w A' n' c' fs) (h1 : n ≤ 1024) (h2 : n' ≤ 1024) (h3 : 0 ≤ calls) (h4 : calls < 1099511627776) (hbl : Sl u8K w Ab mb kb bl) (hm : mb ≤ 8192) (hsz : s.size ≤ maxLen) (hup : OkL (l.map Ob.val)) :
    Calls Try.prog 41 #[stV A n c calls A' n' c', .string s, .slice Ab mb kb, .bool true] w fun e w' => ∃ A2 n2 c2 l2 A3 c3, e = .returned (stV A2 n2 c2 (calls + 1) A3 n' c3) ∧ Own obK 59 w' w.heap.size A2 n2 c2 l2 ∧ l2.map Ob.val = insO s bl (l.map Ob.val) ∧ Own ftK 48 w' w.heap.size A3 n' c3 fs ∧ Below w.heap.size w w' ∧ ∀ a ∈ l2, a ∈ l ∨ (a.n ≤ 8192 ∧ a.name = s ∧ Own u8K 5 w' w.heap.size a.A a.n a.c a.bs) := by
  obtain ⟨W1, hW1⟩ : ∃ W1, W1 = (w.alloc (.cells #[.slice A n c, .int .i64 calls, .slice A' n' c'] 25)).alloc (.cells #[.slice none 0 0, .int .i64 0, .slice none 0 0] 25) := ⟨_, rfl⟩
  have B1 := Lib.hid (show Below w.heap.size w W1 from by rw [hW1]; exact ((Below.refl _ w).alloc (Nat.le_refl _) _).alloc (by simp) _)
  have z1 : w.heap.size + 2 ≤ W1.heap.size := by rw [hW1]; simp
  have S1 := Lib.hid (show Has W1 w.heap.size #[.slice A n c, .int .i64 calls, .slice A' n' c'] from by rw [hW1]; exact (Has.newAt w _ 25 rfl).alloc _)
  have R1 := Lib.hid (show Has W1 (w.heap.size + 1) #[.slice none 0 0, .int .i64 0, .slice none 0 0] from by rw [hW1]; exact Has.newAt _ _ 25 (by simp))
  have HL := Lib.hid hl
  have HN := Lib.hid hl.len
  have HF := Lib.hid hf
  have HBL := Lib.hid hbl
  have HSZ := Lib.hid hsz
  have UP := Lib.hid hup
  obtain ⟨u0, hu, hu0, hu1, hu2⟩ := info_parts inf5
  have HW := Lib.hid hW1
  have CA := Lib.hid (rcalled_any A n c l calls A' n' c' fs W1 (hl.below B1.out) (hf.below B1.out) h1 h2 h3 h4)
  obtain ⟨i0, hi, hz0, hz1, hz2⟩ := info_parts inf59
  have hnc := hl.cap
  have hnm := hl.max
  clear hl hf hbl hsz hup hW1
  go_enter Try.func41, Try.ntmps41
  go_wp2_with fail
  rw [← HW.out]
  refine CA.out.mono ?_
  intro e w2 hx
  obtain ⟨Ax, cx, A3, c3, rfl, _, hF2, hb2⟩ := hx
  have F2 := Lib.hid hF2
  have zz := hb2.size
  have S2 := Lib.hid (S1.out.past hb2)
  have R2 := Lib.hid (R1.out.past hb2)
  have B2 := Lib.hid (below_from hb2 B1.out B1.out.size)
  obtain ⟨W3, hW3⟩ : ∃ W3, W3 = w2.alloc (.cells #[.slice none 0 0, .int .i64 (calls + 1), .slice A3 n' c3] 25) := ⟨_, rfl⟩
  have b3 : Below w2.heap.size w2 W3 := by rw [hW3]; exact below_alloc1 _ _
  have T3 := Lib.hid (show Has W3 w2.heap.size #[.slice none 0 0, .int .i64 (calls + 1), .slice A3 n' c3] from by rw [hW3]; exact Has.newAt w2 _ 25 rfl)
  have S3 := Lib.hid (S2.out.past b3)
  have R3 := Lib.hid (R2.out.past b3)
  have B3 := Lib.hid (below_from b3 B2.out B2.out.size)
  have F3 := Lib.hid (F2.out.kept b3)
  have z3 := T3.out.lt
  have HW3 := Lib.hid hW3
  clear hF2 hb2 hW3 b3
  go_wp2_with fail
  rw [← HW3.out]
  have s3c := S3.out.cell
  have s3l := S3.out.lt
  go_loopg [10, 11] n (fun gg s10 s11 wr => ∃ (k : Nat) (A2 : Option Addr) (n2 c2 : Nat) (lk : List Ob) (y : Ob), k ≤ n ∧ n - k ≤ gg ∧ n2 ≤ k + 1 ∧ s10 = .bool (laidO s ((l.take k).map Ob.val)) ∧ s11 = .int .i64 k ∧ Hid (Has wr w2.heap.size #[.slice A2 n2 c2, .int .i64 (calls + 1), .slice A3 n' c3]) ∧ Hid (wr.ownsRow (w2.heap.size + 1) 59 2 (.slice A2 n2 c2) n2 (lk.flatMap obK.cells)) ∧ Hid (lk.length = n2) ∧ Hid (lk.map Ob.val = withR s bl (laidO s ((l.take k).map Ob.val)) ((l.take k).map Ob.val)) ∧ Hid (Below w2.heap.size W3 wr) ∧
    Hid (∀ x ∈ lk, x ∈ l ∨ (laidO s ((l.take k).map Ob.val) = true ∧ x = y)) ∧ Hid (laidO s ((l.take k).map Ob.val) = true → y.n ≤ 8192 ∧ y.name = s ∧ y.bs.length = y.n ∧ wr.ownsRow (w2.heap.size + 1) 5 1 (.slice y.A y.n y.c) y.n (y.bs.flatMap u8K.cells)))
  case atStart => exact ⟨0, none, 0, 0, [], ⟨s, none, 0, 0, []⟩, Nat.zero_le _, by omega, by omega, by rw [List.take_zero]; rfl, rfl, T3, Lib.hid (World.ownsRow_nil _ _ _ _), rfl, by rw [List.take_zero]; exact Lib.hid rfl, Lib.hid (Below.refl _ _), Lib.hid (by simp), Lib.hid (by rw [List.take_zero]; intro h; cases h)⟩
  case round =>
    obtain ⟨k, A2, n2, c2, lk, y, hk, hgg, hn2, rfl, rfl, h1', h2', h3', h4', h5', h6', h7'⟩ := hrel
    have LEN := h3'
    have S8 := Lib.hid (S3.out.below h5'.out (by omega))
    have s8c := S8.out.cell
    have s8l := S8.out.lt
    have BB := Lib.hid (show Below w.heap.size w wr from B3.out.trans (h5'.out.mono (by omega)))
    clear s3c s3l
    by_cases hlt : k < n
    · obtain ⟨b, off, hkl, rfl, hbl, x0, x1⟩ := Obs.at_ (HL.out.below BB.out) hlt
      have TK := Lib.hid (show (l.take (k + 1)).map Ob.val = (l.take k).map Ob.val ++ [l[k].val] from by rw [List.take_succ_eq_append_getElem hkl, List.map_append]; rfl)
      have STP := Lib.hid (with_step s bl ((l.take k).map Ob.val) l[k].val (by
        rw [← TK.out, List.map_take]
        exact UP.out.up.sublist (List.take_sublist _ _)))
      have LS := Lib.hid (laid_snoc s ((l.take k).map Ob.val) l[k].val)
      rw [← TK.out] at LS STP
      have XM := Lib.hid (List.getElem_mem hkl)
      have XI := Lib.hid (HL.out.each l[k] (List.getElem_mem hkl))
      have hbT : b < w2.heap.size := by
        obtain ⟨b9, off9, _, e9, hb9, _, _⟩ := Obs.at_ HL.out hlt
        injection e9 with e9; injection e9 with e1 e2 e3
        subst e1
        omega
      generalize l[k] = x at *
      obtain ⟨xn, xA, xN, xC, xb⟩ := x
      simp only [Ob.val] at x0 x1 STP LS
      have k0 : (0 : Int) ≤ (k : Int) := by omega
      have k1 : (k : Int) < (n : Int) := by omega
      have t8c := h1'.out.cell
      have t8l := h1'.out.lt
      cases hld : laidO s ((l.take k).map Ob.val) with
      | true =>
        rw [hld] at LS h4' h6' h7'
        obtain ⟨q1, q2, q3⟩ := STP.out.1 hld
        have Q3 := Lib.hid q3
        have y7 := Lib.hid (h7'.out rfl)
        have ne := str_ne q2
        clear q1 q2 q3
        go_wp2_with fail
        refine region_seg (fun w' => w'.cell? ⟨w2.heap.size, 0, none⟩ = some (.slice A2 (n2) c2) ∧ w'.cell? ⟨w.heap.size, 0, none⟩ = some (.slice (some ⟨b, off, none⟩) n c) ∧ w'.cell? ⟨b, off + k * 2, none⟩ = some (.string xn) ∧ w'.cell? ⟨b, off + k * 2 + 1, none⟩ = some (.slice xA xN xC)) 9 [(0, true), (1, true), (2, true), (3, true), (4, true), (5, true), (6, true), (7, false), (8, false)] (by kernel_rfl) (by kernel_rfl) (by simp [go_sem, *]) (fun hHeld => ?_)
        iterate 7
          refine seg_take (v := ?_) (by simp only [List.getElem?_toArray, List.getElem?_cons_succ, List.getElem?_cons_zero]; rfl) (Or.inl ⟨by rfl, ?_⟩) ?_
          rotate_left 1
          · intro w hSw
            try dsimp only at hSw
            go_simp
            try with_reducible rfl
          try simp only [Act.put, List.setIfInBounds_toArray, List.set_cons_zero, List.set_cons_succ]
        refine seg_op (by simp only [List.getElem?_toArray, List.getElem?_cons_succ, List.getElem?_cons_zero]; rfl) (fun K hK => ?_)
        go_wp2_with fail
        clear hHeld
        obtain ⟨pV, hV⟩ : ∃ V, V = (wr.alloc (.cells #[.string xn, .slice xA xN xC] 59)).drew := ⟨_, rfl⟩
        have bV : Below wr.heap.size wr pV := by rw [hV]; exact (below_alloc1 wr _).drew
        have pTV := Lib.hid (h1'.out.past bV)
        have pSV := Lib.hid (S8.out.past bV)
        have pzV : w2.heap.size + 1 ≤ pV.heap.size := by have := bV.size; have := h1'.out.lt; omega
        have pOV := Lib.hid (h2'.out.kept (row := none) (grown_of_below bV none) (by cases hv : (Value.ownBlock (.slice A2 (n2) c2)) <;> simp))
        have pYV := Lib.hid (fun v m xs (hr : wr.ownsRow (w2.heap.size + 1) 5 1 v m xs) => hr.kept (row := none) (grown_of_below bV none) (by cases hv : (Value.ownBlock v) <;> simp))
        have pXB := Lib.hid (show Has pV wr.heap.size #[.string xn, .slice xA xN xC] from by rw [hV]; exact (Has.newAt wr _ 59 rfl).drew)
        have pXS := Lib.hid (show Sl obK pV (some ⟨wr.heap.size, 0, none⟩) 1 1 [⟨xn, xA, xN, xC, xb⟩] from ⟨rfl, Nat.le_refl _, by omega, fun e => (by cases e), Row.of_has pXB.out, fun a ha => by rw [List.mem_singleton.1 ha]; exact (XI.out.below (below_from bV BB.out BB.out.size))⟩)
        have pxv0 := (bV.cell (p := ⟨b, off + k * 2, none⟩) hbl).trans x0
        have pxv1 := (bV.cell (p := ⟨b, off + k * 2 + 1, none⟩) hbl).trans x1
        have pBV := Lib.hid (show Below w2.heap.size W3 pV from h5'.out.trans (bV.mono (Nat.le_of_lt h1'.out.lt)))
        have pbl : b < pV.heap.size := Nat.lt_of_lt_of_le hbl bV.size
        rw [← hV]
        clear hV bV
        refine hK.out _ _ ⟨pTV.out.cell 0, pSV.out.cell 0, pxv0, pxv1⟩ (fun hHeld => ?_)
        clear hK K
        try simp only [Act.put, List.setIfInBounds_toArray, List.set_cons_zero, List.set_cons_succ]
        refine seg_op (by simp only [List.getElem?_toArray, List.getElem?_cons_succ, List.getElem?_cons_zero]; rfl) (fun K hK => ?_)
        go_wp2_with (at_builtin; refine wpList_append_sl (K := obK) _ rfl _ _ 22 rfl (w2.heap.size + 1) 59 i0 _ 40 Try.underlying22 hi hz0 hz1 hz2 rfl _ _ _ _ rfl pOV.out (some ⟨wr.heap.size, 0, none⟩) 1 1 [⟨xn, xA, xN, xC, xb⟩] rfl pXS.out (by unfold maxLen; omega) (by omega) pzV ?_)
        clear hHeld
        intro pA4 pc4 pV2 ho hg _
        have pTV2 := Lib.hid (pTV.out.beside hg (fun e => by have := pOV.out.lt _ e.symm; omega))
        have pSV2 := Lib.hid (pSV.out.beside hg (fun e => by have := pOV.out.lt _ e.symm; omega))
        have pxw : ∀ j, pV2.cell? ⟨b, j, none⟩ = pV.cell? ⟨b, j, none⟩ := fun j => hg.cell_far ⟨b, j, none⟩ pbl (fun e => by have h9 : w2.heap.size + 1 ≤ b := (pOV.out.lt b e.symm).1; omega)
        have pzV2 := hg.size
        have pBV2 := Lib.hid (show Below w2.heap.size W3 pV2 from pBV.out.grown hg (by have := pBV.out.size; omega) (fun q hq => by have := pOV.out.lt q hq; omega))
        have pYV2 := Lib.hid (fun v m xs (hr : pV.ownsRow (w2.heap.size + 1) 5 1 v m xs) => (hr.kept hg (by cases hv : (Value.ownBlock v) with | none => exact .inl rfl | some q => exact .inr (fun e => owns_apart hr pOV.out (by decide) hv e.symm)) : pV2.ownsRow (w2.heap.size + 1) 5 1 v m xs))
        have pOV2 := Lib.hid ho
        clear ho hg
        go_wp2_with fail
        refine hK.out _ _ ⟨pTV2.out.cell 0, pSV2.out.cell 0, (pxw _).trans pxv0, (pxw _).trans pxv1⟩ (fun hHeld => ?_)
        clear hK K
        try simp only [Act.put, List.setIfInBounds_toArray, List.set_cons_zero, List.set_cons_succ]
        refine seg_tail rfl ?_
        clear hHeld

        clear t8c t8l s8c s8l x0 x1 pxv0 pxv1 pxw
        have tc := pTV2.out.cell
        have tf := pTV2.out.free
        have tl := pTV2.out.lt
        go_wp2_with fail
        have gs := setCells_grown w2.heap.size [.slice pA4 (n2 + 1) pc4] 0 pV2
        go_roundg (n - (k + 1))
        case measure => omega
        case rel =>
          refine ⟨k + 1, pA4, n2 + 1, pc4, lk ++ [⟨xn, xA, xN, xC, xb⟩], y, by omega, by omega, by omega, by rw [show laidO s ((l.take (k + 1)).map Ob.val) = true from by rw [LS.out]; rfl], by go_num, pTV2.out.setAt 0 (.slice pA4 (n2 + 1) pc4) (by show 0 < 3; omega), Lib.hid ?_, Lib.hid ?_, Lib.hid ?_, pBV2.out.grown gs (by have := pBV2.out.size; omega) (fun q hq => by injection hq with hq; omega), Lib.hid ?_, Lib.hid ?_⟩
          · have hrow := pOV2.out.kept gs (by cases hv : (Value.ownBlock (.slice pA4 (n2 + 1) pc4)) with | none => exact .inl rfl | some q => exact .inr (fun e => by injection e with e; have := (pOV2.out.lt q hv).1; omega))
            try simp only [List.flatMap_append, List.flatMap_cons, List.flatMap_nil, List.append_nil, List.append_assoc] at hrow
            simp only [List.flatMap_append, List.flatMap_cons, List.flatMap_nil, List.append_nil]
            exact hrow
          · rw [List.length_append, LEN.out]; rfl
          · rw [List.map_append, h4'.out, show laidO s ((l.take (k + 1)).map Ob.val) = true from by rw [LS.out]; rfl, Q3.out]; rfl
          · intro z hz; rcases List.mem_append.1 hz with hz | hz; exact (h6'.out z hz).imp id (fun h => ⟨by rw [LS.out]; rfl, h.2⟩); exact .inl (by rw [List.mem_singleton.1 hz]; exact XM.out)
          · exact fun _ => ⟨y7.out.1, y7.out.2.1, y7.out.2.2.1, (pYV2.out _ _ _ (pYV.out _ _ _ y7.out.2.2.2)).kept gs (by cases hv : (Value.ownBlock (.slice y.A y.n y.c)) with | none => exact .inl rfl | some q => exact .inr (fun e => by injection e with e; have := ((pYV2.out _ _ _ (pYV.out _ _ _ y7.out.2.2.2)).lt q hv).1; omega))⟩
      | false =>
        rw [hld] at LS h4' h6' h7'
        by_cases hcm : cmpS xn s < 0
        · obtain ⟨q1, q2⟩ := STP.out.2.1 hld hcm
          have Q1 := Lib.hid q1
          have ne := str_ne q2
          have ne2 := str_ne (fun e => q2 e.symm)
          have bl1 := bl_eq xn s
          rw [decide_eq_true hcm] at bl1
          have LD := Lib.hid (show laidO s ((l.take (k + 1)).map Ob.val) = false from by have h := LS.out; simpa [hcm] using h)
          clear q1 q2
          go_wp2_with fail
          refine region_seg (fun w' => w'.cell? ⟨w2.heap.size, 0, none⟩ = some (.slice A2 (n2) c2) ∧ w'.cell? ⟨w.heap.size, 0, none⟩ = some (.slice (some ⟨b, off, none⟩) n c) ∧ w'.cell? ⟨b, off + k * 2, none⟩ = some (.string xn) ∧ w'.cell? ⟨b, off + k * 2 + 1, none⟩ = some (.slice xA xN xC)) 9 [(0, true), (1, true), (2, true), (3, true), (4, true), (5, true), (6, true), (7, false), (8, false)] (by kernel_rfl) (by kernel_rfl) (by simp [go_sem, *]) (fun hHeld => ?_)
          iterate 7
            refine seg_take (v := ?_) (by simp only [List.getElem?_toArray, List.getElem?_cons_succ, List.getElem?_cons_zero]; rfl) (Or.inl ⟨by rfl, ?_⟩) ?_
            rotate_left 1
            · intro w hSw
              try dsimp only at hSw
              go_simp
              try with_reducible rfl
            try simp only [Act.put, List.setIfInBounds_toArray, List.set_cons_zero, List.set_cons_succ]
          refine seg_op (by simp only [List.getElem?_toArray, List.getElem?_cons_succ, List.getElem?_cons_zero]; rfl) (fun K hK => ?_)
          go_wp2_with fail
          clear hHeld
          obtain ⟨pV, hV⟩ : ∃ V, V = (wr.alloc (.cells #[.string xn, .slice xA xN xC] 59)).drew := ⟨_, rfl⟩
          have bV : Below wr.heap.size wr pV := by rw [hV]; exact (below_alloc1 wr _).drew
          have pTV := Lib.hid (h1'.out.past bV)
          have pSV := Lib.hid (S8.out.past bV)
          have pzV : w2.heap.size + 1 ≤ pV.heap.size := by have := bV.size; have := h1'.out.lt; omega
          have pOV := Lib.hid (h2'.out.kept (row := none) (grown_of_below bV none) (by cases hv : (Value.ownBlock (.slice A2 (n2) c2)) <;> simp))
          have pYV := Lib.hid (fun v m xs (hr : wr.ownsRow (w2.heap.size + 1) 5 1 v m xs) => hr.kept (row := none) (grown_of_below bV none) (by cases hv : (Value.ownBlock v) <;> simp))
          have pXB := Lib.hid (show Has pV wr.heap.size #[.string xn, .slice xA xN xC] from by rw [hV]; exact (Has.newAt wr _ 59 rfl).drew)
          have pXS := Lib.hid (show Sl obK pV (some ⟨wr.heap.size, 0, none⟩) 1 1 [⟨xn, xA, xN, xC, xb⟩] from ⟨rfl, Nat.le_refl _, by omega, fun e => (by cases e), Row.of_has pXB.out, fun a ha => by rw [List.mem_singleton.1 ha]; exact (XI.out.below (below_from bV BB.out BB.out.size))⟩)
          have pxv0 := (bV.cell (p := ⟨b, off + k * 2, none⟩) hbl).trans x0
          have pxv1 := (bV.cell (p := ⟨b, off + k * 2 + 1, none⟩) hbl).trans x1
          have pBV := Lib.hid (show Below w2.heap.size W3 pV from h5'.out.trans (bV.mono (Nat.le_of_lt h1'.out.lt)))
          have pbl : b < pV.heap.size := Nat.lt_of_lt_of_le hbl bV.size
          rw [← hV]
          clear hV bV
          refine hK.out _ _ ⟨pTV.out.cell 0, pSV.out.cell 0, pxv0, pxv1⟩ (fun hHeld => ?_)
          clear hK K
          try simp only [Act.put, List.setIfInBounds_toArray, List.set_cons_zero, List.set_cons_succ]
          refine seg_op (by simp only [List.getElem?_toArray, List.getElem?_cons_succ, List.getElem?_cons_zero]; rfl) (fun K hK => ?_)
          go_wp2_with (at_builtin; refine wpList_append_sl (K := obK) _ rfl _ _ 22 rfl (w2.heap.size + 1) 59 i0 _ 40 Try.underlying22 hi hz0 hz1 hz2 rfl _ _ _ _ rfl pOV.out (some ⟨wr.heap.size, 0, none⟩) 1 1 [⟨xn, xA, xN, xC, xb⟩] rfl pXS.out (by unfold maxLen; omega) (by omega) pzV ?_)
          clear hHeld
          intro pA4 pc4 pV2 ho hg _
          have pTV2 := Lib.hid (pTV.out.beside hg (fun e => by have := pOV.out.lt _ e.symm; omega))
          have pSV2 := Lib.hid (pSV.out.beside hg (fun e => by have := pOV.out.lt _ e.symm; omega))
          have pxw : ∀ j, pV2.cell? ⟨b, j, none⟩ = pV.cell? ⟨b, j, none⟩ := fun j => hg.cell_far ⟨b, j, none⟩ pbl (fun e => by have h9 : w2.heap.size + 1 ≤ b := (pOV.out.lt b e.symm).1; omega)
          have pzV2 := hg.size
          have pBV2 := Lib.hid (show Below w2.heap.size W3 pV2 from pBV.out.grown hg (by have := pBV.out.size; omega) (fun q hq => by have := pOV.out.lt q hq; omega))
          have pYV2 := Lib.hid (fun v m xs (hr : pV.ownsRow (w2.heap.size + 1) 5 1 v m xs) => (hr.kept hg (by cases hv : (Value.ownBlock v) with | none => exact .inl rfl | some q => exact .inr (fun e => owns_apart hr pOV.out (by decide) hv e.symm)) : pV2.ownsRow (w2.heap.size + 1) 5 1 v m xs))
          have pOV2 := Lib.hid ho
          clear ho hg
          go_wp2_with fail
          refine hK.out _ _ ⟨pTV2.out.cell 0, pSV2.out.cell 0, (pxw _).trans pxv0, (pxw _).trans pxv1⟩ (fun hHeld => ?_)
          clear hK K
          try simp only [Act.put, List.setIfInBounds_toArray, List.set_cons_zero, List.set_cons_succ]
          refine seg_tail rfl ?_
          clear hHeld

          clear t8c t8l s8c s8l x0 x1 pxv0 pxv1 pxw
          have tc := pTV2.out.cell
          have tf := pTV2.out.free
          have tl := pTV2.out.lt
          go_wp2_with fail
          have gs := setCells_grown w2.heap.size [.slice pA4 (n2 + 1) pc4] 0 pV2
          go_roundg (n - (k + 1))
          case measure => omega
          case rel =>
            refine ⟨k + 1, pA4, n2 + 1, pc4, lk ++ [⟨xn, xA, xN, xC, xb⟩], y, by omega, by omega, by omega, by rw [LD.out], by go_num, pTV2.out.setAt 0 (.slice pA4 (n2 + 1) pc4) (by show 0 < 3; omega), Lib.hid ?_, Lib.hid ?_, Lib.hid ?_, pBV2.out.grown gs (by have := pBV2.out.size; omega) (fun q hq => by injection hq with hq; omega), Lib.hid ?_, Lib.hid ?_⟩
            · have hrow := pOV2.out.kept gs (by cases hv : (Value.ownBlock (.slice pA4 (n2 + 1) pc4)) with | none => exact .inl rfl | some q => exact .inr (fun e => by injection e with e; have := (pOV2.out.lt q hv).1; omega))
              try simp only [List.flatMap_append, List.flatMap_cons, List.flatMap_nil, List.append_nil, List.append_assoc] at hrow
              simp only [List.flatMap_append, List.flatMap_cons, List.flatMap_nil, List.append_nil]
              exact hrow
            · rw [List.length_append, LEN.out]; rfl
            · rw [List.map_append, h4'.out, LD.out, Q1.out, TK.out]; rfl
            · intro z hz; rcases List.mem_append.1 hz with hz | hz; exact (h6'.out z hz).elim .inl (fun h => by first | exact h.elim | (cases h.1)); exact .inl (by rw [List.mem_singleton.1 hz]; exact XM.out)
            · rw [LD.out]; intro h; cases h
        · have hn2k : n2 ≤ k := by
            have h := congrArg List.length h4'.out
            simp [withR, List.length_take] at h
            have := LEN.out
            omega
          have q3 := STP.out.2.2 hld hcm
          have Q3 := Lib.hid q3
          have bl1 := bl_eq xn s
          rw [decide_eq_false hcm] at bl1
          have LD := Lib.hid (show laidO s ((l.take (k + 1)).map Ob.val) = true from by have h := LS.out; simpa [hcm] using h)
          clear q3
          by_cases exs : xn = s
          · have exs' := exs.symm
            subst exs'
            go_wp2_with fail
            refine region_seg (fun w' => w'.cell? ⟨w2.heap.size, 0, none⟩ = some (.slice A2 n2 c2)) 9 [(0, true), (1, true), (2, true), (4, true), (3, false), (5, false), (6, true), (7, false), (8, false)] (by kernel_rfl) (by kernel_rfl) (by simp [go_sem, *]) (fun hHeld => ?_)
            iterate 4
              refine seg_take (v := ?_) (by simp only [List.getElem?_toArray, List.getElem?_cons_succ, List.getElem?_cons_zero]; rfl) (Or.inl ⟨by rfl, ?_⟩) ?_
              rotate_left 1
              · intro w hSw
                try dsimp only at hSw
                go_simp
                try with_reducible rfl
              try simp only [Act.put, List.setIfInBounds_toArray, List.set_cons_zero, List.set_cons_succ]
            refine seg_op (by simp only [List.getElem?_toArray, List.getElem?_cons_succ, List.getElem?_cons_zero]; rfl) (fun K hK => ?_)
            go_wp2_with fail
            clear hHeld
            obtain ⟨V1, hV⟩ : ∃ V, V = (wr.alloc (.cells #[] 5)).drew := ⟨_, rfl⟩
            have bV : Below wr.heap.size wr V1 := by rw [hV]; exact (below_alloc1 wr _).drew
            have TV1 := Lib.hid (h1'.out.past bV)
            have zV1 : w2.heap.size + 1 ≤ V1.heap.size := by have := bV.size; have := h1'.out.lt; omega
            have OV1 := Lib.hid (h2'.out.kept (row := none) (grown_of_below bV none) (by cases hv : (Value.ownBlock (.slice A2 n2 c2)) <;> simp))
            have BR1 := Lib.hid (show V1.ownsRow (w2.heap.size + 1) 5 1 (.slice (some ⟨wr.heap.size, 0, none⟩) 0 0) 0 [] from by rw [hV]; exact World.ownsRow_made wr #[] 0 (by have := h1'.out.lt; omega) (Nat.zero_le _) (by simp))
            have BV1 := Lib.hid (show Below w2.heap.size W3 V1 from h5'.out.trans (bV.mono (Nat.le_of_lt h1'.out.lt)))
            have YB1 := Lib.hid (HBL.out.below (show Below w.heap.size w V1 from B3.out.trans (BV1.out.mono (by omega))))
            rw [← hV]
            clear hV bV
            refine hK.out _ _ (TV1.out.cell 0) (fun hHeld => ?_)
            clear hK K
            try simp only [Act.put, List.setIfInBounds_toArray, List.set_cons_zero, List.set_cons_succ]
            refine seg_op (by simp only [List.getElem?_toArray, List.getElem?_cons_succ, List.getElem?_cons_zero]; rfl) (fun K hK => ?_)
            go_wp2_with (at_builtin; refine wpList_append_sl (K := u8K) _ rfl _ _ 26 rfl (w2.heap.size + 1) 5 u0 _ 1 Try.underlying26 hu hu0 hu1 hu2 rfl _ _ _ _ rfl BR1.out Ab mb kb bl rfl YB1.out (by unfold maxLen; omega) (by omega) zV1 ?_)
            clear hHeld
            intro A5 c5 V2 ho hg _
            try simp only [Nat.zero_add, List.nil_append] at ho
            have TV2 := Lib.hid (TV1.out.beside hg (fun e => by have := BR1.out.lt _ e.symm; omega))
            have OV2 := Lib.hid (OV1.out.kept hg (by cases hv : (Value.ownBlock (.slice A2 n2 c2)) with | none => exact .inl rfl | some q => exact .inr (fun e => owns_apart OV1.out BR1.out (by decide) hv e.symm)))
            have BV2 := Lib.hid (show Below w2.heap.size W3 V2 from BV1.out.grown hg (by have := BV1.out.size; omega) (fun q hq => by have := BR1.out.lt q hq; omega))
            have zV2 : w2.heap.size + 1 ≤ V2.heap.size := Nat.le_trans zV1 hg.size
            have BR2 := Lib.hid ho
            clear ho hg
            go_wp2_with fail
            refine hK.out _ _ (TV2.out.cell 0) (fun hHeld => ?_)
            clear hK K
            try simp only [Act.put, List.setIfInBounds_toArray, List.set_cons_zero, List.set_cons_succ]
            iterate 1
              refine seg_take (v := ?_) (by simp only [List.getElem?_toArray, List.getElem?_cons_succ, List.getElem?_cons_zero]; rfl) (Or.inl ⟨by rfl, ?_⟩) ?_
              rotate_left 1
              · intro w hSw
                try dsimp only at hSw
                go_simp
                try with_reducible rfl
              try simp only [Act.put, List.setIfInBounds_toArray, List.set_cons_zero, List.set_cons_succ]
            refine seg_op (by simp only [List.getElem?_toArray, List.getElem?_cons_succ, List.getElem?_cons_zero]; rfl) (fun K hK => ?_)
            go_wp2_with fail
            clear hHeld
            obtain ⟨V3, hV⟩ : ∃ V, V = V2.alloc (.cells #[.string s, .slice A5 mb c5] 59) := ⟨_, rfl⟩
            have bV : Below V2.heap.size V2 V3 := by rw [hV]; exact below_alloc1 V2 _
            have TV3 := Lib.hid (TV2.out.past bV)
            have zV3 : w2.heap.size + 1 ≤ V3.heap.size := Nat.le_trans zV2 bV.size
            have OV3 := Lib.hid (OV2.out.kept (row := none) (grown_of_below bV none) (by cases hv : (Value.ownBlock (.slice A2 n2 c2)) <;> simp))
            have BR3 := Lib.hid (BR2.out.kept (row := none) (grown_of_below bV none) (by cases hv : (Value.ownBlock (.slice A5 mb c5)) <;> simp))
            have BV3 := Lib.hid (show Below w2.heap.size W3 V3 from BV2.out.trans (bV.mono (by omega)))
            have XB := Lib.hid (show Has V3 V2.heap.size #[.string s, .slice A5 mb c5] from by rw [hV]; exact Has.newAt V2 _ 59 rfl)
            have YI := Lib.hid (show Ob.In V3 ⟨s, A5, mb, c5, bl⟩ from ⟨(show Own u8K 5 V3 (w2.heap.size + 1) A5 mb c5 bl from ⟨HBL.out.len, BR3.out, fun _ _ => trivial⟩).sl, by show mb ≤ _; omega, HSZ.out⟩)
            have XS := Lib.hid (show Sl obK V3 (some ⟨V2.heap.size, 0, none⟩) 1 1 [⟨s, A5, mb, c5, bl⟩] from ⟨rfl, Nat.le_refl _, by omega, fun e => (by cases e), Row.of_has XB.out, fun a ha => by rw [List.mem_singleton.1 ha]; exact YI.out⟩)
            rw [← hV]
            clear hV bV
            refine hK.out _ _ (TV3.out.cell 0) (fun hHeld => ?_)
            clear hK K
            try simp only [Act.put, List.setIfInBounds_toArray, List.set_cons_zero, List.set_cons_succ]
            refine seg_op (by simp only [List.getElem?_toArray, List.getElem?_cons_succ, List.getElem?_cons_zero]; rfl) (fun K hK => ?_)
            go_wp2_with (at_builtin; refine wpList_append_sl (K := obK) _ rfl _ _ 22 rfl (w2.heap.size + 1) 59 i0 _ 40 Try.underlying22 hi hz0 hz1 hz2 rfl _ _ _ _ rfl OV3.out (some ⟨V2.heap.size, 0, none⟩) 1 1 [⟨s, A5, mb, c5, bl⟩] rfl XS.out (by unfold maxLen; omega) (by omega) zV3 ?_)
            clear hHeld
            intro A4 c4 V4 ho hg _
            have TV4 := Lib.hid (TV3.out.beside hg (fun e => by have := OV3.out.lt _ e.symm; omega))
            have BR4 := Lib.hid (BR3.out.kept hg (by cases hv : (Value.ownBlock (.slice A5 mb c5)) with | none => exact .inl rfl | some q => exact .inr (fun e => owns_apart BR3.out OV3.out (by decide) hv e.symm)))
            have BV4 := Lib.hid (show Below w2.heap.size W3 V4 from BV3.out.grown hg (by have := BV3.out.size; omega) (fun q hq => by have := OV3.out.lt q hq; omega))
            have zV4 : w2.heap.size + 1 ≤ V4.heap.size := Nat.le_trans zV3 hg.size
            have OV4 := Lib.hid ho
            clear ho hg
            go_wp2_with fail
            refine hK.out _ _ (TV4.out.cell 0) (fun hHeld => ?_)
            clear hK K
            try simp only [Act.put, List.setIfInBounds_toArray, List.set_cons_zero, List.set_cons_succ]
            refine seg_tail rfl ?_
            clear hHeld

            have tc := TV4.out.cell
            have tf := TV4.out.free
            have tl := TV4.out.lt
            have gs := setCells_grown w2.heap.size [.slice A4 (n2 + 1) c4] 0 V4
            have x0w := ((show Below w2.heap.size W3 V4 from BV4.out).cell (p := ⟨b, off + k * 2, none⟩) hbT).trans (((show Below w2.heap.size W3 wr from h5'.out).cell (p := ⟨b, off + k * 2, none⟩) hbT).symm.trans x0)
            have S9 := Lib.hid (S3.out.below BV4.out (by omega))
            have s9c := S9.out.cell
            have s9l := S9.out.lt
            clear t8c t8l s8c s8l
            go_wp2_with fail
            go_roundg (n - (k + 1))
            case measure => omega
            case rel =>
              refine ⟨k + 1, A4, n2 + 1, c4, lk ++ [⟨s, A5, mb, c5, bl⟩], ⟨s, A5, mb, c5, bl⟩, by omega, by omega, by omega, by rw [LD.out], by go_num, TV4.out.setAt 0 (.slice A4 (n2 + 1) c4) (by show 0 < 3; omega), Lib.hid ?_, Lib.hid ?_, Lib.hid ?_, BV4.out.grown gs (by have := BV4.out.size; omega) (fun q hq => by injection hq with hq; omega), Lib.hid ?_, Lib.hid ?_⟩
              · rw [List.flatMap_append]
                exact OV4.out.kept gs (by cases hv : (Value.ownBlock (.slice A4 (n2 + 1) c4)) with | none => exact .inl rfl | some q => exact .inr (fun e => by injection e with e; have := (OV4.out.lt q hv).1; omega))
              · rw [List.length_append, LEN.out]; rfl
              · rw [List.map_append, h4'.out, LD.out, Q3.out]; simp [withR, Ob.val]
              · intro z hz; rcases List.mem_append.1 hz with hz | hz; exact (h6'.out z hz).elim .inl (fun h => by first | exact h.elim | (cases h.1)); exact .inr ⟨LD.out, List.mem_singleton.1 hz⟩
              · exact fun _ => ⟨by show mb ≤ 8192; omega, rfl, HBL.out.len, BR4.out.kept gs (by cases hv : (Value.ownBlock (.slice A5 mb c5)) with | none => exact .inl rfl | some q => exact .inr (fun e => by injection e with e; have := (BR4.out.lt q hv).1; omega))⟩
          · have ne := str_ne exs
            go_wp2_with fail
            refine region_seg (fun w' => w'.cell? ⟨w2.heap.size, 0, none⟩ = some (.slice A2 n2 c2)) 9 [(0, true), (1, true), (2, true), (4, true), (3, false), (5, false), (6, true), (7, false), (8, false)] (by kernel_rfl) (by kernel_rfl) (by simp [go_sem, *]) (fun hHeld => ?_)
            iterate 4
              refine seg_take (v := ?_) (by simp only [List.getElem?_toArray, List.getElem?_cons_succ, List.getElem?_cons_zero]; rfl) (Or.inl ⟨by rfl, ?_⟩) ?_
              rotate_left 1
              · intro w hSw
                try dsimp only at hSw
                go_simp
                try with_reducible rfl
              try simp only [Act.put, List.setIfInBounds_toArray, List.set_cons_zero, List.set_cons_succ]
            refine seg_op (by simp only [List.getElem?_toArray, List.getElem?_cons_succ, List.getElem?_cons_zero]; rfl) (fun K hK => ?_)
            go_wp2_with fail
            clear hHeld
            obtain ⟨V1, hV⟩ : ∃ V, V = (wr.alloc (.cells #[] 5)).drew := ⟨_, rfl⟩
            have bV : Below wr.heap.size wr V1 := by rw [hV]; exact (below_alloc1 wr _).drew
            have TV1 := Lib.hid (h1'.out.past bV)
            have zV1 : w2.heap.size + 1 ≤ V1.heap.size := by have := bV.size; have := h1'.out.lt; omega
            have OV1 := Lib.hid (h2'.out.kept (row := none) (grown_of_below bV none) (by cases hv : (Value.ownBlock (.slice A2 n2 c2)) <;> simp))
            have BR1 := Lib.hid (show V1.ownsRow (w2.heap.size + 1) 5 1 (.slice (some ⟨wr.heap.size, 0, none⟩) 0 0) 0 [] from by rw [hV]; exact World.ownsRow_made wr #[] 0 (by have := h1'.out.lt; omega) (Nat.zero_le _) (by simp))
            have BV1 := Lib.hid (show Below w2.heap.size W3 V1 from h5'.out.trans (bV.mono (Nat.le_of_lt h1'.out.lt)))
            have YB1 := Lib.hid (HBL.out.below (show Below w.heap.size w V1 from B3.out.trans (BV1.out.mono (by omega))))
            rw [← hV]
            clear hV bV
            refine hK.out _ _ (TV1.out.cell 0) (fun hHeld => ?_)
            clear hK K
            try simp only [Act.put, List.setIfInBounds_toArray, List.set_cons_zero, List.set_cons_succ]
            refine seg_op (by simp only [List.getElem?_toArray, List.getElem?_cons_succ, List.getElem?_cons_zero]; rfl) (fun K hK => ?_)
            go_wp2_with (at_builtin; refine wpList_append_sl (K := u8K) _ rfl _ _ 26 rfl (w2.heap.size + 1) 5 u0 _ 1 Try.underlying26 hu hu0 hu1 hu2 rfl _ _ _ _ rfl BR1.out Ab mb kb bl rfl YB1.out (by unfold maxLen; omega) (by omega) zV1 ?_)
            clear hHeld
            intro A5 c5 V2 ho hg _
            try simp only [Nat.zero_add, List.nil_append] at ho
            have TV2 := Lib.hid (TV1.out.beside hg (fun e => by have := BR1.out.lt _ e.symm; omega))
            have OV2 := Lib.hid (OV1.out.kept hg (by cases hv : (Value.ownBlock (.slice A2 n2 c2)) with | none => exact .inl rfl | some q => exact .inr (fun e => owns_apart OV1.out BR1.out (by decide) hv e.symm)))
            have BV2 := Lib.hid (show Below w2.heap.size W3 V2 from BV1.out.grown hg (by have := BV1.out.size; omega) (fun q hq => by have := BR1.out.lt q hq; omega))
            have zV2 : w2.heap.size + 1 ≤ V2.heap.size := Nat.le_trans zV1 hg.size
            have BR2 := Lib.hid ho
            clear ho hg
            go_wp2_with fail
            refine hK.out _ _ (TV2.out.cell 0) (fun hHeld => ?_)
            clear hK K
            try simp only [Act.put, List.setIfInBounds_toArray, List.set_cons_zero, List.set_cons_succ]
            iterate 1
              refine seg_take (v := ?_) (by simp only [List.getElem?_toArray, List.getElem?_cons_succ, List.getElem?_cons_zero]; rfl) (Or.inl ⟨by rfl, ?_⟩) ?_
              rotate_left 1
              · intro w hSw
                try dsimp only at hSw
                go_simp
                try with_reducible rfl
              try simp only [Act.put, List.setIfInBounds_toArray, List.set_cons_zero, List.set_cons_succ]
            refine seg_op (by simp only [List.getElem?_toArray, List.getElem?_cons_succ, List.getElem?_cons_zero]; rfl) (fun K hK => ?_)
            go_wp2_with fail
            clear hHeld
            obtain ⟨V3, hV⟩ : ∃ V, V = V2.alloc (.cells #[.string s, .slice A5 mb c5] 59) := ⟨_, rfl⟩
            have bV : Below V2.heap.size V2 V3 := by rw [hV]; exact below_alloc1 V2 _
            have TV3 := Lib.hid (TV2.out.past bV)
            have zV3 : w2.heap.size + 1 ≤ V3.heap.size := Nat.le_trans zV2 bV.size
            have OV3 := Lib.hid (OV2.out.kept (row := none) (grown_of_below bV none) (by cases hv : (Value.ownBlock (.slice A2 n2 c2)) <;> simp))
            have BR3 := Lib.hid (BR2.out.kept (row := none) (grown_of_below bV none) (by cases hv : (Value.ownBlock (.slice A5 mb c5)) <;> simp))
            have BV3 := Lib.hid (show Below w2.heap.size W3 V3 from BV2.out.trans (bV.mono (by omega)))
            have XB := Lib.hid (show Has V3 V2.heap.size #[.string s, .slice A5 mb c5] from by rw [hV]; exact Has.newAt V2 _ 59 rfl)
            have YI := Lib.hid (show Ob.In V3 ⟨s, A5, mb, c5, bl⟩ from ⟨(show Own u8K 5 V3 (w2.heap.size + 1) A5 mb c5 bl from ⟨HBL.out.len, BR3.out, fun _ _ => trivial⟩).sl, by show mb ≤ _; omega, HSZ.out⟩)
            have XS := Lib.hid (show Sl obK V3 (some ⟨V2.heap.size, 0, none⟩) 1 1 [⟨s, A5, mb, c5, bl⟩] from ⟨rfl, Nat.le_refl _, by omega, fun e => (by cases e), Row.of_has XB.out, fun a ha => by rw [List.mem_singleton.1 ha]; exact YI.out⟩)
            rw [← hV]
            clear hV bV
            refine hK.out _ _ (TV3.out.cell 0) (fun hHeld => ?_)
            clear hK K
            try simp only [Act.put, List.setIfInBounds_toArray, List.set_cons_zero, List.set_cons_succ]
            refine seg_op (by simp only [List.getElem?_toArray, List.getElem?_cons_succ, List.getElem?_cons_zero]; rfl) (fun K hK => ?_)
            go_wp2_with (at_builtin; refine wpList_append_sl (K := obK) _ rfl _ _ 22 rfl (w2.heap.size + 1) 59 i0 _ 40 Try.underlying22 hi hz0 hz1 hz2 rfl _ _ _ _ rfl OV3.out (some ⟨V2.heap.size, 0, none⟩) 1 1 [⟨s, A5, mb, c5, bl⟩] rfl XS.out (by unfold maxLen; omega) (by omega) zV3 ?_)
            clear hHeld
            intro A4 c4 V4 ho hg _
            have TV4 := Lib.hid (TV3.out.beside hg (fun e => by have := OV3.out.lt _ e.symm; omega))
            have BR4 := Lib.hid (BR3.out.kept hg (by cases hv : (Value.ownBlock (.slice A5 mb c5)) with | none => exact .inl rfl | some q => exact .inr (fun e => owns_apart BR3.out OV3.out (by decide) hv e.symm)))
            have BV4 := Lib.hid (show Below w2.heap.size W3 V4 from BV3.out.grown hg (by have := BV3.out.size; omega) (fun q hq => by have := OV3.out.lt q hq; omega))
            have zV4 : w2.heap.size + 1 ≤ V4.heap.size := Nat.le_trans zV3 hg.size
            have OV4 := Lib.hid ho
            clear ho hg
            go_wp2_with fail
            refine hK.out _ _ (TV4.out.cell 0) (fun hHeld => ?_)
            clear hK K
            try simp only [Act.put, List.setIfInBounds_toArray, List.set_cons_zero, List.set_cons_succ]
            refine seg_tail rfl ?_
            clear hHeld

            have tc := TV4.out.cell
            have tf := TV4.out.free
            have tl := TV4.out.lt
            have gs := setCells_grown w2.heap.size [.slice A4 (n2 + 1) c4] 0 V4
            have x0w := ((show Below w2.heap.size W3 V4 from BV4.out).cell (p := ⟨b, off + k * 2, none⟩) hbT).trans (((show Below w2.heap.size W3 wr from h5'.out).cell (p := ⟨b, off + k * 2, none⟩) hbT).symm.trans x0)
            have S9 := Lib.hid (S3.out.below BV4.out (by omega))
            have s9c := S9.out.cell
            have s9l := S9.out.lt
            clear t8c t8l s8c s8l
            go_wp2_with fail
            obtain ⟨V5, hV5⟩ : ∃ V, V = V4.setCell ⟨w2.heap.size, 0, none⟩ (.slice A4 (n2 + 1) c4) := ⟨_, rfl⟩
            have T5 := Lib.hid (show Has V5 w2.heap.size #[.slice A4 (n2 + 1) c4, .int .i64 (calls + 1), .slice A3 n' c3] from by rw [hV5]; exact TV4.out.setAt 0 (.slice A4 (n2 + 1) c4) (by show 0 < 3; omega))
            have O5 := Lib.hid (show V5.ownsRow (w2.heap.size + 1) 59 2 (.slice A4 (n2 + 1) c4) (n2 + 1) ((lk ++ [(⟨s, A5, mb, c5, bl⟩ : Ob)]).flatMap obK.cells) from by rw [hV5, List.flatMap_append]; exact OV4.out.kept gs (by cases hv : (Value.ownBlock (.slice A4 (n2 + 1) c4)) with | none => exact .inl rfl | some q => exact .inr (fun e => by injection e with e; have := (OV4.out.lt q hv).1; omega)))
            have Y5 := Lib.hid (show V5.ownsRow (w2.heap.size + 1) 5 1 (.slice A5 mb c5) mb (bl.flatMap u8K.cells) from by rw [hV5]; exact BR4.out.kept gs (by cases hv : (Value.ownBlock (.slice A5 mb c5)) with | none => exact .inl rfl | some q => exact .inr (fun e => by injection e with e; have := (BR4.out.lt q hv).1; omega)))
            have BV5 := Lib.hid (show Below w2.heap.size W3 V5 from by rw [hV5]; exact BV4.out.grown gs (by have := BV4.out.size; omega) (fun q hq => by injection hq with hq; omega))
            have S5 := Lib.hid (S3.out.below BV5.out (by omega))
            have BB5 := Lib.hid (show Below w.heap.size w V5 from B3.out.trans (BV5.out.mono (by omega)))
            have x05 := (BV5.out.cell (p := ⟨b, off + k * 2, none⟩) hbT).trans ((h5'.out.cell (p := ⟨b, off + k * 2, none⟩) hbT).symm.trans x0)
            have x15 := (BV5.out.cell (p := ⟨b, off + k * 2 + 1, none⟩) hbT).trans ((h5'.out.cell (p := ⟨b, off + k * 2 + 1, none⟩) hbT).symm.trans x1)
            have hb5 : b < V5.heap.size := by
              have h9 := BV5.out.size
              omega
            have LEN := Lib.hid (show (lk ++ [(⟨s, A5, mb, c5, bl⟩ : Ob)]).length = n2 + 1 from by rw [List.length_append, LEN.out]; rfl)
            rw [← hV5]
            have t5c := T5.out.cell
            have s5c := S5.out.cell
            clear hV5 tc tf tl s9c s9l x0w x0 x1 gs
            refine region_seg (fun w' => w'.cell? ⟨w2.heap.size, 0, none⟩ = some (.slice A4 (n2 + 1) c4) ∧ w'.cell? ⟨w.heap.size, 0, none⟩ = some (.slice (some ⟨b, off, none⟩) n c) ∧ w'.cell? ⟨b, off + k * 2, none⟩ = some (.string xn) ∧ w'.cell? ⟨b, off + k * 2 + 1, none⟩ = some (.slice xA xN xC)) 9 [(0, true), (1, true), (2, true), (3, true), (4, true), (5, true), (6, true), (7, false), (8, false)] (by kernel_rfl) (by kernel_rfl) (by simp [go_sem, *]) (fun hHeld => ?_)
            iterate 7
              refine seg_take (v := ?_) (by simp only [List.getElem?_toArray, List.getElem?_cons_succ, List.getElem?_cons_zero]; rfl) (Or.inl ⟨by rfl, ?_⟩) ?_
              rotate_left 1
              · intro w hSw
                try dsimp only at hSw
                go_simp
                try with_reducible rfl
              try simp only [Act.put, List.setIfInBounds_toArray, List.set_cons_zero, List.set_cons_succ]
            refine seg_op (by simp only [List.getElem?_toArray, List.getElem?_cons_succ, List.getElem?_cons_zero]; rfl) (fun K hK => ?_)
            go_wp2_with fail
            clear hHeld
            obtain ⟨qV, hV⟩ : ∃ V, V = (V5.alloc (.cells #[.string xn, .slice xA xN xC] 59)).drew := ⟨_, rfl⟩
            have bV : Below V5.heap.size V5 qV := by rw [hV]; exact (below_alloc1 V5 _).drew
            have qTV := Lib.hid (T5.out.past bV)
            have qSV := Lib.hid (S5.out.past bV)
            have qzV : w2.heap.size + 1 ≤ qV.heap.size := by have := bV.size; have := T5.out.lt; omega
            have qOV := Lib.hid (O5.out.kept (row := none) (grown_of_below bV none) (by cases hv : (Value.ownBlock (.slice A4 (n2 + 1) c4)) <;> simp))
            have qYV := Lib.hid (fun v m xs (hr : V5.ownsRow (w2.heap.size + 1) 5 1 v m xs) => hr.kept (row := none) (grown_of_below bV none) (by cases hv : (Value.ownBlock v) <;> simp))
            have qXB := Lib.hid (show Has qV V5.heap.size #[.string xn, .slice xA xN xC] from by rw [hV]; exact (Has.newAt V5 _ 59 rfl).drew)
            have qXS := Lib.hid (show Sl obK qV (some ⟨V5.heap.size, 0, none⟩) 1 1 [⟨xn, xA, xN, xC, xb⟩] from ⟨rfl, Nat.le_refl _, by omega, fun e => (by cases e), Row.of_has qXB.out, fun a ha => by rw [List.mem_singleton.1 ha]; exact (XI.out.below (below_from bV BB5.out BB5.out.size))⟩)
            have qxv0 := (bV.cell (p := ⟨b, off + k * 2, none⟩) hb5).trans x05
            have qxv1 := (bV.cell (p := ⟨b, off + k * 2 + 1, none⟩) hb5).trans x15
            have qBV := Lib.hid (show Below w2.heap.size W3 qV from BV5.out.trans (bV.mono (Nat.le_of_lt T5.out.lt)))
            have qbl : b < qV.heap.size := Nat.lt_of_lt_of_le hb5 bV.size
            rw [← hV]
            clear hV bV
            refine hK.out _ _ ⟨qTV.out.cell 0, qSV.out.cell 0, qxv0, qxv1⟩ (fun hHeld => ?_)
            clear hK K
            try simp only [Act.put, List.setIfInBounds_toArray, List.set_cons_zero, List.set_cons_succ]
            refine seg_op (by simp only [List.getElem?_toArray, List.getElem?_cons_succ, List.getElem?_cons_zero]; rfl) (fun K hK => ?_)
            go_wp2_with (at_builtin; refine wpList_append_sl (K := obK) _ rfl _ _ 22 rfl (w2.heap.size + 1) 59 i0 _ 40 Try.underlying22 hi hz0 hz1 hz2 rfl _ _ _ _ rfl qOV.out (some ⟨V5.heap.size, 0, none⟩) 1 1 [⟨xn, xA, xN, xC, xb⟩] rfl qXS.out (by unfold maxLen; omega) (by omega) qzV ?_)
            clear hHeld
            intro qA4 qc4 qV2 ho hg _
            have qTV2 := Lib.hid (qTV.out.beside hg (fun e => by have := qOV.out.lt _ e.symm; omega))
            have qSV2 := Lib.hid (qSV.out.beside hg (fun e => by have := qOV.out.lt _ e.symm; omega))
            have qxw : ∀ j, qV2.cell? ⟨b, j, none⟩ = qV.cell? ⟨b, j, none⟩ := fun j => hg.cell_far ⟨b, j, none⟩ qbl (fun e => by have h9 : w2.heap.size + 1 ≤ b := (qOV.out.lt b e.symm).1; omega)
            have qzV2 := hg.size
            have qBV2 := Lib.hid (show Below w2.heap.size W3 qV2 from qBV.out.grown hg (by have := qBV.out.size; omega) (fun q hq => by have := qOV.out.lt q hq; omega))
            have qYV2 := Lib.hid (fun v m xs (hr : qV.ownsRow (w2.heap.size + 1) 5 1 v m xs) => (hr.kept hg (by cases hv : (Value.ownBlock v) with | none => exact .inl rfl | some q => exact .inr (fun e => owns_apart hr qOV.out (by decide) hv e.symm)) : qV2.ownsRow (w2.heap.size + 1) 5 1 v m xs))
            have qOV2 := Lib.hid ho
            clear ho hg
            go_wp2_with fail
            refine hK.out _ _ ⟨qTV2.out.cell 0, qSV2.out.cell 0, (qxw _).trans qxv0, (qxw _).trans qxv1⟩ (fun hHeld => ?_)
            clear hK K
            try simp only [Act.put, List.setIfInBounds_toArray, List.set_cons_zero, List.set_cons_succ]
            refine seg_tail rfl ?_
            clear hHeld

            clear t5c s5c x05 x15 qxv0 qxv1 qxw
            have tc := qTV2.out.cell
            have tf := qTV2.out.free
            have tl := qTV2.out.lt
            go_wp2_with fail
            have gs := setCells_grown w2.heap.size [.slice qA4 ((n2 + 1) + 1) qc4] 0 qV2
            go_roundg (n - (k + 1))
            case measure => omega
            case rel =>
              refine ⟨k + 1, qA4, (n2 + 1) + 1, qc4, (lk ++ [⟨s, A5, mb, c5, bl⟩]) ++ [⟨xn, xA, xN, xC, xb⟩], ⟨s, A5, mb, c5, bl⟩, by omega, by omega, by omega, by rw [LD.out], by go_num, qTV2.out.setAt 0 (.slice qA4 ((n2 + 1) + 1) qc4) (by show 0 < 3; omega), Lib.hid ?_, Lib.hid ?_, Lib.hid ?_, qBV2.out.grown gs (by have := qBV2.out.size; omega) (fun q hq => by injection hq with hq; omega), Lib.hid ?_, Lib.hid ?_⟩
              · have hrow := qOV2.out.kept gs (by cases hv : (Value.ownBlock (.slice qA4 ((n2 + 1) + 1) qc4)) with | none => exact .inl rfl | some q => exact .inr (fun e => by injection e with e; have := (qOV2.out.lt q hv).1; omega))
                try simp only [List.flatMap_append, List.flatMap_cons, List.flatMap_nil, List.append_nil, List.append_assoc] at hrow
                simp only [List.flatMap_append, List.flatMap_cons, List.flatMap_nil, List.append_nil, List.append_assoc]
                exact hrow
              · rw [List.length_append, LEN.out]; rfl
              · rw [List.map_append, List.map_append, h4'.out, LD.out, Q3.out]; simp [withR, Ob.val, exs]
              · intro z hz; rcases List.mem_append.1 hz with hz | hz; rcases List.mem_append.1 hz with hz | hz; exact (h6'.out z hz).elim .inl (fun h => by first | exact h.elim | (cases h.1)); exact .inr ⟨LD.out, List.mem_singleton.1 hz⟩; exact .inl (by rw [List.mem_singleton.1 hz]; exact XM.out)
              · exact fun _ => ⟨by show mb ≤ 8192; omega, rfl, HBL.out.len, (qYV2.out _ _ _ (qYV.out _ _ _ Y5.out)).kept gs (by cases hv : (Value.ownBlock (.slice A5 mb c5)) with | none => exact .inl rfl | some q => exact .inr (fun e => by injection e with e; have := ((qYV2.out _ _ _ (qYV.out _ _ _ Y5.out)).lt q hv).1; omega))⟩
    · obtain rfl : k = n := by omega
      have t8c := h1'.out.cell
      have t8l := h1'.out.lt
      have R8 := Lib.hid (R3.out.below h5'.out (by omega))
      have r8c := R8.out.cell
      have r8f := R8.out.free
      have r8l := R8.out.lt
      have TA := Lib.hid (show (l.take k).map Ob.val = l.map Ob.val from by rw [List.take_of_length_le (by rw [HN.out]; omega)])
      have XI := Lib.hid (fun a (ha : a ∈ l) => HL.out.each a ha)
      cases hld : laidO s ((l.take k).map Ob.val) with
      | true =>
        rw [hld] at h4' h6' h7'
        go_wp2_with fail
        have gs := setCells_grown (w.heap.size + 1) [.slice A2 n2 c2, .int .i64 (calls + 1), .slice A3 n' c3] 0 wr
        have bw := BB.out.grown gs BB.out.size (fun q hq => by injection hq with hq; omega)
        refine bodyPost_ret (v := stV A2 n2 c2 (calls + 1) A3 n' c3) (by simp [results, Try.results41, go_sem, r8c]) rfl ?_
        refine ⟨A2, n2, c2, lk, A3, c3, rfl, ⟨h3'.out, owns_base (h2'.out.kept gs ?_) (by omega), fun a ha => ?_⟩, ?_, ⟨HF.out.len, owns_base (World.ownsRow.kept (owns_same F3.out.2.1 (fun q hq => ?_)) gs ?_) (by omega), fun a ha => HF.out.each a ha⟩, bw, fun a ha => ?_⟩
        · cases hv : (Value.ownBlock (.slice A2 n2 c2)) with
          | none => exact .inl rfl
          | some q => exact .inr (fun e => by injection e with e; have := (h2'.out.lt q hv).1; omega)
        · rcases h6'.out a ha with hm | ⟨_, rfl⟩
          · exact (XI.out a hm).below bw
          · obtain ⟨ya, yb, yc, yd⟩ := h7'.out trivial
            have yo : Own u8K 5 (wr.setCells w.heap.size.succ 0 [.slice A2 n2 c2, .int .i64 (calls + 1), .slice A3 n' c3]) (w2.heap.size + 1) a.A a.n a.c a.bs := ⟨yc, yd.kept gs (by cases hv : (Value.ownBlock (.slice a.A a.n a.c)) with | none => exact .inl rfl | some q => exact .inr (fun e => by injection e with e; have := (yd.lt q hv).1; omega)), fun _ _ => trivial⟩
            exact ⟨yo.sl, by omega, by rw [yb]; exact HSZ.out⟩
        · rw [h4'.out, TA.out]; rfl
        · exact h5'.out.block q (F2.out.2.1.lt q hq).2
        · cases hv : (Value.ownBlock (.slice A3 n' c3)) with
          | none => exact .inl rfl
          | some q => exact .inr (fun e => by injection e with e; have := (F3.out.2.1.lt q hv).1; omega)
        · refine (h6'.out a ha).imp id (fun h => ?_)
          obtain ⟨_, rfl⟩ := h
          obtain ⟨ya, yb, yc, yd⟩ := h7'.out trivial
          exact ⟨ya, yb, yc, owns_base (yd.kept gs (by cases hv : (Value.ownBlock (.slice a.A a.n a.c)) with | none => exact .inl rfl | some q => exact .inr (fun e => by injection e with e; have := (yd.lt q hv).1; omega))) (by omega), fun _ _ => trivial⟩
      | false =>
        rw [hld] at h4' h6' h7'
        have hn2k : n2 ≤ k := by
          have h := congrArg List.length h4'.out
          simp [withR, List.length_take] at h
          have := LEN.out
          omega
        have ALL := Lib.hid (with_all s bl ((l.take k).map Ob.val) hld)
        go_wp2_with fail
        refine region_seg (fun w' => w'.cell? ⟨w2.heap.size, 0, none⟩ = some (.slice A2 n2 c2)) 9 [(0, true), (1, true), (2, true), (4, true), (3, false), (5, false), (6, true), (7, false), (8, false)] (by kernel_rfl) (by kernel_rfl) (by simp [go_sem, *]) (fun hHeld => ?_)
        iterate 4
          refine seg_take (v := ?_) (by simp only [List.getElem?_toArray, List.getElem?_cons_succ, List.getElem?_cons_zero]; rfl) (Or.inl ⟨by rfl, ?_⟩) ?_
          rotate_left 1
          · intro w hSw
            try dsimp only at hSw
            go_simp
            try with_reducible rfl
          try simp only [Act.put, List.setIfInBounds_toArray, List.set_cons_zero, List.set_cons_succ]
        refine seg_op (by simp only [List.getElem?_toArray, List.getElem?_cons_succ, List.getElem?_cons_zero]; rfl) (fun K hK => ?_)
        go_wp2_with fail
        clear hHeld
        obtain ⟨V1, hV⟩ : ∃ V, V = (wr.alloc (.cells #[] 5)).drew := ⟨_, rfl⟩
        have bV : Below wr.heap.size wr V1 := by rw [hV]; exact (below_alloc1 wr _).drew
        have TV1 := Lib.hid (h1'.out.past bV)
        have zV1 : w2.heap.size + 1 ≤ V1.heap.size := by have := bV.size; have := h1'.out.lt; omega
        have OV1 := Lib.hid (h2'.out.kept (row := none) (grown_of_below bV none) (by cases hv : (Value.ownBlock (.slice A2 n2 c2)) <;> simp))
        have BR1 := Lib.hid (show V1.ownsRow (w2.heap.size + 1) 5 1 (.slice (some ⟨wr.heap.size, 0, none⟩) 0 0) 0 [] from by rw [hV]; exact World.ownsRow_made wr #[] 0 (by have := h1'.out.lt; omega) (Nat.zero_le _) (by simp))
        have BV1 := Lib.hid (show Below w2.heap.size W3 V1 from h5'.out.trans (bV.mono (Nat.le_of_lt h1'.out.lt)))
        have YB1 := Lib.hid (HBL.out.below (show Below w.heap.size w V1 from B3.out.trans (BV1.out.mono (by omega))))
        rw [← hV]
        clear hV bV
        refine hK.out _ _ (TV1.out.cell 0) (fun hHeld => ?_)
        clear hK K
        try simp only [Act.put, List.setIfInBounds_toArray, List.set_cons_zero, List.set_cons_succ]
        refine seg_op (by simp only [List.getElem?_toArray, List.getElem?_cons_succ, List.getElem?_cons_zero]; rfl) (fun K hK => ?_)
        go_wp2_with (at_builtin; refine wpList_append_sl (K := u8K) _ rfl _ _ 26 rfl (w2.heap.size + 1) 5 u0 _ 1 Try.underlying26 hu hu0 hu1 hu2 rfl _ _ _ _ rfl BR1.out Ab mb kb bl rfl YB1.out (by unfold maxLen; omega) (by omega) zV1 ?_)
        clear hHeld
        intro A5 c5 V2 ho hg _
        try simp only [Nat.zero_add, List.nil_append] at ho
        have TV2 := Lib.hid (TV1.out.beside hg (fun e => by have := BR1.out.lt _ e.symm; omega))
        have OV2 := Lib.hid (OV1.out.kept hg (by cases hv : (Value.ownBlock (.slice A2 n2 c2)) with | none => exact .inl rfl | some q => exact .inr (fun e => owns_apart OV1.out BR1.out (by decide) hv e.symm)))
        have BV2 := Lib.hid (show Below w2.heap.size W3 V2 from BV1.out.grown hg (by have := BV1.out.size; omega) (fun q hq => by have := BR1.out.lt q hq; omega))
        have zV2 : w2.heap.size + 1 ≤ V2.heap.size := Nat.le_trans zV1 hg.size
        have BR2 := Lib.hid ho
        clear ho hg
        go_wp2_with fail
        refine hK.out _ _ (TV2.out.cell 0) (fun hHeld => ?_)
        clear hK K
        try simp only [Act.put, List.setIfInBounds_toArray, List.set_cons_zero, List.set_cons_succ]
        iterate 1
          refine seg_take (v := ?_) (by simp only [List.getElem?_toArray, List.getElem?_cons_succ, List.getElem?_cons_zero]; rfl) (Or.inl ⟨by rfl, ?_⟩) ?_
          rotate_left 1
          · intro w hSw
            try dsimp only at hSw
            go_simp
            try with_reducible rfl
          try simp only [Act.put, List.setIfInBounds_toArray, List.set_cons_zero, List.set_cons_succ]
        refine seg_op (by simp only [List.getElem?_toArray, List.getElem?_cons_succ, List.getElem?_cons_zero]; rfl) (fun K hK => ?_)
        go_wp2_with fail
        clear hHeld
        obtain ⟨V3, hV⟩ : ∃ V, V = V2.alloc (.cells #[.string s, .slice A5 mb c5] 59) := ⟨_, rfl⟩
        have bV : Below V2.heap.size V2 V3 := by rw [hV]; exact below_alloc1 V2 _
        have TV3 := Lib.hid (TV2.out.past bV)
        have zV3 : w2.heap.size + 1 ≤ V3.heap.size := Nat.le_trans zV2 bV.size
        have OV3 := Lib.hid (OV2.out.kept (row := none) (grown_of_below bV none) (by cases hv : (Value.ownBlock (.slice A2 n2 c2)) <;> simp))
        have BR3 := Lib.hid (BR2.out.kept (row := none) (grown_of_below bV none) (by cases hv : (Value.ownBlock (.slice A5 mb c5)) <;> simp))
        have BV3 := Lib.hid (show Below w2.heap.size W3 V3 from BV2.out.trans (bV.mono (by omega)))
        have XB := Lib.hid (show Has V3 V2.heap.size #[.string s, .slice A5 mb c5] from by rw [hV]; exact Has.newAt V2 _ 59 rfl)
        have YI := Lib.hid (show Ob.In V3 ⟨s, A5, mb, c5, bl⟩ from ⟨(show Own u8K 5 V3 (w2.heap.size + 1) A5 mb c5 bl from ⟨HBL.out.len, BR3.out, fun _ _ => trivial⟩).sl, by show mb ≤ _; omega, HSZ.out⟩)
        have XS := Lib.hid (show Sl obK V3 (some ⟨V2.heap.size, 0, none⟩) 1 1 [⟨s, A5, mb, c5, bl⟩] from ⟨rfl, Nat.le_refl _, by omega, fun e => (by cases e), Row.of_has XB.out, fun a ha => by rw [List.mem_singleton.1 ha]; exact YI.out⟩)
        rw [← hV]
        clear hV bV
        refine hK.out _ _ (TV3.out.cell 0) (fun hHeld => ?_)
        clear hK K
        try simp only [Act.put, List.setIfInBounds_toArray, List.set_cons_zero, List.set_cons_succ]
        refine seg_op (by simp only [List.getElem?_toArray, List.getElem?_cons_succ, List.getElem?_cons_zero]; rfl) (fun K hK => ?_)
        go_wp2_with (at_builtin; refine wpList_append_sl (K := obK) _ rfl _ _ 22 rfl (w2.heap.size + 1) 59 i0 _ 40 Try.underlying22 hi hz0 hz1 hz2 rfl _ _ _ _ rfl OV3.out (some ⟨V2.heap.size, 0, none⟩) 1 1 [⟨s, A5, mb, c5, bl⟩] rfl XS.out (by unfold maxLen; omega) (by omega) zV3 ?_)
        clear hHeld
        intro A4 c4 V4 ho hg _
        have TV4 := Lib.hid (TV3.out.beside hg (fun e => by have := OV3.out.lt _ e.symm; omega))
        have BR4 := Lib.hid (BR3.out.kept hg (by cases hv : (Value.ownBlock (.slice A5 mb c5)) with | none => exact .inl rfl | some q => exact .inr (fun e => owns_apart BR3.out OV3.out (by decide) hv e.symm)))
        have BV4 := Lib.hid (show Below w2.heap.size W3 V4 from BV3.out.grown hg (by have := BV3.out.size; omega) (fun q hq => by have := OV3.out.lt q hq; omega))
        have zV4 : w2.heap.size + 1 ≤ V4.heap.size := Nat.le_trans zV3 hg.size
        have OV4 := Lib.hid ho
        clear ho hg
        go_wp2_with fail
        refine hK.out _ _ (TV4.out.cell 0) (fun hHeld => ?_)
        clear hK K
        try simp only [Act.put, List.setIfInBounds_toArray, List.set_cons_zero, List.set_cons_succ]
        refine seg_tail rfl ?_
        clear hHeld

        have tc := TV4.out.cell
        have tf := TV4.out.free
        have tl := TV4.out.lt
        have gs := setCells_grown w2.heap.size [.slice A4 (n2 + 1) c4] 0 V4
        have R9 := Lib.hid (R3.out.below BV4.out (by omega))
        have r9c := R9.out.cell
        have r9f := R9.out.free
        have r9l := R9.out.lt
        clear t8c t8l s8c s8l r8c r8f r8l
        go_wp2_with fail
        obtain ⟨V5, hV5⟩ : ∃ V, V = V4.setCell ⟨w2.heap.size, 0, none⟩ (.slice A4 (n2 + 1) c4) := ⟨_, rfl⟩
        have O5 := Lib.hid (show V5.ownsRow (w2.heap.size + 1) 59 2 (.slice A4 (n2 + 1) c4) (n2 + 1) ((lk ++ [(⟨s, A5, mb, c5, bl⟩ : Ob)]).flatMap obK.cells) from by rw [hV5, List.flatMap_append]; exact OV4.out.kept gs (by cases hv : (Value.ownBlock (.slice A4 (n2 + 1) c4)) with | none => exact .inl rfl | some q => exact .inr (fun e => by injection e with e; have := (OV4.out.lt q hv).1; omega)))
        have Y5 := Lib.hid (show V5.ownsRow (w2.heap.size + 1) 5 1 (.slice A5 mb c5) mb (bl.flatMap u8K.cells) from by rw [hV5]; exact BR4.out.kept gs (by cases hv : (Value.ownBlock (.slice A5 mb c5)) with | none => exact .inl rfl | some q => exact .inr (fun e => by injection e with e; have := (BR4.out.lt q hv).1; omega)))
        have BV5 := Lib.hid (show Below w2.heap.size W3 V5 from by rw [hV5]; exact BV4.out.grown gs (by have := BV4.out.size; omega) (fun q hq => by injection hq with hq; omega))
        have BB5 := Lib.hid (show Below w.heap.size w V5 from B3.out.trans (BV5.out.mono (by omega)))
        have R5 := Lib.hid (R3.out.below BV5.out (by omega))
        rw [← hV5]
        have r5c := R5.out.cell
        have r5l := R5.out.lt
        clear hV5 tc tf tl r9c r9f r9l gs
        have gs := setCells_grown (w.heap.size + 1) [.slice A4 (n2 + 1) c4, .int .i64 (calls + 1), .slice A3 n' c3] 0 V5
        have bw := BB5.out.grown gs BB5.out.size (fun q hq => by injection hq with hq; omega)
        refine bodyPost_ret (v := stV A4 (n2 + 1) c4 (calls + 1) A3 n' c3) (by simp [results, Try.results41, go_sem, r5c]) rfl ?_
        have o6 := O5.out.kept gs (by cases hv : (Value.ownBlock (.slice A4 (n2 + 1) c4)) with | none => exact .inl rfl | some q => exact .inr (fun e => by injection e with e; have := (O5.out.lt q hv).1; omega))
        refine ⟨A4, n2 + 1, c4, lk ++ [(⟨s, A5, mb, c5, bl⟩ : Ob)], A3, c3, rfl, ⟨by rw [List.length_append, LEN.out]; rfl, owns_base o6 (by omega), fun a ha => ?_⟩, ?_, ⟨HF.out.len, owns_base (World.ownsRow.kept (owns_same F3.out.2.1 (fun q hq => ?_)) gs ?_) (by omega), fun a ha => HF.out.each a ha⟩, bw, fun a ha => ?_⟩
        · rcases List.mem_append.1 ha with ha | ha
          · rcases h6'.out a ha with hm | ⟨h, _⟩
            · exact (XI.out a hm).below bw
            · first | exact h.elim | (cases h)
          · rw [List.mem_singleton.1 ha]
            have yo : Own u8K 5 _ (w2.heap.size + 1) A5 mb c5 bl := ⟨HBL.out.len, Y5.out.kept gs (by cases hv : (Value.ownBlock (.slice A5 mb c5)) with | none => exact .inl rfl | some q => exact .inr (fun e => by injection e with e; have := (Y5.out.lt q hv).1; omega)), fun _ _ => trivial⟩
            exact ⟨yo.sl, by show mb ≤ _; omega, HSZ.out⟩
        · rw [List.map_append, h4'.out, ← TA.out, ← ALL.out]; rfl
        · exact BV5.out.block q (F2.out.2.1.lt q hq).2
        · cases hv : (Value.ownBlock (.slice A3 n' c3)) with
          | none => exact .inl rfl
          | some q => exact .inr (fun e => by injection e with e; have := (F3.out.2.1.lt q hv).1; omega)
        · rcases List.mem_append.1 ha with ha | ha
          · rcases h6'.out a ha with hm | ⟨h, _⟩
            · exact .inl hm
            · first | exact h.elim | (cases h)
          · rw [List.mem_singleton.1 ha]
            exact .inr ⟨by show mb ≤ 8192; omega, rfl, HBL.out.len, owns_base (Y5.out.kept gs (by cases hv : (Value.ownBlock (.slice A5 mb c5)) with | none => exact .inl rfl | some q => exact .inr (fun e => by injection e with e; have := (Y5.out.lt q hv).1; omega))) (by omega), fun _ _ => trivial⟩

end Go.Proofs.Ytnnmppnbkplamaa
