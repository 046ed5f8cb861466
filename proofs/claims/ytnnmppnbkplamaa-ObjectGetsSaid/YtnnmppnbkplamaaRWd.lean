/- The document's with, where an object is taken away. -/
import Derived.Test.YtnnmppnbkplamaaRCal
import Derived.Test.YtnnmppnbkplamaaWithP
namespace Go.Proofs.Ytnnmppnbkplamaa
open Go.RowKit Go.Shelf

set_option maxRecDepth 100000 in
set_option maxHeartbeats 8000000 in
theorem rwith_del (A : Option Addr) (n c : Nat) (l : List Ob) (calls : Int) (A' : Option Addr) (n' c' : Nat) (fs : List Ft) (s : ByteArray) (w : World) (hl : Obs w A n c l) (hf : Fts w A' n' c' fs) (h1 : n ≤ 1024) (h2 : n' ≤ 1024) (h3 : 0 ≤ calls) (h4 : calls < 1099511627776) :
    Calls Try.prog 41 #[stV A n c calls A' n' c', .string s, .slice none 0 0, .bool false] w fun e w' => ∃ A2 n2 c2 l2 A3 c3, e = .returned (stV A2 n2 c2 (calls + 1) A3 n' c3) ∧ Own obK 59 w' w.heap.size A2 n2 c2 l2 ∧ l2.map Ob.val = (l.map Ob.val).filter (fun x => !decide (x.name = s)) ∧ Own ftK 48 w' w.heap.size A3 n' c3 fs ∧ Below w.heap.size w w' ∧ ∀ a ∈ l2, a ∈ l := by
  obtain ⟨W1, hW1⟩ : ∃ W1, W1 = (w.alloc (.cells #[.slice A n c, .int .i64 calls, .slice A' n' c'] 25)).alloc (.cells #[.slice none 0 0, .int .i64 0, .slice none 0 0] 25) := ⟨_, rfl⟩
  have B1 := Lib.hid (show Below w.heap.size w W1 from by rw [hW1]; exact ((Below.refl _ w).alloc (Nat.le_refl _) _).alloc (by simp) _)
  have z1 : w.heap.size + 2 ≤ W1.heap.size := by rw [hW1]; simp
  have S1 := Lib.hid (show Has W1 w.heap.size #[.slice A n c, .int .i64 calls, .slice A' n' c'] from by rw [hW1]; exact (Has.newAt w _ 25 rfl).alloc _)
  have R1 := Lib.hid (show Has W1 (w.heap.size + 1) #[.slice none 0 0, .int .i64 0, .slice none 0 0] from by rw [hW1]; exact Has.newAt _ _ 25 (by simp))
  have HL := Lib.hid hl
  have HN := Lib.hid hl.len
  have HF := Lib.hid hf
  have HW := Lib.hid hW1
  have CA := Lib.hid (rcalled_any A n c l calls A' n' c' fs W1 (hl.below B1.out) (hf.below B1.out) h1 h2 h3 h4)
  obtain ⟨i0, hi, hz0, hz1, hz2⟩ := info_parts inf59
  have hnc := hl.cap
  have hnm := hl.max
  clear hl hf hW1
  go_enter Try.func41, Try.ntmps41
  go_wp2_with fail
  rw [← HW.out]
  refine CA.out.mono ?_
  intro e w2 hx
  obtain ⟨Ax, cx, A3, c3, rfl, _, hF2, hb2⟩ := hx
  have F2 := Lib.hid hF2
  have zz := hb2.size
  have S2 := Lib.hid (S1.out.past hb2)
  have R2 := Lib.hid (R1.out.past hb2)
  have B2 := Lib.hid (below_from hb2 B1.out B1.out.size)
  obtain ⟨W3, hW3⟩ : ∃ W3, W3 = w2.alloc (.cells #[.slice none 0 0, .int .i64 (calls + 1), .slice A3 n' c3] 25) := ⟨_, rfl⟩
  have b3 : Below w2.heap.size w2 W3 := by rw [hW3]; exact below_alloc1 _ _
  have T3 := Lib.hid (show Has W3 w2.heap.size #[.slice none 0 0, .int .i64 (calls + 1), .slice A3 n' c3] from by rw [hW3]; exact Has.newAt w2 _ 25 rfl)
  have S3 := Lib.hid (S2.out.past b3)
  have R3 := Lib.hid (R2.out.past b3)
  have B3 := Lib.hid (below_from b3 B2.out B2.out.size)
  have F3 := Lib.hid (F2.out.kept b3)
  have z3 := T3.out.lt
  have HW3 := Lib.hid hW3
  clear hF2 hb2 hW3 b3
  go_wp2_with fail
  rw [← HW3.out]
  have s3c := S3.out.cell
  have s3l := S3.out.lt
  go_loopg [10, 11] n (fun gg s10 s11 wr => ∃ (k : Nat) (A2 : Option Addr) (n2 c2 : Nat) (lk : List Ob), k ≤ n ∧ n - k ≤ gg ∧ n2 ≤ k ∧ s10 = .bool true ∧ s11 = .int .i64 k ∧ Hid (Has wr w2.heap.size #[.slice A2 n2 c2, .int .i64 (calls + 1), .slice A3 n' c3]) ∧ Hid (wr.ownsRow (w2.heap.size + 1) 59 2 (.slice A2 n2 c2) n2 (lk.flatMap obK.cells)) ∧ Hid (lk.length = n2) ∧ Hid (lk = (l.take k).filter fun x => !decide (x.name = s)) ∧ Hid (Below w2.heap.size W3 wr))
  case atStart => exact ⟨0, none, 0, 0, [], Nat.zero_le _, by omega, Nat.le_refl _, rfl, rfl, T3, Lib.hid (World.ownsRow_nil _ _ _ _), rfl, rfl, Lib.hid (Below.refl _ _)⟩
  case round =>
    obtain ⟨k, A2, n2, c2, lk, hk, hgg, hn2, rfl, rfl, h1', h2', h3', h4', h5'⟩ := hrel
    have S8 := Lib.hid (S3.out.below h5'.out (by omega))
    have s8c := S8.out.cell
    have s8l := S8.out.lt
    have BB := Lib.hid (show Below w.heap.size w wr from B3.out.trans (h5'.out.mono (by omega)))
    clear s3c s3l
    by_cases hlt : k < n
    · obtain ⟨b, off, hkl, rfl, hbl, x0, x1⟩ := Obs.at_ (HL.out.below BB.out) hlt
      have TK := Lib.hid (show (l.take (k + 1)).filter (fun x => !decide (x.name = s)) = (l.take k).filter (fun x => !decide (x.name = s)) ++ (if l[k].name = s then [] else [l[k]]) from by
        rw [List.take_succ_eq_append_getElem hkl, List.filter_append]
        congr 1
        by_cases e : l[k].name = s
        · rw [if_pos e]; simp [e]
        · rw [if_neg e]; simp [e])
      have XI := Lib.hid (HL.out.each l[k] (List.getElem_mem hkl))
      have hbT : b < w2.heap.size := by
        obtain ⟨b9, off9, _, e9, hb9, _, _⟩ := Obs.at_ HL.out hlt
        injection e9 with e9; injection e9 with e1 e2 e3
        subst e1
        omega
      generalize l[k] = x at *
      obtain ⟨xn, xA, xN, xC, xb⟩ := x
      simp only at x0 x1 TK
      have k0 : (0 : Int) ≤ (k : Int) := by omega
      have k1 : (k : Int) < (n : Int) := by omega
      by_cases e1 : xn = s
      · subst e1
        go_wp2_with fail
        go_roundg (n - (k + 1))
        case measure => omega
        case rel => exact ⟨k + 1, A2, n2, c2, lk, by omega, by omega, by omega, rfl, by go_num, h1', h2', h3', Lib.hid (by rw [TK.out, h4'.out]; simp), h5'⟩
      · have ne := str_ne e1
        have t8c := h1'.out.cell
        have t8l := h1'.out.lt
        go_wp2_with fail
        refine region_seg (fun w' => w'.cell? ⟨w2.heap.size, 0, none⟩ = some (.slice A2 n2 c2) ∧ w'.cell? ⟨w.heap.size, 0, none⟩ = some (.slice (some ⟨b, off, none⟩) n c) ∧ w'.cell? ⟨b, off + k * 2, none⟩ = some (.string xn) ∧ w'.cell? ⟨b, off + k * 2 + 1, none⟩ = some (.slice xA xN xC)) 9 [(0, true), (1, true), (2, true), (3, true), (4, true), (5, true), (6, true), (7, false), (8, false)] (by kernel_rfl) (by kernel_rfl) (by simp [go_sem, *]) (fun hHeld => ?_)
        iterate 7
          refine seg_take (v := ?_) (by simp only [List.getElem?_toArray, List.getElem?_cons_succ, List.getElem?_cons_zero]; rfl) (Or.inl ⟨by rfl, ?_⟩) ?_
          rotate_left 1
          · intro w hSw
            try dsimp only at hSw
            go_simp
            try with_reducible rfl
          try simp only [Act.put, List.setIfInBounds_toArray, List.set_cons_zero, List.set_cons_succ]
        refine seg_op (by simp only [List.getElem?_toArray, List.getElem?_cons_succ, List.getElem?_cons_zero]; rfl) (fun K hK => ?_)
        go_wp2_with fail
        clear hHeld
        obtain ⟨V, hV⟩ : ∃ V, V = (wr.alloc (.cells #[.string xn, .slice xA xN xC] 59)).drew := ⟨_, rfl⟩
        have bV : Below wr.heap.size wr V := by rw [hV]; exact (below_alloc1 wr _).drew
        have TV := Lib.hid (h1'.out.past bV)
        have SV := Lib.hid (S8.out.past bV)
        have zV : w2.heap.size + 1 ≤ V.heap.size := by have := bV.size; have := h1'.out.lt; omega
        have OV := Lib.hid (h2'.out.kept (row := none) (grown_of_below bV none) (by cases hv : (Value.ownBlock (.slice A2 n2 c2)) <;> simp))
        have XB := Lib.hid (show Has V wr.heap.size #[.string xn, .slice xA xN xC] from by rw [hV]; exact (Has.newAt wr _ 59 rfl).drew)
        have XS := Lib.hid (show Sl obK V (some ⟨wr.heap.size, 0, none⟩) 1 1 [⟨xn, xA, xN, xC, xb⟩] from ⟨rfl, Nat.le_refl _, by omega, fun e => (by cases e), Row.of_has XB.out, fun a ha => by rw [List.mem_singleton.1 ha]; exact (XI.out.below (below_from bV BB.out BB.out.size))⟩)
        have xv0 := (bV.cell (p := ⟨b, off + k * 2, none⟩) hbl).trans x0
        have xv1 := (bV.cell (p := ⟨b, off + k * 2 + 1, none⟩) hbl).trans x1
        have BV := Lib.hid (show Below w2.heap.size W3 V from h5'.out.trans (bV.mono (Nat.le_of_lt h1'.out.lt)))
        rw [← hV]
        clear hV bV
        refine hK.out _ _ ⟨TV.out.cell 0, SV.out.cell 0, xv0, xv1⟩ (fun hHeld => ?_)
        clear hK K
        try simp only [Act.put, List.setIfInBounds_toArray, List.set_cons_zero, List.set_cons_succ]
        refine seg_op (by simp only [List.getElem?_toArray, List.getElem?_cons_succ, List.getElem?_cons_zero]; rfl) (fun K hK => ?_)
        go_wp2_with (at_builtin; refine wpList_append_sl (K := obK) _ rfl _ _ 22 rfl (w2.heap.size + 1) 59 i0 _ 40 Try.underlying22 hi hz0 hz1 hz2 rfl _ _ _ _ rfl OV.out (some ⟨wr.heap.size, 0, none⟩) 1 1 [⟨xn, xA, xN, xC, xb⟩] rfl XS.out (by unfold maxLen; omega) (by omega) zV ?_)
        clear hHeld
        intro A4 c4 V2 ho hg hat
        have TV2 := Lib.hid (TV.out.beside hg (fun e => by have := OV.out.lt _ e.symm; omega))
        have SV2 := Lib.hid (SV.out.beside hg (fun e => by have := OV.out.lt _ e.symm; omega))
        have xw : ∀ j, V2.cell? ⟨b, j, none⟩ = V.cell? ⟨b, j, none⟩ := fun j => hg.cell_far ⟨b, j, none⟩ (Nat.lt_of_lt_of_le hbl (by have := XB.out.lt; omega)) (fun e => by have h9 : w2.heap.size + 1 ≤ b := (OV.out.lt b e.symm).1; omega)
        have zV2 := hg.size
        have BV2 := Lib.hid (show Below w2.heap.size W3 V2 from BV.out.grown hg (by have := BV.out.size; omega) (fun q hq => by have := OV.out.lt q hq; omega))
        have OV2 := Lib.hid ho
        clear hg ho
        go_wp2_with fail
        refine hK.out _ _ ⟨TV2.out.cell 0, SV2.out.cell 0, (xw _).trans xv0, (xw _).trans xv1⟩ (fun hHeld => ?_)
        clear hK K
        try simp only [Act.put, List.setIfInBounds_toArray, List.set_cons_zero, List.set_cons_succ]
        refine seg_tail rfl ?_
        clear hHeld

        have tc := TV2.out.cell
        have tf := TV2.out.free
        have tl := TV2.out.lt
        clear t8c t8l s8c s8l x0 x1 xv0 xv1 xw
        go_wp2_with fail
        have gs := setCells_grown w2.heap.size [.slice A4 (n2 + 1) c4] 0 V2
        go_roundg (n - (k + 1))
        case measure => omega
        case rel =>
          refine ⟨k + 1, A4, n2 + 1, c4, lk ++ [⟨xn, xA, xN, xC, xb⟩], by omega, by omega, by omega, rfl, by go_num, TV2.out.setAt 0 (.slice A4 (n2 + 1) c4) (by show 0 < 3; omega), Lib.hid ?_, Lib.hid (by rw [List.length_append, h3'.out]; rfl), Lib.hid (by rw [TK.out, h4'.out, if_neg e1]), BV2.out.grown gs (by have := BV2.out.size; omega) (fun q hq => by injection hq with hq; omega)⟩
          rw [List.flatMap_append]
          exact OV2.out.kept gs (by cases hv : (Value.ownBlock (.slice A4 (n2 + 1) c4)) with | none => exact .inl rfl | some q => exact .inr (fun e => by injection e with e; have := (OV2.out.lt q hv).1; omega))
    · obtain rfl : k = n := by omega
      have t8c := h1'.out.cell
      have t8l := h1'.out.lt
      have R8 := Lib.hid (R3.out.below h5'.out (by omega))
      have r8c := R8.out.cell
      have r8f := R8.out.free
      have r8l := R8.out.lt
      go_wp2_with fail
      have gs := setCells_grown (w.heap.size + 1) [.slice A2 n2 c2, .int .i64 (calls + 1), .slice A3 n' c3] 0 wr
      have bw := BB.out.grown gs BB.out.size (fun q hq => by injection hq with hq; omega)
      refine bodyPost_ret (v := stV A2 n2 c2 (calls + 1) A3 n' c3) (by simp [results, Try.results41, go_sem, r8c]) rfl ?_
      have lk' : lk = l.filter fun x => !decide (x.name = s) := by rw [h4'.out, List.take_of_length_le (by rw [HN.out]; omega)]
      refine ⟨A2, n2, c2, lk, A3, c3, rfl, ⟨h3'.out, owns_base (h2'.out.kept gs ?_) (by omega), fun a ha => ?_⟩, ?_, ⟨HF.out.len, owns_base (World.ownsRow.kept (owns_same F3.out.2.1 (fun q hq => ?_)) gs ?_) (by omega), fun a ha => HF.out.each a ha⟩, bw, fun a ha => by rw [lk'] at ha; exact (List.mem_filter.1 ha).1⟩
      · cases hv : (Value.ownBlock (.slice A2 n2 c2)) with
        | none => exact .inl rfl
        | some q => exact .inr (fun e => by injection e with e; have := (h2'.out.lt q hv).1; omega)
      · refine (HL.out.each a ?_).below bw
        rw [lk'] at ha
        exact (List.mem_filter.1 ha).1
      · rw [lk', List.filter_map]
        rfl
      · exact h5'.out.block q (F2.out.2.1.lt q hq).2
      · cases hv : (Value.ownBlock (.slice A3 n' c3)) with
        | none => exact .inl rfl
        | some q => exact .inr (fun e => by injection e with e; have := (F3.out.2.1.lt q hv).1; omega)

end Go.Proofs.Ytnnmppnbkplamaa
