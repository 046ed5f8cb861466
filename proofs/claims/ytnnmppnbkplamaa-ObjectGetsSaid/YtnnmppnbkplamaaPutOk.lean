/- Put, of the program: the call. -/
import Derived.Test.YtnnmppnbkplamaaPutB
import Derived.Test.YtnnmppnbkplamaaPutF
import Derived.Test.YtnnmppnbkplamaaPutM
import Derived.Test.YtnnmppnbkplamaaPutG
import Derived.Test.YtnnmppnbkplamaaPutD
import Derived.Test.YtnnmppnbkplamaaSeg
import Derived.Deep.DeepCutAuto
namespace Go.Proofs.Ytnnmppnbkplamaa
open Go.RowKit Go.Shelf

set_option maxRecDepth 100000 in
set_option maxHeartbeats 8000000 in
theorem put_ok (A : Option Addr) (n c : Nat) (l : List Ob) (calls : Int) (A' : Option Addr) (n' c' : Nat) (fs : List Ft) (s : ByteArray) (Ab : Option Addr) (mb kb : Nat) (w : World) (bl : List UInt8) (hl : Obs w A n c l) (hf : Fts w A' n' c' fs) (hbl : Sl u8K w Ab mb kb bl) (hsz : s.size ≤ maxLen) (he : mayE (checkO (l.map Ob.val) calls fs) (nameC s) = 0) (hm : mb ≤ 140737488355328) (hbd : ¬ (8192 < mb ∨ (findO s (l.map Ob.val) = none ∧ 1024 ≤ n))) :
    Calls Try.prog 13 #[stV A n c calls A' n' c', .string s, .slice Ab mb kb] w (SRes (putL (l.map Ob.val) s bl (faultC calls fs)) (calls + 1) fs (fun v => .tuple #[v, .int .i64 (doneE (faultC calls fs))]) w) := by
  obtain ⟨h1, h2, h3, h4, h5, _, _⟩ := check_ok (may_ok he).1
  rw [hl.len] at h1
  rw [hf.len] at h2
  obtain ⟨W3, hW3⟩ : ∃ W3, W3 = ((w.alloc (.cells #[.slice A n c, .int .i64 calls, .slice A' n' c'] 25)).alloc (.cells #[.string s] 9)).alloc (.cells #[.slice none 0 0, .int .i64 0, .slice none 0 0] 25) := ⟨_, rfl⟩
  have B3 := Lib.hid (show Below w.heap.size w W3 from by rw [hW3]; exact (((Below.refl _ w).alloc (Nat.le_refl _) _).alloc (by simp) _).alloc (by simp <;> omega) _)
  have z3 : W3.heap.size = w.heap.size + 3 := by rw [hW3]; simp
  have S3 := Lib.hid (show Has W3 w.heap.size #[.slice A n c, .int .i64 calls, .slice A' n' c'] from by rw [hW3]; exact ((Has.newAt w _ 25 rfl).alloc _).alloc _)
  have N3 := Lib.hid (show Has W3 (w.heap.size + 1) #[.string s] from by rw [hW3]; exact (Has.newAt _ _ 9 (by simp)).alloc _)
  have R3 := Lib.hid (show Has W3 (w.heap.size + 2) #[.slice none 0 0, .int .i64 0, .slice none 0 0] from by rw [hW3]; exact Has.newAt _ _ 25 (by simp))
  have NM := Lib.hid (fun w' (_ : Below W3.heap.size W3 w') => name_any s w')
  have MY := Lib.hid (fun w' (hb : Below W3.heap.size W3 w') => (show Calls Try.prog 28 #[stV A n c calls A' n' c', .bool (nameC s)] w' fun e w'' => e = .returned (.int .i64 0) ∧ Below w'.heap.size w' w'' from by
    have := may_any A n c l calls A' n' c' fs (nameC s) w' (hl.below (below_from hb B3.out B3.out.size)) (hf.below (below_from hb B3.out B3.out.size))
    rw [he] at this
    exact this))
  have BG := Lib.hid (fun w' (hb : Below w.heap.size w w') => begin_any A n c l calls A' n' c' fs w' (hl.below hb) (hf.below hb) h1 h2 h3 h4)
  have r0 := at_regrown (a := ⟨w.heap.size, 0, none⟩) (v := .slice A n c) (S3.out.cell 0)
  have r1 := at_regrown (a := ⟨w.heap.size, 1, none⟩) (v := .int .i64 calls) (S3.out.cell 1)
  have r2 := at_regrown (a := ⟨w.heap.size, 2, none⟩) (v := .slice A' n' c') (S3.out.cell 2)
  have r3 := at_regrown (a := ⟨w.heap.size + 1, 0, none⟩) (v := .string s) (N3.out.cell 0)
  obtain ⟨ft, hft⟩ : ∃ ft, ft = faultC calls fs := ⟨_, rfl⟩
  rw [← hft] at BG ⊢
  have HW3 := Lib.hid hW3
  have RI := Lib.hid h5
  have HL := Lib.hid hl
  have HBL := Lib.hid hbl
  have HFL := Lib.hid hf.len
  have HSZ := Lib.hid hsz
  have L6 : Hid (l.length ≤ 60000) := Lib.hid (by rw [hl.len]; omega)
  have BD := Lib.hid hbd
  clear hbd hl hf hbl hsz hW3 he hft h1 h2 h3 h4 h5
  go_enter Try.func13, Try.ntmps13
  go_wp2_with fail
  rw [← HW3.out]
  refine region_below (by kernel_rfl) (by kernel_rfl) ?_
  repeat (go_big_quiet_step (first | (go_at_call 29; exact call_regrown NM.out) | (go_at_call 28; exact call_regrown MY.out)))
  refine wpQuiet_nil ?_
  intro w4 hb4
  have B4 := Lib.hid (below_from hb4 B3.out B3.out.size)
  have z4 := hb4.size
  have S4 := Lib.hid (S3.out.past hb4)
  have N4 := Lib.hid (N3.out.past hb4)
  have R4 := Lib.hid (R3.out.past hb4)
  have s4c := S4.out.cell
  have s4l := S4.out.lt
  clear hb4 r0 r1 r2 r3
  go_upto_region 6 with (first
    | (go_at_call 30; refine (BG.out _ B4.out).mono ?_; intro e w5 hx; obtain ⟨g, A2, c2, A3, c3, rfl, hge, hG, hO, hF, hb5⟩ := hx; have B5 := Lib.hid (below_from hb5 B4.out B4.out.size); have z5 := hb5.size; have S5 := Lib.hid (S4.out.past hb5); have N5 := Lib.hid (N4.out.past hb5); have R5 := Lib.hid (R4.out.past hb5); have G5 := Lib.hid hG; have O5 := Lib.hid hO; have F5 := Lib.hid hF; have g5l := hG.lt; have n5c := N5.out.cell; have n5l := N5.out.lt; clear hb5 hG hO hF s4c s4l)
    | (go_at_call 31; refine (at_any _ _ _ _ _ _ _ _ _ _ s _ (G5.out.past (below_alloc1 _ _)) (O5.out.kept (below_alloc1 _ _)).sl L6.out RI.out).mono ?_; rintro e w7 ⟨i, b, rfl, hs, hb7⟩; have HS := Lib.hid hs; have b7 := (below_alloc1 w5 (.cells #[.pointer (some ⟨g, 0, none⟩)] 53)).trans (hb7.mono (by simp)); have z7 := b7.size; have S7 := Lib.hid (S5.out.past b7); have R7 := Lib.hid (R5.out.past b7); have B7 := Lib.hid (below_from b7 B5.out B5.out.size); have N7 := Lib.hid (N5.out.past b7); have G7 := Lib.hid (G5.out.past b7); have O7 := Lib.hid (O5.out.kept b7); have F7 := Lib.hid (F5.out.kept b7); have C7 := Lib.hid ((Has.newAt w5 #[.pointer (some ⟨g, 0, none⟩)] 53 (g := w5.heap.size) rfl).past hb7); clear hs hb7 b7 n5c n5l))
  have S8' := Lib.hid ((S7.out.alloc (.cells #[.int .i64 (i : Int)] 3)).alloc (.cells #[.bool b] 4))
  have s8c := S8'.out.cell
  have h8 : ¬ 8192 < mb := fun h => BD.out (.inl h)
  have h8' : ¬ (8192 : Int) < (mb : Int) := by omega
  have hx : b = true ∨ (b = false ∧ ¬ 1024 ≤ n) := by
    cases hbb : b with
    | true => exact .inl rfl
    | false =>
      refine .inr ⟨rfl, fun h => BD.out (.inr ⟨?_, h⟩)⟩
      exact (at_find RI.out HS.out).2 hbb
  clear BD
  have IB : Hid (if b = true then i < l.length else i ≤ l.length) := by
    obtain ⟨q1, _, _, q4⟩ := HS.out
    cases hb : b with
    | true => rw [if_pos rfl]; exact Lib.hid (q4.1 hb).1
    | false => rw [if_neg (by decide)]; exact Lib.hid q1
  have w2 : IntKind.i64.wrap ((mb : Int) / 2) = (mb : Int) / 2 := IntWalk.i64_in _ (by omega)
  have w3 : ((mb : Int) / 2).toNat = mb / 2 := by omega
  have w4 : (0 : Int) ≤ (mb : Int) / 2 := by omega
  have w5' : (mb : Int) / 2 ≤ (kb : Int) := by have := HBL.out.cap; omega
  have k2 : mb / 2 ≤ kb := by have := HBL.out.cap; omega
  rcases hx with rfl | ⟨rfl, hn⟩
  · go_upto_region 9 with fail
    obtain ⟨W8, hW8⟩ : ∃ W8, W8 = (w7.alloc (.cells #[.int .i64 (i : Int)] 3)).alloc (.cells #[.bool true] 4) := ⟨_, rfl⟩
    have b8 : Below w7.heap.size w7 W8 := by rw [hW8]; exact (below_alloc1 w7 _).alloc (by simp) _
    have z8 : w7.heap.size + 2 ≤ W8.heap.size := by rw [hW8]; simp
    have I8 := Lib.hid (show Has W8 w7.heap.size #[.int .i64 (i : Int)] from by rw [hW8]; exact (Has.newAt w7 _ 3 rfl).alloc _)
    have T8 := Lib.hid (show Has W8 (w7.heap.size + 1) #[.bool true] from by rw [hW8]; exact Has.newAt _ _ 4 (by simp))
    have C8 := Lib.hid (C7.out.past b8)
    have N8 := Lib.hid (N7.out.past b8)
    have G8 := Lib.hid (G7.out.past b8)
    have O8 := Lib.hid (O7.out.kept b8)
    have F8 := Lib.hid (F7.out.kept b8)
    have R8 := Lib.hid (R7.out.past b8)
    have B8 := Lib.hid (below_from b8 B7.out B7.out.size)
    have HB8 := Lib.hid (fun W' (h : Below g W8 W') => HBL.out.below (B8.out.trans (h.mono (by omega))))
    rw [← hW8]
    clear hW8 b8 s8c
    have c8 := C8.out.cell
    refine region_seg (fun w' => w'.cell? ⟨w5.heap.size, 0, none⟩ = some (.pointer (some ⟨g, 0, none⟩))) 14 [(0, true), (1, true), (2, true), (4, true), (5, true), (6, true), (7, true), (8, true), (9, true), (3, false), (10, false), (11, false), (12, true), (13, true)] (by kernel_rfl) (by kernel_rfl) (by simp [go_sem, *]) (fun hHeld => ?_)
    iterate 9
      refine seg_take (v := ?_) (by simp only [List.getElem?_toArray, List.getElem?_cons_succ, List.getElem?_cons_zero]; rfl) (Or.inl ⟨by rfl, ?_⟩) ?_
      rotate_left 1
      · intro w hSw
        try dsimp only at hSw
        go_simp
        try with_reducible rfl
      try simp only [Act.put, List.setIfInBounds_toArray, List.set_cons_zero, List.set_cons_succ]
    refine seg_op (by simp only [List.getElem?_toArray, List.getElem?_cons_succ, List.getElem?_cons_zero]; rfl) (fun K hK => ?_)
    go_wp2_with (refine (mk_any Ab mb kb _ _ _ _ _).mono ?_; rintro e w9 ⟨rfl, hb9, h9⟩; have K9 := Lib.hid (show Has w9 W8.heap.size #[.slice Ab mb kb] from h9); have B9 := Lib.hid (show Below W8.heap.size W8 w9 from ((Below.refl _ W8).drew).trans hb9); have z9 : W8.heap.size ≤ w9.heap.size := hb9.size; have k9 := K9.out.lt; clear hb9 h9)
    clear hHeld
    refine hK.out _ _ ((C8.out.past B9.out).cell 0) (fun hHeld => ?_)
    clear hK K
    try simp only [Act.put, List.setIfInBounds_toArray, List.set_cons_zero, List.set_cons_succ]
    refine seg_op (by simp only [List.getElem?_toArray, List.getElem?_cons_succ, List.getElem?_cons_zero]; rfl) (fun K hK => ?_)
    go_wp2_with (refine (mk_any Ab (mb / 2) kb _ _ _ _ _).mono ?_; rintro e wx ⟨rfl, hb10, h10⟩; have K10 := Lib.hid h10; have KX := Lib.hid (K9.out.past hb10); have BX := Lib.hid (show Below W8.heap.size W8 wx from B9.out.trans (hb10.mono B9.out.size)); have z10 := hb10.size; have k10 := K10.out.lt; clear hb10 h10)
    clear hHeld
    refine hK.out _ _ ((C8.out.past BX.out).cell 0) (fun hHeld => ?_)
    clear hK K
    try simp only [Act.put, List.setIfInBounds_toArray, List.set_cons_zero, List.set_cons_succ]
    refine seg_op (by simp only [List.getElem?_toArray, List.getElem?_cons_succ, List.getElem?_cons_zero]; rfl) (fun K hK => ?_)
    go_wp2_with (refine (put_dn wx g (w7.heap.size + 1) w5.heap.size w7.heap.size (w.heap.size + 1) W8.heap.size w9.heap.size i A2 l.length c2 l (calls + 1) A3 fs.length c3 ft true s Ab mb (mb / 2) kb bl (bl.take (mb / 2)) (T8.out.past BX.out) (C8.out.past BX.out) (I8.out.past BX.out) (N8.out.past BX.out) KX.out K10.out (fun W' h => HB8.out W' ((BX.out.mono (by omega)).trans h)) (fun W' h => (HB8.out W' ((BX.out.mono (by omega)).trans h)).take _ (by omega)) (by omega) (by omega) (G8.out.past BX.out) (O8.out.kept BX.out) L6.out IB.out (by omega) (by omega) (by omega) (by omega) (by omega) (fun q hq => by have := (O5.out.2.1.lt q hq).1; have := (O5.out.2.1.lt q hq).2; refine ⟨?_, ?_, ?_, ?_, ?_⟩ <;> omega)).mono ?_; intro e w11 hd; rw [← HBL.out.len] at hd; obtain ⟨A5, n5, c5, l5, rfl, q1, q2, q3, q4, q5, q6, q7, q8, q9⟩ := put_after (O8.out.kept BX.out) (F8.out.kept BX.out) (by omega) (below_from BX.out B8.out B8.out.size) (by omega) HL.out.each RI.out HS.out rfl HSZ.out (by rw [HBL.out.len]; exact hm) hd; have Q1 := Lib.hid q1; have Q2 := Lib.hid q2; have Q3 := Lib.hid q3; have Q5 := Lib.hid q5; have Q6 := Lib.hid q6; have Q7 := Lib.hid q7; have Q9 := Lib.hid (fun w8 => q9 w8 (w.heap.size + 1 + 1) (by omega) (by omega)); have C11 := Lib.hid (q8 w5.heap.size _ (by omega) (fun hq => by have := (O5.out.2.1.lt _ hq).2; omega) (C8.out.past BX.out)); have R11 := Lib.hid ((R8.out.past BX.out).below q4 (by omega)); clear hd q1 q2 q3 q4 q5 q6 q7 q8 q9)
    clear hHeld
    refine hK.out _ _ (C11.out.cell 0) (fun hHeld => ?_)
    clear hK K
    try simp only [Act.put, List.setIfInBounds_toArray, List.set_cons_zero, List.set_cons_succ]
    iterate 2
      refine seg_take (v := ?_) (by simp only [List.getElem?_toArray, List.getElem?_cons_succ, List.getElem?_cons_zero]; rfl) (Or.inl ⟨by rfl, ?_⟩) ?_
      rotate_left 1
      · intro w hSw
        try dsimp only at hSw
        go_simp
        try with_reducible rfl
      try simp only [Act.put, List.setIfInBounds_toArray, List.set_cons_zero, List.set_cons_succ]
    refine seg_tail rfl ?_
    clear hHeld
    clear c8
    have r11c := R11.out.cell
    have r11f := R11.out.free
    have r11l := R11.out.lt
    go_wp2_with fail
    have gs := setCells_grown (w.heap.size + 1 + 1) [.slice A5 n5 c5, .int .i64 (calls + 1), .slice A3 fs.length c3] 0 w11
    refine bodyPost_ret (v := .tuple #[stV A5 n5 c5 (calls + 1) A3 fs.length c3, .int .i64 (doneE ft)]) (by simp [results, Try.results13, go_sem, r11c]) rfl ?_
    have bw := Q5.out.grown gs Q5.out.size (fun q hq => by injection hq with hq; omega)
    exact ⟨A5, n5, c5, l5, A3, fs.length, c3, rfl, Q1.out.apart gs (fun b off e e2 => by injection e2 with e2; have := Q6.out b off e; omega) (fun x hx => Q9.out _ gs x hx), Q2.out, Q3.out.apart gs (fun b off e e2 => by injection e2 with e2; have := Q7.out b off e; omega) (fun x hx => Q3.out.each x hx), bw⟩
  · have hn' : ¬ (1024 : Int) ≤ (n : Int) := by omega
    go_upto_region 9 with fail
    obtain ⟨W8, hW8⟩ : ∃ W8, W8 = (w7.alloc (.cells #[.int .i64 (i : Int)] 3)).alloc (.cells #[.bool false] 4) := ⟨_, rfl⟩
    have b8 : Below w7.heap.size w7 W8 := by rw [hW8]; exact (below_alloc1 w7 _).alloc (by simp) _
    have z8 : w7.heap.size + 2 ≤ W8.heap.size := by rw [hW8]; simp
    have I8 := Lib.hid (show Has W8 w7.heap.size #[.int .i64 (i : Int)] from by rw [hW8]; exact (Has.newAt w7 _ 3 rfl).alloc _)
    have T8 := Lib.hid (show Has W8 (w7.heap.size + 1) #[.bool false] from by rw [hW8]; exact Has.newAt _ _ 4 (by simp))
    have C8 := Lib.hid (C7.out.past b8)
    have N8 := Lib.hid (N7.out.past b8)
    have G8 := Lib.hid (G7.out.past b8)
    have O8 := Lib.hid (O7.out.kept b8)
    have F8 := Lib.hid (F7.out.kept b8)
    have R8 := Lib.hid (R7.out.past b8)
    have B8 := Lib.hid (below_from b8 B7.out B7.out.size)
    have HB8 := Lib.hid (fun W' (h : Below g W8 W') => HBL.out.below (B8.out.trans (h.mono (by omega))))
    rw [← hW8]
    clear hW8 b8 s8c
    have c8 := C8.out.cell
    refine region_seg (fun w' => w'.cell? ⟨w5.heap.size, 0, none⟩ = some (.pointer (some ⟨g, 0, none⟩))) 14 [(0, true), (1, true), (2, true), (4, true), (5, true), (6, true), (7, true), (8, true), (9, true), (3, false), (10, false), (11, false), (12, true), (13, true)] (by kernel_rfl) (by kernel_rfl) (by simp [go_sem, *]) (fun hHeld => ?_)
    iterate 9
      refine seg_take (v := ?_) (by simp only [List.getElem?_toArray, List.getElem?_cons_succ, List.getElem?_cons_zero]; rfl) (Or.inl ⟨by rfl, ?_⟩) ?_
      rotate_left 1
      · intro w hSw
        try dsimp only at hSw
        go_simp
        try with_reducible rfl
      try simp only [Act.put, List.setIfInBounds_toArray, List.set_cons_zero, List.set_cons_succ]
    refine seg_op (by simp only [List.getElem?_toArray, List.getElem?_cons_succ, List.getElem?_cons_zero]; rfl) (fun K hK => ?_)
    go_wp2_with (refine (mk_any Ab mb kb _ _ _ _ _).mono ?_; rintro e w9 ⟨rfl, hb9, h9⟩; have K9 := Lib.hid (show Has w9 W8.heap.size #[.slice Ab mb kb] from h9); have B9 := Lib.hid (show Below W8.heap.size W8 w9 from ((Below.refl _ W8).drew).trans hb9); have z9 : W8.heap.size ≤ w9.heap.size := hb9.size; have k9 := K9.out.lt; clear hb9 h9)
    clear hHeld
    refine hK.out _ _ ((C8.out.past B9.out).cell 0) (fun hHeld => ?_)
    clear hK K
    try simp only [Act.put, List.setIfInBounds_toArray, List.set_cons_zero, List.set_cons_succ]
    refine seg_op (by simp only [List.getElem?_toArray, List.getElem?_cons_succ, List.getElem?_cons_zero]; rfl) (fun K hK => ?_)
    go_wp2_with (refine (mk_any Ab (mb / 2) kb _ _ _ _ _).mono ?_; rintro e wx ⟨rfl, hb10, h10⟩; have K10 := Lib.hid h10; have KX := Lib.hid (K9.out.past hb10); have BX := Lib.hid (show Below W8.heap.size W8 wx from B9.out.trans (hb10.mono B9.out.size)); have z10 := hb10.size; have k10 := K10.out.lt; clear hb10 h10)
    clear hHeld
    refine hK.out _ _ ((C8.out.past BX.out).cell 0) (fun hHeld => ?_)
    clear hK K
    try simp only [Act.put, List.setIfInBounds_toArray, List.set_cons_zero, List.set_cons_succ]
    refine seg_op (by simp only [List.getElem?_toArray, List.getElem?_cons_succ, List.getElem?_cons_zero]; rfl) (fun K hK => ?_)
    go_wp2_with (refine (put_dn wx g (w7.heap.size + 1) w5.heap.size w7.heap.size (w.heap.size + 1) W8.heap.size w9.heap.size i A2 l.length c2 l (calls + 1) A3 fs.length c3 ft false s Ab mb (mb / 2) kb bl (bl.take (mb / 2)) (T8.out.past BX.out) (C8.out.past BX.out) (I8.out.past BX.out) (N8.out.past BX.out) KX.out K10.out (fun W' h => HB8.out W' ((BX.out.mono (by omega)).trans h)) (fun W' h => (HB8.out W' ((BX.out.mono (by omega)).trans h)).take _ (by omega)) (by omega) (by omega) (G8.out.past BX.out) (O8.out.kept BX.out) L6.out IB.out (by omega) (by omega) (by omega) (by omega) (by omega) (fun q hq => by have := (O5.out.2.1.lt q hq).1; have := (O5.out.2.1.lt q hq).2; refine ⟨?_, ?_, ?_, ?_, ?_⟩ <;> omega)).mono ?_; intro e w11 hd; rw [← HBL.out.len] at hd; obtain ⟨A5, n5, c5, l5, rfl, q1, q2, q3, q4, q5, q6, q7, q8, q9⟩ := put_after (O8.out.kept BX.out) (F8.out.kept BX.out) (by omega) (below_from BX.out B8.out B8.out.size) (by omega) HL.out.each RI.out HS.out rfl HSZ.out (by rw [HBL.out.len]; exact hm) hd; have Q1 := Lib.hid q1; have Q2 := Lib.hid q2; have Q3 := Lib.hid q3; have Q5 := Lib.hid q5; have Q6 := Lib.hid q6; have Q7 := Lib.hid q7; have Q9 := Lib.hid (fun w8 => q9 w8 (w.heap.size + 1 + 1) (by omega) (by omega)); have C11 := Lib.hid (q8 w5.heap.size _ (by omega) (fun hq => by have := (O5.out.2.1.lt _ hq).2; omega) (C8.out.past BX.out)); have R11 := Lib.hid ((R8.out.past BX.out).below q4 (by omega)); clear hd q1 q2 q3 q4 q5 q6 q7 q8 q9)
    clear hHeld
    refine hK.out _ _ (C11.out.cell 0) (fun hHeld => ?_)
    clear hK K
    try simp only [Act.put, List.setIfInBounds_toArray, List.set_cons_zero, List.set_cons_succ]
    iterate 2
      refine seg_take (v := ?_) (by simp only [List.getElem?_toArray, List.getElem?_cons_succ, List.getElem?_cons_zero]; rfl) (Or.inl ⟨by rfl, ?_⟩) ?_
      rotate_left 1
      · intro w hSw
        try dsimp only at hSw
        go_simp
        try with_reducible rfl
      try simp only [Act.put, List.setIfInBounds_toArray, List.set_cons_zero, List.set_cons_succ]
    refine seg_tail rfl ?_
    clear hHeld
    clear c8
    have r11c := R11.out.cell
    have r11f := R11.out.free
    have r11l := R11.out.lt
    go_wp2_with fail
    have gs := setCells_grown (w.heap.size + 1 + 1) [.slice A5 n5 c5, .int .i64 (calls + 1), .slice A3 fs.length c3] 0 w11
    refine bodyPost_ret (v := .tuple #[stV A5 n5 c5 (calls + 1) A3 fs.length c3, .int .i64 (doneE ft)]) (by simp [results, Try.results13, go_sem, r11c]) rfl ?_
    have bw := Q5.out.grown gs Q5.out.size (fun q hq => by injection hq with hq; omega)
    exact ⟨A5, n5, c5, l5, A3, fs.length, c3, rfl, Q1.out.apart gs (fun b off e e2 => by injection e2 with e2; have := Q6.out b off e; omega) (fun x hx => Q9.out _ gs x hx), Q2.out, Q3.out.apart gs (fun b off e e2 => by injection e2 with e2; have := Q7.out b off e; omega) (fun x hx => Q3.out.each x hx), bw⟩

end Go.Proofs.Ytnnmppnbkplamaa
