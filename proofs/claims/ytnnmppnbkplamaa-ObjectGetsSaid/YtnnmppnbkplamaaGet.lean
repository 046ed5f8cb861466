/- Get, of the program. -/
import Derived.Test.YtnnmppnbkplamaaDelF
namespace Go.Proofs.Ytnnmppnbkplamaa
open Go.RowKit Go.Shelf

/-- A call that hands back a store and bytes. -/
def S3Res (L' : List Oc) (calls' : Int) (fs' : List Ft) (bs : List UInt8) (E : Int) (w : World) (e : Ending) (w' : World) : Prop :=
  ∃ A n c l' A' n' c' Ab nb cb, e = .returned (.tuple #[stV A n c calls' A' n' c', .slice Ab nb cb, .int .i64 E]) ∧ Obs w' A n c l' ∧ l'.map Ob.val = L' ∧ Fts w' A' n' c' fs' ∧ Sl u8K w' Ab nb cb bs ∧ nb ≤ 140737488355328 ∧ Below w.heap.size w w'
def findO (s : ByteArray) (L : List Oc) : Option Oc := L.find? fun x => decide (x.name = s)
/-- Bytes of which the middle one was turned. -/
def torn (b : List UInt8) : List UInt8 := b.modify (b.length / 2) fun x => x ^^^ 255
def getBs (L : List Oc) (s : ByteArray) (ft : Int) : List UInt8 := if ft = 1 ∨ ft = 2 then [] else ((findO s L).map fun o => if ft = 3 then torn o.bs else o.bs).getD []
def getE (L : List Oc) (s : ByteArray) (ft : Int) : Int := if ft = 1 ∨ ft = 2 then 140 else if (findO s L).isSome then 0 else 141

theorem xor_byte (y : UInt8) : bits .xor .u8 (y.toNat : Int) 255 = ((y ^^^ 255).toNat : Int) := by
  have h : ∀ n : Fin 256, bits .xor .u8 ((n.val : Nat) : Int) 255 = ((UInt8.ofNat n.val ^^^ 255).toNat : Int) := by decide +kernel
  have := h ⟨y.toNat, y.toNat_lt⟩
  simpa using this
theorem torn_cells (b : List UInt8) (y : UInt8) (h : b[b.length / 2]? = some y) : (b.flatMap u8K.cells).set (b.length / 2) (.int .u8 (bits .xor .u8 (y.toNat : Int) 255)) = (torn b).flatMap u8K.cells := by
  have m : ∀ l : List UInt8, l.flatMap u8K.cells = l.map byteV := by
    intro l
    induction l with
    | nil => rfl
    | cons a l ih => rw [List.flatMap_cons, ih]; rfl
  rw [m, m, xor_byte]
  unfold torn
  apply List.ext_getElem?
  intro i
  rw [List.getElem?_set, List.getElem?_map, List.getElem?_map, List.getElem?_modify]
  by_cases hi : b.length / 2 = i
  · subst hi
    rw [if_pos rfl, h, if_pos (by rw [List.length_map]; exact (List.getElem?_eq_some_iff.1 h).1)]
    simp [byteV]
  · rw [if_neg hi]
    simp [hi]

theorem at_find {l : List Ob} {s : ByteArray} {i : Nat} {b : Bool} (hr : Rises l) (h : AtR l s i b) : (b = true → ∃ hi : i < l.length, findO s (l.map Ob.val) = some l[i].val) ∧ (b = false → findO s (l.map Ob.val) = none) := by
  obtain ⟨h1, h2, h3, h4⟩ := h
  replace h2 : ∀ j (h : j < l.length), j < i → cmpS l[j].name s < 0 := h2
  replace h3 : ∀ j (h : j < l.length), i ≤ j → 0 ≤ cmpS l[j].name s := h3
  replace h4 : b = true ↔ ∃ h : i < l.length, cmpS l[i].name s = 0 := h4
  constructor
  · intro hb
    obtain ⟨hi, h0⟩ := h4.1 hb
    refine ⟨hi, ?_⟩
    unfold findO
    rw [List.find?_eq_some_iff_getElem]
    refine ⟨decide_eq_true (cmpS_eq.1 h0), i, by rw [List.length_map]; exact hi, by rw [List.getElem_map], fun j hj => ?_⟩
    have hne : ¬ l[j].name = s := fun e => by
      have := h2 j (by omega) hj
      rw [cmpS_eq.2 e] at this
      omega
    rw [List.getElem_map]
    show (!decide (l[j].name = s)) = true
    rw [decide_eq_false hne]; rfl
  · intro hb
    unfold findO
    rw [List.find?_eq_none]
    intro x hx
    obtain ⟨y, hy, rfl⟩ := List.mem_map.1 hx
    obtain ⟨j, hj, rfl⟩ := List.getElem_of_mem hy
    have hne : ¬ l[j].name = s := fun e => by
      have h0 : cmpS l[j].name s = 0 := cmpS_eq.2 e
      rcases Nat.lt_or_ge j i with h | h
      · have := h2 j hj h; omega
      · rcases Nat.lt_or_ge i j with h5 | h5
        · have h6 := hr i j hj h5
          rw [e] at h6
          have := h3 i (by omega) (Nat.le_refl _)
          omega
        · obtain rfl : j = i := by omega
          have := h4.2 ⟨hj, h0⟩
          rw [hb] at this
          cases this
    show ¬ decide (l[j].name = s) = true
    rw [decide_eq_false hne]; decide

set_option maxRecDepth 100000 in
set_option maxHeartbeats 4000000 in
theorem get_out (A : Option Addr) (n c : Nat) (l : List Ob) (calls : Int) (A' : Option Addr) (n' c' : Nat) (fs : List Ft) (s : ByteArray) (w : World) (hl : Obs w A n c l) (hf : Fts w A' n' c' fs) (he : mayE (checkO (l.map Ob.val) calls fs) (nameC s) ≠ 0) :
    Calls Try.prog 20 #[stV A n c calls A' n' c', .string s] w (S3Res [] 0 [] [] (mayE (checkO (l.map Ob.val) calls fs) (nameC s)) w) := by
  obtain ⟨W3, hW3⟩ : ∃ W3, W3 = (w.alloc (.cells #[.slice A n c, .int .i64 calls, .slice A' n' c'] 25)).alloc (.cells #[.slice none 0 0, .int .i64 0, .slice none 0 0] 25) := ⟨_, rfl⟩
  have B3 := Lib.hid (show Below w.heap.size w W3 from by rw [hW3]; exact ((Below.refl _ w).alloc (Nat.le_refl _) _).alloc (by simp) _)
  have z3 : W3.heap.size = w.heap.size + 2 := by rw [hW3]; simp
  have S3 := Lib.hid (show Has W3 w.heap.size #[.slice A n c, .int .i64 calls, .slice A' n' c'] from by rw [hW3]; exact (Has.newAt w _ 25 rfl).alloc _)
  have R3 := Lib.hid (show Has W3 (w.heap.size + 1) #[.slice none 0 0, .int .i64 0, .slice none 0 0] from by rw [hW3]; exact Has.newAt _ _ 25 (by simp))
  have NM := Lib.hid (fun w' (_ : Below W3.heap.size W3 w') => name_any s w')
  have MY := Lib.hid (fun w' (hb : Below W3.heap.size W3 w') => may_any A n c l calls A' n' c' fs (nameC s) w' (hl.below (below_from hb B3.out B3.out.size)) (hf.below (below_from hb B3.out B3.out.size)))
  have r0 := at_regrown (a := ⟨w.heap.size, 0, none⟩) (v := .slice A n c) (S3.out.cell 0)
  have r1 := at_regrown (a := ⟨w.heap.size, 1, none⟩) (v := .int .i64 calls) (S3.out.cell 1)
  have r2 := at_regrown (a := ⟨w.heap.size, 2, none⟩) (v := .slice A' n' c') (S3.out.cell 2)
  generalize mayE (checkO (l.map Ob.val) calls fs) (nameC s) = E at MY he ⊢
  have HW3 := Lib.hid hW3
  clear hl hf hW3
  have n0 : (E == 0) = false := by rw [beq_eq_false_iff_ne]; exact he
  have m0 : decide (E = 0) = false := decide_eq_false he
  go_enter Try.func20, Try.ntmps20
  go_wp2_with fail
  rw [← HW3.out]
  refine region_below (by kernel_rfl) (by kernel_rfl) ?_
  repeat (go_big_quiet_step (first | (go_at_call 29; exact call_regrown NM.out) | (go_at_call 28; exact call_regrown MY.out)))
  refine wpQuiet_nil ?_
  intro w4 hb4
  have B4 := Lib.hid (below_from hb4 B3.out B3.out.size)
  have z4 := hb4.size
  have S4 := Lib.hid (S3.out.past hb4)
  have R4 := Lib.hid (R3.out.past hb4)
  have r4c := R4.out.cell
  have r4f := R4.out.free
  have r4l := R4.out.lt
  clear hb4 r0 r1 r2
  go_wp2_with fail
  have gs := setCells_grown (w.heap.size + 1) [.slice none 0 0, .int .i64 0, .slice none 0 0] 0 w4
  refine bodyPost_ret (v := .tuple #[stV none 0 0 0 none 0 0, .slice none 0 0, .int .i64 E]) (by simp [results, Try.results20, go_sem, r4c]) rfl ?_
  exact ⟨none, 0, 0, [], none, 0, 0, none, 0, 0, rfl, Sl.nil _ _, rfl, Sl.nil _ _, Sl.nil _ _, Nat.zero_le _, B4.out.grown gs B4.out.size (fun q hq => by injection hq with hq; omega)⟩


set_option maxRecDepth 100000 in
set_option maxHeartbeats 8000000 in
theorem get_ok (A : Option Addr) (n c : Nat) (l : List Ob) (calls : Int) (A' : Option Addr) (n' c' : Nat) (fs : List Ft) (s : ByteArray) (w : World) (hl : Obs w A n c l) (hf : Fts w A' n' c' fs) (he : mayE (checkO (l.map Ob.val) calls fs) (nameC s) = 0) :
    Calls Try.prog 20 #[stV A n c calls A' n' c', .string s] w (S3Res (l.map Ob.val) (calls + 1) fs (getBs (l.map Ob.val) s (faultC calls fs)) (getE (l.map Ob.val) s (faultC calls fs)) w) := by
  obtain ⟨h1, h2, h3, h4, h5, h6, _⟩ := check_ok (may_ok he).1
  rw [hl.len] at h1
  rw [hf.len] at h2
  obtain ⟨W3, hW3⟩ : ∃ W3, W3 = (w.alloc (.cells #[.slice A n c, .int .i64 calls, .slice A' n' c'] 25)).alloc (.cells #[.slice none 0 0, .int .i64 0, .slice none 0 0] 25) := ⟨_, rfl⟩
  have B3 := Lib.hid (show Below w.heap.size w W3 from by rw [hW3]; exact ((Below.refl _ w).alloc (Nat.le_refl _) _).alloc (by simp) _)
  have z3 : W3.heap.size = w.heap.size + 2 := by rw [hW3]; simp
  have S3 := Lib.hid (show Has W3 w.heap.size #[.slice A n c, .int .i64 calls, .slice A' n' c'] from by rw [hW3]; exact (Has.newAt w _ 25 rfl).alloc _)
  have R3 := Lib.hid (show Has W3 (w.heap.size + 1) #[.slice none 0 0, .int .i64 0, .slice none 0 0] from by rw [hW3]; exact Has.newAt _ _ 25 (by simp))
  have NM := Lib.hid (fun w' (_ : Below W3.heap.size W3 w') => name_any s w')
  have MY := Lib.hid (fun w' (hb : Below W3.heap.size W3 w') => (show Calls Try.prog 28 #[stV A n c calls A' n' c', .bool (nameC s)] w' fun e w'' => e = .returned (.int .i64 0) ∧ Below w'.heap.size w' w'' from by
    have := may_any A n c l calls A' n' c' fs (nameC s) w' (hl.below (below_from hb B3.out B3.out.size)) (hf.below (below_from hb B3.out B3.out.size))
    rw [he] at this
    exact this))
  have BG := Lib.hid (fun w' (hb : Below w.heap.size w w') => begin_any A n c l calls A' n' c' fs w' (hl.below hb) (hf.below hb) h1 h2 h3 h4)
  have r0 := at_regrown (a := ⟨w.heap.size, 0, none⟩) (v := .slice A n c) (S3.out.cell 0)
  have r1 := at_regrown (a := ⟨w.heap.size, 1, none⟩) (v := .int .i64 calls) (S3.out.cell 1)
  have r2 := at_regrown (a := ⟨w.heap.size, 2, none⟩) (v := .slice A' n' c') (S3.out.cell 2)
  obtain ⟨ft, hft⟩ : ∃ ft, ft = faultC calls fs := ⟨_, rfl⟩
  rw [← hft] at BG ⊢
  have HW3 := Lib.hid hW3
  have RI := Lib.hid h5
  have LB := Lib.hid h6
  have HL := Lib.hid hl
  have L6 : Hid (l.length ≤ 60000) := Lib.hid (by rw [hl.len]; omega)
  clear hl hf hW3 he hft h1 h2 h3 h4 h5 h6
  go_enter Try.func20, Try.ntmps20
  go_wp2_with fail
  rw [← HW3.out]
  refine region_below (by kernel_rfl) (by kernel_rfl) ?_
  repeat (go_big_quiet_step (first | (go_at_call 29; exact call_regrown NM.out) | (go_at_call 28; exact call_regrown MY.out)))
  refine wpQuiet_nil ?_
  intro w4 hb4
  have B4 := Lib.hid (below_from hb4 B3.out B3.out.size)
  have z4 := hb4.size
  have S4 := Lib.hid (S3.out.past hb4)
  have R4 := Lib.hid (R3.out.past hb4)
  have s4c := S4.out.cell
  have s4l := S4.out.lt
  clear hb4 r0 r1 r2
  by_cases f1 : ft = 1
  · subst f1
    go_wp2_with (go_at_call 30; refine (BG.out _ B4.out).mono ?_; intro e w5 hx; obtain ⟨g, A2, c2, A3, c3, rfl, hge, hG, hO, hF, hb5⟩ := hx; have B5 := Lib.hid (below_from hb5 B4.out B4.out.size); have z5 := hb5.size; have R5 := Lib.hid (R4.out.past hb5); have G5 := Lib.hid hG; have O5 := Lib.hid hO; have F5 := Lib.hid hF; have g5l := hG.lt; have g5c := G5.out.cell; have r5c := R5.out.cell; have r5f := R5.out.free; have r5l := R5.out.lt; clear hb5 hG hO hF s4c s4l)
    have gs := setCells_grown (w.heap.size + 1) [.slice A2 l.length c2, .int .i64 (calls + 1), .slice A3 fs.length c3] 0 w5
    refine bodyPost_ret (v := .tuple #[stV A2 l.length c2 (calls + 1) A3 fs.length c3, .slice none 0 0, .int .i64 140]) (by simp [results, Try.results20, go_sem, r5c]) rfl ?_
    have bw8 := B5.out.grown gs B5.out.size (fun q hq => by injection hq with hq; omega)
    exact ⟨A2, l.length, c2, l, A3, fs.length, c3, none, 0, 0, rfl, (O5.out.grown gs (by omega) (fun x hx => (HL.out.each x hx).below bw8)).sl, rfl, (F5.out.grown gs (by omega) (fun x hx => F5.out.2.2 x hx)).sl, Sl.nil _ _, Nat.zero_le _, bw8⟩
  · have n1 : (ft == 1) = false := by rw [beq_eq_false_iff_ne]; exact f1
    have m1 : decide (ft = 1) = false := decide_eq_false f1
    by_cases f2 : ft = 2
    · subst f2
      go_wp2_with (go_at_call 30; refine (BG.out _ B4.out).mono ?_; intro e w5 hx; obtain ⟨g, A2, c2, A3, c3, rfl, hge, hG, hO, hF, hb5⟩ := hx; have B5 := Lib.hid (below_from hb5 B4.out B4.out.size); have z5 := hb5.size; have R5 := Lib.hid (R4.out.past hb5); have G5 := Lib.hid hG; have O5 := Lib.hid hO; have F5 := Lib.hid hF; have g5l := hG.lt; have g5c := G5.out.cell; have r5c := R5.out.cell; have r5f := R5.out.free; have r5l := R5.out.lt; clear hb5 hG hO hF s4c s4l)
      have gs := setCells_grown (w.heap.size + 1) [.slice A2 l.length c2, .int .i64 (calls + 1), .slice A3 fs.length c3] 0 w5
      refine bodyPost_ret (v := .tuple #[stV A2 l.length c2 (calls + 1) A3 fs.length c3, .slice none 0 0, .int .i64 140]) (by simp [results, Try.results20, go_sem, r5c]) rfl ?_
      have bw8 := B5.out.grown gs B5.out.size (fun q hq => by injection hq with hq; omega)
      exact ⟨A2, l.length, c2, l, A3, fs.length, c3, none, 0, 0, rfl, (O5.out.grown gs (by omega) (fun x hx => (HL.out.each x hx).below bw8)).sl, rfl, (F5.out.grown gs (by omega) (fun x hx => F5.out.2.2 x hx)).sl, Sl.nil _ _, Nat.zero_le _, bw8⟩
    · have n2 : (ft == 2) = false := by rw [beq_eq_false_iff_ne]; exact f2
      have m2 : decide (ft = 2) = false := decide_eq_false f2
      have N12 := Lib.hid (show ¬ (ft = 1 ∨ ft = 2) from fun h => by rcases h with h | h; exact f1 h; exact f2 h)
      clear f1 f2
      go_wp2_with (go_at_call 30; refine (BG.out _ B4.out).mono ?_; intro e w5 hx; obtain ⟨g, A2, c2, A3, c3, rfl, hge, hG, hO, hF, hb5⟩ := hx; have B5 := Lib.hid (below_from hb5 B4.out B4.out.size); have z5 := hb5.size; have R5 := Lib.hid (R4.out.past hb5); have G5 := Lib.hid hG; have O5 := Lib.hid hO; have F5 := Lib.hid hF; have g5l := hG.lt; have g5c := G5.out.cell; have r5c := R5.out.cell; have r5f := R5.out.free; have r5l := R5.out.lt; clear hb5 hG hO hF s4c s4l)
      refine (at_any A2 l.length c2 l (calls + 1) A3 fs.length c3 ft g s w5 G5.out O5.out.sl L6.out RI.out).mono ?_
      rintro e w6 ⟨i, b, rfl, hs, hb6⟩
      have HS := Lib.hid hs
      have B6 := Lib.hid (below_from hb6 B5.out B5.out.size)
      have z6 := hb6.size
      have R6 := Lib.hid (R5.out.past hb6)
      have G6 := Lib.hid (G5.out.past hb6)
      have O6 := Lib.hid (O5.out.kept hb6)
      have F6 := Lib.hid (F5.out.kept hb6)
      have g6c := G6.out.cell
      have g6l := G6.out.lt
      have r6c := R6.out.cell
      have r6f := R6.out.free
      have r6l := R6.out.lt
      clear hs hb6 g5c r5c r5f r5l
      cases b with
      | false =>
        have FN := Lib.hid ((at_find RI.out HS.out).2 rfl)
        go_wp2_with fail
        have gs := setCells_grown (w.heap.size + 1) [.slice A2 l.length c2, .int .i64 (calls + 1), .slice A3 fs.length c3] 0 w6
        refine bodyPost_ret (v := .tuple #[stV A2 l.length c2 (calls + 1) A3 fs.length c3, .slice none 0 0, .int .i64 141]) (by simp [results, Try.results20, go_sem, r6c]) rfl ?_
        have bw8 := B6.out.grown gs B6.out.size (fun q hq => by injection hq with hq; omega)
        have v1 : getBs (l.map Ob.val) s ft = [] := by unfold getBs; rw [if_neg N12.out, FN.out]; rfl
        have v2 : getE (l.map Ob.val) s ft = 141 := by unfold getE; rw [if_neg N12.out, FN.out]; rfl
        rw [v1, v2]
        exact ⟨A2, l.length, c2, l, A3, fs.length, c3, none, 0, 0, rfl, (O6.out.grown gs (by omega) (fun x hx => (HL.out.each x hx).below bw8)).sl, rfl, (F6.out.grown gs (by omega) (fun x hx => F6.out.2.2 x hx)).sl, Sl.nil _ _, Nat.zero_le _, bw8⟩
      | true =>
        obtain ⟨hil, hfo⟩ := (at_find RI.out HS.out).1 rfl
        obtain ⟨ba, oa, hkl, rfl, hbl, x0, x1⟩ := Obs.at_ O6.out.sl hil
        have XI := Lib.hid (show Ob.In w l[i] from HL.out.each l[i] (List.getElem_mem hil))
        have ii : (i : Int) < (l.length : Int) := by omega
        obtain ⟨x, hx⟩ : ∃ x, l[i] = x := ⟨_, rfl⟩
        rw [hx] at hfo x0 x1 XI
        have FO := Lib.hid hfo
        clear hx hkl hfo
        obtain ⟨nm, xA, xn, xc, xb⟩ := x
        have hxl : xb.length = xn := XI.out.sl.len
        have hxm : xn ≤ 140737488355328 := XI.out.max
        have XL := Lib.hid hxl
        simp only at x0 x1
        have CL := Lib.hid (cloneBs xA xn xc xb w6 (XI.out.sl.below B6.out) (by omega))
        clear hxl
        go_wp2_with fail
        refine CL.out.mono ?_
        intro e w7 hx
        obtain ⟨A9, c9, rfl, hO9, hb7⟩ := hx
        have B7 := Lib.hid (below_from hb7 B6.out B6.out.size)
        have z7 := hb7.size
        have R7 := Lib.hid (R6.out.past hb7)
        have G7 := Lib.hid (G6.out.past hb7)
        have O7 := Lib.hid (O6.out.kept hb7)
        have F7 := Lib.hid (F6.out.kept hb7)
        have O9 := Lib.hid hO9
        have g7c := G7.out.cell
        have g7l := G7.out.lt
        have r7c := R7.out.cell
        have r7f := R7.out.free
        have r7l := R7.out.lt
        clear hO9 hb7 g6c g6l r6c r6f r6l x0 x1
        by_cases hT : ft = 3 ∧ 0 < xn
        · obtain ⟨rfl, hx0⟩ := hT
          obtain ⟨q, cur, rfl, hqB, hql, hqh, hnc, hcm, hcs, htk⟩ := owns_open O9.out.2.1 hx0
          have hk : xn / 2 < xn := by omega
          obtain ⟨q', o', hxk, e1, _, y0⟩ := O9.out.sl.get hk
          injection e1 with e1
          injection e1 with e1 e2
          subst e1 e2
          have y1 := y0 0 (by decide)
          rw [show 0 + xn / 2 * u8K.size + 0 = xn / 2 by show 0 + xn / 2 * 1 + 0 = _; omega] at y1
          have yf := row_free hqh (xn / 2)
          have yl := hql
          obtain ⟨y, hy⟩ : ∃ y, xb[xn / 2] = y := ⟨_, rfl⟩
          rw [hy] at y1
          replace y1 : w7.cell? ⟨q, xn / 2, none⟩ = some (.int .u8 (y.toNat : Int)) := y1
          have HY := Lib.hid (show xb[xn / 2]? = some y from by rw [List.getElem?_eq_getElem hxk, hy])
          clear hy hxk y0
          have pos : decide ((0 : Int) < (xn : Int)) = true := decide_eq_true (by omega)
          go_wp2_with fail
          obtain ⟨W8, hW8⟩ : ∃ W8, W8 = w7.setCell ⟨q, xn / 2, none⟩ (.int .u8 (bits .xor .u8 (y.toNat : Int) 255)) := ⟨_, rfl⟩
          have gq := setCells_grown q [.int .u8 (bits .xor .u8 (y.toNat : Int) 255)] (xn / 2) w7
          replace gq : w7.grownBy W8 (some q) := by rw [hW8]; exact gq
          have hq6 : w6.heap.size ≤ q := hqB
          have B8 := Lib.hid (B7.out.grown gq B7.out.size (fun k hk => by injection hk with hk; omega))
          have R8 := Lib.hid (R7.out.grown gq (by omega))
          have r8c := R8.out.cell
          have r8l := R8.out.lt
          have T8 : Hid (Own u8K 5 W8 w6.heap.size (some ⟨q, 0, none⟩) xn c9 (torn xb)) := by
            have hcs' : cur.size = c9 * 1 := hcs
            have tc := torn_cells xb y (by rw [XL.out]; exact HY.out)
            rw [XL.out] at tc
            have hh := setCell_heap hqh (by rw [hcs']; omega) (.int .u8 (bits .xor .u8 (y.toNat : Int) 255)) (o := xn / 2)
            rw [← hW8] at hh
            refine ⟨by unfold torn; rw [List.length_modify]; exact XL.out, owns_mk hqB hh hnc hcm (by rw [Array.size_setIfInBounds]; exact hcs) ?_, fun _ _ => trivial⟩
            rw [Array.toList_setIfInBounds, List.take_set, htk, tc]
          have O8 := Lib.hid (O7.out.apart gq (by intro e; have := (O6.out.2.1.lt q (by rw [← e])).2; omega) (fun x hx => (HL.out.each x hx).below B8.out))
          have F8 := Lib.hid (F7.out.apart gq (by intro e; have := (F6.out.2.1.lt q e).2; omega) (fun x hx => F7.out.2.2 x hx))
          rw [← hW8]
          clear hW8
          have gs := setCells_grown (w.heap.size + 1) [.slice (some ⟨ba, oa, none⟩) l.length c2, .int .i64 (calls + 1), .slice A3 fs.length c3] 0 W8
          have bw8 := B8.out.grown gs B8.out.size (fun k hk => by injection hk with hk; omega)
          refine bodyPost_ret (v := .tuple #[stV (some ⟨ba, oa, none⟩) l.length c2 (calls + 1) A3 fs.length c3, .slice (some ⟨q, 0, none⟩) xn c9, .int .i64 0]) (by simp [results, Try.results20, go_sem, r8c]) rfl ?_
          have v2 : getE (l.map Ob.val) s 3 = 0 := by unfold getE; rw [if_neg (by decide), FO.out]; rfl
          have v1 : getBs (l.map Ob.val) s 3 = torn xb := by unfold getBs; rw [if_neg (by decide), FO.out]; rfl
          rw [v1, v2]
          exact ⟨_, l.length, c2, l, A3, fs.length, c3, some ⟨q, 0, none⟩, _, c9, rfl, (O8.out.grown gs (by omega) (fun x hx => (HL.out.each x hx).below bw8)).sl, rfl, (F8.out.grown gs (by omega) (fun x hx => F8.out.2.2 x hx)).sl, (T8.out.grown gs (by omega) (fun _ _ => trivial)).sl, by omega, bw8⟩
        · have pos : ft = 3 → xn = 0 := fun h => by
            rcases Nat.eq_zero_or_pos xn with h0 | h0
            · exact h0
            · exact absurd ⟨h, h0⟩ hT
          have v1 : Hid (getBs (l.map Ob.val) s ft = xb) := Lib.hid (by
            unfold getBs
            rw [if_neg N12.out, FO.out]
            show (if ft = 3 then torn xb else xb) = xb
            split
            · rename_i h
              have hx0 : xb = [] := List.length_eq_zero_iff.1 (XL.out.trans (pos h))
              rw [hx0]; rfl
            · rfl)
          by_cases f3 : ft = 3
          · obtain rfl : xn = 0 := pos f3
            subst f3
            clear hT pos
            go_wp2_with fail
            have gs := setCells_grown (w.heap.size + 1) [.slice (some ⟨ba, oa, none⟩) l.length c2, .int .i64 (calls + 1), .slice A3 fs.length c3] 0 w7
            have bw8 := B7.out.grown gs B7.out.size (fun q hq => by injection hq with hq; omega)
            refine bodyPost_ret (v := .tuple #[stV (some ⟨ba, oa, none⟩) l.length c2 (calls + 1) A3 fs.length c3, .slice A9 0 c9, .int .i64 0]) (by simp [results, Try.results20, go_sem, r7c]) rfl ?_
            have v2 : getE (l.map Ob.val) s 3 = 0 := by unfold getE; rw [if_neg N12.out, FO.out]; rfl
            rw [v2]
            rw [v1.out]
            exact ⟨_, l.length, c2, l, A3, fs.length, c3, A9, _, c9, rfl, (O7.out.grown gs (by omega) (fun x hx => (HL.out.each x hx).below bw8)).sl, rfl, (F7.out.grown gs (by omega) (fun x hx => F7.out.2.2 x hx)).sl, (O9.out.grown gs (by omega) (fun _ _ => trivial)).sl, by omega, bw8⟩
          · have n3 : (ft == 3) = false := by rw [beq_eq_false_iff_ne]; exact f3
            have m3 : decide (ft = 3) = false := decide_eq_false f3
            clear hT pos f3
            go_wp2_with fail
            have gs := setCells_grown (w.heap.size + 1) [.slice (some ⟨ba, oa, none⟩) l.length c2, .int .i64 (calls + 1), .slice A3 fs.length c3] 0 w7
            have bw8 := B7.out.grown gs B7.out.size (fun q hq => by injection hq with hq; omega)
            refine bodyPost_ret (v := .tuple #[stV (some ⟨ba, oa, none⟩) l.length c2 (calls + 1) A3 fs.length c3, .slice A9 xn c9, .int .i64 0]) (by simp [results, Try.results20, go_sem, r7c]) rfl ?_
            have v2 : getE (l.map Ob.val) s ft = 0 := by unfold getE; rw [if_neg N12.out, FO.out]; rfl
            rw [v2]
            rw [v1.out]
            exact ⟨_, l.length, c2, l, A3, fs.length, c3, A9, _, c9, rfl, (O7.out.grown gs (by omega) (fun x hx => (HL.out.each x hx).below bw8)).sl, rfl, (F7.out.grown gs (by omega) (fun x hx => F7.out.2.2 x hx)).sl, (O9.out.grown gs (by omega) (fun _ _ => trivial)).sl, by omega, bw8⟩

end Go.Proofs.Ytnnmppnbkplamaa
