/- The small functions: ends, orders, slips; the closures. -/
import Derived.Test.YtmlgahambecamaaLeaf
import Derived.Test.YtmlgahambecamaaSeg
import Derived.Test.YtmlgahambecamaaFork
namespace Go.Proofs.Ytmlgahambecamaa
open Go.RowKit Go.Shelf

def ordM (x y : Mv) : Int := orI (cmpI x.t y.t) (cmpI x.no y.no)
def ordPr (x y : Pr) : Int := orI (cmpI x.a y.a) (cmpI x.b y.b)
theorem cmpI_wf (a b : Int) : (Lit.int .i64 (cmpI a b)).wf = true := by unfold cmpI; (repeat' split) <;> decide
theorem ordM_orL (x y : Mv) : ordM x y = orL [cmpI x.t y.t, cmpI x.no y.no] := by
  unfold ordM orL orL orL orI
  (repeat' split) <;> first | rfl | omega | simp_all
theorem ordM_ahead (x y : Mv) : (ordM x y ≤ 0) ↔ aheadB x y = true := by
  unfold ordM orI cmpI aheadB
  simp only [Bool.or_eq_true, Bool.and_eq_true, decide_eq_true_eq]
  (repeat' split) <;> omega
theorem ordPr_lt (x y : Pr) : (ordPr x y < 0) ↔ ltP x y = true := by
  unfold ordPr orI cmpI ltP
  simp only [Bool.or_eq_true, Bool.and_eq_true, decide_eq_true_eq]
  (repeat' split) <;> omega
theorem ordPr_zero (x y : Pr) : ordPr x y = 0 ↔ x = y := by
  obtain ⟨a, b⟩ := x
  obtain ⟨c, d⟩ := y
  unfold ordPr orI cmpI
  simp only [Pr.mk.injEq]
  (repeat' split) <;> omega
theorem int_row {w : World} {g n : Nat} {l : List Int} (h : Has w g (l.map (Value.int .i64)).toArray) (hn : l.length = n) (hm : n ≤ 9223372036854775807) (hw : ∀ a ∈ l, (Lit.int .i64 a).wf = true) : Sl intK w (some ⟨g, 0, none⟩) n n l :=
  ⟨hn, Nat.le_refl _, hm, fun e => (by cases e), by rw [flat_int]; simpa using Row.of_has h, hw⟩

/-- Whether a number is one of an end. -/
theorem end_any (o : Nt) (a : Int) (w : World) : Calls Try.prog 40 #[o.v, .int .i64 a] w fun e w' => e = .returned (.bool (endB o.Kn a)) ∧ Below w.heap.size w w' := by
  unfold endB
  have B0 := Lib.hid (below_alloc1 w (.cells #[.int .i64 o.now, .int .i64 o.next, .slice o.LA o.Ln o.Lc, .slice o.SA o.Sn o.Sc, .slice o.CA o.Cn o.Cc, .slice o.KA o.Kn o.Kc] 27))
  by_cases h1 : 0 ≤ a
  · have d1 : decide (0 ≤ a) = true := decide_eq_true h1
    rw [d1]
    go_enter Try.func40, Try.ntmps40
    go_wp2_with fail
    go_ret
    exact ⟨ret_bool (by first | rfl | simp), B0.out⟩
  · have d1 : decide (0 ≤ a) = false := decide_eq_false h1
    rw [d1]
    go_enter Try.func40, Try.ntmps40
    go_wp2_with fail
    go_ret
    exact ⟨ret_bool (by first | rfl | simp), B0.out⟩

/-- Whether a message stands ahead of another one, or beside it. -/
theorem ahead_any (x y : Mg) (w : World) : Calls Try.prog 41 #[x.v, y.v] w fun e w' => e = .returned (.bool (aheadB x.val y.val)) ∧ Below w.heap.size w w' := by
  unfold aheadB Mg.val
  have B0 := Lib.hid (show Below w.heap.size w ((w.alloc (.cells #[.int .i64 x.t, .int .i64 x.no, .int .i64 x.frm, .int .i64 x.dst, .slice x.A x.n x.c] 40)).alloc (.cells #[.int .i64 y.t, .int .i64 y.no, .int .i64 y.frm, .int .i64 y.dst, .slice y.A y.n y.c] 40)) from ((Below.refl _ w).alloc (Nat.le_refl _) _).alloc (by simp) _)
  by_cases h1 : x.t < y.t
  · have d1 : decide (x.t < y.t) = true := decide_eq_true h1
    simp only [d1, Bool.true_or]
    clear h1
    go_enter Try.func41, Try.ntmps41
    go_wp2_with fail
    go_ret
    exact ⟨ret_bool (by first | rfl | simp), B0.out⟩
  · have d1 : decide (x.t < y.t) = false := decide_eq_false h1
    simp only [d1, Bool.false_or]
    clear h1
    by_cases h2 : x.t = y.t
    · have d2 : decide (x.t = y.t) = true := decide_eq_true h2
      have d3 : (x.t == y.t) = true := by rw [beq_iff_eq]; exact h2
      simp only [d2, Bool.true_and]
      clear h2
      go_enter Try.func41, Try.ntmps41
      go_wp2_with fail
      go_ret
      exact ⟨ret_bool (by first | rfl | simp), B0.out⟩
    · have d2 : decide (x.t = y.t) = false := decide_eq_false h2
      have d3 : (x.t == y.t) = false := by rw [beq_eq_false_iff_ne]; exact h2
      simp only [d2, Bool.false_and]
      clear h2
      go_enter Try.func41, Try.ntmps41
      go_wp2_with fail
      go_ret
      exact ⟨ret_bool (by first | rfl | simp), B0.out⟩

set_option maxRecDepth 100000 in
set_option maxHeartbeats 4000000 in
/-- How two messages stand. -/
theorem order_any (x y : Mg) (w : World) : Calls Try.prog 38 #[x.v, y.v] w fun e w' => e = .returned (.int .i64 (ordM x.val y.val)) ∧ Below w.heap.size w w' := by
  rw [ordM_orL]
  unfold Mg.val
  have B0 := Lib.hid (show Below w.heap.size w ((w.alloc (.cells #[.int .i64 x.t, .int .i64 x.no, .int .i64 x.frm, .int .i64 x.dst, .slice x.A x.n x.c] 40)).alloc (.cells #[.int .i64 y.t, .int .i64 y.no, .int .i64 y.frm, .int .i64 y.dst, .slice y.A y.n y.c] 40)) from ((Below.refl _ w).alloc (Nat.le_refl _) _).alloc (by simp) _)
  have ca := (((Has.newAt w #[.int .i64 x.t, .int .i64 x.no, .int .i64 x.frm, .int .i64 x.dst, .slice x.A x.n x.c] 40 rfl).alloc (.cells #[.int .i64 y.t, .int .i64 y.no, .int .i64 y.frm, .int .i64 y.dst, .slice y.A y.n y.c] 40)).drew).cell
  have cb := ((Has.newAt (w.alloc (.cells #[.int .i64 x.t, .int .i64 x.no, .int .i64 x.frm, .int .i64 x.dst, .slice x.A x.n x.c] 40)) #[.int .i64 y.t, .int .i64 y.no, .int .i64 y.frm, .int .i64 y.dst, .slice y.A y.n y.c] 40 (g := w.heap.size + 1) (by simp)).drew).cell
  go_enter Try.func38, Try.ntmps38
  go_wp2_with fail
  refine region_seg (fun w' => w'.cell? ⟨w.heap.size, 0, none⟩ = some (.int .i64 x.t) ∧ w'.cell? ⟨w.heap.size, 1, none⟩ = some (.int .i64 x.no) ∧ w'.cell? ⟨w.heap.size + 1, 0, none⟩ = some (.int .i64 y.t) ∧ w'.cell? ⟨w.heap.size + 1, 1, none⟩ = some (.int .i64 y.no)) 10 [(0, true), (1, true), (2, true), (3, true), (5, true), (6, true), (7, true), (8, true), (4, false), (9, false)] (by kernel_rfl) (by kernel_rfl) ⟨ca 0, ca 1, cb 0, cb 1⟩ (fun hHeld => ?_)
  iterate 8
    refine seg_take (v := ?_) (by simp only [List.getElem?_toArray, List.getElem?_cons_succ, List.getElem?_cons_zero]; rfl) (Or.inl ⟨by rfl, ?_⟩) ?_
    rotate_left 1
    · intro w hSw
      try dsimp only at hSw
      go_simp
      try with_reducible rfl
    try simp only [Act.put, List.setIfInBounds_toArray, List.set_cons_zero, List.set_cons_succ]
  refine seg_op (by simp only [List.getElem?_toArray, List.getElem?_cons_succ, List.getElem?_cons_zero]; rfl) (fun K hK => ?_)
  go_wp2_with (go_at_call 69; refine (cmpint_any _ _ _).mono ?_; rintro e w' ⟨rfl, rfl⟩)
  clear hHeld
  refine hK.out _ _ ⟨ca 0, ca 1, cb 0, cb 1⟩ (fun hHeld => ?_)
  clear hK K
  try simp only [Act.put, List.setIfInBounds_toArray, List.set_cons_zero, List.set_cons_succ]
  refine seg_op (by simp only [List.getElem?_toArray, List.getElem?_cons_succ, List.getElem?_cons_zero]; rfl) (fun K hK => ?_)
  go_wp2_with (go_at_call 69; refine (cmpint_any _ _ _).mono ?_; rintro e w' ⟨rfl, rfl⟩)
  clear hHeld
  refine hK.out _ _ ⟨ca 0, ca 1, cb 0, cb 1⟩ (fun hHeld => ?_)
  clear hK K
  try simp only [Act.put, List.setIfInBounds_toArray, List.set_cons_zero, List.set_cons_succ]
  refine seg_tail rfl ?_
  clear hHeld
  go_wp2_with fail
  have RW := int_row (g := w.heap.size + 1 + 1) (l := [cmpI x.t y.t, cmpI x.no y.no]) (n := 2) (Has.newAt ((w.alloc (.cells #[.int .i64 x.t, .int .i64 x.no, .int .i64 x.frm, .int .i64 x.dst, .slice x.A x.n x.c] 40)).alloc (.cells #[.int .i64 y.t, .int .i64 y.no, .int .i64 y.frm, .int .i64 y.dst, .slice y.A y.n y.c] 40)) _ 3 (by simp)).drew rfl (by omega) (by
    simp only [List.mem_cons, List.not_mem_nil, or_false]
    rintro x (rfl | rfl) <;> exact cmpI_wf _ _)
  refine (or_any _ _ _ _ _ RW).mono ?_
  rintro e w' ⟨rfl, rfl⟩
  clear RW ca cb
  go_wp2_with fail
  go_ret
  exact ⟨rfl, (B0.out.alloc B0.out.size _).drew⟩

set_option maxHeartbeats 2000000 in
/-- slices.Compare, of two rows of one length. -/
theorem cmpL_any (A A' : Option Addr) (n c c' : Nat) (l m : List Int) (w : World) (hl : Sl intK w A n c l) (hm : Sl intK w A' n c' m) : Calls Try.prog 67 #[.slice A n c, .slice A' n c'] w fun e w' => e = .returned (.int .i64 (orL ((l.zip m).map fun p => cmpI p.1 p.2))) ∧ w = w' := by
  have hmax := hl.max
  have hcap := hl.cap
  have hcap2 := hm.cap
  have hmax2 := hm.max
  have HL := Lib.hid hl
  have HM := Lib.hid hm
  have ZN := Lib.hid (show ((l.zip m).map fun p => cmpI p.1 p.2).length = n from by rw [List.length_map, List.length_zip, hl.len, hm.len, Nat.min_self])
  have ZG := Lib.hid (fun k (h1 : k < l.length) (h2 : k < m.length) (h : k < ((l.zip m).map fun p => cmpI p.1 p.2).length) => (show ((l.zip m).map fun p => cmpI p.1 p.2)[k] = cmpI l[k] m[k] from by rw [List.getElem_map, List.getElem_zip]))
  generalize (l.zip m).map (fun p => cmpI p.1 p.2) = z at *
  clear hl hm
  go_enter Try.func67, Try.ntmps67
  go_wp2_with fail
  go_loopg [11] n (fun gg s11 wr => ∃ k : Nat, k ≤ n ∧ n - k ≤ gg ∧ s11 = .int .i64 k ∧ wr = w ∧ Hid (∀ j (hj : j < z.length), j < k → z[j] = 0))
  case atStart => exact ⟨0, Nat.zero_le _, by omega, rfl, rfl, Lib.hid (fun j _ hj => absurd hj (Nat.not_lt_zero _))⟩
  case round =>
    obtain ⟨k, hk, hgg, rfl, rfl, hok⟩ := hrel
    by_cases hlt : k < n
    · obtain ⟨b, off, hkl, rfl, hbl, x0⟩ := int_at HL.out hlt
      obtain ⟨b2, off2, hkl2, rfl, hbl2, y0⟩ := int_at HM.out hlt
      have hkz : k < z.length := by rw [ZN.out]; exact hlt
      have g0 := ZG.out k hkl hkl2 hkz
      generalize l[k] = x at *
      generalize m[k] = y at *
      by_cases h0 : cmpI x y = 0
      · have NX : Hid (∀ j (hj : j < z.length), j < k + 1 → z[j] = 0) := Lib.hid (fun j hj hjk => by
          rcases Nat.lt_or_ge j k with h' | h'
          · exact hok.out j hj h'
          · obtain rfl : j = k := by omega
            rw [g0, h0])
        have H0 := Lib.hid h0
        clear g0 h0
        go_wp2_with (go_at_call 69; refine (cmpint_any _ _ _).mono ?_; rintro e w' ⟨rfl, rfl⟩; rw [H0.out])
        go_roundg (n - (k + 1))
        case measure => omega
        case rel => exact ⟨k + 1, by omega, by omega, by go_num, rfl, NX⟩
      · have R := Lib.hid (orL_at hkz hok.out (by rw [g0]; exact h0))
        have G0 := Lib.hid g0
        clear g0
        have CM := Lib.hid (cmpint_any x y)
        generalize cmpI x y = q at *
        go_wp2_with (go_at_call 69; refine (CM.out _).mono ?_; rintro e w' ⟨rfl, rfl⟩)
        go_ret
        exact ⟨ret_int (R.out.trans G0.out).symm, rfl⟩
    · obtain rfl : k = n := by omega
      have R := Lib.hid (orL_no (l := z) fun j hj => hok.out j hj (by rw [← ZN.out]; exact hj))
      go_wp2_with fail
      go_ret
      exact ⟨ret_int R.out.symm, rfl⟩

theorem pairs_zip (x y : Pr) : orL (([x.a, x.b].zip [y.a, y.b]).map fun p => cmpI p.1 p.2) = ordPr x y := by
  unfold ordPr
  show orI _ (orI _ 0) = _
  unfold orI
  (repeat' split) <;> first | rfl | omega | simp_all
/-- How two ways stand. -/
theorem pairs_any (x y : Pr) (hx : x.wf) (hy : y.wf) (w : World) : Calls Try.prog 37 #[.agg #[.int .i64 x.a, .int .i64 x.b], .agg #[.int .i64 y.a, .int .i64 y.b]] w fun e w' => e = .returned (.int .i64 (ordPr x y)) ∧ Below w.heap.size w w' := by
  have B0 := Lib.hid (show Below w.heap.size w ((w.alloc (.cells #[.int .i64 x.a, .int .i64 x.b] 63)).alloc (.cells #[.int .i64 y.a, .int .i64 y.b] 63)) from ((Below.refl _ w).alloc (Nat.le_refl _) _).alloc (by simp) _)
  have CM := Lib.hid (fun w' (h : Below ((w.alloc (.cells #[.int .i64 x.a, .int .i64 x.b] 63)).alloc (.cells #[.int .i64 y.a, .int .i64 y.b] 63)).heap.size ((w.alloc (.cells #[.int .i64 x.a, .int .i64 x.b] 63)).alloc (.cells #[.int .i64 y.a, .int .i64 y.b] 63)) w') => cmpL_any _ _ 2 2 2 [x.a, x.b] [y.a, y.b] w'
    (int_row (g := w.heap.size) (n := 2) (((Has.newAt w #[.int .i64 x.a, .int .i64 x.b] 63 rfl).alloc _).past h) rfl (by omega) (by simp only [List.mem_cons, List.not_mem_nil, or_false]; rintro z (rfl | rfl) <;> first | exact hx.1 | exact hx.2))
    (int_row (g := w.heap.size + 1) (n := 2) ((Has.newAt (w.alloc (.cells #[.int .i64 x.a, .int .i64 x.b] 63)) #[.int .i64 y.a, .int .i64 y.b] 63 (g := w.heap.size + 1) (by simp)).past h) rfl (by omega) (by simp only [List.mem_cons, List.not_mem_nil, or_false]; rintro z (rfl | rfl) <;> first | exact hy.1 | exact hy.2)))
  rw [pairs_zip] at CM
  go_enter Try.func37, Try.ntmps37
  go_wp2_with fail
  refine region_below (by kernel_rfl) (by kernel_rfl) ?_
  repeat (go_big_quiet_step (exact call_regrown_same CM.out))
  refine wpQuiet_nil ?_
  intro w1 hb1
  have HB := Lib.hid (below_from hb1 B0.out B0.out.size)
  clear hb1
  go_wp2_with fail
  go_ret
  exact ⟨rfl, HB.out⟩

/-- Whether a slip may be. -/
theorem slipped_any (s : Sp) (w : World) : Calls Try.prog 36 #[.agg #[.int .i64 s.no, .int .i64 s.kind, .int .i64 s.amt]] w fun e w' => e = .returned (.bool (okSlip s)) ∧ Below w.heap.size w w' := by
  have B0 := Lib.hid (below_alloc1 w (.cells #[.int .i64 s.no, .int .i64 s.kind, .int .i64 s.amt] 54))
  have H : Hid (okSlip s = (inR s.no 0 1099511627776 && (if s.kind = 3 then inR s.amt 1 1099511627776 else if s.kind = 1 ∨ s.kind = 2 then decide (s.amt = 0) else false))) := Lib.hid rfl
  cases h0 : inR s.no 0 1099511627776 with
  | false =>
    rw [h0, Bool.false_and] at H
    have H0 := Lib.hid h0
    clear h0
    go_enter Try.func36, Try.ntmps36
    go_wp2_with (go_at_call 35; refine (within_any _ _ _ _).mono ?_; rintro e w' ⟨rfl, rfl⟩; rw [H0.out])
    go_ret
    exact ⟨ret_bool H.out.symm, B0.out⟩
  | true =>
    rw [h0, Bool.true_and] at H
    have H0 := Lib.hid h0
    clear h0
    by_cases k3 : s.kind = 3
    · rw [if_pos k3] at H
      have d3 : (s.kind == 3) = true := by rw [beq_iff_eq]; exact k3
      clear k3
      go_enter Try.func36, Try.ntmps36
      go_wp2_with (first | (go_at_call 35; have hq := H0.out; refine (within_any _ _ _ _).mono ?_; rintro e w' ⟨rfl, rfl⟩; rw [hq]) | (go_at_call 35; refine (within_any _ _ _ _).mono ?_; rintro e w' ⟨rfl, rfl⟩))
      go_ret
      exact ⟨ret_bool H.out.symm, B0.out⟩
    · rw [if_neg k3] at H
      have d3 : (s.kind == 3) = false := by rw [beq_eq_false_iff_ne]; exact k3
      clear k3
      by_cases k1 : s.kind = 1
      · rw [if_pos (.inl k1)] at H
        have d1 : (s.kind == 1) = true := by rw [beq_iff_eq]; exact k1
        clear k1
        go_enter Try.func36, Try.ntmps36
        go_wp2_with (go_at_call 35; refine (within_any _ _ _ _).mono ?_; rintro e w' ⟨rfl, rfl⟩; rw [H0.out])
        go_ret
        exact ⟨ret_bool (by rw [H.out]; first | rfl | simp), B0.out⟩
      · have d1 : (s.kind == 1) = false := by rw [beq_eq_false_iff_ne]; exact k1
        by_cases k2 : s.kind = 2
        · rw [if_pos (.inr k2)] at H
          have d2 : (s.kind == 2) = true := by rw [beq_iff_eq]; exact k2
          clear k1 k2
          go_enter Try.func36, Try.ntmps36
          go_wp2_with (go_at_call 35; refine (within_any _ _ _ _).mono ?_; rintro e w' ⟨rfl, rfl⟩; rw [H0.out])
          go_ret
          exact ⟨ret_bool (by rw [H.out]; first | rfl | simp), B0.out⟩
        · rw [if_neg (by rintro (h | h) <;> contradiction)] at H
          have d2 : (s.kind == 2) = false := by rw [beq_eq_false_iff_ne]; exact k2
          clear k1 k2
          go_enter Try.func36, Try.ntmps36
          go_wp2_with (go_at_call 35; refine (within_any _ _ _ _).mono ?_; rintro e w' ⟨rfl, rfl⟩; rw [H0.out])
          go_ret
          exact ⟨ret_bool H.out.symm, B0.out⟩

/-- Two ends, the lesser one first. -/
theorem pair_any (a b : Int) (w : World) : Calls Try.prog 57 #[.int .i64 a, .int .i64 b] w fun e w' => e = .returned (.agg #[.int .i64 (pairP a b).a, .int .i64 (pairP a b).b]) ∧ Below w.heap.size w w' := by
  unfold pairP
  go_enter Try.func57, Try.ntmps57
  go_wp2_with fail
  refine bodyPost_ret (v := .agg #[.int .i64 (min a b), .int .i64 (max a b)]) (by simp [results, Try.results57, go_sem]) rfl ?_
  exact ⟨rfl, below_alloc1 w _⟩

/-- Check's own question: is a number one of an end? -/
theorem is_any (o : Nt) (a : Int) (g : Nat) (w : World) (ho : Has w g o.c) (hk : o.Kn ≤ 9223372036854775807) : Calls Try.prog 34 #[.int .i64 a, .pointer (some ⟨g, 0, none⟩)] w fun e w' => e = .returned (.bool (endB o.Kn a)) ∧ w = w' := by
  have E : Hid (inR a 0 ((o.Kn : Int) - 1) = endB o.Kn a) := Lib.hid (by
    unfold inR endB
    congr 1
    rw [decide_eq_decide]
    omega)
  have c5 := ho.cell 5
  have l5 := ho.lt
  clear ho
  go_enter Try.func34, Try.ntmps34
  go_wp2_with (go_at_call 35; refine (within_any _ _ _ _).mono ?_; rintro e w' ⟨rfl, rfl⟩; rw [E.out])
  go_ret
  exact ⟨rfl, rfl⟩
/-- Send's question: does the slip strike that message? -/
theorem strikes_any (s : Sp) (m : Mg) (g : Nat) (w : World) (hm : Has w g #[.int .i64 m.t, .int .i64 m.no, .int .i64 m.frm, .int .i64 m.dst, .slice m.A m.n m.c]) : Calls Try.prog 44 #[.agg #[.int .i64 s.no, .int .i64 s.kind, .int .i64 s.amt], .pointer (some ⟨g, 0, none⟩)] w fun e w' => e = .returned (.bool (decide (s.no = m.no))) ∧ Below w.heap.size w w' := by
  have B0 := Lib.hid (below_alloc1 w (.cells #[.int .i64 s.no, .int .i64 s.kind, .int .i64 s.amt] 54))
  have c1 := (hm.alloc (.cells #[.int .i64 s.no, .int .i64 s.kind, .int .i64 s.amt] 54)).cell 1
  have l1 := (hm.alloc (.cells #[.int .i64 s.no, .int .i64 s.kind, .int .i64 s.amt] 54)).lt
  clear hm
  go_enter Try.func44, Try.ntmps44
  go_wp2_with fail
  go_ret
  exact ⟨ret_bool (by first | rfl | simp), B0.out⟩
/-- Send's order: a message beside another one stands behind it. -/
theorem behind_any (x y : Mg) (w : World) : Calls Try.prog 46 #[x.v, y.v] w fun e w' => e = .returned (.int .i64 (if aheadB x.val y.val = true then -1 else 1)) ∧ Below w.heap.size w w' := by
  have B0 := Lib.hid (show Below w.heap.size w ((w.alloc (.cells #[.int .i64 x.t, .int .i64 x.no, .int .i64 x.frm, .int .i64 x.dst, .slice x.A x.n x.c] 40)).alloc (.cells #[.int .i64 y.t, .int .i64 y.no, .int .i64 y.frm, .int .i64 y.dst, .slice y.A y.n y.c] 40)) from ((Below.refl _ w).alloc (Nat.le_refl _) _).alloc (by simp) _)
  have OM := Lib.hid (order_any x y)
  cases h : aheadB x.val y.val with
  | true =>
    have d1 : decide (ordM x.val y.val ≤ 0) = true := decide_eq_true ((ordM_ahead _ _).2 h)
    clear h
    generalize ordM x.val y.val = q at *
    go_enter Try.func46, Try.ntmps46
    go_wp2_with (refine (OM.out _).mono ?_; rintro e w1 ⟨rfl, hb⟩; have HB := Lib.hid (below_from hb B0.out B0.out.size); clear hb)
    go_ret
    exact ⟨rfl, HB.out⟩
  | false =>
    have d1 : decide (ordM x.val y.val ≤ 0) = false := decide_eq_false (fun hh => by rw [(ordM_ahead _ _).1 hh] at h; cases h)
    clear h
    generalize ordM x.val y.val = q at *
    go_enter Try.func46, Try.ntmps46
    go_wp2_with (refine (OM.out _).mono ?_; rintro e w1 ⟨rfl, hb⟩; have HB := Lib.hid (below_from hb B0.out B0.out.size); clear hb)
    go_ret
    exact ⟨rfl, HB.out⟩
/-- Tick's question: does it come later? -/
theorem later_any (m : Mg) (o : Nt) (g : Nat) (w : World) (ho : Has w g o.c) : Calls Try.prog 54 #[m.v, .pointer (some ⟨g, 0, none⟩)] w fun e w' => e = .returned (.bool (decide (o.now < m.t))) ∧ Below w.heap.size w w' := by
  have B0 := Lib.hid (below_alloc1 w (.cells #[.int .i64 m.t, .int .i64 m.no, .int .i64 m.frm, .int .i64 m.dst, .slice m.A m.n m.c] 40))
  have c1 := (ho.alloc (.cells #[.int .i64 m.t, .int .i64 m.no, .int .i64 m.frm, .int .i64 m.dst, .slice m.A m.n m.c] 40)).cell 0
  have l1 := (ho.alloc (.cells #[.int .i64 m.t, .int .i64 m.no, .int .i64 m.frm, .int .i64 m.dst, .slice m.A m.n m.c] 40)).lt
  clear ho
  go_enter Try.func54, Try.ntmps54
  go_wp2_with fail
  go_ret
  exact ⟨ret_bool (by first | rfl | simp), B0.out⟩

end Go.Proofs.Ytmlgahambecamaa
