/- How partitions compare, which of them may be; producers by their names and numbers. -/
import Derived.Test.YtnigjchgpmladaaBey
import Derived.Test.YtnigjchgpmladaaReg
namespace Go.Proofs.Ytnigjchgpmladaa
open Go.RowKit Go.Shelf

theorem int_row {w : World} {g n : Nat} {l : List Int} (h : Has w g (l.map (Value.int .i64)).toArray) (hn : l.length = n) (hm : n ≤ 9223372036854775807) (hw : ∀ a ∈ l, (Lit.int .i64 a).wf = true) : Sl intK w (some ⟨g, 0, none⟩) n n l :=
  ⟨hn, Nat.le_refl _, hm, fun e => (by cases e), by rw [flat_int]; simpa using Row.of_has h, hw⟩
theorem cmpI_wf (a b : Int) : (Lit.int .i64 (cmpI a b)).wf = true := by unfold cmpI; (repeat' split) <;> decide
theorem cmpS_wf (a b : ByteArray) : (Lit.int .i64 (cmpS a b)).wf = true := by
  unfold cmpS
  rcases cmpB_vals a.data.toList b.data.toList with h | h | h <;> rw [h] <;> decide
theorem ordT_orL (a b : Tp) : ordT a b = orL [cmpS a.t b.t, cmpI a.p b.p, cmpI a.h b.h] := by
  unfold ordT orL orL orL orL orI
  (repeat' split) <;> first | rfl | omega | simp_all

set_option maxRecDepth 100000 in
set_option maxHeartbeats 8000000 in
theorem order_any (a b : Tp) (w : World) : Calls Try.prog 66 #[a.v, b.v] w fun e w' => e = .returned (.int .i64 (ordT a b)) ∧ Below w.heap.size w w' := by
  rw [ordT_orL]
  have B0 := Lib.hid (show Below w.heap.size w ((w.alloc (.cells #[.string a.t, .int .i64 a.p, .int .i64 a.h] 45)).alloc (.cells #[.string b.t, .int .i64 b.p, .int .i64 b.h] 45)) from ((Below.refl _ w).alloc (Nat.le_refl _) _).alloc (by simp) _)
  have ca := (((Has.newAt w #[.string a.t, .int .i64 a.p, .int .i64 a.h] 45 rfl).alloc (.cells #[.string b.t, .int .i64 b.p, .int .i64 b.h] 45)).drew).cell
  have cb := ((Has.newAt (w.alloc (.cells #[.string a.t, .int .i64 a.p, .int .i64 a.h] 45)) #[.string b.t, .int .i64 b.p, .int .i64 b.h] 45 (g := w.heap.size + 1) (by simp)).drew).cell
  go_enter Try.func66, Try.ntmps66
  go_wp2_with fail
  refine region_seg (fun w' => w'.cell? ⟨w.heap.size, 0, none⟩ = some (.string a.t) ∧ w'.cell? ⟨w.heap.size, 1, none⟩ = some (.int .i64 a.p) ∧ w'.cell? ⟨w.heap.size, 2, none⟩ = some (.int .i64 a.h) ∧ w'.cell? ⟨w.heap.size + 1, 0, none⟩ = some (.string b.t) ∧ w'.cell? ⟨w.heap.size + 1, 1, none⟩ = some (.int .i64 b.p) ∧ w'.cell? ⟨w.heap.size + 1, 2, none⟩ = some (.int .i64 b.h)) 15 [(0, true), (1, true), (2, true), (3, true), (5, true), (6, true), (7, true), (8, true), (10, true), (11, true), (12, true), (13, true), (4, false), (9, false), (14, false)] (by kernel_rfl) (by kernel_rfl) ⟨ca 0, ca 1, ca 2, cb 0, cb 1, cb 2⟩ (fun hHeld => ?_)
  iterate 12
    refine seg_take (v := ?_) (by simp only [List.getElem?_toArray, List.getElem?_cons_succ, List.getElem?_cons_zero]; rfl) (Or.inl ⟨by rfl, ?_⟩) ?_
    rotate_left 1
    · intro w hSw
      try dsimp only at hSw
      go_simp
      try with_reducible rfl
    try simp only [Act.put, List.setIfInBounds_toArray, List.set_cons_zero, List.set_cons_succ]
  refine seg_op (by simp only [List.getElem?_toArray, List.getElem?_cons_succ, List.getElem?_cons_zero]; rfl) (fun K hK => ?_)
  go_wp2_with (first | (go_at_call 74; refine (compare_any _ _ _).mono ?_; rintro e w' ⟨rfl, rfl⟩) | (go_at_call 92; refine (cmpint_any _ _ _).mono ?_; rintro e w' ⟨rfl, rfl⟩))
  clear hHeld
  refine hK.out _ _ ⟨ca 0, ca 1, ca 2, cb 0, cb 1, cb 2⟩ (fun hHeld => ?_)
  clear hK K
  try simp only [Act.put, List.setIfInBounds_toArray, List.set_cons_zero, List.set_cons_succ]
  refine seg_op (by simp only [List.getElem?_toArray, List.getElem?_cons_succ, List.getElem?_cons_zero]; rfl) (fun K hK => ?_)
  go_wp2_with (first | (go_at_call 74; refine (compare_any _ _ _).mono ?_; rintro e w' ⟨rfl, rfl⟩) | (go_at_call 92; refine (cmpint_any _ _ _).mono ?_; rintro e w' ⟨rfl, rfl⟩))
  clear hHeld
  refine hK.out _ _ ⟨ca 0, ca 1, ca 2, cb 0, cb 1, cb 2⟩ (fun hHeld => ?_)
  clear hK K
  try simp only [Act.put, List.setIfInBounds_toArray, List.set_cons_zero, List.set_cons_succ]
  refine seg_op (by simp only [List.getElem?_toArray, List.getElem?_cons_succ, List.getElem?_cons_zero]; rfl) (fun K hK => ?_)
  go_wp2_with (first | (go_at_call 74; refine (compare_any _ _ _).mono ?_; rintro e w' ⟨rfl, rfl⟩) | (go_at_call 92; refine (cmpint_any _ _ _).mono ?_; rintro e w' ⟨rfl, rfl⟩))
  clear hHeld
  refine hK.out _ _ ⟨ca 0, ca 1, ca 2, cb 0, cb 1, cb 2⟩ (fun hHeld => ?_)
  clear hK K
  try simp only [Act.put, List.setIfInBounds_toArray, List.set_cons_zero, List.set_cons_succ]
  refine seg_tail rfl ?_
  clear hHeld
  go_wp2_with fail
  have RW := int_row (g := w.heap.size + 1 + 1) (l := [cmpS a.t b.t, cmpI a.p b.p, cmpI a.h b.h]) (n := 3) (Has.newAt ((w.alloc (.cells #[.string a.t, .int .i64 a.p, .int .i64 a.h] 45)).alloc (.cells #[.string b.t, .int .i64 b.p, .int .i64 b.h] 45)) _ 3 (by simp)).drew rfl (by omega) (by
    simp only [List.mem_cons, List.not_mem_nil, or_false]
    rintro x (rfl | rfl | rfl) <;> first | exact cmpS_wf _ _ | exact cmpI_wf _ _)
  refine (or_any _ _ _ _ _ RW).mono ?_
  rintro e w' ⟨rfl, rfl⟩
  clear RW ca cb
  go_wp2_with fail
  go_ret
  exact ⟨rfl, (B0.out.alloc B0.out.size _).drew⟩

theorem anyOut_one (m a : Int) : anyOut m [a] = !inB a m := by unfold anyOut; simp
theorem anyOut_two (m a b : Int) : anyOut m [a, b] = (!inB a m || !inB b m) := by unfold anyOut; simp
set_option maxRecDepth 100000 in
set_option maxHeartbeats 8000000 in
theorem right_any (x : Tp) (w : World) (hx : x.t.size ≤ maxLen) : Calls Try.prog 61 #[x.v] w fun e w' => e = .returned (.bool (rightT x)) ∧ Below w.heap.size w w' := by
  have RT : rightT x = (nameC x.t && inB x.p 5 && inB x.h 3) := rfl
  have B0 := Lib.hid (below_alloc1 w (.cells #[.string x.t, .int .i64 x.p, .int .i64 x.h] 45))
  have S0 := Lib.hid (Has.newAt w #[.string x.t, .int .i64 x.p, .int .i64 x.h] 45 (g := w.heap.size) rfl)
  have NM := Lib.hid (fun W => name_any x.t W hx)
  clear hx
  cases hn : nameC x.t with
  | false =>
    have H := Lib.hid (show rightT x = false from by rw [RT, hn]; rfl)
    have HN := Lib.hid hn
    clear hn RT
    go_enter Try.func61, Try.ntmps61
    go_wp2_with (go_at_call 43; refine (NM.out _).mono ?_; rintro e w1 ⟨rfl, hb⟩; rw [HN.out]; have B1 := Lib.hid (below_from hb B0.out B0.out.size); clear hb)
    go_ret
    exact ⟨ret_bool H.out.symm, B1.out⟩
  | true =>
    have HN := Lib.hid hn
    cases hp : inB x.p 5 with
    | false =>
      have H := Lib.hid (show rightT x = false from by rw [RT, hn, hp]; rfl)
      have HP := Lib.hid (show anyOut 5 [x.p] = true from by rw [anyOut_one, hp]; rfl)
      clear hn hp RT
      go_enter Try.func61, Try.ntmps61
      go_wp2_with (go_at_call 43; refine (NM.out _).mono ?_; rintro e w1 ⟨rfl, hb⟩; rw [HN.out]; have B1 := Lib.hid (below_from hb B0.out B0.out.size); have S1 := S0.out.past hb; have sc := S1.cell; have sl := S1.lt; clear hb S1)
      refine (beyond_any 5 _ 1 1 [x.p] _ (num_row (Has.newAt w1 #[.int .i64 x.p] 3 rfl) rfl (by omega)) Nat.one_pos).mono ?_
      rintro e w' ⟨rfl, rfl⟩
      rw [HP.out]
      go_wp2_with fail
      go_ret
      exact ⟨ret_bool H.out.symm, B1.out.alloc B1.out.size _⟩
    | true =>
      have HP := Lib.hid (show anyOut 5 [x.p] = false from by rw [anyOut_one, hp]; rfl)
      obtain ⟨q, hq⟩ : ∃ q, inB x.h 3 = q := ⟨_, rfl⟩
      have H := Lib.hid (show rightT x = q from by rw [RT, hn, hp, hq]; rfl)
      have HH := Lib.hid (show anyOut 3 [x.h] = !q from by rw [anyOut_one, hq])
      clear hn hp hq RT
      go_enter Try.func61, Try.ntmps61
      go_wp2_with (go_at_call 43; refine (NM.out _).mono ?_; rintro e w1 ⟨rfl, hb⟩; rw [HN.out]; have B1 := Lib.hid (below_from hb B0.out B0.out.size); have S1 := S0.out.past hb; have sc := S1.cell; have sl := S1.lt; clear hb S1)
      refine (beyond_any 5 _ 1 1 [x.p] _ (num_row (Has.newAt w1 #[.int .i64 x.p] 3 rfl) rfl (by omega)) Nat.one_pos).mono ?_
      rintro e w' ⟨rfl, rfl⟩
      rw [HP.out]
      go_wp2_with fail
      refine (beyond_any 3 _ 1 1 [x.h] _ (num_row (Has.newAt (w1.alloc (.cells #[.int .i64 x.p] 3)) #[.int .i64 x.h] 3 (by simp)) rfl (by omega)) Nat.one_pos).mono ?_
      rintro e w' ⟨rfl, rfl⟩
      rw [HH.out]
      go_wp2_with fail
      go_ret
      have B2 := B1.out.alloc B1.out.size (.cells #[.int .i64 x.p] 3)
      exact ⟨ret_bool (by rw [H.out]), B2.alloc B2.size _⟩
theorem byid_any (x : Tx) (id : ByteArray) (w : World) : Calls Try.prog 45 #[x.v, .string id] w fun e w' => e = .returned (.int .i64 (cmpS x.id id)) ∧ Below w.heap.size w w' := by
  have B0 := Lib.hid (below_alloc1 w (.cells #[.string x.id, .int .i64 x.pid, .int .i64 x.gen, .int .i64 x.no, .int .i64 x.st, .slice x.PA x.Pn x.Pc, .slice x.GA x.Gn x.Gc, .int .i64 x.at_] 33))
  go_enter Try.func45, Try.ntmps45
  go_wp2_with (go_at_call 74; refine (compare_any _ _ _).mono ?_; rintro e w' ⟨rfl, rfl⟩)
  go_ret
  exact ⟨rfl, B0.out⟩
theorem dueX_any (x : Tx) (w : World) : Calls Try.prog 58 #[x.v] w fun e w' => e = .returned (.bool (dueB x.val)) ∧ Below w.heap.size w w' := by
  have B0 := Lib.hid (below_alloc1 w (.cells #[.string x.id, .int .i64 x.pid, .int .i64 x.gen, .int .i64 x.no, .int .i64 x.st, .slice x.PA x.Pn x.Pc, .slice x.GA x.Gn x.Gc, .int .i64 x.at_] 33))
  have D : dueB x.val = (decide (x.st = 2) || decide (x.st = 3)) := rfl
  by_cases h1 : x.st = 2
  · have d1 : (x.st == 2) = true := by rw [beq_iff_eq]; exact h1
    have H := Lib.hid (show dueB x.val = true from by rw [D, decide_eq_true h1]; rfl)
    clear D h1
    go_enter Try.func58, Try.ntmps58
    go_wp2_with fail
    go_ret
    exact ⟨ret_bool H.out.symm, B0.out⟩
  · have d1 : (x.st == 2) = false := by rw [beq_eq_false_iff_ne]; exact h1
    obtain ⟨q, hq⟩ : ∃ q, (x.st == 3) = q := ⟨_, rfl⟩
    have H := Lib.hid (show dueB x.val = q from by rw [D, decide_eq_false h1, ← hq, Bool.false_or]; rfl)
    clear D h1
    go_enter Try.func58, Try.ntmps58
    go_wp2_with fail
    go_ret
    exact ⟨ret_bool (by rw [H.out]), B0.out⟩
theorem notdue_any (x : Tx) (w : World) : Calls Try.prog 57 #[x.v] w fun e w' => e = .returned (.bool (!dueB x.val)) ∧ Below w.heap.size w w' := by
  have B0 := Lib.hid (below_alloc1 w (.cells #[.string x.id, .int .i64 x.pid, .int .i64 x.gen, .int .i64 x.no, .int .i64 x.st, .slice x.PA x.Pn x.Pc, .slice x.GA x.Gn x.Gc, .int .i64 x.at_] 33))
  obtain ⟨q, hq⟩ : ∃ q, dueB x.val = q := ⟨_, rfl⟩
  have DX := Lib.hid (fun W => dueX_any x W)
  rw [hq] at DX
  rw [hq]
  clear hq
  go_enter Try.func57, Try.ntmps57
  go_wp2_with (go_at_call 58; refine (DX.out _).mono ?_; rintro e w1 ⟨rfl, hb⟩; have B1 := Lib.hid (below_from hb B0.out B0.out.size); clear hb)
  go_ret
  exact ⟨rfl, B1.out⟩
theorem haspid_any (x : Tx) (pid : Int) (g : Nat) (w : World) (hg : Has w g #[.int .i64 pid]) : Calls Try.prog 83 #[x.v, .pointer (some ⟨g, 0, none⟩)] w fun e w' => e = .returned (.bool (decide (x.pid = pid))) ∧ Below w.heap.size w w' := by
  have B0 := Lib.hid (below_alloc1 w (.cells #[.string x.id, .int .i64 x.pid, .int .i64 x.gen, .int .i64 x.no, .int .i64 x.st, .slice x.PA x.Pn x.Pc, .slice x.GA x.Gn x.Gc, .int .i64 x.at_] 33))
  have gc := hg.cell
  have gl := hg.lt
  obtain ⟨q, hq⟩ : ∃ q, (x.pid == pid) = q := ⟨_, rfl⟩
  have H := Lib.hid (show decide (x.pid = pid) = q from by rw [← hq]; rfl)
  clear hg
  go_enter Try.func83, Try.ntmps83
  go_wp2_with fail
  go_ret
  exact ⟨ret_bool (by rw [H.out]), B0.out⟩
theorem in_any (a : Int) (w : World) : Calls Try.prog 49 #[.int .i64 a] w fun e w' => e = .returned (.bool (inB a 1099511627776)) ∧ w = w' := by
  unfold inB
  by_cases h1 : 0 ≤ a
  · have d1 : decide (0 ≤ a) = true := decide_eq_true h1
    obtain ⟨q, hq⟩ : ∃ q, decide (a ≤ 1099511627776) = q := ⟨_, rfl⟩
    rw [d1, hq]
    go_enter Try.func49, Try.ntmps49
    go_wp2_with fail
    go_ret
    exact ⟨ret_bool (by simp), rfl⟩
  · have d1 : decide (0 ≤ a) = false := decide_eq_false h1
    rw [d1]
    go_enter Try.func49, Try.ntmps49
    go_wp2_with fail
    go_ret
    exact ⟨ret_bool (by simp), rfl⟩

end Go.Proofs.Ytnigjchgpmladaa
