/- The document's Get and Least. -/
import Derived.Test.YtnkjkgakbgjddaaLive
namespace Go.Proofs.Ytnkjkgakbgjddaa
open Go.RowKit

set_option maxRecDepth 100000 in
set_option maxHeartbeats 8000000 in
theorem rget_any (o : Of) (s t : ByteArray) (p h : Int) (w : World) (ho : Of.At w o) : Calls Try.prog 24 #[o.v, .string s, .agg #[.string t, .int .i64 p, .int .i64 h]] w fun e w' => e = .returned (.tuple #[.int .i64 (getV o.L s t p h).1, .bool (getV o.L s t p h).2]) ∧ Below w.heap.size w w' := by
  obtain ⟨A, n, c, L, A', n', c', M⟩ := o
  obtain ⟨W0, hW0⟩ : ∃ W0, W0 = (w.alloc (.cells #[.slice A n c, .slice A' n' c'] 25)).alloc (.cells #[.string t, .int .i64 p, .int .i64 h] 27) := ⟨_, rfl⟩
  have B0 := Lib.hid (show Below w.heap.size w W0 from by rw [hW0]; exact (below_alloc1 w _).alloc (by simp) _)
  have S0 := Lib.hid (show Has W0 w.heap.size #[.slice A n c, .slice A' n' c'] from by rw [hW0]; exact (Has.newAt w _ 25 rfl).alloc _)
  have T0 := Lib.hid (show Has W0 (w.heap.size + 1) #[.string t, .int .i64 p, .int .i64 h] from by rw [hW0]; exact Has.newAt _ _ 27 (by simp))
  have HW0 := Lib.hid hW0
  have HL := Lib.hid (show Sl psK w A n c L from ho.1)
  have LN := Lib.hid (show L.length = n from ho.1.len)
  have l1 : c ≤ _ := ho.1.max
  have l2 : n ≤ c := ho.1.cap
  clear ho hW0
  obtain ⟨R, hR⟩ : ∃ R, getV L s t p h = R := ⟨_, rfl⟩
  have HR := Lib.hid hR
  simp only [hR]
  clear hR
  have s0c := S0.out.cell
  have s0l := S0.out.lt
  go_enter Try.func24, Try.ntmps24
  go_wp2_with fail
  rw [← HW0.out]
  clear s0c s0l
  go_loopg [8] n (fun kx s8 wr => ∃ k : Nat, k ≤ n ∧ n - k ≤ kx ∧ s8 = .int .i64 k ∧ Hid (Below W0.heap.size W0 wr) ∧ Hid (∀ j (hj : j < L.length), j < k → ofPl s t p h L[j] = false))
  case atStart => exact ⟨0, Nat.zero_le _, by omega, rfl, Lib.hid (Below.refl _ _), Lib.hid fun j _ hj => absurd hj (Nat.not_lt_zero _)⟩
  case round =>
    obtain ⟨k, hk, hgg, rfl, hb, hok⟩ := hrel
    have sc := (S0.out.past hb.out).cell
    have sl := (S0.out.past hb.out).lt
    by_cases hlt : k < n
    · obtain ⟨bb, off, hkl, hA, hbl, u0, u1, u2, u3, u4⟩ := Pss.at_ (HL.out.below (B0.out.trans (hb.out.mono B0.out.size))) hlt
      subst hA
      have hA : (some (⟨bb, off, none⟩ : Addr)) = some ⟨bb, off, none⟩ := rfl
      obtain ⟨x, hx⟩ : ∃ x, L[k] = x := ⟨_, rfl⟩
      rw [hx] at u0 u1 u2 u3 u4
      have NX := Lib.hid (show ofPl s t p h x = false → Hid (∀ j (hj : j < L.length), j < k + 1 → ofPl s t p h L[j] = false) from fun hn => Lib.hid fun j hj hjk => by
        rcases Nat.lt_or_ge j k with h' | h'
        · exact hok.out j hj h'
        · obtain rfl : j = k := by omega
          rw [hx]; exact hn)
      have YES := Lib.hid (show ofPl s t p h x = true → R = (x.o, true) from fun hy => by
        rw [← HR.out]; unfold getV
        have : L.find? (ofPl s t p h) = some x := List.find?_eq_some_iff_getElem.2 ⟨hy, k, hkl, hx, fun j hj => by rw [hok.out j (by omega) hj]; rfl⟩
        rw [this]; rfl)
      have RX := Lib.hid (fun W (hW : Below wr.heap.size wr W) => (show (∀ d os, (Go.Sort.grow (redrawn W d) os).cell? ⟨bb, off + k * 5, none⟩ = some (.string x.g)) ∧ (∀ d os, (Go.Sort.grow (redrawn W d) os).cell? ⟨bb, off + k * 5 + 1, none⟩ = some (.string x.t)) ∧ (∀ d os, (Go.Sort.grow (redrawn W d) os).cell? ⟨bb, off + k * 5 + 2, none⟩ = some (.int .i64 x.p)) ∧ (∀ d os, (Go.Sort.grow (redrawn W d) os).cell? ⟨bb, off + k * 5 + 3, none⟩ = some (.int .i64 x.h)) ∧ (∀ d os, (Go.Sort.grow (redrawn W d) os).cell? ⟨bb, off + k * 5 + 4, none⟩ = some (.int .i64 x.o)) ∧ (∀ d os, (Go.Sort.grow (redrawn W d) os).cell? ⟨w.heap.size, 0, none⟩ = some (.slice (some ⟨bb, off, none⟩) n c)) ∧ (∀ d os, (Go.Sort.grow (redrawn W d) os).cell? ⟨w.heap.size + 1, 0, none⟩ = some (.string t)) ∧ (∀ d os, (Go.Sort.grow (redrawn W d) os).cell? ⟨w.heap.size + 1, 1, none⟩ = some (.int .i64 p)) ∧ (∀ d os, (Go.Sort.grow (redrawn W d) os).cell? ⟨w.heap.size + 1, 2, none⟩ = some (.int .i64 h)) from ⟨at_regrown ((hW.cell hbl).trans u0), at_regrown ((hW.cell hbl).trans u1), at_regrown ((hW.cell hbl).trans u2), at_regrown ((hW.cell hbl).trans u3), at_regrown ((hW.cell hbl).trans u4), at_regrown (((S0.out.past (Below.trans hb.out (hW.mono hb.out.size))).cell 0).trans (by rw [hA]; rfl)), at_regrown ((T0.out.past (Below.trans hb.out (hW.mono hb.out.size))).cell 0), at_regrown ((T0.out.past (Below.trans hb.out (hW.mono hb.out.size))).cell 1), at_regrown ((T0.out.past (Below.trans hb.out (hW.mono hb.out.size))).cell 2)⟩))
      obtain ⟨r1, r2, r3, r4, r5, r6, r7, r8, r9⟩ := RX.out wr (Below.refl _ _)
      have k0 : (0 : Int) ≤ (k : Int) := by omega
      have k1 : (k : Int) < (n : Int) := by omega
      clear hx hkl hA
      obtain ⟨xg, xt, xp, xh, xo⟩ := x
      simp only at r1 r2 r3 r4 r5 u4
      obtain ⟨hx, hhx⟩ : ∃ b, ofPl s t p h ⟨xg, xt, xp, xh, xo⟩ = b := ⟨_, rfl⟩
      rw [hhx] at NX YES
      have HHX := Lib.hid hhx
      clear hhx u0 u1 u2 u3
      by_cases h1 : xg = s
      · subst h1
        by_cases h2 : xt = t
        · subst h2
          by_cases h3 : xp = p
          · subst h3
            by_cases h4 : xh = h
            · subst h4
              have YS := Lib.hid (YES.out (by rw [← HHX.out]; unfold ofPl ofTp; simp))
              go_wp2_with fail
              refine region_below (by kernel_rfl) (by kernel_rfl) ?_
              repeat (go_big_quiet_step (fail))
              refine wpQuiet_nil ?_
              intro wz hbz
              have BZ := Lib.hid (below_from hbz hb.out hb.out.size)
              have z1 := (hbz.cell hbl).trans u4
              have z2 := ((S0.out.past (Below.trans hb.out (hbz.mono hb.out.size))).cell 0).trans (show _ = some (Value.slice (some ⟨bb, off, none⟩) n c) from rfl)
              have z3 := (S0.out.past (Below.trans hb.out (hbz.mono hb.out.size))).lt
              have z4 := Nat.lt_of_lt_of_le hbl hbz.size
              clear hbz r1 r2 r3 r4 r5 r6 r7 r8 r9
              go_wp2_with fail
              go_ret2
              exact ⟨by rw [YS.out]; rfl, Below.trans B0.out (BZ.out.mono B0.out.size)⟩
            · obtain ⟨d1, d2⟩ := int_ne h4
              have HH := Lib.hid h4
              clear h4
              go_wp2_with fail
              refine region_below (by kernel_rfl) (by kernel_rfl) ?_
              repeat (go_big_quiet_step (fail))
              refine wpQuiet_nil ?_
              intro wz hbz
              have BZ := Lib.hid (below_from hbz hb.out hb.out.size)
              clear hbz r1 r2 r3 r4 r5 r6 r7 r8 r9
              go_wp2_with fail
              go_roundg (n - (k + 1))
              case measure => omega
              case rel => exact ⟨k + 1, by omega, by omega, by go_num, BZ, NX.out (by rw [← HHX.out]; unfold ofPl ofTp; simp [HH.out])⟩
          · obtain ⟨d1, d2⟩ := int_ne h3
            have HH := Lib.hid h3
            clear h3
            go_wp2_with fail
            refine region_below (by kernel_rfl) (by kernel_rfl) ?_
            repeat (go_big_quiet_step (fail))
            refine wpQuiet_nil ?_
            intro wz hbz
            have BZ := Lib.hid (below_from hbz hb.out hb.out.size)
            clear hbz r1 r2 r3 r4 r5 r6 r7 r8 r9
            go_wp2_with fail
            go_roundg (n - (k + 1))
            case measure => omega
            case rel => exact ⟨k + 1, by omega, by omega, by go_num, BZ, NX.out (by rw [← HHX.out]; unfold ofPl ofTp; simp [HH.out])⟩
        · obtain ⟨d1, d2, d3⟩ := str_nes h2
          have HH := Lib.hid h2
          clear h2
          go_wp2_with fail
          refine region_below (by kernel_rfl) (by kernel_rfl) ?_
          repeat (go_big_quiet_step (fail))
          refine wpQuiet_nil ?_
          intro wz hbz
          have BZ := Lib.hid (below_from hbz hb.out hb.out.size)
          clear hbz r1 r2 r3 r4 r5 r6 r7 r8 r9
          go_wp2_with fail
          go_roundg (n - (k + 1))
          case measure => omega
          case rel => exact ⟨k + 1, by omega, by omega, by go_num, BZ, NX.out (by rw [← HHX.out]; unfold ofPl ofTp; simp [HH.out])⟩
      · obtain ⟨d1, d2, d3⟩ := str_nes h1
        have HH := Lib.hid h1
        clear h1
        go_wp2_with fail
        refine region_below (by kernel_rfl) (by kernel_rfl) ?_
        repeat (go_big_quiet_step (fail))
        refine wpQuiet_nil ?_
        intro wz hbz
        have BZ := Lib.hid (below_from hbz hb.out hb.out.size)
        clear hbz r1 r2 r3 r4 r5 r6 r7 r8 r9
        go_wp2_with fail
        go_roundg (n - (k + 1))
        case measure => omega
        case rel => exact ⟨k + 1, by omega, by omega, by go_num, BZ, NX.out (by rw [← HHX.out]; unfold ofPl ofTp; simp [HH.out])⟩
    · obtain rfl : k = n := by omega
      have RN : R = (0, false) := by
        rw [← HR.out]; unfold getV
        rw [List.find?_eq_none.2 (fun y hy => by obtain ⟨j, hj, rfl⟩ := List.getElem_of_mem hy; rw [hok.out j hj (by rw [← LN.out]; exact hj)]; decide)]
        rfl
      go_wp2_with fail
      go_ret2
      exact ⟨by rw [RN]; rfl, B0.out.trans (hb.out.mono B0.out.size)⟩

theorem min_step (l : List Int) (x : Int) : minV (l ++ [x]) = if (minV l).2 = false ∨ x < (minV l).1 then (x, true) else minV l := by
  cases l with
  | nil => rfl
  | cons a l =>
    show minV (a :: (l ++ [x])) = _
    unfold minV
    simp only [List.foldl_append, List.foldl_cons, List.foldl_nil, Bool.true_eq_false, false_or]
    split
    · rename_i h; rw [Int.min_eq_right (by omega)]
    · rename_i h; rw [Int.min_eq_left (by omega)]
set_option maxRecDepth 100000 in
set_option maxHeartbeats 8000000 in
theorem rleast_any (o : Of) (t : ByteArray) (p h : Int) (w : World) (ho : Of.At w o) : Calls Try.prog 26 #[o.v, .agg #[.string t, .int .i64 p, .int .i64 h]] w fun e w' => e = .returned (.tuple #[.int .i64 (leastV o.L o.M t p h).1, .bool (leastV o.L o.M t p h).2]) ∧ Below w.heap.size w w' := by
  obtain ⟨A, n, c, L, A', n', c', M⟩ := o
  obtain ⟨W0, hW0⟩ : ∃ W0, W0 = (w.alloc (.cells #[.slice A n c, .slice A' n' c'] 25)).alloc (.cells #[.string t, .int .i64 p, .int .i64 h] 27) := ⟨_, rfl⟩
  have B0 := Lib.hid (show Below w.heap.size w W0 from by rw [hW0]; exact (below_alloc1 w _).alloc (by simp) _)
  have S0 := Lib.hid (show Has W0 w.heap.size #[.slice A n c, .slice A' n' c'] from by rw [hW0]; exact (Has.newAt w _ 25 rfl).alloc _)
  have T0 := Lib.hid (show Has W0 (w.heap.size + 1) #[.string t, .int .i64 p, .int .i64 h] from by rw [hW0]; exact Has.newAt _ _ 27 (by simp))
  have HW0 := Lib.hid hW0
  have HL := Lib.hid (show Sl psK w A n c L from ho.1)
  have HM := Lib.hid (show Sl wtK w A' n' c' M from ho.2)
  have LN := Lib.hid (show L.length = n from ho.1.len)
  have LM := Lib.hid (show M.length = n' from ho.2.len)
  have l1 : c ≤ _ := ho.1.max
  have l2 : n ≤ c := ho.1.cap
  have l3 : c' ≤ _ := ho.2.max
  have l4 : n' ≤ c' := ho.2.cap
  clear ho hW0
  obtain ⟨R, hR⟩ : ∃ R, leastV L M t p h = R := ⟨_, rfl⟩
  have HR := Lib.hid (show minV ((L.filter (ofTp t p h)).map Ps.o ++ ((M.map Wt.pos).filter (ofTp t p h)).map Ps.o) = R from hR)
  simp only [hR]
  clear hR
  go_enter Try.func26, Try.ntmps26
  go_wp2_with fail
  rw [← HW0.out]
  go_loopg [6, 7, 8] n (fun kx s6 s7 s8 wr => ∃ (k : Nat) (vn : Int) (vb : Bool), k ≤ n ∧ n - k ≤ kx ∧ s6 = .int .i64 vn ∧ s7 = .bool vb ∧ s8 = .int .i64 k ∧ Hid (Below W0.heap.size W0 wr) ∧ Hid (minV (((L.take k).filter (ofTp t p h)).map Ps.o) = (vn, vb)))
  case atStart => exact ⟨0, 0, false, Nat.zero_le _, by omega, rfl, rfl, rfl, Lib.hid (Below.refl _ _), Lib.hid rfl⟩
  case round =>
    obtain ⟨k, vn, vb, hk, hgg, rfl, rfl, rfl, hb, HZ⟩ := hrel
    have sc := (S0.out.past hb.out).cell
    have sl := (S0.out.past hb.out).lt
    by_cases hlt : k < n
    · obtain ⟨bb, off, hkl, hA, hbl, u0, u1, u2, u3, u4⟩ := Pss.at_ (HL.out.below (B0.out.trans (hb.out.mono B0.out.size))) hlt
      obtain ⟨x, hx⟩ : ∃ x, L[k] = x := ⟨_, rfl⟩
      rw [hx] at u0 u1 u2 u3 u4
      have TK := Lib.hid (show L.take (k + 1) = L.take k ++ [x] from by rw [List.take_succ_eq_append_getElem hkl, hx])
      have NX := Lib.hid (show ofTp t p h x = false → ((L.take (k + 1)).filter (ofTp t p h)).map Ps.o = ((L.take k).filter (ofTp t p h)).map Ps.o from fun hn => by rw [TK.out, List.filter_append, List.map_append]; simp [hn])
      have YES := Lib.hid (show ofTp t p h x = true → ((L.take (k + 1)).filter (ofTp t p h)).map Ps.o = ((L.take k).filter (ofTp t p h)).map Ps.o ++ [x.o] from fun hn => by rw [TK.out, List.filter_append, List.map_append]; simp [hn])
      have RX := Lib.hid (fun W (hW : Below wr.heap.size wr W) => (show (∀ d os, (Go.Sort.grow (redrawn W d) os).cell? ⟨bb, off + k * 5 + 1, none⟩ = some (.string x.t)) ∧ (∀ d os, (Go.Sort.grow (redrawn W d) os).cell? ⟨bb, off + k * 5 + 2, none⟩ = some (.int .i64 x.p)) ∧ (∀ d os, (Go.Sort.grow (redrawn W d) os).cell? ⟨bb, off + k * 5 + 3, none⟩ = some (.int .i64 x.h)) ∧ (∀ d os, (Go.Sort.grow (redrawn W d) os).cell? ⟨bb, off + k * 5 + 4, none⟩ = some (.int .i64 x.o)) ∧ (∀ d os, (Go.Sort.grow (redrawn W d) os).cell? ⟨w.heap.size, 0, none⟩ = some (.slice (some ⟨bb, off, none⟩) n c)) ∧ (∀ d os, (Go.Sort.grow (redrawn W d) os).cell? ⟨w.heap.size + 1, 0, none⟩ = some (.string t)) ∧ (∀ d os, (Go.Sort.grow (redrawn W d) os).cell? ⟨w.heap.size + 1, 1, none⟩ = some (.int .i64 p)) ∧ (∀ d os, (Go.Sort.grow (redrawn W d) os).cell? ⟨w.heap.size + 1, 2, none⟩ = some (.int .i64 h)) from ⟨at_regrown ((hW.cell hbl).trans u1), at_regrown ((hW.cell hbl).trans u2), at_regrown ((hW.cell hbl).trans u3), at_regrown ((hW.cell hbl).trans u4), at_regrown (((S0.out.past (Below.trans hb.out (hW.mono hb.out.size))).cell 0).trans (by rw [hA]; rfl)), at_regrown (((T0.out.past (Below.trans hb.out (hW.mono hb.out.size))).cell 0).trans (by rfl)), at_regrown (((T0.out.past (Below.trans hb.out (hW.mono hb.out.size))).cell 1).trans (by rfl)), at_regrown (((T0.out.past (Below.trans hb.out (hW.mono hb.out.size))).cell 2).trans (by rfl))⟩))
      obtain ⟨r1, r2, r3, r4, r5, r6, r7, r8⟩ := RX.out wr (Below.refl _ _)
      have k0 : (0 : Int) ≤ (k : Int) := by omega
      have k1 : (k : Int) < (n : Int) := by omega
      have HA := Lib.hid hA
      have sc0 : wr.cell? ⟨w.heap.size, 0, none⟩ = some (.slice (some ⟨bb, off, none⟩) n c) := (sc 0).trans (by rw [hA]; rfl)
      clear hx hkl hA sc
      obtain ⟨xg, xt, xp, xh, xo⟩ := x
      simp only at r1 r2 r3 r4 u4 NX YES
      obtain ⟨hx, hhx⟩ : ∃ b, ofTp t p h ⟨xg, xt, xp, xh, xo⟩ = b := ⟨_, rfl⟩
      rw [hhx] at NX YES
      have HHX := Lib.hid hhx
      clear hhx u0 u1 u2 u3
      by_cases h2 : xt = t
      · subst h2
        by_cases h3 : xp = p
        · subst h3
          by_cases h4 : xh = h
          · subst h4
            have YS := Lib.hid (YES.out (by rw [← HHX.out]; unfold ofTp; simp))
            cases vb with
            | false =>
              go_wp2_with fail
              refine region_below (by kernel_rfl) (by kernel_rfl) ?_
              repeat (go_big_quiet_step (fail))
              refine wpQuiet_nil ?_
              intro wz hbz
              have BZ := Lib.hid (below_from hbz hb.out hb.out.size)
              have z1 := (hbz.cell hbl).trans u4
              have z2 := ((S0.out.past (Below.trans hb.out (hbz.mono hb.out.size))).cell 0).trans (show _ = some (Value.slice (some ⟨bb, off, none⟩) n c) from by rw [← HA.out]; rfl)
              have z3 := (S0.out.past (Below.trans hb.out (hbz.mono hb.out.size))).lt
              have z4 := Nat.lt_of_lt_of_le hbl hbz.size
              clear hbz r1 r2 r3 r4 r5 r6 r7 r8
              go_wp2_with fail
              go_roundg (n - (k + 1))
              case measure => omega
              case rel => exact ⟨k + 1, xo, true, by omega, by omega, rfl, rfl, by go_num, BZ, Lib.hid (by rw [YS.out, min_step, HZ.out]; simp )⟩
            | true =>
              by_cases hlt2 : xo < vn
              · have e1 : decide (xo < vn) = true := decide_eq_true hlt2
                have HX := Lib.hid hlt2
                clear hlt2
                go_wp2_with fail
                refine region_below (by kernel_rfl) (by kernel_rfl) ?_
                repeat (go_big_quiet_step (fail))
                refine wpQuiet_nil ?_
                intro wz hbz
                have BZ := Lib.hid (below_from hbz hb.out hb.out.size)
                have z1 := (hbz.cell hbl).trans u4
                have z2 := ((S0.out.past (Below.trans hb.out (hbz.mono hb.out.size))).cell 0).trans (show _ = some (Value.slice (some ⟨bb, off, none⟩) n c) from by rw [← HA.out]; rfl)
                have z3 := (S0.out.past (Below.trans hb.out (hbz.mono hb.out.size))).lt
                have z4 := Nat.lt_of_lt_of_le hbl hbz.size
                clear hbz r1 r2 r3 r4 r5 r6 r7 r8
                go_wp2_with fail
                go_roundg (n - (k + 1))
                case measure => omega
                case rel => exact ⟨k + 1, xo, true, by omega, by omega, rfl, rfl, by go_num, BZ, Lib.hid (by rw [YS.out, min_step, HZ.out]; simp [HX.out])⟩
              · have e1 : decide (xo < vn) = false := decide_eq_false hlt2
                have HX := Lib.hid hlt2
                clear hlt2
                go_wp2_with fail
                refine region_below (by kernel_rfl) (by kernel_rfl) ?_
                repeat (go_big_quiet_step (fail))
                refine wpQuiet_nil ?_
                intro wz hbz
                have BZ := Lib.hid (below_from hbz hb.out hb.out.size)
                clear hbz r1 r2 r3 r4 r5 r6 r7 r8
                go_wp2_with fail
                go_roundg (n - (k + 1))
                case measure => omega
                case rel => exact ⟨k + 1, vn, true, by omega, by omega, rfl, rfl, by go_num, BZ, Lib.hid (by rw [YS.out, min_step, HZ.out]; simp; intro h; have := HX.out; omega)⟩
          · obtain ⟨d1, d2⟩ := int_ne h4
            have HH := Lib.hid h4
            clear h4
            go_wp2_with fail
            refine region_below (by kernel_rfl) (by kernel_rfl) ?_
            repeat (go_big_quiet_step (fail))
            refine wpQuiet_nil ?_
            intro wz hbz
            have BZ := Lib.hid (below_from hbz hb.out hb.out.size)
            clear hbz r1 r2 r3 r4 r5 r6 r7 r8
            go_wp2_with fail
            go_roundg (n - (k + 1))
            case measure => omega
            case rel => exact ⟨k + 1, vn, vb, by omega, by omega, rfl, rfl, by go_num, BZ, Lib.hid (by rw [NX.out (by rw [← HHX.out]; unfold ofTp; simp [HH.out])]; exact HZ.out)⟩
        · obtain ⟨d1, d2⟩ := int_ne h3
          have HH := Lib.hid h3
          clear h3
          go_wp2_with fail
          refine region_below (by kernel_rfl) (by kernel_rfl) ?_
          repeat (go_big_quiet_step (fail))
          refine wpQuiet_nil ?_
          intro wz hbz
          have BZ := Lib.hid (below_from hbz hb.out hb.out.size)
          clear hbz r1 r2 r3 r4 r5 r6 r7 r8
          go_wp2_with fail
          go_roundg (n - (k + 1))
          case measure => omega
          case rel => exact ⟨k + 1, vn, vb, by omega, by omega, rfl, rfl, by go_num, BZ, Lib.hid (by rw [NX.out (by rw [← HHX.out]; unfold ofTp; simp [HH.out])]; exact HZ.out)⟩
      · obtain ⟨d1, d2, d3⟩ := str_nes h2
        have HH := Lib.hid h2
        clear h2
        go_wp2_with fail
        refine region_below (by kernel_rfl) (by kernel_rfl) ?_
        repeat (go_big_quiet_step (fail))
        refine wpQuiet_nil ?_
        intro wz hbz
        have BZ := Lib.hid (below_from hbz hb.out hb.out.size)
        clear hbz r1 r2 r3 r4 r5 r6 r7 r8
        go_wp2_with fail
        go_roundg (n - (k + 1))
        case measure => omega
        case rel => exact ⟨k + 1, vn, vb, by omega, by omega, rfl, rfl, by go_num, BZ, Lib.hid (by rw [NX.out (by rw [← HHX.out]; unfold ofTp; simp [HH.out])]; exact HZ.out)⟩
    · have jn : k = n := by omega
      subst jn
      have HZ2 := Lib.hid (show minV ((L.filter (ofTp t p h)).map Ps.o) = (vn, vb) from by have := HZ.out; rw [List.take_of_length_le (Nat.le_of_eq LN.out)] at this; exact this)
      clear HZ hgg hk hlt
      go_wp2_with fail
      go_loopg [6, 7, 9] n' (fun kx s6 s7 s8 wr => ∃ (k : Nat) (vn : Int) (vb : Bool), k ≤ n' ∧ n' - k ≤ kx ∧ s6 = .int .i64 vn ∧ s7 = .bool vb ∧ s8 = .int .i64 k ∧ Hid (Below W0.heap.size W0 wr) ∧ Hid (minV (((L.filter (ofTp t p h)).map Ps.o ++ (((M.take k).map Wt.pos).filter (ofTp t p h)).map Ps.o)) = (vn, vb)))
      case atStart => exact ⟨0, vn, vb, Nat.zero_le _, by omega, rfl, rfl, rfl, hb, Lib.hid (by simpa using HZ2.out)⟩
      case round =>
        obtain ⟨k, vn, vb, hk, hgg, rfl, rfl, rfl, hb, HZ⟩ := hrel
        have sc := (S0.out.past hb.out).cell
        have sl := (S0.out.past hb.out).lt
        by_cases hlt : k < n'
        · obtain ⟨bb, off, hkl, hA, hbl, u9, u0, u1, u2, u3, u4⟩ := Wts.at_ (HM.out.below (B0.out.trans (hb.out.mono B0.out.size))) hlt
          obtain ⟨x, hx⟩ : ∃ x, M[k] = x := ⟨_, rfl⟩
          rw [hx] at u9 u0 u1 u2 u3 u4
          have TK := Lib.hid (show M.take (k + 1) = M.take k ++ [x] from by rw [List.take_succ_eq_append_getElem hkl, hx])
          have NX := Lib.hid (show ofTp t p h x.pos = false → ((L.filter (ofTp t p h)).map Ps.o ++ (((M.take (k + 1)).map Wt.pos).filter (ofTp t p h)).map Ps.o) = ((L.filter (ofTp t p h)).map Ps.o ++ (((M.take k).map Wt.pos).filter (ofTp t p h)).map Ps.o) from fun hn => by rw [TK.out, List.map_append, List.filter_append, List.map_append]; simp [hn])
          have YES := Lib.hid (show ofTp t p h x.pos = true → ((L.filter (ofTp t p h)).map Ps.o ++ (((M.take (k + 1)).map Wt.pos).filter (ofTp t p h)).map Ps.o) = ((L.filter (ofTp t p h)).map Ps.o ++ (((M.take k).map Wt.pos).filter (ofTp t p h)).map Ps.o) ++ [x.pos.o] from fun hn => by rw [TK.out, List.map_append, List.filter_append, List.map_append, List.append_assoc]; simp [hn])
          have RX := Lib.hid (fun W (hW : Below wr.heap.size wr W) => (show (∀ d os, (Go.Sort.grow (redrawn W d) os).cell? ⟨bb, off + k * 6 + 2, none⟩ = some (.string x.pos.t)) ∧ (∀ d os, (Go.Sort.grow (redrawn W d) os).cell? ⟨bb, off + k * 6 + 3, none⟩ = some (.int .i64 x.pos.p)) ∧ (∀ d os, (Go.Sort.grow (redrawn W d) os).cell? ⟨bb, off + k * 6 + 4, none⟩ = some (.int .i64 x.pos.h)) ∧ (∀ d os, (Go.Sort.grow (redrawn W d) os).cell? ⟨bb, off + k * 6 + 5, none⟩ = some (.int .i64 x.pos.o)) ∧ (∀ d os, (Go.Sort.grow (redrawn W d) os).cell? ⟨w.heap.size, 1, none⟩ = some (.slice (some ⟨bb, off, none⟩) n' c')) ∧ (∀ d os, (Go.Sort.grow (redrawn W d) os).cell? ⟨w.heap.size + 1, 0, none⟩ = some (.string t)) ∧ (∀ d os, (Go.Sort.grow (redrawn W d) os).cell? ⟨w.heap.size + 1, 1, none⟩ = some (.int .i64 p)) ∧ (∀ d os, (Go.Sort.grow (redrawn W d) os).cell? ⟨w.heap.size + 1, 2, none⟩ = some (.int .i64 h)) from ⟨at_regrown ((hW.cell hbl).trans u1), at_regrown ((hW.cell hbl).trans u2), at_regrown ((hW.cell hbl).trans u3), at_regrown ((hW.cell hbl).trans u4), at_regrown (((S0.out.past (Below.trans hb.out (hW.mono hb.out.size))).cell 1).trans (by rw [hA]; rfl)), at_regrown (((T0.out.past (Below.trans hb.out (hW.mono hb.out.size))).cell 0).trans (by rfl)), at_regrown (((T0.out.past (Below.trans hb.out (hW.mono hb.out.size))).cell 1).trans (by rfl)), at_regrown (((T0.out.past (Below.trans hb.out (hW.mono hb.out.size))).cell 2).trans (by rfl))⟩))
          obtain ⟨r1, r2, r3, r4, r5, r6, r7, r8⟩ := RX.out wr (Below.refl _ _)
          have k0 : (0 : Int) ≤ (k : Int) := by omega
          have k1 : (k : Int) < (n' : Int) := by omega
          have HA := Lib.hid hA
          have sc0 : wr.cell? ⟨w.heap.size, 1, none⟩ = some (.slice (some ⟨bb, off, none⟩) n' c') := (sc 1).trans (by rw [hA]; rfl)
          clear hx hkl hA sc
          obtain ⟨xi, xg, xt, xp, xh, xo⟩ := x
          simp only at r1 r2 r3 r4 u4 NX YES
          obtain ⟨hx, hhx⟩ : ∃ b, ofTp t p h ⟨xg, xt, xp, xh, xo⟩ = b := ⟨_, rfl⟩
          rw [hhx] at NX YES
          have HHX := Lib.hid hhx
          clear hhx u9 u0 u1 u2 u3
          by_cases h2 : xt = t
          · subst h2
            by_cases h3 : xp = p
            · subst h3
              by_cases h4 : xh = h
              · subst h4
                have YS := Lib.hid (YES.out (by rw [← HHX.out]; unfold ofTp; simp))
                cases vb with
                | false =>
                  go_wp2_with fail
                  refine region_below (by kernel_rfl) (by kernel_rfl) ?_
                  repeat (go_big_quiet_step (fail))
                  refine wpQuiet_nil ?_
                  intro wz hbz
                  have BZ := Lib.hid (below_from hbz hb.out hb.out.size)
                  have z1 := (hbz.cell hbl).trans u4
                  have z2 := ((S0.out.past (Below.trans hb.out (hbz.mono hb.out.size))).cell 1).trans (show _ = some (Value.slice (some ⟨bb, off, none⟩) n' c') from by rw [← HA.out]; rfl)
                  have z3 := (S0.out.past (Below.trans hb.out (hbz.mono hb.out.size))).lt
                  have z4 := Nat.lt_of_lt_of_le hbl hbz.size
                  clear hbz r1 r2 r3 r4 r5 r6 r7 r8
                  go_wp2_with fail
                  go_roundg (n' - (k + 1))
                  case measure => omega
                  case rel => exact ⟨k + 1, xo, true, by omega, by omega, rfl, rfl, by go_num, BZ, Lib.hid (by rw [YS.out, min_step, HZ.out]; simp )⟩
                | true =>
                  by_cases hlt2 : xo < vn
                  · have e1 : decide (xo < vn) = true := decide_eq_true hlt2
                    have HX := Lib.hid hlt2
                    clear hlt2
                    go_wp2_with fail
                    refine region_below (by kernel_rfl) (by kernel_rfl) ?_
                    repeat (go_big_quiet_step (fail))
                    refine wpQuiet_nil ?_
                    intro wz hbz
                    have BZ := Lib.hid (below_from hbz hb.out hb.out.size)
                    have z1 := (hbz.cell hbl).trans u4
                    have z2 := ((S0.out.past (Below.trans hb.out (hbz.mono hb.out.size))).cell 1).trans (show _ = some (Value.slice (some ⟨bb, off, none⟩) n' c') from by rw [← HA.out]; rfl)
                    have z3 := (S0.out.past (Below.trans hb.out (hbz.mono hb.out.size))).lt
                    have z4 := Nat.lt_of_lt_of_le hbl hbz.size
                    clear hbz r1 r2 r3 r4 r5 r6 r7 r8
                    go_wp2_with fail
                    go_roundg (n' - (k + 1))
                    case measure => omega
                    case rel => exact ⟨k + 1, xo, true, by omega, by omega, rfl, rfl, by go_num, BZ, Lib.hid (by rw [YS.out, min_step, HZ.out]; simp [HX.out])⟩
                  · have e1 : decide (xo < vn) = false := decide_eq_false hlt2
                    have HX := Lib.hid hlt2
                    clear hlt2
                    go_wp2_with fail
                    refine region_below (by kernel_rfl) (by kernel_rfl) ?_
                    repeat (go_big_quiet_step (fail))
                    refine wpQuiet_nil ?_
                    intro wz hbz
                    have BZ := Lib.hid (below_from hbz hb.out hb.out.size)
                    clear hbz r1 r2 r3 r4 r5 r6 r7 r8
                    go_wp2_with fail
                    go_roundg (n' - (k + 1))
                    case measure => omega
                    case rel => exact ⟨k + 1, vn, true, by omega, by omega, rfl, rfl, by go_num, BZ, Lib.hid (by rw [YS.out, min_step, HZ.out]; simp; intro h; have := HX.out; omega)⟩
              · obtain ⟨d1, d2⟩ := int_ne h4
                have HH := Lib.hid h4
                clear h4
                go_wp2_with fail
                refine region_below (by kernel_rfl) (by kernel_rfl) ?_
                repeat (go_big_quiet_step (fail))
                refine wpQuiet_nil ?_
                intro wz hbz
                have BZ := Lib.hid (below_from hbz hb.out hb.out.size)
                clear hbz r1 r2 r3 r4 r5 r6 r7 r8
                go_wp2_with fail
                go_roundg (n' - (k + 1))
                case measure => omega
                case rel => exact ⟨k + 1, vn, vb, by omega, by omega, rfl, rfl, by go_num, BZ, Lib.hid (by rw [NX.out (by rw [← HHX.out]; unfold ofTp; simp [HH.out])]; exact HZ.out)⟩
            · obtain ⟨d1, d2⟩ := int_ne h3
              have HH := Lib.hid h3
              clear h3
              go_wp2_with fail
              refine region_below (by kernel_rfl) (by kernel_rfl) ?_
              repeat (go_big_quiet_step (fail))
              refine wpQuiet_nil ?_
              intro wz hbz
              have BZ := Lib.hid (below_from hbz hb.out hb.out.size)
              clear hbz r1 r2 r3 r4 r5 r6 r7 r8
              go_wp2_with fail
              go_roundg (n' - (k + 1))
              case measure => omega
              case rel => exact ⟨k + 1, vn, vb, by omega, by omega, rfl, rfl, by go_num, BZ, Lib.hid (by rw [NX.out (by rw [← HHX.out]; unfold ofTp; simp [HH.out])]; exact HZ.out)⟩
          · obtain ⟨d1, d2, d3⟩ := str_nes h2
            have HH := Lib.hid h2
            clear h2
            go_wp2_with fail
            refine region_below (by kernel_rfl) (by kernel_rfl) ?_
            repeat (go_big_quiet_step (fail))
            refine wpQuiet_nil ?_
            intro wz hbz
            have BZ := Lib.hid (below_from hbz hb.out hb.out.size)
            clear hbz r1 r2 r3 r4 r5 r6 r7 r8
            go_wp2_with fail
            go_roundg (n' - (k + 1))
            case measure => omega
            case rel => exact ⟨k + 1, vn, vb, by omega, by omega, rfl, rfl, by go_num, BZ, Lib.hid (by rw [NX.out (by rw [← HHX.out]; unfold ofTp; simp [HH.out])]; exact HZ.out)⟩
        · have jn : k = n' := by omega
          subst jn
          have RE : R = (vn, vb) := by have := HZ.out; rw [List.take_of_length_le (Nat.le_of_eq LM.out), HR.out] at this; exact this
          go_wp2_with fail
          go_ret2
          exact ⟨by rw [RE]; rfl, B0.out.trans (hb.out.mono B0.out.size)⟩

end Go.Proofs.Ytnkjkgakbgjddaa
