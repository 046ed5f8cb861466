/- ObjectLists of layer 14: the walk. -/
import Derived.Test.YtnnmppnbkplamaaLive
import Derived.Test.YtnnmppnbkplamaaListsP
import Derived.Test.YtnnmppnbkplamaaObjs
namespace Go.Proofs.Ytnnmppnbkplamaa
open Go.RowKit Go.Shelf

set_option maxHeartbeats 8000000 in
set_option maxRecDepth 100000 in
theorem lists_any (A : Option Addr) (n c : Nat) (l : List Ob) (calls : Int) (A' : Option Addr) (n' c' : Nat) (fs : List Ft) (p nm : ByteArray) (w : World) (hl : Obs w A n c l) (hf : Fts w A' n' c' fs) (hsz : p.size ≤ maxLen) (hsn : nm.size ≤ maxLen) :
    Calls Try.prog 8 #[stV A n c calls A' n' c', .string p, .string nm] w fun e w' => e = .returned (.bool true) ∧ Below w.heap.size w w' := by
  obtain ⟨L, hL⟩ : ∃ L, l.map Ob.val = L := ⟨_, rfl⟩
  have V := Lib.hid hL
  have HC := lists_cases L calls fs p
  obtain ⟨r, hr⟩ : ∃ r, listR L calls fs p = r := ⟨_, rfl⟩
  obtain ⟨⟨L1, C, fs1⟩, nms, E⟩ := r
  rw [hr] at HC
  simp only at HC
  obtain ⟨q, hq⟩ : ∃ q, byR L nm = q := ⟨_, rfl⟩
  obtain ⟨bn, hn⟩ := q
  have R := Lib.hid hr
  have Q := Lib.hid hq
  have OB := Lib.hid objs_any
  clear hr hq hL
  have B0 := Lib.hid (below_alloc1 w (.cells #[.slice A n c, .int .i64 calls, .slice A' n' c'] 25))
  have S0 := Lib.hid (Has.newAt w #[.slice A n c, .int .i64 calls, .slice A' n' c'] 25 (g := w.heap.size) rfl)
  have O0 := Lib.hid (hl.alloc (.cells #[.slice A n c, .int .i64 calls, .slice A' n' c'] 25))
  have F0 := Lib.hid (hf.alloc (.cells #[.slice A n c, .int .i64 calls, .slice A' n' c'] 25))
  have LV := Lib.hid live_any
  have FW := Lib.hid few_any
  have PT := Lib.hid put_at
  have GT := Lib.hid get_at
  have LT := Lib.hid list_at
  have DT := Lib.hid del_at
  have BY := Lib.hid bytes_at
  clear hl hf
  go_enter Try.func8, Try.ntmps8
  go_wp2_with fail
  refine (LV.out _).mono ?_
  intro e w1 hx
  obtain ⟨rfl, hb⟩ := hx
  have B1 := Lib.hid (below_from hb B0.out B0.out.size)
  have S1 := Lib.hid (S0.out.past hb)
  have cS1 := S1.out.cell
  have lS1 := S1.out.lt
  have O1 := Lib.hid (O0.out.below hb)
  have F1 := Lib.hid (F0.out.below hb)
  clear hb
  go_wp2_with fail
  refine (FW.out A n c l calls A' n' c' nm none 0 0 _ O1.out).mono ?_
  intro e w2 hx
  obtain ⟨⟨bf, rfl⟩, hb⟩ := hx
  have B2 := Lib.hid (below_from hb B1.out B1.out.size)
  have S2 := Lib.hid (S1.out.past hb)
  have cS2 := S2.out.cell
  have lS2 := S2.out.lt
  have O2 := Lib.hid (O1.out.below hb)
  have F2 := Lib.hid (F1.out.below hb)
  clear hb cS1 lS1
  cases bf with
  | false =>
    go_wp2_with fail
    go_ret
    exact ⟨rfl, B2.out⟩
  | true => ?_
  by_cases h2 : 200 < p.size
  · go_wp2_with fail
    go_ret
    exact ⟨rfl, B2.out⟩
  go_wp2_with fail
  refine (LT.out A n c l calls A' n' c' fs p _ O2.out F2.out hsz V.out R.out).mono ?_
  intro e w4 hx
  obtain ⟨A4, n4, c4, l4, A4', n4', c4', A4x, n4x, c4x, rfl, ho, hv, hf, hs, hb⟩ := hx
  have V4 := Lib.hid hv
  have bk3 := hb.alloc hb.size (.cells #[.slice A4 n4 c4, .int .i64 C, .slice A4' n4' c4'] 25)
  have B3 := Lib.hid (below_from bk3 B2.out B2.out.size)
  have S3 := Lib.hid (S2.out.past bk3)
  have cS3 := S3.out.cell
  have lS3 := S3.out.lt
  have O3 := Lib.hid (O2.out.below bk3)
  have F3 := Lib.hid (F2.out.below bk3)
  have X3 := Lib.hid ((hs).alloc (.cells #[.slice A4 n4 c4, .int .i64 C, .slice A4' n4' c4'] 25))
  have P3 := Lib.hid ((ho).alloc (.cells #[.slice A4 n4 c4, .int .i64 C, .slice A4' n4' c4'] 25))
  have T3 := Lib.hid (Has.newAt w4 #[.slice A4 n4 c4, .int .i64 C, .slice A4' n4' c4'] 25 (g := w4.heap.size) rfl)
  have cT3 := T3.out.cell
  have lT3 := T3.out.lt
  clear bk3
  clear cS2 lS2 hb ho hv hf hs
  have XL := Lib.hid X3.out.len
  have hxc := X3.out.cap
  have hxm := X3.out.max
  rcases HC with ⟨h0, rfl, h1⟩ | ⟨rfl, h1, rfl, h3⟩
  · have n0 : n4x = 0 := XL.out.symm
    subst n0
    have m0 : (E != 0) = true := by simpa using h0
    rcases h1 with h1 | ⟨rfl, rfl, h4, h5⟩
    · have m1 : (E != 140) = true := by simpa using h1
      go_wp2_with fail
      go_ret
      exact ⟨ret_bool (by first | rfl | simp), B3.out⟩
    · have wc : IntKind.i64.wrap (calls + 1) = calls + 1 := IntWalk.i64_in _ (by omega)
      go_wp2_with fail
      go_ret
      exact ⟨ret_bool (by first | rfl | simp), B3.out⟩
  have NM := Lib.hid h1
  have OK := Lib.hid h3
  clear h1 h3
  obtain ⟨W7, hW7⟩ : ∃ W7, W7 = (w4.alloc (.cells #[.slice A4 n4 c4, .int .i64 C, .slice A4' n4' c4'] 25)) := ⟨_, rfl⟩
  have X7 := Lib.hid (show Sl strK W7 A4x n4x c4x nms from by rw [hW7]; exact X3.out)
  have S7 := Lib.hid (show Has W7 w.heap.size #[.slice A n c, .int .i64 calls, .slice A' n' c'] from by rw [hW7]; exact S3.out)
  have T7 := Lib.hid (show Has W7 w4.heap.size #[.slice A4 n4 c4, .int .i64 C, .slice A4' n4' c4'] from by rw [hW7]; exact T3.out)
  have O7 := Lib.hid (show Obs W7 A n c l from by rw [hW7]; exact O3.out)
  have P7 := Lib.hid (show Obs W7 A4 n4 c4 l4 from by rw [hW7]; exact P3.out)
  have B7 := Lib.hid (show Below w.heap.size w W7 from by rw [hW7]; exact B3.out)
  go_wp2_with fail
  rw [← hW7]
  clear cS3 lS3 cT3 lT3 S3 T3 O3 F3 X3 P3 B3 hW7
  go_loopg [11, 12] n4x (fun gg s11 s12 wr => ∃ k : Nat, k ≤ n4x ∧ n4x - k ≤ gg ∧ s11 = .bool (inS nm (nms.take k)) ∧ s12 = .int .i64 k ∧ Hid (Below W7.heap.size W7 wr))
  case atStart => exact ⟨0, Nat.zero_le _, by omega, by rw [List.take_zero]; rfl, rfl, Lib.hid (Below.refl _ _)⟩
  case round =>
    obtain ⟨k, hk, hgg, rfl, rfl, hb⟩ := hrel
    have S8 := Lib.hid (S7.out.past hb.out)
    have T8 := Lib.hid (T7.out.past hb.out)
    have O8 := Lib.hid (O7.out.below hb.out)
    have X8 := Lib.hid (X7.out.below hb.out)
    by_cases hlt : k < n4x
    · obtain ⟨bk, off, hkl, rfl, hbl, x0⟩ := str_at X8.out hlt
      have hkn : k < (namesO L1 p).length := by rw [← NM.out]; exact hkl
      obtain ⟨bz, hz1, hz2, hz3⟩ := names_get OK.out hkn
      have ez : (namesO L1 p)[k] = nms[k] := by congr 1; exact NM.out.symm
      rw [ez] at hz1 hz2 hz3
      have TM := Lib.hid (take_mem (s := nm) hkl)
      have LT8 : Hid (∀ j, (hj : j + 1 = k) → cmpS (nms[j]'(by omega)) nms[k] < 0) := Lib.hid (fun j hj => by
        have := hz3 j (by omega)
        have e2 : (namesO L1 p)[j] = nms[j] := by congr 1; exact NM.out.symm
        rw [e2] at this
        exact this)
      clear hz3 ez
      have BYZ := Lib.hid (fun w' (h : Below wr.heap.size wr w') => BY.out A n c l calls A' n' c' nms[k] w' (O8.out.below h) V.out hz1)
      have PRV : Hid (∀ j, (hj : j + 1 = k) → ∃ y, nms[j]'(by omega) = y ∧ ∀ w', Below wr.heap.size wr w' → w'.cell? ⟨bk, off + j, none⟩ = some (.string y)) := Lib.hid (fun j hj => by
        obtain ⟨b2, off2, hj2, e, hl2, y0⟩ := str_at X8.out (show j < n4x by omega)
        injection e with e; injection e with e1 e2 e3
        subst e1 e2
        exact ⟨_, rfl, fun w' h => (h.cell (p := ⟨bk, off + j, none⟩) hl2).trans y0⟩)
      generalize hzz : nms[k] = z at *
      unfold begP at hz2
      rw [Bool.and_eq_true, decide_eq_true_iff] at hz2
      obtain ⟨hz2, hz4⟩ := hz2
      have r0 := at_regrown (a := ⟨w.heap.size, 0, none⟩) (v := .slice A n c) (S8.out.cell 0)
      have r1 := at_regrown (a := ⟨w.heap.size, 1, none⟩) (v := .int .i64 calls) (S8.out.cell 1)
      have r2 := at_regrown (a := ⟨w.heap.size, 2, none⟩) (v := .slice A' n' c') (S8.out.cell 2)
      have r3 := at_regrown x0
      have k0 : (0 : Int) ≤ (k : Int) := by omega
      have k1 : (k : Int) < (n4x : Int) := by omega
      have HX0 := Lib.hid x0
      clear x0
      go_wp2_with fail
      refine region_below (by kernel_rfl) (by kernel_rfl) ?_
      repeat (go_big_quiet_step ((go_at_call 25; exact call_regrown BYZ.out)))
      refine wpQuiet_nil ?_
      intro w1 hb1
      have HB1 := Lib.hid (hb1.trans (Below.refl _ _))
      have x1 : w1.cell? ⟨bk, off + k, none⟩ = some (.string z) := (hb1.cell (p := ⟨bk, off + k, none⟩) hbl).trans HX0.out
      have z1 := hb1.size
      clear r0 r1 r2 r3 hb1
      have p0 : (0 : Int) ≤ (p.size : Int) := by omega
      have p1 : (p.size : Int) ≤ (z.size : Int) := by omega
      have p2 : decide ((z.size : Int) < (p.size : Int)) = false := decide_eq_false (by omega)
      have p2' : decide (z.size < p.size) = false := decide_eq_false (by omega)
      have B3 := Lib.hid (fun w2 (h : Below w1.heap.size w1 w2) => hb.out.trans ((HB1.out.mono (by have := hb.out.size; omega)).trans (h.mono (by have := hb.out.size; omega))))
      have XM : Hid (∀ w2, Below w1.heap.size w1 w2 → w2.cell? ⟨bk, off + k, none⟩ = some (.string z)) := Lib.hid (fun w2 h => (h.cell (p := ⟨bk, off + k, none⟩) (Nat.lt_of_lt_of_le hbl z1)).trans x1)
      have rx := at_regrown x1
      clear x1
      rcases (show k = 0 ∨ ∃ j, j + 1 = k by cases k with | zero => exact .inl rfl | succ j => exact .inr ⟨j, rfl⟩) with k00 | ⟨j, hjk⟩
      · have d0 : decide ((0 : Int) < (k : Int)) = false := decide_eq_false (by omega)
        have d0' : decide (0 < k) = false := decide_eq_false (by omega)
        clear k00
        go_wp2_with fail
        refine region_below (by kernel_rfl) (by kernel_rfl) ?_
        repeat (go_big_quiet_step (fail))
        refine wpQuiet_nil ?_
        intro w2 hb2
        have xq := XM.out w2 hb2
        have B4 := Lib.hid (B3.out w2 hb2)
        clear rx hb2
        cases hin : inS nm (nms.take k) with
        | true =>
          go_wp2_with fail
          go_roundg (n4x - (k + 1))
          case measure => omega
          case rel => exact ⟨k + 1, by omega, by omega, by rw [TM.out, hin]; rfl, by go_num, B4⟩
        | false =>
          by_cases ezn : z = nm
          · subst ezn
            go_wp2_with fail
            go_roundg (n4x - (k + 1))
            case measure => omega
            case rel => exact ⟨k + 1, by omega, by omega, by rw [TM.out, hin]; simp, by go_num, B4⟩
          · have nez := str_ne ezn
            go_wp2_with fail
            go_roundg (n4x - (k + 1))
            case measure => omega
            case rel => exact ⟨k + 1, by omega, by omega, by rw [TM.out, hin, decide_eq_false ezn]; rfl, by go_num, B4⟩
      · have d0 : decide ((0 : Int) < (k : Int)) = true := decide_eq_true (by omega)
        have d0' : decide (0 < k) = true := decide_eq_true (by omega)
        obtain ⟨y, hy1, hy2⟩ := PRV.out j hjk
        have lt8 := LT8.out j hjk
        rw [hy1] at lt8
        obtain ⟨l1', l2'⟩ := later lt8
        have ry := at_regrown (hy2 _ HB1.out)
        have wj : IntKind.i64.wrap ((k : Int) - 1) = (j : Int) := by rw [IntWalk.i64_in _ (by omega)]; omega
        have j0 : (0 : Int) ≤ (j : Int) := by omega
        have j1 : (j : Int) < (n4x : Int) := by omega
        clear hy1 hy2 lt8 hjk
        go_wp2_with fail
        refine region_below (by kernel_rfl) (by kernel_rfl) ?_
        repeat (go_big_quiet_step (fail))
        refine wpQuiet_nil ?_
        intro w2 hb2
        have xq := XM.out w2 hb2
        have B4 := Lib.hid (B3.out w2 hb2)
        clear rx ry hb2
        cases hin : inS nm (nms.take k) with
        | true =>
          go_wp2_with fail
          go_roundg (n4x - (k + 1))
          case measure => omega
          case rel => exact ⟨k + 1, by omega, by omega, by rw [TM.out, hin]; rfl, by go_num, B4⟩
        | false =>
          by_cases ezn : z = nm
          · subst ezn
            go_wp2_with fail
            go_roundg (n4x - (k + 1))
            case measure => omega
            case rel => exact ⟨k + 1, by omega, by omega, by rw [TM.out, hin]; simp, by go_num, B4⟩
          · have nez := str_ne ezn
            go_wp2_with fail
            go_roundg (n4x - (k + 1))
            case measure => omega
            case rel => exact ⟨k + 1, by omega, by omega, by rw [TM.out, hin, decide_eq_false ezn]; rfl, by go_num, B4⟩
    · obtain rfl : k = n4x := by omega
      have FIN : Hid (inS nm (nms.take k) = (hn && begP nm p)) := by
        rw [List.take_of_length_le (by rw [XL.out]; omega), NM.out, names_mem OK.out, Q.out]
        exact Lib.hid rfl
      have s8c := S8.out.cell
      have s8l := S8.out.lt
      have P8 := Lib.hid (P7.out.below hb.out)
      have B8 := Lib.hid (below_from hb.out B7.out B7.out.size)
      have SAME := Lib.hid (show decide (l4.map Ob.val = l.map Ob.val) = true from decide_eq_true (V4.out.trans V.out.symm))
      generalize inS nm (nms.take k) = si at *
      go_wp2_with fail
      refine (BY.out A n c l calls A' n' c' nm wr O8.out V.out Q.out).mono ?_
      rintro e w9 ⟨rfl, hb9⟩
      have S9 := Lib.hid (S8.out.past hb9)
      have T9 := Lib.hid (T8.out.past hb9)
      have OB9 := Lib.hid (OB.out A4 n4 c4 l4 A n c l w9 (P8.out.below hb9) (O8.out.below hb9))
      have B9 := Lib.hid (below_from hb9 B8.out B8.out.size)
      have s9c := S9.out.cell
      have s9l := S9.out.lt
      have t9c := T9.out.cell
      have t9l := T9.out.lt
      rw [SAME.out] at OB9
      clear hb9 s8c s8l
      unfold begP at FIN
      have p0 : (0 : Int) ≤ (p.size : Int) := by omega
      by_cases hp : p.size ≤ nm.size
      · have p1 : (p.size : Int) ≤ (nm.size : Int) := by omega
        rw [decide_eq_true hp, Bool.true_and] at FIN
        cases hx : ((nm.extract 0 p.size).toList == p.toList)
        all_goals
          rw [hx] at FIN
          have fin := FIN.out
          subst fin
          go_wp2_with fail
          refine OB9.out.mono ?_
          rintro e w10 ⟨rfl, hb10⟩
          have B10 := Lib.hid (below_from hb10 B9.out B9.out.size)
          clear hb10 s9c s9l t9c t9l
          cases hn <;> (go_wp2_with fail; go_ret; exact ⟨ret_bool (by first | rfl | simp), B10.out⟩)
      · have p1 : ¬ (p.size : Int) ≤ (nm.size : Int) := by omega
        rw [decide_eq_false hp, Bool.false_and, Bool.and_false] at FIN
        have fin := FIN.out
        subst fin
        go_wp2_with fail
        refine OB9.out.mono ?_
        rintro e w10 ⟨rfl, hb10⟩
        have B10 := Lib.hid (below_from hb10 B9.out B9.out.size)
        clear hb10 s9c s9l t9c t9l
        cases hn <;> (go_wp2_with fail; go_ret; exact ⟨ret_bool (by first | rfl | simp), B10.out⟩)

end Go.Proofs.Ytnnmppnbkplamaa
