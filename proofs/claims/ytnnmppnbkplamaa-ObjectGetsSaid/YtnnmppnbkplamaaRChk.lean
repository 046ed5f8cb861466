/- The document's Check, may, begins. -/
import Derived.Test.YtnnmppnbkplamaaRNm
import Derived.Test.YtnnmppnbkplamaaListsP
namespace Go.Proofs.Ytnnmppnbkplamaa
open Go.RowKit Go.Shelf

theorem begins_any (s p : ByteArray) (w : World) (hs : s.size ≤ maxLen) : Calls Try.prog 50 #[.string s, .string p] w fun e w' => e = .returned (.bool (begP s p)) ∧ w = w' := by
  have hmax : s.size ≤ 9223372036854775807 := by simpa [maxLen] using hs
  clear hs
  have p0 : (0 : Int) ≤ (p.size : Int) := by omega
  by_cases hp : p.size ≤ s.size
  · have p1 : (p.size : Int) ≤ (s.size : Int) := by omega
    have BG := Lib.hid (show begP s p = ((s.extract 0 p.size).toList == p.toList) from by unfold begP; rw [decide_eq_true hp, Bool.true_and])
    cases hx : ((s.extract 0 p.size).toList == p.toList)
    all_goals
      rw [hx] at BG
      go_enter Try.func50, Try.ntmps50
      go_wp2_with fail
      go_ret
      exact ⟨ret_bool (by first | (rw [BG.out]; done) | (rw [BG.out]; rfl) | simp_all), rfl⟩
  · have p1 : ¬ (p.size : Int) ≤ (s.size : Int) := by omega
    have BG := Lib.hid (show begP s p = false from by unfold begP; rw [decide_eq_false hp, Bool.false_and])
    go_enter Try.func50, Try.ntmps50
    go_wp2_with fail
    go_ret
    exact ⟨ret_bool (by rw [BG.out]), rfl⟩

theorem le_nil {s : ByteArray} (h : nameC s = true) : leS s ⟨#[]⟩ = false := by
  have hn : 0 < s.size := by
    unfold nameC at h
    rw [Bool.and_eq_true, decide_eq_true_iff] at h
    exact h.1.1
  rw [leS_eq]
  refine decide_eq_false (fun hc => hc ?_)
  obtain ⟨⟨d⟩⟩ := s
  unfold cmpS
  show Lib.compareBytes [] d < 0
  cases d with
  | nil => exact absurd hn (by decide)
  | cons a r =>
    unfold Lib.compareBytes
    omega
theorem objE_vals {L : List Oc} (h : ∀ k, k < L.length → badO L k = false) : objE L = 0 := objE_ok h

/-- What is answered where the numbers may be. -/
def rcE (L : List Oc) (fs : List Ft) : Int := if fs.any oddF = true then 1 else objE L

set_option maxRecDepth 100000 in
set_option maxHeartbeats 8000000 in
theorem rcheck_in (A : Option Addr) (n c : Nat) (l : List Ob) (calls : Int) (A' : Option Addr) (n' c' : Nat) (fs : List Ft) (w : World) (hl : Obs w A n c l) (hf : Fts w A' n' c' fs) (h1 : ¬ 1024 < n) (h2 : ¬ 1024 < n') (h3 : ¬ calls < 0) (h4 : ¬ 1099511627776 ≤ calls) :
    Calls Try.prog 19 #[stV A n c calls A' n' c'] w fun e w' => e = .returned (.int .i64 (rcE (l.map Ob.val) fs)) ∧ Below w.heap.size w w' := by
  obtain ⟨W1, hW1⟩ : ∃ W1, W1 = w.alloc (.cells #[.slice A n c, .int .i64 calls, .slice A' n' c'] 25) := ⟨_, rfl⟩
  have B0 := Lib.hid (show Below w.heap.size w W1 from by rw [hW1]; exact below_alloc1 w _)
  have S0 := Lib.hid (show Has W1 w.heap.size #[.slice A n c, .int .i64 calls, .slice A' n' c'] from by rw [hW1]; exact Has.newAt w _ 25 rfl)
  have HL := Lib.hid hl
  have HF := Lib.hid hf
  have HN := Lib.hid hl.len
  have HN' := Lib.hid hf.len
  have HW := Lib.hid hW1
  obtain ⟨L, hL⟩ : ∃ L, L = l.map Ob.val := ⟨_, rfl⟩
  rw [← hL]
  have LL := Lib.hid hL
  clear hl hf hW1 hL
  go_enter Try.func19, Try.ntmps19
  go_wp2_with fail
  rw [← HW.out]
  go_loopg [3] n (fun gg s3 wr => ∃ k : Nat, k ≤ n ∧ n - k ≤ gg ∧ s3 = .int .i64 k ∧ Hid (Below W1.heap.size W1 wr) ∧ Hid (∀ j, j < k → badO L j = false))
  case atStart => exact ⟨0, Nat.zero_le _, by omega, rfl, Lib.hid (Below.refl _ _), Lib.hid (fun j hj => absurd hj (Nat.not_lt_zero _))⟩
  case round =>
    obtain ⟨k, hk, hgg, rfl, hb, hok⟩ := hrel
    have S1 := Lib.hid (S0.out.past hb.out)
    have s1c := S1.out.cell
    have s1l := S1.out.lt
    have BB := Lib.hid (below_from hb.out B0.out B0.out.size)
    by_cases hlt : k < n
    · obtain ⟨b, off, hkl, rfl, hbl, x0, x1⟩ := Obs.at_ (HL.out.below BB.out) hlt
      obtain ⟨x, hx⟩ : ∃ x, l[k] = x := ⟨_, rfl⟩
      have XI := Lib.hid (show Ob.In w x from by rw [← hx]; exact HL.out.each l[k] (List.getElem_mem hkl))
      have LK := Lib.hid (show L[k]? = some x.val from by rw [LL.out, List.getElem?_map, List.getElem?_eq_getElem hkl, hx]; rfl)
      have KL := Lib.hid (show k < L.length from by rw [LL.out, List.length_map]; exact hkl)
      have PRV : Hid (∀ j, (hj : j + 1 = k) → ∃ y, preS L k = y ∧ wr.cell? ⟨b, off + j * 2, none⟩ = some (.string y)) := Lib.hid (fun j hj => by
        obtain ⟨b2, off2, hj2, e, hl2, y0, _⟩ := Obs.at_ (HL.out.below BB.out) (show j < n by omega)
        injection e with e; injection e with e1 e2 e3
        subst e1 e2
        refine ⟨_, ?_, y0⟩
        rw [← hj]
        exact preS_succ (o := l[j].val) (by rw [LL.out, List.getElem?_map, List.getElem?_eq_getElem hj2]; rfl))
      rw [hx] at x0 x1
      clear hx
      obtain ⟨nm, xA, xn, xc, xb⟩ := x
      have XL := Lib.hid (show xb.length = xn from XI.out.sl.len)
      simp only at x0 x1
      have BAD := Lib.hid (show badO L k = (!nameC nm || (leS nm (preS L k) || decide (8192 < xn))) from by unfold badO; rw [LK.out, ← XL.out]; rfl)
      have NO : Hid (badO L k = true → rcE L fs = 1) := Lib.hid (fun h => by
        unfold rcE
        split
        · rfl
        · exact objE_bad KL.out h)
      have YES : Hid (badO L k = false → ∀ j, j < k + 1 → badO L j = false) := Lib.hid (fun h j hj => by
        rcases Nat.lt_or_ge j k with h' | h'
        · exact hok.out j h'
        · obtain rfl : j = k := by omega
          exact h)
      have RN := Lib.hid (fun w' (_ : Below wr.heap.size wr w') => rname_any nm w' XI.out.nm)
      have r0 := at_regrown (a := ⟨w.heap.size, 0, none⟩) (v := .slice (some ⟨b, off, none⟩) n c) (S1.out.cell 0)
      have r3 := at_regrown x0
      have r4 := at_regrown x1
      have k0 : (0 : Int) ≤ (k : Int) := by omega
      have k1 : (k : Int) < (n : Int) := by omega
      generalize hnm : nameC nm = nb at *
      cases nb with
      | false =>
        go_wp2_with fail
        refine region_below (by kernel_rfl) (by kernel_rfl) ?_
        repeat (go_big_quiet_step ((go_at_call 47; exact call_regrown_same RN.out)))
        refine wpQuiet_nil ?_
        intro w1 hb1
        have B1 := Lib.hid (below_from hb1 BB.out BB.out.size)
        clear hb1
        go_wp2_with fail
        go_ret
        exact ⟨ret_int (NO.out (by rw [BAD.out]; rfl)).symm, B1.out⟩
      | true =>
        by_cases h8 : 8192 < xn
        · have d8 : decide ((8192 : Int) < (xn : Int)) = true := decide_eq_true (by omega)
          have d8' : decide (8192 < xn) = true := decide_eq_true (by omega)
          go_wp2_with fail
          refine region_below (by kernel_rfl) (by kernel_rfl) ?_
          repeat (go_big_quiet_step ((go_at_call 47; exact call_regrown_same RN.out)))
          refine wpQuiet_nil ?_
          intro w1 hb1
          have B1 := Lib.hid (below_from hb1 BB.out BB.out.size)
          clear hb1
          go_wp2_with fail
          go_ret
          exact ⟨ret_int (NO.out (by rw [BAD.out, decide_eq_true h8]; simp)).symm, B1.out⟩
        · have d8 : decide ((8192 : Int) < (xn : Int)) = false := decide_eq_false (by omega)
          have d8' : decide (8192 < xn) = false := decide_eq_false (by omega)
          rcases (show k = 0 ∨ ∃ j, j + 1 = k by cases k with | zero => exact .inl rfl | succ j => exact .inr ⟨j, rfl⟩) with k00 | ⟨j, hjk⟩
          · have d0 : decide ((0 : Int) < (k : Int)) = false := decide_eq_false (by omega)
            have d0' : decide (0 < k) = false := decide_eq_false (by omega)
            have OKK := Lib.hid (show badO L k = false from by
              have hp : preS L k = ⟨#[]⟩ := by unfold preS; rw [if_pos k00]
              rw [BAD.out, hp, le_nil hnm, d8']; rfl)
            clear k00
            go_wp2_with fail
            refine region_below (by kernel_rfl) (by kernel_rfl) ?_
            repeat (go_big_quiet_step ((go_at_call 47; exact call_regrown_same RN.out)))
            refine wpQuiet_nil ?_
            intro w1 hb1
            have B1 := Lib.hid (below_from hb1 hb.out hb.out.size)
            clear hb1
            go_wp2_with fail
            go_roundg (n - (k + 1))
            case measure => omega
            case rel => exact ⟨k + 1, by omega, by omega, by go_num, B1, YES.out OKK.out⟩
          · have d0 : decide ((0 : Int) < (k : Int)) = true := decide_eq_true (by omega)
            have d0' : decide (0 < k) = true := decide_eq_true (by omega)
            obtain ⟨y, hy1, hy2⟩ := PRV.out j hjk
            have ry := at_regrown hy2
            have wj : IntKind.i64.wrap ((k : Int) - 1) = (j : Int) := by rw [IntWalk.i64_in _ (by omega)]; omega
            have j0 : (0 : Int) ≤ (j : Int) := by omega
            have j1 : (j : Int) < (n : Int) := by omega
            rw [hy1] at BAD
            clear hy1 hy2 hjk
            cases hq1 : Op.bytesLess nm.toList y.toList with
            | true =>
              have LS := Lib.hid (show leS nm y = true from by unfold leS; rw [hq1]; rfl)
              go_wp2_with fail
              refine region_below (by kernel_rfl) (by kernel_rfl) ?_
              repeat (go_big_quiet_step ((go_at_call 47; exact call_regrown_same RN.out)))
              refine wpQuiet_nil ?_
              intro w1 hb1
              have B1 := Lib.hid (below_from hb1 BB.out BB.out.size)
              clear hb1
              go_wp2_with fail
              go_ret
              exact ⟨ret_int (NO.out (by rw [BAD.out, LS.out]; simp)).symm, B1.out⟩
            | false =>
              cases hq2 : (nm.toList == y.toList) with
              | true =>
                have LS := Lib.hid (show leS nm y = true from by unfold leS; rw [hq1, hq2]; rfl)
                go_wp2_with fail
                refine region_below (by kernel_rfl) (by kernel_rfl) ?_
                repeat (go_big_quiet_step ((go_at_call 47; exact call_regrown_same RN.out)))
                refine wpQuiet_nil ?_
                intro w1 hb1
                have B1 := Lib.hid (below_from hb1 BB.out BB.out.size)
                clear hb1
                go_wp2_with fail
                go_ret
                exact ⟨ret_int (NO.out (by rw [BAD.out, LS.out]; simp)).symm, B1.out⟩
              | false =>
                have OKK := Lib.hid (show badO L k = false from by
                  have : leS nm y = false := by unfold leS; rw [hq1, hq2]; rfl
                  rw [BAD.out, this, d8']; rfl)
                go_wp2_with fail
                refine region_below (by kernel_rfl) (by kernel_rfl) ?_
                repeat (go_big_quiet_step ((go_at_call 47; exact call_regrown_same RN.out)))
                refine wpQuiet_nil ?_
                intro w1 hb1
                have B1 := Lib.hid (below_from hb1 hb.out hb.out.size)
                clear hb1
                go_wp2_with fail
                go_roundg (n - (k + 1))
                case measure => omega
                case rel => exact ⟨k + 1, by omega, by omega, by go_num, B1, YES.out OKK.out⟩
    · obtain rfl : k = n := by omega
      have OBJ := Lib.hid (show objE L = 0 from objE_ok (fun j hj => hok.out j (by rw [LL.out, List.length_map, HN.out] at hj; exact hj)))
      have hbw := hb
      go_wp2_with fail
      go_loopg [4] n' (fun gg s4 wq => ∃ m : Nat, m ≤ n' ∧ n' - m ≤ gg ∧ s4 = .int .i64 m ∧ wq = wr ∧ Hid (∀ j (hj : j < fs.length), j < m → oddF fs[j] = false))
      case atStart => exact ⟨0, Nat.zero_le _, by omega, rfl, rfl, Lib.hid (fun j _ hj => absurd hj (Nat.not_lt_zero _))⟩
      case round =>
        obtain ⟨m, hm, hgg2, rfl, rfl, hok2⟩ := hrel
        by_cases hlt2 : m < n'
        · obtain ⟨b, off, hkl, rfl, hbl, x0, x1⟩ := Fts.at_ (HF.out.below BB.out) hlt2
          have NO : Hid (oddF fs[m] = true → rcE L fs = 1) := Lib.hid (fun h => by
            unfold rcE
            rw [if_pos (List.any_eq_true.2 ⟨_, List.getElem_mem hkl, h⟩)])
          have YES : Hid (oddF fs[m] = false → ∀ j (hj : j < fs.length), j < m + 1 → oddF fs[j] = false) := Lib.hid (fun h j hj hjk => by
            rcases Nat.lt_or_ge j m with h' | h'
            · exact hok2.out j hj h'
            · obtain rfl : j = m := by omega
              exact h)
          generalize fs[m] = f at *
          obtain ⟨fc, fk⟩ := f
          simp only at x0 x1
          have OD : oddF ⟨fc, fk⟩ = (decide (fc < 0) || (decide (fk < 1) || decide (3 < fk))) := rfl
          rw [OD] at NO YES
          clear OD
          by_cases e1 : fc < 0
          · go_wp2_with fail
            go_ret
            exact ⟨ret_int (NO.out (by simp [e1])).symm, BB.out⟩
          · by_cases e2 : fk < 1
            · go_wp2_with fail
              go_ret
              exact ⟨ret_int (NO.out (by simp [e2])).symm, BB.out⟩
            · by_cases e3 : 3 < fk
              · go_wp2_with fail
                go_ret
                exact ⟨ret_int (NO.out (by simp [e3])).symm, BB.out⟩
              · go_wp2_with fail
                go_roundg (n' - (m + 1))
                case measure => omega
                case rel => exact ⟨m + 1, by omega, by omega, by go_num, rfl, YES.out (by simp; omega)⟩
        · obtain rfl : m = n' := by omega
          have FI : Hid (rcE L fs = 0) := by
            refine Lib.hid ?_
            unfold rcE
            rw [if_neg, OBJ.out]
            rw [Bool.not_eq_true, List.any_eq_false]
            intro x hx
            obtain ⟨j, hj, rfl⟩ := List.getElem_of_mem hx
            rw [hok2.out j hj (by rw [← HN'.out]; exact hj)]; decide
          go_wp2_with fail
          go_ret
          exact ⟨ret_int FI.out.symm, BB.out⟩

theorem rcE_check {L : List Oc} {calls : Int} {fs : List Ft} (h1 : ¬ (1024 < L.length ∨ 1024 < fs.length)) (h2 : ¬ (calls < 0 ∨ 1099511627776 ≤ calls)) : rcE L fs = checkO L calls fs := by
  unfold rcE checkO
  rw [if_neg h1]
  by_cases h3 : fs.any oddF = true
  · rw [if_pos h3, if_pos (.inr (.inr h3))]
  · rw [if_neg h3, if_neg (fun h => by rcases h with h | h | h; exact h2 (.inl h); exact h2 (.inr h); exact h3 h)]

set_option maxHeartbeats 4000000 in
/-- The document's Check. -/
theorem rcheck_any (A : Option Addr) (n c : Nat) (l : List Ob) (calls : Int) (A' : Option Addr) (n' c' : Nat) (fs : List Ft) (w : World) (hl : Obs w A n c l) (hf : Fts w A' n' c' fs) :
    Calls Try.prog 19 #[stV A n c calls A' n' c'] w fun e w' => e = .returned (.int .i64 (checkO (l.map Ob.val) calls fs)) ∧ Below w.heap.size w w' := by
  have hln : (l.map Ob.val).length = n := by rw [List.length_map, hl.len]
  have hfn := hf.len
  have B0 := Lib.hid (below_alloc1 w (.cells #[.slice A n c, .int .i64 calls, .slice A' n' c'] 25))
  by_cases h1 : 1024 < n
  · have hc : checkO (l.map Ob.val) calls fs = 2 := by unfold checkO; rw [if_pos (.inl (by rw [hln]; exact h1))]
    rw [hc]
    clear hl hf hln hfn hc
    go_enter Try.func19, Try.ntmps19
    go_wp2_with fail
    go_ret
    exact ⟨rfl, B0.out⟩
  · by_cases h2 : 1024 < n'
    · have hc : checkO (l.map Ob.val) calls fs = 2 := by unfold checkO; rw [if_pos (.inr (by rw [hfn]; exact h2))]
      rw [hc]
      clear hl hf hln hfn hc
      go_enter Try.func19, Try.ntmps19
      go_wp2_with fail
      go_ret
      exact ⟨rfl, B0.out⟩
    · by_cases h3 : calls < 0
      · have hc : checkO (l.map Ob.val) calls fs = 1 := by unfold checkO; rw [if_neg (by rw [hln, hfn]; omega), if_pos (.inl h3)]
        rw [hc]
        clear hl hf hln hfn hc
        go_enter Try.func19, Try.ntmps19
        go_wp2_with fail
        go_ret
        exact ⟨rfl, B0.out⟩
      · by_cases h4 : 1099511627776 ≤ calls
        · have hc : checkO (l.map Ob.val) calls fs = 1 := by unfold checkO; rw [if_neg (by rw [hln, hfn]; omega), if_pos (.inr (.inl h4))]
          rw [hc]
          clear hl hf hln hfn hc
          go_enter Try.func19, Try.ntmps19
          go_wp2_with fail
          go_ret
          exact ⟨rfl, B0.out⟩
        · rw [← rcE_check (by rw [hln, hfn]; omega) (by omega)]
          exact rcheck_in A n c l calls A' n' c' fs w hl hf h1 h2 h3 h4

set_option maxHeartbeats 4000000 in
/-- The document's may. -/
theorem rmay_any (A : Option Addr) (n c : Nat) (l : List Ob) (calls : Int) (A' : Option Addr) (n' c' : Nat) (fs : List Ft) (s : ByteArray) (w : World) (hl : Obs w A n c l) (hf : Fts w A' n' c' fs) (hs : s.size ≤ maxLen) :
    Calls Try.prog 37 #[stV A n c calls A' n' c', .string s] w fun e w' => e = .returned (.int .i64 (mayR (l.map Ob.val) calls fs s)) ∧ Below w.heap.size w w' := by
  obtain ⟨W1, hW1⟩ : ∃ W1, W1 = w.alloc (.cells #[.slice A n c, .int .i64 calls, .slice A' n' c'] 25) := ⟨_, rfl⟩
  have B0 := Lib.hid (show Below w.heap.size w W1 from by rw [hW1]; exact below_alloc1 w _)
  have CK := Lib.hid (rcheck_any A n c l calls A' n' c' fs W1 (hl.below B0.out) (hf.below B0.out))
  have NM := Lib.hid (fun w' => rname_any s w' hs)
  have HW := Lib.hid hW1
  unfold mayR mayE
  obtain ⟨ck, hck⟩ : ∃ ck, checkO (l.map Ob.val) calls fs = ck := ⟨_, rfl⟩
  obtain ⟨nb, hnb⟩ : ∃ nb, nameC s = nb := ⟨_, rfl⟩
  rw [hck] at CK ⊢
  rw [hnb] at NM ⊢
  clear hl hf hs hck hnb hW1
  by_cases h0 : ck = 0
  · subst h0
    cases nb with
    | true =>
      rw [if_pos rfl, if_pos rfl]
      go_enter Try.func37, Try.ntmps37
      go_wp2_with fail
      rw [← HW.out]
      refine CK.out.mono ?_
      rintro e w2 ⟨rfl, hb2⟩
      have B2 := Lib.hid (below_from hb2 B0.out B0.out.size)
      clear hb2
      go_wp2_with fail
      refine (NM.out _).mono ?_
      rintro e w3 ⟨rfl, rfl⟩
      go_wp2_with fail
      go_ret
      exact ⟨rfl, B2.out⟩
    | false =>
      rw [if_pos rfl, if_neg (by decide)]
      go_enter Try.func37, Try.ntmps37
      go_wp2_with fail
      rw [← HW.out]
      refine CK.out.mono ?_
      rintro e w2 ⟨rfl, hb2⟩
      have B2 := Lib.hid (below_from hb2 B0.out B0.out.size)
      clear hb2
      go_wp2_with fail
      refine (NM.out _).mono ?_
      rintro e w3 ⟨rfl, rfl⟩
      go_wp2_with fail
      go_ret
      exact ⟨rfl, B2.out⟩
  · rw [if_neg h0]
    have m0 : (ck == 0) = false := by rw [beq_eq_false_iff_ne]; exact h0
    have d0 : decide (ck = 0) = false := decide_eq_false h0
    go_enter Try.func37, Try.ntmps37
    go_wp2_with fail
    rw [← HW.out]
    refine CK.out.mono ?_
    rintro e w2 ⟨rfl, hb2⟩
    have B2 := Lib.hid (below_from hb2 B0.out B0.out.size)
    clear hb2
    go_wp2_with fail
    go_ret
    exact ⟨rfl, B2.out⟩

end Go.Proofs.Ytnnmppnbkplamaa
