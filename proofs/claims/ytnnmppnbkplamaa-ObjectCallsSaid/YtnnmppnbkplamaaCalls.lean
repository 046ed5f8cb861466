/- ObjectCalls of layer 14: the walk. -/
import Derived.Test.YtnnmppnbkplamaaLive
import Derived.Test.YtnnmppnbkplamaaCallsP
namespace Go.Proofs.Ytnnmppnbkplamaa
open Go.RowKit Go.Shelf

set_option maxHeartbeats 8000000 in
set_option maxRecDepth 100000 in
theorem calls0_any (A : Option Addr) (n c : Nat) (l : List Ob) (calls : Int) (A' : Option Addr) (n' c' : Nat) (fs : List Ft) (s : ByteArray) (Ab : Option Addr) (mb kb : Nat) (bl : List UInt8) (w : World) (hl : Obs w A n c l) (hf : Fts w A' n' c' fs) (hbl : Sl u8K w Ab mb kb bl) (hsz : s.size ≤ maxLen) (hm : mb ≤ 140737488355328) :
    Calls Try.prog 9 #[stV A n c calls A' n' c', .string s, .slice Ab mb kb, .int .i64 0] w fun e w' => e = .returned (.bool true) ∧ Below w.heap.size w w' := by
  obtain ⟨L, hL⟩ : ∃ L, l.map Ob.val = L := ⟨_, rfl⟩
  have V := Lib.hid hL
  obtain ⟨r0, hr0⟩ : ∃ r, putR L calls fs s bl = r := ⟨_, rfl⟩
  obtain ⟨⟨L0, C0, fs0⟩, E0⟩ := r0
  have R0 := Lib.hid hr0
  obtain ⟨r, hr⟩ : ∃ r, putR L calls fs s bl = r := ⟨_, rfl⟩
  obtain ⟨⟨L1, C, fs1⟩, E⟩ := r
  have HC := calls_put L calls fs s bl
  rw [hr] at HC
  have HH := Lib.hid HC
  have R := Lib.hid hr
  have HF := Lib.hid hf
  have FL := Lib.hid hf.len
  have hfc := hf.cap
  have hfx := hf.max
  have Y0 := Lib.hid (hbl.alloc (.cells #[.slice A n c, .int .i64 calls, .slice A' n' c'] 25))
  have B0 := Lib.hid (below_alloc1 w (.cells #[.slice A n c, .int .i64 calls, .slice A' n' c'] 25))
  have S0 := Lib.hid (Has.newAt w #[.slice A n c, .int .i64 calls, .slice A' n' c'] 25 (g := w.heap.size) rfl)
  have O0 := Lib.hid (hl.alloc (.cells #[.slice A n c, .int .i64 calls, .slice A' n' c'] 25))
  have F0 := Lib.hid (hf.alloc (.cells #[.slice A n c, .int .i64 calls, .slice A' n' c'] 25))
  have LV := Lib.hid live_any
  have FW := Lib.hid few_any
  have PT := Lib.hid put_at
  have GT := Lib.hid get_at
  have LT := Lib.hid list_at
  have DT := Lib.hid del_at
  have BY := Lib.hid bytes_at
  clear hl hf hbl hL hr0 hr HC
  go_enter Try.func9, Try.ntmps9
  go_wp2_with fail
  refine (LV.out _).mono ?_
  intro e w1 hx
  obtain ⟨rfl, hb⟩ := hx
  have B1 := Lib.hid (below_from hb B0.out B0.out.size)
  have S1 := Lib.hid (S0.out.past hb)
  have cS1 := S1.out.cell
  have lS1 := S1.out.lt
  have O1 := Lib.hid (O0.out.below hb)
  have F1 := Lib.hid (F0.out.below hb)
  have Y1 := Lib.hid (Y0.out.below hb)
  clear hb
  go_wp2_with fail
  refine (FW.out A n c l calls A' n' c' s Ab mb kb _ O1.out).mono ?_
  intro e w2 hx
  obtain ⟨⟨bf, rfl⟩, hb⟩ := hx
  have B2 := Lib.hid (below_from hb B1.out B1.out.size)
  have S2 := Lib.hid (S1.out.past hb)
  have cS2 := S2.out.cell
  have lS2 := S2.out.lt
  have O2 := Lib.hid (O1.out.below hb)
  have F2 := Lib.hid (F1.out.below hb)
  have Y2 := Lib.hid (Y1.out.below hb)
  clear hb cS1 lS1
  cases bf with
  | false =>
    go_wp2_with fail
    go_ret
    exact ⟨rfl, B2.out⟩
  | true => ?_
  go_wp2_with fail
  refine (PT.out A n c l calls A' n' c' fs s Ab mb kb bl _ O2.out F2.out Y2.out hsz hm V.out R.out).mono ?_
  intro e w4 hx
  obtain ⟨A4, n4, c4, l4, A4', n4', c4', rfl, ho, hv, hf, hb⟩ := hx
  have V4 := Lib.hid hv
  have hlw : w.heap.size < w4.heap.size := Nat.lt_of_lt_of_le S2.out.lt hb.size
  have bk3 := hb.alloc hb.size (.cells #[.slice A4 n4 c4, .int .i64 C, .slice A4' n4' c4'] 25)
  have B3 := Lib.hid (below_from bk3 B2.out B2.out.size)
  have S3 := Lib.hid (S2.out.past bk3)
  have cS3 := S3.out.cell
  have lS3 := S3.out.lt
  have O3 := Lib.hid (O2.out.below bk3)
  have F3 := Lib.hid (F2.out.below bk3)
  have Y3 := Lib.hid (Y2.out.below bk3)
  have P3 := Lib.hid ((ho).alloc (.cells #[.slice A4 n4 c4, .int .i64 C, .slice A4' n4' c4'] 25))
  have PF3 := Lib.hid ((hf).alloc (.cells #[.slice A4 n4 c4, .int .i64 C, .slice A4' n4' c4'] 25))
  have T3 := Lib.hid (Has.newAt w4 #[.slice A4 n4 c4, .int .i64 C, .slice A4' n4' c4'] 25 (g := w4.heap.size) rfl)
  have cT3 := T3.out.cell
  have lT3 := T3.out.lt
  clear bk3
  clear cS2 lS2 hb ho hv hf
  have PL := Lib.hid P3.out.len
  have PFL := Lib.hid PF3.out.len
  obtain ⟨W7, hW7⟩ : ∃ W7, W7 = (w4.alloc (.cells #[.slice A4 n4 c4, .int .i64 C, .slice A4' n4' c4'] 25)) := ⟨_, rfl⟩
  have B7 := Lib.hid (show Below w.heap.size w W7 from by rw [hW7]; exact B3.out)
  have S7 := Lib.hid (show Has W7 w.heap.size #[.slice A n c, .int .i64 calls, .slice A' n' c'] from by rw [hW7]; exact S3.out)
  have T7 := Lib.hid (show Has W7 w4.heap.size #[.slice A4 n4 c4, .int .i64 C, .slice A4' n4' c4'] from by rw [hW7]; exact T3.out)
  go_wp2_with fail
  rw [← hW7]
  clear cS3 lS3 cT3 lT3 S3 T3 O3 F3 P3 PF3 B3 hW7
  have s7l := S7.out.cell
  go_loopg [12, 13, 14] n' (fun gg s12 s13 s14 wr => ∃ j : Nat, j ≤ n' ∧ j ≤ gg ∧ s12 = .bool (strF calls (fs.drop j)) ∧ s13 = .bool (torF calls (fs.drop j)) ∧ s14 = .int .i64 ((j : Int) - 1) ∧ Hid (Below W7.heap.size W7 wr))
  case atStart =>
    have e0 : fs.drop n' = [] := List.drop_eq_nil_of_le (by rw [FL.out]; omega)
    exact ⟨n', Nat.le_refl _, Nat.le_refl _, by rw [e0]; rfl, by rw [e0]; rfl, by first | rfl | (congr 1; omega) | go_num, Lib.hid (Below.refl _ _)⟩
  case round =>
    obtain ⟨j, hj, hgg, rfl, rfl, rfl, hb⟩ := hrel
    have S8 := Lib.hid (S7.out.past hb.out)
    have T8 := Lib.hid (T7.out.past hb.out)
    have s8c := S8.out.cell
    have s8l := S8.out.lt
    clear s7l
    cases j with
    | zero =>
      have e1 : ((0 : Nat) : Int) - 1 = -1 := rfl
      rw [e1, List.drop_zero]
      have t8c := T8.out.cell
      have t8l := T8.out.lt
      have hPL := PL.out
      have hPFL := PFL.out
      have hV := V4.out
      have B8 := Lib.hid (below_from hb.out B7.out B7.out.size)
      rcases HH.out with ⟨hE, h1, h2, h3⟩ | ⟨h1, h2, h3, h4, h5⟩
      · simp only at h1 h2 h3
        subst h1 h2 h3
        have hl0 : l4 = [] := by simpa using hV
        subst hl0
        simp only [List.length_nil] at hPL hPFL
        subst hPL hPFL
        clear HH PL PFL V4 hV HF FL R
        rcases hE with rfl | rfl
        all_goals
          go_wp2_with fail
          go_ret
          exact ⟨ret_bool (by first | rfl | simp), B8.out⟩
      · simp only at h1 h2
        subst h1 h2
        rw [FL.out] at hPFL
        subst hPFL
        have wc : IntKind.i64.wrap (calls + 1) = calls + 1 := IntWalk.i64_in _ (by omega)
        generalize strF calls fs1 = sb at *
        generalize torF calls fs1 = tb at *
        clear HH PL PFL V4 hV HF FL R
        rcases h5 with ⟨rfl, rfl, h5⟩ | ⟨h5, h6⟩
        · cases tb with
          | false =>
            go_wp2_with fail
            go_ret
            exact ⟨ret_bool (by first | rfl | simp), B8.out⟩
          | true =>
            (go_wp2_with fail; go_ret; exact ⟨ret_bool (by first | rfl | simp), B8.out⟩)
        · rcases h5 with rfl | ⟨h5, _⟩
          · rcases h6 with rfl | ⟨h6, _⟩
            · cases tb <;> (go_wp2_with fail; go_ret; exact ⟨ret_bool (by first | rfl | simp), B8.out⟩)
            · cases h6
          · cases h5
    | succ k =>
      have hlt : k < n' := by omega
      have e1 : ((k + 1 : Nat) : Int) - 1 = (k : Int) := by omega
      rw [e1]
      obtain ⟨bk, off, hkl, rfl, hbl, x0, x1⟩ := Fts.at_ (HF.out.below (below_from hb.out B7.out B7.out.size)) hlt
      have ED : fs.drop k = fs[k] :: fs.drop (k + 1) := (List.getElem_cons_drop hkl).symm
      have E1 : strF calls (fs.drop k) = (decide (fs[k].call = calls) || strF calls (fs.drop (k + 1))) := by rw [ED]; rfl
      have E2 : torF calls (fs.drop k) = (if fs[k].call = calls then decide (fs[k].kind = 3) else torF calls (fs.drop (k + 1))) := by rw [ED, torF_cons]
      clear ED
      generalize fs[k] = f at *
      obtain ⟨fc, fk⟩ := f
      simp only at x0 x1 E1 E2
      have B2 := Lib.hid (fun m : Nat => below_drewN (w := wr) (Below.refl wr.heap.size wr) m)
      have k0 : (0 : Int) ≤ (k : Int) := by omega
      have k1 : (k : Int) < (n' : Int) := by omega
      have wk : IntKind.i64.wrap ((k : Int) - 1) = (k : Int) - 1 := IntWalk.i64_in _ (by omega)
      obtain ⟨sb, hsb⟩ : ∃ b, strF calls (fs.drop (k + 1)) = b := ⟨_, rfl⟩
      obtain ⟨tb, htb⟩ : ∃ b, torF calls (fs.drop (k + 1)) = b := ⟨_, rfl⟩
      rw [hsb] at E1
      rw [htb] at E2
      rw [hsb, htb]
      clear hsb htb
      by_cases hfc : fc = calls
      · rw [decide_eq_true hfc, Bool.true_or] at E1
        rw [if_pos hfc] at E2
        subst hfc
        have HE1 := Lib.hid E1
        clear E1
        by_cases h3 : fk = 3
        · subst h3
          have HE2 := Lib.hid (show torF fc (fs.drop k) = true from E2.trans (decide_eq_true rfl))
          clear E2
          go_wp2_with fail
          go_quiet (fail)
          go_wp2_with fail
          go_roundg k
          case measure => omega
          case rel => exact ⟨k, by omega, Nat.le_refl _, by rw [HE1.out], by rw [HE2.out], rfl, below_from (B2.out _) hb.out hb.out.size⟩
        · have HE2 := Lib.hid (show torF fc (fs.drop k) = false from E2.trans (decide_eq_false h3))
          have m3 : (fk == 3) = false := by rw [beq_eq_false_iff_ne]; exact h3
          have d3 : decide (fk = 3) = false := decide_eq_false h3
          clear E2
          go_wp2_with fail
          go_quiet (fail)
          go_wp2_with fail
          go_roundg k
          case measure => omega
          case rel => exact ⟨k, by omega, Nat.le_refl _, by rw [HE1.out], by rw [HE2.out], rfl, below_from (B2.out _) hb.out hb.out.size⟩
      · rw [decide_eq_false hfc, Bool.false_or] at E1
        rw [if_neg hfc] at E2
        have HE1 := Lib.hid E1
        have HE2 := Lib.hid E2
        clear E1 E2
        go_wp2_with fail
        go_quiet (fail)
        go_wp2_with fail
        go_roundg k
        case measure => omega
        case rel => exact ⟨k, by omega, Nat.le_refl _, by rw [HE1.out], by rw [HE2.out], rfl, below_from (B2.out _) hb.out hb.out.size⟩

set_option maxHeartbeats 8000000 in
set_option maxRecDepth 100000 in
theorem calls1_any (A : Option Addr) (n c : Nat) (l : List Ob) (calls : Int) (A' : Option Addr) (n' c' : Nat) (fs : List Ft) (s : ByteArray) (Ab : Option Addr) (mb kb : Nat) (bl : List UInt8) (w : World) (hl : Obs w A n c l) (hf : Fts w A' n' c' fs) (hbl : Sl u8K w Ab mb kb bl) (hsz : s.size ≤ maxLen) (hm : mb ≤ 140737488355328) :
    Calls Try.prog 9 #[stV A n c calls A' n' c', .string s, .slice Ab mb kb, .int .i64 1] w fun e w' => e = .returned (.bool true) ∧ Below w.heap.size w w' := by
  obtain ⟨L, hL⟩ : ∃ L, l.map Ob.val = L := ⟨_, rfl⟩
  have V := Lib.hid hL
  obtain ⟨r0, hr0⟩ : ∃ r, putR L calls fs s bl = r := ⟨_, rfl⟩
  obtain ⟨⟨L0, C0, fs0⟩, E0⟩ := r0
  have R0 := Lib.hid hr0
  obtain ⟨r, hr⟩ : ∃ r, delR L calls fs s = r := ⟨_, rfl⟩
  obtain ⟨⟨L1, C, fs1⟩, E⟩ := r
  have HC := calls_del L calls fs s
  rw [hr] at HC
  have HH := Lib.hid HC
  have R := Lib.hid hr
  have HF := Lib.hid hf
  have FL := Lib.hid hf.len
  have hfc := hf.cap
  have hfx := hf.max
  have Y0 := Lib.hid (hbl.alloc (.cells #[.slice A n c, .int .i64 calls, .slice A' n' c'] 25))
  have B0 := Lib.hid (below_alloc1 w (.cells #[.slice A n c, .int .i64 calls, .slice A' n' c'] 25))
  have S0 := Lib.hid (Has.newAt w #[.slice A n c, .int .i64 calls, .slice A' n' c'] 25 (g := w.heap.size) rfl)
  have O0 := Lib.hid (hl.alloc (.cells #[.slice A n c, .int .i64 calls, .slice A' n' c'] 25))
  have F0 := Lib.hid (hf.alloc (.cells #[.slice A n c, .int .i64 calls, .slice A' n' c'] 25))
  have LV := Lib.hid live_any
  have FW := Lib.hid few_any
  have PT := Lib.hid put_at
  have GT := Lib.hid get_at
  have LT := Lib.hid list_at
  have DT := Lib.hid del_at
  have BY := Lib.hid bytes_at
  clear hl hf hbl hL hr0 hr HC
  go_enter Try.func9, Try.ntmps9
  go_wp2_with fail
  refine (LV.out _).mono ?_
  intro e w1 hx
  obtain ⟨rfl, hb⟩ := hx
  have B1 := Lib.hid (below_from hb B0.out B0.out.size)
  have S1 := Lib.hid (S0.out.past hb)
  have cS1 := S1.out.cell
  have lS1 := S1.out.lt
  have O1 := Lib.hid (O0.out.below hb)
  have F1 := Lib.hid (F0.out.below hb)
  have Y1 := Lib.hid (Y0.out.below hb)
  clear hb
  go_wp2_with fail
  refine (FW.out A n c l calls A' n' c' s Ab mb kb _ O1.out).mono ?_
  intro e w2 hx
  obtain ⟨⟨bf, rfl⟩, hb⟩ := hx
  have B2 := Lib.hid (below_from hb B1.out B1.out.size)
  have S2 := Lib.hid (S1.out.past hb)
  have cS2 := S2.out.cell
  have lS2 := S2.out.lt
  have O2 := Lib.hid (O1.out.below hb)
  have F2 := Lib.hid (F1.out.below hb)
  have Y2 := Lib.hid (Y1.out.below hb)
  clear hb cS1 lS1
  cases bf with
  | false =>
    go_wp2_with fail
    go_ret
    exact ⟨rfl, B2.out⟩
  | true => ?_
  go_wp2_with fail
  refine (PT.out A n c l calls A' n' c' fs s Ab mb kb bl _ O2.out F2.out Y2.out hsz hm V.out R0.out).mono ?_
  intro e w4 hx
  obtain ⟨A4, n4, c4, l4, A4', n4', c4', rfl, ho, hv, hf, hb⟩ := hx
  have V4 := Lib.hid hv
  have hlw : w.heap.size < w4.heap.size := Nat.lt_of_lt_of_le S2.out.lt hb.size
  have bk3 := hb.alloc hb.size (.cells #[.slice A4 n4 c4, .int .i64 C0, .slice A4' n4' c4'] 25)
  have B3 := Lib.hid (below_from bk3 B2.out B2.out.size)
  have S3 := Lib.hid (S2.out.past bk3)
  have cS3 := S3.out.cell
  have lS3 := S3.out.lt
  have O3 := Lib.hid (O2.out.below bk3)
  have F3 := Lib.hid (F2.out.below bk3)
  have Y3 := Lib.hid (Y2.out.below bk3)
  have T3 := Lib.hid (Has.newAt w4 #[.slice A4 n4 c4, .int .i64 C0, .slice A4' n4' c4'] 25 (g := w4.heap.size) rfl)
  have cT3 := T3.out.cell
  have lT3 := T3.out.lt
  clear bk3
  clear cS2 lS2 hb ho hv hf
  go_wp2_with fail
  refine (DT.out A n c l calls A' n' c' fs s _ O3.out F3.out V.out R.out).mono ?_
  intro e w5 hx
  obtain ⟨A5, n5, c5, l5, A5', n5', c5', rfl, ho, hv, hf, hb⟩ := hx
  have V5 := Lib.hid hv
  have B4 := Lib.hid (below_from hb B3.out B3.out.size)
  have S4 := Lib.hid (S3.out.past hb)
  have cS4 := S4.out.cell
  have lS4 := S4.out.lt
  have O4 := Lib.hid (O3.out.below hb)
  have F4 := Lib.hid (F3.out.below hb)
  have T4 := Lib.hid (T3.out.past hb)
  have cT4 := T4.out.cell
  have lT4 := T4.out.lt
  have P4 := Lib.hid (ho)
  have PF4 := Lib.hid (hf)
  clear cS3 lS3 cT3 lT3 hb ho hv hf
  have PL := Lib.hid P4.out.len
  have PFL := Lib.hid PF4.out.len
  have cfT := T4.out.free
  have hlw' := hlw
  have gs := setCells_grown w4.heap.size [.slice A5 n5 c5, .int .i64 C, .slice A5' n5' c5'] 0 w5
  obtain ⟨W7, hW7⟩ : ∃ W7, W7 = ((w5.setCell ⟨w4.heap.size, 0, none⟩ (.slice A5 n5 c5)).setCell ⟨w4.heap.size, 1, none⟩ (.int .i64 C)).setCell ⟨w4.heap.size, 2, none⟩ (.slice A5' n5' c5') := ⟨_, rfl⟩
  have B7 := Lib.hid (show Below w.heap.size w W7 from by rw [hW7]; exact B4.out.grown gs B4.out.size (fun q hq => by injection hq with hq; omega))
  have S7 := Lib.hid (show Has W7 w.heap.size #[.slice A n c, .int .i64 calls, .slice A' n' c'] from by rw [hW7]; exact S4.out.grown gs (by omega))
  have T7 := Lib.hid (show Has W7 w4.heap.size #[.slice A5 n5 c5, .int .i64 C, .slice A5' n5' c5'] from by rw [hW7]; exact T4.out.set [.slice A5 n5 c5, .int .i64 C, .slice A5' n5' c5'] rfl)
  go_wp2_with fail
  rw [← hW7]
  clear cS4 lS4 cT4 lT4 S4 T4 O4 F4 P4 PF4 B4 hW7 gs cfT
  have s7l := S7.out.cell
  go_loopg [12, 13, 14] n' (fun gg s12 s13 s14 wr => ∃ j : Nat, j ≤ n' ∧ j ≤ gg ∧ s12 = .bool (strF calls (fs.drop j)) ∧ s13 = .bool (torF calls (fs.drop j)) ∧ s14 = .int .i64 ((j : Int) - 1) ∧ Hid (Below W7.heap.size W7 wr))
  case atStart =>
    have e0 : fs.drop n' = [] := List.drop_eq_nil_of_le (by rw [FL.out]; omega)
    exact ⟨n', Nat.le_refl _, Nat.le_refl _, by rw [e0]; rfl, by rw [e0]; rfl, by first | rfl | (congr 1; omega) | go_num, Lib.hid (Below.refl _ _)⟩
  case round =>
    obtain ⟨j, hj, hgg, rfl, rfl, rfl, hb⟩ := hrel
    have S8 := Lib.hid (S7.out.past hb.out)
    have T8 := Lib.hid (T7.out.past hb.out)
    have s8c := S8.out.cell
    have s8l := S8.out.lt
    clear s7l
    cases j with
    | zero =>
      have e1 : ((0 : Nat) : Int) - 1 = -1 := rfl
      rw [e1, List.drop_zero]
      have t8c := T8.out.cell
      have t8l := T8.out.lt
      have hPL := PL.out
      have hPFL := PFL.out
      have hV := V5.out
      have B8 := Lib.hid (below_from hb.out B7.out B7.out.size)
      rcases HH.out with ⟨hE, h1, h2, h3⟩ | ⟨h1, h2, h3, h4, h5⟩
      · simp only at h1 h2 h3
        subst h1 h2 h3
        have hl0 : l5 = [] := by simpa using hV
        subst hl0
        simp only [List.length_nil] at hPL hPFL
        subst hPL hPFL
        clear HH PL PFL V5 hV HF FL R
        rcases hE with rfl | rfl
        all_goals
          go_wp2_with fail
          go_ret
          exact ⟨ret_bool (by first | rfl | simp), B8.out⟩
      · simp only at h1 h2
        subst h1 h2
        rw [FL.out] at hPFL
        subst hPFL
        have wc : IntKind.i64.wrap (calls + 1) = calls + 1 := IntWalk.i64_in _ (by omega)
        generalize strF calls fs1 = sb at *
        generalize torF calls fs1 = tb at *
        clear HH PL PFL V5 hV HF FL R
        rcases h5 with ⟨rfl, rfl, h5⟩ | ⟨h5, h6⟩
        · cases tb with
          | false =>
            go_wp2_with fail
            go_ret
            exact ⟨ret_bool (by first | rfl | simp), B8.out⟩
          | true =>
            (go_wp2_with fail; go_ret; exact ⟨ret_bool (by first | rfl | simp), B8.out⟩)
        · rcases h5 with rfl | ⟨h5, _⟩
          · rcases h6 with rfl | ⟨h6, _⟩
            · cases tb <;> (go_wp2_with fail; go_ret; exact ⟨ret_bool (by first | rfl | simp), B8.out⟩)
            · cases h6
          · cases h5
    | succ k =>
      have hlt : k < n' := by omega
      have e1 : ((k + 1 : Nat) : Int) - 1 = (k : Int) := by omega
      rw [e1]
      obtain ⟨bk, off, hkl, rfl, hbl, x0, x1⟩ := Fts.at_ (HF.out.below (below_from hb.out B7.out B7.out.size)) hlt
      have ED : fs.drop k = fs[k] :: fs.drop (k + 1) := (List.getElem_cons_drop hkl).symm
      have E1 : strF calls (fs.drop k) = (decide (fs[k].call = calls) || strF calls (fs.drop (k + 1))) := by rw [ED]; rfl
      have E2 : torF calls (fs.drop k) = (if fs[k].call = calls then decide (fs[k].kind = 3) else torF calls (fs.drop (k + 1))) := by rw [ED, torF_cons]
      clear ED
      generalize fs[k] = f at *
      obtain ⟨fc, fk⟩ := f
      simp only at x0 x1 E1 E2
      have B2 := Lib.hid (fun m : Nat => below_drewN (w := wr) (Below.refl wr.heap.size wr) m)
      have k0 : (0 : Int) ≤ (k : Int) := by omega
      have k1 : (k : Int) < (n' : Int) := by omega
      have wk : IntKind.i64.wrap ((k : Int) - 1) = (k : Int) - 1 := IntWalk.i64_in _ (by omega)
      obtain ⟨sb, hsb⟩ : ∃ b, strF calls (fs.drop (k + 1)) = b := ⟨_, rfl⟩
      obtain ⟨tb, htb⟩ : ∃ b, torF calls (fs.drop (k + 1)) = b := ⟨_, rfl⟩
      rw [hsb] at E1
      rw [htb] at E2
      rw [hsb, htb]
      clear hsb htb
      by_cases hfc : fc = calls
      · rw [decide_eq_true hfc, Bool.true_or] at E1
        rw [if_pos hfc] at E2
        subst hfc
        have HE1 := Lib.hid E1
        clear E1
        by_cases h3 : fk = 3
        · subst h3
          have HE2 := Lib.hid (show torF fc (fs.drop k) = true from E2.trans (decide_eq_true rfl))
          clear E2
          go_wp2_with fail
          go_quiet (fail)
          go_wp2_with fail
          go_roundg k
          case measure => omega
          case rel => exact ⟨k, by omega, Nat.le_refl _, by rw [HE1.out], by rw [HE2.out], rfl, below_from (B2.out _) hb.out hb.out.size⟩
        · have HE2 := Lib.hid (show torF fc (fs.drop k) = false from E2.trans (decide_eq_false h3))
          have m3 : (fk == 3) = false := by rw [beq_eq_false_iff_ne]; exact h3
          have d3 : decide (fk = 3) = false := decide_eq_false h3
          clear E2
          go_wp2_with fail
          go_quiet (fail)
          go_wp2_with fail
          go_roundg k
          case measure => omega
          case rel => exact ⟨k, by omega, Nat.le_refl _, by rw [HE1.out], by rw [HE2.out], rfl, below_from (B2.out _) hb.out hb.out.size⟩
      · rw [decide_eq_false hfc, Bool.false_or] at E1
        rw [if_neg hfc] at E2
        have HE1 := Lib.hid E1
        have HE2 := Lib.hid E2
        clear E1 E2
        go_wp2_with fail
        go_quiet (fail)
        go_wp2_with fail
        go_roundg k
        case measure => omega
        case rel => exact ⟨k, by omega, Nat.le_refl _, by rw [HE1.out], by rw [HE2.out], rfl, below_from (B2.out _) hb.out hb.out.size⟩

set_option maxHeartbeats 8000000 in
set_option maxRecDepth 100000 in
theorem calls2_any (A : Option Addr) (n c : Nat) (l : List Ob) (calls : Int) (A' : Option Addr) (n' c' : Nat) (fs : List Ft) (s : ByteArray) (Ab : Option Addr) (mb kb : Nat) (bl : List UInt8) (w : World) (hl : Obs w A n c l) (hf : Fts w A' n' c' fs) (hbl : Sl u8K w Ab mb kb bl) (hsz : s.size ≤ maxLen) (hm : mb ≤ 140737488355328) :
    Calls Try.prog 9 #[stV A n c calls A' n' c', .string s, .slice Ab mb kb, .int .i64 2] w fun e w' => e = .returned (.bool true) ∧ Below w.heap.size w w' := by
  obtain ⟨L, hL⟩ : ∃ L, l.map Ob.val = L := ⟨_, rfl⟩
  have V := Lib.hid hL
  obtain ⟨r0, hr0⟩ : ∃ r, putR L calls fs s bl = r := ⟨_, rfl⟩
  obtain ⟨⟨L0, C0, fs0⟩, E0⟩ := r0
  have R0 := Lib.hid hr0
  obtain ⟨r, hr⟩ : ∃ r, getR L calls fs s = r := ⟨_, rfl⟩
  obtain ⟨⟨L1, C, fs1⟩, z, E⟩ := r
  have HC := calls_get L calls fs s
  rw [hr] at HC
  have HH := Lib.hid HC
  have R := Lib.hid hr
  have HF := Lib.hid hf
  have FL := Lib.hid hf.len
  have hfc := hf.cap
  have hfx := hf.max
  have Y0 := Lib.hid (hbl.alloc (.cells #[.slice A n c, .int .i64 calls, .slice A' n' c'] 25))
  have B0 := Lib.hid (below_alloc1 w (.cells #[.slice A n c, .int .i64 calls, .slice A' n' c'] 25))
  have S0 := Lib.hid (Has.newAt w #[.slice A n c, .int .i64 calls, .slice A' n' c'] 25 (g := w.heap.size) rfl)
  have O0 := Lib.hid (hl.alloc (.cells #[.slice A n c, .int .i64 calls, .slice A' n' c'] 25))
  have F0 := Lib.hid (hf.alloc (.cells #[.slice A n c, .int .i64 calls, .slice A' n' c'] 25))
  have LV := Lib.hid live_any
  have FW := Lib.hid few_any
  have PT := Lib.hid put_at
  have GT := Lib.hid get_at
  have LT := Lib.hid list_at
  have DT := Lib.hid del_at
  have BY := Lib.hid bytes_at
  clear hl hf hbl hL hr0 hr HC
  go_enter Try.func9, Try.ntmps9
  go_wp2_with fail
  refine (LV.out _).mono ?_
  intro e w1 hx
  obtain ⟨rfl, hb⟩ := hx
  have B1 := Lib.hid (below_from hb B0.out B0.out.size)
  have S1 := Lib.hid (S0.out.past hb)
  have cS1 := S1.out.cell
  have lS1 := S1.out.lt
  have O1 := Lib.hid (O0.out.below hb)
  have F1 := Lib.hid (F0.out.below hb)
  have Y1 := Lib.hid (Y0.out.below hb)
  clear hb
  go_wp2_with fail
  refine (FW.out A n c l calls A' n' c' s Ab mb kb _ O1.out).mono ?_
  intro e w2 hx
  obtain ⟨⟨bf, rfl⟩, hb⟩ := hx
  have B2 := Lib.hid (below_from hb B1.out B1.out.size)
  have S2 := Lib.hid (S1.out.past hb)
  have cS2 := S2.out.cell
  have lS2 := S2.out.lt
  have O2 := Lib.hid (O1.out.below hb)
  have F2 := Lib.hid (F1.out.below hb)
  have Y2 := Lib.hid (Y1.out.below hb)
  clear hb cS1 lS1
  cases bf with
  | false =>
    go_wp2_with fail
    go_ret
    exact ⟨rfl, B2.out⟩
  | true => ?_
  go_wp2_with fail
  refine (PT.out A n c l calls A' n' c' fs s Ab mb kb bl _ O2.out F2.out Y2.out hsz hm V.out R0.out).mono ?_
  intro e w4 hx
  obtain ⟨A4, n4, c4, l4, A4', n4', c4', rfl, ho, hv, hf, hb⟩ := hx
  have V4 := Lib.hid hv
  have hlw : w.heap.size < w4.heap.size := Nat.lt_of_lt_of_le S2.out.lt hb.size
  have bk3 := hb.alloc hb.size (.cells #[.slice A4 n4 c4, .int .i64 C0, .slice A4' n4' c4'] 25)
  have B3 := Lib.hid (below_from bk3 B2.out B2.out.size)
  have S3 := Lib.hid (S2.out.past bk3)
  have cS3 := S3.out.cell
  have lS3 := S3.out.lt
  have O3 := Lib.hid (O2.out.below bk3)
  have F3 := Lib.hid (F2.out.below bk3)
  have Y3 := Lib.hid (Y2.out.below bk3)
  have T3 := Lib.hid (Has.newAt w4 #[.slice A4 n4 c4, .int .i64 C0, .slice A4' n4' c4'] 25 (g := w4.heap.size) rfl)
  have cT3 := T3.out.cell
  have lT3 := T3.out.lt
  clear bk3
  clear cS2 lS2 hb ho hv hf
  go_wp2_with fail
  refine (GT.out A n c l calls A' n' c' fs s _ O3.out F3.out V.out R.out).mono ?_
  intro e w5 hx
  obtain ⟨A5, n5, c5, l5, A5', n5', c5', A5x, n5x, c5x, rfl, ho, hv, hf, hs, hm, hb⟩ := hx
  have V5 := Lib.hid hv
  have B4 := Lib.hid (below_from hb B3.out B3.out.size)
  have S4 := Lib.hid (S3.out.past hb)
  have cS4 := S4.out.cell
  have lS4 := S4.out.lt
  have O4 := Lib.hid (O3.out.below hb)
  have F4 := Lib.hid (F3.out.below hb)
  have T4 := Lib.hid (T3.out.past hb)
  have cT4 := T4.out.cell
  have lT4 := T4.out.lt
  have P4 := Lib.hid (ho)
  have PF4 := Lib.hid (hf)
  clear cS3 lS3 cT3 lT3 hb ho hv hf hs hm
  have PL := Lib.hid P4.out.len
  have PFL := Lib.hid PF4.out.len
  have cfT := T4.out.free
  have hlw' := hlw
  have gs := setCells_grown w4.heap.size [.slice A5 n5 c5, .int .i64 C, .slice A5' n5' c5'] 0 w5
  obtain ⟨W7, hW7⟩ : ∃ W7, W7 = ((w5.setCell ⟨w4.heap.size, 0, none⟩ (.slice A5 n5 c5)).setCell ⟨w4.heap.size, 1, none⟩ (.int .i64 C)).setCell ⟨w4.heap.size, 2, none⟩ (.slice A5' n5' c5') := ⟨_, rfl⟩
  have B7 := Lib.hid (show Below w.heap.size w W7 from by rw [hW7]; exact B4.out.grown gs B4.out.size (fun q hq => by injection hq with hq; omega))
  have S7 := Lib.hid (show Has W7 w.heap.size #[.slice A n c, .int .i64 calls, .slice A' n' c'] from by rw [hW7]; exact S4.out.grown gs (by omega))
  have T7 := Lib.hid (show Has W7 w4.heap.size #[.slice A5 n5 c5, .int .i64 C, .slice A5' n5' c5'] from by rw [hW7]; exact T4.out.set [.slice A5 n5 c5, .int .i64 C, .slice A5' n5' c5'] rfl)
  go_wp2_with fail
  rw [← hW7]
  clear cS4 lS4 cT4 lT4 S4 T4 O4 F4 P4 PF4 B4 hW7 gs cfT
  have s7l := S7.out.cell
  go_loopg [12, 13, 14] n' (fun gg s12 s13 s14 wr => ∃ j : Nat, j ≤ n' ∧ j ≤ gg ∧ s12 = .bool (strF calls (fs.drop j)) ∧ s13 = .bool (torF calls (fs.drop j)) ∧ s14 = .int .i64 ((j : Int) - 1) ∧ Hid (Below W7.heap.size W7 wr))
  case atStart =>
    have e0 : fs.drop n' = [] := List.drop_eq_nil_of_le (by rw [FL.out]; omega)
    exact ⟨n', Nat.le_refl _, Nat.le_refl _, by rw [e0]; rfl, by rw [e0]; rfl, by first | rfl | (congr 1; omega) | go_num, Lib.hid (Below.refl _ _)⟩
  case round =>
    obtain ⟨j, hj, hgg, rfl, rfl, rfl, hb⟩ := hrel
    have S8 := Lib.hid (S7.out.past hb.out)
    have T8 := Lib.hid (T7.out.past hb.out)
    have s8c := S8.out.cell
    have s8l := S8.out.lt
    clear s7l
    cases j with
    | zero =>
      have e1 : ((0 : Nat) : Int) - 1 = -1 := rfl
      rw [e1, List.drop_zero]
      have t8c := T8.out.cell
      have t8l := T8.out.lt
      have hPL := PL.out
      have hPFL := PFL.out
      have hV := V5.out
      have B8 := Lib.hid (below_from hb.out B7.out B7.out.size)
      rcases HH.out with ⟨hE, h1, h2, h3⟩ | ⟨h1, h2, h3, h4, h5⟩
      · simp only at h1 h2 h3
        subst h1 h2 h3
        have hl0 : l5 = [] := by simpa using hV
        subst hl0
        simp only [List.length_nil] at hPL hPFL
        subst hPL hPFL
        clear HH PL PFL V5 hV HF FL R
        rcases hE with rfl | rfl
        all_goals
          go_wp2_with fail
          go_ret
          exact ⟨ret_bool (by first | rfl | simp), B8.out⟩
      · simp only at h1 h2
        subst h1 h2
        rw [FL.out] at hPFL
        subst hPFL
        have wc : IntKind.i64.wrap (calls + 1) = calls + 1 := IntWalk.i64_in _ (by omega)
        generalize strF calls fs1 = sb at *
        generalize torF calls fs1 = tb at *
        clear HH PL PFL V5 hV HF FL R
        rcases h5 with ⟨rfl, rfl, h5⟩ | ⟨h5, h6⟩
        · cases tb with
          | false =>
            go_wp2_with fail
            go_ret
            exact ⟨ret_bool (by first | rfl | simp), B8.out⟩
          | true =>
            exact absurd (h5 rfl) (by decide)
        · rcases h5 with rfl | ⟨_, rfl⟩ <;> rcases h6 with rfl | ⟨_, rfl⟩ <;> first | (cases tb <;> (go_wp2_with fail; go_ret; exact ⟨ret_bool (by first | rfl | simp), B8.out⟩)) | (cases sb <;> (go_wp2_with fail; go_ret; exact ⟨ret_bool (by first | rfl | simp), B8.out⟩))
    | succ k =>
      have hlt : k < n' := by omega
      have e1 : ((k + 1 : Nat) : Int) - 1 = (k : Int) := by omega
      rw [e1]
      obtain ⟨bk, off, hkl, rfl, hbl, x0, x1⟩ := Fts.at_ (HF.out.below (below_from hb.out B7.out B7.out.size)) hlt
      have ED : fs.drop k = fs[k] :: fs.drop (k + 1) := (List.getElem_cons_drop hkl).symm
      have E1 : strF calls (fs.drop k) = (decide (fs[k].call = calls) || strF calls (fs.drop (k + 1))) := by rw [ED]; rfl
      have E2 : torF calls (fs.drop k) = (if fs[k].call = calls then decide (fs[k].kind = 3) else torF calls (fs.drop (k + 1))) := by rw [ED, torF_cons]
      clear ED
      generalize fs[k] = f at *
      obtain ⟨fc, fk⟩ := f
      simp only at x0 x1 E1 E2
      have B2 := Lib.hid (fun m : Nat => below_drewN (w := wr) (Below.refl wr.heap.size wr) m)
      have k0 : (0 : Int) ≤ (k : Int) := by omega
      have k1 : (k : Int) < (n' : Int) := by omega
      have wk : IntKind.i64.wrap ((k : Int) - 1) = (k : Int) - 1 := IntWalk.i64_in _ (by omega)
      obtain ⟨sb, hsb⟩ : ∃ b, strF calls (fs.drop (k + 1)) = b := ⟨_, rfl⟩
      obtain ⟨tb, htb⟩ : ∃ b, torF calls (fs.drop (k + 1)) = b := ⟨_, rfl⟩
      rw [hsb] at E1
      rw [htb] at E2
      rw [hsb, htb]
      clear hsb htb
      by_cases hfc : fc = calls
      · rw [decide_eq_true hfc, Bool.true_or] at E1
        rw [if_pos hfc] at E2
        subst hfc
        have HE1 := Lib.hid E1
        clear E1
        by_cases h3 : fk = 3
        · subst h3
          have HE2 := Lib.hid (show torF fc (fs.drop k) = true from E2.trans (decide_eq_true rfl))
          clear E2
          go_wp2_with fail
          go_quiet (fail)
          go_wp2_with fail
          go_roundg k
          case measure => omega
          case rel => exact ⟨k, by omega, Nat.le_refl _, by rw [HE1.out], by rw [HE2.out], rfl, below_from (B2.out _) hb.out hb.out.size⟩
        · have HE2 := Lib.hid (show torF fc (fs.drop k) = false from E2.trans (decide_eq_false h3))
          have m3 : (fk == 3) = false := by rw [beq_eq_false_iff_ne]; exact h3
          have d3 : decide (fk = 3) = false := decide_eq_false h3
          clear E2
          go_wp2_with fail
          go_quiet (fail)
          go_wp2_with fail
          go_roundg k
          case measure => omega
          case rel => exact ⟨k, by omega, Nat.le_refl _, by rw [HE1.out], by rw [HE2.out], rfl, below_from (B2.out _) hb.out hb.out.size⟩
      · rw [decide_eq_false hfc, Bool.false_or] at E1
        rw [if_neg hfc] at E2
        have HE1 := Lib.hid E1
        have HE2 := Lib.hid E2
        clear E1 E2
        go_wp2_with fail
        go_quiet (fail)
        go_wp2_with fail
        go_roundg k
        case measure => omega
        case rel => exact ⟨k, by omega, Nat.le_refl _, by rw [HE1.out], by rw [HE2.out], rfl, below_from (B2.out _) hb.out hb.out.size⟩

set_option maxHeartbeats 8000000 in
set_option maxRecDepth 100000 in
theorem calls3_any (A : Option Addr) (n c : Nat) (l : List Ob) (calls : Int) (A' : Option Addr) (n' c' : Nat) (fs : List Ft) (s : ByteArray) (Ab : Option Addr) (mb kb : Nat) (bl : List UInt8) (w : World) (hl : Obs w A n c l) (hf : Fts w A' n' c' fs) (hbl : Sl u8K w Ab mb kb bl) (hsz : s.size ≤ maxLen) (hm : mb ≤ 140737488355328) :
    Calls Try.prog 9 #[stV A n c calls A' n' c', .string s, .slice Ab mb kb, .int .i64 3] w fun e w' => e = .returned (.bool true) ∧ Below w.heap.size w w' := by
  obtain ⟨L, hL⟩ : ∃ L, l.map Ob.val = L := ⟨_, rfl⟩
  have V := Lib.hid hL
  obtain ⟨r0, hr0⟩ : ∃ r, putR L calls fs s bl = r := ⟨_, rfl⟩
  obtain ⟨⟨L0, C0, fs0⟩, E0⟩ := r0
  have R0 := Lib.hid hr0
  obtain ⟨r, hr⟩ : ∃ r, listR L calls fs s = r := ⟨_, rfl⟩
  obtain ⟨⟨L1, C, fs1⟩, z, E⟩ := r
  have HC := calls_list L calls fs s
  rw [hr] at HC
  have HH := Lib.hid HC
  have R := Lib.hid hr
  have HF := Lib.hid hf
  have FL := Lib.hid hf.len
  have hfc := hf.cap
  have hfx := hf.max
  have Y0 := Lib.hid (hbl.alloc (.cells #[.slice A n c, .int .i64 calls, .slice A' n' c'] 25))
  have B0 := Lib.hid (below_alloc1 w (.cells #[.slice A n c, .int .i64 calls, .slice A' n' c'] 25))
  have S0 := Lib.hid (Has.newAt w #[.slice A n c, .int .i64 calls, .slice A' n' c'] 25 (g := w.heap.size) rfl)
  have O0 := Lib.hid (hl.alloc (.cells #[.slice A n c, .int .i64 calls, .slice A' n' c'] 25))
  have F0 := Lib.hid (hf.alloc (.cells #[.slice A n c, .int .i64 calls, .slice A' n' c'] 25))
  have LV := Lib.hid live_any
  have FW := Lib.hid few_any
  have PT := Lib.hid put_at
  have GT := Lib.hid get_at
  have LT := Lib.hid list_at
  have DT := Lib.hid del_at
  have BY := Lib.hid bytes_at
  clear hl hf hbl hL hr0 hr HC
  go_enter Try.func9, Try.ntmps9
  go_wp2_with fail
  refine (LV.out _).mono ?_
  intro e w1 hx
  obtain ⟨rfl, hb⟩ := hx
  have B1 := Lib.hid (below_from hb B0.out B0.out.size)
  have S1 := Lib.hid (S0.out.past hb)
  have cS1 := S1.out.cell
  have lS1 := S1.out.lt
  have O1 := Lib.hid (O0.out.below hb)
  have F1 := Lib.hid (F0.out.below hb)
  have Y1 := Lib.hid (Y0.out.below hb)
  clear hb
  go_wp2_with fail
  refine (FW.out A n c l calls A' n' c' s Ab mb kb _ O1.out).mono ?_
  intro e w2 hx
  obtain ⟨⟨bf, rfl⟩, hb⟩ := hx
  have B2 := Lib.hid (below_from hb B1.out B1.out.size)
  have S2 := Lib.hid (S1.out.past hb)
  have cS2 := S2.out.cell
  have lS2 := S2.out.lt
  have O2 := Lib.hid (O1.out.below hb)
  have F2 := Lib.hid (F1.out.below hb)
  have Y2 := Lib.hid (Y1.out.below hb)
  clear hb cS1 lS1
  cases bf with
  | false =>
    go_wp2_with fail
    go_ret
    exact ⟨rfl, B2.out⟩
  | true => ?_
  go_wp2_with fail
  refine (PT.out A n c l calls A' n' c' fs s Ab mb kb bl _ O2.out F2.out Y2.out hsz hm V.out R0.out).mono ?_
  intro e w4 hx
  obtain ⟨A4, n4, c4, l4, A4', n4', c4', rfl, ho, hv, hf, hb⟩ := hx
  have V4 := Lib.hid hv
  have hlw : w.heap.size < w4.heap.size := Nat.lt_of_lt_of_le S2.out.lt hb.size
  have bk3 := hb.alloc hb.size (.cells #[.slice A4 n4 c4, .int .i64 C0, .slice A4' n4' c4'] 25)
  have B3 := Lib.hid (below_from bk3 B2.out B2.out.size)
  have S3 := Lib.hid (S2.out.past bk3)
  have cS3 := S3.out.cell
  have lS3 := S3.out.lt
  have O3 := Lib.hid (O2.out.below bk3)
  have F3 := Lib.hid (F2.out.below bk3)
  have Y3 := Lib.hid (Y2.out.below bk3)
  have T3 := Lib.hid (Has.newAt w4 #[.slice A4 n4 c4, .int .i64 C0, .slice A4' n4' c4'] 25 (g := w4.heap.size) rfl)
  have cT3 := T3.out.cell
  have lT3 := T3.out.lt
  clear bk3
  clear cS2 lS2 hb ho hv hf
  go_wp2_with fail
  refine (LT.out A n c l calls A' n' c' fs s _ O3.out F3.out hsz V.out R.out).mono ?_
  intro e w5 hx
  obtain ⟨A5, n5, c5, l5, A5', n5', c5', A5x, n5x, c5x, rfl, ho, hv, hf, hs, hb⟩ := hx
  have V5 := Lib.hid hv
  have B4 := Lib.hid (below_from hb B3.out B3.out.size)
  have S4 := Lib.hid (S3.out.past hb)
  have cS4 := S4.out.cell
  have lS4 := S4.out.lt
  have O4 := Lib.hid (O3.out.below hb)
  have F4 := Lib.hid (F3.out.below hb)
  have T4 := Lib.hid (T3.out.past hb)
  have cT4 := T4.out.cell
  have lT4 := T4.out.lt
  have P4 := Lib.hid (ho)
  have PF4 := Lib.hid (hf)
  clear cS3 lS3 cT3 lT3 hb ho hv hf hs
  have PL := Lib.hid P4.out.len
  have PFL := Lib.hid PF4.out.len
  have cfT := T4.out.free
  have hlw' := hlw
  have gs := setCells_grown w4.heap.size [.slice A5 n5 c5, .int .i64 C, .slice A5' n5' c5'] 0 w5
  obtain ⟨W7, hW7⟩ : ∃ W7, W7 = ((w5.setCell ⟨w4.heap.size, 0, none⟩ (.slice A5 n5 c5)).setCell ⟨w4.heap.size, 1, none⟩ (.int .i64 C)).setCell ⟨w4.heap.size, 2, none⟩ (.slice A5' n5' c5') := ⟨_, rfl⟩
  have B7 := Lib.hid (show Below w.heap.size w W7 from by rw [hW7]; exact B4.out.grown gs B4.out.size (fun q hq => by injection hq with hq; omega))
  have S7 := Lib.hid (show Has W7 w.heap.size #[.slice A n c, .int .i64 calls, .slice A' n' c'] from by rw [hW7]; exact S4.out.grown gs (by omega))
  have T7 := Lib.hid (show Has W7 w4.heap.size #[.slice A5 n5 c5, .int .i64 C, .slice A5' n5' c5'] from by rw [hW7]; exact T4.out.set [.slice A5 n5 c5, .int .i64 C, .slice A5' n5' c5'] rfl)
  go_wp2_with fail
  rw [← hW7]
  clear cS4 lS4 cT4 lT4 S4 T4 O4 F4 P4 PF4 B4 hW7 gs cfT
  have s7l := S7.out.cell
  go_loopg [12, 13, 14] n' (fun gg s12 s13 s14 wr => ∃ j : Nat, j ≤ n' ∧ j ≤ gg ∧ s12 = .bool (strF calls (fs.drop j)) ∧ s13 = .bool (torF calls (fs.drop j)) ∧ s14 = .int .i64 ((j : Int) - 1) ∧ Hid (Below W7.heap.size W7 wr))
  case atStart =>
    have e0 : fs.drop n' = [] := List.drop_eq_nil_of_le (by rw [FL.out]; omega)
    exact ⟨n', Nat.le_refl _, Nat.le_refl _, by rw [e0]; rfl, by rw [e0]; rfl, by first | rfl | (congr 1; omega) | go_num, Lib.hid (Below.refl _ _)⟩
  case round =>
    obtain ⟨j, hj, hgg, rfl, rfl, rfl, hb⟩ := hrel
    have S8 := Lib.hid (S7.out.past hb.out)
    have T8 := Lib.hid (T7.out.past hb.out)
    have s8c := S8.out.cell
    have s8l := S8.out.lt
    clear s7l
    cases j with
    | zero =>
      have e1 : ((0 : Nat) : Int) - 1 = -1 := rfl
      rw [e1, List.drop_zero]
      have t8c := T8.out.cell
      have t8l := T8.out.lt
      have hPL := PL.out
      have hPFL := PFL.out
      have hV := V5.out
      have B8 := Lib.hid (below_from hb.out B7.out B7.out.size)
      rcases HH.out with ⟨hE, h1, h2, h3⟩ | ⟨h1, h2, h3, h4, h5⟩
      · simp only at h1 h2 h3
        subst h1 h2 h3
        have hl0 : l5 = [] := by simpa using hV
        subst hl0
        simp only [List.length_nil] at hPL hPFL
        subst hPL hPFL
        clear HH PL PFL V5 hV HF FL R
        rcases hE with rfl | rfl
        all_goals
          go_wp2_with fail
          go_ret
          exact ⟨ret_bool (by first | rfl | simp), B8.out⟩
      · simp only at h1 h2
        subst h1 h2
        rw [FL.out] at hPFL
        subst hPFL
        have wc : IntKind.i64.wrap (calls + 1) = calls + 1 := IntWalk.i64_in _ (by omega)
        generalize strF calls fs1 = sb at *
        generalize torF calls fs1 = tb at *
        clear HH PL PFL V5 hV HF FL R
        rcases h5 with ⟨rfl, rfl, h5⟩ | ⟨h5, h6⟩
        · cases tb with
          | false =>
            go_wp2_with fail
            go_ret
            exact ⟨ret_bool (by first | rfl | simp), B8.out⟩
          | true =>
            (go_wp2_with fail; go_ret; exact ⟨ret_bool (by first | rfl | simp), B8.out⟩)
        · rcases h5 with rfl | ⟨h5, _⟩
          · rcases h6 with rfl | ⟨h6, _⟩
            · cases tb <;> (go_wp2_with fail; go_ret; exact ⟨ret_bool (by first | rfl | simp), B8.out⟩)
            · cases h6
          · cases h5
    | succ k =>
      have hlt : k < n' := by omega
      have e1 : ((k + 1 : Nat) : Int) - 1 = (k : Int) := by omega
      rw [e1]
      obtain ⟨bk, off, hkl, rfl, hbl, x0, x1⟩ := Fts.at_ (HF.out.below (below_from hb.out B7.out B7.out.size)) hlt
      have ED : fs.drop k = fs[k] :: fs.drop (k + 1) := (List.getElem_cons_drop hkl).symm
      have E1 : strF calls (fs.drop k) = (decide (fs[k].call = calls) || strF calls (fs.drop (k + 1))) := by rw [ED]; rfl
      have E2 : torF calls (fs.drop k) = (if fs[k].call = calls then decide (fs[k].kind = 3) else torF calls (fs.drop (k + 1))) := by rw [ED, torF_cons]
      clear ED
      generalize fs[k] = f at *
      obtain ⟨fc, fk⟩ := f
      simp only at x0 x1 E1 E2
      have B2 := Lib.hid (fun m : Nat => below_drewN (w := wr) (Below.refl wr.heap.size wr) m)
      have k0 : (0 : Int) ≤ (k : Int) := by omega
      have k1 : (k : Int) < (n' : Int) := by omega
      have wk : IntKind.i64.wrap ((k : Int) - 1) = (k : Int) - 1 := IntWalk.i64_in _ (by omega)
      obtain ⟨sb, hsb⟩ : ∃ b, strF calls (fs.drop (k + 1)) = b := ⟨_, rfl⟩
      obtain ⟨tb, htb⟩ : ∃ b, torF calls (fs.drop (k + 1)) = b := ⟨_, rfl⟩
      rw [hsb] at E1
      rw [htb] at E2
      rw [hsb, htb]
      clear hsb htb
      by_cases hfc : fc = calls
      · rw [decide_eq_true hfc, Bool.true_or] at E1
        rw [if_pos hfc] at E2
        subst hfc
        have HE1 := Lib.hid E1
        clear E1
        by_cases h3 : fk = 3
        · subst h3
          have HE2 := Lib.hid (show torF fc (fs.drop k) = true from E2.trans (decide_eq_true rfl))
          clear E2
          go_wp2_with fail
          go_quiet (fail)
          go_wp2_with fail
          go_roundg k
          case measure => omega
          case rel => exact ⟨k, by omega, Nat.le_refl _, by rw [HE1.out], by rw [HE2.out], rfl, below_from (B2.out _) hb.out hb.out.size⟩
        · have HE2 := Lib.hid (show torF fc (fs.drop k) = false from E2.trans (decide_eq_false h3))
          have m3 : (fk == 3) = false := by rw [beq_eq_false_iff_ne]; exact h3
          have d3 : decide (fk = 3) = false := decide_eq_false h3
          clear E2
          go_wp2_with fail
          go_quiet (fail)
          go_wp2_with fail
          go_roundg k
          case measure => omega
          case rel => exact ⟨k, by omega, Nat.le_refl _, by rw [HE1.out], by rw [HE2.out], rfl, below_from (B2.out _) hb.out hb.out.size⟩
      · rw [decide_eq_false hfc, Bool.false_or] at E1
        rw [if_neg hfc] at E2
        have HE1 := Lib.hid E1
        have HE2 := Lib.hid E2
        clear E1 E2
        go_wp2_with fail
        go_quiet (fail)
        go_wp2_with fail
        go_roundg k
        case measure => omega
        case rel => exact ⟨k, by omega, Nat.le_refl _, by rw [HE1.out], by rw [HE2.out], rfl, below_from (B2.out _) hb.out hb.out.size⟩

set_option maxHeartbeats 8000000 in
set_option maxRecDepth 100000 in
theorem calls_out (A : Option Addr) (n c : Nat) (l : List Ob) (calls : Int) (A' : Option Addr) (n' c' : Nat) (fs : List Ft) (s : ByteArray) (Ab : Option Addr) (mb kb : Nat) (by_ : Int) (hby : by_ < 0 ∨ 3 < by_) (w : World) (hl : Obs w A n c l) (hf : Fts w A' n' c' fs) :
    Calls Try.prog 9 #[stV A n c calls A' n' c', .string s, .slice Ab mb kb, .int .i64 by_] w fun e w' => e = .returned (.bool true) ∧ Below w.heap.size w w' := by
  have B0 := Lib.hid (below_alloc1 w (.cells #[.slice A n c, .int .i64 calls, .slice A' n' c'] 25))
  have S0 := Lib.hid (Has.newAt w #[.slice A n c, .int .i64 calls, .slice A' n' c'] 25 (g := w.heap.size) rfl)
  have O0 := Lib.hid (hl.alloc (.cells #[.slice A n c, .int .i64 calls, .slice A' n' c'] 25))
  have F0 := Lib.hid (hf.alloc (.cells #[.slice A n c, .int .i64 calls, .slice A' n' c'] 25))
  have LV := Lib.hid live_any
  have FW := Lib.hid few_any
  have PT := Lib.hid put_at
  have GT := Lib.hid get_at
  have LT := Lib.hid list_at
  have DT := Lib.hid del_at
  have BY := Lib.hid bytes_at
  clear hl hf
  go_enter Try.func9, Try.ntmps9
  go_wp2_with fail
  refine (LV.out _).mono ?_
  intro e w1 hx
  obtain ⟨rfl, hb⟩ := hx
  have B1 := Lib.hid (below_from hb B0.out B0.out.size)
  have S1 := Lib.hid (S0.out.past hb)
  have cS1 := S1.out.cell
  have lS1 := S1.out.lt
  have O1 := Lib.hid (O0.out.below hb)
  have F1 := Lib.hid (F0.out.below hb)
  clear hb
  go_wp2_with fail
  refine (FW.out A n c l calls A' n' c' s Ab mb kb _ O1.out).mono ?_
  intro e w2 hx
  obtain ⟨⟨bf, rfl⟩, hb⟩ := hx
  have B2 := Lib.hid (below_from hb B1.out B1.out.size)
  have S2 := Lib.hid (S1.out.past hb)
  have cS2 := S2.out.cell
  have lS2 := S2.out.lt
  have O2 := Lib.hid (O1.out.below hb)
  have F2 := Lib.hid (F1.out.below hb)
  clear hb cS1 lS1
  cases bf with
  | false =>
    go_wp2_with fail
    go_ret
    exact ⟨rfl, B2.out⟩
  | true => ?_
  rcases hby with hby | hby
  all_goals
    go_wp2_with fail
    go_ret
    exact ⟨rfl, B2.out⟩

theorem calls_any (A : Option Addr) (n c : Nat) (l : List Ob) (calls : Int) (A' : Option Addr) (n' c' : Nat) (fs : List Ft) (s : ByteArray) (Ab : Option Addr) (mb kb : Nat) (bl : List UInt8) (by_ : Int) (w : World) (hl : Obs w A n c l) (hf : Fts w A' n' c' fs) (hbl : Sl u8K w Ab mb kb bl) (hsz : s.size ≤ maxLen) (hm : mb ≤ 140737488355328) :
    Calls Try.prog 9 #[stV A n c calls A' n' c', .string s, .slice Ab mb kb, .int .i64 by_] w fun e w' => e = .returned (.bool true) ∧ Below w.heap.size w w' := by
  by_cases hby : by_ < 0 ∨ 3 < by_
  · exact calls_out A n c l calls A' n' c' fs s Ab mb kb by_ hby w hl hf
  · rcases (show by_ = 0 ∨ by_ = 1 ∨ by_ = 2 ∨ by_ = 3 by omega) with rfl | rfl | rfl | rfl
    · exact calls0_any A n c l calls A' n' c' fs s Ab mb kb bl w hl hf hbl hsz hm
    · exact calls1_any A n c l calls A' n' c' fs s Ab mb kb bl w hl hf hbl hsz hm
    · exact calls2_any A n c l calls A' n' c' fs s Ab mb kb bl w hl hf hbl hsz hm
    · exact calls3_any A n c l calls A' n' c' fs s Ab mb kb bl w hl hf hbl hsz hm

end Go.Proofs.Ytnnmppnbkplamaa
