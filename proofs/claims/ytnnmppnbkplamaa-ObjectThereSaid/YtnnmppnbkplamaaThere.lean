/- ObjectThere of layer 14: the walk. -/
import Derived.Test.YtnnmppnbkplamaaLive
import Derived.Test.YtnnmppnbkplamaaPlain
namespace Go.Proofs.Ytnnmppnbkplamaa
open Go.RowKit Go.Shelf

set_option maxHeartbeats 8000000 in
set_option maxRecDepth 100000 in
theorem there_any (A : Option Addr) (n c : Nat) (l : List Ob) (calls : Int) (A' : Option Addr) (n' c' : Nat) (fs : List Ft) (s : ByteArray) (Ab : Option Addr) (mb kb : Nat) (bl : List UInt8) (w : World) (hl : Obs w A n c l) (hf : Fts w A' n' c' fs) (hbl : Sl u8K w Ab mb kb bl) (hsz : s.size ≤ maxLen) (hm : mb ≤ 140737488355328) :
    Calls Try.prog 5 #[stV A n c calls A' n' c', .string s, .slice Ab mb kb] w fun e w' => e = .returned (.bool true) ∧ Below w.heap.size w w' := by
  obtain ⟨L, hL⟩ : ∃ L, l.map Ob.val = L := ⟨_, rfl⟩
  have V := Lib.hid hL
  have HC := there_cases L calls fs s bl
  obtain ⟨r, hr⟩ : ∃ r, putR L calls fs s bl = r := ⟨_, rfl⟩
  obtain ⟨⟨L1, C1, fs1⟩, E⟩ := r
  rw [hr] at HC
  simp only at HC
  obtain ⟨q, hq⟩ : ∃ q, byR L s = q := ⟨_, rfl⟩
  obtain ⟨bs, b⟩ := q
  obtain ⟨q1, hq1⟩ : ∃ q, byR L1 s = q := ⟨_, rfl⟩
  obtain ⟨bs1, b1⟩ := q1
  rw [hq1, hq] at HC
  have R := Lib.hid hr
  have Q := Lib.hid hq
  have Q1 := Lib.hid hq1
  have Y0 := Lib.hid (hbl.alloc (.cells #[.slice A n c, .int .i64 calls, .slice A' n' c'] 25))
  have LBL := Lib.hid hbl.len
  have hcap := hbl.cap
  have hmax := hbl.max
  clear hr hq hq1 hL
  have B0 := Lib.hid (below_alloc1 w (.cells #[.slice A n c, .int .i64 calls, .slice A' n' c'] 25))
  have S0 := Lib.hid (Has.newAt w #[.slice A n c, .int .i64 calls, .slice A' n' c'] 25 (g := w.heap.size) rfl)
  have O0 := Lib.hid (hl.alloc (.cells #[.slice A n c, .int .i64 calls, .slice A' n' c'] 25))
  have F0 := Lib.hid (hf.alloc (.cells #[.slice A n c, .int .i64 calls, .slice A' n' c'] 25))
  have LV := Lib.hid live_any
  have FW := Lib.hid few_any
  have PT := Lib.hid put_at
  have GT := Lib.hid get_at
  have LT := Lib.hid list_at
  have DT := Lib.hid del_at
  have BY := Lib.hid bytes_at
  clear hl hf hbl
  go_enter Try.func5, Try.ntmps5
  go_wp2_with fail
  refine (LV.out _).mono ?_
  intro e w1 hx
  obtain ⟨rfl, hb⟩ := hx
  have B1 := Lib.hid (below_from hb B0.out B0.out.size)
  have S1 := Lib.hid (S0.out.past hb)
  have cS1 := S1.out.cell
  have lS1 := S1.out.lt
  have O1 := Lib.hid (O0.out.below hb)
  have F1 := Lib.hid (F0.out.below hb)
  have Y1 := Lib.hid (Y0.out.below hb)
  clear hb
  go_wp2_with fail
  refine (FW.out A n c l calls A' n' c' s Ab mb kb _ O1.out).mono ?_
  intro e w2 hx
  obtain ⟨⟨bf, rfl⟩, hb⟩ := hx
  have B2 := Lib.hid (below_from hb B1.out B1.out.size)
  have S2 := Lib.hid (S1.out.past hb)
  have cS2 := S2.out.cell
  have lS2 := S2.out.lt
  have O2 := Lib.hid (O1.out.below hb)
  have F2 := Lib.hid (F1.out.below hb)
  have Y2 := Lib.hid (Y1.out.below hb)
  clear hb cS1 lS1
  cases bf with
  | false =>
    go_wp2_with fail
    go_ret
    exact ⟨rfl, B2.out⟩
  | true => ?_
  go_wp2_with fail
  refine (BY.out A n c l calls A' n' c' s _ O2.out V.out Q.out).mono ?_
  intro e w3 hx
  obtain ⟨rfl, hb⟩ := hx
  have B3 := Lib.hid (below_from hb B2.out B2.out.size)
  have S3 := Lib.hid (S2.out.past hb)
  have cS3 := S3.out.cell
  have lS3 := S3.out.lt
  have O3 := Lib.hid (O2.out.below hb)
  have F3 := Lib.hid (F2.out.below hb)
  have Y3 := Lib.hid (Y2.out.below hb)
  clear cS2 lS2 hb
  go_wp2_with fail
  refine (PT.out A n c l calls A' n' c' fs s Ab mb kb bl _ O3.out F3.out Y3.out hsz hm V.out R.out).mono ?_
  intro e w4 hx
  obtain ⟨A4, n4, c4, l4, A4', n4', c4', rfl, ho, hv, hf, hb⟩ := hx
  have V4 := Lib.hid hv
  have bk4 := hb.alloc hb.size (.cells #[.slice A4 n4 c4, .int .i64 C1, .slice A4' n4' c4'] 25)
  have B4 := Lib.hid (below_from bk4 B3.out B3.out.size)
  have S4 := Lib.hid (S3.out.past bk4)
  have cS4 := S4.out.cell
  have lS4 := S4.out.lt
  have O4 := Lib.hid (O3.out.below bk4)
  have F4 := Lib.hid (F3.out.below bk4)
  have Y4 := Lib.hid (Y3.out.below bk4)
  have P4 := Lib.hid ((ho).alloc (.cells #[.slice A4 n4 c4, .int .i64 C1, .slice A4' n4' c4'] 25))
  have T4 := Lib.hid (Has.newAt w4 #[.slice A4 n4 c4, .int .i64 C1, .slice A4' n4' c4'] 25 (g := w4.heap.size) rfl)
  have cT4 := T4.out.cell
  have lT4 := T4.out.lt
  clear bk4
  clear cS3 lS3 hb ho hv hf
  rcases HC with HC | HC | HC | HC | ⟨h0, h1, h2, h3⟩
  rotate_left 4
  · subst h2 h3
    have hn4 : n4 = 0 := by have := P4.out.len; rw [← List.length_map (f := Ob.val), V4.out] at this; exact this.symm
    subst hn4
    have m0 : (E != 0) = true := by simpa using h0
    have m1 : (E != 140) = true := by simpa using h1
    go_wp2_with fail
    go_ret
    exact ⟨ret_bool (by first | rfl | simp), B4.out⟩
  · obtain ⟨rfl, h1⟩ := HC
    injection h1 with h1 h2
    subst h1 h2
    go_wp2_with fail
    refine (BY.out A4 n4 c4 l4 C1 A4' n4' c4' s _ P4.out V4.out Q1.out).mono ?_
    intro e w5 hx
    obtain ⟨rfl, hb⟩ := hx
    have B5 := Lib.hid (below_from hb B4.out B4.out.size)
    have Y5 := Lib.hid (Y4.out.below hb)
    have P5 := Lib.hid (P4.out.below hb)
    have T5 := Lib.hid (T4.out.past hb)
    have cT5 := T5.out.cell
    have lT5 := T5.out.lt
    clear cT4 lT4 hb
    have CV1 := conv_bs (P := Try.prog) Y5.out 26 Try.underlying26 Try.underlying5 Try.underlying9
    go_wp2_with fail
    go_ret
    exact ⟨ret_bool (by first | rfl | simp), B5.out⟩
  · obtain ⟨rfl, h1⟩ := HC
    injection h1 with h1 h2
    subst h1 h2
    go_wp2_with fail
    refine (BY.out A4 n4 c4 l4 C1 A4' n4' c4' s _ P4.out V4.out Q1.out).mono ?_
    intro e w5 hx
    obtain ⟨rfl, hb⟩ := hx
    have B5 := Lib.hid (below_from hb B4.out B4.out.size)
    have Y5 := Lib.hid (Y4.out.below hb)
    have P5 := Lib.hid (P4.out.below hb)
    have T5 := Lib.hid (T4.out.past hb)
    have cT5 := T5.out.cell
    have lT5 := T5.out.lt
    clear cT4 lT4 hb
    have CV1 := conv_bs (P := Try.prog) Y5.out 26 Try.underlying26 Try.underlying5 Try.underlying9
    cases b1 <;> (go_wp2_with fail; go_ret; exact ⟨ret_bool (by first | rfl | simp), B5.out⟩)
  · obtain ⟨rfl, h1⟩ := HC
    injection h1 with h1 h2
    subst h1 h2
    go_wp2_with fail
    refine (BY.out A4 n4 c4 l4 C1 A4' n4' c4' s _ P4.out V4.out Q1.out).mono ?_
    intro e w5 hx
    obtain ⟨rfl, hb⟩ := hx
    have B5 := Lib.hid (below_from hb B4.out B4.out.size)
    have Y5 := Lib.hid (Y4.out.below hb)
    have P5 := Lib.hid (P4.out.below hb)
    have T5 := Lib.hid (T4.out.past hb)
    have cT5 := T5.out.cell
    have lT5 := T5.out.lt
    clear cT4 lT4 hb
    have CV1 := conv_bs (P := Try.prog) Y5.out 26 Try.underlying26 Try.underlying5 Try.underlying9
    by_cases e1 : bs1 = bs
    · subst e1
      cases b <;> (go_wp2_with fail; go_ret; exact ⟨ret_bool (by first | rfl | simp), B5.out⟩)
    · have ne1 := str_ne (a := ⟨bs1.toArray⟩) (b := ⟨bs.toArray⟩) (fun e => e1 ((str_eq _ _).1 e))
      cases b <;> (go_wp2_with fail; go_ret; exact ⟨ret_bool (by first | rfl | simp), B5.out⟩)
  · obtain ⟨rfl, h1⟩ := HC
    injection h1 with h1 h2
    subst h2
    go_wp2_with fail
    refine (BY.out A4 n4 c4 l4 C1 A4' n4' c4' s _ P4.out V4.out Q1.out).mono ?_
    intro e w5 hx
    obtain ⟨rfl, hb⟩ := hx
    have B5 := Lib.hid (below_from hb B4.out B4.out.size)
    have Y5 := Lib.hid (Y4.out.below hb)
    have P5 := Lib.hid (P4.out.below hb)
    have T5 := Lib.hid (T4.out.past hb)
    have cT5 := T5.out.cell
    have lT5 := T5.out.lt
    clear cT4 lT4 hb
    have CV1 := conv_bs (P := Try.prog) Y5.out 26 Try.underlying26 Try.underlying5 Try.underlying9
    have CV2 := conv_bs (P := Try.prog) (Y5.out.take (mb / 2) (by omega)) 26 Try.underlying26 Try.underlying5 Try.underlying9
    rw [← LBL.out] at CV2
    have w2' : IntKind.i64.wrap ((mb : Int) / 2) = (mb : Int) / 2 := IntWalk.i64_in _ (by omega)
    have w3' : ((mb : Int) / 2).toNat = bl.length / 2 := by rw [LBL.out]; omega
    have w4' : (0 : Int) ≤ (mb : Int) / 2 := by omega
    have w5' : (mb : Int) / 2 ≤ (kb : Int) := by omega
    obtain ⟨tb, htb⟩ : ∃ tb, bl.take (bl.length / 2) = tb := ⟨_, rfl⟩
    rw [htb] at CV2 h1
    clear htb
    subst h1
    by_cases e1 : bs1 = bs
    · subst e1
      by_cases e2 : bs1 = bl
      · subst e2
        cases b <;> (go_wp2_with fail; go_ret; exact ⟨ret_bool (by first | rfl | simp), B5.out⟩)
      · have ne2 := str_ne (a := ⟨bs1.toArray⟩) (b := ⟨bl.toArray⟩) (fun e => e2 ((str_eq _ _).1 e))
        cases b <;> (go_wp2_with fail; go_ret; exact ⟨ret_bool (by first | rfl | simp), B5.out⟩)
    · have ne1 := str_ne (a := ⟨bs1.toArray⟩) (b := ⟨bs.toArray⟩) (fun e => e1 ((str_eq _ _).1 e))
      by_cases e2 : bs1 = bl
      · subst e2
        cases b <;> (go_wp2_with fail; go_ret; exact ⟨ret_bool (by first | rfl | simp), B5.out⟩)
      · have ne2 := str_ne (a := ⟨bs1.toArray⟩) (b := ⟨bl.toArray⟩) (fun e => e2 ((str_eq _ _).1 e))
        cases b <;> (go_wp2_with fail; go_ret; exact ⟨ret_bool (by first | rfl | simp), B5.out⟩)

end Go.Proofs.Ytnnmppnbkplamaa
