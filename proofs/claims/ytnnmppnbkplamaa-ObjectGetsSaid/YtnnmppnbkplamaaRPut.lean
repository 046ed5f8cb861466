/- The document's Put. -/
import Derived.Test.YtnnmppnbkplamaaRWp
import Derived.Test.YtnnmppnbkplamaaSeg
import Derived.Test.YtnnmppnbkplamaaRChk
import Derived.Test.YtnnmppnbkplamaaRNm
import Derived.Test.YtnnmppnbkplamaaCallsP
namespace Go.Proofs.Ytnnmppnbkplamaa
open Go.RowKit Go.Shelf

theorem findI_neg (s : ByteArray) (L : List Oc) : findI s L < 0 ↔ findO s L = none := by
  unfold findI
  by_cases h : (findO s L).isSome = true
  · rw [if_pos h]
    exact ⟨fun h1 => by omega, fun h1 => by rw [h1] at h; cases h⟩
  · rw [if_neg h]
    exact ⟨fun _ => by simpa using h, fun _ => by omega⟩

set_option maxRecDepth 100000 in
set_option maxHeartbeats 4000000 in
theorem rput_out (A : Option Addr) (n c : Nat) (l : List Ob) (calls : Int) (A' : Option Addr) (n' c' : Nat) (fs : List Ft) (s : ByteArray) (Ab : Option Addr) (mb kb : Nat) (w : World) (hl : Obs w A n c l) (hf : Fts w A' n' c' fs) (hsz : s.size ≤ maxLen) (he : mayR (l.map Ob.val) calls fs s ≠ 0) :
    Calls Try.prog 14 #[stV A n c calls A' n' c', .string s, .slice Ab mb kb] w (StR [] 0 [] (mayR (l.map Ob.val) calls fs s) w) := by
  obtain ⟨W1, hW1⟩ : ∃ W1, W1 = (w.alloc (.cells #[.slice A n c, .int .i64 calls, .slice A' n' c'] 25)).alloc (.cells #[.slice none 0 0, .int .i64 0, .slice none 0 0] 25) := ⟨_, rfl⟩
  have B1 := Lib.hid (show Below w.heap.size w W1 from by rw [hW1]; exact ((Below.refl _ w).alloc (Nat.le_refl _) _).alloc (by simp) _)
  have z1 : w.heap.size + 2 ≤ W1.heap.size := by rw [hW1]; simp
  have S1 := Lib.hid (show Has W1 w.heap.size #[.slice A n c, .int .i64 calls, .slice A' n' c'] from by rw [hW1]; exact (Has.newAt w _ 25 rfl).alloc _)
  have R1 := Lib.hid (show Has W1 (w.heap.size + 1) #[.slice none 0 0, .int .i64 0, .slice none 0 0] from by rw [hW1]; exact Has.newAt _ _ 25 (by simp))
  have HW := Lib.hid hW1
  have HL := Lib.hid hl
  have HF := Lib.hid hf
  have MY := Lib.hid (rmay_any A n c l calls A' n' c' fs s W1 (hl.below B1.out) (hf.below B1.out) hsz)
  obtain ⟨E, hE⟩ : ∃ E, mayR (l.map Ob.val) calls fs s = E := ⟨_, rfl⟩
  rw [hE] at MY he ⊢
  have m0 : (E == 0) = false := by rw [beq_eq_false_iff_ne]; exact he
  have d0 : decide (E = 0) = false := decide_eq_false he
  clear hl hf hsz hW1 he hE
  go_enter Try.func14, Try.ntmps14
  go_wp2_with fail
  rw [← HW.out]
  refine MY.out.mono ?_
  rintro e w2 ⟨rfl, hb2⟩
  have B2 := Lib.hid (below_from hb2 B1.out B1.out.size)
  have S2 := Lib.hid (S1.out.past hb2)
  have R2 := Lib.hid (R1.out.past hb2)
  have z2 := hb2.size
  have s2c := S2.out.cell
  have s2l := S2.out.lt
  have r2c := R2.out.cell
  have r2f := R2.out.free
  have r2l := R2.out.lt
  clear hb2
  go_wp2_with fail
  have gs := setCells_grown (w.heap.size + 1) [.slice none 0 0, .int .i64 0, .slice none 0 0] 0 w2
  have bw := B2.out.grown gs B2.out.size (fun q hq => by injection hq with hq; omega)
  refine bodyPost_ret (v := .tuple #[stV none 0 0 0 none 0 0, .int .i64 E]) (by simp [results, Try.results14, go_sem, r2c]) rfl ?_
  exact ⟨none, 0, 0, [], none, 0, 0, rfl, Sl.nil _ _, rfl, Sl.nil _ _, bw⟩

set_option maxRecDepth 100000 in
set_option maxHeartbeats 4000000 in
theorem rput_bound (A : Option Addr) (n c : Nat) (l : List Ob) (calls : Int) (A' : Option Addr) (n' c' : Nat) (fs : List Ft) (s : ByteArray) (Ab : Option Addr) (mb kb : Nat) (w : World) (hl : Obs w A n c l) (hf : Fts w A' n' c' fs) (hsz : s.size ≤ maxLen) (he : mayR (l.map Ob.val) calls fs s = 0) (hm : mb ≤ 140737488355328) (hb : 8192 < mb ∨ (findO s (l.map Ob.val) = none ∧ 1024 ≤ n)) :
    Calls Try.prog 14 #[stV A n c calls A' n' c', .string s, .slice Ab mb kb] w (StR [] 0 [] 2 w) := by
  obtain ⟨W1, hW1⟩ : ∃ W1, W1 = (w.alloc (.cells #[.slice A n c, .int .i64 calls, .slice A' n' c'] 25)).alloc (.cells #[.slice none 0 0, .int .i64 0, .slice none 0 0] 25) := ⟨_, rfl⟩
  have B1 := Lib.hid (show Below w.heap.size w W1 from by rw [hW1]; exact ((Below.refl _ w).alloc (Nat.le_refl _) _).alloc (by simp) _)
  have z1 : w.heap.size + 2 ≤ W1.heap.size := by rw [hW1]; simp
  have S1 := Lib.hid (show Has W1 w.heap.size #[.slice A n c, .int .i64 calls, .slice A' n' c'] from by rw [hW1]; exact (Has.newAt w _ 25 rfl).alloc _)
  have R1 := Lib.hid (show Has W1 (w.heap.size + 1) #[.slice none 0 0, .int .i64 0, .slice none 0 0] from by rw [hW1]; exact Has.newAt _ _ 25 (by simp))
  have HW := Lib.hid hW1
  have HL := Lib.hid hl
  have HF := Lib.hid hf
  have MY := Lib.hid (rmay_any A n c l calls A' n' c' fs s W1 (hl.below B1.out) (hf.below B1.out) hsz)
  rw [he] at MY
  have FD := Lib.hid (fun w9 (h9 : Below w.heap.size w w9) => rfind_any A n c l calls A' n' c' s w9 (hl.below h9))
  have hnm := hl.max
  have hnc := hl.cap
  clear hl hf hsz hW1 he
  go_enter Try.func14, Try.ntmps14
  go_wp2_with fail
  rw [← HW.out]
  refine MY.out.mono ?_
  rintro e w2 ⟨rfl, hb2⟩
  have B2 := Lib.hid (below_from hb2 B1.out B1.out.size)
  have S2 := Lib.hid (S1.out.past hb2)
  have R2 := Lib.hid (R1.out.past hb2)
  have z2 := hb2.size
  have s2c := S2.out.cell
  have s2l := S2.out.lt
  have r2c := R2.out.cell
  have r2f := R2.out.free
  have r2l := R2.out.lt
  clear hb2
  by_cases h8 : 8192 < mb
  · have g8 : decide ((8192 : Int) < (mb : Int)) = true := decide_eq_true (by omega)
    clear hb
    go_wp2_with fail
    have gs := setCells_grown (w.heap.size + 1) [.slice none 0 0, .int .i64 0, .slice none 0 0] 0 w2
    have bw := B2.out.grown gs B2.out.size (fun q hq => by injection hq with hq; omega)
    refine bodyPost_ret (v := .tuple #[stV none 0 0 0 none 0 0, .int .i64 2]) (by simp [results, Try.results14, go_sem, r2c]) rfl ?_
    exact ⟨none, 0, 0, [], none, 0, 0, rfl, Sl.nil _ _, rfl, Sl.nil _ _, bw⟩
  · have g8 : decide ((8192 : Int) < (mb : Int)) = false := decide_eq_false (by omega)
    have hb' := hb.resolve_left h8
    have h1 := (findI_neg s (l.map Ob.val)).2 hb'.1
    have h2 := hb'.2
    obtain ⟨fi, hfi⟩ : ∃ fi, findI s (l.map Ob.val) = fi := ⟨_, rfl⟩
    rw [hfi] at FD h1
    have g9 : decide (fi < 0) = true := decide_eq_true h1
    have g10 : decide ((1024 : Int) ≤ (n : Int)) = true := decide_eq_true (by omega)
    clear hb hb' hfi h1 h2 h8
    go_wp2_with fail
    refine (FD.out _ B2.out).mono ?_
    rintro e w3 ⟨rfl, hb⟩
    have B3 := Lib.hid (below_from hb B2.out B2.out.size)
    have S3 := Lib.hid (S2.out.past hb)
    have R3 := Lib.hid (R2.out.past hb)
    have z3 := hb.size
    have s3c := S3.out.cell
    have s3l := S3.out.lt
    have r3c := R3.out.cell
    have r3f := R3.out.free
    have r3l := R3.out.lt
    clear hb s2c s2l r2c r2f r2l
    go_wp2_with fail
    have gs := setCells_grown (w.heap.size + 1) [.slice none 0 0, .int .i64 0, .slice none 0 0] 0 w3
    have bw := B3.out.grown gs B3.out.size (fun q hq => by injection hq with hq; omega)
    refine bodyPost_ret (v := .tuple #[stV none 0 0 0 none 0 0, .int .i64 2]) (by simp [results, Try.results14, go_sem, r3c]) rfl ?_
    exact ⟨none, 0, 0, [], none, 0, 0, rfl, Sl.nil _ _, rfl, Sl.nil _ _, bw⟩

set_option maxRecDepth 100000 in
set_option maxHeartbeats 4000000 in
theorem rput_ok (A : Option Addr) (n c : Nat) (l : List Ob) (calls : Int) (A' : Option Addr) (n' c' : Nat) (fs : List Ft) (s : ByteArray) (Ab : Option Addr) (mb kb : Nat) (bl : List UInt8) (w : World) (hl : Obs w A n c l) (hf : Fts w A' n' c' fs) (hsz : s.size ≤ maxLen) (hbl : Sl u8K w Ab mb kb bl) (he : mayR (l.map Ob.val) calls fs s = 0) (hm : mb ≤ 140737488355328) (hb : ¬ (8192 < mb ∨ (findO s (l.map Ob.val) = none ∧ 1024 ≤ n))) :
    Calls Try.prog 14 #[stV A n c calls A' n' c', .string s, .slice Ab mb kb] w (StR (putL (l.map Ob.val) s bl (faultC calls fs)) (calls + 1) fs (doneE (faultC calls fs)) w) := by
  obtain ⟨W1, hW1⟩ : ∃ W1, W1 = (w.alloc (.cells #[.slice A n c, .int .i64 calls, .slice A' n' c'] 25)).alloc (.cells #[.slice none 0 0, .int .i64 0, .slice none 0 0] 25) := ⟨_, rfl⟩
  have B1 := Lib.hid (show Below w.heap.size w W1 from by rw [hW1]; exact ((Below.refl _ w).alloc (Nat.le_refl _) _).alloc (by simp) _)
  have z1 : w.heap.size + 2 ≤ W1.heap.size := by rw [hW1]; simp
  have S1 := Lib.hid (show Has W1 w.heap.size #[.slice A n c, .int .i64 calls, .slice A' n' c'] from by rw [hW1]; exact (Has.newAt w _ 25 rfl).alloc _)
  have R1 := Lib.hid (show Has W1 (w.heap.size + 1) #[.slice none 0 0, .int .i64 0, .slice none 0 0] from by rw [hW1]; exact Has.newAt _ _ 25 (by simp))
  have HW := Lib.hid hW1
  have HL := Lib.hid hl
  have HF := Lib.hid hf
  have MY := Lib.hid (rmay_any A n c l calls A' n' c' fs s W1 (hl.below B1.out) (hf.below B1.out) hsz)
  obtain ⟨k1, k2, k3, k4, _, k6, k7⟩ := check_ok (may_ok he).1
  rw [hl.len] at k1
  rw [hf.len] at k2
  have OK := Lib.hid (check_zero (may_ok he).1)
  have CA := Lib.hid (fun w9 (h9 : Below w.heap.size w w9) => rcalled_any A n c l calls A' n' c' fs w9 (hl.below (h9.mono (Nat.le_refl _))) (hf.below h9) k1 k2 k3 k4)
  have FA := Lib.hid (fun w9 (h9 : Below w.heap.size w w9) => rfault_any A n c calls A' n' c' fs w9 (hf.below h9))
  have HE : Hid (mayR (l.map Ob.val) calls fs s = 0) := Lib.hid he
  obtain ⟨ft, hft⟩ : ∃ ft, faultC calls fs = ft := ⟨_, rfl⟩
  have HFT : Hid (ft = 0 ∨ ft = 1 ∨ ft = 2 ∨ ft = 3) := Lib.hid (by
    rcases fault_str k7 with ⟨_, h⟩ | ⟨_, h⟩ <;> rw [hft] at h <;> omega)
  rw [hft] at FA ⊢
  rw [he] at MY
  have FD := Lib.hid (fun w9 (h9 : Below w.heap.size w w9) => rfind_any A n c l calls A' n' c' s w9 (hl.below h9))
  have h8 : mb ≤ 8192 := by omega
  have g8 : decide ((8192 : Int) < (mb : Int)) = false := decide_eq_false (by omega)
  have WP := Lib.hid (fun m1 b1 w9 (h9 : Below w.heap.size w w9) (h10 : Sl u8K w9 Ab m1 kb b1) (h11 : m1 ≤ 8192) => rwith_put A n c l calls A' n' c' fs s Ab m1 kb b1 w9 (hl.below h9) (hf.below h9) k1 k2 k3 k4 h10 h11 hsz OK.out)
  have HSZ := Lib.hid hsz
  have HBL := Lib.hid hbl
  have hkb := hbl.cap
  have hkm := hbl.max
  have hnm := hl.max
  have hnc := hl.cap
  have GB : (∃ fi, Hid (findI s (l.map Ob.val) = fi) ∧ decide (fi < 0) = false) ∨ (∃ fi, Hid (findI s (l.map Ob.val) = fi) ∧ decide (fi < 0) = true ∧ decide ((1024 : Int) ≤ (n : Int)) = false) := by
    by_cases h : findI s (l.map Ob.val) < 0
    · exact .inr ⟨_, Lib.hid rfl, decide_eq_true h, decide_eq_false (fun h2 => hb (.inr ⟨(findI_neg _ _).1 h, by omega⟩))⟩
    · exact .inl ⟨_, Lib.hid rfl, decide_eq_false h⟩
  clear hbl hb k7 k6
  clear hl hf hsz hW1 he hft
  go_enter Try.func14, Try.ntmps14
  go_wp2_with fail
  rw [← HW.out]
  refine MY.out.mono ?_
  rintro e w2 ⟨rfl, hb2⟩
  have B2 := Lib.hid (below_from hb2 B1.out B1.out.size)
  have S2 := Lib.hid (S1.out.past hb2)
  have R2 := Lib.hid (R1.out.past hb2)
  have z2 := hb2.size
  have s2c := S2.out.cell
  have s2l := S2.out.lt
  have r2c := R2.out.cell
  have r2f := R2.out.free
  have r2l := R2.out.lt
  clear hb2
  rcases GB with ⟨fi, GI, g9⟩ | ⟨fi, GI, g9, g10⟩
  · skip
    go_wp2_with fail
    refine (FD.out _ B2.out).mono ?_
    rintro e w3 ⟨rfl, hb⟩
    have B3 := Lib.hid (below_from hb B2.out B2.out.size)
    have S3 := Lib.hid (S2.out.past hb)
    have R3 := Lib.hid (R2.out.past hb)
    have z3 := hb.size
    have s3c := S3.out.cell
    have s3l := S3.out.lt
    have r3c := R3.out.cell
    have r3f := R3.out.free
    have r3l := R3.out.lt
    clear hb s2c s2l r2c r2f r2l
    rw [GI.out]
    go_wp2_with fail
    refine (FA.out _ B3.out).mono ?_
    rintro e w4 ⟨rfl, hb⟩
    have B4 := Lib.hid (below_from hb B3.out B3.out.size)
    have S4 := Lib.hid (S3.out.past hb)
    have R4 := Lib.hid (R3.out.past hb)
    have z4 := hb.size
    have s4c := S4.out.cell
    have s4l := S4.out.lt
    have r4c := R4.out.cell
    have r4f := R4.out.free
    have r4l := R4.out.lt
    clear hb s3c s3l r3c r3f r3l
    rcases HFT.out with rfl | rfl | rfl | rfl
    · skip
      go_wp2_with fail
      refine (WP.out mb bl _ B4.out (HBL.out.below B4.out) h8).mono ?_
      intro e w5 hx
      obtain ⟨A2, n2, c2, l2, A3, c3, rfl, hO, hv, hF, hb, hi⟩ := hx
      have B5 := Lib.hid (below_from hb B4.out B4.out.size)
      have S5 := Lib.hid (S4.out.past hb)
      have R5 := Lib.hid (R4.out.past hb)
      have z5 := hb.size
      have s5c := S5.out.cell
      have s5l := S5.out.lt
      have r5c := R5.out.cell
      have r5f := R5.out.free
      have r5l := R5.out.lt
      have O5 := Lib.hid hO
      have F5 := Lib.hid hF
      have V5 := Lib.hid hv
      have HI5 := Lib.hid hi
      clear hb s4c s4l r4c r4f r4l hO hF hv hi
      go_wp2_with fail
      have gs := setCells_grown (w.heap.size + 1) [.slice A2 n2 c2, .int .i64 (calls + 1), .slice A3 n' c3] 0 w5
      have bw := B5.out.grown gs B5.out.size (fun q hq => by injection hq with hq; omega)
      refine bodyPost_ret (v := .tuple #[stV A2 n2 c2 (calls + 1) A3 n' c3, .int .i64 0]) (by simp [results, Try.results14, go_sem, r5c]) rfl ?_
      exact ⟨A2, n2, c2, l2, A3, n', c3, rfl, (O5.out.grown gs (by omega) (fun x hx => (HI5.out x hx).elim (fun h => (HL.out.each x h).below bw) (fun h => ⟨(h.2.2.grown gs (by omega) (fun _ _ => trivial)).sl, by omega, by rw [h.2.1]; exact HSZ.out⟩))).sl, V5.out, (F5.out.grown gs (by omega) (fun x hx => F5.out.2.2 x hx)).sl, bw⟩
    · skip
      go_wp2_with fail
      refine (CA.out _ B4.out).mono ?_
      intro e w5 hx
      obtain ⟨A2, c2, A3, c3, rfl, hO, hF, hb⟩ := hx
      have B5 := Lib.hid (below_from hb B4.out B4.out.size)
      have S5 := Lib.hid (S4.out.past hb)
      have R5 := Lib.hid (R4.out.past hb)
      have z5 := hb.size
      have s5c := S5.out.cell
      have s5l := S5.out.lt
      have r5c := R5.out.cell
      have r5f := R5.out.free
      have r5l := R5.out.lt
      have O5 := Lib.hid hO
      have F5 := Lib.hid hF
      clear hb s4c s4l r4c r4f r4l hO hF
      go_wp2_with fail
      have gs := setCells_grown (w.heap.size + 1) [.slice A2 n c2, .int .i64 (calls + 1), .slice A3 n' c3] 0 w5
      have bw := B5.out.grown gs B5.out.size (fun q hq => by injection hq with hq; omega)
      refine bodyPost_ret (v := .tuple #[stV A2 n c2 (calls + 1) A3 n' c3, .int .i64 140]) (by simp [results, Try.results14, go_sem, r5c]) rfl ?_
      exact ⟨A2, n, c2, l, A3, n', c3, rfl, (O5.out.grown gs (by omega) (fun x hx => (HL.out.each x hx).below bw)).sl, rfl, (F5.out.grown gs (by omega) (fun x hx => F5.out.2.2 x hx)).sl, bw⟩
    · skip
      go_wp2_with fail
      refine (WP.out mb bl _ B4.out (HBL.out.below B4.out) h8).mono ?_
      intro e w5 hx
      obtain ⟨A2, n2, c2, l2, A3, c3, rfl, hO, hv, hF, hb, hi⟩ := hx
      have B5 := Lib.hid (below_from hb B4.out B4.out.size)
      have S5 := Lib.hid (S4.out.past hb)
      have R5 := Lib.hid (R4.out.past hb)
      have z5 := hb.size
      have s5c := S5.out.cell
      have s5l := S5.out.lt
      have r5c := R5.out.cell
      have r5f := R5.out.free
      have r5l := R5.out.lt
      have O5 := Lib.hid hO
      have F5 := Lib.hid hF
      have V5 := Lib.hid hv
      have HI5 := Lib.hid hi
      clear hb s4c s4l r4c r4f r4l hO hF hv hi
      go_wp2_with fail
      have gs := setCells_grown (w.heap.size + 1) [.slice A2 n2 c2, .int .i64 (calls + 1), .slice A3 n' c3] 0 w5
      have bw := B5.out.grown gs B5.out.size (fun q hq => by injection hq with hq; omega)
      refine bodyPost_ret (v := .tuple #[stV A2 n2 c2 (calls + 1) A3 n' c3, .int .i64 140]) (by simp [results, Try.results14, go_sem, r5c]) rfl ?_
      exact ⟨A2, n2, c2, l2, A3, n', c3, rfl, (O5.out.grown gs (by omega) (fun x hx => (HI5.out x hx).elim (fun h => (HL.out.each x h).below bw) (fun h => ⟨(h.2.2.grown gs (by omega) (fun _ _ => trivial)).sl, by omega, by rw [h.2.1]; exact HSZ.out⟩))).sl, V5.out, (F5.out.grown gs (by omega) (fun x hx => F5.out.2.2 x hx)).sl, bw⟩
    · skip
      have w2 : IntKind.i64.wrap ((mb : Int) / 2) = (mb : Int) / 2 := IntWalk.i64_in _ (by omega)
      have w3 : ((mb : Int) / 2).toNat = mb / 2 := by omega
      have w4' : (0 : Int) ≤ (mb : Int) / 2 := by omega
      have w5' : (mb : Int) / 2 ≤ (kb : Int) := by omega
      have w6' : mb / 2 ≤ kb := by omega
      go_wp2_with fail
      refine region_seg (fun w' => w'.cell? ⟨w.heap.size, 0, none⟩ = some (.slice A n c) ∧ w'.cell? ⟨w.heap.size, 1, none⟩ = some (.int .i64 calls) ∧ w'.cell? ⟨w.heap.size, 2, none⟩ = some (.slice A' n' c')) 8 [(0, true), (1, true), (2, true), (3, true), (4, true), (5, true), (6, true), (7, false)] (by kernel_rfl) (by kernel_rfl) (by simp [go_sem, *]) (fun hHeld => ?_)
      iterate 7
        refine seg_take (v := ?_) (by simp only [List.getElem?_toArray, List.getElem?_cons_succ, List.getElem?_cons_zero]; rfl) (Or.inl ⟨by rfl, ?_⟩) ?_
        rotate_left 1
        · intro w hSw
          try dsimp only at hSw
          go_simp
          try with_reducible rfl
        try simp only [Act.put, List.setIfInBounds_toArray, List.set_cons_zero, List.set_cons_succ]
      refine seg_op (by simp only [List.getElem?_toArray, List.getElem?_cons_succ, List.getElem?_cons_zero]; rfl) (fun K hK => ?_)
      go_wp2_with (go_at_call 41; have B4 := Lib.hid B4.out.drew; have S4 := Lib.hid S4.out.drew; have R4 := Lib.hid R4.out.drew; refine (WP.out (mb / 2) (bl.take (mb / 2)) _ B4.out ((HBL.out.below B4.out).take (mb / 2) (by omega)) (by omega)).mono ?_; intro e w5 hx; obtain ⟨A2, n2, c2, l2, A3, c3, rfl, hO, hv, hF, hb, hi⟩ := hx; have B5 := Lib.hid (below_from hb B4.out B4.out.size); have S5 := Lib.hid (S4.out.past hb); have R5 := Lib.hid (R4.out.past hb); have z5 : w4.heap.size ≤ w5.heap.size := hb.size; have qd : w4.heap.size ≤ w4.drew.heap.size := Nat.le_refl _; have s5c := S5.out.cell; have s5l := S5.out.lt; have r5c := R5.out.cell; have r5f := R5.out.free; have r5l := R5.out.lt; have O5 := Lib.hid hO; have F5 := Lib.hid hF; have V5 := Lib.hid hv; have HI5 := Lib.hid hi; clear hb s4c s4l r4c r4f r4l hO hF hv hi)
      clear hHeld
      refine hK.out _ _ ⟨S5.out.cell 0, S5.out.cell 1, S5.out.cell 2⟩ (fun hHeld => ?_)
      clear hK K
      try simp only [Act.put, List.setIfInBounds_toArray, List.set_cons_zero, List.set_cons_succ]
      refine seg_tail rfl ?_
      clear hHeld
      go_wp2_with fail
      have gs := setCells_grown (w.heap.size + 1) [.slice A2 n2 c2, .int .i64 (calls + 1), .slice A3 n' c3] 0 w5
      have bw := B5.out.grown gs B5.out.size (fun q hq => by injection hq with hq; omega)
      refine bodyPost_ret (v := .tuple #[stV A2 n2 c2 (calls + 1) A3 n' c3, .int .i64 140]) (by simp [results, Try.results14, go_sem, r5c]) rfl ?_
      exact ⟨A2, n2, c2, l2, A3, n', c3, rfl, (O5.out.grown gs (by omega) (fun x hx => (HI5.out x hx).elim (fun h => (HL.out.each x h).below bw) (fun h => ⟨(h.2.2.grown gs (by omega) (fun _ _ => trivial)).sl, by omega, by rw [h.2.1]; exact HSZ.out⟩))).sl, (by rw [V5.out]; show _ = insO s (bl.take (bl.length / 2)) _; rw [HBL.out.len]), (F5.out.grown gs (by omega) (fun x hx => F5.out.2.2 x hx)).sl, bw⟩
  · skip
    go_wp2_with fail
    refine (FD.out _ B2.out).mono ?_
    rintro e w3 ⟨rfl, hb⟩
    have B3 := Lib.hid (below_from hb B2.out B2.out.size)
    have S3 := Lib.hid (S2.out.past hb)
    have R3 := Lib.hid (R2.out.past hb)
    have z3 := hb.size
    have s3c := S3.out.cell
    have s3l := S3.out.lt
    have r3c := R3.out.cell
    have r3f := R3.out.free
    have r3l := R3.out.lt
    clear hb s2c s2l r2c r2f r2l
    rw [GI.out]
    go_wp2_with fail
    refine (FA.out _ B3.out).mono ?_
    rintro e w4 ⟨rfl, hb⟩
    have B4 := Lib.hid (below_from hb B3.out B3.out.size)
    have S4 := Lib.hid (S3.out.past hb)
    have R4 := Lib.hid (R3.out.past hb)
    have z4 := hb.size
    have s4c := S4.out.cell
    have s4l := S4.out.lt
    have r4c := R4.out.cell
    have r4f := R4.out.free
    have r4l := R4.out.lt
    clear hb s3c s3l r3c r3f r3l
    rcases HFT.out with rfl | rfl | rfl | rfl
    · skip
      go_wp2_with fail
      refine (WP.out mb bl _ B4.out (HBL.out.below B4.out) h8).mono ?_
      intro e w5 hx
      obtain ⟨A2, n2, c2, l2, A3, c3, rfl, hO, hv, hF, hb, hi⟩ := hx
      have B5 := Lib.hid (below_from hb B4.out B4.out.size)
      have S5 := Lib.hid (S4.out.past hb)
      have R5 := Lib.hid (R4.out.past hb)
      have z5 := hb.size
      have s5c := S5.out.cell
      have s5l := S5.out.lt
      have r5c := R5.out.cell
      have r5f := R5.out.free
      have r5l := R5.out.lt
      have O5 := Lib.hid hO
      have F5 := Lib.hid hF
      have V5 := Lib.hid hv
      have HI5 := Lib.hid hi
      clear hb s4c s4l r4c r4f r4l hO hF hv hi
      go_wp2_with fail
      have gs := setCells_grown (w.heap.size + 1) [.slice A2 n2 c2, .int .i64 (calls + 1), .slice A3 n' c3] 0 w5
      have bw := B5.out.grown gs B5.out.size (fun q hq => by injection hq with hq; omega)
      refine bodyPost_ret (v := .tuple #[stV A2 n2 c2 (calls + 1) A3 n' c3, .int .i64 0]) (by simp [results, Try.results14, go_sem, r5c]) rfl ?_
      exact ⟨A2, n2, c2, l2, A3, n', c3, rfl, (O5.out.grown gs (by omega) (fun x hx => (HI5.out x hx).elim (fun h => (HL.out.each x h).below bw) (fun h => ⟨(h.2.2.grown gs (by omega) (fun _ _ => trivial)).sl, by omega, by rw [h.2.1]; exact HSZ.out⟩))).sl, V5.out, (F5.out.grown gs (by omega) (fun x hx => F5.out.2.2 x hx)).sl, bw⟩
    · skip
      go_wp2_with fail
      refine (CA.out _ B4.out).mono ?_
      intro e w5 hx
      obtain ⟨A2, c2, A3, c3, rfl, hO, hF, hb⟩ := hx
      have B5 := Lib.hid (below_from hb B4.out B4.out.size)
      have S5 := Lib.hid (S4.out.past hb)
      have R5 := Lib.hid (R4.out.past hb)
      have z5 := hb.size
      have s5c := S5.out.cell
      have s5l := S5.out.lt
      have r5c := R5.out.cell
      have r5f := R5.out.free
      have r5l := R5.out.lt
      have O5 := Lib.hid hO
      have F5 := Lib.hid hF
      clear hb s4c s4l r4c r4f r4l hO hF
      go_wp2_with fail
      have gs := setCells_grown (w.heap.size + 1) [.slice A2 n c2, .int .i64 (calls + 1), .slice A3 n' c3] 0 w5
      have bw := B5.out.grown gs B5.out.size (fun q hq => by injection hq with hq; omega)
      refine bodyPost_ret (v := .tuple #[stV A2 n c2 (calls + 1) A3 n' c3, .int .i64 140]) (by simp [results, Try.results14, go_sem, r5c]) rfl ?_
      exact ⟨A2, n, c2, l, A3, n', c3, rfl, (O5.out.grown gs (by omega) (fun x hx => (HL.out.each x hx).below bw)).sl, rfl, (F5.out.grown gs (by omega) (fun x hx => F5.out.2.2 x hx)).sl, bw⟩
    · skip
      go_wp2_with fail
      refine (WP.out mb bl _ B4.out (HBL.out.below B4.out) h8).mono ?_
      intro e w5 hx
      obtain ⟨A2, n2, c2, l2, A3, c3, rfl, hO, hv, hF, hb, hi⟩ := hx
      have B5 := Lib.hid (below_from hb B4.out B4.out.size)
      have S5 := Lib.hid (S4.out.past hb)
      have R5 := Lib.hid (R4.out.past hb)
      have z5 := hb.size
      have s5c := S5.out.cell
      have s5l := S5.out.lt
      have r5c := R5.out.cell
      have r5f := R5.out.free
      have r5l := R5.out.lt
      have O5 := Lib.hid hO
      have F5 := Lib.hid hF
      have V5 := Lib.hid hv
      have HI5 := Lib.hid hi
      clear hb s4c s4l r4c r4f r4l hO hF hv hi
      go_wp2_with fail
      have gs := setCells_grown (w.heap.size + 1) [.slice A2 n2 c2, .int .i64 (calls + 1), .slice A3 n' c3] 0 w5
      have bw := B5.out.grown gs B5.out.size (fun q hq => by injection hq with hq; omega)
      refine bodyPost_ret (v := .tuple #[stV A2 n2 c2 (calls + 1) A3 n' c3, .int .i64 140]) (by simp [results, Try.results14, go_sem, r5c]) rfl ?_
      exact ⟨A2, n2, c2, l2, A3, n', c3, rfl, (O5.out.grown gs (by omega) (fun x hx => (HI5.out x hx).elim (fun h => (HL.out.each x h).below bw) (fun h => ⟨(h.2.2.grown gs (by omega) (fun _ _ => trivial)).sl, by omega, by rw [h.2.1]; exact HSZ.out⟩))).sl, V5.out, (F5.out.grown gs (by omega) (fun x hx => F5.out.2.2 x hx)).sl, bw⟩
    · skip
      have w2 : IntKind.i64.wrap ((mb : Int) / 2) = (mb : Int) / 2 := IntWalk.i64_in _ (by omega)
      have w3 : ((mb : Int) / 2).toNat = mb / 2 := by omega
      have w4' : (0 : Int) ≤ (mb : Int) / 2 := by omega
      have w5' : (mb : Int) / 2 ≤ (kb : Int) := by omega
      have w6' : mb / 2 ≤ kb := by omega
      go_wp2_with fail
      refine region_seg (fun w' => w'.cell? ⟨w.heap.size, 0, none⟩ = some (.slice A n c) ∧ w'.cell? ⟨w.heap.size, 1, none⟩ = some (.int .i64 calls) ∧ w'.cell? ⟨w.heap.size, 2, none⟩ = some (.slice A' n' c')) 8 [(0, true), (1, true), (2, true), (3, true), (4, true), (5, true), (6, true), (7, false)] (by kernel_rfl) (by kernel_rfl) (by simp [go_sem, *]) (fun hHeld => ?_)
      iterate 7
        refine seg_take (v := ?_) (by simp only [List.getElem?_toArray, List.getElem?_cons_succ, List.getElem?_cons_zero]; rfl) (Or.inl ⟨by rfl, ?_⟩) ?_
        rotate_left 1
        · intro w hSw
          try dsimp only at hSw
          go_simp
          try with_reducible rfl
        try simp only [Act.put, List.setIfInBounds_toArray, List.set_cons_zero, List.set_cons_succ]
      refine seg_op (by simp only [List.getElem?_toArray, List.getElem?_cons_succ, List.getElem?_cons_zero]; rfl) (fun K hK => ?_)
      go_wp2_with (go_at_call 41; have B4 := Lib.hid B4.out.drew; have S4 := Lib.hid S4.out.drew; have R4 := Lib.hid R4.out.drew; refine (WP.out (mb / 2) (bl.take (mb / 2)) _ B4.out ((HBL.out.below B4.out).take (mb / 2) (by omega)) (by omega)).mono ?_; intro e w5 hx; obtain ⟨A2, n2, c2, l2, A3, c3, rfl, hO, hv, hF, hb, hi⟩ := hx; have B5 := Lib.hid (below_from hb B4.out B4.out.size); have S5 := Lib.hid (S4.out.past hb); have R5 := Lib.hid (R4.out.past hb); have z5 : w4.heap.size ≤ w5.heap.size := hb.size; have qd : w4.heap.size ≤ w4.drew.heap.size := Nat.le_refl _; have s5c := S5.out.cell; have s5l := S5.out.lt; have r5c := R5.out.cell; have r5f := R5.out.free; have r5l := R5.out.lt; have O5 := Lib.hid hO; have F5 := Lib.hid hF; have V5 := Lib.hid hv; have HI5 := Lib.hid hi; clear hb s4c s4l r4c r4f r4l hO hF hv hi)
      clear hHeld
      refine hK.out _ _ ⟨S5.out.cell 0, S5.out.cell 1, S5.out.cell 2⟩ (fun hHeld => ?_)
      clear hK K
      try simp only [Act.put, List.setIfInBounds_toArray, List.set_cons_zero, List.set_cons_succ]
      refine seg_tail rfl ?_
      clear hHeld
      go_wp2_with fail
      have gs := setCells_grown (w.heap.size + 1) [.slice A2 n2 c2, .int .i64 (calls + 1), .slice A3 n' c3] 0 w5
      have bw := B5.out.grown gs B5.out.size (fun q hq => by injection hq with hq; omega)
      refine bodyPost_ret (v := .tuple #[stV A2 n2 c2 (calls + 1) A3 n' c3, .int .i64 140]) (by simp [results, Try.results14, go_sem, r5c]) rfl ?_
      exact ⟨A2, n2, c2, l2, A3, n', c3, rfl, (O5.out.grown gs (by omega) (fun x hx => (HI5.out x hx).elim (fun h => (HL.out.each x h).below bw) (fun h => ⟨(h.2.2.grown gs (by omega) (fun _ _ => trivial)).sl, by omega, by rw [h.2.1]; exact HSZ.out⟩))).sl, (by rw [V5.out]; show _ = insO s (bl.take (bl.length / 2)) _; rw [HBL.out.len]), (F5.out.grown gs (by omega) (fun x hx => F5.out.2.2 x hx)).sl, bw⟩

end Go.Proofs.Ytnnmppnbkplamaa
