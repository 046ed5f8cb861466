/- The document's Del. -/
import Derived.Test.YtnnmppnbkplamaaRPut
namespace Go.Proofs.Ytnnmppnbkplamaa
open Go.RowKit Go.Shelf

set_option maxRecDepth 100000 in
set_option maxHeartbeats 4000000 in
theorem rdel_out (A : Option Addr) (n c : Nat) (l : List Ob) (calls : Int) (A' : Option Addr) (n' c' : Nat) (fs : List Ft) (s : ByteArray) (w : World) (hl : Obs w A n c l) (hf : Fts w A' n' c' fs) (hsz : s.size ≤ maxLen) (he : mayR (l.map Ob.val) calls fs s ≠ 0) :
    Calls Try.prog 16 #[stV A n c calls A' n' c', .string s] w (StR [] 0 [] (mayR (l.map Ob.val) calls fs s) w) := by
  obtain ⟨W1, hW1⟩ : ∃ W1, W1 = (w.alloc (.cells #[.slice A n c, .int .i64 calls, .slice A' n' c'] 25)).alloc (.cells #[.slice none 0 0, .int .i64 0, .slice none 0 0] 25) := ⟨_, rfl⟩
  have B1 := Lib.hid (show Below w.heap.size w W1 from by rw [hW1]; exact ((Below.refl _ w).alloc (Nat.le_refl _) _).alloc (by simp) _)
  have z1 : w.heap.size + 2 ≤ W1.heap.size := by rw [hW1]; simp
  have S1 := Lib.hid (show Has W1 w.heap.size #[.slice A n c, .int .i64 calls, .slice A' n' c'] from by rw [hW1]; exact (Has.newAt w _ 25 rfl).alloc _)
  have R1 := Lib.hid (show Has W1 (w.heap.size + 1) #[.slice none 0 0, .int .i64 0, .slice none 0 0] from by rw [hW1]; exact Has.newAt _ _ 25 (by simp))
  have HW := Lib.hid hW1
  have HL := Lib.hid hl
  have HF := Lib.hid hf
  have MY := Lib.hid (rmay_any A n c l calls A' n' c' fs s W1 (hl.below B1.out) (hf.below B1.out) hsz)
  obtain ⟨E, hE⟩ : ∃ E, mayR (l.map Ob.val) calls fs s = E := ⟨_, rfl⟩
  rw [hE] at MY he ⊢
  have m0 : (E == 0) = false := by rw [beq_eq_false_iff_ne]; exact he
  have d0 : decide (E = 0) = false := decide_eq_false he
  clear hl hf hsz hW1 he hE
  go_enter Try.func16, Try.ntmps16
  go_wp2_with fail
  rw [← HW.out]
  refine MY.out.mono ?_
  rintro e w2 ⟨rfl, hb2⟩
  have B2 := Lib.hid (below_from hb2 B1.out B1.out.size)
  have S2 := Lib.hid (S1.out.past hb2)
  have R2 := Lib.hid (R1.out.past hb2)
  have z2 := hb2.size
  have s2c := S2.out.cell
  have s2l := S2.out.lt
  have r2c := R2.out.cell
  have r2f := R2.out.free
  have r2l := R2.out.lt
  clear hb2
  go_wp2_with fail
  have gs := setCells_grown (w.heap.size + 1) [.slice none 0 0, .int .i64 0, .slice none 0 0] 0 w2
  have bw := B2.out.grown gs B2.out.size (fun q hq => by injection hq with hq; omega)
  refine bodyPost_ret (v := .tuple #[stV none 0 0 0 none 0 0, .int .i64 E]) (by simp [results, Try.results16, go_sem, r2c]) rfl ?_
  exact ⟨none, 0, 0, [], none, 0, 0, rfl, Sl.nil _ _, rfl, Sl.nil _ _, bw⟩

set_option maxRecDepth 100000 in
set_option maxHeartbeats 4000000 in
theorem rdel_ok (A : Option Addr) (n c : Nat) (l : List Ob) (calls : Int) (A' : Option Addr) (n' c' : Nat) (fs : List Ft) (s : ByteArray) (w : World) (hl : Obs w A n c l) (hf : Fts w A' n' c' fs) (hsz : s.size ≤ maxLen) (he : mayR (l.map Ob.val) calls fs s = 0) :
    Calls Try.prog 16 #[stV A n c calls A' n' c', .string s] w (StR (delL (l.map Ob.val) s (faultC calls fs)) (calls + 1) fs (doneE (faultC calls fs)) w) := by
  obtain ⟨W1, hW1⟩ : ∃ W1, W1 = (w.alloc (.cells #[.slice A n c, .int .i64 calls, .slice A' n' c'] 25)).alloc (.cells #[.slice none 0 0, .int .i64 0, .slice none 0 0] 25) := ⟨_, rfl⟩
  have B1 := Lib.hid (show Below w.heap.size w W1 from by rw [hW1]; exact ((Below.refl _ w).alloc (Nat.le_refl _) _).alloc (by simp) _)
  have z1 : w.heap.size + 2 ≤ W1.heap.size := by rw [hW1]; simp
  have S1 := Lib.hid (show Has W1 w.heap.size #[.slice A n c, .int .i64 calls, .slice A' n' c'] from by rw [hW1]; exact (Has.newAt w _ 25 rfl).alloc _)
  have R1 := Lib.hid (show Has W1 (w.heap.size + 1) #[.slice none 0 0, .int .i64 0, .slice none 0 0] from by rw [hW1]; exact Has.newAt _ _ 25 (by simp))
  have HW := Lib.hid hW1
  have HL := Lib.hid hl
  have HF := Lib.hid hf
  have MY := Lib.hid (rmay_any A n c l calls A' n' c' fs s W1 (hl.below B1.out) (hf.below B1.out) hsz)
  obtain ⟨k1, k2, k3, k4, _, k6, k7⟩ := check_ok (may_ok he).1
  rw [hl.len] at k1
  rw [hf.len] at k2
  have OK := Lib.hid (check_zero (may_ok he).1)
  have CA := Lib.hid (fun w9 (h9 : Below w.heap.size w w9) => rcalled_any A n c l calls A' n' c' fs w9 (hl.below (h9.mono (Nat.le_refl _))) (hf.below h9) k1 k2 k3 k4)
  have FA := Lib.hid (fun w9 (h9 : Below w.heap.size w w9) => rfault_any A n c calls A' n' c' fs w9 (hf.below h9))
  have HE : Hid (mayR (l.map Ob.val) calls fs s = 0) := Lib.hid he
  obtain ⟨ft, hft⟩ : ∃ ft, faultC calls fs = ft := ⟨_, rfl⟩
  have HFT : Hid (ft = 0 ∨ ft = 1 ∨ ft = 2 ∨ ft = 3) := Lib.hid (by
    rcases fault_str k7 with ⟨_, h⟩ | ⟨_, h⟩ <;> rw [hft] at h <;> omega)
  rw [hft] at FA ⊢
  rw [he] at MY
  have WP := Lib.hid (fun w9 (h9 : Below w.heap.size w w9) => rwith_del A n c l calls A' n' c' fs s w9 (hl.below h9) (hf.below h9) k1 k2 k3 k4)
  clear k7 k6
  clear hl hf hsz hW1 he hft
  go_enter Try.func16, Try.ntmps16
  go_wp2_with fail
  rw [← HW.out]
  refine MY.out.mono ?_
  rintro e w2 ⟨rfl, hb2⟩
  have B2 := Lib.hid (below_from hb2 B1.out B1.out.size)
  have S2 := Lib.hid (S1.out.past hb2)
  have R2 := Lib.hid (R1.out.past hb2)
  have z2 := hb2.size
  have s2c := S2.out.cell
  have s2l := S2.out.lt
  have r2c := R2.out.cell
  have r2f := R2.out.free
  have r2l := R2.out.lt
  clear hb2
  go_wp2_with fail
  refine (FA.out _ B2.out).mono ?_
  rintro e w3 ⟨rfl, hb⟩
  have B3 := Lib.hid (below_from hb B2.out B2.out.size)
  have S3 := Lib.hid (S2.out.past hb)
  have R3 := Lib.hid (R2.out.past hb)
  have z3 := hb.size
  have s3c := S3.out.cell
  have s3l := S3.out.lt
  have r3c := R3.out.cell
  have r3f := R3.out.free
  have r3l := R3.out.lt
  clear hb s2c s2l r2c r2f r2l
  rcases HFT.out with rfl | rfl | rfl | rfl
  · skip
    go_wp2_with fail
    refine (WP.out _ B3.out).mono ?_
    intro e w4 hx
    obtain ⟨A2, n2, c2, l2, A3, c3, rfl, hO, hv, hF, hb, hi⟩ := hx
    have B4 := Lib.hid (below_from hb B3.out B3.out.size)
    have S4 := Lib.hid (S3.out.past hb)
    have R4 := Lib.hid (R3.out.past hb)
    have z4 := hb.size
    have s4c := S4.out.cell
    have s4l := S4.out.lt
    have r4c := R4.out.cell
    have r4f := R4.out.free
    have r4l := R4.out.lt
    have O4 := Lib.hid hO
    have F4 := Lib.hid hF
    have V4 := Lib.hid hv
    have HI4 := Lib.hid hi
    clear hb s3c s3l r3c r3f r3l hO hF hv hi
    go_wp2_with fail
    have gs := setCells_grown (w.heap.size + 1) [.slice A2 n2 c2, .int .i64 (calls + 1), .slice A3 n' c3] 0 w4
    have bw := B4.out.grown gs B4.out.size (fun q hq => by injection hq with hq; omega)
    refine bodyPost_ret (v := .tuple #[stV A2 n2 c2 (calls + 1) A3 n' c3, .int .i64 0]) (by simp [results, Try.results16, go_sem, r4c]) rfl ?_
    exact ⟨A2, n2, c2, l2, A3, n', c3, rfl, (O4.out.grown gs (by omega) (fun x hx => (HL.out.each x (HI4.out x hx)).below bw)).sl, V4.out, (F4.out.grown gs (by omega) (fun x hx => F4.out.2.2 x hx)).sl, bw⟩
  · skip
    go_wp2_with fail
    refine (CA.out _ B3.out).mono ?_
    intro e w4 hx
    obtain ⟨A2, c2, A3, c3, rfl, hO, hF, hb⟩ := hx
    have B4 := Lib.hid (below_from hb B3.out B3.out.size)
    have S4 := Lib.hid (S3.out.past hb)
    have R4 := Lib.hid (R3.out.past hb)
    have z4 := hb.size
    have s4c := S4.out.cell
    have s4l := S4.out.lt
    have r4c := R4.out.cell
    have r4f := R4.out.free
    have r4l := R4.out.lt
    have O4 := Lib.hid hO
    have F4 := Lib.hid hF
    clear hb s3c s3l r3c r3f r3l hO hF
    go_wp2_with fail
    have gs := setCells_grown (w.heap.size + 1) [.slice A2 n c2, .int .i64 (calls + 1), .slice A3 n' c3] 0 w4
    have bw := B4.out.grown gs B4.out.size (fun q hq => by injection hq with hq; omega)
    refine bodyPost_ret (v := .tuple #[stV A2 n c2 (calls + 1) A3 n' c3, .int .i64 140]) (by simp [results, Try.results16, go_sem, r4c]) rfl ?_
    exact ⟨A2, n, c2, l, A3, n', c3, rfl, (O4.out.grown gs (by omega) (fun x hx => (HL.out.each x hx).below bw)).sl, rfl, (F4.out.grown gs (by omega) (fun x hx => F4.out.2.2 x hx)).sl, bw⟩
  · skip
    go_wp2_with fail
    refine (WP.out _ B3.out).mono ?_
    intro e w4 hx
    obtain ⟨A2, n2, c2, l2, A3, c3, rfl, hO, hv, hF, hb, hi⟩ := hx
    have B4 := Lib.hid (below_from hb B3.out B3.out.size)
    have S4 := Lib.hid (S3.out.past hb)
    have R4 := Lib.hid (R3.out.past hb)
    have z4 := hb.size
    have s4c := S4.out.cell
    have s4l := S4.out.lt
    have r4c := R4.out.cell
    have r4f := R4.out.free
    have r4l := R4.out.lt
    have O4 := Lib.hid hO
    have F4 := Lib.hid hF
    have V4 := Lib.hid hv
    have HI4 := Lib.hid hi
    clear hb s3c s3l r3c r3f r3l hO hF hv hi
    go_wp2_with fail
    have gs := setCells_grown (w.heap.size + 1) [.slice A2 n2 c2, .int .i64 (calls + 1), .slice A3 n' c3] 0 w4
    have bw := B4.out.grown gs B4.out.size (fun q hq => by injection hq with hq; omega)
    refine bodyPost_ret (v := .tuple #[stV A2 n2 c2 (calls + 1) A3 n' c3, .int .i64 140]) (by simp [results, Try.results16, go_sem, r4c]) rfl ?_
    exact ⟨A2, n2, c2, l2, A3, n', c3, rfl, (O4.out.grown gs (by omega) (fun x hx => (HL.out.each x (HI4.out x hx)).below bw)).sl, V4.out, (F4.out.grown gs (by omega) (fun x hx => F4.out.2.2 x hx)).sl, bw⟩
  · skip
    go_wp2_with fail
    refine (CA.out _ B3.out).mono ?_
    intro e w4 hx
    obtain ⟨A2, c2, A3, c3, rfl, hO, hF, hb⟩ := hx
    have B4 := Lib.hid (below_from hb B3.out B3.out.size)
    have S4 := Lib.hid (S3.out.past hb)
    have R4 := Lib.hid (R3.out.past hb)
    have z4 := hb.size
    have s4c := S4.out.cell
    have s4l := S4.out.lt
    have r4c := R4.out.cell
    have r4f := R4.out.free
    have r4l := R4.out.lt
    have O4 := Lib.hid hO
    have F4 := Lib.hid hF
    clear hb s3c s3l r3c r3f r3l hO hF
    go_wp2_with fail
    have gs := setCells_grown (w.heap.size + 1) [.slice A2 n c2, .int .i64 (calls + 1), .slice A3 n' c3] 0 w4
    have bw := B4.out.grown gs B4.out.size (fun q hq => by injection hq with hq; omega)
    refine bodyPost_ret (v := .tuple #[stV A2 n c2 (calls + 1) A3 n' c3, .int .i64 140]) (by simp [results, Try.results16, go_sem, r4c]) rfl ?_
    exact ⟨A2, n, c2, l, A3, n', c3, rfl, (O4.out.grown gs (by omega) (fun x hx => (HL.out.each x hx).below bw)).sl, rfl, (F4.out.grown gs (by omega) (fun x hx => F4.out.2.2 x hx)).sl, bw⟩

/-- The document's Del, whatever it answers. -/
theorem rdel_at (A : Option Addr) (n c : Nat) (l : List Ob) (calls : Int) (A' : Option Addr) (n' c' : Nat) (fs : List Ft) (s : ByteArray) (w : World) {L L' : List Oc} {C E : Int} {fs' : List Ft}
    (hl : Obs w A n c l) (hf : Fts w A' n' c' fs) (hsz : s.size ≤ maxLen) (hv : l.map Ob.val = L) (hp : delR L calls fs s = (⟨L', C, fs'⟩, E)) :
    Calls Try.prog 16 #[stV A n c calls A' n' c', .string s] w (StR L' C fs' E w) := by
  by_cases he : mayR L calls fs s = 0
  · unfold delR at hp
    rw [if_neg (fun h => h he)] at hp
    injection hp with hp1 hp2
    injection hp1 with h1 h2 h3
    subst h1 h2 h3 hp2 hv
    exact rdel_ok A n c l calls A' n' c' fs s w hl hf hsz he
  · unfold delR at hp
    rw [if_pos he] at hp
    injection hp with hp1 hp2
    injection hp1 with h1 h2 h3
    subst h1 h2 h3 hp2 hv
    exact rdel_out A n c l calls A' n' c' fs s w hl hf hsz he
/-- The document's Put, whatever it answers. -/
theorem rput_at (A : Option Addr) (n c : Nat) (l : List Ob) (calls : Int) (A' : Option Addr) (n' c' : Nat) (fs : List Ft) (s : ByteArray) (Ab : Option Addr) (mb kb : Nat) (bl : List UInt8) (w : World) {L L' : List Oc} {C E : Int} {fs' : List Ft}
    (hl : Obs w A n c l) (hf : Fts w A' n' c' fs) (hsz : s.size ≤ maxLen) (hbl : Sl u8K w Ab mb kb bl) (hm : mb ≤ 140737488355328) (hv : l.map Ob.val = L) (hp : putR L calls fs s bl = (⟨L', C, fs'⟩, E)) :
    Calls Try.prog 14 #[stV A n c calls A' n' c', .string s, .slice Ab mb kb] w (StR L' C fs' E w) := by
  have hlen : L.length = n := by rw [← hv, List.length_map, hl.len]
  by_cases he : mayR L calls fs s = 0
  · by_cases hb : boundR L s bl = true
    · have hb' := (find_dec s L n hlen bl mb hbl.len).1 hb
      unfold putR at hp
      rw [if_neg (fun h => h he), if_pos hb] at hp
      injection hp with hp1 hp2
      injection hp1 with h1 h2 h3
      subst h1 h2 h3 hp2 hv
      exact rput_bound A n c l calls A' n' c' fs s Ab mb kb w hl hf hsz he hm hb'
    · have hb' := fun h => hb ((find_dec s L n hlen bl mb hbl.len).2 h)
      unfold putR at hp
      rw [if_neg (fun h => h he), if_neg hb] at hp
      injection hp with hp1 hp2
      injection hp1 with h1 h2 h3
      subst h1 h2 h3 hp2 hv
      exact rput_ok A n c l calls A' n' c' fs s Ab mb kb bl w hl hf hsz hbl he hm hb'
  · unfold putR at hp
    rw [if_pos he] at hp
    injection hp with hp1 hp2
    injection hp1 with h1 h2 h3
    subst h1 h2 h3 hp2 hv
    exact rput_out A n c l calls A' n' c' fs s Ab mb kb w hl hf hsz he

end Go.Proofs.Ytnnmppnbkplamaa
