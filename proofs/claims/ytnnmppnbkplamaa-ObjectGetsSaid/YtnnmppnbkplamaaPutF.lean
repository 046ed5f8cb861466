/- Put, of the program: where no call is made. -/
import Derived.Test.YtnnmppnbkplamaaDelF
import Derived.Test.YtnnmppnbkplamaaPutE
namespace Go.Proofs.Ytnnmppnbkplamaa
open Go.RowKit Go.Shelf

set_option maxRecDepth 100000 in
set_option maxHeartbeats 4000000 in
theorem put_out (A : Option Addr) (n c : Nat) (l : List Ob) (calls : Int) (A' : Option Addr) (n' c' : Nat) (fs : List Ft) (s : ByteArray) (Ab : Option Addr) (mb kb : Nat) (w : World) (hl : Obs w A n c l) (hf : Fts w A' n' c' fs) (he : mayE (checkO (l.map Ob.val) calls fs) (nameC s) ≠ 0) :
    Calls Try.prog 13 #[stV A n c calls A' n' c', .string s, .slice Ab mb kb] w (SRes [] 0 [] (fun v => .tuple #[v, .int .i64 (mayE (checkO (l.map Ob.val) calls fs) (nameC s))]) w) := by
  obtain ⟨W3, hW3⟩ : ∃ W3, W3 = ((w.alloc (.cells #[.slice A n c, .int .i64 calls, .slice A' n' c'] 25)).alloc (.cells #[.string s] 9)).alloc (.cells #[.slice none 0 0, .int .i64 0, .slice none 0 0] 25) := ⟨_, rfl⟩
  have B3 := Lib.hid (show Below w.heap.size w W3 from by rw [hW3]; exact (((Below.refl _ w).alloc (Nat.le_refl _) _).alloc (by simp) _).alloc (by simp <;> omega) _)
  have S3 := Lib.hid (show Has W3 w.heap.size #[.slice A n c, .int .i64 calls, .slice A' n' c'] from by rw [hW3]; exact ((Has.newAt w _ 25 rfl).alloc _).alloc _)
  have N3 := Lib.hid (show Has W3 (w.heap.size + 1) #[.string s] from by rw [hW3]; exact (Has.newAt _ _ 9 (by simp)).alloc _)
  have R3 := Lib.hid (show Has W3 (w.heap.size + 2) #[.slice none 0 0, .int .i64 0, .slice none 0 0] from by rw [hW3]; exact Has.newAt _ _ 25 (by simp))
  have NM := Lib.hid (fun w' (_ : Below W3.heap.size W3 w') => name_any s w')
  have MY := Lib.hid (fun w' (hb : Below W3.heap.size W3 w') => may_any A n c l calls A' n' c' fs (nameC s) w' (hl.below (below_from hb B3.out B3.out.size)) (hf.below (below_from hb B3.out B3.out.size)))
  have r0 := at_regrown (a := ⟨w.heap.size, 0, none⟩) (v := .slice A n c) (S3.out.cell 0)
  have r1 := at_regrown (a := ⟨w.heap.size, 1, none⟩) (v := .int .i64 calls) (S3.out.cell 1)
  have r2 := at_regrown (a := ⟨w.heap.size, 2, none⟩) (v := .slice A' n' c') (S3.out.cell 2)
  have r3 := at_regrown (a := ⟨w.heap.size + 1, 0, none⟩) (v := .string s) (N3.out.cell 0)
  generalize mayE (checkO (l.map Ob.val) calls fs) (nameC s) = E at MY he ⊢
  have HW3 := Lib.hid hW3
  clear hl hf hW3
  have n0 : (E == 0) = false := by rw [beq_eq_false_iff_ne]; exact he
  have m0 : decide (E = 0) = false := decide_eq_false he
  go_enter Try.func13, Try.ntmps13
  go_wp2_with fail
  rw [← HW3.out]
  refine region_below (by kernel_rfl) (by kernel_rfl) ?_
  repeat (go_big_quiet_step (first | (go_at_call 29; exact call_regrown NM.out) | (go_at_call 28; exact call_regrown MY.out)))
  refine wpQuiet_nil ?_
  intro w4 hb4
  have B4 := Lib.hid (below_from hb4 B3.out B3.out.size)
  have R4 := Lib.hid (R3.out.past hb4)
  have r4c := R4.out.cell
  have r4f := R4.out.free
  have r4l := R4.out.lt
  clear hb4 r0 r1 r2 r3
  go_wp2_with fail
  have gs := setCells_grown (w.heap.size + 2) [.slice none 0 0, .int .i64 0, .slice none 0 0] 0 w4
  refine bodyPost_ret (v := .tuple #[stV none 0 0 0 none 0 0, .int .i64 E]) (by simp [results, Try.results13, go_sem, r4c]) rfl ?_
  exact ⟨none, 0, 0, [], none, 0, 0, rfl, Sl.nil _ _, rfl, Sl.nil _ _, B4.out.grown gs B4.out.size (fun q hq => by injection hq with hq; omega)⟩

end Go.Proofs.Ytnnmppnbkplamaa
