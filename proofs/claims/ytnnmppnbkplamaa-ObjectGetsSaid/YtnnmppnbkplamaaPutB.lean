/- Put, of the program: more than may be. -/
import Derived.Test.YtnnmppnbkplamaaPutF
import Derived.Test.YtnnmppnbkplamaaGet
import Derived.Deep.DeepCutAuto
namespace Go.Proofs.Ytnnmppnbkplamaa
open Go.RowKit Go.Shelf

set_option maxRecDepth 100000 in
set_option maxHeartbeats 8000000 in
theorem put_bound (A : Option Addr) (n c : Nat) (l : List Ob) (calls : Int) (A' : Option Addr) (n' c' : Nat) (fs : List Ft) (s : ByteArray) (Ab : Option Addr) (mb kb : Nat) (w : World) (hl : Obs w A n c l) (hf : Fts w A' n' c' fs) (he : mayE (checkO (l.map Ob.val) calls fs) (nameC s) = 0) (hm : mb ≤ 140737488355328) (hbd : 8192 < mb ∨ (findO s (l.map Ob.val) = none ∧ 1024 ≤ n)) :
    Calls Try.prog 13 #[stV A n c calls A' n' c', .string s, .slice Ab mb kb] w (SRes [] 0 [] (fun v => .tuple #[v, .int .i64 2]) w) := by
  obtain ⟨h1, h2, h3, h4, h5, _, _⟩ := check_ok (may_ok he).1
  rw [hl.len] at h1
  rw [hf.len] at h2
  obtain ⟨W3, hW3⟩ : ∃ W3, W3 = ((w.alloc (.cells #[.slice A n c, .int .i64 calls, .slice A' n' c'] 25)).alloc (.cells #[.string s] 9)).alloc (.cells #[.slice none 0 0, .int .i64 0, .slice none 0 0] 25) := ⟨_, rfl⟩
  have B3 := Lib.hid (show Below w.heap.size w W3 from by rw [hW3]; exact (((Below.refl _ w).alloc (Nat.le_refl _) _).alloc (by simp) _).alloc (by simp <;> omega) _)
  have z3 : W3.heap.size = w.heap.size + 3 := by rw [hW3]; simp
  have S3 := Lib.hid (show Has W3 w.heap.size #[.slice A n c, .int .i64 calls, .slice A' n' c'] from by rw [hW3]; exact ((Has.newAt w _ 25 rfl).alloc _).alloc _)
  have N3 := Lib.hid (show Has W3 (w.heap.size + 1) #[.string s] from by rw [hW3]; exact (Has.newAt _ _ 9 (by simp)).alloc _)
  have R3 := Lib.hid (show Has W3 (w.heap.size + 2) #[.slice none 0 0, .int .i64 0, .slice none 0 0] from by rw [hW3]; exact Has.newAt _ _ 25 (by simp))
  have NM := Lib.hid (fun w' (_ : Below W3.heap.size W3 w') => name_any s w')
  have MY := Lib.hid (fun w' (hb : Below W3.heap.size W3 w') => (show Calls Try.prog 28 #[stV A n c calls A' n' c', .bool (nameC s)] w' fun e w'' => e = .returned (.int .i64 0) ∧ Below w'.heap.size w' w'' from by
    have := may_any A n c l calls A' n' c' fs (nameC s) w' (hl.below (below_from hb B3.out B3.out.size)) (hf.below (below_from hb B3.out B3.out.size))
    rw [he] at this
    exact this))
  have BG := Lib.hid (fun w' (hb : Below w.heap.size w w') => begin_any A n c l calls A' n' c' fs w' (hl.below hb) (hf.below hb) h1 h2 h3 h4)
  have r0 := at_regrown (a := ⟨w.heap.size, 0, none⟩) (v := .slice A n c) (S3.out.cell 0)
  have r1 := at_regrown (a := ⟨w.heap.size, 1, none⟩) (v := .int .i64 calls) (S3.out.cell 1)
  have r2 := at_regrown (a := ⟨w.heap.size, 2, none⟩) (v := .slice A' n' c') (S3.out.cell 2)
  have r3 := at_regrown (a := ⟨w.heap.size + 1, 0, none⟩) (v := .string s) (N3.out.cell 0)
  obtain ⟨ft, hft⟩ : ∃ ft, ft = faultC calls fs := ⟨_, rfl⟩
  rw [← hft] at BG
  have HW3 := Lib.hid hW3
  have RI := Lib.hid h5
  have HL := Lib.hid hl
  have L6 : Hid (l.length ≤ 60000) := Lib.hid (by rw [hl.len]; omega)
  have BD := Lib.hid hbd
  clear hbd hl hf hW3 he hft h1 h2 h3 h4 h5
  go_enter Try.func13, Try.ntmps13
  go_wp2_with fail
  rw [← HW3.out]
  refine region_below (by kernel_rfl) (by kernel_rfl) ?_
  repeat (go_big_quiet_step (first | (go_at_call 29; exact call_regrown NM.out) | (go_at_call 28; exact call_regrown MY.out)))
  refine wpQuiet_nil ?_
  intro w4 hb4
  have B4 := Lib.hid (below_from hb4 B3.out B3.out.size)
  have z4 := hb4.size
  have S4 := Lib.hid (S3.out.past hb4)
  have N4 := Lib.hid (N3.out.past hb4)
  have R4 := Lib.hid (R3.out.past hb4)
  have s4c := S4.out.cell
  have s4l := S4.out.lt
  clear hb4 r0 r1 r2 r3
  go_upto_region 6 with (first
    | (go_at_call 30; refine (BG.out _ B4.out).mono ?_; intro e w5 hx; obtain ⟨g, A2, c2, A3, c3, rfl, hge, hG, hO, hF, hb5⟩ := hx; have B5 := Lib.hid (below_from hb5 B4.out B4.out.size); have z5 := hb5.size; have S5 := Lib.hid (S4.out.past hb5); have N5 := Lib.hid (N4.out.past hb5); have R5 := Lib.hid (R4.out.past hb5); have G5 := Lib.hid hG; have O5 := Lib.hid hO; have g5l := hG.lt; have n5c := N5.out.cell; have n5l := N5.out.lt; clear hb5 hG hO hF s4c s4l)
    | (go_at_call 31; refine (at_any _ _ _ _ _ _ _ _ _ _ s _ (G5.out.past (below_alloc1 _ _)) (O5.out.kept (below_alloc1 _ _)).sl L6.out RI.out).mono ?_; rintro e w7 ⟨i, b, rfl, hs, hb7⟩; have HS := Lib.hid hs; have b7 := (below_alloc1 w5 (.cells #[.pointer (some ⟨g, 0, none⟩)] 53)).trans (hb7.mono (by simp)); have z7 := b7.size; have S7 := Lib.hid (S5.out.past b7); have R7 := Lib.hid (R5.out.past b7); have B7 := Lib.hid (below_from b7 B5.out B5.out.size); clear hs hb7 b7 n5c n5l))
  have S8 := Lib.hid ((S7.out.alloc (.cells #[.int .i64 (i : Int)] 3)).alloc (.cells #[.bool b] 4))
  have R8 := Lib.hid ((R7.out.alloc (.cells #[.int .i64 (i : Int)] 3)).alloc (.cells #[.bool b] 4))
  have B8 := Lib.hid ((B7.out.alloc (by have := B7.out.size; omega) (.cells #[.int .i64 (i : Int)] 3)).alloc (by have := B7.out.size; simp; omega) (.cells #[.bool b] 4))
  have s8c := S8.out.cell
  have r8f := R8.out.free
  have r8c := R8.out.cell
  have r8l := R8.out.lt
  have fin : ∀ W8 : World, Below w.heap.size w W8 → Has W8 (w.heap.size + 1 + 1) #[.slice none 0 0, .int .i64 0, .slice none 0 0] → SRes [] 0 [] (fun v => .tuple #[v, .int .i64 2]) w (.returned (.tuple #[stV none 0 0 0 none 0 0, .int .i64 2])) (W8.setCells (w.heap.size + 1 + 1) 0 [.slice none 0 0, .int .i64 0, .slice none 0 0]) := fun W8 hb hR =>
    ⟨none, 0, 0, [], none, 0, 0, rfl, Sl.nil _ _, rfl, Sl.nil _ _, hb.grown (setCells_grown (w.heap.size + 1 + 1) [.slice none 0 0, .int .i64 0, .slice none 0 0] 0 W8) hb.size (fun q hq => by injection hq with hq; omega)⟩
  have FIN := Lib.hid fin
  clear fin
  by_cases h8 : 8192 < mb
  · have h8' : (8192 : Int) < (mb : Int) := by omega
    clear BD
    go_wp2_with fail
    refine bodyPost_ret (v := .tuple #[stV none 0 0 0 none 0 0, .int .i64 2]) (by simp [results, Try.results13, go_sem, r8c]) rfl ?_
    exact FIN.out _ B8.out R8.out
  · have h8' : ¬ (8192 : Int) < (mb : Int) := by omega
    have hb : b = false := by
      cases hbb : b with
      | false => rfl
      | true =>
        obtain ⟨hi, he⟩ := (at_find RI.out HS.out).1 hbb
        have := (BD.out.resolve_left h8).1
        rw [he] at this
        cases this
    subst hb
    have hn : (1024 : Int) ≤ (n : Int) := by have := BD.out; omega
    go_wp2_with fail
    refine bodyPost_ret (v := .tuple #[stV none 0 0 0 none 0 0, .int .i64 2]) (by simp [results, Try.results13, go_sem, r8c]) rfl ?_
    exact FIN.out _ B8.out R8.out

end Go.Proofs.Ytnnmppnbkplamaa
