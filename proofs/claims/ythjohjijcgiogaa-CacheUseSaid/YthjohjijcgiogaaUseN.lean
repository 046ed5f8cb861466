/- CacheUse of layer 16: the walk: an empty cache. -/
import Derived.Test.YthjohjijcgiogaaUse1
namespace Go.Proofs.Ythjohjijcgiogaa
open Go.RowKit


set_option maxHeartbeats 8000000 in
set_option maxRecDepth 100000 in
theorem use_nil (cap : Int) (A : Option Addr) (n c : Nat) (l : List Hd) (name : ByteArray) (no : Int) (w : World) (hl : Hds w A n c l) (hfew : fewC (l.map Hd.val) = true) (h0c : checkC cap (l.map Hd.val) = 0) (hx : l.map Hd.val = []) :
    Calls Try.prog 8 #[.agg #[.int .i64 cap, .slice A n c], .string name, .int .i64 no] w fun e w' => e = .returned (.bool true) ∧ Below w.heap.size w w' := by
  have B0 := Lib.hid (below_alloc1 w (.cells #[.int .i64 cap, .slice A n c] 24))
  have N2 := Lib.hid (Has.newAt w #[.int .i64 cap, .slice A n c] 24 (g := w.heap.size) rfl)
  have FW := Lib.hid (fun w' (hb : Below w.heap.size w w') => few_any cap A n c l w' (hl.below hb))
  rw [hfew] at FW
  have hn := (few_le hl hfew).1
  have CK := Lib.hid (fun w' (hb : Below w.heap.size w w') => check_any cap A n c l w' (hl.below hb) (by omega))
  rw [h0c] at CK
  obtain ⟨s1, s2, s3⟩ := get_same (name := name) (no := no) h0c
  have gl : getL cap (l.map Hd.val) name no = [] := by unfold getL; rw [if_pos h0c, hx]; rfl
  have go' : getOk cap (l.map Hd.val) name no = false := by unfold getOk; rw [hx]; simp [findC]
  have GT := Lib.hid (fun w' (hb : Below w.heap.size w w') => get_any cap A n c l name no w' (hl.below hb) (by omega))
  rw [go', show capC cap (l.map Hd.val) = cap from if_pos h0c] at GT
  have US := Lib.hid (fun w' (hb : Below w.heap.size w w') => used_any cap A n c l w' (hl.below hb) (by omega))
  rw [show usedC cap (l.map Hd.val) = (sz (l.map Hd.val) : Int) from if_pos h0c] at US
  have DR := Lib.hid (fun w' (hb : Below w.heap.size w w') => drop_any cap A n c l name w' (hl.below hb) (by omega))
  rw [show capC cap (l.map Hd.val) = cap from if_pos h0c, show dropL cap (l.map Hd.val) name = (l.filter fun x => !decide (x.name = name)).map Hd.val from (if_pos h0c).trans drop_vals.symm] at DR
  have hlen := hl.len
  have hcapn := hl.cap
  have hmaxn := hl.max
  rw [List.length_map, hlen] at s1
  have S1 := Lib.hid s1
  have UX := Lib.hid (show usedC cap (getL cap (l.map Hd.val) name no) = (sz (l.map Hd.val) : Int) from (if_pos s3).trans (by rw [s2]))
  have GL := Lib.hid gl
  have HL := Lib.hid hl
  generalize hT : sz (l.map Hd.val) = T at *
  clear hl hfew h0c s1 s2 s3 gl go' hT
  go_enter Try.func8, Try.ntmps8
  go_wp2_with (first | (go_at_call 11; refine (live_any _).mono ?_; rintro e w1 ⟨rfl, hb1⟩; have HB1 := Lib.hid (below_from hb1 B0.out B0.out.size); have M2 := Lib.hid (N2.out.past hb1); have c2 := M2.out.cell; have m2 := M2.out.lt; clear hb1) | (go_at_call 12; refine (FW.out _ HB1.out).mono ?_; rintro e w2 ⟨rfl, hb2⟩; have HB2 := Lib.hid (below_from hb2 HB1.out HB1.out.size); have M3 := Lib.hid (M2.out.past hb2); clear hb2 c2 m2; have c3 := M3.out.cell; have m3 := M3.out.lt) | (go_at_call 15; refine (CK.out _ HB2.out).mono ?_; rintro e w3 ⟨rfl, hb3⟩; have HB3 := Lib.hid (below_from hb3 HB2.out HB2.out.size); have M4 := Lib.hid (M3.out.past hb3); clear hb3 c3 m3; have c4 := M4.out.cell; have m4 := M4.out.lt) | (go_at_call 21; refine (GT.out _ HB3.out).mono ?_; intro e w5 hx; obtain ⟨Ax, nx, cx, lx, Ap, np, cp, rfl, hhx, hvx, _, hb5, _⟩ := hx; have HB4 := Lib.hid ((below_from hb5 HB3.out HB3.out.size).alloc (below_from hb5 HB3.out HB3.out.size).size (.cells #[.int .i64 cap, .slice Ax nx cx] 24)); have M6 := Lib.hid ((M4.out.past hb5).alloc (.cells #[.int .i64 cap, .slice Ax nx cx] 24)); have X6 := Lib.hid (Has.newAt w5 #[.int .i64 cap, .slice Ax nx cx] 24 (g := w5.heap.size) rfl); have HX := Lib.hid (hhx.alloc (.cells #[.int .i64 cap, .slice Ax nx cx] 24)); have VX := Lib.hid hvx; clear hhx hvx hb5 c4 m4))
  have nxn : nx = n := by rw [← HX.out.len, ← List.length_map (f := Hd.val), VX.out]; exact S1.out
  obtain rfl : nx = 0 := (by rw [← HX.out.len, ← List.length_map (f := Hd.val), VX.out, GL.out, List.length_nil])
  obtain ⟨W, hW⟩ : ∃ W, W = w5.alloc (.cells #[.int .i64 cap, .slice Ax 0 cx] 24) := ⟨_, rfl⟩
  have r30 := at_regrown (a := ⟨w.heap.size, 0, none⟩) (v := .int .i64 cap) (M6.out.cell 0)
  have r31 := at_regrown (a := ⟨w.heap.size, 1, none⟩) (v := .slice A n c) (M6.out.cell 1)
  have r70 := at_regrown (a := ⟨w5.heap.size, 0, none⟩) (v := .int .i64 cap) (X6.out.cell 0)
  have r71 := at_regrown (a := ⟨w5.heap.size, 1, none⟩) (v := .slice Ax 0 cx) (X6.out.cell 1)
  rw [← hW] at HB4 M6 X6 HX r30 r31 r70 r71  ⊢
  subst nxn
  have UC := Lib.hid (fun w' (hb : Below W.heap.size W w') => US.out w' (below_from hb HB4.out HB4.out.size))
  have UXX := Lib.hid (fun w' (hb : Below W.heap.size W w') => by
    have := used_any cap Ax 0 cx lx w' (HX.out.below hb) (by omega)
    rw [VX.out, UX.out] at this
    exact this)
  clear hW
  refine region_below (by kernel_rfl) (by kernel_rfl) ?_
  repeat (go_big_quiet_step (first | (go_at_call 17; exact call_regrown UXX.out) | (go_at_call 17; exact call_regrown UC.out)))
  refine wpQuiet_nil ?_
  intro w6 hb6
  have HB6 := Lib.hid (below_from hb6 HB4.out HB4.out.size)
  have M7 := Lib.hid (M6.out.past hb6)
  have c7 := M7.out.cell
  have m7 := M7.out.lt
  clear hb6 r30 r31 r70 r71
  go_wp2_with fail
  refine (DR.out _ HB6.out).mono ?_
  intro e w8 hx8
  obtain ⟨A3, n3, c3', l3, rfl, hh3, hv3, hb8, _⟩ := hx8
  obtain ⟨W8, hW8⟩ : ∃ W8, W8 = w8.alloc (.cells #[.int .i64 cap, .slice A3 n3 c3'] 24) := ⟨_, rfl⟩
  have b8 : Below w8.heap.size w8 W8 := by rw [hW8]; exact below_alloc1 _ _
  have HB8 := Lib.hid (below_from b8 (below_from hb8 HB6.out HB6.out.size) (below_from hb8 HB6.out HB6.out.size).size)
  have M8 := Lib.hid ((M7.out.past hb8).past b8)
  have Y8 := Lib.hid (show Has W8 w8.heap.size #[.int .i64 cap, .slice A3 n3 c3'] by rw [hW8]; exact Has.newAt w8 _ 24 rfl)
  have H3 := Lib.hid (hh3.below b8)
  have V3 := Lib.hid hv3
  have n3l : l3.length = n3 := hh3.len
  have c3n := hh3.cap
  have c3m := hh3.max
  have HW8 := Lib.hid hW8
  have nle : n3 ≤ 0 := by
    have := congrArg List.length hv3
    rw [List.length_map, List.length_map, n3l] at this
    have := List.length_filter_le (fun x : Hd => !decide (x.name = name)) l
    omega
  have c8 := (M7.out.past hb8).cell
  have m8 := (M7.out.past hb8).lt
  clear hh3 hv3 hb8 b8 c7 m7 hW8
  go_wp2_with fail
  rw [← HW8.out]
  clear HW8 c8 m8
  go_loopg [11, 78] 0 (fun gg s11 s78 wr => ∃ k j : Nat, k ≤ 0 ∧ 0 - k ≤ gg ∧ j ≤ k ∧ s11 = .int .i64 j ∧ s78 = .int .i64 k ∧ Hid (((l.take k).filter fun x => !decide (x.name = name)).length = j) ∧ Hid (Below W8.heap.size W8 wr))
  case atStart => exact ⟨0, 0, Nat.zero_le _, by omega, by omega, rfl, rfl, Lib.hid (by simp), Below.refl _ _⟩
  case round =>
    obtain ⟨k, j, hk, hgg, hjk, rfl, rfl, hj, hb⟩ := hrel
    have OLD := Lib.hid (below_from hb.out HB8.out HB8.out.size)
    by_cases hlt : k < 0
    · omega
    · obtain rfl : k = 0 := by omega
      have hjn : j = n3 := by
        have h2 := hj.out
        rw [List.take_of_length_le (by omega)] at h2
        have h3 := congrArg List.length V3.out
        rw [List.length_map, List.length_map, n3l] at h3
        omega
      have y8c := (Y8.out.past hb.out).cell
      have y8l := (Y8.out.past hb.out).lt
      subst hjn
      go_wp2_with fail
      go_ret
      exact ⟨ret_bool (by first | rfl | simp), OLD.out⟩

end Go.Proofs.Ythjohjijcgiogaa
