/- CacheCuts of layer 16: the walk, where what is put together is no more than memory holds. -/
import Derived.Test.YthjohjijcgiogaaCat
import Derived.Test.YthjohjijcgiogaaLive
import Derived.Test.YthjohjijcgiogaaSame
namespace Go.Proofs.Ythjohjijcgiogaa
open Go.RowKit

set_option maxHeartbeats 4000000 in
set_option maxRecDepth 100000 in
/-- Where there are too many bytes, or slices. -/
theorem cutslaw_out (A : Option Addr) (n c : Nat) (size : Int) (A' : Option Addr) (n' c' : Nat) (w : World) (ho : 2000 < n ∨ 100 < n') :
    Calls Try.prog 9 #[.slice A n c, .int .i64 size, .slice A' n' c'] w fun e w' => e = .returned (.bool true) ∧ Below w.heap.size w w' := by
  by_cases h2 : 2000 < n
  · clear ho
    go_enter Try.func9, Try.ntmps9
    go_wp2_with (go_at_call 11; refine (live_any _).mono ?_; rintro e w1 ⟨rfl, hb1⟩; have HB1 := Lib.hid hb1; clear hb1)
    go_ret
    exact ⟨ret_bool (by first | rfl | simp), HB1.out⟩
  · have h3 : 100 < n' := by omega
    clear ho
    go_enter Try.func9, Try.ntmps9
    go_wp2_with (go_at_call 11; refine (live_any _).mono ?_; rintro e w1 ⟨rfl, hb1⟩; have HB1 := Lib.hid hb1; clear hb1)
    go_ret
    exact ⟨ret_bool (by first | rfl | simp), HB1.out⟩

set_option maxHeartbeats 4000000 in
set_option maxRecDepth 100000 in
theorem cutslaw_in (A : Option Addr) (n c : Nat) (bs : List UInt8) (size : Int) (A' : Option Addr) (n' c' : Nat) (l : List Bsl) (w : World) (hs : Sl u8K w A n c bs) (hl : Bsls w A' n' c' l) (hz : (Lit.int .i64 size).wf = true)
    (h2 : ¬ 2000 < n) (h3 : ¬ 100 < n') (hT : (l.map Bsl.bs).flatten.length ≤ 1099511627776) :
    Calls Try.prog 9 #[.slice A n c, .int .i64 size, .slice A' n' c'] w fun e w' => e = .returned (.bool true) ∧ Below w.heap.size w w' := by
  have CN := Lib.hid (fun w' (hb : Below w.heap.size w w') => chunks_any A n c bs size w' (hs.below hb) (by omega) hz)
  have RN := Lib.hid (fun w' (hb : Below w.heap.size w w') => rchunks_any A n c bs size w' (hs.below hb) (by omega) hz)
  have WN := Lib.hid (fun w' (hb : Below w.heap.size w w') => whole_any A' n' c' l w' (hl.below hb) hT)
  have RW := Lib.hid (fun w' (hb : Below w.heap.size w w') => rwhole_any A' n' c' l w' (hl.below hb) hT)
  clear hs hl hz hT
  go_enter Try.func9, Try.ntmps9
  go_wp2_with (first | (go_at_call 11; refine (live_any _).mono ?_; rintro e w1 ⟨rfl, hb1⟩; have HB1 := Lib.hid hb1; clear hb1) | (go_at_call 27; refine (CN.out _ HB1.out).mono ?_; intro e w2 hx; obtain ⟨A2, n2, c2, l2, rfl, i2, v2, b2⟩ := hx; have HB2 := Lib.hid (below_from b2 HB1.out HB1.out.size); have L2 := Lib.hid i2; have V2 := Lib.hid v2; clear i2 v2 b2) | (go_at_call 28; refine (RN.out _ HB2.out).mono ?_; intro e w3 hx; obtain ⟨A3, n3, c3, l3, rfl, i3, v3, b3⟩ := hx; obtain rfl : n3 = n2 := (by rw [← i3.len, ← L2.out.len, ← List.length_map (f := Bsl.bs), v3, ← V2.out, List.length_map]); have HB3 := Lib.hid (below_from b3 HB2.out HB2.out.size); have L3 := Lib.hid i3; have M3 := Lib.hid (L2.out.below b3); have V3 := Lib.hid (v3.trans V2.out.symm); clear i3 v3 b3))
  have hc3 := L3.out.cap
  have hm3 := L3.out.max
  go_loopg [33] n3 (fun gg s33 wr => ∃ k : Nat, k ≤ n3 ∧ n3 - k ≤ gg ∧ s33 = .int .i64 k ∧ Hid (Below w3.heap.size w3 wr))
  case atStart => exact ⟨0, Nat.zero_le _, by omega, rfl, Below.refl _ _⟩
  case round =>
    obtain ⟨k, hk, hgg, rfl, hb⟩ := hrel
    by_cases hlt : k < n3
    · obtain ⟨b, off, hkl, rfl, hbl, x0⟩ := Bsls.at_ (M3.out.below hb.out) hlt
      obtain ⟨b', off', hkl', rfl, hbl', y0⟩ := Bsls.at_ (L3.out.below hb.out) hlt
      have XI := Lib.hid ((M3.out.below hb.out).each l2[k] (List.getElem_mem hkl)).sl
      have YI := Lib.hid ((L3.out.below hb.out).each l3[k] (List.getElem_mem hkl')).sl
      have EQ := Lib.hid (show l2[k].bs = l3[k].bs from by
        have h1 : (l3.map Bsl.bs)[k]? = (l2.map Bsl.bs)[k]? := by rw [V3.out]
        rw [List.getElem?_map, List.getElem?_map, List.getElem?_eq_getElem hkl, List.getElem?_eq_getElem hkl'] at h1
        exact (Option.some.inj h1).symm)
      obtain ⟨x, hx⟩ : ∃ x, l2[k] = x := ⟨_, rfl⟩
      obtain ⟨y, hy⟩ : ∃ y, l3[k] = y := ⟨_, rfl⟩
      rw [hx] at x0 XI EQ
      rw [hy] at y0 YI EQ
      clear hx hkl hy hkl'
      obtain ⟨xA, xn, xc, xb⟩ := x
      obtain ⟨yA, yn, yc, yb⟩ := y
      have eq : xb = yb := EQ.out
      subst eq
      have SM := Lib.hid (fun w' (hb' : Below wr.heap.size wr w') => sameBs xA xn xc xb yA yn yc xb w' (XI.out.below hb') (YI.out.below hb'))
      have r0 := at_regrown x0
      have r1 := at_regrown y0
      simp only [decide_true] at SM
      go_wp2_with fail
      refine region_below (by kernel_rfl) (by kernel_rfl) ?_
      repeat (go_big_quiet_step ((go_at_call 22; exact call_regrown_same SM.out)))
      refine wpQuiet_nil ?_
      intro w6 hb6
      have HB6 := Lib.hid (below_from hb6 hb.out hb.out.size)
      clear hb6 r0 r1 x0 y0
      go_wp2_with fail
      go_roundg (n3 - (k + 1))
      case measure => omega
      case rel => exact ⟨k + 1, by omega, by omega, by go_num, HB6⟩
    · have HW := Lib.hid (below_from hb.out HB3.out HB3.out.size)
      go_wp2_with (first | (go_at_call 29; refine (WN.out _ HW.out).mono ?_; intro e w4 hx; obtain ⟨A4, n4, c4, rfl, i4, b4⟩ := hx; have HB4 := Lib.hid (below_from b4 HW.out HW.out.size); have S4 := Lib.hid i4; clear i4 b4) | (go_at_call 30; refine (RW.out _ HB4.out).mono ?_; intro e w5 hx; obtain ⟨A5, n5, c5, rfl, i5, b5⟩ := hx; have HB5 := Lib.hid (below_from b5 HB4.out HB4.out.size); have S5 := Lib.hid i5; have S6 := Lib.hid (S4.out.below b5); clear i5 b5) | (go_at_call 22; refine (sameBs _ _ _ _ _ _ _ _ _ S6.out S5.out).mono ?_; rintro e w7 ⟨rfl, rfl⟩))
      go_ret
      exact ⟨ret_bool (by simp), HB5.out⟩

theorem cutslaw_any (A : Option Addr) (n c : Nat) (bs : List UInt8) (size : Int) (A' : Option Addr) (n' c' : Nat) (l : List Bsl) (w : World) (hs : Sl u8K w A n c bs) (hl : Bsls w A' n' c' l) (hz : (Lit.int .i64 size).wf = true)
    (hT : n' ≤ 100 → (l.map Bsl.bs).flatten.length ≤ 1099511627776) :
    Calls Try.prog 9 #[.slice A n c, .int .i64 size, .slice A' n' c'] w fun e w' => e = .returned (.bool true) ∧ Below w.heap.size w w' := by
  by_cases h2 : 2000 < n
  · exact cutslaw_out A n c size A' n' c' w (.inl h2)
  · by_cases h3 : 100 < n'
    · exact cutslaw_out A n c size A' n' c' w (.inr h3)
    · exact cutslaw_in A n c bs size A' n' c' l w hs hl hz h2 h3 (hT (by omega))

end Go.Proofs.Ythjohjijcgiogaa
