/- CacheWhole of layer 16: the walk. -/
import Derived.Test.YthjohjijcgiogaaCat
import Derived.Test.YthjohjijcgiogaaLive
import Derived.Test.YthjohjijcgiogaaSame
namespace Go.Proofs.Ythjohjijcgiogaa
open Go.RowKit

set_option maxHeartbeats 4000000 in
set_option maxRecDepth 100000 in
/-- Where the bytes are too many, or nothing is cut. -/
theorem wholelaw_out (A : Option Addr) (n c : Nat) (bs : List UInt8) (size : Int) (w : World) (hs : Sl u8K w A n c bs) (ho : 2000 < n ∨ size < 1) :
    Calls Try.prog 10 #[.slice A n c, .int .i64 size] w fun e w' => e = .returned (.bool true) ∧ Below w.heap.size w w' := by
  by_cases h2 : 2000 < n
  · clear ho hs
    go_enter Try.func10, Try.ntmps10
    go_wp2_with (go_at_call 11; refine (live_any _).mono ?_; rintro e w1 ⟨rfl, hb1⟩; have HB1 := Lib.hid hb1; clear hb1)
    go_ret
    exact ⟨ret_bool (by first | rfl | simp), HB1.out⟩
  · have hz : size < 1 := by rcases ho with h | h; omega; exact h
    have CN := Lib.hid (fun w' => chunks_none A n c size w' hz)
    have d : decide (size < 1) = true := decide_eq_true hz
    have dn : decide (2000 < (n : Int)) = false := decide_eq_false (by omega)
    clear ho hs
    go_enter Try.func10, Try.ntmps10
    go_wp2_with (first | (go_at_call 11; refine (live_any _).mono ?_; rintro e w1 ⟨rfl, hb1⟩; have HB1 := Lib.hid hb1; clear hb1) | (go_at_call 27; refine (CN.out _).mono ?_; intro e w2 hx; obtain ⟨A2, n2, c2, l2, rfl, h3, h4, h5⟩ := hx; obtain rfl : n2 = 0 := (by rw [← h3.len, ← List.length_map (f := Bsl.bs), h4]; rfl); have HB2 := Lib.hid (below_from h5 HB1.out HB1.out.size); clear h3 h4 h5))
    go_ret
    exact ⟨ret_bool (by first | rfl | simp), HB2.out⟩

set_option maxHeartbeats 4000000 in
set_option maxRecDepth 100000 in
theorem wholelaw_in (A : Option Addr) (n c m : Nat) (bs : List UInt8) (w : World) (hs : Sl u8K w A n c bs) (h2 : ¬ 2000 < n) (hm : 1 ≤ m) (hm2 : (m : Int) ≤ 9223372036854775807) :
    Calls Try.prog 10 #[.slice A n c, .int .i64 m] w fun e w' => e = .returned (.bool true) ∧ Below w.heap.size w w' := by
  have CN := Lib.hid (fun w' (hb : Below w.heap.size w w') => chunks_in A n c m bs w' (hs.below hb) (by omega) hm hm2)
  have HS := Lib.hid hs
  have HLEN := Lib.hid hs.len
  have HM := Lib.hid hm
  have hcn := cnt_le (len := n) hm
  have d : decide ((m : Int) < 1) = false := decide_eq_false (by omega)
  have dn : decide (2000 < (n : Int)) = false := decide_eq_false (by omega)
  clear hs
  go_enter Try.func10, Try.ntmps10
  go_wp2_with (first | (go_at_call 11; refine (live_any _).mono ?_; rintro e w1 ⟨rfl, hb1⟩; have HB1 := Lib.hid hb1; clear hb1) | (go_at_call 27; refine (CN.out _ HB1.out).mono ?_; intro e w2 hx; obtain ⟨A2, n2, c2, l2, rfl, h3, h4, h5⟩ := hx; obtain rfl : n2 = cnt n m := (by rw [← h3.len, ← List.length_map (f := Bsl.bs), h4, parts_len, HLEN.out]); have HB2 := Lib.hid (below_from h5 HB1.out HB1.out.size); have L2 := Lib.hid h3; have V2 := Lib.hid h4; clear h3 h4 h5))
  go_loopg [32] (cnt n m) (fun gg s32 wr => ∃ k : Nat, k ≤ cnt n m ∧ cnt n m - k ≤ gg ∧ s32 = .int .i64 k ∧ Hid (wr = w2))
  case atStart => exact ⟨0, Nat.zero_le _, by omega, rfl, rfl⟩
  case round =>
    obtain ⟨k, hk, hgg, rfl, hw⟩ := hrel
    by_cases hlt : k < cnt n m
    · obtain ⟨b, off, hkl, rfl, hbl, x0⟩ := Bsls.at_ L2.out hlt
      rw [← hw.out] at x0
      have hkm := (cnt_lt (len := n) HM.out).1 hlt
      have hxn : l2[k].n = partN n m k := by
        have h1 := (L2.out.each l2[k] (List.getElem_mem hkl)).sl.len
        have h3 := parts_at (bs := bs) (m := m) (k := k) (by rw [HLEN.out]; exact hlt)
        rw [← V2.out, List.getElem?_map, List.getElem?_eq_getElem hkl] at h3
        have h4 : l2[k].bs = (bs.drop (k * m)).take m := Option.some.inj h3
        rw [← h1, h4, part_len, HLEN.out]
      obtain ⟨e, he⟩ : ∃ e, e = partN n m k := ⟨_, rfl⟩
      rw [← he] at hxn
      rw [hxn] at x0
      have he1 : e = min m (n - k * m) := he
      have hnext : k + 1 < cnt n m → e = m := fun h => by
        have := (cnt_lt (len := n) HM.out).1 h
        rw [Nat.succ_mul] at this
        omega
      have e0 : ¬ e = 0 := by omega
      have em : e ≤ m := by omega
      have e1 : ((e : Int) == 0) = false := by rw [beq_eq_false_iff_ne]; omega
      have d1 : decide ((m : Int) < (e : Int)) = false := decide_eq_false (by omega)
      have d2 : decide (m < e) = false := decide_eq_false (by omega)
      have d3 : (m < e) = False := eq_false (by omega)
      have wk : IntKind.i64.wrap ((k : Int) + 1) = (k : Int) + 1 := IntWalk.i64_in _ (by omega)
      obtain ⟨xA, hxA⟩ : ∃ xA, l2[k].A = xA := ⟨_, rfl⟩
      obtain ⟨xc, hxc⟩ : ∃ xc, l2[k].c = xc := ⟨_, rfl⟩
      rw [hxA, hxc] at x0
      clear he he1 hkm hxn hxA hxc hkl
      by_cases hnx : k + 1 < cnt n m
      · obtain rfl := hnext hnx
        have f1 : decide ((k : Int) + 1 < ((cnt n e : Nat) : Int)) = true := decide_eq_true (by omega)
        clear hnext
        go_wp2_with fail
        go_roundg (cnt n e - (k + 1))
        case measure => omega
        case rel => exact ⟨k + 1, by omega, by omega, by go_num, hw⟩
      · have f1 : decide ((k : Int) + 1 < ((cnt n m : Nat) : Int)) = false := decide_eq_false (by omega)
        have f2 : ((k : Int) + 1 < ((cnt n m : Nat) : Int)) = False := eq_false (by omega)
        clear hnext
        go_wp2_with fail
        go_roundg (cnt n m - (k + 1))
        case measure => omega
        case rel => exact ⟨k + 1, by omega, by omega, by go_num, hw⟩
    · obtain rfl : k = cnt n m := by omega
      have WH := Lib.hid (show Calls Try.prog 29 #[.slice A2 (cnt n m) c2] wr (BRes bs wr) from by
        have hw' := hw.out
        subst hw'
        have := whole_any A2 (cnt n m) c2 l2 wr L2.out (by rw [V2.out, parts_whole bs m HM.out, HLEN.out]; omega)
        rw [V2.out, parts_whole bs m HM.out] at this
        exact this)
      have HB3 := Lib.hid (show Below w.heap.size w wr from by rw [hw.out]; exact HB2.out)
      go_wp2_with (first | (go_at_call 29; refine WH.out.mono ?_; intro e w3 hx; obtain ⟨A3, n3, c3, rfl, h6, h7⟩ := hx; have S3 := Lib.hid h6; have B3 := Lib.hid (below_from h7 HB3.out HB3.out.size); clear h6 h7) | (go_at_call 22; refine (sameBs _ _ _ _ _ _ _ _ _ S3.out (HS.out.below B3.out)).mono ?_; rintro e w4 ⟨rfl, rfl⟩))
      go_ret
      exact ⟨ret_bool (by simp), B3.out⟩

theorem wholelaw_any (A : Option Addr) (n c : Nat) (bs : List UInt8) (size : Int) (w : World) (hs : Sl u8K w A n c bs) (hz : (Lit.int .i64 size).wf = true) :
    Calls Try.prog 10 #[.slice A n c, .int .i64 size] w fun e w' => e = .returned (.bool true) ∧ Below w.heap.size w w' := by
  by_cases h2 : 2000 < n
  · exact wholelaw_out A n c bs size w hs (.inl h2)
  · by_cases h1 : size < 1
    · exact wholelaw_out A n c bs size w hs (.inr h1)
    · obtain ⟨m, rfl⟩ : ∃ m : Nat, size = (m : Int) := ⟨size.toNat, by omega⟩
      refine wholelaw_in A n c m bs w hs h2 (by omega) ?_
      simp [Lit.wf, IntKind.min, IntKind.max, IntKind.bits, IntKind.signed] at hz
      omega

end Go.Proofs.Ythjohjijcgiogaa
