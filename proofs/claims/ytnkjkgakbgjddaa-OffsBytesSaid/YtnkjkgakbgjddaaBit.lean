/- Bits of numbers, as the walk spells them; PutVar, PutText. -/
import Derived.Test.YtnkjkgakbgjddaaCln
import Derived.Test.YtnkjkgakbgjddaaOffP
import Derived.Test.YtnkjkgakbgjddaaApp
import Derived.Test.YtnkjkgakbgjddaaRset
import Derived.Laws.BitsAllLaws
import Derived.Laws.DeepNot64
namespace Go.Proofs.Ytnkjkgakbgjddaa
open Go.RowKit

theorem xor_top (z : Nat) (hz : z ≤ 2199023255552) : bits .xor .u64 ((z : Int) * 2) ((z : Int) / 9223372036854775808) = ((2 * z : Nat) : Int) := by
  rw [show (z : Int) * 2 = ((2 * z : Nat) : Int) by omega, show (z : Int) / 9223372036854775808 = ((0 : Nat) : Int) by omega, u64_xor_nat _ _ (by omega) (by omega), Nat.xor_zero]
theorem or_top (z : Nat) : bits .or .u8 ((z : Int) % 256) 128 = ((128 + z % 128 : Nat) : Int) := by
  rw [show (z : Int) % 256 = ((z % 256 : Nat) : Int) by omega, show (128 : Int) = ((128 : Nat) : Int) from rfl, u8_or_nat _ _ (by omega) (by omega)]
  congr 1
  have e : z % 256 = z % 256 / 128 * 128 + z % 128 := by omega
  have h : z % 256 / 128 < 2 := by omega
  rw [Nat.or_comm]
  rcases (show z % 256 / 128 = 0 ∨ z % 256 / 128 = 1 by omega) with h0 | h0
  · rw [nat_join 7 128 (z % 256) (by decide) (by omega)]; omega
  · rw [h0] at e
    have e2 : z % 256 = 128 ||| z % 128 := by rw [nat_join 7 128 (z % 128) (by decide) (by omega)]; omega
    rw [e2, ← Nat.or_assoc, Nat.or_self, nat_join 7 128 (z % 128) (by decide) (by omega)]
theorem byte_nat (m : Nat) (h : m < 256) : byteV (UInt8.ofNat m) = .int .u8 (m : Int) := by
  unfold byteV; congr 2; rw [UInt8.toNat_ofNat']; omega

theorem varZ_len : ∀ (z : Nat), z < 2 ^ 63 → (varZ z).length ≤ 9 := by
  have h : ∀ (k z : Nat), z < 2 ^ (7 * k) → (varZ z).length ≤ max k 1 := by
    intro k
    induction k with
    | zero => intro z hz; rw [varZ_lt (by simp at hz; omega)]; simp
    | succ k ih =>
      intro z hz
      by_cases h : z < 128
      · rw [varZ_lt h]; simp only [List.length_singleton]; omega
      · rw [varZ_ge h, List.length_cons]
        have := ih (z / 128) (Nat.div_lt_of_lt_mul (by rw [← Nat.pow_add 2 7 (7 * k)]; rwa [show 7 + 7 * k = 7 * (k + 1) by omega]))
        cases k with
        | zero => simp at hz; omega
        | succ k => omega
  intro z hz
  exact h 9 z hz

set_option maxRecDepth 100000 in
set_option maxHeartbeats 2000000 in
theorem putVar_any (A : Option Addr) (n c : Nat) (bs : List UInt8) (z : Nat) (hz : z ≤ 2199023255552) (w : World) (hl : Sl u8K w A n c bs) (hn : n ≤ 60000) :
    Calls Try.prog 52 #[.slice A n c, .int .i64 z] w fun e w' => ∃ A' n' c', e = .returned (.slice A' n' c') ∧ Own u8K 5 w' w.heap.size A' n' c' (bs ++ varZ (2 * z)) ∧ Below w.heap.size w w' := by
  obtain ⟨i0, hi0, hz0, hz1, hz2⟩ := info_parts inf5
  have CL := Lib.hid (cloneB A n c bs w hl (by omega))
  have XT := Lib.hid (xor_top z hz)
  have HZ : Hid (z ≤ 2199023255552) := hz
  clear hl
  go_enter Try.func52, Try.ntmps52
  go_wp2_with fail
  rw [XT.out]
  refine CL.out.mono ?_
  rintro e w1 ⟨A1, c1, rfl, hO, hb⟩
  have O1 := Lib.hid hO
  have B1 := Lib.hid hb
  clear hO hb XT hz
  go_wp2_with fail
  go_loopg [5, 6] (2 * z) (fun kx s5 s6 wr => ∃ (y : Nat) (A' : Option Addr) (n' c' : Nat) (pre : List UInt8), y ≤ kx ∧ y ≤ 2 * z ∧ s5 = .int .u64 (y : Nat) ∧ s6 = .slice A' n' c' ∧ n' + (varZ y).length ≤ n + (varZ (2 * z)).length ∧ Hid (pre ++ varZ y = varZ (2 * z)) ∧ Hid (Below w.heap.size w wr) ∧ Hid (Own u8K 5 wr w.heap.size A' n' c' (bs ++ pre)))
  case atStart => exact ⟨2 * z, A1, n, c1, [], by omega, by omega, by go_num, rfl, Nat.le_refl _, Lib.hid rfl, B1, Lib.hid (by rw [List.append_nil]; exact O1.out)⟩
  case round =>
    obtain ⟨y, A', n', c', pre, hy, hyz, rfl, rfl, hlen, hp, hb, hO⟩ := hrel
    have VL := Lib.hid (varZ_len (2 * z) (by have := HZ.out; omega))
    by_cases hlt : y < 128
    · have bv := Lib.hid (byte_nat y (by omega))
      have V1 := Lib.hid (varZ_lt hlt)
      have ym : y % 256 = y := by omega
      have o2 := Lib.hid (hO.out.kept (below_alloc1 wr (.cells #[.int .u8 (y : Nat)] 5)))
      go_wp2_with (at_builtin; refine wpList_app1 (K := u8K) _ rfl _ _ 45 rfl w.heap.size 5 i0 _ 1 Try.underlying45 hi0 hz0 hz1 hz2 rfl A' n' c' _ rfl o2.out wr.heap.size rfl (UInt8.ofNat y) ?qc1 trivial (fun _ _ _ => trivial) ?qc2 ?qc3 ?qc4 ?_)
      case qc1 =>
        intro j hj
        obtain rfl : j = 0 := by simp [u8K] at hj; omega
        rw [show u8K.cells (UInt8.ofNat y) = [byteV (UInt8.ofNat y)] from rfl, bv.out]
        simp
      case qc2 => have := VL.out; unfold maxLen; omega
      case qc3 => have := VL.out; omega
      case qc4 => exact Nat.le_trans hb.out.size (below_alloc1 wr _).size
      intro A2 c2 w3 hown hgrow hat
      have HO3 := Lib.hid hown
      have HG3 := Lib.hid hgrow
      clear hown hgrow hat
      go_wp2_with fail
      go_ret
      refine ⟨A2, n' + 1, c2, by simp, ?_, ?_⟩
      · have := HO3.out
        rw [← hp.out, V1.out, ← List.append_assoc]
        simpa [List.append_assoc] using this
      · have b2 := hb.out.alloc hb.out.size (.cells #[.int .u8 (y : Nat)] 5)
        exact b2.trans (grown_below HG3.out b2.size (fun q hq => (hO.out.2.1.lt q hq).1))
    · have bv := Lib.hid (byte_nat (128 + y % 128) (by omega))
      have V1 := Lib.hid (varZ_ge hlt)
      have OT := Lib.hid (or_top y)
      have o2 := Lib.hid (hO.out.kept (below_alloc1 wr (.cells #[.int .u8 (bits .or .u8 ((y : Nat) % 256) 128)] 5)))
      have vl : 0 < (varZ (y / 128)).length := by
        by_cases h : y / 128 < 128
        · rw [varZ_lt h]; simp
        · rw [varZ_ge h]; simp
      have hlen2 : (varZ y).length = (varZ (y / 128)).length + 1 := by rw [V1.out]; rfl
      go_wp2_with (at_builtin; refine wpList_app1 (K := u8K) _ rfl _ _ 45 rfl w.heap.size 5 i0 _ 1 Try.underlying45 hi0 hz0 hz1 hz2 rfl A' n' c' _ rfl o2.out wr.heap.size rfl (UInt8.ofNat (128 + y % 128)) ?qc1 trivial (fun _ _ _ => trivial) ?qc2 ?qc3 ?qc4 ?_)
      case qc1 =>
        intro j hj
        obtain rfl : j = 0 := by simp [u8K] at hj; omega
        rw [show u8K.cells (UInt8.ofNat (128 + y % 128)) = [byteV (UInt8.ofNat (128 + y % 128))] from rfl, bv.out, ← OT.out]
        simp
      case qc2 => have := VL.out; unfold maxLen; omega
      case qc3 => have := VL.out; omega
      case qc4 => exact Nat.le_trans hb.out.size (below_alloc1 wr _).size
      intro A2 c2 w3 hown hgrow hat
      have HO3 := Lib.hid hown
      have HG3 := Lib.hid hgrow
      clear hown hgrow hat
      go_wp2_with fail
      go_roundg (y / 128)
      case measure => omega
      case rel =>
        refine ⟨y / 128, A2, n' + 1, c2, pre ++ [UInt8.ofNat (128 + y % 128)], Nat.le_refl _, by omega, by go_num, rfl, by omega, Lib.hid ?_, Lib.hid ?_, Lib.hid ?_⟩
        · rw [← hp.out, V1.out]; simp
        · have b2 := hb.out.alloc hb.out.size (.cells #[.int .u8 (bits .or .u8 ((y : Nat) % 256) 128)] 5)
          exact b2.trans (grown_below HG3.out b2.size (fun q hq => (hO.out.2.1.lt q hq).1))
        · have := HO3.out
          simpa [List.append_assoc] using this

end Go.Proofs.Ytnkjkgakbgjddaa
