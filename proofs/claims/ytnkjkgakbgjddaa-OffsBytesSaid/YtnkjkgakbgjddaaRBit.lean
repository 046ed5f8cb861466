/- Layer 1's document: Copy, PutVar, PutText. -/
import Derived.Test.YtnkjkgakbgjddaaSave
import Derived.Test.YtnkjkgakbgjddaaApp
namespace Go.Proofs.Ytnkjkgakbgjddaa
open Go.RowKit

set_option maxRecDepth 100000 in
theorem rcopy_any (A : Option Addr) (n c : Nat) (l : List UInt8) (w : World) (hl : Sl u8K w A n c l) (hbig : n ≤ 60000) :
    Calls Try.prog 75 #[.slice A n c] w fun e w' => ∃ A' c', e = .returned (.slice A' n c') ∧ Own u8K 5 w' w.heap.size A' n c' l ∧ Below w.heap.size w w' := by
  obtain ⟨i0, hi, hz0, hz1, hz2⟩ := info_parts inf5
  have HL := Lib.hid hl
  clear hl
  go_enter Try.func75, Try.ntmps75
  go_wp2_with (at_builtin; refine wpList_append_sl (K := u8K) _ rfl _ _ 45 rfl w.heap.size 5 i0 _ 1 Try.underlying45 hi hz0 hz1 hz2 rfl none 0 0 [] rfl (World.ownsRow_nil _ _ _ _) A n c l rfl HL.out (by unfold maxLen; omega) (by omega) (Nat.le_refl _) ?_)
  intro A1 c1 W1 ho hg _
  have B1 := Lib.hid (grown_below hg (Nat.le_refl _) (fun q hq => by cases hq))
  have O1 := Lib.hid (show Own u8K 5 W1 w.heap.size A1 n c1 l from ⟨HL.out.len, by simpa using ho, fun _ _ => trivial⟩)
  clear ho hg
  go_wp2_with fail
  go_ret
  exact ⟨A1, c1, by simp, O1.out, B1.out⟩

set_option maxRecDepth 100000 in
set_option maxHeartbeats 2000000 in
theorem rputVar_any (A : Option Addr) (n c : Nat) (bs : List UInt8) (z : Nat) (hz : z ≤ 2199023255552) (w : World) (hl : Sl u8K w A n c bs) (hn : n ≤ 60000) :
    Calls Try.prog 54 #[.slice A n c, .int .i64 z] w fun e w' => ∃ A' n' c', e = .returned (.slice A' n' c') ∧ Own u8K 5 w' w.heap.size A' n' c' (bs ++ varZ (2 * z)) ∧ Below w.heap.size w w' := by
  obtain ⟨i0, hi0, hz0, hz1, hz2⟩ := info_parts inf5
  have CL := Lib.hid (rcopy_any A n c bs w hl (by omega))
  have zn : decide ((z : Int) < 0) = false := decide_eq_false (by omega)
  have HZ : Hid (z ≤ 2199023255552) := hz
  clear hl
  go_enter Try.func54, Try.ntmps54
  go_wp2_with fail
  refine CL.out.mono ?_
  rintro e w1 ⟨A1, c1, rfl, hO, hb⟩
  have O1 := Lib.hid hO
  have B1 := Lib.hid hb
  clear hO hb hz zn
  go_wp2_with fail
  go_loopg [5, 6] (2 * z) (fun kx s5 s6 wr => ∃ (y : Nat) (A' : Option Addr) (n' c' : Nat) (pre : List UInt8), y ≤ kx ∧ y ≤ 2 * z ∧ s5 = .int .u64 (y : Nat) ∧ s6 = .slice A' n' c' ∧ n' + (varZ y).length ≤ n + (varZ (2 * z)).length ∧ Hid (pre ++ varZ y = varZ (2 * z)) ∧ Hid (Below w.heap.size w wr) ∧ Hid (Own u8K 5 wr w.heap.size A' n' c' (bs ++ pre)))
  case atStart => exact ⟨2 * z, A1, n, c1, [], by omega, by omega, by go_num, rfl, Nat.le_refl _, Lib.hid rfl, B1, Lib.hid (by rw [List.append_nil]; exact O1.out)⟩
  case round =>
    obtain ⟨y, A', n', c', pre, hy, hyz, rfl, rfl, hlen, hp, hb, hO⟩ := hrel
    have VL := Lib.hid (varZ_len (2 * z) (by have := HZ.out; omega))
    by_cases hlt : y < 128
    · have bv := Lib.hid (byte_nat y (by omega))
      have V1 := Lib.hid (varZ_lt hlt)
      have ym : y % 256 = y := by omega
      have o2 := Lib.hid (hO.out.kept (below_alloc1 wr (.cells #[.int .u8 (y : Nat)] 5)))
      go_wp2_with (at_builtin; refine wpList_app1 (K := u8K) _ rfl _ _ 45 rfl w.heap.size 5 i0 _ 1 Try.underlying45 hi0 hz0 hz1 hz2 rfl A' n' c' _ rfl o2.out wr.heap.size rfl (UInt8.ofNat y) ?qc1 trivial (fun _ _ _ => trivial) ?qc2 ?qc3 ?qc4 ?_)
      case qc1 =>
        intro j hj
        obtain rfl : j = 0 := by simp [u8K] at hj; omega
        rw [show u8K.cells (UInt8.ofNat y) = [byteV (UInt8.ofNat y)] from rfl, bv.out]
        simp
      case qc2 => have := VL.out; unfold maxLen; omega
      case qc3 => have := VL.out; omega
      case qc4 => exact Nat.le_trans hb.out.size (below_alloc1 wr _).size
      intro A2 c2 w3 hown hgrow hat
      have HO3 := Lib.hid hown
      have HG3 := Lib.hid hgrow
      clear hown hgrow hat
      go_wp2_with fail
      go_ret
      refine ⟨A2, n' + 1, c2, by simp, ?_, ?_⟩
      · have := HO3.out
        rw [← hp.out, V1.out, ← List.append_assoc]
        simpa [List.append_assoc] using this
      · have b2 := hb.out.alloc hb.out.size (.cells #[.int .u8 (y : Nat)] 5)
        exact b2.trans (grown_below HG3.out b2.size (fun q hq => (hO.out.2.1.lt q hq).1))
    · have bv := Lib.hid (byte_nat (128 + y % 128) (by omega))
      have V1 := Lib.hid (varZ_ge hlt)
      have o2 := Lib.hid (hO.out.kept (below_alloc1 wr (.cells #[.int .u8 ((128 + (y : Int) % 128))] 5)))
      have vl : 0 < (varZ (y / 128)).length := by
        by_cases h : y / 128 < 128
        · rw [varZ_lt h]; simp
        · rw [varZ_ge h]; simp
      have hlen2 : (varZ y).length = (varZ (y / 128)).length + 1 := by rw [V1.out]; rfl
      go_wp2_with (at_builtin; refine wpList_app1 (K := u8K) _ rfl _ _ 45 rfl w.heap.size 5 i0 _ 1 Try.underlying45 hi0 hz0 hz1 hz2 rfl A' n' c' _ rfl o2.out wr.heap.size rfl (UInt8.ofNat (128 + y % 128)) ?qc1 trivial (fun _ _ _ => trivial) ?qc2 ?qc3 ?qc4 ?_)
      case qc1 =>
        intro j hj
        obtain rfl : j = 0 := by simp [u8K] at hj; omega
        rw [show u8K.cells (UInt8.ofNat (128 + y % 128)) = [byteV (UInt8.ofNat (128 + y % 128))] from rfl, bv.out]
        simp
      case qc2 => have := VL.out; unfold maxLen; omega
      case qc3 => have := VL.out; omega
      case qc4 => exact Nat.le_trans hb.out.size (below_alloc1 wr _).size
      intro A2 c2 w3 hown hgrow hat
      have HO3 := Lib.hid hown
      have HG3 := Lib.hid hgrow
      clear hown hgrow hat
      go_wp2_with fail
      go_roundg (y / 128)
      case measure => omega
      case rel =>
        have WQ : IntKind.u64.wrap ((y : Int) / 128) = ((y / 128 : Nat) : Int) := by have := HZ.out; simp [IntKind.wrap, IntKind.bits, IntKind.signed]; omega
        refine ⟨y / 128, A2, n' + 1, c2, pre ++ [UInt8.ofNat (128 + y % 128)], Nat.le_refl _, by omega, by first | exact congrArg _ WQ | (rw [WQ]), rfl, by omega, Lib.hid ?_, Lib.hid ?_, Lib.hid ?_⟩
        · rw [← hp.out, V1.out]; simp
        · have b2 := hb.out.alloc hb.out.size (.cells #[.int .u8 ((128 + (y : Int) % 128))] 5)
          exact b2.trans (grown_below HG3.out b2.size (fun q hq => (hO.out.2.1.lt q hq).1))
        · have := HO3.out
          simpa [List.append_assoc] using this

set_option maxRecDepth 100000 in
set_option maxHeartbeats 2000000 in
theorem rputText_any (A : Option Addr) (n c : Nat) (bs : List UInt8) (s : ByteArray) (w : World) (hl : Sl u8K w A n c bs) (hn : n ≤ 50000) (hs : s.size ≤ 2000) :
    Calls Try.prog 53 #[.slice A n c, .string s] w fun e w' => ∃ A' n' c', e = .returned (.slice A' n' c') ∧ Own u8K 5 w' w.heap.size A' n' c' (bs ++ putT s) ∧ Below w.heap.size w w' := by
  obtain ⟨i0, hi0, hz0, hz1, hz2⟩ := info_parts inf5
  have PV := Lib.hid (rputVar_any A n c bs s.size (by omega) w hl (by omega))
  have HN := Lib.hid hl.len
  clear hl
  go_enter Try.func53, Try.ntmps53
  go_wp2_with fail
  refine PV.out.mono ?_
  rintro e w1 ⟨A1, n1, c1, rfl, hO, hb⟩
  have O1 := Lib.hid hO
  have B1 := Lib.hid hb
  have VL := Lib.hid (varZ_len (2 * s.size) (by omega))
  have LN := Lib.hid hO.1
  have hlen : n1 ≤ 60000 := by
    have := LN.out
    rw [List.length_append, HN.out] at this
    have := VL.out
    omega
  clear hO hb
  go_wp2_with (at_builtin; refine Lib.wpList_append_own_string _ rfl _ _ 45 9 rfl w.heap.size 5 i0 Try.underlying45 Try.underlying9 hi0 hz0 hz1 hz2 (.slice A1 n1 c1) n1 _ rfl O1.out.2.1 s rfl ?qc1 ?qc2 ?qc3 ?_)
  case qc1 => unfold maxLen; omega
  case qc2 => omega
  case qc3 => exact B1.out.size
  intro v' w2 hown hgrow _
  obtain ⟨A2, c2, rfl⟩ := owns_form hown
  have HO := Lib.hid hown
  have HG := Lib.hid hgrow
  clear hown hgrow
  go_wp2_with fail
  go_ret
  refine ⟨A2, n1 + s.size, c2, by simp, ⟨?_, ?_, fun _ _ => trivial⟩, B1.out.trans (grown_below HG.out B1.out.size (fun q hq => (O1.out.2.1.lt q hq).1))⟩
  · have := LN.out
    unfold putT
    rw [← List.append_assoc, List.length_append, this]
    show _ = _ + s.data.size
    simp
  · have := HO.out
    unfold putT
    rw [List.flatMap_append, List.flatMap_append, ← strCells_u8]
    exact this

end Go.Proofs.Ytnkjkgakbgjddaa
