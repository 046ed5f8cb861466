/- Reading numbers and texts: octet's from, GetVar, GetText. -/
import Derived.Test.YtnkjkgakbgjddaaBit
namespace Go.Proofs.Ytnkjkgakbgjddaa
open Go.RowKit

theorem drop_min {α : Type} (l : List α) (k : Nat) : l.drop (min k l.length) = l.drop k := by
  rcases Nat.lt_or_ge k l.length with h | h
  · rw [Nat.min_eq_left (by omega)]
  · rw [Nat.min_eq_right h, List.drop_length, List.drop_eq_nil_of_le h]
theorem sl_drop1 {w : World} {b off n c : Nat} {l : List UInt8} (h : Sl u8K w (some ⟨b, off, none⟩) n c l) (m : Nat) (hm : m ≤ n) : Sl u8K w (some ⟨b, off + m, none⟩) (n - m) (c - m) (l.drop m) := by
  refine ⟨by rw [List.length_drop, h.len], by have := h.cap; omega, by have := h.max; omega, fun e => (by cases e), fun hne => ?_, fun _ _ => trivial⟩
  have hl := h.len
  have hlen : m < l.length := by
    apply Nat.lt_of_not_le
    intro hh
    rw [List.drop_eq_nil_of_le hh] at hne
    exact hne rfl
  obtain ⟨b', off', e, hlt, hc⟩ := h.row (fun e => by
    have := h.flat_len
    rw [e] at this
    simp [u8K] at this
    omega)
  injection e with e; injection e with e1 e2; subst e1; subst e2
  refine ⟨b, off + m, rfl, hlt, fun j hj => ?_⟩
  rw [Nat.add_assoc, hc (m + j) (by
    rw [flat_len u8K.cells u8K.size u8K.len] at hj ⊢
    rw [List.length_drop] at hj
    simp only [u8K, Nat.mul_one] at hj ⊢
    omega)]
  have := flat_drop u8K.cells u8K.size u8K.len l m
  simp only [u8K, Nat.mul_one] at this
  show (l.flatMap u8K.cells)[m + j]? = ((l.drop m).flatMap u8K.cells)[j]?
  rw [← List.getElem?_drop]
  exact congrArg (·[j]?) this
theorem sl_zero {w : World} {A : Option Addr} {l : List UInt8} (hA : A ≠ none) (hl : l = []) : Sl u8K w A 0 0 l := by
  subst hl
  exact ⟨rfl, Nat.le_refl _, by omega, fun e => absurd e hA, Row.nil _ _, fun a ha => by simp at ha⟩

set_option maxHeartbeats 2000000 in
theorem from_any (A : Option Addr) (n c : Nat) (bs : List UInt8) (k : Nat) (w : World) (hl : Sl u8K w A n c bs) :
    Calls Try.prog 76 #[.slice A n c, .int .i64 k] w fun e w' => ∃ A', e = .returned (.slice A' (n - min k n) (c - min k n)) ∧ Sl u8K w A' (n - min k n) (c - min k n) (bs.drop k) ∧ w' = w := by
  have hD : Hid (bs.drop (min k n) = bs.drop k) := Lib.hid (by rw [← hl.len]; exact drop_min bs k)
  have hmax := hl.max
  have hcap := hl.cap
  rcases A with _ | ⟨b, off, sp⟩
  · obtain ⟨rfl, rfl⟩ := hl.adr rfl
    have HL := Lib.hid hl
    clear hl
    go_enter Try.func76, Try.ntmps76
    go_wp2_with fail
    go_ret
    rw [show min k 0 = 0 by omega]
    exact ⟨none, rfl, by rw [← hD.out, show min k 0 = 0 by omega]; exact HL.out, rfl⟩
  · obtain ⟨m, hm⟩ : ∃ m, min k n = m := ⟨_, rfl⟩
    have hmn : m ≤ n := by omega
    have MM : Hid (min (k : Int) (n : Int) = (m : Int)) := Lib.hid (by omega)
    have i1 : (0 : Int) ≤ (m : Int) := by omega
    have i2 : (m : Int) ≤ (n : Int) := by omega
    rw [hm] at hD ⊢
    by_cases hcm : c = m
    · have hnm : n = m := by omega
      have HZ := Lib.hid (show bs.drop k = [] from by rw [← hD.out]; exact List.drop_eq_nil_of_le (by rw [hl.len]; omega))
      subst hcm
      subst hnm
      clear hl
      go_enter Try.func76, Try.ntmps76
      go_wp2_with fail
      go_ret
      refine ⟨some ⟨b, off, sp⟩, ?_, ?_, rfl⟩
      · rw [Nat.sub_self]
        simp [MM.out]
      · rw [Nat.sub_self, HZ.out]
        exact sl_zero (fun h => by cases h) rfl
    · have HL := Lib.hid hl
      have LN := Lib.hid hl.len
      clear hl
      have go : ∃ A', Sl u8K w A' (n - m) (c - m) (bs.drop k) ∧ A' = some ((⟨b, off, sp⟩ : Addr).add m) := by
        rcases Nat.eq_zero_or_pos n with h0 | h0
        · subst h0
          have hb : bs = [] := List.length_eq_zero_iff.1 LN.out
          obtain rfl : m = 0 := by omega
          subst hb
          rw [List.drop_nil]
          exact ⟨_, ⟨by simp, by omega, by omega, (fun h => by cases h), Row.nil _ _, fun a ha => by simp at ha⟩, rfl⟩
        · obtain ⟨b', off', _, e, _⟩ := HL.out.get h0
          injection e with e; injection e with e1 e2 e3; subst e1; subst e2; subst e3
          exact ⟨_, by rw [← hD.out, Addr.add_lit]; exact sl_drop1 HL.out m hmn, rfl⟩
      obtain ⟨A', hs, hA⟩ := go
      have HS := Lib.hid hs
      have HA := Lib.hid hA
      clear hs hA
      go_enter Try.func76, Try.ntmps76
      go_wp2_with fail
      go_ret
      exact ⟨A', by simp [MM.out, HA.out], HS.out, rfl⟩

theorem xor_end (v : Nat) (hv : v < 9223372036854775808) : bits .xor .i64 (v : Int) (-1) = -(v : Int) - 1 ∧ bits .xor .i64 (v : Int) 0 = (v : Int) := by
  constructor
  · show IntKind.i64.wrap ((BitVec.ofInt 64 (v : Int) ^^^ BitVec.ofInt 64 (-1)).toNat : Int) = _
    have h1 : BitVec.ofInt 64 (-1) = BitVec.allOnes 64 := by decide
    rw [h1, BitVec.xor_allOnes, BitVec.toNat_not, ofInt_u64 v (by omega)]
    simp [IntKind.wrap, IntKind.bits, IntKind.signed]
    omega
  · show IntKind.i64.wrap ((BitVec.ofInt 64 (v : Int) ^^^ BitVec.ofInt 64 0).toNat : Int) = _
    have h1 : BitVec.ofInt 64 0 = 0#64 := by decide
    rw [h1, BitVec.xor_zero, ofInt_u64 v (by omega)]
    simp [IntKind.wrap, IntKind.bits, IntKind.signed]
    omega
/-- The number that seven bits each make, as the walk spells it. -/
theorem unzig_walk (z : Nat) (hz : z < 18446744073709551616) : bits .xor .i64 (wrap64 ((z : Int) / 2)) (wrap64 (-wrap64 (bits .and .u64 (z : Int) 1))) = unzig z := by
  have e1 : wrap64 ((z : Int) / 2) = ((z / 2 : Nat) : Int) := by unfold wrap64; omega
  have e2 : bits .and .u64 (z : Int) 1 = ((z % 2 : Nat) : Int) := by
    rw [show (1 : Int) = ((1 : Nat) : Int) from rfl, u64_and_nat z 1 hz (by omega), nat_mask1]
  rw [e1, e2]
  have hv : z / 2 < 9223372036854775808 := by omega
  obtain ⟨h1, h2⟩ := xor_end (z / 2) hv
  unfold unzig
  rcases (show z % 2 = 0 ∨ z % 2 = 1 by omega) with h | h
  · rw [h, show wrap64 (-wrap64 ((0 : Nat) : Int)) = 0 by unfold wrap64; omega, h2, if_neg (by omega)]
  · rw [h, show wrap64 (-wrap64 ((1 : Nat) : Int)) = -1 by unfold wrap64; omega, h1, if_pos rfl]
theorem wrap_next (k i : Nat) (h : k + i + 1 ≤ 9223372036854775807) : wrap64 (wrap64 ((k : Int) + (i : Int)) + 1) = (k : Int) + ((i + 1 : Nat) : Int) := by
  rw [IntWalk.wrap64_in ((k : Int) + (i : Int)) (by omega), IntWalk.wrap64_in _ (by omega)]
  omega
theorem pow_two (i : Nat) : (2 : Nat) ^ (7 * i) = 128 ^ i := by rw [Nat.pow_mul]
/-- Seven bits more, as the walk spells it. -/
theorem or_more (z i x : Nat) (hz : z < 128 ^ i) (hx : x < 256) (hi : i ≤ 9) (h9 : i = 9 → x ≤ 1) :
    bits .or .u64 (z : Int) (IntKind.u64.wrap (IntKind.u64.wrap (bits .and .u8 (x : Int) 127) * 2 ^ (7 * i))) = ((z + x % 128 * 128 ^ i : Nat) : Int) ∧ z + x % 128 * 128 ^ i < 18446744073709551616 ∧ (i ≤ 8 → z + x % 128 * 128 ^ i < 128 ^ (i + 1)) := by
  have p9 : 128 ^ i ≤ 9223372036854775808 := by
    have := Nat.pow_le_pow_right (n := 128) (by omega) hi
    simpa using this
  have e1 : bits .and .u8 (x : Int) 127 = ((x % 128 : Nat) : Int) := by
    rw [show (127 : Int) = ((127 : Nat) : Int) from rfl, u8_and_nat x 127 hx (by omega)]
    congr 1
    exact Nat.and_two_pow_sub_one_eq_mod x 7
  have e2 : IntKind.u64.wrap ((x % 128 : Nat) : Int) = ((x % 128 : Nat) : Int) := by rw [IntKind.wrap_u64]; omega
  have hs : z + x % 128 * 128 ^ i < 18446744073709551616 ∧ (i ≤ 8 → z + x % 128 * 128 ^ i < 128 ^ (i + 1)) := by
    have h128 : x % 128 * 128 ^ i ≤ 127 * 128 ^ i := Nat.mul_le_mul_right _ (by omega)
    rcases (show i ≤ 8 ∨ i = 9 by omega) with h8 | rfl
    · have p8 : 128 ^ i ≤ 72057594037927936 := by
        have := Nat.pow_le_pow_right (n := 128) (by omega) h8
        simpa using this
      refine ⟨by omega, fun _ => ?_⟩
      rw [Nat.pow_succ]; omega
    · have := h9 rfl
      have h1 : x % 128 * 128 ^ 9 ≤ 1 * 128 ^ 9 := Nat.mul_le_mul_right _ (by omega)
      refine ⟨by omega, fun h => by omega⟩
  have hm : x % 128 * 128 ^ i < 18446744073709551616 := by omega
  have e3 : ((x % 128 : Nat) : Int) * 2 ^ (7 * i) = ((x % 128 * 128 ^ i : Nat) : Int) := by
    rw [Int.natCast_mul, ← pow_two, Int.natCast_pow]; rfl
  have e4 : IntKind.u64.wrap ((x % 128 * 128 ^ i : Nat) : Int) = ((x % 128 * 128 ^ i : Nat) : Int) := by rw [IntKind.wrap_u64]; omega
  refine ⟨?_, hs⟩
  rw [e1, e2, e3, e4, u64_or_nat _ _ (by omega) hm, Nat.or_comm]
  congr 1
  rw [nat_join (7 * i) (x % 128 * 128 ^ i) z (by rw [pow_two]; exact Nat.mul_mod_left _ _) (by rw [pow_two]; exact hz), Nat.add_comm]

set_option maxRecDepth 100000 in
set_option maxHeartbeats 8000000 in
theorem getVar_any (A : Option Addr) (n c : Nat) (bs : List UInt8) (k : Int) (w : World) (hl : Sl u8K w A n c bs) :
    Calls Try.prog 56 #[.slice A n c, .int .i64 k] w fun e w' => e = .returned (.tuple #[.int .i64 (varV bs k).1, .int .i64 (varV bs k).2.1, .int .i64 (varV bs k).2.2]) ∧ w' = w := by
  by_cases hk : k < 0
  · have d : decide (k < 0) = true := decide_eq_true hk
    have HV : Hid (varV bs k = (0, 0, 1)) := Lib.hid (if_pos hk)
    clear hl
    go_enter Try.func56, Try.ntmps56
    go_wp2_with fail
    refine bodyPost_ret (v := .tuple #[.int .i64 0, .int .i64 0, .int .i64 1]) (by simp [results, Try.results56, go_sem]) rfl ?_
    exact ⟨by rw [HV.out], rfl⟩
  · obtain ⟨k, rfl⟩ : ∃ m : Nat, k = m := ⟨k.toNat, by omega⟩
    have HV : Hid (varV bs k = unV k (getZ (bs.drop k) 0 0)) := Lib.hid (by unfold varV; rw [if_neg hk, Int.toNat_natCast])
    have d : decide ((k : Int) < 0) = false := decide_eq_false hk
    have FR := Lib.hid (from_any A n c bs k w hl)
    have hmax := hl.max
    have hcap := hl.cap
    have HN := Lib.hid hl.len
    obtain ⟨N, hN⟩ : ∃ N, n - min k n = N := ⟨_, rfl⟩
    obtain ⟨C, hC⟩ : ∃ C, c - min k n = C := ⟨_, rfl⟩
    obtain ⟨R, hR⟩ : ∃ R, bs.drop k = R := ⟨_, rfl⟩
    rw [hN, hC, hR] at FR
    rw [hR] at HV
    have KN := Lib.hid (show ∀ i, i < N → k + i < n from fun i hi => by omega)
    have NM : N ≤ 9223372036854775807 := by omega
    clear hl hN hC hR hk
    go_enter Try.func56, Try.ntmps56
    go_wp2_with (refine FR.out.mono ?_; rintro e w1 ⟨A', rfl, hS, rfl⟩; have HS := Lib.hid hS; clear hS)
    go_loopg [7, 16] N (fun kx s7 s16 wr => ∃ (i : Nat) (z : Nat), i ≤ N ∧ N - i ≤ kx ∧ i ≤ 9 ∧ s16 = .int .i64 i ∧ s7 = .int .u64 z ∧ wr = w1 ∧ Hid (z < 128 ^ i ∧ getZ (R.drop i) i z = getZ R 0 0))
    case atStart => exact ⟨0, 0, Nat.zero_le _, by omega, by omega, rfl, rfl, rfl, Lib.hid ⟨by omega, by rw [List.drop_zero]⟩⟩
    case round =>
      obtain ⟨i, z, hiN, hgg, hi9, rfl, rfl, rfl, I⟩ := hrel
      by_cases hlt : i < N
      · obtain ⟨b, off, hkl, rfl, hbl, hc⟩ := HS.out.get hlt
        obtain ⟨x, hx⟩ : ∃ x, R[i] = x := ⟨_, rfl⟩
        have x0 : wr.cell? ⟨b, off + i, none⟩ = some (.int .u8 x.toNat) := by have := hc 0 (by decide); simpa [u8K, byteV, hx] using this
        have GZ := Lib.hid (show getZ R 0 0 = if (i = 9 ∧ 1 < x.toNat) ∨ (0 < i ∧ x.toNat = 0) then (0, 0, 11) else if x.toNat < 128 then (z + x.toNat * 128 ^ i, i + 1, 0) else getZ (R.drop (i + 1)) (i + 1) (z + (x.toNat - 128) * 128 ^ i) from by
          rw [← I.out.2, List.drop_eq_getElem_cons hkl, hx]; rfl)
        have XL : Hid (x.toNat < 256) := Lib.hid x.toNat_lt
        have xn : x.toNat < 256 := XL.out
        generalize x.toNat = x at *
        clear hc hx hkl
        by_cases hb1 : i = 9 ∧ 1 < x
        · rw [if_pos (Or.inl hb1)] at GZ
          obtain ⟨rfl, hx1⟩ := hb1
          have HR := Lib.hid (show varV bs k = (0, 0, 11) from by rw [HV.out, GZ.out]; unfold unV; exact if_neg (by decide))
          go_wp2_with fail
          refine bodyPost_ret (v := .tuple #[.int .i64 0, .int .i64 0, .int .i64 11]) (by simp [results, Try.results56, go_sem]) rfl ?_
          exact ⟨by rw [HR.out], rfl⟩
        · by_cases hb2 : 0 < i ∧ x = 0
          · rw [if_pos (Or.inr hb2)] at GZ
            obtain ⟨hi0, rfl⟩ := hb2
            clear hb1
            have HR := Lib.hid (show varV bs k = (0, 0, 11) from by rw [HV.out, GZ.out]; unfold unV; exact if_neg (by decide))
            go_wp2_with fail
            all_goals (refine bodyPost_ret (v := .tuple #[.int .i64 0, .int .i64 0, .int .i64 11]) (by simp [results, Try.results56, go_sem]) rfl ?_; exact ⟨by rw [HR.out], rfl⟩)
          · rw [if_neg (fun h => h.elim hb1 hb2)] at GZ
            obtain ⟨o1, o2, o3⟩ := or_more z i x I.out.1 XL.out hi9 (fun h => by omega)
            have OM := Lib.hid o1
            have OS := Lib.hid o2
            have OP := Lib.hid o3
            clear o1 o2 o3
            have c1 : ¬ (i = 9) ∨ ¬ (1 < x) := by omega
            have c2 : ¬ (0 < i) ∨ ¬ (x = 0) := by omega
            have e9 : ((i : Int) == 9) = decide (i = 9) := by rw [Bool.eq_iff_iff]; simp; omega
            have e0 : ((x : Int) == 0) = decide (x = 0) := by rw [Bool.eq_iff_iff]; simp
            by_cases hx : x < 128
            · rw [if_pos hx] at GZ
              have xm : x % 128 = x := by omega
              have HR := Lib.hid (show varV bs k = (unzig (z + x * 128 ^ i), (k : Int) + ((i + 1 : Nat) : Int), 0) from by rw [HV.out, GZ.out]; unfold unV; exact if_pos rfl)
              have UW := Lib.hid (unzig_walk _ OS.out)
              rw [xm] at UW OM OS
              obtain ⟨Z, hZ⟩ : ∃ Z, z + x * 128 ^ i = Z := ⟨_, rfl⟩
              rw [hZ] at UW OM HR
              have KI := Lib.hid (KN.out i hlt)
              have W2 := Lib.hid (wrap_next k i (Nat.le_trans KI.out (Nat.le_trans hcap hmax)))
              obtain ⟨E, hE⟩ : ∃ E, (k : Int) + ((i + 1 : Nat) : Int) = E := ⟨_, rfl⟩
              rw [hE] at W2 HR
              obtain ⟨V, hV⟩ : ∃ V, unzig Z = V := ⟨_, rfl⟩
              rw [hV] at UW HR
              clear hb1 hb2 e9 e0 hZ hE hV
              by_cases h9 : i = 9
              · subst h9
                rw [show (2 : Int) ^ (7 * 9) = 9223372036854775808 from by decide] at OM
                rw [show ((9 : Nat) : Int) = 9 from rfl] at W2
                have nx : ¬ (1 < x) := by omega
                have nx2 : decide ((1 : Int) < (x : Int)) = false := decide_eq_false (by omega)
                clear c1
                go_wp2_with fail
                all_goals (refine bodyPost_ret (v := .tuple #[.int .i64 V, .int .i64 E, .int .i64 0]) (by simp only [results, Try.results56]; simp [go_sem, OM.out, UW.out, W2.out]) rfl ?_; exact ⟨by rw [HR.out], rfl⟩)
              · clear c1
                go_wp2_with fail
                all_goals (refine bodyPost_ret (v := .tuple #[.int .i64 V, .int .i64 E, .int .i64 0]) (by simp only [results, Try.results56]; simp [go_sem, OM.out, UW.out, W2.out]) rfl ?_; exact ⟨by rw [HR.out], rfl⟩)
            · rw [if_neg hx] at GZ
              clear hb1 hb2 e9 e0
              go_wp2_with fail
              all_goals (
                go_roundg (N - (i + 1))
                case measure => omega
                case rel =>
                  refine ⟨i + 1, z + x % 128 * 128 ^ i, by omega, by omega, by omega, by go_num, by rw [OM.out], rfl, Lib.hid ⟨OP.out (by omega), ?_⟩⟩
                  rw [GZ.out, show x % 128 = x - 128 by have := XL.out; omega])
      · obtain rfl : i = N := by omega
        have HR := Lib.hid (show varV bs k = (0, 0, 10) from by
          rw [HV.out, ← I.out.2, List.drop_eq_nil_of_le (Nat.le_of_eq HS.out.len)]
          show unV k (0, 0, 10) = _
          unfold unV
          exact if_neg (by decide))
        go_wp2_with fail
        refine bodyPost_ret (v := .tuple #[.int .i64 0, .int .i64 0, .int .i64 10]) (by simp [results, Try.results56, go_sem]) rfl ?_
        exact ⟨by rw [HR.out], rfl⟩

end Go.Proofs.Ytnkjkgakbgjddaa
