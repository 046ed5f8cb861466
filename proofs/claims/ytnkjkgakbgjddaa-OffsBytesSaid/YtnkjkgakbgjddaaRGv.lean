/- Layer 1's document: GetVar. -/
import Derived.Test.YtnkjkgakbgjddaaGv
import Derived.Deep.DeepCutAuto
namespace Go.Proofs.Ytnkjkgakbgjddaa
open Go.RowKit

theorem more_u (z i x u : Nat) (hu : u = 128 ^ i) (hz : z < 128 ^ i) (hx : x < 256) (hi : i ≤ 9) (h9 : i = 9 → x ≤ 1) :
    IntKind.u64.wrap ((z : Int) + IntKind.u64.wrap ((u : Int) * ((x : Int) % 128))) = ((z + x % 128 * 128 ^ i : Nat) : Int) := by
  obtain ⟨_, h1, _⟩ := or_more z i x hz hx hi h9
  have e : (u : Int) * ((x : Int) % 128) = ((x % 128 * 128 ^ i : Nat) : Int) := by rw [hu, Int.natCast_mul, Int.mul_comm]; rfl
  rw [e, IntKind.wrap_u64, IntKind.wrap_u64]
  omega

set_option maxRecDepth 100000 in
set_option maxHeartbeats 8000000 in
theorem rgetVar_any (A : Option Addr) (n c : Nat) (bs : List UInt8) (k : Int) (w : World) (hl : Sl u8K w A n c bs) :
    Calls Try.prog 58 #[.slice A n c, .int .i64 k] w fun e w' => e = .returned (.tuple #[.int .i64 (varV bs k).1, .int .i64 (varV bs k).2.1, .int .i64 (varV bs k).2.2]) ∧ w' = w := by
  by_cases hk : k < 0
  · have d : decide (k < 0) = true := decide_eq_true hk
    have HV : Hid (varV bs k = (0, 0, 1)) := Lib.hid (if_pos hk)
    clear hl
    go_enter Try.func58, Try.ntmps58
    go_wp2_with fail
    refine bodyPost_ret (v := .tuple #[.int .i64 0, .int .i64 0, .int .i64 1]) (by simp [results, Try.results58, go_sem]) rfl ?_
    exact ⟨by rw [HV.out], rfl⟩
  · obtain ⟨k, rfl⟩ : ∃ m : Nat, k = m := ⟨k.toNat, by omega⟩
    have HV : Hid (varV bs k = unV k (getZ (bs.drop k) 0 0)) := Lib.hid (by unfold varV; rw [if_neg hk, Int.toNat_natCast])
    have d : decide ((k : Int) < 0) = false := decide_eq_false hk
    have hmax := hl.max
    have hcap := hl.cap
    have HN := Lib.hid hl.len
    have HL := Lib.hid hl
    clear hl hk
    go_enter Try.func58, Try.ntmps58
    go_wp2_with fail
    go_loopg [7, 8, 9] 10 (fun kx s7 s8 s9 wr => ∃ (i : Nat) (z : Nat) (u : Nat), i ≤ 9 ∧ 10 - i ≤ kx ∧ s7 = .int .u64 z ∧ s8 = .int .u64 u ∧ s9 = .int .i64 i ∧ wr = w ∧ Hid (u = 128 ^ i) ∧ (i = 0 ∨ k + i ≤ n) ∧ Hid (z < 128 ^ i ∧ getZ (bs.drop (k + i)) i z = getZ (bs.drop k) 0 0))
    case atStart => exact ⟨0, 0, 1, by omega, by omega, rfl, rfl, rfl, rfl, Lib.hid rfl, .inl rfl, Lib.hid ⟨by omega, by rw [Nat.add_zero]⟩⟩
    case round =>
      obtain ⟨i, z, u, hi9, hgg, rfl, rfl, rfl, rfl, hu, hki, I⟩ := hrel
      by_cases hlt : k + i < n
      · obtain ⟨b, off, hkl, rfl, hbl, hc⟩ := HL.out.get hlt
        obtain ⟨x, hx⟩ : ∃ x, bs[k + i] = x := ⟨_, rfl⟩
        have x0 : wr.cell? ⟨b, off + (k + i), none⟩ = some (.int .u8 x.toNat) := by have := hc 0 (by decide); simpa [u8K, byteV, hx] using this
        have GZ := Lib.hid (show getZ (bs.drop k) 0 0 = if (i = 9 ∧ 1 < x.toNat) ∨ (0 < i ∧ x.toNat = 0) then (0, 0, 11) else if x.toNat < 128 then (z + x.toNat * 128 ^ i, i + 1, 0) else getZ (bs.drop (k + (i + 1))) (i + 1) (z + (x.toNat - 128) * 128 ^ i) from by
          rw [← I.out.2, List.drop_eq_getElem_cons hkl, hx]; rfl)
        have XL : Hid (x.toNat < 256) := Lib.hid x.toNat_lt
        have xn : x.toNat < 256 := XL.out
        generalize x.toNat = x at *
        clear hc hx hkl
        have mw : wrap64 ((k : Int) + (i : Int)) = (k : Int) + (i : Int) := IntWalk.wrap64_in _ (by omega)
        have mw2 : IntKind.i64.wrap ((k : Int) + (i : Int)) = (k : Int) + (i : Int) := IntWalk.i64_in _ (by omega)
        have m0 : (0 : Int) ≤ (k : Int) + (i : Int) := by omega
        have m1 : (k : Int) + (i : Int) < (n : Int) := by omega
        have mt : ((k : Int) + (i : Int)).toNat = k + i := by omega
        have m2 : decide ((n : Int) ≤ (k : Int)) = false := decide_eq_false (by omega)
        have m3 : decide ((n : Int) - (k : Int) ≤ (i : Int)) = false := decide_eq_false (by omega)
        have m4 : decide (n ≤ k) = false := decide_eq_false (by omega)
        have px : (u : Nat) ≤ 9223372036854775808 := by
          have := Nat.pow_le_pow_right (n := 128) (by omega) hi9
          rw [hu.out]; simpa using this
        by_cases hb : (i = 9 ∧ 1 < x) ∨ (0 < i ∧ x = 0)
        · rw [if_pos hb] at GZ
          have HR := Lib.hid (show varV bs k = (0, 0, 11) from by rw [HV.out, GZ.out]; unfold unV; exact if_neg (by decide))
          clear hu I GZ px
          rcases hb with ⟨rfl, hx1⟩ | ⟨hi0, rfl⟩
          · have d9 : decide ((1 : Int) < (x : Int)) = true := decide_eq_true (by omega)
            go_wp2_with fail
            all_goals (refine bodyPost_ret (v := .tuple #[.int .i64 0, .int .i64 0, .int .i64 11]) (by simp [results, Try.results58, go_sem]) rfl ?_; exact ⟨by rw [HR.out], rfl⟩)
          · go_wp2_with fail
            all_goals (refine bodyPost_ret (v := .tuple #[.int .i64 0, .int .i64 0, .int .i64 11]) (by simp [results, Try.results58, go_sem]) rfl ?_; exact ⟨by rw [HR.out], rfl⟩)
        · rw [if_neg hb] at GZ
          have OM := more_u z i x u hu.out I.out.1 XL.out hi9 (fun h => by omega)
          obtain ⟨_, o2, o3⟩ := or_more z i x I.out.1 XL.out hi9 (fun h => by omega)
          have OP := Lib.hid o3
          clear o3
          have c1 : ¬ (i = 9) ∨ ¬ (1 < x) := by omega
          have c2 : ¬ (0 < i) ∨ ¬ (x = 0) := by omega
          have e9 : ((i : Int) == 9) = decide (i = 9) := by rw [Bool.eq_iff_iff]; simp; omega
          have e0 : ((x : Int) == 0) = decide (x = 0) := by rw [Bool.eq_iff_iff]; simp
          by_cases hx : x < 128
          · rw [if_pos hx] at GZ
            have xm : x % 128 = x := by omega
            rw [xm] at OM o2
            obtain ⟨Z, hZ⟩ : ∃ Z, z + x * 128 ^ i = Z := ⟨_, rfl⟩
            have HR := Lib.hid (show varV bs k = (unzig Z, (k : Int) + ((i + 1 : Nat) : Int), 0) from by rw [HV.out, GZ.out, hZ]; unfold unV; exact if_pos rfl)
            rw [hZ] at OM o2
            have OM2 : IntKind.u64.wrap ((z : Int) + IntKind.u64.wrap ((u : Int) * (x : Int))) = (Z : Int) := by rw [← OM, show (x : Int) % 128 = (x : Int) by omega]
            clear xm
            have xl : decide ((x : Int) < 128) = true := decide_eq_true (by omega)
            have wk : wrap64 ((k : Int) + (i : Int) + 1) = (k : Int) + (i : Int) + 1 := IntWalk.wrap64_in _ (by omega)
            have wz : wrap64 ((Z : Int) / 2) = (Z : Int) / 2 := IntWalk.wrap64_in _ (by omega)
            clear GZ hZ hb hu I px
            have HO2 := Lib.hid o2
            have HOM := Lib.hid OM
            clear o2 OM OM2 wk
            obtain ⟨E, hE⟩ : ∃ E, (k : Int) + ((i + 1 : Nat) : Int) = E := ⟨_, rfl⟩
            rw [hE] at HR
            have HE := Lib.hid hE
            clear hE
            go_upto_region 14 with (fail)
            all_goals (
              rw [HOM.out]
              generalize IntKind.u64.wrap ((u : Int) * 128) = uu
              have o2 := HO2.out
              clear c1 c2 e9 e0 mw mw2 xl hki
              by_cases hp : Z % 2 = 1
              · have z1 : decide ((Z : Int) % 2 = 1) = true := decide_eq_true (by omega)
                have z2 : ((Z : Int) % 2 == 1) = true := by rw [beq_iff_eq]; omega
                have UV := Lib.hid (show unzig Z = - ((Z / 2 : Nat) : Int) - 1 by unfold unzig; rw [if_pos hp])
                clear hp
                go_wp2_with fail
                all_goals (refine bodyPost_ret (v := .tuple #[.int .i64 (unzig Z), .int .i64 E, .int .i64 0]) (by rw [UV.out]; simp [results, Try.results58, go_sem]; have := HE.out; omega) rfl ?_; exact ⟨by rw [HR.out], rfl⟩)
              · have z1 : decide ((Z : Int) % 2 = 1) = false := decide_eq_false (by omega)
                have z2 : ((Z : Int) % 2 == 1) = false := by rw [beq_eq_false_iff_ne]; omega
                have UV := Lib.hid (show unzig Z = ((Z / 2 : Nat) : Int) by unfold unzig; rw [if_neg hp])
                clear hp
                go_wp2_with fail
                all_goals (refine bodyPost_ret (v := .tuple #[.int .i64 (unzig Z), .int .i64 E, .int .i64 0]) (by rw [UV.out]; simp [results, Try.results58, go_sem]; have := HE.out; omega) rfl ?_; exact ⟨by rw [HR.out], rfl⟩))
          · rw [if_neg hx] at GZ
            have i8 : i ≤ 8 := by omega
            have xl : decide ((x : Int) < 128) = false := decide_eq_false (by omega)
            have p8 : u ≤ 72057594037927936 := by
              have := Nat.pow_le_pow_right (n := 128) (by omega) i8
              rw [hu.out]; simpa using this
            have HO := Lib.hid OM
            clear OM hb
            go_wp2_with fail
            all_goals (
              go_roundg (10 - (i + 1))
              case measure => omega
              case rel =>
                refine ⟨i + 1, z + x % 128 * 128 ^ i, u * 128, by omega, by omega, by rw [HO.out], by first | go_num | (rw [IntKind.wrap_u64]; congr 1; omega), by go_num, rfl, Lib.hid (by rw [hu.out, Nat.pow_succ]), .inr (by omega), Lib.hid ⟨OP.out i8, ?_⟩⟩
                rw [GZ.out, show x % 128 = x - 128 by have := XL.out; omega])
      · have HR := Lib.hid (show varV bs k = (0, 0, 10) from by
          rw [HV.out, ← I.out.2, List.drop_eq_nil_of_le (by rw [HN.out]; omega)]
          show unV k (0, 0, 10) = _
          unfold unV
          exact if_neg (by decide))
        clear I hu
        by_cases hkn : n ≤ k
        · have m2 : decide ((n : Int) ≤ (k : Int)) = true := decide_eq_true (by omega)
          have m4 : decide (n ≤ k) = true := decide_eq_true (by omega)
          go_wp2_with fail
          all_goals (refine bodyPost_ret (v := .tuple #[.int .i64 0, .int .i64 0, .int .i64 10]) (by simp [results, Try.results58, go_sem]) rfl ?_; exact ⟨by rw [HR.out], rfl⟩)
        · have m2 : decide ((n : Int) ≤ (k : Int)) = false := decide_eq_false (by omega)
          have m4 : decide (n ≤ k) = false := decide_eq_false (by omega)
          have m3 : decide ((n : Int) - (k : Int) ≤ (i : Int)) = true := decide_eq_true (by omega)
          go_wp2_with fail
          all_goals (refine bodyPost_ret (v := .tuple #[.int .i64 0, .int .i64 0, .int .i64 10]) (by simp [results, Try.results58, go_sem]) rfl ?_; exact ⟨by rw [HR.out], rfl⟩)
end Go.Proofs.Ytnkjkgakbgjddaa
