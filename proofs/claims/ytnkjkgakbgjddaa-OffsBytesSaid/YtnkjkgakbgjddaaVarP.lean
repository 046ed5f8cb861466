/- Numbers as bytes, and bytes as numbers; texts; positions: of no function. -/
import Derived.Test.YtnkjkgakbgjddaaPsn
namespace Go.Proofs.Ytnkjkgakbgjddaa
open Go.RowKit

/-- A number's bytes, seven bits each, the least first. -/
def varZ (z : Nat) : List UInt8 := if z < 128 then [UInt8.ofNat z] else UInt8.ofNat (128 + z % 128) :: varZ (z / 128)
termination_by z
decreasing_by omega
theorem varZ_lt {z : Nat} (h : z < 128) : varZ z = [UInt8.ofNat z] := by rw [varZ]; exact if_pos h
theorem varZ_ge {z : Nat} (h : ¬ z < 128) : varZ z = UInt8.ofNat (128 + z % 128) :: varZ (z / 128) := by rw [varZ]; exact if_neg h
/-- The number that bytes begin with: (number, how many bytes, code); i bytes were read ahead of them, that make up acc. -/
def getZ : List UInt8 → Nat → Nat → Nat × Nat × Int
  | [], _, _ => (0, 0, 10)
  | x :: l, i, acc => if (i = 9 ∧ 1 < x.toNat) ∨ (0 < i ∧ x.toNat = 0) then (0, 0, 11) else if x.toNat < 128 then (acc + x.toNat * 128 ^ i, i + 1, 0) else getZ l (i + 1) (acc + (x.toNat - 128) * 128 ^ i)
def unzig (z : Nat) : Int := if z % 2 = 1 then - (z / 2 : Nat) - 1 else (z / 2 : Nat)

/-- What was written is read. -/
theorem get_var (tail : List UInt8) : ∀ (k i z acc : Nat), i + k = 10 → z < 2 ^ (7 * k - 6) → (0 < i → 0 < z) → getZ (varZ z ++ tail) i acc = (acc + z * 128 ^ i, i + (varZ z).length, 0)
  | 0, i, z, acc, _, hz, h0 => by
    simp at hz
    subst hz
    have := h0 (by omega)
    omega
  | k + 1, i, z, acc, hi, hz, h0 => by
    have hb : ∀ m, m < 256 → (UInt8.ofNat m).toNat = m := fun m hm => by rw [UInt8.toNat_ofNat']; omega
    by_cases h : z < 128
    · rw [varZ_lt h]
      simp only [List.cons_append, List.nil_append, getZ, List.length_singleton]
      rw [hb z (by omega), if_neg, if_pos h]
      rintro (⟨h1, h2⟩ | ⟨h1, h2⟩)
      · obtain rfl : k = 0 := by omega
        simp at hz; omega
      · have := h0 h1; omega
    · rw [varZ_ge h]
      have hk : k ≠ 0 := by
        rintro rfl
        simp at hz; omega
      simp only [List.cons_append, getZ, List.length_cons]
      rw [hb (128 + z % 128) (by omega), if_neg (by omega), if_neg (by omega), get_var tail k (i + 1) (z / 128) _ (by omega) ?_ (by omega)]
      · have e1 : acc + (128 + z % 128 - 128) * 128 ^ i + z / 128 * 128 ^ (i + 1) = acc + z * 128 ^ i := by
          have e2 : z / 128 * 128 ^ (i + 1) = (z / 128 * 128) * 128 ^ i := by rw [Nat.pow_succ, Nat.mul_comm (128 ^ i), Nat.mul_assoc]
          have e3 : 128 + z % 128 - 128 + z / 128 * 128 = z := by omega
          rw [e2, Nat.add_assoc, ← Nat.add_mul, e3]
        have e4 : i + 1 + (varZ (z / 128)).length = i + ((varZ (z / 128)).length + 1) := by omega
        rw [e1, e4]
      · obtain ⟨k, rfl⟩ : ∃ j, k = j + 1 := ⟨k - 1, by omega⟩
        have e : 2 ^ (7 * (k + 1 + 1) - 6) = 2 ^ (7 * (k + 1) - 6) * 128 := by
          rw [show 7 * (k + 1 + 1) - 6 = (7 * (k + 1) - 6) + 7 by omega, Nat.pow_add]
        rw [e] at hz
        exact Nat.div_lt_of_lt_mul (by rw [Nat.mul_comm]; exact hz)
/-- What is read was written. -/
theorem var_get : ∀ (l : List UInt8) (i acc z k : Nat), getZ l i acc = (z, k, 0) → ∃ y, z = acc + y * 128 ^ i ∧ k = i + (varZ y).length ∧ l.take (varZ y).length = varZ y ∧ (varZ y).length ≤ l.length ∧ (0 < i → 0 < y) ∧ (i ≤ 9 → y < 2 ^ (64 - 7 * i))
  | [], i, acc, z, k, h => by simp [getZ] at h
  | x :: l, i, acc, z, k, h => by
    have hx : x.toNat < 256 := x.toNat_lt
    have hb : ∀ m, m = x.toNat → UInt8.ofNat m = x := fun m hm => by subst hm; exact UInt8.ofNat_toNat
    unfold getZ at h
    split at h
    · simp at h
    · rename_i hn
      split at h
      · rename_i hl
        simp only [Prod.mk.injEq] at h
        obtain ⟨rfl, rfl, _⟩ := h
        refine ⟨x.toNat, rfl, ?_, ?_, ?_, by omega, fun h9 => ?_⟩
        · rw [varZ_lt hl]; rfl
        · rw [varZ_lt hl, hb _ rfl]; rfl
        · rw [varZ_lt hl]; simp
        · by_cases e : i = 9
          · subst e; have : x.toNat < 2 := by omega
            simpa using this
          · have : 2 ^ 7 ≤ 2 ^ (64 - 7 * i) := Nat.pow_le_pow_right (by omega) (by omega)
            omega
      · rename_i hl
        obtain ⟨y, hz, hk, ht, hle, hp, hq⟩ := var_get l (i + 1) _ z k h
        have hy : 0 < y := hp (by omega)
        have hlt : ¬ (x.toNat - 128 + 128 * y) < 128 := by omega
        have e1 : (x.toNat - 128 + 128 * y) / 128 = y := by omega
        have e2 : 128 + (x.toNat - 128 + 128 * y) % 128 = x.toNat := by omega
        refine ⟨x.toNat - 128 + 128 * y, ?_, ?_, ?_, ?_, by omega, fun h9 => ?_⟩
        · rw [hz, Nat.add_mul, Nat.pow_succ, Nat.add_assoc]
          congr 2
          rw [Nat.mul_comm 128 y, Nat.mul_assoc, Nat.mul_comm (128 ^ i)]
        · rw [hk, varZ_ge hlt, e1, List.length_cons]; omega
        · rw [varZ_ge hlt, e1, e2, hb _ rfl, List.length_cons, List.take_succ_cons, ht]
        · rw [varZ_ge hlt, e1, List.length_cons, List.length_cons]; omega
        · by_cases e : i = 9
          · exact absurd (.inl ⟨e, by omega⟩) hn
          · have h1 := hq (by omega)
            have e3 : 2 ^ (64 - 7 * i) = 2 ^ (64 - 7 * (i + 1)) * 128 := by
              rw [show 64 - 7 * i = (64 - 7 * (i + 1)) + 7 by omega, Nat.pow_add]
            rw [e3]
            omega

end Go.Proofs.Ytnkjkgakbgjddaa
