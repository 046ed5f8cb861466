/- What the chapter's laws ask, of plain lists: a position's bytes. -/
import Derived.Test.YtnkjkgakbgjddaaOffP
namespace Go.Proofs.Ytnkjkgakbgjddaa
open Go.RowKit

theorem varZ_pos (z : Nat) : 0 < (varZ z).length := by
  by_cases h : z < 128
  · rw [varZ_lt h]; simp
  · rw [varZ_ge h]; simp
theorem unzig_two (n : Nat) : unzig (2 * n) = (n : Int) := by
  unfold unzig; rw [if_neg (by omega), show 2 * n / 2 = n by omega]
theorem unzig_pos {z : Nat} (h : 0 ≤ unzig z) : z = 2 * (unzig z).toNat := by
  unfold unzig at h ⊢
  split
  · rename_i k; rw [if_pos k] at h; omega
  · simp only [Int.toNat_natCast]; omega
/-- A number that is read from a place on. -/
theorem var_at {bs : List UInt8} {i n : Nat} {tail : List UInt8} (h : bs.drop i = varZ (2 * n) ++ tail) (hn : 2 * n < 2 ^ 64) : varV bs i = ((n : Int), (i : Int) + ((varZ (2 * n)).length : Int), 0) := by
  unfold varV
  rw [if_neg (by omega), Int.toNat_natCast, h, get_var tail 10 0 (2 * n) 0 rfl hn (by omega)]
  unfold unV
  simp only [Nat.zero_add, Nat.pow_zero, Nat.mul_one, if_true]
  rw [unzig_two]
theorem var_ok {bs : List UInt8} {i : Nat} {v j : Int} (hi : i ≤ bs.length) (h : varV bs i = (v, j, 0)) : ∃ k : Nat, j = ((i + k : Nat) : Int) ∧ i + k ≤ bs.length ∧ (0 ≤ v → k = (varZ (2 * v.toNat)).length ∧ (bs.drop i).take k = varZ (2 * v.toNat)) := by
  unfold varV at h
  rw [if_neg (by omega), Int.toNat_natCast] at h
  obtain ⟨z, k, e, hg⟩ : ∃ z k e, getZ (bs.drop i) 0 0 = (z, k, e) := ⟨_, _, _, rfl⟩
  rw [hg] at h
  unfold unV at h
  simp only at h
  split at h
  · rename_i h0
    subst h0
    simp only [Prod.mk.injEq, and_true] at h
    obtain ⟨rfl, rfl⟩ := h
    obtain ⟨y, hy, hk, ht, hle, _, _⟩ := var_get _ _ _ _ _ hg
    simp only [Nat.zero_add, Nat.pow_zero, Nat.mul_one] at hy hk
    subst hy
    rw [List.length_drop] at hle
    refine ⟨k, by omega, by omega, fun hv => ?_⟩
    rw [← unzig_pos hv, hk]
    exact ⟨rfl, ht⟩
  · simp only [Prod.mk.injEq] at h
    rename_i h0
    exact absurd h.2.2 h0
theorem putT_len (s : ByteArray) : (putT s).length = (varZ (2 * s.size)).length + s.size := by
  unfold putT; rw [List.length_append]; rfl
/-- A text that is read from a place on. -/
theorem text_at {bs : List UInt8} {i : Nat} {s : ByteArray} {tail : List UInt8} (hi : i ≤ bs.length) (h : bs.drop i = putT s ++ tail) (hs : s.size ≤ 64) : textV bs i = (s, ((i + (putT s).length : Nat) : Int), 0) := by
  have hv : varV bs i = ((s.size : Int), (i : Int) + ((varZ (2 * s.size)).length : Int), 0) := var_at (tail := s.data.toList ++ tail) (by rw [h]; unfold putT; rw [List.append_assoc]) (by omega)
  have hlen : bs.length - i = (putT s).length + tail.length := by rw [← List.length_drop, h, List.length_append]
  have hpl := putT_len s
  unfold textV
  rw [hv]
  simp only [if_true]
  rw [if_neg (by omega), if_neg (by omega), if_neg (by omega)]
  have e1 : ((i : Int) + ((varZ (2 * s.size)).length : Int)).toNat = i + (varZ (2 * s.size)).length := by omega
  have hc : cutV bs (i + (varZ (2 * s.size)).length) s.size = s := by
    unfold cutV
    rw [← List.drop_drop, h]
    unfold putT
    rw [List.append_assoc, List.drop_left, List.take_left' (by rfl)]
  rw [e1, Int.toNat_natCast, hc]
  congr 2
  omega
theorem text_ok {bs : List UInt8} {i : Nat} {s : ByteArray} {j : Int} (hi : i ≤ bs.length) (h : textV bs i = (s, j, 0)) : j = ((i + (putT s).length : Nat) : Int) ∧ i + (putT s).length ≤ bs.length ∧ (bs.drop i).take (putT s).length = putT s := by
  unfold textV at h
  split at h
  · rename_i h0
    obtain ⟨v, m, e, hv⟩ : ∃ v m e, varV bs i = (v, m, e) := ⟨_, _, _, rfl⟩
    rw [hv] at h h0
    simp only at h h0
    subst h0
    obtain ⟨k, rfl, hk, hvk⟩ := var_ok hi hv
    split at h
    · simp at h
    · rename_i hv0
      obtain ⟨hk2, hk3⟩ := hvk (by omega)
      obtain ⟨n, rfl⟩ : ∃ n : Nat, v = n := ⟨v.toNat, by omega⟩
      rw [Int.toNat_natCast] at hk2 hk3
      split at h
      · simp at h
      · split at h
        · simp at h
        · rename_i hn hr
          simp only [Prod.mk.injEq, and_true] at h
          obtain ⟨rfl, rfl⟩ := h
          rw [Int.toNat_natCast, Int.toNat_natCast]
          have hsz : (cutV bs (i + k) n).size = n := by
            unfold cutV
            show ((bs.drop (i + k)).take n).toArray.size = n
            simp only [List.size_toArray, List.length_take, List.length_drop]; omega
          have hd : (cutV bs (i + k) n).data.toList = (bs.drop (i + k)).take n := by unfold cutV; simp
          have hl : (putT (cutV bs (i + k) n)).length = k + n := by rw [putT_len, hsz, ← hk2]
          rw [hl]
          refine ⟨by omega, by omega, ?_⟩
          unfold putT
          rw [hsz, hd, ← hk3, List.take_add, List.drop_drop]
  · rename_i h0
    simp only [Prod.mk.injEq] at h
    exact absurd h.2.2 h0

theorem right_parts {x : Ps} (h : rightP x = true) : x.g.size ≤ 64 ∧ x.t.size ≤ 64 ∧ 0 ≤ x.p ∧ x.p ≤ 5 ∧ 0 ≤ x.h ∧ x.h ≤ 3 ∧ 0 ≤ x.o ∧ x.o ≤ 1099511627776 := by
  unfold rightP nameC at h
  simp only [Bool.and_eq_true, decide_eq_true_eq] at h
  obtain ⟨⟨⟨⟨⟨⟨h1, h2⟩, _⟩, ⟨⟨h3, h4⟩, _⟩⟩, h5⟩, h6⟩, h7⟩ := h
  exact ⟨h2, h4, h5.1, h5.2, h6.1, h6.2, h7.1, h7.2⟩
/-- What is saved is loaded. -/
theorem load_save {x : Ps} (hx : rightP x = true) (head tail : List UInt8) : loadV (head ++ saveB x ++ tail) head.length = (x, ((head.length + (saveB x).length : Nat) : Int), 0) := by
  obtain ⟨g, t, p, h, o⟩ := x
  obtain ⟨h1, h2, h3, h4, h5, h6, h7, h8⟩ := right_parts hx
  simp only at h1 h2 h3 h4 h5 h6 h7 h8
  obtain ⟨p, rfl⟩ : ∃ n : Nat, p = n := ⟨p.toNat, by omega⟩
  obtain ⟨h, rfl⟩ : ∃ n : Nat, h = n := ⟨h.toNat, by omega⟩
  obtain ⟨o, rfl⟩ : ∃ n : Nat, o = n := ⟨o.toNat, by omega⟩
  have e0 : saveB ⟨g, t, p, h, o⟩ = putT g ++ (putT t ++ (varZ (2 * p) ++ (varZ (2 * h) ++ varZ (2 * o)))) := by
    unfold saveB; simp only [Int.toNat_natCast, List.append_assoc]
  obtain ⟨bs, hbs⟩ : ∃ bs, bs = head ++ saveB ⟨g, t, p, h, o⟩ ++ tail := ⟨_, rfl⟩
  rw [← hbs]
  have hl : bs.length = head.length + ((putT g).length + ((putT t).length + ((varZ (2 * p)).length + ((varZ (2 * h)).length + (varZ (2 * o)).length)))) + tail.length := by
    rw [hbs, e0]; simp only [List.length_append]
  have d0 : bs.drop head.length = putT g ++ (putT t ++ (varZ (2 * p) ++ (varZ (2 * h) ++ (varZ (2 * o) ++ tail)))) := by
    rw [hbs, e0]; simp only [List.append_assoc, List.drop_left]
  have d1 : bs.drop (head.length + (putT g).length) = putT t ++ (varZ (2 * p) ++ (varZ (2 * h) ++ (varZ (2 * o) ++ tail))) := by
    rw [← List.drop_drop, d0, List.drop_left]
  have d2 : bs.drop (head.length + (putT g).length + (putT t).length) = varZ (2 * p) ++ (varZ (2 * h) ++ (varZ (2 * o) ++ tail)) := by
    rw [← List.drop_drop, d1, List.drop_left]
  have d3 : bs.drop (head.length + (putT g).length + (putT t).length + (varZ (2 * p)).length) = varZ (2 * h) ++ (varZ (2 * o) ++ tail) := by
    rw [← List.drop_drop, d2, List.drop_left]
  have d4 : bs.drop (head.length + (putT g).length + (putT t).length + (varZ (2 * p)).length + (varZ (2 * h)).length) = varZ (2 * o) ++ tail := by
    rw [← List.drop_drop, d3, List.drop_left]
  have a1 := text_at (by omega) d0 h1
  have a2 := text_at (by omega) d1 h2
  have a3 := var_at d2 (by omega)
  have a4 := var_at d3 (by omega)
  have a5 := var_at d4 (by omega)
  simp only [Int.natCast_add] at a1 a2 a3 a4 a5
  unfold loadV
  rw [if_neg (by omega)]
  simp only [a1, a2, a3, a4, a5, ne_eq, not_true_eq_false, if_false, Int.natCast_add]
  rw [if_pos hx, e0]
  simp only [List.length_append, Int.natCast_add, Prod.mk.injEq, and_true, true_and]
  omega
theorem take_parts {bs a : List UInt8} {n k : Nat} {b : List UInt8} (h1 : bs.take n = a) (h2 : (bs.drop n).take k = b) : bs.take (n + k) = a ++ b := by rw [List.take_add, h1, h2]
/-- What is loaded was saved. -/
theorem save_load {bs : List UInt8} {q : Ps} {n : Int} (h : loadV bs 0 = (q, n, 0)) : rightP q = true ∧ ∃ m : Nat, n = m ∧ m ≤ bs.length ∧ saveB q = bs.take m := by
  unfold loadV at h
  split at h
  · simp at h
  · obtain ⟨g, i, e, ha⟩ : ∃ g i e, textV bs 0 = (g, i, e) := ⟨_, _, _, rfl⟩
    simp only [ha] at h
    split at h
    · rename_i k; simp only [Prod.mk.injEq] at h; exact absurd h.2.2 k
    · rename_i k0
      obtain rfl : e = 0 := Classical.not_not.1 k0
      obtain ⟨rfl, l1, t1⟩ := text_ok (i := 0) (by omega) ha
      obtain ⟨t, i2, e, hb⟩ : ∃ g' i e, textV bs ((0 + (putT g).length : Nat) : Int) = (g', i, e) := ⟨_, _, _, rfl⟩
      simp only [hb] at h
      split at h
      · rename_i k; simp only [Prod.mk.injEq] at h; exact absurd h.2.2 k
      · rename_i k1
        obtain rfl : e = 0 := Classical.not_not.1 k1
        obtain ⟨rfl, l2, t2⟩ := text_ok (by omega) hb
        obtain ⟨p, i3, e, hc⟩ : ∃ g' i e, varV bs ((0 + (putT g).length + (putT t).length : Nat) : Int) = (g', i, e) := ⟨_, _, _, rfl⟩
        simp only [hc] at h
        split at h
        · rename_i k; simp only [Prod.mk.injEq] at h; exact absurd h.2.2 k
        · rename_i k2
          obtain rfl : e = 0 := Classical.not_not.1 k2
          obtain ⟨n3, rfl, l3, t3⟩ := var_ok (by omega) hc
          obtain ⟨hh, i4, e, hd⟩ : ∃ g' i e, varV bs ((0 + (putT g).length + (putT t).length + n3 : Nat) : Int) = (g', i, e) := ⟨_, _, _, rfl⟩
          simp only [hd] at h
          split at h
          · rename_i k; simp only [Prod.mk.injEq] at h; exact absurd h.2.2 k
          · rename_i k3
            obtain rfl : e = 0 := Classical.not_not.1 k3
            obtain ⟨n4, rfl, l4, t4⟩ := var_ok (by omega) hd
            obtain ⟨o, i5, e, he⟩ : ∃ g' i e, varV bs ((0 + (putT g).length + (putT t).length + n3 + n4 : Nat) : Int) = (g', i, e) := ⟨_, _, _, rfl⟩
            simp only [he] at h
            split at h
            · rename_i k; simp only [Prod.mk.injEq] at h; exact absurd h.2.2 k
            · rename_i k4
              obtain rfl : e = 0 := Classical.not_not.1 k4
              obtain ⟨n5, rfl, l5, t5⟩ := var_ok (by omega) he
              split at h
              · rename_i hr
                simp only [Prod.mk.injEq, and_true] at h
                obtain ⟨rfl, rfl⟩ := h
                obtain ⟨_, _, h3, _, h5, _, h7, _⟩ := right_parts hr
                simp only at h3 h5 h7
                refine ⟨hr, _, rfl, l5, ?_⟩
                have z0 := take_parts (k := (putT g).length) (List.take_zero (l := bs)) t1
                have z1 := take_parts z0 t2
                have z2 := take_parts z1 (t3 h3).2
                have z3 := take_parts z2 (t4 h5).2
                have z4 := take_parts z3 (t5 h7).2
                rw [z4]
                unfold saveB
                simp only [List.nil_append]
              · simp at h

end Go.Proofs.Ytnkjkgakbgjddaa
