/- Get. -/
import Derived.Test.YtnkjkgakbgjddaaPut
import Derived.Laws.StructEq
namespace Go.Proofs.Ytnkjkgakbgjddaa
open Go.RowKit

/-- How tests of texts and numbers are spelled. -/
theorem str_nes {a b : ByteArray} (h : a ≠ b) : (a.toList == b.toList) = false ∧ decide (a = b) = false ∧ decide (a.toList = b.toList) = false := ⟨str_ne h, decide_eq_false h, decide_eq_false (str_ne' h)⟩
theorem int_ne {a b : Int} (h : a ≠ b) : (a == b) = false ∧ decide (a = b) = false := ⟨beq_eq_false_iff_ne.2 h, decide_eq_false h⟩

set_option maxRecDepth 100000 in
set_option maxHeartbeats 8000000 in
theorem get_any (o : Of) (s t : ByteArray) (p h : Int) (w : World) (ho : Of.At w o) : Calls Try.prog 23 #[o.v, .string s, .agg #[.string t, .int .i64 p, .int .i64 h]] w fun e w' => e = .returned (.tuple #[.int .i64 (getV o.L s t p h).1, .bool (getV o.L s t p h).2]) ∧ Below w.heap.size w w' := by
  obtain ⟨A, n, c, L, A', n', c', M⟩ := o
  obtain ⟨W0, hW0⟩ : ∃ W0, W0 = (w.alloc (.cells #[.slice A n c, .slice A' n' c'] 25)).alloc (.cells #[.string t, .int .i64 p, .int .i64 h] 27) := ⟨_, rfl⟩
  have B0 := Lib.hid (show Below w.heap.size w W0 from by rw [hW0]; exact (below_alloc1 w _).alloc (by simp) _)
  have T0 := Lib.hid (show Has W0 (w.heap.size + 1) #[.string t, .int .i64 p, .int .i64 h] from by rw [hW0]; exact Has.newAt _ _ 27 (by simp))
  have HW0 := Lib.hid hW0
  have HL := Lib.hid (show Sl psK w A n c L from ho.1)
  have LN := Lib.hid (show L.length = n from ho.1.len)
  have l1 : c ≤ _ := ho.1.max
  have l2 : n ≤ c := ho.1.cap
  clear ho hW0
  obtain ⟨R, hR⟩ : ∃ R, getV L s t p h = R := ⟨_, rfl⟩
  have HR := Lib.hid hR
  simp only [hR]
  clear hR
  go_enter Try.func23, Try.ntmps23
  go_wp2_with fail
  rw [← HW0.out]
  go_loopg [13] n (fun kx s13 wr => ∃ k : Nat, k ≤ n ∧ n - k ≤ kx ∧ s13 = .int .i64 k ∧ Hid (Below w.heap.size w wr) ∧ Hid (Has wr (w.heap.size + 1) #[.string t, .int .i64 p, .int .i64 h]) ∧ Hid (∀ j (hj : j < L.length), j < k → ofPl s t p h L[j] = false))
  case atStart => exact ⟨0, Nat.zero_le _, by omega, rfl, B0, T0, Lib.hid fun j _ hj => absurd hj (Nat.not_lt_zero _)⟩
  case round =>
    obtain ⟨k, hk, hgg, rfl, hb, hT, hok⟩ := hrel
    by_cases hlt : k < n
    · obtain ⟨b, off, hkl, rfl, hbl, x0, x1, x2, x3, x4⟩ := Pss.at_ (HL.out.below hb.out) hlt
      obtain ⟨x, hx⟩ : ∃ x, L[k] = x := ⟨_, rfl⟩
      rw [hx] at x0 x1 x2 x3 x4
      have NX := Lib.hid (show ofPl s t p h x = false → Hid (∀ j (hj : j < L.length), j < k + 1 → ofPl s t p h L[j] = false) from fun hn => Lib.hid fun j hj hjk => by
        rcases Nat.lt_or_ge j k with h' | h'
        · exact hok.out j hj h'
        · obtain rfl : j = k := by omega
          rw [hx]; exact hn)
      have YES := Lib.hid (show ofPl s t p h x = true → R = (x.o, true) from fun hy => by
        rw [← HR.out]; unfold getV
        have : L.find? (ofPl s t p h) = some x := List.find?_eq_some_iff_getElem.2 ⟨hy, k, hkl, hx, fun j hj => by rw [hok.out j (by omega) hj]; rfl⟩
        rw [this]; rfl)
      have b1 := below_alloc1 wr (.cells #[.string x.g, .string x.t, .int .i64 x.p, .int .i64 x.h, .int .i64 x.o] 29)
      have W1 := Lib.hid (below_from b1 hb.out hb.out.size)
      have T1 := Lib.hid (hT.out.past b1)
      have t1c := hT.out.cell
      have t1l := hT.out.lt
      clear hx hkl b1
      by_cases h1 : x.g = s
      · subst h1
        by_cases h2 : x.t = t
        · subst h2
          by_cases h3 : x.p = p
          · subst h3
            by_cases h4 : x.h = h
            · subst h4
              have YS := YES.out (by unfold ofPl ofTp; simp)
              go_wp2_with fail
              go_ret2
              exact ⟨by rw [YS]; rfl, W1.out⟩
            · obtain ⟨d1, d2⟩ := int_ne h4
              have HH := Lib.hid h4
              clear h4
              go_wp2_with fail
              go_roundg (n - (k + 1))
              case measure => omega
              case rel => exact ⟨k + 1, by omega, by omega, by go_num, W1, T1, NX.out (by unfold ofPl ofTp; simp [HH.out])⟩
          · obtain ⟨d1, d2⟩ := int_ne h3
            have HH := Lib.hid h3
            clear h3
            go_wp2_with fail
            go_roundg (n - (k + 1))
            case measure => omega
            case rel => exact ⟨k + 1, by omega, by omega, by go_num, W1, T1, NX.out (by unfold ofPl ofTp; simp [HH.out])⟩
        · obtain ⟨d1, d2, d3⟩ := str_nes h2
          have HH := Lib.hid h2
          clear h2
          go_wp2_with fail
          go_roundg (n - (k + 1))
          case measure => omega
          case rel => exact ⟨k + 1, by omega, by omega, by go_num, W1, T1, NX.out (by unfold ofPl ofTp; simp [HH.out])⟩
      · obtain ⟨d1, d2, d3⟩ := str_nes h1
        have HH := Lib.hid h1
        clear h1
        go_wp2_with fail
        go_roundg (n - (k + 1))
        case measure => omega
        case rel => exact ⟨k + 1, by omega, by omega, by go_num, W1, T1, NX.out (by unfold ofPl ofTp; simp [HH.out])⟩
    · obtain rfl : k = n := by omega
      have RN : R = (0, false) := by
        rw [← HR.out]; unfold getV
        rw [List.find?_eq_none.2 (fun y hy => by obtain ⟨j, hj, rfl⟩ := List.getElem_of_mem hy; rw [hok.out j hj (by rw [← LN.out]; exact hj)]; decide)]
        rfl
      go_wp2_with fail
      go_ret2
      exact ⟨by rw [RN]; rfl, hb.out⟩

end Go.Proofs.Ytnkjkgakbgjddaa
