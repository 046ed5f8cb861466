/- kept: are all that none of some are of the place of as they were. -/
import Derived.Test.YtnkjkgakbgjddaaAmong
namespace Go.Proofs.Ytnkjkgakbgjddaa
open Go.RowKit

set_option maxRecDepth 100000 in
set_option maxHeartbeats 16000000 in
theorem keptL_any (o q : Of) (A : Option Addr) (n c : Nat) (l : List Ps) (w : World) (ho : Of.At w o) (hq : Of.At w q) (hs : Sl psK w A n c l) : Calls Try.prog 33 #[o.v, q.v, .slice A n c] w fun e w' => e = .returned (.bool (keptV o.L q.L l)) ∧ Below w.heap.size w w' := by
  obtain ⟨W0, hW0⟩ : ∃ W0, W0 = (w.alloc (.cells #[.slice o.A o.n o.c, .slice o.A' o.n' o.c'] 25)).alloc (.cells #[.slice q.A q.n q.c, .slice q.A' q.n' q.c'] 25) := ⟨_, rfl⟩
  have B0 := Lib.hid (show Below w.heap.size w W0 from by rw [hW0]; exact (below_alloc1 w _).alloc (by simp) _)
  have S0 := Lib.hid (show Has W0 w.heap.size #[.slice o.A o.n o.c, .slice o.A' o.n' o.c'] from by rw [hW0]; exact (Has.newAt w _ 25 rfl).alloc _)
  have T0 := Lib.hid (show Has W0 (w.heap.size + 1) #[.slice q.A q.n q.c, .slice q.A' q.n' q.c'] from by rw [hW0]; exact Has.newAt _ _ 25 (by simp))
  have HW0 := Lib.hid hW0
  have HOA := Lib.hid ho
  have HQA := Lib.hid hq
  have HL := Lib.hid ho.1
  have HQ := Lib.hid hq.1
  have HS := Lib.hid hs
  have LN := Lib.hid ho.1.len
  have LQ := Lib.hid hq.1.len
  have m1 := ho.1.max
  have m2 := ho.1.cap
  have m3 := hq.1.max
  have m4 := hq.1.cap
  obtain ⟨R, hR⟩ : ∃ R, keptV o.L q.L l = R := ⟨_, rfl⟩
  have HR := Lib.hid hR
  rw [hR]
  clear ho hq hs hR hW0
  go_enter Try.func33, Try.ntmps33
  go_wp2_with fail
  rw [← HW0.out]
  go_loopg [7] o.n (fun gg s7 wr => ∃ k : Nat, k ≤ o.n ∧ o.n - k ≤ gg ∧ s7 = .int .i64 k ∧ Hid (Below w.heap.size w wr) ∧ Hid (Has wr w.heap.size #[.slice o.A o.n o.c, .slice o.A' o.n' o.c']) ∧ Hid (Has wr (w.heap.size + 1) #[.slice q.A q.n q.c, .slice q.A' q.n' q.c']) ∧ Hid (∀ j (hj : j < o.L.length), j < k → (fun y => amongV l y || decide (getV q.L y.g y.t y.p y.h = (y.o, true))) o.L[j] = true))
  case atStart => exact ⟨0, Nat.zero_le _, by omega, rfl, B0, S0, T0, Lib.hid (fun j _ hj => absurd hj (Nat.not_lt_zero _))⟩
  case round =>
    obtain ⟨k, hk, hgg, rfl, hb, S1, T1, hok⟩ := hrel
    have sc := S1.out.cell
    have sl := S1.out.lt
    have tc := T1.out.cell
    have tl := T1.out.lt
    by_cases hlt : k < o.n
    · skip
      obtain ⟨bb, off, hkl, hA, hbl, u0, u1, u2, u3, u4⟩ := Pss.at_ (HL.out.below hb.out) hlt
      obtain ⟨x, hx⟩ : ∃ x, o.L[k] = x := ⟨_, rfl⟩
      have PX : ∀ r, (fun y => amongV l y || decide (getV q.L y.g y.t y.p y.h = (y.o, true))) x = r → (fun y => amongV l y || decide (getV q.L y.g y.t y.p y.h = (y.o, true))) (o.L[k]) = r := fun r h => by rw [hx]; exact h
      rw [hx] at u0 u1 u2 u3 u4
      have FX := Lib.hid (fun W (h : Below wr.heap.size wr W) => (show W.cell? ⟨bb, off + k * 5, none⟩ = some (.string x.g) ∧ W.cell? ⟨bb, off + k * 5 + 1, none⟩ = some (.string x.t) ∧ W.cell? ⟨bb, off + k * 5 + 2, none⟩ = some (.int .i64 x.p) ∧ W.cell? ⟨bb, off + k * 5 + 3, none⟩ = some (.int .i64 x.h) ∧ W.cell? ⟨bb, off + k * 5 + 4, none⟩ = some (.int .i64 x.o) ∧ W.cell? ⟨w.heap.size, 0, none⟩ = some (.slice (some ⟨bb, off, none⟩) o.n o.c) ∧ w.heap.size < W.heap.size ∧ bb < W.heap.size from
        ⟨(h.cell hbl).trans u0, (h.cell hbl).trans u1, (h.cell hbl).trans u2, (h.cell hbl).trans u3, (h.cell hbl).trans u4, ((S1.out.past h).cell 0).trans (by rw [hA]; rfl), (S1.out.past h).lt, Nat.lt_of_lt_of_le hbl h.size⟩))
      have NX := Lib.hid (show (fun y => amongV l y || decide (getV q.L y.g y.t y.p y.h = (y.o, true))) x = true → Hid (∀ j (hj : j < o.L.length), j < k + 1 → (fun y => amongV l y || decide (getV q.L y.g y.t y.p y.h = (y.o, true))) o.L[j] = true) from fun hn => Lib.hid fun j hj hjk => by
        rcases Nat.lt_or_ge j k with h' | h'
        · exact hok.out j hj h'
        · obtain rfl : j = k := by omega
          exact PX true hn)
      have NO := Lib.hid (show (fun y => amongV l y || decide (getV q.L y.g y.t y.p y.h = (y.o, true))) x = false → R = false from fun hn => by
        rw [← HR.out]; unfold keptV
        have : o.L.all (fun y => amongV l y || decide (getV q.L y.g y.t y.p y.h = (y.o, true))) = false := by
          rw [List.all_eq_false]
          exact ⟨_, List.getElem_mem hkl, fun h => by have h2 := h.symm.trans (PX false hn); cases h2⟩
        rw [this]; rfl)
      have AM := Lib.hid (fun W (h : Below w.heap.size w W) => among_any A n c l x W (HS.out.below h))
      have AT := Lib.hid (show Of.At wr q from HQA.out.below hb.out)
      have GT := Lib.hid (fun W s t p h (ha : Of.At W q) => get_any q s t p h W ha)
      obtain ⟨am, ham⟩ : ∃ am, amongV l x = am := ⟨_, rfl⟩
      obtain ⟨v, hv⟩ : ∃ v, (getV q.L x.g x.t x.p x.h) = v := ⟨_, rfl⟩
      obtain ⟨v, b⟩ := v
      simp only [ham, hv] at NX NO
      have GT5 := Lib.hid (fun W (ha : Of.At W q) => (show Calls Try.prog 23 #[q.v, .string x.g, .agg #[.string x.t, .int .i64 x.p, .int .i64 x.h]] W fun e w' => e = .returned (.tuple #[.int .i64 v, .bool b]) ∧ Below W.heap.size W w' from by have := GT.out W x.g x.t x.p x.h ha; rw [hv] at this; exact this))
      have AM5 := Lib.hid (fun W (h : Below w.heap.size w W) => (show Calls Try.prog 59 #[.slice A n c, .agg #[.string x.g, .string x.t, .int .i64 x.p, .int .i64 x.h, .int .i64 x.o]] W fun e w' => e = .returned (.bool am) ∧ Below W.heap.size W w' from by have := AM.out W h; rw [ham] at this; exact this))
      have k0 : (0 : Int) ≤ (k : Int) := by omega
      have k1 : (k : Int) < (o.n : Int) := by omega
      clear hx hkl ham hv PX GT AM
      go_wp2_with fail
      have r0 := at_regrown u0
      have r1 := at_regrown u1
      have r2 := at_regrown u2
      have r3 := at_regrown u3
      have r5 := at_regrown (a := ⟨w.heap.size, 0, none⟩) (v := .slice (some ⟨bb, off, none⟩) o.n o.c) ((S1.out.cell 0).trans (by rw [hA]; rfl))
      have r6 := at_regrown (a := ⟨w.heap.size + 1, 0, none⟩) (v := .slice q.A q.n q.c) (T1.out.cell 0)
      have r7 := at_regrown (a := ⟨w.heap.size + 1, 1, none⟩) (v := .slice q.A' q.n' q.c') (T1.out.cell 1)
      have GT6 := Lib.hid (fun W (h : Below wr.heap.size wr W) => GT5.out W (AT.out.below h))
      refine region_below (by kernel_rfl) (by kernel_rfl) ?_
      repeat (go_big_quiet_step (exact call_regrown GT6.out))
      refine wpQuiet_nil ?_
      intro w5 hb5
      have B5 := Lib.hid (below_from hb5 hb.out hb.out.size)
      have S5 := Lib.hid (S1.out.past hb5)
      have T5 := Lib.hid (T1.out.past hb5)
      have F5 := Lib.hid hb5
      have v05 := FX.out _ hb5
      clear r0 r1 r2 r3 r5 r6 r7
      obtain ⟨y0, y1, y2, y3, y4, y5, y6, y7⟩ := v05
      clear hb5 u0 u1 u2 u3 u4 sc sl tc tl hbl hA
      cases am with
      | true =>
        go_wp2_with (go_at_call 59; refine (AM5.out _ B5.out).mono ?_; rintro e w6 ⟨rfl, hb6⟩; have B6 := Lib.hid (below_from hb6 B5.out B5.out.size); have S6 := Lib.hid (S5.out.past hb6); have T6 := Lib.hid (T5.out.past hb6); obtain ⟨z0, z1, z2, z3, z4, z5, z6, z7⟩ := FX.out _ (below_from hb6 F5.out F5.out.size); clear hb6 y0 y1 y2 y3 y4 y5 y6 y7)
        go_roundg (o.n - (k + 1))
        case measure => omega
        case rel => exact ⟨k + 1, by omega, by omega, by go_num, B6, S6, T6, NX.out (by simp)⟩
      | false =>
        cases b with
        | false =>
          go_wp2_with (go_at_call 59; refine (AM5.out _ B5.out).mono ?_; rintro e w6 ⟨rfl, hb6⟩; have B6 := Lib.hid (below_from hb6 B5.out B5.out.size); have S6 := Lib.hid (S5.out.past hb6); have T6 := Lib.hid (T5.out.past hb6); obtain ⟨z0, z1, z2, z3, z4, z5, z6, z7⟩ := FX.out _ (below_from hb6 F5.out F5.out.size); clear hb6 y0 y1 y2 y3 y4 y5 y6 y7)
          go_ret
          exact ⟨ret_bool (NO.out (by simp )).symm, B6.out⟩
        | true =>
          by_cases hvo : v = x.o
          · subst hvo
            go_wp2_with (go_at_call 59; refine (AM5.out _ B5.out).mono ?_; rintro e w6 ⟨rfl, hb6⟩; have B6 := Lib.hid (below_from hb6 B5.out B5.out.size); have S6 := Lib.hid (S5.out.past hb6); have T6 := Lib.hid (T5.out.past hb6); obtain ⟨z0, z1, z2, z3, z4, z5, z6, z7⟩ := FX.out _ (below_from hb6 F5.out F5.out.size); clear hb6 y0 y1 y2 y3 y4 y5 y6 y7)
            go_roundg (o.n - (k + 1))
            case measure => omega
            case rel => exact ⟨k + 1, by omega, by omega, by go_num, B6, S6, T6, NX.out (by simp)⟩
          · obtain ⟨d1, d2⟩ := int_ne hvo
            have HV := Lib.hid hvo
            clear hvo
            go_wp2_with (go_at_call 59; refine (AM5.out _ B5.out).mono ?_; rintro e w6 ⟨rfl, hb6⟩; have B6 := Lib.hid (below_from hb6 B5.out B5.out.size); have S6 := Lib.hid (S5.out.past hb6); have T6 := Lib.hid (T5.out.past hb6); obtain ⟨z0, z1, z2, z3, z4, z5, z6, z7⟩ := FX.out _ (below_from hb6 F5.out F5.out.size); clear hb6 y0 y1 y2 y3 y4 y5 y6 y7)
            go_ret
            exact ⟨ret_bool (NO.out (by simp [HV.out])).symm, B6.out⟩
    · have ALL1 := Lib.hid (show o.L.all (fun y => amongV l y || decide (getV q.L y.g y.t y.p y.h = (y.o, true))) = true from by
        rw [List.all_eq_true]
        intro y hy
        obtain ⟨j, hj, rfl⟩ := List.getElem_of_mem hy
        exact hok.out j hj (by have := LN.out; omega))
      clear hok
      go_wp2_with fail
      go_loopg [10] q.n (fun gg s10 wr => ∃ k : Nat, k ≤ q.n ∧ q.n - k ≤ gg ∧ s10 = .int .i64 k ∧ Hid (Below w.heap.size w wr) ∧ Hid (Has wr w.heap.size #[.slice o.A o.n o.c, .slice o.A' o.n' o.c']) ∧ Hid (Has wr (w.heap.size + 1) #[.slice q.A q.n q.c, .slice q.A' q.n' q.c']) ∧ Hid (∀ j (hj : j < q.L.length), j < k → (fun y => (getV o.L y.g y.t y.p y.h).2 || amongV l y) q.L[j] = true))
      case atStart => exact ⟨0, Nat.zero_le _, by omega, rfl, hb, S1, T1, Lib.hid (fun j _ hj => absurd hj (Nat.not_lt_zero _))⟩
      case round =>
        clear sc sl tc tl hb S1 T1 hk hgg hlt
        obtain ⟨k, hk, hgg, rfl, hb, S1, T1, hok⟩ := hrel
        have sc := S1.out.cell
        have sl := S1.out.lt
        have tc := T1.out.cell
        have tl := T1.out.lt
        by_cases hlt : k < q.n
        · skip
          obtain ⟨bb, off, hkl, hA, hbl, u0, u1, u2, u3, u4⟩ := Pss.at_ (HQ.out.below hb.out) hlt
          obtain ⟨x, hx⟩ : ∃ x, q.L[k] = x := ⟨_, rfl⟩
          have PX : ∀ r, (fun y => (getV o.L y.g y.t y.p y.h).2 || amongV l y) x = r → (fun y => (getV o.L y.g y.t y.p y.h).2 || amongV l y) (q.L[k]) = r := fun r h => by rw [hx]; exact h
          rw [hx] at u0 u1 u2 u3 u4
          have FX := Lib.hid (fun W (h : Below wr.heap.size wr W) => (show W.cell? ⟨bb, off + k * 5, none⟩ = some (.string x.g) ∧ W.cell? ⟨bb, off + k * 5 + 1, none⟩ = some (.string x.t) ∧ W.cell? ⟨bb, off + k * 5 + 2, none⟩ = some (.int .i64 x.p) ∧ W.cell? ⟨bb, off + k * 5 + 3, none⟩ = some (.int .i64 x.h) ∧ W.cell? ⟨bb, off + k * 5 + 4, none⟩ = some (.int .i64 x.o) ∧ W.cell? ⟨w.heap.size + 1, 0, none⟩ = some (.slice (some ⟨bb, off, none⟩) q.n q.c) ∧ w.heap.size + 1 < W.heap.size ∧ bb < W.heap.size from
            ⟨(h.cell hbl).trans u0, (h.cell hbl).trans u1, (h.cell hbl).trans u2, (h.cell hbl).trans u3, (h.cell hbl).trans u4, ((T1.out.past h).cell 0).trans (by rw [hA]; rfl), (T1.out.past h).lt, Nat.lt_of_lt_of_le hbl h.size⟩))
          have NX := Lib.hid (show (fun y => (getV o.L y.g y.t y.p y.h).2 || amongV l y) x = true → Hid (∀ j (hj : j < q.L.length), j < k + 1 → (fun y => (getV o.L y.g y.t y.p y.h).2 || amongV l y) q.L[j] = true) from fun hn => Lib.hid fun j hj hjk => by
            rcases Nat.lt_or_ge j k with h' | h'
            · exact hok.out j hj h'
            · obtain rfl : j = k := by omega
              exact PX true hn)
          have NO := Lib.hid (show (fun y => (getV o.L y.g y.t y.p y.h).2 || amongV l y) x = false → R = false from fun hn => by
            rw [← HR.out]; unfold keptV
            have : q.L.all (fun y => (getV o.L y.g y.t y.p y.h).2 || amongV l y) = false := by
              rw [List.all_eq_false]
              exact ⟨_, List.getElem_mem hkl, fun h => by have h2 := h.symm.trans (PX false hn); cases h2⟩
            rw [this, Bool.and_false])
          have AM := Lib.hid (fun W (h : Below w.heap.size w W) => among_any A n c l x W (HS.out.below h))
          have AT := Lib.hid (show Of.At wr o from HOA.out.below hb.out)
          have GT := Lib.hid (fun W s t p h (ha : Of.At W o) => get_any o s t p h W ha)
          obtain ⟨am, ham⟩ : ∃ am, amongV l x = am := ⟨_, rfl⟩
          obtain ⟨v, hv⟩ : ∃ v, (getV o.L x.g x.t x.p x.h) = v := ⟨_, rfl⟩
          obtain ⟨v, b⟩ := v
          simp only [ham, hv] at NX NO
          have GT5 := Lib.hid (fun W (ha : Of.At W o) => (show Calls Try.prog 23 #[o.v, .string x.g, .agg #[.string x.t, .int .i64 x.p, .int .i64 x.h]] W fun e w' => e = .returned (.tuple #[.int .i64 v, .bool b]) ∧ Below W.heap.size W w' from by have := GT.out W x.g x.t x.p x.h ha; rw [hv] at this; exact this))
          have AM5 := Lib.hid (fun W (h : Below w.heap.size w W) => (show Calls Try.prog 59 #[.slice A n c, .agg #[.string x.g, .string x.t, .int .i64 x.p, .int .i64 x.h, .int .i64 x.o]] W fun e w' => e = .returned (.bool am) ∧ Below W.heap.size W w' from by have := AM.out W h; rw [ham] at this; exact this))
          have k0 : (0 : Int) ≤ (k : Int) := by omega
          have k1 : (k : Int) < (q.n : Int) := by omega
          clear hx hkl ham hv PX GT AM
          go_wp2_with fail
          have r0 := at_regrown u0
          have r1 := at_regrown u1
          have r2 := at_regrown u2
          have r3 := at_regrown u3
          have r5 := at_regrown (a := ⟨w.heap.size + 1, 0, none⟩) (v := .slice (some ⟨bb, off, none⟩) q.n q.c) ((T1.out.cell 0).trans (by rw [hA]; rfl))
          have r6 := at_regrown (a := ⟨w.heap.size, 0, none⟩) (v := .slice o.A o.n o.c) (S1.out.cell 0)
          have r7 := at_regrown (a := ⟨w.heap.size, 1, none⟩) (v := .slice o.A' o.n' o.c') (S1.out.cell 1)
          have GT6 := Lib.hid (fun W (h : Below wr.heap.size wr W) => GT5.out W (AT.out.below h))
          refine region_below (by kernel_rfl) (by kernel_rfl) ?_
          repeat (go_big_quiet_step (exact call_regrown GT6.out))
          refine wpQuiet_nil ?_
          intro w5 hb5
          have B5 := Lib.hid (below_from hb5 hb.out hb.out.size)
          have S5 := Lib.hid (S1.out.past hb5)
          have T5 := Lib.hid (T1.out.past hb5)
          have F5 := Lib.hid hb5
          have v05 := FX.out _ hb5
          clear r0 r1 r2 r3 r5 r6 r7
          obtain ⟨y0, y1, y2, y3, y4, y5, y6, y7⟩ := v05
          clear hb5 u0 u1 u2 u3 u4 sc sl tc tl hbl hA
          cases b with
          | true =>
            go_wp2_with fail
            go_roundg (q.n - (k + 1))
            case measure => omega
            case rel => exact ⟨k + 1, by omega, by omega, by go_num, B5, S5, T5, NX.out (by simp)⟩
          | false =>
            cases am with
            | true =>
              go_wp2_with (go_at_call 59; refine (AM5.out _ B5.out).mono ?_; rintro e w6 ⟨rfl, hb6⟩; have B6 := Lib.hid (below_from hb6 B5.out B5.out.size); have S6 := Lib.hid (S5.out.past hb6); have T6 := Lib.hid (T5.out.past hb6); obtain ⟨z0, z1, z2, z3, z4, z5, z6, z7⟩ := FX.out _ (below_from hb6 F5.out F5.out.size); clear hb6 y0 y1 y2 y3 y4 y5 y6 y7)
              go_roundg (q.n - (k + 1))
              case measure => omega
              case rel => exact ⟨k + 1, by omega, by omega, by go_num, B6, S6, T6, NX.out (by simp)⟩
            | false =>
              go_wp2_with (go_at_call 59; refine (AM5.out _ B5.out).mono ?_; rintro e w6 ⟨rfl, hb6⟩; have B6 := Lib.hid (below_from hb6 B5.out B5.out.size); have S6 := Lib.hid (S5.out.past hb6); have T6 := Lib.hid (T5.out.past hb6); obtain ⟨z0, z1, z2, z3, z4, z5, z6, z7⟩ := FX.out _ (below_from hb6 F5.out F5.out.size); clear hb6 y0 y1 y2 y3 y4 y5 y6 y7)
              go_ret
              exact ⟨ret_bool (NO.out (by simp )).symm, B6.out⟩
        · have ALL2 := Lib.hid (show q.L.all (fun y => (getV o.L y.g y.t y.p y.h).2 || amongV l y) = true from by
            rw [List.all_eq_true]
            intro y hy
            obtain ⟨j, hj, rfl⟩ := List.getElem_of_mem hy
            exact hok.out j hj (by have := LQ.out; omega))
          have RT := Lib.hid (show R = true from by rw [← HR.out]; unfold keptV; rw [ALL1.out, ALL2.out]; rfl)
          go_wp2_with fail
          go_ret
          exact ⟨ret_bool RT.out.symm, hb.out⟩

end Go.Proofs.Ytnkjkgakbgjddaa
