/- slices.BinarySearchFunc at messages and at ways. -/
import Derived.Test.YtmlgahambecamaaPlain
import Derived.Test.YtmlgahambecamaaFork
namespace Go.Proofs.Ytmlgahambecamaa
open Go.RowKit


/-- What a search by an order finds. -/
def SrchG {α : Type} (cft : α → Int) (l : List α) (i : Nat) (b : Bool) : Prop :=
  i ≤ l.length ∧ (∀ j (h : j < l.length), j < i → cft l[j] < 0) ∧ (∀ j (h : j < l.length), i ≤ j → 0 ≤ cft l[j]) ∧ (b = true ↔ ∃ h : i < l.length, cft l[i] = 0)

set_option maxHeartbeats 4000000 in
set_option maxRecDepth 1000000 in
/-- slices.BinarySearchFunc (func 45). -/
theorem searchM (A : Option Addr) (n c : Nat) (l : List Mg) (tg : Mg) (w : World) (g : Nat) (cft : Mg → Int) (hl : Sl mgK w A n c l) (hn : n ≤ 4611686018427387903)
    (eg : ∀ args w, (callFunc g args).run Try.prog w = .ok (.enter g args) w)
    (hmono : ∀ j k (hk : k < l.length) (hj : j < k), cft l[k] < 0 → cft (l[j]'(Nat.lt_trans hj hk)) < 0)
    (hcall : ∀ x ∈ l, ∀ W, Below w.heap.size w W → Calls Try.prog g #[.agg #[.int .i64 x.t, .int .i64 x.no, .int .i64 x.frm, .int .i64 x.dst, .slice x.A x.n x.c], .agg #[.int .i64 tg.t, .int .i64 tg.no, .int .i64 tg.frm, .int .i64 tg.dst, .slice tg.A tg.n tg.c]] W fun e w' => e = .returned (.int .i64 (cft x)) ∧ Below W.heap.size W w') :
    Calls Try.prog 45 #[.slice A n c, .agg #[.int .i64 tg.t, .int .i64 tg.no, .int .i64 tg.frm, .int .i64 tg.dst, .slice tg.A tg.n tg.c], .func (.func g) #[] #[]] w fun e w' => ∃ (i : Nat) (b : Bool), e = .returned (.tuple #[.int .i64 i, .bool b]) ∧ SrchG cft l i b ∧ Below w.heap.size w w' := by
  obtain ⟨W0, hW0⟩ : ∃ W0, W0 = w.alloc (.cells #[.int .i64 tg.t, .int .i64 tg.no, .int .i64 tg.frm, .int .i64 tg.dst, .slice tg.A tg.n tg.c] 40) := ⟨_, rfl⟩
  have B0 := Lib.hid (show Below w.heap.size w W0 from by rw [hW0]; exact below_alloc1 w _)
  have T0 := Lib.hid (show Has W0 w.heap.size #[.int .i64 tg.t, .int .i64 tg.no, .int .i64 tg.frm, .int .i64 tg.dst, .slice tg.A tg.n tg.c] from by rw [hW0]; exact Has.newAt w _ 40 rfl)
  have HW0 := Lib.hid hW0
  have HL := Lib.hid (hl.below B0.out)
  have HM := Lib.hid hmono
  have HC := Lib.hid hcall
  have hlen := hl.len
  have hcap := hl.cap
  have hmax := hl.max
  clear hl hmono hcall hW0
  have HN := Lib.hid hlen
  clear hlen
  go_enter Try.func45, Try.ntmps45
  go_wp2_with fail
  rw [← HW0.out]
  go_loopg [9, 10] n (fun kx s9 s10 wr => ∃ lo hi : Nat, s9 = .int .i64 lo ∧ s10 = .int .i64 hi ∧ lo ≤ hi ∧ hi ≤ n ∧ hi - lo ≤ kx ∧ Hid (Below W0.heap.size W0 wr) ∧
    Hid ((∀ j (h : j < l.length), j < lo → cft l[j] < 0) ∧ (∀ j (h : j < l.length), hi ≤ j → 0 ≤ cft l[j])))
  case atStart => exact ⟨0, n, rfl, rfl, Nat.zero_le _, Nat.le_refl _, by omega, Lib.hid (Below.refl _ _), Lib.hid ⟨fun j _ h => absurd h (Nat.not_lt_zero _), fun j h1 h2 => by have := HN.out; omega⟩⟩
  case round =>
    obtain ⟨lo, hi, rfl, rfl, hlh, hin, hg, hb, I⟩ := hrel
    have TB := Lib.hid (T0.out.past hb.out)
    have tc := TB.out.cell
    have tl := TB.out.lt
    have BB := Lib.hid (below_from hb.out B0.out B0.out.size)
    by_cases hlt : lo < hi
    · obtain ⟨b, off, hkl, rfl, hbl, x0, x1, x2, x3, x4⟩ := mg_at (HL.out.below hb.out) (show (lo + hi) / 2 < n by omega)
      obtain ⟨x, hx⟩ : ∃ x, l[(lo + hi) / 2] = x := ⟨_, rfl⟩
      have MEM := Lib.hid (show x ∈ l from by rw [← hx]; exact List.getElem_mem hkl)
      rw [hx] at x0 x1 x2 x3 x4
      have HK := Lib.hid hkl
      have Y := Lib.hid (fun (h : (lo + hi) / 2 < l.length) => (show l[(lo + hi) / 2]'h = x from hx))
      have HC2 := Lib.hid (fun W (h : Below wr.heap.size wr W) => HC.out x MEM.out W (below_from h BB.out BB.out.size))
      clear hx hkl
      obtain ⟨q, hq⟩ : ∃ q, cft x = q := ⟨_, rfl⟩
      rw [hq] at HC2
      have HQ := Lib.hid hq
      clear hq
      have rx0 := at_regrown x0
      have rx1 := at_regrown x1
      have rx2 := at_regrown x2
      have rx3 := at_regrown x3
      have rx4 := at_regrown x4
      have rt0 := at_regrown (v := .int .i64 tg.t) (tc 0)
      have rt1 := at_regrown (v := .int .i64 tg.no) (tc 1)
      have rt2 := at_regrown (v := .int .i64 tg.frm) (tc 2)
      have rt3 := at_regrown (v := .int .i64 tg.dst) (tc 3)
      have rt4 := at_regrown (v := .slice tg.A tg.n tg.c) (tc 4)
      by_cases hyx : q < 0
      · go_wp2_with fail
        refine region_below (by kernel_rfl) (by kernel_rfl) ?_
        repeat (go_big_quiet_step (exact call_regrown HC2.out))
        refine wpQuiet_nil ?_
        intro w1 hb1
        have B1 := Lib.hid (below_from hb1 hb.out hb.out.size)
        clear hb1
        go_wp2_with fail
        go_roundg (hi - ((lo + hi) / 2 + 1))
        case measure => omega
        case rel =>
          refine ⟨(lo + hi) / 2 + 1, hi, by rw [show ((lo : Int) + (hi : Int)) / 2 + 1 = (((lo + hi) / 2 + 1 : Nat) : Int) by omega], rfl, by omega, hin, Nat.le_refl _, B1, Lib.hid ⟨fun j h hj => ?_, I.out.2⟩⟩
          rcases Nat.lt_or_ge j ((lo + hi) / 2) with h1 | h1
          · exact HM.out j ((lo + hi) / 2) HK.out h1 (by rw [Y.out, HQ.out]; exact hyx)
          · obtain rfl : j = (lo + hi) / 2 := by omega
            rw [Y.out, HQ.out]; exact hyx
      · go_wp2_with fail
        refine region_below (by kernel_rfl) (by kernel_rfl) ?_
        repeat (go_big_quiet_step (exact call_regrown HC2.out))
        refine wpQuiet_nil ?_
        intro w1 hb1
        have B1 := Lib.hid (below_from hb1 hb.out hb.out.size)
        clear hb1
        go_wp2_with fail
        go_roundg ((lo + hi) / 2 - lo)
        case measure => omega
        case rel =>
          refine ⟨lo, (lo + hi) / 2, rfl, by rw [show ((lo : Int) + (hi : Int)) / 2 = (((lo + hi) / 2 : Nat) : Int) by omega], by omega, by omega, Nat.le_refl _, B1, Lib.hid ⟨I.out.1, fun j h hj => ?_⟩⟩
          rcases Nat.lt_or_ge ((lo + hi) / 2) j with h1 | h1
          · apply Int.not_lt.1
            intro hneg
            have := HM.out ((lo + hi) / 2) j h h1 hneg
            rw [Y.out, HQ.out] at this
            omega
          · obtain rfl : j = (lo + hi) / 2 := by omega
            rw [Y.out, HQ.out]; omega
    · obtain rfl : hi = lo := by omega
      by_cases hnn : hi < n
      · obtain ⟨b, off, hkl, rfl, hbl, x0, x1, x2, x3, x4⟩ := mg_at (HL.out.below hb.out) hnn
        obtain ⟨x, hx⟩ : ∃ x, l[hi] = x := ⟨_, rfl⟩
        have MEM := Lib.hid (show x ∈ l from by rw [← hx]; exact List.getElem_mem hkl)
        rw [hx] at x0 x1 x2 x3 x4
        have HK := Lib.hid hkl
        have Y := Lib.hid (fun (h : hi < l.length) => (show l[hi]'h = x from hx))
        have HC2 := Lib.hid (fun W (h : Below wr.heap.size wr W) => HC.out x MEM.out W (below_from h BB.out BB.out.size))
        have m2 : (hi : Int) < (n : Int) := by omega
        have dd : decide (hi < n) = true := decide_eq_true hnn
        have rx0 := at_regrown x0
        have rx1 := at_regrown x1
        have rx2 := at_regrown x2
        have rx3 := at_regrown x3
        have rx4 := at_regrown x4
        have rt0 := at_regrown (v := .int .i64 tg.t) (tc 0)
        have rt1 := at_regrown (v := .int .i64 tg.no) (tc 1)
        have rt2 := at_regrown (v := .int .i64 tg.frm) (tc 2)
        have rt3 := at_regrown (v := .int .i64 tg.dst) (tc 3)
        have rt4 := at_regrown (v := .slice tg.A tg.n tg.c) (tc 4)
        clear hx hkl
        obtain ⟨q, hq⟩ : ∃ q, cft x = q := ⟨_, rfl⟩
        rw [hq] at HC2
        have HQ := Lib.hid hq
        clear hq
        by_cases hyx : q = 0
        · subst hyx
          go_wp2_with fail
          refine region_below (by kernel_rfl) (by kernel_rfl) ?_
          repeat (go_big_quiet_step (exact call_regrown HC2.out))
          refine wpQuiet_nil ?_
          intro w1 hb1
          have B1 := Lib.hid (below_from hb1 hb.out hb.out.size)
          clear hb1
          go_wp2_with fail
          go_ret2
          exact ⟨hi, true, by simp, ⟨Nat.le_of_lt HK.out, I.out.1, I.out.2, ⟨fun _ => ⟨HK.out, by rw [Y.out]; exact HQ.out⟩, fun _ => rfl⟩⟩, (below_from B1.out B0.out B0.out.size)⟩
        · go_wp2_with fail
          refine region_below (by kernel_rfl) (by kernel_rfl) ?_
          repeat (go_big_quiet_step (exact call_regrown HC2.out))
          refine wpQuiet_nil ?_
          intro w1 hb1
          have B1 := Lib.hid (below_from hb1 hb.out hb.out.size)
          clear hb1
          go_wp2_with fail
          go_ret2
          exact ⟨hi, false, by simp [hyx], ⟨Nat.le_of_lt HK.out, I.out.1, I.out.2, ⟨fun h => (by cases h), fun h => absurd (by obtain ⟨_, h⟩ := h; rw [Y.out, HQ.out] at h; exact h) hyx⟩⟩, (below_from B1.out B0.out B0.out.size)⟩
      · have dd : decide (hi < n) = false := decide_eq_false hnn
        go_wp2_with fail
        refine region_below (by kernel_rfl) (by kernel_rfl) ?_
        repeat (go_big_quiet_step (fail))
        refine wpQuiet_nil ?_
        intro w1 hb1
        have B1 := Lib.hid (below_from hb1 hb.out hb.out.size)
        clear hb1
        go_wp2_with fail
        go_ret2
        exact ⟨hi, false, rfl, ⟨by rw [HN.out]; omega, I.out.1, I.out.2, ⟨fun h => (by cases h), fun h => absurd h.1 (by rw [HN.out]; omega)⟩⟩, (below_from B1.out B0.out B0.out.size)⟩

set_option maxHeartbeats 4000000 in
set_option maxRecDepth 1000000 in
/-- slices.BinarySearchFunc (func 74). -/
theorem searchP (A : Option Addr) (n c : Nat) (l : List Pr) (tg : Pr) (w : World) (g : Nat) (cft : Pr → Int) (hl : Sl prK w A n c l) (hn : n ≤ 4611686018427387903)
    (eg : ∀ args w, (callFunc g args).run Try.prog w = .ok (.enter g args) w)
    (hmono : ∀ j k (hk : k < l.length) (hj : j < k), cft l[k] < 0 → cft (l[j]'(Nat.lt_trans hj hk)) < 0)
    (hcall : ∀ x ∈ l, ∀ W, Below w.heap.size w W → Calls Try.prog g #[.agg #[.int .i64 x.a, .int .i64 x.b], .agg #[.int .i64 tg.a, .int .i64 tg.b]] W fun e w' => e = .returned (.int .i64 (cft x)) ∧ Below W.heap.size W w') :
    Calls Try.prog 74 #[.slice A n c, .agg #[.int .i64 tg.a, .int .i64 tg.b], .func (.func g) #[] #[]] w fun e w' => ∃ (i : Nat) (b : Bool), e = .returned (.tuple #[.int .i64 i, .bool b]) ∧ SrchG cft l i b ∧ Below w.heap.size w w' := by
  obtain ⟨W0, hW0⟩ : ∃ W0, W0 = w.alloc (.cells #[.int .i64 tg.a, .int .i64 tg.b] 63) := ⟨_, rfl⟩
  have B0 := Lib.hid (show Below w.heap.size w W0 from by rw [hW0]; exact below_alloc1 w _)
  have T0 := Lib.hid (show Has W0 w.heap.size #[.int .i64 tg.a, .int .i64 tg.b] from by rw [hW0]; exact Has.newAt w _ 63 rfl)
  have HW0 := Lib.hid hW0
  have HL := Lib.hid (hl.below B0.out)
  have HM := Lib.hid hmono
  have HC := Lib.hid hcall
  have hlen := hl.len
  have hcap := hl.cap
  have hmax := hl.max
  clear hl hmono hcall hW0
  have HN := Lib.hid hlen
  clear hlen
  go_enter Try.func74, Try.ntmps74
  go_wp2_with fail
  rw [← HW0.out]
  go_loopg [9, 10] n (fun kx s9 s10 wr => ∃ lo hi : Nat, s9 = .int .i64 lo ∧ s10 = .int .i64 hi ∧ lo ≤ hi ∧ hi ≤ n ∧ hi - lo ≤ kx ∧ Hid (Below W0.heap.size W0 wr) ∧
    Hid ((∀ j (h : j < l.length), j < lo → cft l[j] < 0) ∧ (∀ j (h : j < l.length), hi ≤ j → 0 ≤ cft l[j])))
  case atStart => exact ⟨0, n, rfl, rfl, Nat.zero_le _, Nat.le_refl _, by omega, Lib.hid (Below.refl _ _), Lib.hid ⟨fun j _ h => absurd h (Nat.not_lt_zero _), fun j h1 h2 => by have := HN.out; omega⟩⟩
  case round =>
    obtain ⟨lo, hi, rfl, rfl, hlh, hin, hg, hb, I⟩ := hrel
    have TB := Lib.hid (T0.out.past hb.out)
    have tc := TB.out.cell
    have tl := TB.out.lt
    have BB := Lib.hid (below_from hb.out B0.out B0.out.size)
    by_cases hlt : lo < hi
    · obtain ⟨b, off, hkl, rfl, hbl, x0, x1⟩ := pr_at (HL.out.below hb.out) (show (lo + hi) / 2 < n by omega)
      obtain ⟨x, hx⟩ : ∃ x, l[(lo + hi) / 2] = x := ⟨_, rfl⟩
      have MEM := Lib.hid (show x ∈ l from by rw [← hx]; exact List.getElem_mem hkl)
      rw [hx] at x0 x1
      have HK := Lib.hid hkl
      have Y := Lib.hid (fun (h : (lo + hi) / 2 < l.length) => (show l[(lo + hi) / 2]'h = x from hx))
      have HC2 := Lib.hid (fun W (h : Below wr.heap.size wr W) => HC.out x MEM.out W (below_from h BB.out BB.out.size))
      clear hx hkl
      obtain ⟨q, hq⟩ : ∃ q, cft x = q := ⟨_, rfl⟩
      rw [hq] at HC2
      have HQ := Lib.hid hq
      clear hq
      have rx0 := at_regrown x0
      have rx1 := at_regrown x1
      have rt0 := at_regrown (v := .int .i64 tg.a) (tc 0)
      have rt1 := at_regrown (v := .int .i64 tg.b) (tc 1)
      by_cases hyx : q < 0
      · go_wp2_with fail
        refine region_below (by kernel_rfl) (by kernel_rfl) ?_
        repeat (go_big_quiet_step (exact call_regrown HC2.out))
        refine wpQuiet_nil ?_
        intro w1 hb1
        have B1 := Lib.hid (below_from hb1 hb.out hb.out.size)
        clear hb1
        go_wp2_with fail
        go_roundg (hi - ((lo + hi) / 2 + 1))
        case measure => omega
        case rel =>
          refine ⟨(lo + hi) / 2 + 1, hi, by rw [show ((lo : Int) + (hi : Int)) / 2 + 1 = (((lo + hi) / 2 + 1 : Nat) : Int) by omega], rfl, by omega, hin, Nat.le_refl _, B1, Lib.hid ⟨fun j h hj => ?_, I.out.2⟩⟩
          rcases Nat.lt_or_ge j ((lo + hi) / 2) with h1 | h1
          · exact HM.out j ((lo + hi) / 2) HK.out h1 (by rw [Y.out, HQ.out]; exact hyx)
          · obtain rfl : j = (lo + hi) / 2 := by omega
            rw [Y.out, HQ.out]; exact hyx
      · go_wp2_with fail
        refine region_below (by kernel_rfl) (by kernel_rfl) ?_
        repeat (go_big_quiet_step (exact call_regrown HC2.out))
        refine wpQuiet_nil ?_
        intro w1 hb1
        have B1 := Lib.hid (below_from hb1 hb.out hb.out.size)
        clear hb1
        go_wp2_with fail
        go_roundg ((lo + hi) / 2 - lo)
        case measure => omega
        case rel =>
          refine ⟨lo, (lo + hi) / 2, rfl, by rw [show ((lo : Int) + (hi : Int)) / 2 = (((lo + hi) / 2 : Nat) : Int) by omega], by omega, by omega, Nat.le_refl _, B1, Lib.hid ⟨I.out.1, fun j h hj => ?_⟩⟩
          rcases Nat.lt_or_ge ((lo + hi) / 2) j with h1 | h1
          · apply Int.not_lt.1
            intro hneg
            have := HM.out ((lo + hi) / 2) j h h1 hneg
            rw [Y.out, HQ.out] at this
            omega
          · obtain rfl : j = (lo + hi) / 2 := by omega
            rw [Y.out, HQ.out]; omega
    · obtain rfl : hi = lo := by omega
      by_cases hnn : hi < n
      · obtain ⟨b, off, hkl, rfl, hbl, x0, x1⟩ := pr_at (HL.out.below hb.out) hnn
        obtain ⟨x, hx⟩ : ∃ x, l[hi] = x := ⟨_, rfl⟩
        have MEM := Lib.hid (show x ∈ l from by rw [← hx]; exact List.getElem_mem hkl)
        rw [hx] at x0 x1
        have HK := Lib.hid hkl
        have Y := Lib.hid (fun (h : hi < l.length) => (show l[hi]'h = x from hx))
        have HC2 := Lib.hid (fun W (h : Below wr.heap.size wr W) => HC.out x MEM.out W (below_from h BB.out BB.out.size))
        have m2 : (hi : Int) < (n : Int) := by omega
        have dd : decide (hi < n) = true := decide_eq_true hnn
        have rx0 := at_regrown x0
        have rx1 := at_regrown x1
        have rt0 := at_regrown (v := .int .i64 tg.a) (tc 0)
        have rt1 := at_regrown (v := .int .i64 tg.b) (tc 1)
        clear hx hkl
        obtain ⟨q, hq⟩ : ∃ q, cft x = q := ⟨_, rfl⟩
        rw [hq] at HC2
        have HQ := Lib.hid hq
        clear hq
        by_cases hyx : q = 0
        · subst hyx
          go_wp2_with fail
          refine region_below (by kernel_rfl) (by kernel_rfl) ?_
          repeat (go_big_quiet_step (exact call_regrown HC2.out))
          refine wpQuiet_nil ?_
          intro w1 hb1
          have B1 := Lib.hid (below_from hb1 hb.out hb.out.size)
          clear hb1
          go_wp2_with fail
          go_ret2
          exact ⟨hi, true, by simp, ⟨Nat.le_of_lt HK.out, I.out.1, I.out.2, ⟨fun _ => ⟨HK.out, by rw [Y.out]; exact HQ.out⟩, fun _ => rfl⟩⟩, (below_from B1.out B0.out B0.out.size)⟩
        · go_wp2_with fail
          refine region_below (by kernel_rfl) (by kernel_rfl) ?_
          repeat (go_big_quiet_step (exact call_regrown HC2.out))
          refine wpQuiet_nil ?_
          intro w1 hb1
          have B1 := Lib.hid (below_from hb1 hb.out hb.out.size)
          clear hb1
          go_wp2_with fail
          go_ret2
          exact ⟨hi, false, by simp [hyx], ⟨Nat.le_of_lt HK.out, I.out.1, I.out.2, ⟨fun h => (by cases h), fun h => absurd (by obtain ⟨_, h⟩ := h; rw [Y.out, HQ.out] at h; exact h) hyx⟩⟩, (below_from B1.out B0.out B0.out.size)⟩
      · have dd : decide (hi < n) = false := decide_eq_false hnn
        go_wp2_with fail
        refine region_below (by kernel_rfl) (by kernel_rfl) ?_
        repeat (go_big_quiet_step (fail))
        refine wpQuiet_nil ?_
        intro w1 hb1
        have B1 := Lib.hid (below_from hb1 hb.out hb.out.size)
        clear hb1
        go_wp2_with fail
        go_ret2
        exact ⟨hi, false, rfl, ⟨by rw [HN.out]; omega, I.out.1, I.out.2, ⟨fun h => (by cases h), fun h => absurd h.1 (by rw [HN.out]; omega)⟩⟩, (below_from B1.out B0.out B0.out.size)⟩
end Go.Proofs.Ytmlgahambecamaa
