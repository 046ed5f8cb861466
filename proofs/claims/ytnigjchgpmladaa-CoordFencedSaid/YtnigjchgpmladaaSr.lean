/- slices.BinarySearchFunc at producers and at texts. -/
import Derived.Test.YtnigjchgpmladaaCor
namespace Go.Proofs.Ytnigjchgpmladaa
open Go.RowKit


set_option maxHeartbeats 4000000 in
set_option maxRecDepth 1000000 in
/-- slices.BinarySearchFunc (func 44). -/
theorem searchX (A : Option Addr) (n c : Nat) (l : List Tx) (tg : ByteArray) (w : World) (g : Nat) (cb : Array Value) (cft : Tx → Int) (hl : Sl txK w A n c l) (hn : n ≤ 4611686018427387903)
    (eg : ∀ args w, (callFunc g args).run Try.prog w = .ok (.enter g args) w)
    (hmono : ∀ j k (hk : k < l.length) (hj : j < k), cft l[k] < 0 → cft (l[j]'(Nat.lt_trans hj hk)) < 0)
    (hcall : ∀ x ∈ l, ∀ W, Below w.heap.size w W → Calls Try.prog g (#[.agg #[.string x.id, .int .i64 x.pid, .int .i64 x.gen, .int .i64 x.no, .int .i64 x.st, .slice x.PA x.Pn x.Pc, .slice x.GA x.Gn x.Gc, .int .i64 x.at_], .string tg] ++ cb) W fun e w' => e = .returned (.int .i64 (cft x)) ∧ Below W.heap.size W w') :
    Calls Try.prog 44 #[.slice A n c, .string tg, .func (.func g) #[] cb] w fun e w' => ∃ (i : Nat) (b : Bool), e = .returned (.tuple #[.int .i64 i, .bool b]) ∧ SrchG cft l i b ∧ Below w.heap.size w w' := by
  have HL := Lib.hid hl
  have HM := Lib.hid hmono
  have HC := Lib.hid hcall
  have hlen := hl.len
  have hcap := hl.cap
  have hmax := hl.max
  clear hl hmono hcall
  have HN := Lib.hid hlen
  clear hlen
  go_enter Try.func44, Try.ntmps44
  go_wp2
  go_loopg [9, 10] n (fun kx s9 s10 wr => ∃ lo hi : Nat, s9 = .int .i64 lo ∧ s10 = .int .i64 hi ∧ lo ≤ hi ∧ hi ≤ n ∧ hi - lo ≤ kx ∧ Hid (Below w.heap.size w wr) ∧
    Hid ((∀ j (h : j < l.length), j < lo → cft l[j] < 0) ∧ (∀ j (h : j < l.length), hi ≤ j → 0 ≤ cft l[j])))
  case atStart => exact ⟨0, n, rfl, rfl, Nat.zero_le _, Nat.le_refl _, by omega, Below.refl _ _, Lib.hid ⟨fun j _ h => absurd h (Nat.not_lt_zero _), fun j h1 h2 => by have := HN.out; omega⟩⟩
  case round =>
    obtain ⟨lo, hi, rfl, rfl, hlh, hin, hg, hb, I⟩ := hrel
    by_cases hlt : lo < hi
    · obtain ⟨b, off, hkl, rfl, hbl, x0, x1, x2, x3, x4, x5, x6, x7⟩ := tx_at (HL.out.below hb.out) (show (lo + hi) / 2 < n by omega)
      obtain ⟨x, hx⟩ : ∃ x, l[(lo + hi) / 2] = x := ⟨_, rfl⟩
      have MEM := Lib.hid (show x ∈ l from by rw [← hx]; exact List.getElem_mem hkl)
      rw [hx] at x0 x1 x2 x3 x4 x5 x6 x7
      have HK := Lib.hid hkl
      have Y := Lib.hid (fun (h : (lo + hi) / 2 < l.length) => (show l[(lo + hi) / 2]'h = x from hx))
      have hc := HC.out x MEM.out wr hb.out
      skip
      clear hx hkl
      by_cases hyx : cft x < 0
      · go_wp2_with (refine hc.mono ?_; rintro e w' ⟨rfl, hb'⟩; have HB' := Lib.hid (below_from hb' hb.out hb.out.size); clear hb')
        go_roundg (hi - ((lo + hi) / 2 + 1))
        case measure => omega
        case rel =>
          refine ⟨(lo + hi) / 2 + 1, hi, by rw [show ((lo : Int) + (hi : Int)) / 2 + 1 = (((lo + hi) / 2 + 1 : Nat) : Int) by omega], rfl, by omega, hin, Nat.le_refl _, HB', Lib.hid ⟨fun j h hj => ?_, I.out.2⟩⟩
          rcases Nat.lt_or_ge j ((lo + hi) / 2) with h1 | h1
          · exact HM.out j ((lo + hi) / 2) HK.out h1 (by rw [Y.out]; exact hyx)
          · obtain rfl : j = (lo + hi) / 2 := by omega
            rw [Y.out]; exact hyx
      · go_wp2_with (refine hc.mono ?_; rintro e w' ⟨rfl, hb'⟩; have HB' := Lib.hid (below_from hb' hb.out hb.out.size); clear hb')
        go_roundg ((lo + hi) / 2 - lo)
        case measure => omega
        case rel =>
          refine ⟨lo, (lo + hi) / 2, rfl, by rw [show ((lo : Int) + (hi : Int)) / 2 = (((lo + hi) / 2 : Nat) : Int) by omega], by omega, by omega, Nat.le_refl _, HB', Lib.hid ⟨I.out.1, fun j h hj => ?_⟩⟩
          rcases Nat.lt_or_ge ((lo + hi) / 2) j with h1 | h1
          · apply Int.not_lt.1
            intro hneg
            have := HM.out ((lo + hi) / 2) j h h1 hneg
            rw [Y.out] at this
            omega
          · obtain rfl : j = (lo + hi) / 2 := by omega
            rw [Y.out]; omega
    · obtain rfl : hi = lo := by omega
      by_cases hnn : hi < n
      · obtain ⟨b, off, hkl, rfl, hbl, x0, x1, x2, x3, x4, x5, x6, x7⟩ := tx_at (HL.out.below hb.out) hnn
        obtain ⟨x, hx⟩ : ∃ x, l[hi] = x := ⟨_, rfl⟩
        have MEM := Lib.hid (show x ∈ l from by rw [← hx]; exact List.getElem_mem hkl)
        rw [hx] at x0 x1 x2 x3 x4 x5 x6 x7
        have HK := Lib.hid hkl
        have Y := Lib.hid (fun (h : hi < l.length) => (show l[hi]'h = x from hx))
        have hc := HC.out x MEM.out wr hb.out
        skip
        clear hx hkl
        by_cases hyx : cft x = 0
        · go_wp2_with (refine hc.mono ?_; rintro e w' ⟨rfl, hb'⟩; have HB' := Lib.hid (below_from hb' hb.out hb.out.size); clear hb')
          go_ret2
          exact ⟨hi, true, by simp, ⟨Nat.le_of_lt HK.out, I.out.1, I.out.2, ⟨fun _ => ⟨HK.out, by rw [Y.out]; exact hyx⟩, fun _ => rfl⟩⟩, HB'.out⟩
        · go_wp2_with (refine hc.mono ?_; rintro e w' ⟨rfl, hb'⟩; have HB' := Lib.hid (below_from hb' hb.out hb.out.size); clear hb')
          go_ret2
          exact ⟨hi, false, by simp [hyx], ⟨Nat.le_of_lt HK.out, I.out.1, I.out.2, ⟨fun h => (by cases h), fun h => absurd (by obtain ⟨_, h⟩ := h; rw [Y.out] at h; exact h) hyx⟩⟩, HB'.out⟩
      · go_wp2
        go_ret2
        exact ⟨hi, false, rfl, ⟨by rw [HN.out]; omega, I.out.1, I.out.2, ⟨fun h => (by cases h), fun h => absurd h.1 (by rw [HN.out]; omega)⟩⟩, hb.out⟩

set_option maxHeartbeats 4000000 in
set_option maxRecDepth 1000000 in
/-- slices.BinarySearchFunc (func 93). -/
theorem searchS (A : Option Addr) (n c : Nat) (l : List ByteArray) (tg : ByteArray) (w : World) (g : Nat) (cb : Array Value) (cft : ByteArray → Int) (hl : Sl strK w A n c l) (hn : n ≤ 4611686018427387903)
    (eg : ∀ args w, (callFunc g args).run Try.prog w = .ok (.enter g args) w)
    (hmono : ∀ j k (hk : k < l.length) (hj : j < k), cft l[k] < 0 → cft (l[j]'(Nat.lt_trans hj hk)) < 0)
    (hcall : ∀ x ∈ l, ∀ W, Below w.heap.size w W → Calls Try.prog g (#[.string x, .string tg] ++ cb) W fun e w' => e = .returned (.int .i64 (cft x)) ∧ Below W.heap.size W w') :
    Calls Try.prog 93 #[.slice A n c, .string tg, .func (.func g) #[] cb] w fun e w' => ∃ (i : Nat) (b : Bool), e = .returned (.tuple #[.int .i64 i, .bool b]) ∧ SrchG cft l i b ∧ Below w.heap.size w w' := by
  have HL := Lib.hid hl
  have HM := Lib.hid hmono
  have HC := Lib.hid hcall
  have hlen := hl.len
  have hcap := hl.cap
  have hmax := hl.max
  clear hl hmono hcall
  have HN := Lib.hid hlen
  clear hlen
  go_enter Try.func93, Try.ntmps93
  go_wp2
  go_loopg [9, 10] n (fun kx s9 s10 wr => ∃ lo hi : Nat, s9 = .int .i64 lo ∧ s10 = .int .i64 hi ∧ lo ≤ hi ∧ hi ≤ n ∧ hi - lo ≤ kx ∧ Hid (Below w.heap.size w wr) ∧
    Hid ((∀ j (h : j < l.length), j < lo → cft l[j] < 0) ∧ (∀ j (h : j < l.length), hi ≤ j → 0 ≤ cft l[j])))
  case atStart => exact ⟨0, n, rfl, rfl, Nat.zero_le _, Nat.le_refl _, by omega, Below.refl _ _, Lib.hid ⟨fun j _ h => absurd h (Nat.not_lt_zero _), fun j h1 h2 => by have := HN.out; omega⟩⟩
  case round =>
    obtain ⟨lo, hi, rfl, rfl, hlh, hin, hg, hb, I⟩ := hrel
    by_cases hlt : lo < hi
    · obtain ⟨b, off, hkl, rfl, hbl, x0⟩ := str_at (HL.out.below hb.out) (show (lo + hi) / 2 < n by omega)
      obtain ⟨x, hx⟩ : ∃ x, l[(lo + hi) / 2] = x := ⟨_, rfl⟩
      have MEM := Lib.hid (show x ∈ l from by rw [← hx]; exact List.getElem_mem hkl)
      rw [hx] at x0
      have HK := Lib.hid hkl
      have Y := Lib.hid (fun (h : (lo + hi) / 2 < l.length) => (show l[(lo + hi) / 2]'h = x from hx))
      have hc := HC.out x MEM.out wr hb.out
      skip
      clear hx hkl
      by_cases hyx : cft x < 0
      · go_wp2_with (refine hc.mono ?_; rintro e w' ⟨rfl, hb'⟩; have HB' := Lib.hid (below_from hb' hb.out hb.out.size); clear hb')
        go_roundg (hi - ((lo + hi) / 2 + 1))
        case measure => omega
        case rel =>
          refine ⟨(lo + hi) / 2 + 1, hi, by rw [show ((lo : Int) + (hi : Int)) / 2 + 1 = (((lo + hi) / 2 + 1 : Nat) : Int) by omega], rfl, by omega, hin, Nat.le_refl _, HB', Lib.hid ⟨fun j h hj => ?_, I.out.2⟩⟩
          rcases Nat.lt_or_ge j ((lo + hi) / 2) with h1 | h1
          · exact HM.out j ((lo + hi) / 2) HK.out h1 (by rw [Y.out]; exact hyx)
          · obtain rfl : j = (lo + hi) / 2 := by omega
            rw [Y.out]; exact hyx
      · go_wp2_with (refine hc.mono ?_; rintro e w' ⟨rfl, hb'⟩; have HB' := Lib.hid (below_from hb' hb.out hb.out.size); clear hb')
        go_roundg ((lo + hi) / 2 - lo)
        case measure => omega
        case rel =>
          refine ⟨lo, (lo + hi) / 2, rfl, by rw [show ((lo : Int) + (hi : Int)) / 2 = (((lo + hi) / 2 : Nat) : Int) by omega], by omega, by omega, Nat.le_refl _, HB', Lib.hid ⟨I.out.1, fun j h hj => ?_⟩⟩
          rcases Nat.lt_or_ge ((lo + hi) / 2) j with h1 | h1
          · apply Int.not_lt.1
            intro hneg
            have := HM.out ((lo + hi) / 2) j h h1 hneg
            rw [Y.out] at this
            omega
          · obtain rfl : j = (lo + hi) / 2 := by omega
            rw [Y.out]; omega
    · obtain rfl : hi = lo := by omega
      by_cases hnn : hi < n
      · obtain ⟨b, off, hkl, rfl, hbl, x0⟩ := str_at (HL.out.below hb.out) hnn
        obtain ⟨x, hx⟩ : ∃ x, l[hi] = x := ⟨_, rfl⟩
        have MEM := Lib.hid (show x ∈ l from by rw [← hx]; exact List.getElem_mem hkl)
        rw [hx] at x0
        have HK := Lib.hid hkl
        have Y := Lib.hid (fun (h : hi < l.length) => (show l[hi]'h = x from hx))
        have hc := HC.out x MEM.out wr hb.out
        skip
        clear hx hkl
        by_cases hyx : cft x = 0
        · go_wp2_with (refine hc.mono ?_; rintro e w' ⟨rfl, hb'⟩; have HB' := Lib.hid (below_from hb' hb.out hb.out.size); clear hb')
          go_ret2
          exact ⟨hi, true, by simp, ⟨Nat.le_of_lt HK.out, I.out.1, I.out.2, ⟨fun _ => ⟨HK.out, by rw [Y.out]; exact hyx⟩, fun _ => rfl⟩⟩, HB'.out⟩
        · go_wp2_with (refine hc.mono ?_; rintro e w' ⟨rfl, hb'⟩; have HB' := Lib.hid (below_from hb' hb.out hb.out.size); clear hb')
          go_ret2
          exact ⟨hi, false, by simp [hyx], ⟨Nat.le_of_lt HK.out, I.out.1, I.out.2, ⟨fun h => (by cases h), fun h => absurd (by obtain ⟨_, h⟩ := h; rw [Y.out] at h; exact h) hyx⟩⟩, HB'.out⟩
      · go_wp2
        go_ret2
        exact ⟨hi, false, rfl, ⟨by rw [HN.out]; omega, I.out.1, I.out.2, ⟨fun h => (by cases h), fun h => absurd h.1 (by rw [HN.out]; omega)⟩⟩, hb.out⟩
end Go.Proofs.Ytnigjchgpmladaa
