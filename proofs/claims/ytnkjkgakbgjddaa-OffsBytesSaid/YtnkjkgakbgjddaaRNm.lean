/- The document's Name, Tp, Pos and Less. -/
import Derived.Test.YtnkjkgakbgjddaaLive
namespace Go.Proofs.Ytnkjkgakbgjddaa
open Go.RowKit

theorem less_eq : ∀ (a b : List UInt8), Op.bytesLess a b = decide (Lib.compareBytes a b < 0)
  | [], [] => rfl
  | [], _ :: _ => by simp [Op.bytesLess, Lib.compareBytes]
  | _ :: _, [] => by simp [Op.bytesLess, Lib.compareBytes]
  | a :: xs, b :: ys => by
    have ih := less_eq xs ys
    unfold Lib.compareBytes
    by_cases h1 : a < b
    · rw [if_pos h1]; simp [Op.bytesLess, h1]
    · rw [if_neg h1]
      by_cases h2 : b < a
      · have hne : ¬ a = b := fun e => by subst e; exact UInt8.lt_irrefl _ h2
        rw [if_pos h2]; simp [Op.bytesLess, h1, hne]
      · rw [if_neg h2, ← ih]
        have e : a = b := UInt8.le_antisymm (UInt8.not_lt.1 h2) (UInt8.not_lt.1 h1)
        subst e
        simp [Op.bytesLess]
theorem bl_eq (a b : ByteArray) : Op.bytesLess a.toList b.toList = decide (cmpS a b < 0) := by rw [Lib.toList_data, Lib.toList_data, less_eq]; rfl
/-- A partition ahead of another one. -/
def ordT (t : ByteArray) (p h : Int) (t' : ByteArray) (p' h' : Int) : Int := orI (cmpS t t') (orI (cmpI p p') (cmpI h h'))
theorem orI_ne {x y : Int} (h : x ≠ 0) : orI x y = x := by unfold orI; rw [if_neg h]
theorem orI_z {x y : Int} (h : x = 0) : orI x y = y := by unfold orI; rw [if_pos h]
theorem cmpI_lt {a b : Int} : cmpI a b < 0 ↔ a < b := by unfold cmpI; (repeat' split) <;> omega

set_option maxHeartbeats 2000000 in
/-- Whether a text is a name. -/
theorem rname_any (s : ByteArray) (w : World) (hs : s.size ≤ maxLen) : Calls Try.prog 68 #[.string s] w fun e w' => e = .returned (.bool (nameC s)) ∧ Below w.heap.size w w' := by
  have hmax : s.size ≤ 9223372036854775807 := by simpa [maxLen] using hs
  clear hs
  go_enter Try.func68, Try.ntmps68
  go_wp2_with fail
  go_loopg [3] s.size (fun gg s3 wr => ∃ k : Nat, k ≤ s.size ∧ s.size - k ≤ gg ∧ s3 = .int .i64 k ∧ wr = w ∧ Hid (∀ j (hj : j < s.size), j < k → fineB s[j] = true))
  case atStart => exact ⟨0, Nat.zero_le _, by omega, rfl, rfl, Lib.hid (fun j _ hj => absurd hj (Nat.not_lt_zero _))⟩
  case round =>
    obtain ⟨k, hk, hgg, rfl, rfl, hok⟩ := hrel
    by_cases hlt : k < s.size
    · obtain ⟨y, hy⟩ : ∃ y, s[k] = y := ⟨_, rfl⟩
      have NO : Hid (fineB y = false → nameC s = false) := Lib.hid (fun h => by
        unfold nameC
        have : fineS s = false := by
          cases hf : fineS s with
          | false => rfl
          | true => have := fine_at hf hlt; rw [hy, h] at this; cases this
        rw [this, Bool.and_false])
      have YES : Hid (fineB y = true → ∀ j (hj : j < s.size), j < k + 1 → fineB s[j] = true) := Lib.hid (fun h j hj hjk => by
        rcases Nat.lt_or_ge j k with h' | h'
        · exact hok.out j hj h'
        · obtain rfl : j = k := by omega
          rw [hy]; exact h)
      by_cases y1 : y.toNat < 33
      · go_wp2_with fail
        go_ret
        exact ⟨ret_bool (NO.out (decide_eq_false (by omega))).symm, Below.refl _ _⟩
      · by_cases y2 : 126 < y.toNat
        · go_wp2_with fail
          go_ret
          exact ⟨ret_bool (NO.out (decide_eq_false (by omega))).symm, Below.refl _ _⟩
        · go_wp2_with fail
          go_roundg (s.size - (k + 1))
          case measure => omega
          case rel => exact ⟨k + 1, by omega, by omega, by go_num, rfl, YES.out (decide_eq_true (by omega))⟩
    · obtain rfl : k = s.size := by omega
      have FS := Lib.hid (fine_of (fun i hi => hok.out i hi hi))
      by_cases h0 : 1 ≤ s.size
      · have d0 : decide ((1 : Int) ≤ (s.size : Int)) = true := decide_eq_true (by omega)
        by_cases h2 : s.size ≤ 64
        · have d1 : decide ((s.size : Int) ≤ 64) = true := decide_eq_true (by omega)
          have hn : nameC s = true := by unfold nameC; rw [FS.out, decide_eq_true (by omega)]; rfl
          have HN := Lib.hid hn
          clear hn h0 h2
          go_wp2_with fail
          go_ret
          exact ⟨ret_bool (by rw [HN.out]), Below.refl _ _⟩
        · have d1 : decide ((s.size : Int) ≤ 64) = false := decide_eq_false (by omega)
          have hn : nameC s = false := by unfold nameC; rw [decide_eq_false (by omega)]; rfl
          have HN := Lib.hid hn
          clear hn h0 h2
          go_wp2_with fail
          go_ret
          exact ⟨ret_bool (by rw [HN.out]), Below.refl _ _⟩
      · have d0 : decide ((1 : Int) ≤ (s.size : Int)) = false := decide_eq_false (by omega)
        have hn : nameC s = false := by unfold nameC; rw [decide_eq_false (by omega)]; rfl
        have HN := Lib.hid hn
        clear hn h0
        go_wp2_with fail
        go_ret
        exact ⟨ret_bool (by rw [HN.out]), Below.refl _ _⟩

set_option maxRecDepth 100000 in
set_option maxHeartbeats 2000000 in
theorem rtp_any (t : ByteArray) (p h : Int) (w : World) (ht : t.size ≤ maxLen) : Calls Try.prog 69 #[.agg #[.string t, .int .i64 p, .int .i64 h]] w fun e w' => e = .returned (.bool (nameC t && decide (0 ≤ p ∧ p ≤ 5) && decide (0 ≤ h ∧ h ≤ 3))) ∧ Below w.heap.size w w' := by
  have S0 := Lib.hid (Has.newAt w #[.string t, .int .i64 p, .int .i64 h] 27 (g := w.heap.size) rfl)
  have B0 := Lib.hid (below_alloc1 w (.cells #[.string t, .int .i64 p, .int .i64 h] 27))
  have NM := Lib.hid (fun W => rname_any t W ht)
  obtain ⟨nm, hnm⟩ : ∃ nm, nameC t = nm := ⟨_, rfl⟩
  rw [hnm] at NM ⊢
  obtain ⟨R, hR⟩ : ∃ R, (nm && decide (0 ≤ p ∧ p ≤ 5) && decide (0 ≤ h ∧ h ≤ 3)) = R := ⟨_, rfl⟩
  have HR := Lib.hid hR
  rw [hR]
  clear hR hnm
  cases nm with
  | false =>
    go_enter Try.func69, Try.ntmps69
    go_wp2_with (refine (NM.out _).mono ?_; rintro e w1 ⟨rfl, hb⟩; have B1 := Lib.hid (below_from hb B0.out B0.out.size); clear hb)
    go_ret
    exact ⟨ret_bool (by rw [← HR.out]; rfl), B1.out⟩
  | true =>
    by_cases c1 : 0 ≤ p
    · have d1 : decide (0 ≤ p) = true := decide_eq_true c1
      by_cases c2 : p < 6
      · have d2 : decide (p < 6) = true := decide_eq_true c2
        by_cases c3 : 0 ≤ h
        · have d3 : decide (0 ≤ h) = true := decide_eq_true c3
          by_cases c4 : h < 4
          · have d4 : decide (h < 4) = true := decide_eq_true c4
            have RR := Lib.hid (show R = true from by rw [← HR.out, decide_eq_true (show 0 ≤ p ∧ p ≤ 5 by omega), decide_eq_true (show 0 ≤ h ∧ h ≤ 3 by omega)]; rfl)
            go_enter Try.func69, Try.ntmps69
            go_wp2_with (refine (NM.out _).mono ?_; rintro e w1 ⟨rfl, hb⟩; have B1 := Lib.hid (below_from hb B0.out B0.out.size); have s1c := (S0.out.past hb).cell; have s1l := (S0.out.past hb).lt; clear hb)
            go_ret
            exact ⟨ret_bool (by rw [RR.out]), B1.out⟩
          · have d4 : decide (h < 4) = false := decide_eq_false c4
            have RR := Lib.hid (show R = false from by rw [← HR.out, decide_eq_false (show ¬ (0 ≤ h ∧ h ≤ 3) by omega), Bool.and_false])
            go_enter Try.func69, Try.ntmps69
            go_wp2_with (refine (NM.out _).mono ?_; rintro e w1 ⟨rfl, hb⟩; have B1 := Lib.hid (below_from hb B0.out B0.out.size); have s1c := (S0.out.past hb).cell; have s1l := (S0.out.past hb).lt; clear hb)
            go_ret
            exact ⟨ret_bool (by rw [RR.out]), B1.out⟩
        · have d3 : decide (0 ≤ h) = false := decide_eq_false c3
          have RR := Lib.hid (show R = false from by rw [← HR.out, decide_eq_false (show ¬ (0 ≤ h ∧ h ≤ 3) by omega), Bool.and_false])
          go_enter Try.func69, Try.ntmps69
          go_wp2_with (refine (NM.out _).mono ?_; rintro e w1 ⟨rfl, hb⟩; have B1 := Lib.hid (below_from hb B0.out B0.out.size); have s1c := (S0.out.past hb).cell; have s1l := (S0.out.past hb).lt; clear hb)
          go_ret
          exact ⟨ret_bool (by rw [RR.out]), B1.out⟩
      · have d2 : decide (p < 6) = false := decide_eq_false c2
        have RR := Lib.hid (show R = false from by rw [← HR.out, decide_eq_false (show ¬ (0 ≤ p ∧ p ≤ 5) by omega)]; rfl)
        go_enter Try.func69, Try.ntmps69
        go_wp2_with (refine (NM.out _).mono ?_; rintro e w1 ⟨rfl, hb⟩; have B1 := Lib.hid (below_from hb B0.out B0.out.size); have s1c := (S0.out.past hb).cell; have s1l := (S0.out.past hb).lt; clear hb)
        go_ret
        exact ⟨ret_bool (by rw [RR.out]), B1.out⟩
    · have d1 : decide (0 ≤ p) = false := decide_eq_false c1
      have RR := Lib.hid (show R = false from by rw [← HR.out, decide_eq_false (show ¬ (0 ≤ p ∧ p ≤ 5) by omega)]; rfl)
      go_enter Try.func69, Try.ntmps69
      go_wp2_with (refine (NM.out _).mono ?_; rintro e w1 ⟨rfl, hb⟩; have B1 := Lib.hid (below_from hb B0.out B0.out.size); have s1c := (S0.out.past hb).cell; have s1l := (S0.out.past hb).lt; clear hb)
      go_ret
      exact ⟨ret_bool (by rw [RR.out]), B1.out⟩

set_option maxRecDepth 100000 in
set_option maxHeartbeats 2000000 in
theorem rpos_any (x : Ps) (w : World) (hg : x.g.size ≤ maxLen) (ht : x.t.size ≤ maxLen) : Calls Try.prog 39 #[x.v] w fun e w' => e = .returned (.bool (rightP x)) ∧ Below w.heap.size w w' := by
  obtain ⟨g, t, p, h, o⟩ := x
  have S0 := Lib.hid (Has.newAt w #[.string g, .string t, .int .i64 p, .int .i64 h, .int .i64 o] 29 (g := w.heap.size) rfl)
  have B0 := Lib.hid (below_alloc1 w (.cells #[.string g, .string t, .int .i64 p, .int .i64 h, .int .i64 o] 29))
  have NM := Lib.hid (fun W => rname_any g W hg)
  have TP := Lib.hid (fun W => rtp_any t p h W ht)
  obtain ⟨R, hR⟩ : ∃ R, rightP ⟨g, t, p, h, o⟩ = R := ⟨_, rfl⟩
  have HR := Lib.hid (show (nameC g && nameC t && decide (0 ≤ p ∧ p ≤ 5) && decide (0 ≤ h ∧ h ≤ 3) && decide (0 ≤ o ∧ o ≤ 1099511627776)) = R from hR)
  rw [hR]
  obtain ⟨a, ha⟩ : ∃ a, nameC g = a := ⟨_, rfl⟩
  obtain ⟨b, hb⟩ : ∃ b, (nameC t && decide (0 ≤ p ∧ p ≤ 5) && decide (0 ≤ h ∧ h ≤ 3)) = b := ⟨_, rfl⟩
  have HR2 := Lib.hid (show (a && b && decide (0 ≤ o ∧ o ≤ 1099511627776)) = R from by rw [← HR.out, ← ha, ← hb]; simp only [Bool.and_assoc])
  rw [ha] at NM
  rw [hb] at TP
  clear hR ha hb HR
  unfold Ps.v
  cases a with
  | false =>
    go_enter Try.func39, Try.ntmps39
    go_wp2_with (refine (NM.out _).mono ?_; rintro e w1 ⟨rfl, hb⟩; have B1 := Lib.hid (below_from hb B0.out B0.out.size); clear hb)
    go_ret
    exact ⟨ret_bool (by rw [← HR2.out]; rfl), B1.out⟩
  | true =>
    cases b with
    | false =>
      go_enter Try.func39, Try.ntmps39
      go_wp2_with (first | (go_at_call 68; refine (NM.out _).mono ?_; rintro e w1 ⟨rfl, hb⟩; have B1 := Lib.hid (below_from hb B0.out B0.out.size); have S1 := Lib.hid (S0.out.past hb); have s1c := S1.out.cell; have s1l := S1.out.lt; clear hb) | (go_at_call 69; refine (TP.out _).mono ?_; rintro e w2 ⟨rfl, hb⟩; have B2 := Lib.hid (below_from hb B1.out B1.out.size); have s2c := (S1.out.past hb).cell; have s2l := (S1.out.past hb).lt; clear hb s1c s1l))
      go_ret
      exact ⟨ret_bool (by rw [← HR2.out]; rfl), B2.out⟩
    | true =>
      by_cases c1 : 0 ≤ o
      · have d1 : decide (0 ≤ o) = true := decide_eq_true c1
        by_cases c2 : o ≤ 1099511627776
        · have d2 : decide (o ≤ 1099511627776) = true := decide_eq_true c2
          have RR := Lib.hid (show R = true from by rw [← HR2.out, decide_eq_true (And.intro c1 c2)]; rfl)
          go_enter Try.func39, Try.ntmps39
          go_wp2_with (first | (go_at_call 68; refine (NM.out _).mono ?_; rintro e w1 ⟨rfl, hb⟩; have B1 := Lib.hid (below_from hb B0.out B0.out.size); have S1 := Lib.hid (S0.out.past hb); have s1c := S1.out.cell; have s1l := S1.out.lt; clear hb) | (go_at_call 69; refine (TP.out _).mono ?_; rintro e w2 ⟨rfl, hb⟩; have B2 := Lib.hid (below_from hb B1.out B1.out.size); have s2c := (S1.out.past hb).cell; have s2l := (S1.out.past hb).lt; clear hb s1c s1l))
          go_ret
          exact ⟨ret_bool (by rw [RR.out]), B2.out⟩
        · have d2 : decide (o ≤ 1099511627776) = false := decide_eq_false c2
          have RR := Lib.hid (show R = false from by rw [← HR2.out, decide_eq_false (fun h : 0 ≤ o ∧ o ≤ 1099511627776 => c2 h.2)]; rfl)
          go_enter Try.func39, Try.ntmps39
          go_wp2_with (first | (go_at_call 68; refine (NM.out _).mono ?_; rintro e w1 ⟨rfl, hb⟩; have B1 := Lib.hid (below_from hb B0.out B0.out.size); have S1 := Lib.hid (S0.out.past hb); have s1c := S1.out.cell; have s1l := S1.out.lt; clear hb) | (go_at_call 69; refine (TP.out _).mono ?_; rintro e w2 ⟨rfl, hb⟩; have B2 := Lib.hid (below_from hb B1.out B1.out.size); have s2c := (S1.out.past hb).cell; have s2l := (S1.out.past hb).lt; clear hb s1c s1l))
          go_ret
          exact ⟨ret_bool (by rw [RR.out]), B2.out⟩
      · have d1 : decide (0 ≤ o) = false := decide_eq_false c1
        have RR := Lib.hid (show R = false from by rw [← HR2.out, decide_eq_false (fun h : 0 ≤ o ∧ o ≤ 1099511627776 => c1 h.1)]; rfl)
        go_enter Try.func39, Try.ntmps39
        go_wp2_with (first | (go_at_call 68; refine (NM.out _).mono ?_; rintro e w1 ⟨rfl, hb⟩; have B1 := Lib.hid (below_from hb B0.out B0.out.size); have S1 := Lib.hid (S0.out.past hb); have s1c := S1.out.cell; have s1l := S1.out.lt; clear hb) | (go_at_call 69; refine (TP.out _).mono ?_; rintro e w2 ⟨rfl, hb⟩; have B2 := Lib.hid (below_from hb B1.out B1.out.size); have s2c := (S1.out.past hb).cell; have s2l := (S1.out.past hb).lt; clear hb s1c s1l))
        go_ret
        exact ⟨ret_bool (by rw [RR.out]), B2.out⟩

set_option maxRecDepth 100000 in
set_option maxHeartbeats 2000000 in
theorem rlessT_any (t : ByteArray) (p h : Int) (t' : ByteArray) (p' h' : Int) (w : World) : Calls Try.prog 73 #[.agg #[.string t, .int .i64 p, .int .i64 h], .agg #[.string t', .int .i64 p', .int .i64 h']] w fun e w' => e = .returned (.bool (decide (ordT t p h t' p' h' < 0))) ∧ Below w.heap.size w w' := by
  have B0 := Lib.hid ((below_alloc1 w (.cells #[.string t, .int .i64 p, .int .i64 h] 27)).alloc (by simp) (.cells #[.string t', .int .i64 p', .int .i64 h'] 27))
  obtain ⟨R, hR⟩ : ∃ R, decide (ordT t p h t' p' h' < 0) = R := ⟨_, rfl⟩
  rw [hR]
  by_cases h1 : t = t'
  · subst h1
    by_cases h2 : p = p'
    · subst h2
      have RR := Lib.hid (show R = decide (h < h') from by rw [← hR]; unfold ordT; rw [orI_z (cmpS_eq.2 rfl), orI_z (cmpI_eq.2 rfl), Bool.eq_iff_iff, decide_eq_true_iff, decide_eq_true_iff, cmpI_lt])
      clear hR
      go_enter Try.func73, Try.ntmps73
      go_wp2_with fail
      go_ret
      exact ⟨ret_bool (by rw [RR.out]), B0.out⟩
    · obtain ⟨d1, d2⟩ := int_ne h2
      have RR := Lib.hid (show R = decide (p < p') from by rw [← hR]; unfold ordT; rw [orI_z (cmpS_eq.2 rfl), orI_ne (fun h => h2 (cmpI_eq.1 h)), Bool.eq_iff_iff, decide_eq_true_iff, decide_eq_true_iff, cmpI_lt])
      clear hR h2
      go_enter Try.func73, Try.ntmps73
      go_wp2_with fail
      go_ret
      exact ⟨ret_bool (by rw [RR.out]), B0.out⟩
  · obtain ⟨d1, d2, d3⟩ := str_nes h1
    have RR := Lib.hid (show R = Op.bytesLess t.toList t'.toList from by rw [← hR, bl_eq]; unfold ordT; rw [orI_ne (fun h => h1 (cmpS_eq.1 h))])
    clear hR h1
    go_enter Try.func73, Try.ntmps73
    go_wp2_with fail
    go_ret
    exact ⟨ret_bool (by rw [RR.out]), B0.out⟩
set_option maxRecDepth 100000 in
set_option maxHeartbeats 2000000 in
theorem rless_any (a b : Ps) (w : World) : Calls Try.prog 49 #[a.v, b.v] w fun e w' => e = .returned (.bool (decide (ordP a b < 0))) ∧ Below w.heap.size w w' := by
  obtain ⟨ag, at_, ap, ah, ao⟩ := a
  obtain ⟨bg, bt, bp, bh, bo⟩ := b
  have B0 := Lib.hid ((below_alloc1 w (.cells #[.string ag, .string at_, .int .i64 ap, .int .i64 ah, .int .i64 ao] 29)).alloc (by simp) (.cells #[.string bg, .string bt, .int .i64 bp, .int .i64 bh, .int .i64 bo] 29))
  have LT := Lib.hid (fun W => rlessT_any at_ ap ah bt bp bh W)
  obtain ⟨R, hR⟩ : ∃ R, decide (ordP ⟨ag, at_, ap, ah, ao⟩ ⟨bg, bt, bp, bh, bo⟩ < 0) = R := ⟨_, rfl⟩
  rw [hR]
  unfold Ps.v
  by_cases h1 : ag = bg
  · subst h1
    have RR := Lib.hid (show R = decide (ordT at_ ap ah bt bp bh < 0) from by rw [← hR]; unfold ordP ordT; rw [orI_z (cmpS_eq.2 rfl)])
    obtain ⟨q, hq⟩ : ∃ q, decide (ordT at_ ap ah bt bp bh < 0) = q := ⟨_, rfl⟩
    rw [hq] at LT RR
    clear hR hq
    go_enter Try.func49, Try.ntmps49
    go_wp2_with (refine (LT.out _).mono ?_; rintro e w1 ⟨rfl, hb⟩; have B1 := Lib.hid (below_from hb B0.out B0.out.size); clear hb)
    go_ret
    exact ⟨ret_bool (by rw [RR.out]), B1.out⟩
  · obtain ⟨d1, d2, d3⟩ := str_nes h1
    have RR := Lib.hid (show R = Op.bytesLess ag.toList bg.toList from by rw [← hR, bl_eq]; unfold ordP; rw [orI_ne (fun h => h1 (cmpS_eq.1 h))])
    clear hR h1
    go_enter Try.func49, Try.ntmps49
    go_wp2_with fail
    go_ret
    exact ⟨ret_bool (by rw [RR.out]), B0.out⟩
set_option maxRecDepth 100000 in
set_option maxHeartbeats 2000000 in
theorem rlessW_any (a b : Wt) (w : World) : Calls Try.prog 45 #[a.v, b.v] w fun e w' => e = .returned (.bool (decide (ordW a b < 0))) ∧ Below w.heap.size w w' := by
  obtain ⟨ai, a⟩ := a
  obtain ⟨bi, b⟩ := b
  have B0 := Lib.hid ((below_alloc1 w (.cells #[.int .i64 ai, .string a.g, .string a.t, .int .i64 a.p, .int .i64 a.h, .int .i64 a.o] 52)).alloc (by simp) (.cells #[.int .i64 bi, .string b.g, .string b.t, .int .i64 b.p, .int .i64 b.h, .int .i64 b.o] 52))
  have LT := Lib.hid (fun W => rless_any a b W)
  obtain ⟨R, hR⟩ : ∃ R, decide (ordW ⟨ai, a⟩ ⟨bi, b⟩ < 0) = R := ⟨_, rfl⟩
  rw [hR]
  unfold Wt.v
  simp only
  by_cases h1 : ai = bi
  · subst h1
    have RR := Lib.hid (show R = decide (ordP a b < 0) from by rw [← hR]; unfold ordW; rw [orI_z (cmpI_eq.2 rfl)])
    obtain ⟨q, hq⟩ : ∃ q, decide (ordP a b < 0) = q := ⟨_, rfl⟩
    rw [hq] at LT RR
    clear hR hq
    go_enter Try.func45, Try.ntmps45
    go_wp2_with (refine (LT.out _).mono ?_; rintro e w1 ⟨rfl, hb⟩; have B1 := Lib.hid (below_from hb B0.out B0.out.size); clear hb)
    go_ret
    exact ⟨ret_bool (by rw [RR.out]), B1.out⟩
  · obtain ⟨d1, d2⟩ := int_ne h1
    have RR := Lib.hid (show R = decide (ai < bi) from by rw [← hR]; unfold ordW; rw [orI_ne (fun h => h1 (cmpI_eq.1 h)), Bool.eq_iff_iff, decide_eq_true_iff, decide_eq_true_iff, cmpI_lt])
    clear hR h1
    go_enter Try.func45, Try.ntmps45
    go_wp2_with fail
    go_ret
    exact ⟨ret_bool (by rw [RR.out]), B0.out⟩

end Go.Proofs.Ytnkjkgakbgjddaa
