/- How texts, numbers and partitions compare; the document's Name, Tp and Less. -/
import Derived.Test.YtnigjchgpmladaaCor
import Derived.Test.YtnigjchgpmladaaBas
import Derived.Laws.Externs
import Derived.Shelf.Abstract
namespace Go.Proofs.Ytnigjchgpmladaa
open Go.RowKit Go.Shelf

set_option maxRecDepth 100000 in
theorem cmpstr_any (a b : ByteArray) (w : World) : Calls Try.prog 96 #[.string a, .string b] w fun e w' => e = .returned (.int .i64 (cmpS a b)) ∧ w' = w := by
  go_enter Try.func96, Try.ntmps96
  go_wp2
  rw [run_callFunc_extern Try.func104 (by kernel_rfl) (by kernel_rfl) (by kernel_rfl) (e := Extern.BytealgCompare.compare) (by kernel_rfl), Lib.run_compareString]
  simp only [Result.andThen]
  rw [Oper.upon_value]
  go_wp2
  go_ret
  exact ⟨rfl, rfl⟩
theorem compare_any (a b : ByteArray) (w : World) : Calls Try.prog 74 #[.string a, .string b] w fun e w' => e = .returned (.int .i64 (cmpS a b)) ∧ w' = w := by
  go_enter Try.func74, Try.ntmps74
  go_wp2_with (go_at_call 96; refine (cmpstr_any _ _ _).mono ?_; rintro e w' ⟨rfl, rfl⟩)
  go_ret
  exact ⟨rfl, rfl⟩
theorem nan_any (a : Int) (w : World) : Calls Try.prog 101 #[.int .i64 a] w fun e w' => e = .returned (.bool false) ∧ w' = w := by
  go_enter Try.func101, Try.ntmps101
  go_wp2
  go_ret
  exact ⟨ret_bool (by simp), rfl⟩
theorem cmpint_any (a b : Int) (w : World) : Calls Try.prog 92 #[.int .i64 a, .int .i64 b] w fun e w' => e = .returned (.int .i64 (cmpI a b)) ∧ w' = w := by
  have H : Hid (cmpI a b = if a < b then -1 else if b < a then 1 else 0) := Lib.hid rfl
  by_cases h1 : a < b
  · have d1 : decide (a < b) = true := decide_eq_true h1
    rw [if_pos h1] at H
    go_enter Try.func92, Try.ntmps92
    go_wp2_with (go_at_call 101; refine (nan_any _ _).mono ?_; rintro e w' ⟨rfl, rfl⟩)
    go_ret
    exact ⟨ret_int H.out.symm, rfl⟩
  · have d1 : decide (a < b) = false := decide_eq_false h1
    rw [if_neg h1] at H
    by_cases h2 : b < a
    · have d2 : decide (b < a) = true := decide_eq_true h2
      rw [if_pos h2] at H
      go_enter Try.func92, Try.ntmps92
      go_wp2_with (go_at_call 101; refine (nan_any _ _).mono ?_; rintro e w' ⟨rfl, rfl⟩)
      go_ret
      exact ⟨ret_int H.out.symm, rfl⟩
    · have d2 : decide (b < a) = false := decide_eq_false h2
      rw [if_neg h2] at H
      go_enter Try.func92, Try.ntmps92
      go_wp2_with (go_at_call 101; refine (nan_any _ _).mono ?_; rintro e w' ⟨rfl, rfl⟩)
      go_ret
      exact ⟨ret_int H.out.symm, rfl⟩

/-- The first that is not nought. -/
def orL : List Int → Int
  | [] => 0
  | a :: l => orI a (orL l)
theorem orL_at : ∀ {l : List Int} {k : Nat} (hk : k < l.length), (∀ j (h : j < l.length), j < k → l[j] = 0) → l[k] ≠ 0 → orL l = l[k]
  | a :: l, 0, _, _, h => by unfold orL orI; rw [if_neg (show ¬ a = 0 from h)]; rfl
  | a :: l, k + 1, hk, h0, h => by
    have ha : a = 0 := h0 0 (by simp) (by omega)
    subst ha
    unfold orL orI
    rw [if_pos rfl, List.getElem_cons_succ]
    exact orL_at (by simpa using hk) (fun j hj hjk => by have := h0 (j + 1) (by simpa using hj) (by omega); simpa using this) (by simpa using h)
theorem orL_no : ∀ {l : List Int}, (∀ j (h : j < l.length), l[j] = 0) → orL l = 0
  | [], _ => rfl
  | a :: l, h => by
    have ha : a = 0 := h 0 (by simp)
    subst ha
    unfold orL orI
    rw [if_pos rfl]
    exact orL_no fun j hj => by have := h (j + 1) (by simpa using hj); simpa using this
set_option maxHeartbeats 1000000 in
theorem or_any (A : Option Addr) (n c : Nat) (l : List Int) (w : World) (hl : Sl intK w A n c l) : Calls Try.prog 91 #[.slice A n c] w fun e w' => e = .returned (.int .i64 (orL l)) ∧ w' = w := by
  have hmax := hl.max
  have hcap := hl.cap
  have HL := Lib.hid hl
  have HN := Lib.hid hl.len
  clear hl
  go_enter Try.func91, Try.ntmps91
  go_wp2_with fail
  go_loopg [8] n (fun gg s8 wr => ∃ k : Nat, k ≤ n ∧ n - k ≤ gg ∧ s8 = .int .i64 k ∧ wr = w ∧ Hid (∀ j (hj : j < l.length), j < k → l[j] = 0))
  case atStart => exact ⟨0, Nat.zero_le _, by omega, rfl, rfl, Lib.hid (fun j _ hj => absurd hj (Nat.not_lt_zero _))⟩
  case round =>
    obtain ⟨k, hk, hgg, rfl, rfl, hok⟩ := hrel
    by_cases hlt : k < n
    · obtain ⟨b, off, hkl, rfl, hbl, hc⟩ := HL.out.get hlt
      have x0 : wr.cell? ⟨b, off + k, none⟩ = some (.int .i64 l[k]) := by have := hc 0 (by decide); simpa [intK] using this
      clear hc
      by_cases h0 : l[k] = 0
      · have NX : Hid (∀ j (hj : j < l.length), j < k + 1 → l[j] = 0) := Lib.hid (fun j hj hjk => by
          rcases Nat.lt_or_ge j k with h' | h'
          · exact hok.out j hj h'
          · obtain rfl : j = k := by omega
            exact h0)
        rw [h0] at x0
        clear h0
        go_wp2_with fail
        go_roundg (n - (k + 1))
        case measure => omega
        case rel => exact ⟨k + 1, by omega, by omega, by go_num, rfl, NX⟩
      · have R := Lib.hid (orL_at hkl hok.out h0)
        generalize l[k] = x at *
        go_wp2_with fail
        go_ret
        exact ⟨ret_int R.out.symm, rfl⟩
    · obtain rfl : k = n := by omega
      have R := Lib.hid (orL_no (l := l) fun j hj => hok.out j hj (by rw [← HN.out]; exact hj))
      go_wp2_with fail
      go_ret
      exact ⟨ret_int R.out.symm, rfl⟩

/-- How tests of texts and numbers are spelled. -/
theorem str_nes {a b : ByteArray} (h : a ≠ b) : (a.toList == b.toList) = false ∧ decide (a = b) = false ∧ decide (a.toList = b.toList) = false := ⟨str_ne h, decide_eq_false h, decide_eq_false (str_ne' h)⟩
theorem int_ne {a b : Int} (h : a ≠ b) : (a == b) = false ∧ decide (a = b) = false := ⟨beq_eq_false_iff_ne.2 h, decide_eq_false h⟩

theorem less_eq : ∀ (a b : List UInt8), Op.bytesLess a b = decide (Lib.compareBytes a b < 0)
  | [], [] => rfl
  | [], _ :: _ => by simp [Op.bytesLess, Lib.compareBytes]
  | _ :: _, [] => by simp [Op.bytesLess, Lib.compareBytes]
  | a :: xs, b :: ys => by
    have ih := less_eq xs ys
    unfold Lib.compareBytes
    by_cases h1 : a < b
    · rw [if_pos h1]; simp [Op.bytesLess, h1]
    · rw [if_neg h1]
      by_cases h2 : b < a
      · have hne : ¬ a = b := fun e => by subst e; exact UInt8.lt_irrefl _ h2
        rw [if_pos h2]; simp [Op.bytesLess, h1, hne]
      · rw [if_neg h2, ← ih]
        have e : a = b := UInt8.le_antisymm (UInt8.not_lt.1 h2) (UInt8.not_lt.1 h1)
        subst e
        simp [Op.bytesLess]
theorem bl_eq (a b : ByteArray) : Op.bytesLess a.toList b.toList = decide (cmpS a b < 0) := by rw [Lib.toList_data, Lib.toList_data, less_eq]; rfl
/-- A partition ahead of another one. -/
def ordT6 (t : ByteArray) (p h : Int) (t' : ByteArray) (p' h' : Int) : Int := orI (cmpS t t') (orI (cmpI p p') (cmpI h h'))
theorem orI_ne {x y : Int} (h : x ≠ 0) : orI x y = x := by unfold orI; rw [if_neg h]
theorem orI_z {x y : Int} (h : x = 0) : orI x y = y := by unfold orI; rw [if_pos h]
theorem cmpI_lt {a b : Int} : cmpI a b < 0 ↔ a < b := by unfold cmpI; (repeat' split) <;> omega

set_option maxHeartbeats 2000000 in
/-- Whether a text is a name. -/
theorem rname_any (s : ByteArray) (w : World) (hs : s.size ≤ maxLen) : Calls Try.prog 50 #[.string s] w fun e w' => e = .returned (.bool (nameC s)) ∧ Below w.heap.size w w' := by
  have hmax : s.size ≤ 9223372036854775807 := by simpa [maxLen] using hs
  clear hs
  go_enter Try.func50, Try.ntmps50
  go_wp2_with fail
  go_loopg [3] s.size (fun gg s3 wr => ∃ k : Nat, k ≤ s.size ∧ s.size - k ≤ gg ∧ s3 = .int .i64 k ∧ wr = w ∧ Hid (∀ j (hj : j < s.size), j < k → fineB s[j] = true))
  case atStart => exact ⟨0, Nat.zero_le _, by omega, rfl, rfl, Lib.hid (fun j _ hj => absurd hj (Nat.not_lt_zero _))⟩
  case round =>
    obtain ⟨k, hk, hgg, rfl, rfl, hok⟩ := hrel
    by_cases hlt : k < s.size
    · obtain ⟨y, hy⟩ : ∃ y, s[k] = y := ⟨_, rfl⟩
      have NO : Hid (fineB y = false → nameC s = false) := Lib.hid (fun h => by
        unfold nameC
        have : fineS s = false := by
          cases hf : fineS s with
          | false => rfl
          | true => have := fine_at hf hlt; rw [hy, h] at this; cases this
        rw [this, Bool.and_false])
      have YES : Hid (fineB y = true → ∀ j (hj : j < s.size), j < k + 1 → fineB s[j] = true) := Lib.hid (fun h j hj hjk => by
        rcases Nat.lt_or_ge j k with h' | h'
        · exact hok.out j hj h'
        · obtain rfl : j = k := by omega
          rw [hy]; exact h)
      by_cases y1 : y.toNat < 33
      · go_wp2_with fail
        go_ret
        exact ⟨ret_bool (NO.out (decide_eq_false (by omega))).symm, Below.refl _ _⟩
      · by_cases y2 : 126 < y.toNat
        · go_wp2_with fail
          go_ret
          exact ⟨ret_bool (NO.out (decide_eq_false (by omega))).symm, Below.refl _ _⟩
        · go_wp2_with fail
          go_roundg (s.size - (k + 1))
          case measure => omega
          case rel => exact ⟨k + 1, by omega, by omega, by go_num, rfl, YES.out (decide_eq_true (by omega))⟩
    · obtain rfl : k = s.size := by omega
      have FS := Lib.hid (fine_of (fun i hi => hok.out i hi hi))
      by_cases h0 : 1 ≤ s.size
      · have d0 : decide ((1 : Int) ≤ (s.size : Int)) = true := decide_eq_true (by omega)
        by_cases h2 : s.size ≤ 64
        · have d1 : decide ((s.size : Int) ≤ 64) = true := decide_eq_true (by omega)
          have hn : nameC s = true := by unfold nameC; rw [FS.out, decide_eq_true (by omega)]; rfl
          have HN := Lib.hid hn
          clear hn h0 h2
          go_wp2_with fail
          go_ret
          exact ⟨ret_bool (by rw [HN.out]), Below.refl _ _⟩
        · have d1 : decide ((s.size : Int) ≤ 64) = false := decide_eq_false (by omega)
          have hn : nameC s = false := by unfold nameC; rw [decide_eq_false (by omega)]; rfl
          have HN := Lib.hid hn
          clear hn h0 h2
          go_wp2_with fail
          go_ret
          exact ⟨ret_bool (by rw [HN.out]), Below.refl _ _⟩
      · have d0 : decide ((1 : Int) ≤ (s.size : Int)) = false := decide_eq_false (by omega)
        have hn : nameC s = false := by unfold nameC; rw [decide_eq_false (by omega)]; rfl
        have HN := Lib.hid hn
        clear hn h0
        go_wp2_with fail
        go_ret
        exact ⟨ret_bool (by rw [HN.out]), Below.refl _ _⟩

set_option maxRecDepth 100000 in
set_option maxHeartbeats 2000000 in
theorem rtp_any (t : ByteArray) (p h : Int) (w : World) (ht : t.size ≤ maxLen) : Calls Try.prog 67 #[.agg #[.string t, .int .i64 p, .int .i64 h]] w fun e w' => e = .returned (.bool (nameC t && decide (0 ≤ p ∧ p ≤ 5) && decide (0 ≤ h ∧ h ≤ 3))) ∧ Below w.heap.size w w' := by
  have S0 := Lib.hid (Has.newAt w #[.string t, .int .i64 p, .int .i64 h] 45 (g := w.heap.size) rfl)
  have B0 := Lib.hid (below_alloc1 w (.cells #[.string t, .int .i64 p, .int .i64 h] 45))
  have NM := Lib.hid (fun W => rname_any t W ht)
  obtain ⟨nm, hnm⟩ : ∃ nm, nameC t = nm := ⟨_, rfl⟩
  rw [hnm] at NM ⊢
  obtain ⟨R, hR⟩ : ∃ R, (nm && decide (0 ≤ p ∧ p ≤ 5) && decide (0 ≤ h ∧ h ≤ 3)) = R := ⟨_, rfl⟩
  have HR := Lib.hid hR
  rw [hR]
  clear hR hnm
  cases nm with
  | false =>
    go_enter Try.func67, Try.ntmps67
    go_wp2_with (refine (NM.out _).mono ?_; rintro e w1 ⟨rfl, hb⟩; have B1 := Lib.hid (below_from hb B0.out B0.out.size); clear hb)
    go_ret
    exact ⟨ret_bool (by rw [← HR.out]; rfl), B1.out⟩
  | true =>
    by_cases c1 : 0 ≤ p
    · have d1 : decide (0 ≤ p) = true := decide_eq_true c1
      by_cases c2 : p < 6
      · have d2 : decide (p < 6) = true := decide_eq_true c2
        by_cases c3 : 0 ≤ h
        · have d3 : decide (0 ≤ h) = true := decide_eq_true c3
          by_cases c4 : h < 4
          · have d4 : decide (h < 4) = true := decide_eq_true c4
            have RR := Lib.hid (show R = true from by rw [← HR.out, decide_eq_true (show 0 ≤ p ∧ p ≤ 5 by omega), decide_eq_true (show 0 ≤ h ∧ h ≤ 3 by omega)]; rfl)
            go_enter Try.func67, Try.ntmps67
            go_wp2_with (refine (NM.out _).mono ?_; rintro e w1 ⟨rfl, hb⟩; have B1 := Lib.hid (below_from hb B0.out B0.out.size); have s1c := (S0.out.past hb).cell; have s1l := (S0.out.past hb).lt; clear hb)
            go_ret
            exact ⟨ret_bool (by rw [RR.out]), B1.out⟩
          · have d4 : decide (h < 4) = false := decide_eq_false c4
            have RR := Lib.hid (show R = false from by rw [← HR.out, decide_eq_false (show ¬ (0 ≤ h ∧ h ≤ 3) by omega), Bool.and_false])
            go_enter Try.func67, Try.ntmps67
            go_wp2_with (refine (NM.out _).mono ?_; rintro e w1 ⟨rfl, hb⟩; have B1 := Lib.hid (below_from hb B0.out B0.out.size); have s1c := (S0.out.past hb).cell; have s1l := (S0.out.past hb).lt; clear hb)
            go_ret
            exact ⟨ret_bool (by rw [RR.out]), B1.out⟩
        · have d3 : decide (0 ≤ h) = false := decide_eq_false c3
          have RR := Lib.hid (show R = false from by rw [← HR.out, decide_eq_false (show ¬ (0 ≤ h ∧ h ≤ 3) by omega), Bool.and_false])
          go_enter Try.func67, Try.ntmps67
          go_wp2_with (refine (NM.out _).mono ?_; rintro e w1 ⟨rfl, hb⟩; have B1 := Lib.hid (below_from hb B0.out B0.out.size); have s1c := (S0.out.past hb).cell; have s1l := (S0.out.past hb).lt; clear hb)
          go_ret
          exact ⟨ret_bool (by rw [RR.out]), B1.out⟩
      · have d2 : decide (p < 6) = false := decide_eq_false c2
        have RR := Lib.hid (show R = false from by rw [← HR.out, decide_eq_false (show ¬ (0 ≤ p ∧ p ≤ 5) by omega)]; rfl)
        go_enter Try.func67, Try.ntmps67
        go_wp2_with (refine (NM.out _).mono ?_; rintro e w1 ⟨rfl, hb⟩; have B1 := Lib.hid (below_from hb B0.out B0.out.size); have s1c := (S0.out.past hb).cell; have s1l := (S0.out.past hb).lt; clear hb)
        go_ret
        exact ⟨ret_bool (by rw [RR.out]), B1.out⟩
    · have d1 : decide (0 ≤ p) = false := decide_eq_false c1
      have RR := Lib.hid (show R = false from by rw [← HR.out, decide_eq_false (show ¬ (0 ≤ p ∧ p ≤ 5) by omega)]; rfl)
      go_enter Try.func67, Try.ntmps67
      go_wp2_with (refine (NM.out _).mono ?_; rintro e w1 ⟨rfl, hb⟩; have B1 := Lib.hid (below_from hb B0.out B0.out.size); have s1c := (S0.out.past hb).cell; have s1l := (S0.out.past hb).lt; clear hb)
      go_ret
      exact ⟨ret_bool (by rw [RR.out]), B1.out⟩

set_option maxRecDepth 100000 in
set_option maxHeartbeats 2000000 in
theorem rlessT_any (t : ByteArray) (p h : Int) (t' : ByteArray) (p' h' : Int) (w : World) : Calls Try.prog 69 #[.agg #[.string t, .int .i64 p, .int .i64 h], .agg #[.string t', .int .i64 p', .int .i64 h']] w fun e w' => e = .returned (.bool (decide (ordT6 t p h t' p' h' < 0))) ∧ Below w.heap.size w w' := by
  have B0 := Lib.hid ((below_alloc1 w (.cells #[.string t, .int .i64 p, .int .i64 h] 45)).alloc (by simp) (.cells #[.string t', .int .i64 p', .int .i64 h'] 45))
  obtain ⟨R, hR⟩ : ∃ R, decide (ordT6 t p h t' p' h' < 0) = R := ⟨_, rfl⟩
  rw [hR]
  by_cases h1 : t = t'
  · subst h1
    by_cases h2 : p = p'
    · subst h2
      have RR := Lib.hid (show R = decide (h < h') from by rw [← hR]; unfold ordT6; rw [orI_z (cmpS_eq.2 rfl), orI_z (cmpI_eq.2 rfl), Bool.eq_iff_iff, decide_eq_true_iff, decide_eq_true_iff, cmpI_lt])
      clear hR
      go_enter Try.func69, Try.ntmps69
      go_wp2_with fail
      go_ret
      exact ⟨ret_bool (by rw [RR.out]), B0.out⟩
    · obtain ⟨d1, d2⟩ := int_ne h2
      have RR := Lib.hid (show R = decide (p < p') from by rw [← hR]; unfold ordT6; rw [orI_z (cmpS_eq.2 rfl), orI_ne (fun h => h2 (cmpI_eq.1 h)), Bool.eq_iff_iff, decide_eq_true_iff, decide_eq_true_iff, cmpI_lt])
      clear hR h2
      go_enter Try.func69, Try.ntmps69
      go_wp2_with fail
      go_ret
      exact ⟨ret_bool (by rw [RR.out]), B0.out⟩
  · obtain ⟨d1, d2, d3⟩ := str_nes h1
    have RR := Lib.hid (show R = Op.bytesLess t.toList t'.toList from by rw [← hR, bl_eq]; unfold ordT6; rw [orI_ne (fun h => h1 (cmpS_eq.1 h))])
    clear hR h1
    go_enter Try.func69, Try.ntmps69
    go_wp2_with fail
    go_ret
    exact ⟨ret_bool (by rw [RR.out]), B0.out⟩
theorem ordT_six (x y : Tp) : ordT x y = ordT6 x.t x.p x.h y.t y.p y.h := rfl
theorem rtpv_any (x : Tp) (w : World) (ht : x.t.size ≤ maxLen) : Calls Try.prog 67 #[x.v] w fun e w' => e = .returned (.bool (rightT x)) ∧ Below w.heap.size w w' := by
  refine (rtp_any x.t x.p x.h w ht).mono ?_
  rintro e w' ⟨rfl, hb⟩
  refine ⟨?_, hb⟩
  unfold rightT inB
  rw [Bool.decide_and, Bool.decide_and]
theorem rless_any (x y : Tp) (w : World) : Calls Try.prog 69 #[x.v, y.v] w fun e w' => e = .returned (.bool (decide (ordT x y < 0))) ∧ Below w.heap.size w w' := by
  rw [ordT_six]
  exact rlessT_any x.t x.p x.h y.t y.p y.h w

end Go.Proofs.Ytnigjchgpmladaa
