/- The document's Name, find, fault, begins. -/
import Derived.Test.YtnnmppnbkplamaaPlain
namespace Go.Proofs.Ytnnmppnbkplamaa
open Go.RowKit Go.Shelf

set_option maxHeartbeats 2000000 in
theorem rname_any (s : ByteArray) (w : World) (hs : s.size ≤ maxLen) : Calls Try.prog 47 #[.string s] w fun e w' => e = .returned (.bool (nameC s)) ∧ w = w' := by
  have hmax : s.size ≤ 9223372036854775807 := by simpa [maxLen] using hs
  clear hs
  go_enter Try.func47, Try.ntmps47
  go_wp2_with fail
  go_loopg [3] s.size (fun gg s3 wr => ∃ k : Nat, k ≤ s.size ∧ s.size - k ≤ gg ∧ s3 = .int .i64 k ∧ wr = w ∧ Hid (∀ j (hj : j < s.size), j < k → fineB s[j] = true))
  case atStart => exact ⟨0, Nat.zero_le _, by omega, rfl, rfl, Lib.hid (fun j _ hj => absurd hj (Nat.not_lt_zero _))⟩
  case round =>
    obtain ⟨k, hk, hgg, rfl, rfl, hok⟩ := hrel
    by_cases hlt : k < s.size
    · obtain ⟨y, hy⟩ : ∃ y, s[k] = y := ⟨_, rfl⟩
      have NO : Hid (fineB y = false → nameC s = false) := Lib.hid (fun h => by
        unfold nameC
        have : fineS s = false := by
          cases hf : fineS s with
          | false => rfl
          | true => have := fine_at hf hlt; rw [hy, h] at this; cases this
        rw [this, Bool.and_false])
      have YES : Hid (fineB y = true → ∀ j (hj : j < s.size), j < k + 1 → fineB s[j] = true) := Lib.hid (fun h j hj hjk => by
        rcases Nat.lt_or_ge j k with h' | h'
        · exact hok.out j hj h'
        · obtain rfl : j = k := by omega
          rw [hy]; exact h)
      by_cases y1 : y.toNat < 33
      · go_wp2_with fail
        go_ret
        exact ⟨ret_bool (NO.out (decide_eq_false (by omega))).symm, rfl⟩
      · by_cases y2 : 126 < y.toNat
        · go_wp2_with fail
          go_ret
          exact ⟨ret_bool (NO.out (decide_eq_false (by omega))).symm, rfl⟩
        · go_wp2_with fail
          go_roundg (s.size - (k + 1))
          case measure => omega
          case rel => exact ⟨k + 1, by omega, by omega, by go_num, rfl, YES.out (decide_eq_true (by omega))⟩
    · obtain rfl : k = s.size := by omega
      have FS := Lib.hid (fine_of (fun i hi => hok.out i hi hi))
      by_cases h1 : 1 ≤ s.size
      · by_cases h2 : s.size ≤ 64
        · have hn : nameC s = true := by unfold nameC; rw [FS.out, decide_eq_true (by omega)]; rfl
          have HN := Lib.hid hn
          clear hn
          go_wp2_with fail
          go_ret
          exact ⟨ret_bool (by rw [HN.out]; exact decide_eq_true (by omega)), rfl⟩
        · have hn : nameC s = false := by unfold nameC; rw [decide_eq_false (by omega)]; rfl
          have HN := Lib.hid hn
          clear hn
          go_wp2_with fail
          go_ret
          exact ⟨ret_bool (by rw [HN.out]; exact decide_eq_false (by omega)), rfl⟩
      · have hn : nameC s = false := by unfold nameC; rw [decide_eq_false (by omega)]; rfl
        have HN := Lib.hid hn
        clear hn
        go_wp2_with fail
        go_ret
        exact ⟨ret_bool HN.out.symm, rfl⟩

/-- Where an object stands, as a number; -1: nowhere. -/
def findI (s : ByteArray) (L : List Oc) : Int := if (findO s L).isSome then ((L.findIdx fun x => decide (x.name = s) : Nat) : Int) else -1

set_option maxHeartbeats 2000000 in
theorem rfind_any (A : Option Addr) (n c : Nat) (l : List Ob) (calls : Int) (A' : Option Addr) (n' c' : Nat) (s : ByteArray) (w : World) (hl : Obs w A n c l) :
    Calls Try.prog 38 #[stV A n c calls A' n' c', .string s] w fun e w' => e = .returned (.int .i64 (findI s (l.map Ob.val))) ∧ Below w.heap.size w w' := by
  have HL := Lib.hid hl
  have hmax := hl.max
  have hcap := hl.cap
  have HN := Lib.hid hl.len
  have B0 := Lib.hid (below_alloc1 w (.cells #[.slice A n c, .int .i64 calls, .slice A' n' c'] 25))
  have S0 := Lib.hid (Has.newAt w #[.slice A n c, .int .i64 calls, .slice A' n' c'] 25 (g := w.heap.size) rfl)
  clear hl
  go_enter Try.func38, Try.ntmps38
  go_wp2_with fail
  go_loopg [5] n (fun gg s5 wr => ∃ k : Nat, k ≤ n ∧ n - k ≤ gg ∧ s5 = .int .i64 k ∧ wr = w.alloc (.cells #[.slice A n c, .int .i64 calls, .slice A' n' c'] 25) ∧ Hid (∀ j (hj : j < l.length), j < k → ¬ l[j].name = s))
  case atStart => exact ⟨0, Nat.zero_le _, by omega, rfl, rfl, Lib.hid (fun j _ hj => absurd hj (Nat.not_lt_zero _))⟩
  case round =>
    obtain ⟨k, hk, hgg, rfl, rfl, hok⟩ := hrel
    by_cases hlt : k < n
    · obtain ⟨b, off, hkl, rfl, hbl, x0, x1⟩ := Obs.at_ (HL.out.below B0.out) hlt
      have FI : Hid (l[k].name = s → findI s (l.map Ob.val) = k) := Lib.hid (fun h => by
        have hf : (l.map Ob.val).findIdx (fun x => decide (x.name = s)) = k := by
          rw [List.findIdx_eq (by rw [List.length_map]; exact hkl)]
          refine ⟨by rw [List.getElem_map]; exact decide_eq_true h, fun j hj => ?_⟩
          rw [List.getElem_map]
          exact decide_eq_false (hok.out j (by omega) hj)
        unfold findI findO
        rw [if_pos, hf]
        rw [List.find?_isSome]
        exact ⟨l[k].val, List.mem_map.2 ⟨_, List.getElem_mem hkl, rfl⟩, decide_eq_true h⟩)
      have NX : Hid (¬ l[k].name = s → ∀ j (hj : j < l.length), j < k + 1 → ¬ l[j].name = s) := Lib.hid (fun h j hj hjk => by
        rcases Nat.lt_or_ge j k with h' | h'
        · exact hok.out j hj h'
        · obtain rfl : j = k := by omega
          exact h)
      generalize l[k] = x at *
      obtain ⟨xn, xA, xN, xC, xb⟩ := x
      simp only at x0 x1 FI NX
      by_cases e1 : xn = s
      · subst e1
        go_wp2_with fail
        go_ret
        exact ⟨ret_int (FI.out (by first | trivial | rfl)).symm, B0.out⟩
      · have ne := str_ne e1
        go_wp2_with fail
        go_roundg (n - (k + 1))
        case measure => omega
        case rel => exact ⟨k + 1, by omega, by omega, by go_num, rfl, NX.out e1⟩
    · obtain rfl : k = n := by omega
      have FI : Hid (findI s (l.map Ob.val) = -1) := by
        refine Lib.hid ?_
        unfold findI findO
        rw [if_neg]
        rw [List.find?_isSome]
        rintro ⟨x, hx, hd⟩
        obtain ⟨y, hy, rfl⟩ := List.mem_map.1 hx
        obtain ⟨j, hj, rfl⟩ := List.getElem_of_mem hy
        exact hok.out j hj (by rw [← HN.out]; exact hj) (of_decide_eq_true hd)
      go_wp2_with fail
      go_ret
      exact ⟨ret_int FI.out.symm, B0.out⟩

set_option maxHeartbeats 2000000 in
theorem rfault_any (A : Option Addr) (n c : Nat) (calls : Int) (A' : Option Addr) (n' c' : Nat) (fs : List Ft) (w : World) (hf : Fts w A' n' c' fs) :
    Calls Try.prog 39 #[stV A n c calls A' n' c'] w fun e w' => e = .returned (.int .i64 (faultC calls fs)) ∧ Below w.heap.size w w' := by
  have HF := Lib.hid hf
  have hmax := hf.max
  have hcap := hf.cap
  have HN := Lib.hid hf.len
  obtain ⟨W1, hW1⟩ : ∃ W1, W1 = w.alloc (.cells #[.slice A n c, .int .i64 calls, .slice A' n' c'] 25) := ⟨_, rfl⟩
  have B0 := Lib.hid (show Below w.heap.size w W1 from by rw [hW1]; exact below_alloc1 w _)
  have S0 := Lib.hid (show Has W1 w.heap.size #[.slice A n c, .int .i64 calls, .slice A' n' c'] from by rw [hW1]; exact Has.newAt w _ 25 rfl)
  have HW := Lib.hid hW1
  clear hf hW1
  go_enter Try.func39, Try.ntmps39
  go_wp2_with fail
  rw [← HW.out]
  go_loopg [3] n' (fun gg s3 wr => ∃ k : Nat, k ≤ n' ∧ n' - k ≤ gg ∧ s3 = .int .i64 k ∧ Hid (Below W1.heap.size W1 wr) ∧ Hid (∀ j (hj : j < fs.length), j < k → ¬ fs[j].call = calls))
  case atStart => exact ⟨0, Nat.zero_le _, by omega, rfl, Lib.hid (Below.refl _ _), Lib.hid (fun j _ hj => absurd hj (Nat.not_lt_zero _))⟩
  case round =>
    obtain ⟨k, hk, hgg, rfl, hb, hok⟩ := hrel
    have S1 := Lib.hid (S0.out.past hb.out)
    have s1c := S1.out.cell
    have s1l := S1.out.lt
    have BB := Lib.hid (below_from hb.out B0.out B0.out.size)
    by_cases hlt : k < n'
    · obtain ⟨b, off, hkl, rfl, hbl, x0, x1⟩ := Fts.at_ (HF.out.below BB.out) hlt
      have FI : Hid (fs[k].call = calls → faultC calls fs = fs[k].kind) := Lib.hid (fun h => by
        unfold faultC
        have : fs.find? (fun f => decide (f.call = calls)) = some fs[k] := by
          rw [List.find?_eq_some_iff_getElem]
          refine ⟨decide_eq_true h, k, hkl, rfl, fun j hj => ?_⟩
          rw [decide_eq_false (hok.out j (by omega) hj)]; rfl
        rw [this]; rfl)
      have NX : Hid (¬ fs[k].call = calls → ∀ j (hj : j < fs.length), j < k + 1 → ¬ fs[j].call = calls) := Lib.hid (fun h j hj hjk => by
        rcases Nat.lt_or_ge j k with h' | h'
        · exact hok.out j hj h'
        · obtain rfl : j = k := by omega
          exact h)
      generalize fs[k] = f at *
      obtain ⟨fc, fk⟩ := f
      simp only at x0 x1 FI NX
      have B2 := Lib.hid (fun m : Nat => below_drewN (w := wr) (Below.refl wr.heap.size wr) m)
      have k0 : (0 : Int) ≤ (k : Int) := by omega
      have k1 : (k : Int) < (n' : Int) := by omega
      by_cases e1 : fc = calls
      · subst e1
        go_wp2_with fail
        go_quiet (fail)
        go_wp2_with fail
        go_ret
        exact ⟨ret_int (FI.out (by first | trivial | rfl)).symm, below_from (B2.out _) BB.out BB.out.size⟩
      · go_wp2_with fail
        go_quiet (fail)
        go_wp2_with fail
        go_roundg (n' - (k + 1))
        case measure => omega
        case rel => exact ⟨k + 1, by omega, by omega, by go_num, below_from (B2.out _) hb.out hb.out.size, NX.out e1⟩
    · obtain rfl : k = n' := by omega
      have FI : Hid (faultC calls fs = 0) := by
        refine Lib.hid ?_
        unfold faultC
        have : fs.find? (fun f => decide (f.call = calls)) = none := by
          rw [List.find?_eq_none]
          intro x hx
          obtain ⟨j, hj, rfl⟩ := List.getElem_of_mem hx
          rw [decide_eq_false (hok.out j hj (by rw [← HN.out]; exact hj))]; decide
        rw [this]; rfl
      go_wp2_with fail
      go_ret
      exact ⟨ret_int FI.out.symm, BB.out⟩

end Go.Proofs.Ytnnmppnbkplamaa
