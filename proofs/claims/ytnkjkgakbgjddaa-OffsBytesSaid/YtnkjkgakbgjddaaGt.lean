/- Reading texts: GetText. -/
import Derived.Test.YtnkjkgakbgjddaaGv
import Derived.Test.YtnkjkgakbgjddaaLawB
import Derived.Test.YtnkjkgakbgjddaaStr
namespace Go.Proofs.Ytnkjkgakbgjddaa
open Go.RowKit

theorem var_in {bs : List UInt8} {k v m : Int} (h : varV bs k = (v, m, 0)) : ∃ j : Nat, m = (j : Int) ∧ j ≤ bs.length := by
  by_cases hk : k < 0
  · unfold varV at h; rw [if_pos hk] at h; simp at h
  · obtain ⟨i, rfl⟩ : ∃ i : Nat, k = i := ⟨k.toNat, by omega⟩
    rcases Nat.lt_or_ge bs.length i with hi | hi
    · unfold varV at h
      rw [if_neg hk, Int.toNat_natCast, List.drop_eq_nil_of_le (by omega)] at h
      simp [getZ, unV] at h
    · obtain ⟨j, h1, h2, _⟩ := var_ok hi h
      exact ⟨_, h1, h2⟩
set_option maxRecDepth 100000 in
theorem cut_conv {w : World} {A : Option Addr} {n c : Nat} {bs : List UInt8} (hl : Sl u8K w A n c bs) (m v : Nat) (h : m + v ≤ n) (hc : ¬ c = m) : (convert 45 9 (.slice (Option.map (fun x => x.add m) A) v (c - m))).run Try.prog w = .ok (.string (cutV bs m v)) w := by
  rcases A with _ | ⟨b, off, sp⟩
  · obtain ⟨rfl, rfl⟩ := hl.adr rfl
    exact absurd (show 0 = m by omega) hc
  · rcases Nat.eq_zero_or_pos v with h0 | h0
    · subst h0
      have hs : Sl u8K w (some ((⟨b, off, sp⟩ : Addr).add m)) 0 (c - m) [] := ⟨rfl, by omega, by have := hl.max; omega, (fun h => by cases h), Row.nil _ _, fun a ha => by simp at ha⟩
      have := conv_bs hs 45 Try.underlying45 Try.underlying5 Try.underlying9
      unfold cutV
      rw [List.take_zero]
      exact this
    · obtain ⟨b', off', _, e, _⟩ := hl.get (show 0 < n by omega)
      injection e with e; injection e with e1 e2 e3; subst e1; subst e2; subst e3
      have hs := (sl_drop1 hl m (by omega)).take v (by omega)
      have := conv_bs hs 45 Try.underlying45 Try.underlying5 Try.underlying9
      unfold cutV
      simp only [Option.map_some, Addr.add_lit]
      exact this
theorem cut_conv0 {w : World} {A : Option Addr} {n c : Nat} {bs : List UInt8} (hl : Sl u8K w A n c bs) : (convert 45 9 (.slice A 0 0)).run Try.prog w = .ok (.string ⟨#[]⟩) w := by
  rcases A with _ | ad
  · exact conv_bs (Sl.nil u8K w) 45 Try.underlying45 Try.underlying5 Try.underlying9
  · exact conv_bs (sl_zero (w := w) (A := some ad) (fun h => by cases h) rfl) 45 Try.underlying45 Try.underlying5 Try.underlying9

set_option maxRecDepth 100000 in
set_option maxHeartbeats 8000000 in
theorem getText_any (A : Option Addr) (n c : Nat) (bs : List UInt8) (k : Int) (w : World) (hl : Sl u8K w A n c bs) :
    Calls Try.prog 55 #[.slice A n c, .int .i64 k, .int .i64 64] w fun e w' => e = .returned (.tuple #[.string (textV bs k).1, .int .i64 (textV bs k).2.1, .int .i64 (textV bs k).2.2]) ∧ w' = w := by
  have GV := Lib.hid (getVar_any A n c bs k w hl)
  have hmax := hl.max
  have hcap := hl.cap
  have HL := Lib.hid hl
  have HN := hl.len
  obtain ⟨V, hV⟩ : ∃ V, varV bs k = V := ⟨_, rfl⟩
  obtain ⟨v, m, e⟩ := V
  have HT : textV bs k = if e = 0 then (if v < 0 then (⟨#[]⟩, 0, 11) else if 64 < v then (⟨#[]⟩, 0, 2) else if (bs.length : Int) - m < v then (⟨#[]⟩, 0, 10) else (cutV bs m.toNat v.toNat, m + v, 0)) else (⟨#[]⟩, 0, e) := by
    unfold textV; rw [hV]
  rw [hV] at GV
  simp only at GV
  obtain ⟨T, hT⟩ : ∃ T, textV bs k = T := ⟨_, rfl⟩
  rw [hT] at HT
  simp only [hT]
  clear hT
  by_cases he : e = 0
  · subst he
    rw [if_pos rfl] at HT
    obtain ⟨j, rfl, hj⟩ := var_in hV
    clear hV
    rw [HN] at HT hj
    by_cases h1 : v < 0
    · rw [if_pos h1] at HT
      have HT := Lib.hid HT
      clear hl HN
      go_enter Try.func55, Try.ntmps55
      go_wp2_with (refine GV.out.mono ?_; rintro e w1 ⟨rfl, rfl⟩)
      refine bodyPost_ret (v := .tuple #[.string ⟨#[]⟩, .int .i64 0, .int .i64 11]) (by simp [results, Try.results55, go_sem]) rfl ?_
      exact ⟨by rw [HT.out], rfl⟩
    · obtain ⟨v, rfl⟩ : ∃ u : Nat, v = u := ⟨v.toNat, by omega⟩
      rw [if_neg h1] at HT
      by_cases h2 : 64 < (v : Int)
      · rw [if_pos h2] at HT
        have HT := Lib.hid HT
        clear hl HN
        go_enter Try.func55, Try.ntmps55
        go_wp2_with (refine GV.out.mono ?_; rintro e w1 ⟨rfl, rfl⟩)
        refine bodyPost_ret (v := .tuple #[.string ⟨#[]⟩, .int .i64 0, .int .i64 2]) (by simp [results, Try.results55, go_sem]) rfl ?_
        exact ⟨by rw [HT.out], rfl⟩
      · rw [if_neg h2] at HT
        by_cases h3 : (n : Int) - (j : Int) < (v : Int)
        · rw [if_pos h3] at HT
          have HT := Lib.hid HT
          clear hl HN
          go_enter Try.func55, Try.ntmps55
          go_wp2_with (refine GV.out.mono ?_; rintro e w1 ⟨rfl, rfl⟩)
          refine bodyPost_ret (v := .tuple #[.string ⟨#[]⟩, .int .i64 0, .int .i64 10]) (by simp [results, Try.results55, go_sem]) rfl ?_
          exact ⟨by rw [HT.out], rfl⟩
        · rw [if_neg h3, Int.toNat_natCast, Int.toNat_natCast] at HT
          have HT := Lib.hid HT
          have hjv : j + v ≤ n := by omega
          by_cases hcj : c = j
          · have CV := cut_conv0 hl
            have v0 : v = 0 := by omega
            subst v0
            subst hcj
            have CE := Lib.hid (show cutV bs c 0 = ⟨#[]⟩ from by unfold cutV; rw [List.take_zero])
            clear hl HN
            go_enter Try.func55, Try.ntmps55
            go_wp2_with (refine GV.out.mono ?_; rintro e w1 ⟨rfl, rfl⟩)
            refine bodyPost_ret (v := .tuple #[.string ⟨#[]⟩, .int .i64 (c : Int), .int .i64 0]) (by simp [results, Try.results55, go_sem]) rfl ?_
            exact ⟨by rw [HT.out, CE.out]; simp, rfl⟩
          · have CV := cut_conv hl j v hjv hcj
            obtain ⟨s, hs⟩ : ∃ s, cutV bs j v = s := ⟨_, rfl⟩
            rw [hs] at CV HT
            clear hl HN hs
            go_enter Try.func55, Try.ntmps55
            go_wp2_with (refine GV.out.mono ?_; rintro e w1 ⟨rfl, rfl⟩)
            refine bodyPost_ret (v := .tuple #[.string s, .int .i64 ((j : Int) + (v : Int)), .int .i64 0]) (by simp [results, Try.results55, go_sem]) rfl ?_
            exact ⟨by rw [HT.out], rfl⟩
  · rw [if_neg he] at HT
    have HT := Lib.hid HT
    have d1 : (e == 0) = false := by rw [beq_eq_false_iff_ne]; exact he
    have d2 : decide (e = 0) = false := decide_eq_false he
    clear hl HN hV
    go_enter Try.func55, Try.ntmps55
    go_wp2_with (refine GV.out.mono ?_; rintro e w1 ⟨rfl, rfl⟩)
    refine bodyPost_ret (v := .tuple #[.string ⟨#[]⟩, .int .i64 0, .int .i64 e]) (by simp [results, Try.results55, go_sem]) rfl ?_
    exact ⟨by rw [HT.out], rfl⟩

end Go.Proofs.Ytnkjkgakbgjddaa
