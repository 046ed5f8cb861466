/- Layer 1's document: GetText. -/
import Derived.Test.YtnkjkgakbgjddaaRGv
import Derived.Test.YtnkjkgakbgjddaaGt
namespace Go.Proofs.Ytnkjkgakbgjddaa
open Go.RowKit

set_option maxRecDepth 100000 in
set_option maxHeartbeats 8000000 in
theorem rgetText_any (A : Option Addr) (n c : Nat) (bs : List UInt8) (k : Int) (w : World) (hl : Sl u8K w A n c bs) :
    Calls Try.prog 57 #[.slice A n c, .int .i64 k, .int .i64 64] w fun e w' => e = .returned (.tuple #[.string (textV bs k).1, .int .i64 (textV bs k).2.1, .int .i64 (textV bs k).2.2]) ∧ w' = w := by
  have GV := Lib.hid (rgetVar_any A n c bs k w hl)
  have hmax := hl.max
  have hcap := hl.cap
  have HL := Lib.hid hl
  have HN := hl.len
  obtain ⟨V, hV⟩ : ∃ V, varV bs k = V := ⟨_, rfl⟩
  obtain ⟨v, m, e⟩ := V
  have HT : textV bs k = if e = 0 then (if v < 0 then (⟨#[]⟩, 0, 11) else if 64 < v then (⟨#[]⟩, 0, 2) else if (bs.length : Int) - m < v then (⟨#[]⟩, 0, 10) else (cutV bs m.toNat v.toNat, m + v, 0)) else (⟨#[]⟩, 0, e) := by
    unfold textV; rw [hV]
  rw [hV] at GV
  simp only at GV
  obtain ⟨T, hT⟩ : ∃ T, textV bs k = T := ⟨_, rfl⟩
  rw [hT] at HT
  simp only [hT]
  clear hT
  by_cases he : e = 0
  · subst he
    rw [if_pos rfl] at HT
    obtain ⟨j, rfl, hj⟩ := var_in hV
    clear hV
    rw [HN] at HT hj
    by_cases h1 : v < 0
    · rw [if_pos h1] at HT
      have HT := Lib.hid HT
      clear hl HN
      go_enter Try.func57, Try.ntmps57
      go_wp2_with (refine GV.out.mono ?_; rintro e w1 ⟨rfl, rfl⟩)
      refine bodyPost_ret (v := .tuple #[.string ⟨#[]⟩, .int .i64 0, .int .i64 11]) (by simp [results, Try.results57, go_sem]) rfl ?_
      exact ⟨by rw [HT.out], rfl⟩
    · obtain ⟨v, rfl⟩ : ∃ u : Nat, v = u := ⟨v.toNat, by omega⟩
      rw [if_neg h1] at HT
      by_cases h2 : 64 < (v : Int)
      · rw [if_pos h2] at HT
        have HT := Lib.hid HT
        clear hl HN
        go_enter Try.func57, Try.ntmps57
        go_wp2_with (refine GV.out.mono ?_; rintro e w1 ⟨rfl, rfl⟩)
        refine bodyPost_ret (v := .tuple #[.string ⟨#[]⟩, .int .i64 0, .int .i64 2]) (by simp [results, Try.results57, go_sem]) rfl ?_
        exact ⟨by rw [HT.out], rfl⟩
      · rw [if_neg h2] at HT
        by_cases h3 : (n : Int) - (j : Int) < (v : Int)
        · rw [if_pos h3] at HT
          have HT := Lib.hid HT
          clear hl HN
          go_enter Try.func57, Try.ntmps57
          go_wp2_with (refine GV.out.mono ?_; rintro e w1 ⟨rfl, rfl⟩)
          refine bodyPost_ret (v := .tuple #[.string ⟨#[]⟩, .int .i64 0, .int .i64 10]) (by simp [results, Try.results57, go_sem]) rfl ?_
          exact ⟨by rw [HT.out], rfl⟩
        · rw [if_neg h3, Int.toNat_natCast, Int.toNat_natCast] at HT
          have HT := Lib.hid HT
          have hjv : j + v ≤ n := by omega
          by_cases hcj : c = j
          · have CV := cut_conv0 hl
            have v0 : v = 0 := by omega
            subst v0
            subst hcj
            have CE := Lib.hid (show cutV bs c 0 = ⟨#[]⟩ from by unfold cutV; rw [List.take_zero])
            clear hl HN
            go_enter Try.func57, Try.ntmps57
            go_wp2_with (refine GV.out.mono ?_; rintro e w1 ⟨rfl, rfl⟩)
            refine bodyPost_ret (v := .tuple #[.string ⟨#[]⟩, .int .i64 (c : Int), .int .i64 0]) (by simp [results, Try.results57, go_sem]) rfl ?_
            exact ⟨by rw [HT.out, CE.out]; simp, rfl⟩
          · have CV := cut_conv hl j v hjv hcj
            obtain ⟨s, hs⟩ : ∃ s, cutV bs j v = s := ⟨_, rfl⟩
            rw [hs] at CV HT
            clear hl HN hs
            go_enter Try.func57, Try.ntmps57
            go_wp2_with (refine GV.out.mono ?_; rintro e w1 ⟨rfl, rfl⟩)
            refine bodyPost_ret (v := .tuple #[.string s, .int .i64 ((j : Int) + (v : Int)), .int .i64 0]) (by simp [results, Try.results57, go_sem]) rfl ?_
            exact ⟨by rw [HT.out], rfl⟩
  · rw [if_neg he] at HT
    have HT := Lib.hid HT
    have d1 : (e == 0) = false := by rw [beq_eq_false_iff_ne]; exact he
    have d2 : decide (e = 0) = false := decide_eq_false he
    clear hl HN hV
    go_enter Try.func57, Try.ntmps57
    go_wp2_with (refine GV.out.mono ?_; rintro e w1 ⟨rfl, rfl⟩)
    refine bodyPost_ret (v := .tuple #[.string ⟨#[]⟩, .int .i64 0, .int .i64 e]) (by simp [results, Try.results57, go_sem]) rfl ?_
    exact ⟨by rw [HT.out], rfl⟩

end Go.Proofs.Ytnkjkgakbgjddaa
