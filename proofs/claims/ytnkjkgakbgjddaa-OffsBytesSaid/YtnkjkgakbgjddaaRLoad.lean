/- The document's Load. -/
import Derived.Test.YtnkjkgakbgjddaaRGt
import Derived.Test.YtnkjkgakbgjddaaRNm
import Derived.Test.YtnkjkgakbgjddaaLoad
namespace Go.Proofs.Ytnkjkgakbgjddaa
open Go.RowKit

set_option maxRecDepth 100000 in
set_option maxHeartbeats 16000000 in
theorem rload_any (A : Option Addr) (n c : Nat) (bs : List UInt8) (at0 : Int) (w : World) (hl : Sl u8K w A n c bs) : Calls Try.prog 30 #[.slice A n c, .int .i64 at0] w fun e w' => e = .returned (.tuple #[(loadV bs at0).1.v, .int .i64 (loadV bs at0).2.1, .int .i64 (loadV bs at0).2.2]) ∧ Below w.heap.size w w' := by
  obtain ⟨W0, hW0⟩ : ∃ W0, W0 = (w.alloc (.cells #[.string ⟨#[]⟩, .string ⟨#[]⟩, .int .i64 0, .int .i64 0, .int .i64 0] 29)).alloc (.cells #[.string ⟨#[]⟩, .string ⟨#[]⟩, .int .i64 0, .int .i64 0, .int .i64 0] 29) := ⟨_, rfl⟩
  have B0 := Lib.hid (show Below w.heap.size w W0 from by rw [hW0]; exact (below_alloc1 w _).alloc (by simp) _)
  have R0 := Lib.hid (show Has W0 w.heap.size #[.string ⟨#[]⟩, .string ⟨#[]⟩, .int .i64 0, .int .i64 0, .int .i64 0] from by rw [hW0]; exact (Has.newAt w _ 29 rfl).alloc _)
  have N0 := Lib.hid (show Has W0 (w.heap.size + 1) #[.string ⟨#[]⟩, .string ⟨#[]⟩, .int .i64 0, .int .i64 0, .int .i64 0] from by rw [hW0]; exact Has.newAt _ _ 29 (by simp))
  have HW0 := Lib.hid hW0
  have LN := Lib.hid hl.len
  have hmax := hl.max
  have hcap := hl.cap
  have GT := Lib.hid (fun i W (h : Below w.heap.size w W) => rgetText_any A n c bs i W (hl.below h))
  have GV := Lib.hid (fun i W (h : Below w.heap.size w W) => rgetVar_any A n c bs i W (hl.below h))
  have r0c := R0.out.cell
  have r0l := R0.out.lt
  have r0f := R0.out.free
  have n0c := N0.out.cell
  have n0l := N0.out.lt
  clear hl hW0
  by_cases hin : at0 < 0 ∨ (n : Int) < at0
  · have HR := Lib.hid (show loadV bs at0 = (noP, 0, 1) from by unfold loadV; rw [if_pos (by rw [LN.out]; exact hin)])
    by_cases h0 : at0 < 0
    · have dk : decide (at0 < 0) = true := decide_eq_true h0
      clear hin
      go_enter Try.func30, Try.ntmps30
      go_upto_region 2 with (fail)
      rw [← HW0.out]
      go_wp2_with fail
      refine bodyPost_ret (v := .tuple #[noP.v, .int .i64 0, .int .i64 1]) (by simp [results, Try.results30, go_sem, r0c, noP, Ps.v]) rfl ?_
      have G := setCells_grown w.heap.size [.string ⟨#[]⟩, .string ⟨#[]⟩, .int .i64 0, .int .i64 0, .int .i64 0] 0 W0
      exact ⟨by rw [HR.out], B0.out.trans (grown_below G B0.out.size (fun q hq => by injection hq with hq; omega))⟩
    · have dk : decide (at0 < 0) = false := decide_eq_false h0
      have dn : decide ((n : Int) < at0) = true := decide_eq_true (by omega)
      clear hin
      go_enter Try.func30, Try.ntmps30
      go_upto_region 2 with (fail)
      rw [← HW0.out]
      go_wp2_with fail
      refine bodyPost_ret (v := .tuple #[noP.v, .int .i64 0, .int .i64 1]) (by simp [results, Try.results30, go_sem, r0c, noP, Ps.v]) rfl ?_
      have G := setCells_grown w.heap.size [.string ⟨#[]⟩, .string ⟨#[]⟩, .int .i64 0, .int .i64 0, .int .i64 0] 0 W0
      exact ⟨by rw [HR.out], B0.out.trans (grown_below G B0.out.size (fun q hq => by injection hq with hq; omega))⟩
  · have LV0 := Lib.hid (show loadV bs at0 = cont0 bs noP at0 from load_cont (by rw [LN.out]; exact hin))
    have dk : decide (at0 < 0) = false := decide_eq_false (by omega)
    have dn : decide ((n : Int) < at0) = false := decide_eq_false (by omega)
    have a0 : 0 ≤ at0 := by omega
    clear hin
    go_enter Try.func30, Try.ntmps30
    go_upto_region 2 with (fail)
    rw [← HW0.out]
    go_wp2_with fail
    obtain ⟨T, hT⟩ : ∃ T, textV bs at0 = T := ⟨_, rfl⟩
    obtain ⟨s0, m0, e0⟩ := T
    have LC : loadV bs at0 = if e0 ≠ 0 then (noP, 0, e0) else cont1 bs ⟨s0, noP.t, noP.p, noP.h, noP.o⟩ m0 := by
      rw [LV0.out]
      unfold cont0
      rw [hT]
    have CA := Lib.hid (GT.out at0 W0 B0.out)
    rw [hT] at CA
    have SZ0 := Lib.hid (text_size hT)
    clear hT
    refine CA.out.mono ?_
    rintro e w' ⟨rfl, hw⟩
    have hw2 := hw.symm
    clear hw
    subst hw2
    clear CA
    by_cases he : e0 ≠ 0
    · rw [if_pos he] at LC
      have HR := Lib.hid LC
      have d1 : (e0 == 0) = false := by rw [beq_eq_false_iff_ne]; exact he
      have d2 : decide (e0 = 0) = false := decide_eq_false he
      have d3 : (e0 != 0) = true := by rw [bne_iff_ne]; exact he
      clear he LC
      go_wp2_with fail
      refine bodyPost_ret (v := .tuple #[noP.v, .int .i64 0, .int .i64 e0]) (by simp [results, Try.results30, go_sem, r0c, noP, Ps.v]) rfl ?_
      have G := setCells_grown w.heap.size [.string ⟨#[]⟩, .string ⟨#[]⟩, .int .i64 0, .int .i64 0, .int .i64 0] 0 W0
      exact ⟨by rw [HR.out], B0.out.trans (grown_below G B0.out.size (fun q hq => by injection hq with hq; omega))⟩
    obtain rfl : e0 = 0 := Classical.not_not.1 he
    rw [if_neg he] at LC
    have LV1 := Lib.hid LC
    clear LC he LV0
    go_wp2_with fail
    obtain ⟨T, hT⟩ : ∃ T, textV bs m0 = T := ⟨_, rfl⟩
    obtain ⟨s1, m1, e1⟩ := T
    have LC : loadV bs at0 = if e1 ≠ 0 then (noP, 0, e1) else cont2 bs ⟨s0, s1, noP.p, noP.h, noP.o⟩ m1 := by
      rw [LV1.out]
      unfold cont1
      rw [hT]
    have CA := Lib.hid (GT.out m0 W0 B0.out)
    rw [hT] at CA
    have SZ1 := Lib.hid (text_size hT)
    clear hT
    refine CA.out.mono ?_
    rintro e w' ⟨rfl, hw⟩
    have hw2 := hw.symm
    clear hw
    subst hw2
    clear CA
    by_cases he : e1 ≠ 0
    · rw [if_pos he] at LC
      have HR := Lib.hid LC
      have d1 : (e1 == 0) = false := by rw [beq_eq_false_iff_ne]; exact he
      have d2 : decide (e1 = 0) = false := decide_eq_false he
      have d3 : (e1 != 0) = true := by rw [bne_iff_ne]; exact he
      clear he LC
      go_wp2_with fail
      refine bodyPost_ret (v := .tuple #[noP.v, .int .i64 0, .int .i64 e1]) (by simp [results, Try.results30, go_sem, r0c, noP, Ps.v]) rfl ?_
      have G := setCells_grown w.heap.size [.string ⟨#[]⟩, .string ⟨#[]⟩, .int .i64 0, .int .i64 0, .int .i64 0] 0 W0
      exact ⟨by rw [HR.out], B0.out.trans (grown_below G B0.out.size (fun q hq => by injection hq with hq; omega))⟩
    obtain rfl : e1 = 0 := Classical.not_not.1 he
    rw [if_neg he] at LC
    have LV2 := Lib.hid LC
    clear LC he LV1
    go_wp2_with fail
    obtain ⟨T, hT⟩ : ∃ T, varV bs m1 = T := ⟨_, rfl⟩
    obtain ⟨x2, m2, e2⟩ := T
    have LC : loadV bs at0 = if e2 ≠ 0 then (noP, 0, e2) else cont3 bs ⟨s0, s1, x2, noP.h, noP.o⟩ m2 := by
      rw [LV2.out]
      unfold cont2
      rw [hT]
    have CA := Lib.hid (GV.out m1 W0 B0.out)
    rw [hT] at CA
    clear hT
    refine CA.out.mono ?_
    rintro e w' ⟨rfl, hw⟩
    have hw2 := hw.symm
    clear hw
    subst hw2
    clear CA
    by_cases he : e2 ≠ 0
    · rw [if_pos he] at LC
      have HR := Lib.hid LC
      have d1 : (e2 == 0) = false := by rw [beq_eq_false_iff_ne]; exact he
      have d2 : decide (e2 = 0) = false := decide_eq_false he
      have d3 : (e2 != 0) = true := by rw [bne_iff_ne]; exact he
      clear he LC
      go_wp2_with fail
      refine bodyPost_ret (v := .tuple #[noP.v, .int .i64 0, .int .i64 e2]) (by simp [results, Try.results30, go_sem, r0c, noP, Ps.v]) rfl ?_
      have G := setCells_grown w.heap.size [.string ⟨#[]⟩, .string ⟨#[]⟩, .int .i64 0, .int .i64 0, .int .i64 0] 0 W0
      exact ⟨by rw [HR.out], B0.out.trans (grown_below G B0.out.size (fun q hq => by injection hq with hq; omega))⟩
    obtain rfl : e2 = 0 := Classical.not_not.1 he
    rw [if_neg he] at LC
    have LV3 := Lib.hid LC
    clear LC he LV2
    go_wp2_with fail
    obtain ⟨T, hT⟩ : ∃ T, varV bs m2 = T := ⟨_, rfl⟩
    obtain ⟨x3, m3, e3⟩ := T
    have LC : loadV bs at0 = if e3 ≠ 0 then (noP, 0, e3) else cont4 bs ⟨s0, s1, x2, x3, noP.o⟩ m3 := by
      rw [LV3.out]
      unfold cont3
      rw [hT]
    have CA := Lib.hid (GV.out m2 W0 B0.out)
    rw [hT] at CA
    clear hT
    refine CA.out.mono ?_
    rintro e w' ⟨rfl, hw⟩
    have hw2 := hw.symm
    clear hw
    subst hw2
    clear CA
    by_cases he : e3 ≠ 0
    · rw [if_pos he] at LC
      have HR := Lib.hid LC
      have d1 : (e3 == 0) = false := by rw [beq_eq_false_iff_ne]; exact he
      have d2 : decide (e3 = 0) = false := decide_eq_false he
      have d3 : (e3 != 0) = true := by rw [bne_iff_ne]; exact he
      clear he LC
      go_wp2_with fail
      refine bodyPost_ret (v := .tuple #[noP.v, .int .i64 0, .int .i64 e3]) (by simp [results, Try.results30, go_sem, r0c, noP, Ps.v]) rfl ?_
      have G := setCells_grown w.heap.size [.string ⟨#[]⟩, .string ⟨#[]⟩, .int .i64 0, .int .i64 0, .int .i64 0] 0 W0
      exact ⟨by rw [HR.out], B0.out.trans (grown_below G B0.out.size (fun q hq => by injection hq with hq; omega))⟩
    obtain rfl : e3 = 0 := Classical.not_not.1 he
    rw [if_neg he] at LC
    have LV4 := Lib.hid LC
    clear LC he LV3
    go_wp2_with fail
    obtain ⟨T, hT⟩ : ∃ T, varV bs m3 = T := ⟨_, rfl⟩
    obtain ⟨x4, m4, e4⟩ := T
    have LC : loadV bs at0 = if e4 ≠ 0 then (noP, 0, e4) else cont5 ⟨s0, s1, x2, x3, x4⟩ m4 := by
      rw [LV4.out]
      unfold cont4
      rw [hT]
    have CA := Lib.hid (GV.out m3 W0 B0.out)
    rw [hT] at CA
    clear hT
    refine CA.out.mono ?_
    rintro e w' ⟨rfl, hw⟩
    have hw2 := hw.symm
    clear hw
    subst hw2
    clear CA
    by_cases he : e4 ≠ 0
    · rw [if_pos he] at LC
      have HR := Lib.hid LC
      have d1 : (e4 == 0) = false := by rw [beq_eq_false_iff_ne]; exact he
      have d2 : decide (e4 = 0) = false := decide_eq_false he
      have d3 : (e4 != 0) = true := by rw [bne_iff_ne]; exact he
      clear he LC
      go_wp2_with fail
      refine bodyPost_ret (v := .tuple #[noP.v, .int .i64 0, .int .i64 e4]) (by simp [results, Try.results30, go_sem, r0c, noP, Ps.v]) rfl ?_
      have G := setCells_grown w.heap.size [.string ⟨#[]⟩, .string ⟨#[]⟩, .int .i64 0, .int .i64 0, .int .i64 0] 0 W0
      exact ⟨by rw [HR.out], B0.out.trans (grown_below G B0.out.size (fun q hq => by injection hq with hq; omega))⟩
    obtain rfl : e4 = 0 := Classical.not_not.1 he
    rw [if_neg he] at LC
    have LV5 := Lib.hid LC
    clear LC he LV4
    go_wp2_with fail
    obtain ⟨r, hr⟩ : ∃ r, rightP ⟨s0, s1, x2, x3, x4⟩ = r := ⟨_, rfl⟩
    have RT := Lib.hid (fun W => rpos_any ⟨s0, s1, x2, x3, x4⟩ W (show s0.size ≤ maxLen by have := SZ0.out; unfold maxLen; omega) (show s1.size ≤ maxLen by have := SZ1.out; unfold maxLen; omega))
    rw [hr] at RT
    have B5 := Lib.hid (B0.out.alloc B0.out.size (.cells #[.string s0, .string s1, .int .i64 x2, .int .i64 x3, .int .i64 x4] 29))
    have R5 := Lib.hid (R0.out.alloc (.cells #[.string s0, .string s1, .int .i64 x2, .int .i64 x3, .int .i64 x4] 29))
    have N5 := Lib.hid (N0.out.alloc (.cells #[.string s0, .string s1, .int .i64 x2, .int .i64 x3, .int .i64 x4] 29))
    have X5 := Lib.hid (Has.newAt W0 #[.string s0, .string s1, .int .i64 x2, .int .i64 x3, .int .i64 x4] 29 (g := W0.heap.size) rfl)
    refine (RT.out _).mono ?_
    rintro e w6 ⟨rfl, hb⟩
    have B6 := Lib.hid (below_from hb B5.out B5.out.size)
    have R6 := Lib.hid (R5.out.past hb)
    have N6 := Lib.hid (N5.out.past hb)
    have X6 := Lib.hid (X5.out.past hb)
    have r6c := R6.out.cell
    have r6l := R6.out.lt
    have r6f := R6.out.free
    have n6c := N6.out.cell
    have n6l := N6.out.lt
    have x6c := X6.out.cell
    have x6l := X6.out.lt
    clear hb RT r0c r0l r0f n0c n0l
    cases r with
    | false =>
      have HR := Lib.hid (show loadV bs at0 = (noP, 0, 11) from by rw [LV5.out]; unfold cont5; rw [if_neg (by rw [hr]; decide)])
      clear hr
      go_wp2_with fail
      refine bodyPost_ret (v := .tuple #[noP.v, .int .i64 0, .int .i64 11]) (by simp [results, Try.results30, go_sem, r6c, noP, Ps.v]) rfl ?_
      have G := setCells_grown w.heap.size [.string ⟨#[]⟩, .string ⟨#[]⟩, .int .i64 0, .int .i64 0, .int .i64 0] 0 w6
      exact ⟨by rw [HR.out], B6.out.trans (grown_below G B6.out.size (fun q hq => by injection hq with hq; omega))⟩
    | true =>
      have HR := Lib.hid (show loadV bs at0 = (⟨s0, s1, x2, x3, x4⟩, m4, 0) from by rw [LV5.out]; unfold cont5; rw [if_pos hr])
      clear hr
      go_wp2_with fail
      refine bodyPost_ret (v := .tuple #[(⟨s0, s1, x2, x3, x4⟩ : Ps).v, .int .i64 m4, .int .i64 0]) (by simp [results, Try.results30, go_sem, r6c, Ps.v]) rfl ?_
      have G := setCells_grown w.heap.size [.string s0, .string s1, .int .i64 x2, .int .i64 x3, .int .i64 x4] 0 w6
      exact ⟨by rw [HR.out], B6.out.trans (grown_below G B6.out.size (fun q hq => by injection hq with hq; omega))⟩
end Go.Proofs.Ytnkjkgakbgjddaa
