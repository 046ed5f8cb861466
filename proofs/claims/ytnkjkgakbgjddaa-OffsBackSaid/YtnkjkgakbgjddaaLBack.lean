/- OffsBack: what is saved is loaded. -/
import Derived.Test.YtnkjkgakbgjddaaLive
import Derived.Test.YtnkjkgakbgjddaaLawB
import Derived.Test.YtnkjkgakbgjddaaApp
import Derived.Deep.DeepCutAuto
namespace Go.Proofs.Ytnkjkgakbgjddaa
open Go.RowKit

theorem noP_wf : noP.wf := ⟨by decide, by decide, rfl, rfl, rfl⟩
theorem right_wf {x : Ps} (h : rightP x = true) : x.wf := by
  obtain ⟨h1, h2, h3, h4, h5, h6, h7, h8⟩ := right_parts h
  refine ⟨by unfold maxLen; omega, by unfold maxLen; omega, ?_, ?_, ?_⟩ <;> (simp [Lit.wf, IntKind.min, IntKind.max, IntKind.bits, IntKind.signed]; omega)
theorem save_len {x : Ps} (h : rightP x = true) : (saveB x).length ≤ 1000 := by
  obtain ⟨h1, h2, h3, h4, h5, h6, h7, h8⟩ := right_parts h
  unfold saveB
  simp only [List.length_append]
  have a1 := putT_len' x.g (by omega)
  have a2 := putT_len' x.t (by omega)
  have a3 := varZ_len (2 * x.p.toNat) (by omega)
  have a4 := varZ_len (2 * x.h.toNat) (by omega)
  have a5 := varZ_len (2 * x.o.toNat) (by omega)
  omega
theorem load_cases {bs : List UInt8} {i : Int} {q : Ps} {m e : Int} (h : loadV bs i = (q, m, e)) : (e = 0 ∧ rightP q = true) ∨ (e ≠ 0 ∧ q = noP) := by
  unfold loadV at h
  simp only at h
  repeat' split at h
  all_goals (simp only [Prod.mk.injEq] at h; obtain ⟨rfl, rfl, rfl⟩ := h)
  all_goals first
    | (right; refine ⟨by assumption, rfl⟩)
    | (right; exact ⟨by decide, rfl⟩)
    | (left; exact ⟨rfl, by assumption⟩)
theorem load_wf {bs : List UInt8} {i : Int} {q : Ps} {m e : Int} (h : loadV bs i = (q, m, e)) : q.wf := by
  rcases load_cases h with ⟨_, h⟩ | ⟨_, rfl⟩
  · exact right_wf h
  · exact noP_wf

set_option maxHeartbeats 16000000 in
set_option maxRecDepth 100000 in
theorem lback_any (p : Ps) (A : Option Addr) (n c : Nat) (la : List UInt8) (A1 : Option Addr) (n1 c1 : Nat) (lb : List UInt8) (A2 : Option Addr) (n2 c2 : Nat) (lc : List UInt8) (w : World) (hp : p.wf) (ha : Sl u8K w A n c la) (hb : Sl u8K w A1 n1 c1 lb) (hc : Sl u8K w A2 n2 c2 lc) : Calls Try.prog 10 #[p.v, .slice A n c, .slice A1 n1 c1, .slice A2 n2 c2] w fun e w' => e = .returned (.bool true) ∧ Below w.heap.size w w' := by
  have HP := Lib.hid hp
  have ma := ha.max
  have na := ha.cap
  have mb := hb.max
  have nb := hb.cap
  have mc := hc.max
  have nc := hc.cap
  obtain ⟨VL, hVL⟩ : ∃ V, loadV lc 0 = V := ⟨_, rfl⟩
  obtain ⟨q, nx, e⟩ := VL
  have VL := Lib.hid hVL
  have QW := Lib.hid (load_wf hVL)
  obtain ⟨VS, hVS⟩ : ∃ V, saveV q = V := ⟨_, rfl⟩
  obtain ⟨ls, es⟩ := VS
  have VS := Lib.hid hVS
  obtain ⟨VP, hVP⟩ : ∃ V, saveV p = V := ⟨_, rfl⟩
  obtain ⟨lp, ep⟩ := VP
  have VP := Lib.hid hVP
  obtain ⟨i0, hi0, hz0, hz1, hz2⟩ := info_parts inf5
  obtain ⟨W0, hW0⟩ : ∃ W0, W0 = (w.alloc (.cells #[.string p.g, .string p.t, .int .i64 p.p, .int .i64 p.h, .int .i64 p.o] 29)) := ⟨_, rfl⟩
  have bw : Below w.heap.size w W0 := by rw [hW0]; exact below_alloc1 w _
  have B0 := Lib.hid bw
  have Sp0 := Lib.hid (show Has W0 (w.heap.size) #[.string p.g, .string p.t, .int .i64 p.p, .int .i64 p.h, .int .i64 p.o] from by rw [hW0]; exact Has.newAt w _ 29 rfl)
  have cSp0 := Sp0.out.cell
  have lSp0 := Sp0.out.lt
  have YA0 := Lib.hid (ha.below bw)
  have YB0 := Lib.hid (hb.below bw)
  have YC0 := Lib.hid (hc.below bw)
  have LV := Lib.hid live_any
  have FW := Lib.hid few_any
  have FP := Lib.hid fewP_any
  have SV := Lib.hid save_any
  have LD := Lib.hid load_any
  have HW0 := Lib.hid hW0
  clear bw hW0 ha hb hc hp hVL hVS hVP
  try unfold Ps.v
  go_enter Try.func10, Try.ntmps10
  go_wp2_with fail
  rw [← HW0.out]
  refine (LV.out _).mono ?_
  intro e w1 hx
  obtain ⟨rfl, hb⟩ := hx
  have B1 := Lib.hid (below_from hb B0.out B0.out.size)
  have Sp1 := Lib.hid (Sp0.out.past hb)
  have cSp1 := Sp1.out.cell
  have lSp1 := Sp1.out.lt
  have YA1 := Lib.hid (YA0.out.below hb)
  have YB1 := Lib.hid (YB0.out.below hb)
  have YC1 := Lib.hid (YC0.out.below hb)
  clear cSp0 lSp0 hb
  go_wp2_with fail
  refine (FP.out p _).mono ?_
  intro e w2 hx
  obtain ⟨rfl, hb⟩ := hx
  have B2 := Lib.hid (below_from hb B1.out B1.out.size)
  have Sp2 := Lib.hid (Sp1.out.past hb)
  have cSp2 := Sp2.out.cell
  have lSp2 := Sp2.out.lt
  have YA2 := Lib.hid (YA1.out.below hb)
  have YB2 := Lib.hid (YB1.out.below hb)
  have YC2 := Lib.hid (YC1.out.below hb)
  clear cSp1 lSp1 hb
  obtain ⟨bf1, hbf1⟩ : ∃ b, fewP p = b := ⟨_, rfl⟩
  rw [hbf1]
  have HF1 := Lib.hid hbf1
  clear hbf1
  cases bf1 with
  | false =>
    go_wp2_with fail
    go_ret
    exact ⟨rfl, B2.out⟩
  | true => ?_
  by_cases g1 : 100 < n
  · have d1 : decide ((100 : Int) < (n : Int)) = true := decide_eq_true (by omega)
    clear g1
    go_wp2_with fail
    go_ret
    exact ⟨rfl, B2.out⟩
  have d1 : decide ((100 : Int) < (n : Int)) = false := decide_eq_false (by omega)
  have G1 := Lib.hid g1
  clear g1
  by_cases g2 : 100 < n1
  · have d2 : decide ((100 : Int) < (n1 : Int)) = true := decide_eq_true (by omega)
    clear g2
    go_wp2_with fail
    go_ret
    exact ⟨rfl, B2.out⟩
  have d2 : decide ((100 : Int) < (n1 : Int)) = false := decide_eq_false (by omega)
  have G2 := Lib.hid g2
  clear g2
  by_cases g3 : 300 < n2
  · have d3 : decide ((300 : Int) < (n2 : Int)) = true := decide_eq_true (by omega)
    clear g3
    go_wp2_with fail
    go_ret
    exact ⟨rfl, B2.out⟩
  have d3 : decide ((300 : Int) < (n2 : Int)) = false := decide_eq_false (by omega)
  have G3 := Lib.hid g3
  clear g3
  go_wp2_with fail
  refine (show Calls _ _ _ _ (fun x w' => x = .returned (.tuple #[.agg #[.string q.g, .string q.t, .int .i64 q.p, .int .i64 q.h, .int .i64 q.o], .int .i64 nx, .int .i64 e]) ∧ Below _ _ w') from load_at YC2.out VL.out).mono ?_
  intro e w3 hx
  obtain ⟨rfl, hb⟩ := hx
  have bk3 := hb.alloc hb.size (.cells #[.string q.g, .string q.t, .int .i64 q.p, .int .i64 q.h, .int .i64 q.o] 29)
  have B3 := Lib.hid (below_from bk3 B2.out B2.out.size)
  have Sp3 := Lib.hid (Sp2.out.past bk3)
  have cSp3 := Sp3.out.cell
  have lSp3 := Sp3.out.lt
  have YA3 := Lib.hid (YA2.out.below bk3)
  have YB3 := Lib.hid (YB2.out.below bk3)
  have YC3 := Lib.hid (YC2.out.below bk3)
  have X3 := Lib.hid (Has.newAt w3 #[.string q.g, .string q.t, .int .i64 q.p, .int .i64 q.h, .int .i64 q.o] 29 (g := w3.heap.size) rfl)
  have cX3 := X3.out.cell
  have lX3 := X3.out.lt
  clear bk3
  clear cSp2 lSp2 hb
  go_wp2_with fail
  refine ((show Calls Try.prog 27 #[q.v] _ _ from save_at QW.out VS.out)).mono ?_
  intro e w4 hx
  obtain ⟨A9, n9, c9, rfl, hs, hb⟩ := hx
  have B4 := Lib.hid (below_from hb B3.out B3.out.size)
  have Sp4 := Lib.hid (Sp3.out.past hb)
  have cSp4 := Sp4.out.cell
  have lSp4 := Sp4.out.lt
  have YA4 := Lib.hid (YA3.out.below hb)
  have YB4 := Lib.hid (YB3.out.below hb)
  have YC4 := Lib.hid (YC3.out.below hb)
  have X4 := Lib.hid (X3.out.past hb)
  have cX4 := X4.out.cell
  have lX4 := X4.out.lt
  have Y94 := Lib.hid (hs)
  clear cSp3 lSp3 cX3 lX3 hb hs
  go_upto_region 6 with fail
  go_cut [76] (fun s76 wx => s76 = .bool false ∧ Hid (Below w4.heap.size w4 wx))
  case first =>
    by_cases he : e = 0
    · subst he
      obtain ⟨hr, m, hm, hml, hsv⟩ := save_load VL.out
      subst hm
      have hvs := VS.out
      unfold saveV at hvs
      rw [if_pos hr, hsv] at hvs
      injection hvs with h1 h2
      subst h1 h2
      have hmn : m ≤ n2 := by rw [← YC4.out.len]; exact hml
      have cv1 := fun d os => conv_bs (P := Try.prog) (Y94.out.below (below_regrown w4 d os)) 45 Try.underlying45 Try.underlying5 Try.underlying9
      have cv2 := fun d os => conv_bs (P := Try.prog) ((YC4.out.take m hmn).below (below_regrown w4 d os)) 45 Try.underlying45 Try.underlying5 Try.underlying9
      have b0 : decide ((m : Int) < 0) = false := decide_eq_false (by omega)
      have b1 : decide ((n2 : Int) < (m : Int)) = false := decide_eq_false (by omega)
      have b4 : decide (n2 < m) = false := decide_eq_false (by omega)
      have b2 : (0 : Int) ≤ (m : Int) := by omega
      have b3 : (m : Int) ≤ (c2 : Int) := by omega
      clear hr hml hsv hmn
      go_wp2_with fail
      refine region_below (by kernel_rfl) (by kernel_rfl) ?_
      repeat (go_big_quiet_step (fail))
      refine wpQuiet_nil ?_
      intro wz hbz
      have BZ := Lib.hid hbz
      clear hbz
      go_wp2_with fail
      go_meet
      exact ⟨rfl, BZ.out⟩
    · have n1a : (e == 0) = false := by rw [beq_eq_false_iff_ne]; exact he
      have n1b : decide (e = 0) = false := decide_eq_false he
      clear he
      go_wp2_with fail
      refine region_below (by kernel_rfl) (by kernel_rfl) ?_
      repeat (go_big_quiet_step (fail))
      refine wpQuiet_nil ?_
      intro wz hbz
      have BZ := Lib.hid hbz
      clear hbz
      go_wp2_with fail
      go_meet
      exact ⟨rfl, BZ.out⟩
  case rest =>
    obtain ⟨rfl, hw9⟩ := hcut
    have bw9 := hw9.out
    have B5 := Lib.hid (below_from bw9 B4.out B4.out.size)
    have Sp5 := Lib.hid (Sp4.out.past bw9)
    have cSp5 := Sp5.out.cell
    have lSp5 := Sp5.out.lt
    have YA5 := Lib.hid (YA4.out.below bw9)
    have YB5 := Lib.hid (YB4.out.below bw9)
    clear bw9 hw9 cSp4 lSp4
    go_wp2_with fail
    refine ((show Calls Try.prog 27 #[p.v] _ _ from save_at HP.out VP.out)).mono ?_
    intro e w5 hx
    obtain ⟨A8, n8, c8, rfl, hs, hb⟩ := hx
    have B6 := Lib.hid (below_from hb B5.out B5.out.size)
    have Sp6 := Lib.hid (Sp5.out.past hb)
    have cSp6 := Sp6.out.cell
    have lSp6 := Sp6.out.lt
    have YA6 := Lib.hid (YA5.out.below hb)
    have YB6 := Lib.hid (YB5.out.below hb)
    have Y86 := Lib.hid (hs)
    clear cSp5 lSp5 hb hs
    by_cases hr : rightP p = true
    · obtain ⟨rfl, rfl⟩ : lp = saveB p ∧ ep = 0 := by
        have := VP.out
        unfold saveV at this
        rw [if_pos hr] at this
        injection this with h1 h2
        exact ⟨h1.symm, h2.symm⟩
      have R := Lib.hid hr
      have SL := Lib.hid (save_len hr)
      clear hr
      go_wp2_with (at_builtin; refine wpList_append_sl (K := u8K) _ rfl _ _ 45 rfl w5.heap.size 5 i0 _ 1 Try.underlying45 hi0 hz0 hz1 hz2 rfl (some ⟨w5.heap.size, 0, none⟩) 0 0 [] rfl (World.ownsRow_made w5 #[] 0 (Nat.le_refl _) (Nat.zero_le _) (by simp)) A n c la rfl (YA6.out.alloc _) ?q1 ?q2 ?q3 ?_)
      case q1 => have := G1.out; unfold maxLen; omega
      case q2 => have := G1.out; omega
      case q3 => simp
      intro A5 c5 w6 hown hgrow _
      have Q6 := Lib.hid hown
      have b6 : Below w5.heap.size w5 w6 := (below_alloc1 w5 _).trans (grown_below hgrow (below_alloc1 w5 _).size (fun j hj => by simp [Value.ownBlock] at hj; omega))
      have W6 := Lib.hid b6
      clear hown hgrow b6
      go_wp2_with (at_builtin; refine wpList_append_sl (K := u8K) _ rfl _ _ 45 rfl w5.heap.size 5 i0 _ 1 Try.underlying45 hi0 hz0 hz1 hz2 rfl A5 n c5 _ rfl Q6.out A8 n8 c8 _ rfl (Y86.out.below W6.out) ?q1 ?q2 ?q3 ?_)
      case q1 => have := G1.out; have := SL.out; rw [Y86.out.len] at this; unfold maxLen; omega
      case q2 => have := G1.out; have := SL.out; rw [Y86.out.len] at this; omega
      case q3 => exact W6.out.size
      intro A6 c6 w7 hown hgrow _
      have Q7 := Lib.hid hown
      have b7 : Below w5.heap.size w5 w7 := W6.out.trans (grown_below hgrow W6.out.size (fun j hj => (Q6.out.lt j hj).1))
      have W7 := Lib.hid b7
      clear hown hgrow b7
      go_wp2_with (at_builtin; refine wpList_append_sl (K := u8K) _ rfl _ _ 45 rfl w5.heap.size 5 i0 _ 1 Try.underlying45 hi0 hz0 hz1 hz2 rfl A6 (n + n8) c6 _ rfl Q7.out A1 n1 c1 _ rfl (YB6.out.below W7.out) ?q1 ?q2 ?q3 ?_)
      case q1 => have := G1.out; have := G2.out; have := SL.out; rw [Y86.out.len] at this; unfold maxLen; omega
      case q2 => have := G1.out; have := G2.out; have := SL.out; rw [Y86.out.len] at this; omega
      case q3 => exact W7.out.size
      intro A7 c7 w8 hown hgrow _
      have Q8 := Lib.hid hown
      have b8 : Below w5.heap.size w5 w8 := W7.out.trans (grown_below hgrow W7.out.size (fun j hj => (Q7.out.lt j hj).1))
      have W8 := Lib.hid b8
      have OW := Lib.hid (show Own u8K 5 w8 w5.heap.size A7 (n + n8 + n1) c7 (la ++ saveB p ++ lb) from ⟨by rw [List.length_append, List.length_append, YA6.out.len, Y86.out.len, YB6.out.len], by rw [List.flatMap_append, List.flatMap_append]; simpa [List.append_assoc] using Q8.out, fun _ _ => trivial⟩)
      have LD8 := Lib.hid (show loadV (la ++ saveB p ++ lb) (n : Int) = (p, ((n + n8 : Nat) : Int), 0) from by
        have := load_save R.out la lb
        rw [YA6.out.len, Y86.out.len] at this
        exact this)
      have S8 := Lib.hid (Sp6.out.past (below_from W8.out (Below.refl _ _) (Nat.le_refl _)))
      have c8c := S8.out.cell
      have c8l := S8.out.lt
      have BE := Lib.hid (below_from W8.out B6.out B6.out.size)
      have LE8 := Lib.hid (show Calls Try.prog 29 #[.slice A7 (n + n8 + n1) c7, .int .i64 (n : Int)] w8 (fun x w' => x = .returned (.tuple #[.agg #[.string p.g, .string p.t, .int .i64 p.p, .int .i64 p.h, .int .i64 p.o], .int .i64 ((n + n8 : Nat) : Int), .int .i64 0]) ∧ Below w8.heap.size w8 w') from load_at OW.out.sl LD8.out)
      have nn : n + n8 ≤ 2000 := by have := G1.out; have := SL.out; rw [Y86.out.len] at this; omega
      have wr8 : wrap64 ((n : Int) + (n8 : Int)) = ((n + n8 : Nat) : Int) := by rw [IntWalk.wrap64_in _ (by omega)]; omega
      clear hown hgrow b8 cSp6 lSp6
      go_wp2_with (refine LE8.out.mono ?_; rintro e w9 ⟨rfl, hb⟩; have B9 := Lib.hid (below_from hb BE.out BE.out.size); have S9 := Lib.hid (S8.out.past hb); have c9c := S9.out.cell; have c9l := S9.out.lt; clear hb c8c c8l)
      go_ret
      exact ⟨ret_bool (by first | rfl | simp), B9.out.alloc B9.out.size _⟩
    · obtain ⟨rfl, rfl⟩ : lp = [] ∧ ep = 1 := by
        have := VP.out
        unfold saveV at this
        rw [if_neg hr] at this
        injection this with h1 h2
        exact ⟨h1.symm, h2.symm⟩
      have h0 : n8 = 0 := by rw [← Y86.out.len]; rfl
      subst h0
      clear hr
      go_wp2_with fail
      go_ret
      exact ⟨ret_bool (by first | rfl | simp), B6.out⟩

end Go.Proofs.Ytnkjkgakbgjddaa
