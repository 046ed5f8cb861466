/- The document's Save. -/
import Derived.Test.YtnkjkgakbgjddaaRBit
import Derived.Test.YtnkjkgakbgjddaaRNm
namespace Go.Proofs.Ytnkjkgakbgjddaa
open Go.RowKit

set_option maxRecDepth 100000 in
set_option maxHeartbeats 8000000 in
theorem rsave_yes (g t : ByteArray) (a h o : Nat) (w : World) (hr : rightP ⟨g, t, a, h, o⟩ = true) : Calls Try.prog 28 #[(⟨g, t, a, h, o⟩ : Ps).v] w fun e w' => ∃ A n c, e = .returned (.tuple #[.slice A n c, .int .i64 0]) ∧ Sl u8K w' A n c (saveB ⟨g, t, a, h, o⟩) ∧ Below w.heap.size w w' := by
  obtain ⟨q1, q2, q3, q4, q5, q6, q7, q8⟩ := right_parts hr
  simp only at q1 q2 q3 q4 q5 q6 q7 q8
  have RT := Lib.hid (fun w => rpos_any ⟨g, t, a, h, o⟩ w (show g.size ≤ maxLen by unfold maxLen; omega) (show t.size ≤ maxLen by unfold maxLen; omega))
  rw [hr] at RT
  have S0 := Lib.hid (Has.newAt w #[.string g, .string t, .int .i64 (a : Int), .int .i64 (h : Int), .int .i64 (o : Int)] 29 (g := w.heap.size) rfl)
  have B0 := Lib.hid (below_alloc1 w (.cells #[.string g, .string t, .int .i64 (a : Int), .int .i64 (h : Int), .int .i64 (o : Int)] 29))
  have s0c := S0.out.cell
  have s0l := S0.out.lt
  have g1 := Lib.hid (putT_len' g (by omega))
  have t1 := Lib.hid (putT_len' t (by omega))
  have a1 := Lib.hid (varZ_len (2 * a) (by omega))
  have h1 := Lib.hid (varZ_len (2 * h) (by omega))
  have PB : Hid (saveB ⟨g, t, a, h, o⟩ = putT g ++ putT t ++ varZ (2 * a) ++ varZ (2 * h) ++ varZ (2 * o)) := Lib.hid rfl
  clear hr
  unfold Ps.v at *
  go_enter Try.func28, Try.ntmps28
  go_wp2_with fail
  refine (RT.out _).mono ?_
  rintro e w1 ⟨rfl, hb⟩
  have B1 := Lib.hid (below_from hb B0.out B0.out.size)
  have S1 := Lib.hid (S0.out.past hb)
  have s1c := S1.out.cell
  have s1l := S1.out.lt
  
  clear hb s0c s0l
  go_wp2_with fail
  refine (rputText_any none 0 0 [] g _ (Sl.nil _ _) (by omega) (by omega)).mono ?_
  rintro e w2 ⟨A2, n2, c2, rfl, hO, hb⟩
  have O2 := Lib.hid hO
  have L2 := Lib.hid hO.1
  clear hO
  have B2 := Lib.hid (below_from hb B1.out B1.out.size)
  have S2 := Lib.hid (S1.out.past hb)
  have s2c := S2.out.cell
  have s2l := S2.out.lt
  
  clear hb s1c s1l
  go_wp2_with fail
  refine (rputText_any A2 n2 c2 _ t _ O2.out.sl (by rw [← L2.out]; have := g1.out; simp only [List.nil_append]; omega) (by omega)).mono ?_
  rintro e w3 ⟨A3, n3, c3, rfl, hO, hb⟩
  have O3 := Lib.hid hO
  have L3 := Lib.hid hO.1
  clear hO
  have B3 := Lib.hid (below_from hb B2.out B2.out.size)
  have S3 := Lib.hid (S2.out.past hb)
  have s3c := S3.out.cell
  have s3l := S3.out.lt
  
  clear hb s2c s2l
  go_wp2_with fail
  refine (rputVar_any A3 n3 c3 _ a (by omega) _ O3.out.sl (by rw [← L3.out]; have := g1.out; have := t1.out; simp only [List.nil_append, List.length_append]; omega)).mono ?_
  rintro e w4 ⟨A4, n4, c4, rfl, hO, hb⟩
  have O4 := Lib.hid hO
  have L4 := Lib.hid hO.1
  clear hO
  have B4 := Lib.hid (below_from hb B3.out B3.out.size)
  have S4 := Lib.hid (S3.out.past hb)
  have s4c := S4.out.cell
  have s4l := S4.out.lt
  
  clear hb s3c s3l
  go_wp2_with fail
  refine (rputVar_any A4 n4 c4 _ h (by omega) _ O4.out.sl (by rw [← L4.out]; have := g1.out; have := t1.out; have := a1.out; simp only [List.nil_append, List.length_append]; omega)).mono ?_
  rintro e w5 ⟨A5, n5, c5, rfl, hO, hb⟩
  have O5 := Lib.hid hO
  have L5 := Lib.hid hO.1
  clear hO
  have B5 := Lib.hid (below_from hb B4.out B4.out.size)
  have S5 := Lib.hid (S4.out.past hb)
  have s5c := S5.out.cell
  have s5l := S5.out.lt
  
  clear hb s4c s4l
  go_wp2_with fail
  refine (rputVar_any A5 n5 c5 _ o (by omega) _ O5.out.sl (by rw [← L5.out]; have := g1.out; have := t1.out; have := a1.out; have := h1.out; simp only [List.nil_append, List.length_append]; omega)).mono ?_
  rintro e w6 ⟨A6, n6, c6, rfl, hO, hb⟩
  have O6 := Lib.hid hO
  have L6 := Lib.hid hO.1
  clear hO
  have B6 := Lib.hid (below_from hb B5.out B5.out.size)
  have S6 := Lib.hid (S5.out.past hb)
  have s6c := S6.out.cell
  have s6l := S6.out.lt
  
  clear hb s5c s5l
  go_wp2_with fail
  go_ret2
  exact ⟨A6, n6, c6, rfl, by rw [PB.out]; simpa using O6.out.sl, B6.out⟩

set_option maxRecDepth 100000 in
theorem rsave_any (p : Ps) (w : World) (hp : p.wf) : Calls Try.prog 28 #[p.v] w fun e w' => ∃ A n c, e = .returned (.tuple #[.slice A n c, .int .i64 (saveV p).2]) ∧ Sl u8K w' A n c (saveV p).1 ∧ Below w.heap.size w w' := by
  by_cases hr : rightP p = true
  · obtain ⟨q1, q2, q3, q4, q5, q6, q7, q8⟩ := right_parts hr
    have SV : saveV p = (saveB p, 0) := if_pos hr
    rw [SV]
    obtain ⟨g, t, a, h, o⟩ := p
    simp only at q1 q2 q3 q4 q5 q6 q7 q8
    obtain ⟨a, rfl⟩ : ∃ m : Nat, a = m := ⟨a.toNat, by omega⟩
    obtain ⟨h, rfl⟩ : ∃ m : Nat, h = m := ⟨h.toNat, by omega⟩
    obtain ⟨o, rfl⟩ : ∃ m : Nat, o = m := ⟨o.toNat, by omega⟩
    exact rsave_yes g t a h o w hr
  · have SV := Lib.hid (show saveV p = ([], 1) from if_neg hr)
    have RT := Lib.hid (fun w => rpos_any p w hp.1 hp.2.1)
    have hf : rightP p = false := by cases h : rightP p with | true => exact absurd h hr | false => rfl
    rw [hf] at RT
    have S0 := Lib.hid (Has.newAt w #[.string p.g, .string p.t, .int .i64 p.p, .int .i64 p.h, .int .i64 p.o] 29 (g := w.heap.size) rfl)
    have B0 := Lib.hid (below_alloc1 w (.cells #[.string p.g, .string p.t, .int .i64 p.p, .int .i64 p.h, .int .i64 p.o] 29))
    have s0c := S0.out.cell
    have s0l := S0.out.lt
    rw [SV.out]
    clear hr hp hf
    unfold Ps.v at *
    go_enter Try.func28, Try.ntmps28
    go_wp2_with fail
    refine (RT.out _).mono ?_
    rintro e w1 ⟨rfl, hb⟩
    have B1 := Lib.hid (below_from hb B0.out B0.out.size)
    clear hb
    go_wp2_with fail
    go_ret2
    exact ⟨none, 0, 0, rfl, Sl.nil _ _, B1.out⟩
end Go.Proofs.Ytnkjkgakbgjddaa
