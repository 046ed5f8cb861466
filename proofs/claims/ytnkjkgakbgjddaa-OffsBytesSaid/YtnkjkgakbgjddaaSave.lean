/- PutText; Save, of the program. -/
import Derived.Test.YtnkjkgakbgjddaaBit
import Derived.Test.YtnkjkgakbgjddaaRight
import Derived.Test.YtnkjkgakbgjddaaOrder
import Derived.Test.YtnkjkgakbgjddaaLawB
import Derived.Lib.AppendStr
namespace Go.Proofs.Ytnkjkgakbgjddaa
open Go.RowKit

theorem strCells_u8 (s : ByteArray) : Lib.strCells s = (s.data.toList).flatMap u8K.cells := by
  rw [flat_u8]; rfl

set_option maxRecDepth 100000 in
set_option maxHeartbeats 2000000 in
theorem putText_any (A : Option Addr) (n c : Nat) (bs : List UInt8) (s : ByteArray) (w : World) (hl : Sl u8K w A n c bs) (hn : n ≤ 50000) (hs : s.size ≤ 2000) :
    Calls Try.prog 51 #[.slice A n c, .string s] w fun e w' => ∃ A' n' c', e = .returned (.slice A' n' c') ∧ Own u8K 5 w' w.heap.size A' n' c' (bs ++ putT s) ∧ Below w.heap.size w w' := by
  obtain ⟨i0, hi0, hz0, hz1, hz2⟩ := info_parts inf5
  have PV := Lib.hid (putVar_any A n c bs s.size (by omega) w hl (by omega))
  have HN := Lib.hid hl.len
  clear hl
  go_enter Try.func51, Try.ntmps51
  go_wp2_with fail
  refine PV.out.mono ?_
  rintro e w1 ⟨A1, n1, c1, rfl, hO, hb⟩
  have O1 := Lib.hid hO
  have B1 := Lib.hid hb
  have VL := Lib.hid (varZ_len (2 * s.size) (by omega))
  have LN := Lib.hid hO.1
  have hlen : n1 ≤ 60000 := by
    have := LN.out
    rw [List.length_append, HN.out] at this
    have := VL.out
    omega
  clear hO hb
  go_wp2_with (at_builtin; refine Lib.wpList_append_own_string _ rfl _ _ 45 9 rfl w.heap.size 5 i0 Try.underlying45 Try.underlying9 hi0 hz0 hz1 hz2 (.slice A1 n1 c1) n1 _ rfl O1.out.2.1 s rfl ?qc1 ?qc2 ?qc3 ?_)
  case qc1 => unfold maxLen; omega
  case qc2 => omega
  case qc3 => exact B1.out.size
  intro v' w2 hown hgrow _
  obtain ⟨A2, c2, rfl⟩ := owns_form hown
  have HO := Lib.hid hown
  have HG := Lib.hid hgrow
  clear hown hgrow
  go_wp2_with fail
  go_ret
  refine ⟨A2, n1 + s.size, c2, by simp, ⟨?_, ?_, fun _ _ => trivial⟩, B1.out.trans (grown_below HG.out B1.out.size (fun q hq => (O1.out.2.1.lt q hq).1))⟩
  · have := LN.out
    unfold putT
    rw [← List.append_assoc, List.length_append, this]
    show _ = _ + s.data.size
    simp
  · have := HO.out
    unfold putT
    rw [List.flatMap_append, List.flatMap_append, ← strCells_u8]
    exact this

theorem putT_len' (s : ByteArray) (hs : s.size ≤ 2000) : (putT s).length ≤ 9 + s.size := by
  unfold putT
  have h1 := varZ_len (2 * s.size) (by omega)
  have h2 : s.data.toList.length = s.size := Array.length_toList
  rw [List.length_append, h2]
  omega

set_option maxRecDepth 100000 in
set_option maxHeartbeats 8000000 in
theorem save_any (p : Ps) (w : World) (hp : p.wf) : Calls Try.prog 27 #[p.v] w fun e w' => ∃ A n c, e = .returned (.tuple #[.slice A n c, .int .i64 (saveV p).2]) ∧ Sl u8K w' A n c (saveV p).1 ∧ Below w.heap.size w w' := by
  have RT := Lib.hid (fun w => right_any p w hp.1 hp.2.1)
  have S0 := Lib.hid (Has.newAt w #[.string p.g, .string p.t, .int .i64 p.p, .int .i64 p.h, .int .i64 p.o] 29 (g := w.heap.size) rfl)
  have B0 := Lib.hid (below_alloc1 w (.cells #[.string p.g, .string p.t, .int .i64 p.p, .int .i64 p.h, .int .i64 p.o] 29))
  have s0c := S0.out.cell
  have s0l := S0.out.lt
  by_cases hr : rightP p = true
  · obtain ⟨q1, q2, q3, q4, q5, q6, q7, q8⟩ := right_parts hr
    rw [hr] at RT
    have SV : Hid (saveV p = (saveB p, 0)) := Lib.hid (if_pos hr)
    obtain ⟨g, t, a, h, o⟩ := p
    simp only at q1 q2 q3 q4 q5 q6 q7 q8 S0 B0 s0c s0l
    obtain ⟨a, rfl⟩ : ∃ m : Nat, a = m := ⟨a.toNat, by omega⟩
    obtain ⟨h, rfl⟩ : ∃ m : Nat, h = m := ⟨h.toNat, by omega⟩
    obtain ⟨o, rfl⟩ : ∃ m : Nat, o = m := ⟨o.toNat, by omega⟩
    have PB : Hid (saveB ⟨g, t, a, h, o⟩ = putT g ++ putT t ++ varZ (2 * a) ++ varZ (2 * h) ++ varZ (2 * o)) := Lib.hid rfl
    have g1 := Lib.hid (putT_len' g (by omega))
    have t1 := Lib.hid (putT_len' t (by omega))
    have a1 := Lib.hid (varZ_len (2 * a) (by omega))
    have h1 := Lib.hid (varZ_len (2 * h) (by omega))
    clear hr hp
    unfold Ps.v at *
    go_enter Try.func27, Try.ntmps27
    go_wp2_with ((go_at_call 35; refine (RT.out _).mono ?_; rintro e w1 ⟨rfl, hb⟩; have B1 := Lib.hid (below_from hb B0.out B0.out.size); have S1 := Lib.hid (S0.out.past hb); have s1c := S1.out.cell; have s1l := S1.out.lt; clear hb s0c s0l))
    refine region_seg (fun w' => w'.cell? ⟨w.heap.size, 0, none⟩ = some (.string g) ∧ w'.cell? ⟨w.heap.size, 1, none⟩ = some (.string t)) 7 [(0, true), (1, true), (3, true), (4, true), (5, true), (2, false), (6, false)] (by kernel_rfl) (by kernel_rfl) ⟨s1c 0, s1c 1⟩ (fun hHeld => ?_)
    iterate 5
      refine seg_take (v := ?_) (by simp only [List.getElem?_toArray, List.getElem?_cons_succ, List.getElem?_cons_zero]; rfl) (Or.inl ⟨by rfl, ?_⟩) ?_
      rotate_left 1
      · intro w hSw
        try dsimp only at hSw
        go_simp
        try with_reducible rfl
      try simp only [Act.put, List.setIfInBounds_toArray, List.set_cons_zero, List.set_cons_succ]
    refine seg_op (by simp only [List.getElem?_toArray, List.getElem?_cons_succ, List.getElem?_cons_zero]; rfl) (fun K hK => ?_)
    go_wp2_with (go_at_call 51; refine (putText_any none 0 0 [] g _ (Sl.nil _ _) (by omega) (by omega)).mono ?_; rintro e w2 ⟨A2, n2, c2, rfl, hO, hb⟩; have B2 := Lib.hid (below_from (Below.trans ((Below.refl _ w1).drew) hb) B1.out B1.out.size); have S2 := Lib.hid (S1.out.drew.past hb); have O2 := Lib.hid hO; clear hb hO)
    clear hHeld
    refine hK.out _ _ ⟨S2.out.cell 0, S2.out.cell 1⟩ (fun hHeld => ?_)
    clear hK K
    try simp only [Act.put, List.setIfInBounds_toArray, List.set_cons_zero, List.set_cons_succ]
    refine seg_op (by simp only [List.getElem?_toArray, List.getElem?_cons_succ, List.getElem?_cons_zero]; rfl) (fun K hK => ?_)
    go_wp2_with (go_at_call 51; refine (putText_any A2 n2 c2 _ t _ O2.out.sl (by rw [← O2.out.1]; have := g1.out; simp only [List.nil_append]; omega) (by omega)).mono ?_; rintro e w3 ⟨A3, n3, c3, rfl, hO, hb⟩; have B3 := Lib.hid (below_from hb B2.out B2.out.size); have S3 := Lib.hid (S2.out.past hb); have O3 := Lib.hid hO; clear hb hO)
    clear hHeld
    refine hK.out _ _ ⟨S3.out.cell 0, S3.out.cell 1⟩ (fun hHeld => ?_)
    clear hK K
    try simp only [Act.put, List.setIfInBounds_toArray, List.set_cons_zero, List.set_cons_succ]
    refine seg_tail rfl ?_
    clear hHeld
    have s3c := S3.out.cell
    have s3l := S3.out.lt
    clear s1c s1l
    go_wp2_with fail
    have K3 := Lib.hid (Has.newAt w3 #[.int .i64 (a : Int), .int .i64 (h : Int), .int .i64 (o : Int)] 3 (g := w3.heap.size) rfl)
    have B4 := Lib.hid (B3.out.alloc B3.out.size (.cells #[.int .i64 (a : Int), .int .i64 (h : Int), .int .i64 (o : Int)] 3))
    have O4 := Lib.hid (O3.out.sl.alloc (.cells #[.int .i64 (a : Int), .int .i64 (h : Int), .int .i64 (o : Int)] 3))
    have N3 := Lib.hid O3.out.1
    have HZ : Hid (∀ k (hk : k < 3), [a, h, o][k]'hk ≤ 2199023255552 ∧ (varZ (2 * [a, h, o][k]'hk)).length ≤ 9) := Lib.hid (fun k hk => by
      have := varZ_len (2 * [a, h, o][k]) (by rcases (show k = 0 ∨ k = 1 ∨ k = 2 by omega) with rfl | rfl | rfl <;> simp <;> omega)
      refine ⟨?_, this⟩
      rcases (show k = 0 ∨ k = 1 ∨ k = 2 by omega) with rfl | rfl | rfl <;> simp <;> omega)
    obtain ⟨W4, hW4⟩ : ∃ W4, W4 = w3.alloc (.cells #[.int .i64 (a : Int), .int .i64 (h : Int), .int .i64 (o : Int)] 3) := ⟨_, rfl⟩
    rw [← hW4] at K3 B4 O4
    have HW4 := Lib.hid hW4
    clear hW4 s3c s3l
    rw [← HW4.out]
    go_loopg [4, 27] 3 (fun kx s4 s27 wr => ∃ (k : Nat) (A' : Option Addr) (n' c' : Nat), k ≤ 3 ∧ 3 - k ≤ kx ∧ s4 = .slice A' n' c' ∧ s27 = .int .i64 (k : Nat) ∧ n' ≤ n3 + 9 * k ∧ Hid (Below W4.heap.size W4 wr) ∧ Hid (Sl u8K wr A' n' c' (putT g ++ putT t ++ ([a, h, o].take k).flatMap fun z => varZ (2 * z))))
    case atStart => exact ⟨0, A3, n3, c3, by omega, by omega, rfl, rfl, by omega, Lib.hid (Below.refl _ _), Lib.hid (by simpa using O4.out)⟩
    case round =>
      obtain ⟨k, A', n', c', hk, hgg, rfl, rfl, hn', hb, hO⟩ := hrel
      have BB := Lib.hid (B4.out.trans (hb.out.mono B4.out.size))
      by_cases hlt : k < 3
      · have KC := Lib.hid (K3.out.past hb.out)
        have kc := KC.out.cell
        have kl := KC.out.lt
        have hz := HZ.out k hlt
        obtain ⟨z, hzk⟩ : ∃ z, [a, h, o][k]'hlt = z := ⟨_, rfl⟩
        rw [hzk] at hz
        have kz : wr.cell? ⟨w3.heap.size, k, none⟩ = some (.int .i64 (z : Nat)) := by
          rw [kc]
          rcases (show k = 0 ∨ k = 1 ∨ k = 2 by omega) with rfl | rfl | rfl <;> simp at hzk <;> subst hzk <;> rfl
        have TK := Lib.hid (show [a, h, o].take (k + 1) = [a, h, o].take k ++ [z] from by rw [List.take_succ_eq_append_getElem (show k < [a, h, o].length from hlt), hzk])
        have PV := Lib.hid (putVar_any A' n' c' _ z hz.1 wr hO.out (by have h1 := N3.out; have h2 := g1.out; have h3 := t1.out; simp only [List.nil_append, List.length_append] at h1; omega))
        have ZL := Lib.hid hz.2
        have k0 : (0 : Int) ≤ (k : Int) := by omega
        have k1 : (k : Int) < 3 := by omega
        clear hz hzk kc
        go_wp2_with (refine PV.out.mono ?_; rintro e w5 ⟨A5, n5, c5, rfl, hO5, hb5⟩; have O5 := Lib.hid hO5; have B5 := Lib.hid hb5; clear hO5 hb5)
        go_roundg (3 - (k + 1))
        case measure => omega
        case rel =>
          refine ⟨k + 1, A5, n5, c5, by omega, by omega, rfl, by go_num, ?_, Lib.hid (below_from B5.out hb.out hb.out.size), Lib.hid ?_⟩
          · have h1 := O5.out.1
            have h2 := hO.out.len
            have h3 := ZL.out
            rw [List.length_append, h2] at h1
            omega
          · rw [TK.out, List.flatMap_append, List.flatMap_singleton, ← List.append_assoc]
            exact O5.out.sl
      · obtain rfl : k = 3 := by omega
        go_wp2_with fail
        go_ret2
        refine ⟨A', n', c', by rw [SV.out]; rfl, ?_, BB.out⟩
        rw [SV.out, PB.out]
        have := hO.out
        simpa [List.append_assoc] using this
  · have hr2 : rightP p = false := by simpa using hr
    have SV : Hid (saveV p = ([], 1)) := Lib.hid (if_neg hr)
    rw [hr2] at RT
    clear hr hr2 hp
    unfold Ps.v at *
    go_enter Try.func27, Try.ntmps27
    go_wp2_with (go_at_call 35; refine (RT.out _).mono ?_; rintro e w1 ⟨rfl, hb⟩; have B1 := Lib.hid (below_from hb B0.out B0.out.size); clear hb)
    go_ret2
    exact ⟨none, 0, 0, by rw [SV.out]; rfl, by rw [SV.out]; exact Sl.nil _ _, B1.out⟩

end Go.Proofs.Ytnkjkgakbgjddaa
