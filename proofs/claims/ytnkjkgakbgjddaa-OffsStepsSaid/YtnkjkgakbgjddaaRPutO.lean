/- The document's Put. -/
import Derived.Test.YtnkjkgakbgjddaaRChk
import Derived.Test.YtnkjkgakbgjddaaRPut
import Derived.Test.YtnkjkgakbgjddaaChg
namespace Go.Proofs.Ytnkjkgakbgjddaa
open Go.RowKit

set_option maxRecDepth 100000 in
set_option maxHeartbeats 8000000 in
theorem rputO_any (o : Of) (p : Ps) (w : World) (ho : Of.At w o) (hp : p.wf) : Calls Try.prog 15 #[o.v, p.v] w (ChRes o (putV o.L o.M p) w) := by
  obtain ⟨W0, hW0⟩ : ∃ W0, W0 = ((w.alloc (.cells #[.slice o.A o.n o.c, .slice o.A' o.n' o.c'] 25)).alloc (.cells #[.string p.g, .string p.t, .int .i64 p.p, .int .i64 p.h, .int .i64 p.o] 29)).alloc (.cells #[.slice none 0 0, .slice none 0 0] 25) := ⟨_, rfl⟩
  have B0 := Lib.hid (show Below w.heap.size w W0 from by rw [hW0]; exact (((below_alloc1 w _).alloc (by simp) _).alloc (by simp <;> omega) _))
  have S0 := Lib.hid (show Has W0 w.heap.size #[.slice o.A o.n o.c, .slice o.A' o.n' o.c'] from by rw [hW0]; exact (((Has.newAt w _ 25 rfl).alloc _).alloc _))
  have P0 := Lib.hid (show Has W0 (w.heap.size + 1) #[.string p.g, .string p.t, .int .i64 p.p, .int .i64 p.h, .int .i64 p.o] from by rw [hW0]; exact ((Has.newAt _ _ 29 (by simp)).alloc _))
  have R0 := Lib.hid (show Has W0 (w.heap.size + 1 + 1) #[.slice none 0 0, .slice none 0 0] from by rw [hW0]; exact (Has.newAt _ _ 25 (by simp)))
  have z0 := Lib.hid (show w.heap.size + 3 ≤ W0.heap.size from by rw [hW0]; exact Nat.le_of_eq (by simp))
  have CK := Lib.hid (fun W (h : Below w.heap.size w W) => rcheck_any o W (ho.below h))
  have RT := Lib.hid (fun W => rpos_any p W hp.1 hp.2.1)
  have HO := Lib.hid ho
  have s0c := S0.out.cell
  have s0l := S0.out.lt
  have s0f := S0.out.free
  have p0c := P0.out.cell
  have p0l := P0.out.lt
  have p0f := P0.out.free
  have r0c := R0.out.cell
  have r0l := R0.out.lt
  have r0f := R0.out.free
  have HW0 := Lib.hid hW0
  have m1 := ho.1.max
  have m2 := ho.1.cap
  have m3 := ho.2.max
  have m4 := ho.2.cap
  clear hW0
  obtain ⟨k, hk⟩ : ∃ k, checkV o.L o.M = k := ⟨_, rfl⟩
  obtain ⟨r, hr⟩ : ∃ r, rightP p = r := ⟨_, rfl⟩
  obtain ⟨V, hV⟩ : ∃ V, putV o.L o.M p = V := ⟨_, rfl⟩
  rw [hV]
  rw [hk] at CK
  rw [hr] at RT
  by_cases h0 : k = 0
  · subst h0
    have PT := Lib.hid (fun W (h : Below w.heap.size w W) => rput_any o.A o.n o.c o.L p W (ho.1.below h) (check_upL hk) (by have := check_ok hk; have := ho.1.len; omega) hp)
    have CL := Lib.hid (check_ok hk)
    unfold Ps.v at PT RT
    cases r with
    | false =>
      have HR := Lib.hid (show V = ([], [], 1) from by rw [← hV]; unfold putV chV; rw [if_pos hk, if_neg (by rw [hr]; decide)])
      clear hk hV hr ho hp
      unfold Ps.v
      go_enter Try.func15, Try.ntmps15
      go_wp2_with fail
      rw [← HW0.out]
      go_wp2_with (first
        | (go_at_call 21
           refine (CK.out _ B0.out).mono ?_
           rintro e w1 ⟨rfl, hb⟩
           have B1 := Lib.hid (below_from hb B0.out B0.out.size)
           have z1 := Lib.hid (Nat.le_trans z0.out hb.size)
           have S1 := Lib.hid (S0.out.past hb)
           have s1c := S1.out.cell
           have s1l := S1.out.lt
           have s1f := S1.out.free
           have P1 := Lib.hid (P0.out.past hb)
           have p1c := P1.out.cell
           have p1l := P1.out.lt
           have p1f := P1.out.free
           have R1 := Lib.hid (R0.out.past hb)
           have r1c := R1.out.cell
           have r1l := R1.out.lt
           have r1f := R1.out.free
           clear s0c s0l s0f
           clear p0c p0l p0f
           clear r0c r0l r0f

           clear hb)
        | (go_at_call 39
           refine (RT.out _).mono ?_
           rintro e w2 ⟨rfl, hb⟩
           have B2 := Lib.hid (below_from hb B1.out B1.out.size)
           have z2 := Lib.hid (Nat.le_trans z1.out hb.size)
           have S2 := Lib.hid (S1.out.past hb)
           have s2c := S2.out.cell
           have s2l := S2.out.lt
           have s2f := S2.out.free
           have P2 := Lib.hid (P1.out.past hb)
           have p2c := P2.out.cell
           have p2l := P2.out.lt
           have p2f := P2.out.free
           have R2 := Lib.hid (R1.out.past hb)
           have r2c := R2.out.cell
           have r2l := R2.out.lt
           have r2f := R2.out.free
           clear s1c s1l s1f
           clear p1c p1l p1f
           clear r1c r1l r1f

           clear hb))
      refine bodyPost_ret (v := .tuple #[ofV none 0 0 none 0 0, .int .i64 1]) (by simp [results, Try.results15, go_sem, r2c]) rfl ?_
      exact chRes_no HR.out (B2.out.trans (grown_below (setCells_grown (w.heap.size + 1 + 1) [.slice none 0 0, .slice none 0 0] 0 w2) B2.out.size (fun k hk => by injection hk with hk; omega)))
    | true =>
      have HV := Lib.hid (show V = capV (insC ordP p o.L) o.M from by rw [← hV]; unfold putV chV; rw [if_pos hk, if_pos (by rw [hr])])
      have LM := Lib.hid (show ¬ 4096 < o.M.length from fun h => by have := CL.out; omega)
      clear hk hV hr ho hp
      unfold Ps.v
      by_cases h1 : 4096 < (insC ordP p o.L).length
      · have HR := Lib.hid (show V = ([], [], 2) from by rw [HV.out]; unfold capV; rw [if_pos (.inl h1)])
        have H1 := Lib.hid h1
        clear h1 HV
        go_enter Try.func15, Try.ntmps15
        go_wp2_with fail
        rw [← HW0.out]
        go_wp2_with (first
          | (go_at_call 21
             refine (CK.out _ B0.out).mono ?_
             rintro e w1 ⟨rfl, hb⟩
             have B1 := Lib.hid (below_from hb B0.out B0.out.size)
             have z1 := Lib.hid (Nat.le_trans z0.out hb.size)
             have S1 := Lib.hid (S0.out.past hb)
             have s1c := S1.out.cell
             have s1l := S1.out.lt
             have s1f := S1.out.free
             have P1 := Lib.hid (P0.out.past hb)
             have p1c := P1.out.cell
             have p1l := P1.out.lt
             have p1f := P1.out.free
             have R1 := Lib.hid (R0.out.past hb)
             have r1c := R1.out.cell
             have r1l := R1.out.lt
             have r1f := R1.out.free
             clear s0c s0l s0f
             clear p0c p0l p0f
             clear r0c r0l r0f

             clear hb)
          | (go_at_call 39
             refine (RT.out _).mono ?_
             rintro e w2 ⟨rfl, hb⟩
             have B2 := Lib.hid (below_from hb B1.out B1.out.size)
             have z2 := Lib.hid (Nat.le_trans z1.out hb.size)
             have S2 := Lib.hid (S1.out.past hb)
             have s2c := S2.out.cell
             have s2l := S2.out.lt
             have s2f := S2.out.free
             have P2 := Lib.hid (P1.out.past hb)
             have p2c := P2.out.cell
             have p2l := P2.out.lt
             have p2f := P2.out.free
             have R2 := Lib.hid (R1.out.past hb)
             have r2c := R2.out.cell
             have r2l := R2.out.lt
             have r2f := R2.out.free
             clear s1c s1l s1f
             clear p1c p1l p1f
             clear r1c r1l r1f

             clear hb)
          | (go_at_call 40
             refine (PT.out _ B2.out).mono ?_
             rintro e w3 ⟨A1, n1, c1, rfl, hO, hb⟩
             have B3 := Lib.hid (below_from hb B2.out B2.out.size)
             have z3 := Lib.hid (Nat.le_trans z2.out hb.size)
             have S3 := Lib.hid (S2.out.past hb)
             have s3c := S3.out.cell
             have s3l := S3.out.lt
             have s3f := S3.out.free
             have P3 := Lib.hid (P2.out.past hb)
             have p3c := P3.out.cell
             have p3l := P3.out.lt
             have p3f := P3.out.free
             have R3 := Lib.hid (R2.out.past hb)
             have r3c := R3.out.cell
             have r3l := R3.out.lt
             have r3f := R3.out.free
             clear s2c s2l s2f
             clear p2c p2l p2f
             clear r2c r2l r2f
             have NEW : Hid (Of.At w3 ⟨A1, n1, c1, insC ordP p o.L, o.A', o.n', o.c', o.M⟩ ∧ Of.From (w.heap.size + 3) o ⟨A1, n1, c1, insC ordP p o.L, o.A', o.n', o.c', o.M⟩) := Lib.hid ⟨⟨hO.sl, HO.out.2.below B3.out⟩, (show Of.From _ o ⟨A1, n1, c1, insC ordP p o.L, o.A', o.n', o.c', o.M⟩ from ⟨.inr fun b off e => (hO.lt e).1, .inl ⟨rfl, rfl, rfl, rfl⟩⟩).mono z2.out⟩
             have HQ := Lib.hid hO.1
             have q2 := hO.sl.max
             have q3 := hO.sl.cap
             have dc : decide ((4096 : Int) < (n1 : Int)) = true := decide_eq_true (by have := H1.out; rw [hO.1] at this; omega)
             clear hO
             clear hb))
        refine bodyPost_ret (v := .tuple #[ofV none 0 0 none 0 0, .int .i64 2]) (by simp [results, Try.results15, go_sem, r3c]) rfl ?_
        exact chRes_no HR.out (B3.out.trans (grown_below (setCells_grown (w.heap.size + 1 + 1) [.slice none 0 0, .slice none 0 0] 0 w3) B3.out.size (fun k hk => by injection hk with hk; omega)))
      · have HR := Lib.hid (show V = (insC ordP p o.L, o.M, 0) from by rw [HV.out]; unfold capV; rw [if_neg (fun h => h.elim h1 LM.out)])
        have H1 := Lib.hid h1
        clear h1 HV
        go_enter Try.func15, Try.ntmps15
        go_wp2_with fail
        rw [← HW0.out]
        go_wp2_with (first
          | (go_at_call 21
             refine (CK.out _ B0.out).mono ?_
             rintro e w1 ⟨rfl, hb⟩
             have B1 := Lib.hid (below_from hb B0.out B0.out.size)
             have z1 := Lib.hid (Nat.le_trans z0.out hb.size)
             have S1 := Lib.hid (S0.out.past hb)
             have s1c := S1.out.cell
             have s1l := S1.out.lt
             have s1f := S1.out.free
             have P1 := Lib.hid (P0.out.past hb)
             have p1c := P1.out.cell
             have p1l := P1.out.lt
             have p1f := P1.out.free
             have R1 := Lib.hid (R0.out.past hb)
             have r1c := R1.out.cell
             have r1l := R1.out.lt
             have r1f := R1.out.free
             clear s0c s0l s0f
             clear p0c p0l p0f
             clear r0c r0l r0f

             clear hb)
          | (go_at_call 39
             refine (RT.out _).mono ?_
             rintro e w2 ⟨rfl, hb⟩
             have B2 := Lib.hid (below_from hb B1.out B1.out.size)
             have z2 := Lib.hid (Nat.le_trans z1.out hb.size)
             have S2 := Lib.hid (S1.out.past hb)
             have s2c := S2.out.cell
             have s2l := S2.out.lt
             have s2f := S2.out.free
             have P2 := Lib.hid (P1.out.past hb)
             have p2c := P2.out.cell
             have p2l := P2.out.lt
             have p2f := P2.out.free
             have R2 := Lib.hid (R1.out.past hb)
             have r2c := R2.out.cell
             have r2l := R2.out.lt
             have r2f := R2.out.free
             clear s1c s1l s1f
             clear p1c p1l p1f
             clear r1c r1l r1f

             clear hb)
          | (go_at_call 40
             refine (PT.out _ B2.out).mono ?_
             rintro e w3 ⟨A1, n1, c1, rfl, hO, hb⟩
             have B3 := Lib.hid (below_from hb B2.out B2.out.size)
             have z3 := Lib.hid (Nat.le_trans z2.out hb.size)
             have S3 := Lib.hid (S2.out.past hb)
             have s3c := S3.out.cell
             have s3l := S3.out.lt
             have s3f := S3.out.free
             have P3 := Lib.hid (P2.out.past hb)
             have p3c := P3.out.cell
             have p3l := P3.out.lt
             have p3f := P3.out.free
             have R3 := Lib.hid (R2.out.past hb)
             have r3c := R3.out.cell
             have r3l := R3.out.lt
             have r3f := R3.out.free
             clear s2c s2l s2f
             clear p2c p2l p2f
             clear r2c r2l r2f
             have NEW : Hid (Of.At w3 ⟨A1, n1, c1, insC ordP p o.L, o.A', o.n', o.c', o.M⟩ ∧ Of.From (w.heap.size + 3) o ⟨A1, n1, c1, insC ordP p o.L, o.A', o.n', o.c', o.M⟩) := Lib.hid ⟨⟨hO.sl, HO.out.2.below B3.out⟩, (show Of.From _ o ⟨A1, n1, c1, insC ordP p o.L, o.A', o.n', o.c', o.M⟩ from ⟨.inr fun b off e => (hO.lt e).1, .inl ⟨rfl, rfl, rfl, rfl⟩⟩).mono z2.out⟩
             have HQ := Lib.hid hO.1
             have q2 := hO.sl.max
             have q3 := hO.sl.cap
             have dc : decide ((4096 : Int) < (n1 : Int)) = false := decide_eq_false (by have := H1.out; rw [hO.1] at this; omega)
             clear hO
             clear hb))
        have G2 := setCells_grown (w.heap.size + 1 + 1) [.slice A1 n1 c1, .slice o.A' o.n' o.c'] 0 w3
        refine bodyPost_ret (v := .tuple #[(⟨A1, n1, c1, insC ordP p o.L, o.A', o.n', o.c', o.M⟩ : Of).v, .int .i64 0]) (by simp [results, Try.results15, go_sem, r3c]) rfl ?_
        have b2 := B3.out.trans (grown_below G2 B3.out.size (fun k hk => by injection hk with hk; omega))
        rw [HR.out]
        exact ⟨⟨A1, n1, c1, insC ordP p o.L, o.A', o.n', o.c', o.M⟩, rfl, NEW.out.1.kept NEW.out.2 HO.out b2 G2 (by omega), rfl, rfl, NEW.out.2.mono (by have := z0.out; omega), b2⟩
  · have HR := Lib.hid (show V = ([], [], k) from by rw [← hV]; unfold putV chV; rw [if_neg (by rw [hk]; exact h0), hk])
    have d1 : decide (k = 0) = false := decide_eq_false h0
    have d2 : (k != 0) = true := by rw [bne_iff_ne]; exact h0
    have d3 : (k == 0) = false := by rw [beq_eq_false_iff_ne]; exact h0
    clear hk hV hr ho hp h0
    unfold Ps.v
    go_enter Try.func15, Try.ntmps15
    go_wp2_with fail
    rw [← HW0.out]
    go_wp2_with (first
      | (go_at_call 21
         refine (CK.out _ B0.out).mono ?_
         rintro e w1 ⟨rfl, hb⟩
         have B1 := Lib.hid (below_from hb B0.out B0.out.size)
         have z1 := Lib.hid (Nat.le_trans z0.out hb.size)
         have S1 := Lib.hid (S0.out.past hb)
         have s1c := S1.out.cell
         have s1l := S1.out.lt
         have s1f := S1.out.free
         have P1 := Lib.hid (P0.out.past hb)
         have p1c := P1.out.cell
         have p1l := P1.out.lt
         have p1f := P1.out.free
         have R1 := Lib.hid (R0.out.past hb)
         have r1c := R1.out.cell
         have r1l := R1.out.lt
         have r1f := R1.out.free
         clear s0c s0l s0f
         clear p0c p0l p0f
         clear r0c r0l r0f

         clear hb))
    refine bodyPost_ret (v := .tuple #[ofV none 0 0 none 0 0, .int .i64 k]) (by simp [results, Try.results15, go_sem, r1c]) rfl ?_
    exact chRes_no HR.out (B1.out.trans (grown_below (setCells_grown (w.heap.size + 1 + 1) [.slice none 0 0, .slice none 0 0] 0 w1) B1.out.size (fun k hk => by injection hk with hk; omega)))

end Go.Proofs.Ytnkjkgakbgjddaa
