/- OffsLeast: none is behind the least. -/
import Derived.Test.YtnkjkgakbgjddaaLive
import Derived.Test.YtnkjkgakbgjddaaLawL
namespace Go.Proofs.Ytnkjkgakbgjddaa
open Go.RowKit

theorem ch_len {L : List Ps} {M : List Wt} {may : Bool} {L' : List Ps} {M' : List Wt} {L1 : List Ps} {M1 : List Wt} {e : Int} (h : chV L M may L' M' = (L1, M1, e)) : L1.length ≤ 60000 ∧ M1.length ≤ 60000 := by
  rcases ch_cases h with ⟨_, _, _, _, _, h1, h2⟩ | ⟨_, rfl, rfl⟩
  · exact ⟨by omega, by omega⟩
  · exact ⟨by simp, by simp⟩
theorem of_few2 {o : Of} (h : fewO o = true) : o.n ≤ 100 ∧ o.n' ≤ 100 := by unfold fewO at h; simpa using h
theorem any_on {α : Type} (f : α → Bool) {l : List α} {k : Nat} (hk : k < l.length) : (l.take (k + 1)).any f = ((l.take k).any f || f l[k]) := by
  rw [List.take_succ_eq_append_getElem hk, List.any_append]; simp

set_option maxHeartbeats 16000000 in
set_option maxRecDepth 100000 in
theorem lleast_any (o : Of) (tt : ByteArray) (tp th : Int) (p : Ps) (pid : Int) (yes : Bool) (w : World) (ho : Of.At w o) (hp : p.wf) (hi : (Lit.int .i64 pid).wf = true) : Calls Try.prog 9 #[o.v, .agg #[.string tt, .int .i64 tp, .int .i64 th], p.v, .int .i64 pid, .bool yes] w fun e w' => e = .returned (.bool true) ∧ Below w.heap.size w w' := by
  obtain ⟨L0, eL0⟩ : ∃ L, o.L = L := ⟨_, rfl⟩
  obtain ⟨M0, eM0⟩ : ∃ M, o.M = M := ⟨_, rfl⟩
  have hL0 := Lib.hid eL0
  have hM0 := Lib.hid eM0
  have HO := Lib.hid ho
  have HP := Lib.hid hp
  have WI := Lib.hid hi
  have om := ho.1.max
  have oc := ho.1.cap
  have om2 := ho.2.max
  have oc2 := ho.2.cap
  obtain ⟨V1, hV1⟩ : ∃ V, holdV L0 M0 pid p = V := ⟨_, rfl⟩
  obtain ⟨L1, M1, e1⟩ := V1
  have V1 := Lib.hid hV1
  clear hV1
  obtain ⟨V2, hV2⟩ : ∃ V, markV L0 M0 pid yes = V := ⟨_, rfl⟩
  obtain ⟨L2, M2, e2⟩ := V2
  have V2 := Lib.hid hV2
  clear hV2
  obtain ⟨za, hza⟩ : ∃ V, leastV L0 M0 tt tp th = V := ⟨_, rfl⟩
  obtain ⟨va, ba⟩ := za
  have Za := Lib.hid hza
  clear hza
  obtain ⟨zb, hzb⟩ : ∃ V, leastV L1 M1 p.t p.p p.h = V := ⟨_, rfl⟩
  obtain ⟨vb, bb⟩ := zb
  have Zb := Lib.hid hzb
  clear hzb
  obtain ⟨zc, hzc⟩ : ∃ V, leastV L2 M2 tt tp th = V := ⟨_, rfl⟩
  obtain ⟨vc, bc⟩ := zc
  have Zc := Lib.hid hzc
  clear hzc
  obtain ⟨W0, hW0⟩ : ∃ W0, W0 = (((w.alloc (.cells #[.slice o.A o.n o.c, .slice o.A' o.n' o.c'] 25)).alloc (.cells #[.string tt, .int .i64 tp, .int .i64 th] 27)).alloc (.cells #[.string p.g, .string p.t, .int .i64 p.p, .int .i64 p.h, .int .i64 p.o] 29)) := ⟨_, rfl⟩
  have bw : Below w.heap.size w W0 := by rw [hW0]; exact Below.alloc (Below.alloc (below_alloc1 w _) (by simp <;> omega) _) (by simp <;> omega) _
  have B0 := Lib.hid bw
  have So0 := Lib.hid (show Has W0 (w.heap.size) #[.slice o.A o.n o.c, .slice o.A' o.n' o.c'] from by rw [hW0]; exact ((Has.newAt w _ 25 rfl).alloc _).alloc _)
  have cSo0 := So0.out.cell
  have lSo0 := So0.out.lt
  have St0 := Lib.hid (show Has W0 (w.heap.size + 1) #[.string tt, .int .i64 tp, .int .i64 th] from by rw [hW0]; exact (Has.newAt _ _ 27 (by simp)).alloc _)
  have cSt0 := St0.out.cell
  have lSt0 := St0.out.lt
  have Sp0 := Lib.hid (show Has W0 (w.heap.size + 1 + 1) #[.string p.g, .string p.t, .int .i64 p.p, .int .i64 p.h, .int .i64 p.o] from by rw [hW0]; exact Has.newAt _ _ 29 (by simp))
  have cSp0 := Sp0.out.cell
  have lSp0 := Sp0.out.lt
  have O0 := Lib.hid (Of.At.past (show Of.At w o ∧ o.L = L0 ∧ o.M = M0 from ⟨ho, eL0, eM0⟩) bw)
  have LV := Lib.hid live_any
  have FW := Lib.hid few_any
  have FP := Lib.hid fewP_any
  have HD := Lib.hid hold_any
  have MK := Lib.hid mark_any
  have HW0 := Lib.hid hW0
  clear bw hW0 ho hp hi eL0 eM0
  try unfold Ps.v
  go_enter Try.func9, Try.ntmps9
  go_wp2_with fail
  rw [← HW0.out]
  refine (LV.out _).mono ?_
  intro e w1 hx
  obtain ⟨rfl, hb⟩ := hx
  have B1 := Lib.hid (below_from hb B0.out B0.out.size)
  have So1 := Lib.hid (So0.out.past hb)
  have cSo1 := So1.out.cell
  have lSo1 := So1.out.lt
  have St1 := Lib.hid (St0.out.past hb)
  have cSt1 := St1.out.cell
  have lSt1 := St1.out.lt
  have Sp1 := Lib.hid (Sp0.out.past hb)
  have cSp1 := Sp1.out.cell
  have lSp1 := Sp1.out.lt
  have O1 := Lib.hid (Of.At.past O0.out hb)
  clear cSo0 lSo0 cSt0 lSt0 cSp0 lSp0 hb
  go_wp2_with fail
  refine (FW.out o _).mono ?_
  intro e w2 hx
  obtain ⟨rfl, hb⟩ := hx
  have B2 := Lib.hid (below_from hb B1.out B1.out.size)
  have So2 := Lib.hid (So1.out.past hb)
  have cSo2 := So2.out.cell
  have lSo2 := So2.out.lt
  have St2 := Lib.hid (St1.out.past hb)
  have cSt2 := St2.out.cell
  have lSt2 := St2.out.lt
  have Sp2 := Lib.hid (Sp1.out.past hb)
  have cSp2 := Sp2.out.cell
  have lSp2 := Sp2.out.lt
  have O2 := Lib.hid (Of.At.past O1.out hb)
  clear cSo1 lSo1 cSt1 lSt1 cSp1 lSp1 hb
  obtain ⟨bf1, hbf1⟩ : ∃ b, fewO o = b := ⟨_, rfl⟩
  rw [hbf1]
  have HF1 := Lib.hid hbf1
  clear hbf1
  cases bf1 with
  | false =>
    go_wp2_with fail
    go_ret
    exact ⟨rfl, B2.out⟩
  | true => ?_
  go_wp2_with fail
  refine (FP.out p _).mono ?_
  intro e w3 hx
  obtain ⟨rfl, hb⟩ := hx
  have B3 := Lib.hid (below_from hb B2.out B2.out.size)
  have So3 := Lib.hid (So2.out.past hb)
  have cSo3 := So3.out.cell
  have lSo3 := So3.out.lt
  have St3 := Lib.hid (St2.out.past hb)
  have cSt3 := St3.out.cell
  have lSt3 := St3.out.lt
  have Sp3 := Lib.hid (Sp2.out.past hb)
  have cSp3 := Sp3.out.cell
  have lSp3 := Sp3.out.lt
  have O3 := Lib.hid (Of.At.past O2.out hb)
  clear cSo2 lSo2 cSt2 lSt2 cSp2 lSp2 hb
  obtain ⟨bf2, hbf2⟩ : ∃ b, fewP p = b := ⟨_, rfl⟩
  rw [hbf2]
  have HF2 := Lib.hid hbf2
  clear hbf2
  cases bf2 with
  | false =>
    go_wp2_with fail
    go_ret
    exact ⟨rfl, B3.out⟩
  | true => ?_
  go_wp2_with fail
  have fl := of_few2 HF1.out
  have LL0 := Lib.hid (show L0.length ≤ 60000 ∧ M0.length ≤ 60000 from ⟨by rw [← hL0.out, HO.out.1.len]; omega, by rw [← hM0.out, HO.out.2.len]; omega⟩)
  clear fl
  refine (least_at O3.out LL0.out.1 LL0.out.2 Za.out).mono ?_
  intro e w4 hx
  obtain ⟨rfl, hb⟩ := hx
  have B4 := Lib.hid (below_from hb B3.out B3.out.size)
  have So4 := Lib.hid (So3.out.past hb)
  have cSo4 := So4.out.cell
  have lSo4 := So4.out.lt
  have St4 := Lib.hid (St3.out.past hb)
  have cSt4 := St4.out.cell
  have lSt4 := St4.out.lt
  have Sp4 := Lib.hid (Sp3.out.past hb)
  have cSp4 := Sp4.out.cell
  have lSp4 := Sp4.out.lt
  have O4 := Lib.hid (Of.At.past O3.out hb)
  clear cSo3 lSo3 cSt3 lSt3 cSp3 lSp3 hb
  go_wp2_with fail
  have LO1 := Lib.hid (show L0.length = o.n from by rw [← O4.out.1.1.len, O4.out.2.1])
  have LO2 := Lib.hid (show M0.length = o.n' from by rw [← O4.out.1.2.len, O4.out.2.2])
  go_loopg [14, 15] o.n (fun gg s14 s15 wr => ∃ j : Nat, j ≤ o.n ∧ o.n - j ≤ gg ∧ s15 = .int .i64 j ∧ Hid (Below w4.heap.size w4 wr) ∧ s14 = .bool ((L0.take j).any (ofTp tt tp th)))
  case atStart => exact ⟨0, Nat.zero_le _, by omega, rfl, Lib.hid (Below.refl _ _), rfl⟩
  case round =>
    obtain ⟨j, hj, hgg, rfl, hb, rfl⟩ := hrel
    by_cases hlt : j < o.n
    · obtain ⟨bb, off, hkl, hA, hbl, u0, u1, u2, u3, u4⟩ := Pss.at_ (O4.out.1.1.below hb.out) hlt
      obtain ⟨x, hx⟩ : ∃ x, o.L[j] = x := ⟨_, rfl⟩
      have hkl2 : j < L0.length := by rw [LO1.out]; exact hlt
      have hx2 : L0[j] = x := by
        have := O4.out.2.1
        subst this
        exact hx
      rw [hx] at u0 u1 u2 u3 u4
      have RX := Lib.hid (fun W (h : Below wr.heap.size wr W) => (show (∀ d os, (Go.Sort.grow (redrawn W d) os).cell? ⟨bb, off + j * 5 + 1, none⟩ = some (.string x.t)) ∧ (∀ d os, (Go.Sort.grow (redrawn W d) os).cell? ⟨bb, off + j * 5 + 2, none⟩ = some (.int .i64 x.p)) ∧ (∀ d os, (Go.Sort.grow (redrawn W d) os).cell? ⟨bb, off + j * 5 + 3, none⟩ = some (.int .i64 x.h)) ∧ (∀ d os, (Go.Sort.grow (redrawn W d) os).cell? ⟨bb, off + j * 5 + 4, none⟩ = some (.int .i64 x.o)) ∧
        (∀ d os, (Go.Sort.grow (redrawn W d) os).cell? ⟨w.heap.size, 0, none⟩ = some (.slice (some ⟨bb, off, none⟩) o.n o.c)) ∧ (∀ d os, (Go.Sort.grow (redrawn W d) os).cell? ⟨w.heap.size + 1, 0, none⟩ = some (.string tt)) ∧ (∀ d os, (Go.Sort.grow (redrawn W d) os).cell? ⟨w.heap.size + 1, 1, none⟩ = some (.int .i64 tp)) ∧ (∀ d os, (Go.Sort.grow (redrawn W d) os).cell? ⟨w.heap.size + 1, 2, none⟩ = some (.int .i64 th)) from
        ⟨at_regrown ((h.cell hbl).trans u1), at_regrown ((h.cell hbl).trans u2), at_regrown ((h.cell hbl).trans u3), at_regrown ((h.cell hbl).trans u4), at_regrown (((So4.out.past (below_from h hb.out hb.out.size)).cell 0).trans (by rw [hA]; rfl)),
         at_regrown ((St4.out.past (below_from h hb.out hb.out.size)).cell 0), at_regrown ((St4.out.past (below_from h hb.out hb.out.size)).cell 1), at_regrown ((St4.out.past (below_from h hb.out hb.out.size)).cell 2)⟩))
      have YS := Lib.hid (show ofTp tt tp th x = true → ba = true ∧ va ≤ x.o from fun hy => by
        have := least_L (L := L0) (M := M0) (x := x) (by rw [← hx2]; exact List.getElem_mem hkl2) hy
        rw [Za.out] at this
        exact this)
      have NX := Lib.hid (show (L0.take (j + 1)).any (ofTp tt tp th) = ((L0.take j).any (ofTp tt tp th) || ofTp tt tp th x) from by rw [any_on (ofTp tt tp th) hkl2, hx2])
      obtain ⟨an, han⟩ : ∃ an, (L0.take j).any (ofTp tt tp th) = an := ⟨_, rfl⟩
      rw [han] at NX ⊢
      have EA := Lib.hid han
      have sB := (St4.out.past hb.out).lt
      have oc := (So4.out.past hb.out).cell 0
      have oc0 : wr.cell? ⟨w.heap.size, 0, none⟩ = some (.slice (some ⟨bb, off, none⟩) o.n o.c) := oc.trans (by rw [hA]; rfl)
      obtain ⟨s1, s2, s3, s4, s5, s6, s7, s8⟩ := RX.out wr (Below.refl _ _)
      have j0 : (0 : Int) ≤ (j : Int) := by omega
      have j1 : (j : Int) < (o.n : Int) := by omega
      clear hx hx2 hkl2 hkl hA han u0 u1 u2 u3 u4 oc
      obtain ⟨xg, xt, xp, xh, xo⟩ := x
      simp only at s1 s2 s3 s4 NX YS
      obtain ⟨hx, hhx⟩ : ∃ b, ofTp tt tp th ⟨xg, xt, xp, xh, xo⟩ = b := ⟨_, rfl⟩
      rw [hhx] at NX YS
      have HHX := Lib.hid hhx
      clear hhx
      by_cases h1 : xt = tt
      · subst h1
        by_cases h2 : xp = tp
        · subst h2
          by_cases h3 : xh = th
          · subst h3
            have LE := YS.out (by rw [← HHX.out]; unfold ofTp; simp)
            obtain ⟨rfl, hle⟩ := LE
            have hle : va ≤ xo := hle
            have c1 : decide (xo < va) = false := decide_eq_false (by omega)
            clear hle
            have HH := Lib.hid (show hx = true from by rw [← HHX.out]; unfold ofTp; simp)
            cases an with
            | true =>
              go_wp2_with fail
              refine region_below (by kernel_rfl) (by kernel_rfl) ?_
              repeat (go_big_quiet_step (fail))
              refine wpQuiet_nil ?_
              intro wy hby
              have FY := Lib.hid hby
              have r0 := RX.out wy hby
              obtain ⟨r1, r2, r3, r4, r5, r6, r7, r8⟩ := r0
              clear hby s1 s2 s3 s4 s5 s6 s7 s8
              go_wp2_with fail
              refine region_below (by kernel_rfl) (by kernel_rfl) ?_
              repeat (go_big_quiet_step (fail))
              refine wpQuiet_nil ?_
              intro wz hbz
              have FZ := Lib.hid (below_from hbz FY.out FY.out.size)
              clear hbz r1 r2 r3 r4 r5 r6 r7 r8
              go_wp2_with fail
              go_roundg (o.n - (j + 1))
              case measure => omega
              case rel => exact ⟨j + 1, by omega, by omega, by go_num, Lib.hid (below_from FZ.out hb.out hb.out.size), by rw [NX.out]; simp [HH.out]⟩
            | false =>
              go_wp2_with fail
              refine region_below (by kernel_rfl) (by kernel_rfl) ?_
              repeat (go_big_quiet_step (fail))
              refine wpQuiet_nil ?_
              intro wy hby
              have FY := Lib.hid hby
              have r0 := RX.out wy hby
              obtain ⟨r1, r2, r3, r4, r5, r6, r7, r8⟩ := r0
              clear hby s1 s2 s3 s4 s5 s6 s7 s8
              go_wp2_with fail
              refine region_below (by kernel_rfl) (by kernel_rfl) ?_
              repeat (go_big_quiet_step (fail))
              refine wpQuiet_nil ?_
              intro wz hbz
              have FZ := Lib.hid (below_from hbz FY.out FY.out.size)
              clear hbz r1 r2 r3 r4 r5 r6 r7 r8
              go_wp2_with fail
              go_roundg (o.n - (j + 1))
              case measure => omega
              case rel => exact ⟨j + 1, by omega, by omega, by go_num, Lib.hid (below_from FZ.out hb.out hb.out.size), by rw [NX.out]; simp [HH.out]⟩
          · obtain ⟨d1, d2⟩ := int_ne h3
            have HH := Lib.hid (show hx = false from by rw [← HHX.out]; unfold ofTp; simp [h3])
            clear h3
            cases an with
            | true =>
              go_wp2_with fail
              refine region_below (by kernel_rfl) (by kernel_rfl) ?_
              repeat (go_big_quiet_step (fail))
              refine wpQuiet_nil ?_
              intro wy hby
              have FY := Lib.hid hby
              have r0 := RX.out wy hby
              obtain ⟨r1, r2, r3, r4, r5, r6, r7, r8⟩ := r0
              clear hby s1 s2 s3 s4 s5 s6 s7 s8
              go_wp2_with fail
              refine region_below (by kernel_rfl) (by kernel_rfl) ?_
              repeat (go_big_quiet_step (fail))
              refine wpQuiet_nil ?_
              intro wz hbz
              have FZ := Lib.hid (below_from hbz FY.out FY.out.size)
              clear hbz r1 r2 r3 r4 r5 r6 r7 r8
              go_wp2_with fail
              go_roundg (o.n - (j + 1))
              case measure => omega
              case rel => exact ⟨j + 1, by omega, by omega, by go_num, Lib.hid (below_from FZ.out hb.out hb.out.size), by rw [NX.out]; simp [HH.out]⟩
            | false =>
              go_wp2_with fail
              refine region_below (by kernel_rfl) (by kernel_rfl) ?_
              repeat (go_big_quiet_step (fail))
              refine wpQuiet_nil ?_
              intro wy hby
              have FY := Lib.hid hby
              have r0 := RX.out wy hby
              obtain ⟨r1, r2, r3, r4, r5, r6, r7, r8⟩ := r0
              clear hby s1 s2 s3 s4 s5 s6 s7 s8
              go_wp2_with fail
              refine region_below (by kernel_rfl) (by kernel_rfl) ?_
              repeat (go_big_quiet_step (fail))
              refine wpQuiet_nil ?_
              intro wz hbz
              have FZ := Lib.hid (below_from hbz FY.out FY.out.size)
              clear hbz r1 r2 r3 r4 r5 r6 r7 r8
              go_wp2_with fail
              go_roundg (o.n - (j + 1))
              case measure => omega
              case rel => exact ⟨j + 1, by omega, by omega, by go_num, Lib.hid (below_from FZ.out hb.out hb.out.size), by rw [NX.out]; simp [HH.out]⟩
        · obtain ⟨d1, d2⟩ := int_ne h2
          have HH := Lib.hid (show hx = false from by rw [← HHX.out]; unfold ofTp; simp [h2])
          clear h2
          cases an with
          | true =>
            go_wp2_with fail
            refine region_below (by kernel_rfl) (by kernel_rfl) ?_
            repeat (go_big_quiet_step (fail))
            refine wpQuiet_nil ?_
            intro wy hby
            have FY := Lib.hid hby
            have r0 := RX.out wy hby
            obtain ⟨r1, r2, r3, r4, r5, r6, r7, r8⟩ := r0
            clear hby s1 s2 s3 s4 s5 s6 s7 s8
            go_wp2_with fail
            refine region_below (by kernel_rfl) (by kernel_rfl) ?_
            repeat (go_big_quiet_step (fail))
            refine wpQuiet_nil ?_
            intro wz hbz
            have FZ := Lib.hid (below_from hbz FY.out FY.out.size)
            clear hbz r1 r2 r3 r4 r5 r6 r7 r8
            go_wp2_with fail
            go_roundg (o.n - (j + 1))
            case measure => omega
            case rel => exact ⟨j + 1, by omega, by omega, by go_num, Lib.hid (below_from FZ.out hb.out hb.out.size), by rw [NX.out]; simp [HH.out]⟩
          | false =>
            go_wp2_with fail
            refine region_below (by kernel_rfl) (by kernel_rfl) ?_
            repeat (go_big_quiet_step (fail))
            refine wpQuiet_nil ?_
            intro wy hby
            have FY := Lib.hid hby
            have r0 := RX.out wy hby
            obtain ⟨r1, r2, r3, r4, r5, r6, r7, r8⟩ := r0
            clear hby s1 s2 s3 s4 s5 s6 s7 s8
            go_wp2_with fail
            refine region_below (by kernel_rfl) (by kernel_rfl) ?_
            repeat (go_big_quiet_step (fail))
            refine wpQuiet_nil ?_
            intro wz hbz
            have FZ := Lib.hid (below_from hbz FY.out FY.out.size)
            clear hbz r1 r2 r3 r4 r5 r6 r7 r8
            go_wp2_with fail
            go_roundg (o.n - (j + 1))
            case measure => omega
            case rel => exact ⟨j + 1, by omega, by omega, by go_num, Lib.hid (below_from FZ.out hb.out hb.out.size), by rw [NX.out]; simp [HH.out]⟩
      · obtain ⟨d1, d2, d3⟩ := str_nes h1
        have HH := Lib.hid (show hx = false from by rw [← HHX.out]; unfold ofTp; simp [h1])
        clear h1
        cases an with
        | true =>
          go_wp2_with fail
          refine region_below (by kernel_rfl) (by kernel_rfl) ?_
          repeat (go_big_quiet_step (fail))
          refine wpQuiet_nil ?_
          intro wy hby
          have FY := Lib.hid hby
          have r0 := RX.out wy hby
          obtain ⟨r1, r2, r3, r4, r5, r6, r7, r8⟩ := r0
          clear hby s1 s2 s3 s4 s5 s6 s7 s8
          go_wp2_with fail
          refine region_below (by kernel_rfl) (by kernel_rfl) ?_
          repeat (go_big_quiet_step (fail))
          refine wpQuiet_nil ?_
          intro wz hbz
          have FZ := Lib.hid (below_from hbz FY.out FY.out.size)
          clear hbz r1 r2 r3 r4 r5 r6 r7 r8
          go_wp2_with fail
          go_roundg (o.n - (j + 1))
          case measure => omega
          case rel => exact ⟨j + 1, by omega, by omega, by go_num, Lib.hid (below_from FZ.out hb.out hb.out.size), by rw [NX.out]; simp [HH.out]⟩
        | false =>
          go_wp2_with fail
          refine region_below (by kernel_rfl) (by kernel_rfl) ?_
          repeat (go_big_quiet_step (fail))
          refine wpQuiet_nil ?_
          intro wy hby
          have FY := Lib.hid hby
          have r0 := RX.out wy hby
          obtain ⟨r1, r2, r3, r4, r5, r6, r7, r8⟩ := r0
          clear hby s1 s2 s3 s4 s5 s6 s7 s8
          go_wp2_with fail
          refine region_below (by kernel_rfl) (by kernel_rfl) ?_
          repeat (go_big_quiet_step (fail))
          refine wpQuiet_nil ?_
          intro wz hbz
          have FZ := Lib.hid (below_from hbz FY.out FY.out.size)
          clear hbz r1 r2 r3 r4 r5 r6 r7 r8
          go_wp2_with fail
          go_roundg (o.n - (j + 1))
          case measure => omega
          case rel => exact ⟨j + 1, by omega, by omega, by go_num, Lib.hid (below_from FZ.out hb.out hb.out.size), by rw [NX.out]; simp [HH.out]⟩
    · have jn : j = o.n := by omega
      subst jn

      rw [show L0.take o.n = L0 from List.take_of_length_le (Nat.le_of_eq LO1.out)]
      have hbF := hb
      have e1c := (So4.out.past hb.out).cell
      have e1l := (So4.out.past hb.out).lt
      clear hgg hj hlt
      go_wp2_with fail
      go_loopg [14, 16] o.n' (fun gg s14 s15 wr => ∃ j : Nat, j ≤ o.n' ∧ o.n' - j ≤ gg ∧ s15 = .int .i64 j ∧ Hid (Below w4.heap.size w4 wr) ∧ s14 = .bool ((L0.any (ofTp tt tp th) || (M0.take j).any fun x => ofTp tt tp th x.pos)))
      case atStart => exact ⟨0, Nat.zero_le _, by omega, rfl, hbF, by simp⟩
      case round =>
        obtain ⟨j, hj, hgg, rfl, hb, rfl⟩ := hrel
        by_cases hlt : j < o.n'
        · obtain ⟨bb, off, hkl, hA, hbl, u9, u0, u1, u2, u3, u4⟩ := Wts.at_ (O4.out.1.2.below hb.out) hlt
          obtain ⟨x, hx⟩ : ∃ x, o.M[j] = x := ⟨_, rfl⟩
          have hkl2 : j < M0.length := by rw [LO2.out]; exact hlt
          have hx2 : M0[j] = x := by
            have := O4.out.2.2
            subst this
            exact hx
          rw [hx] at u9 u0 u1 u2 u3 u4
          have RX := Lib.hid (fun W (h : Below wr.heap.size wr W) => (show (∀ d os, (Go.Sort.grow (redrawn W d) os).cell? ⟨bb, off + j * 6 + 2, none⟩ = some (.string x.pos.t)) ∧ (∀ d os, (Go.Sort.grow (redrawn W d) os).cell? ⟨bb, off + j * 6 + 3, none⟩ = some (.int .i64 x.pos.p)) ∧ (∀ d os, (Go.Sort.grow (redrawn W d) os).cell? ⟨bb, off + j * 6 + 4, none⟩ = some (.int .i64 x.pos.h)) ∧ (∀ d os, (Go.Sort.grow (redrawn W d) os).cell? ⟨bb, off + j * 6 + 5, none⟩ = some (.int .i64 x.pos.o)) ∧
            (∀ d os, (Go.Sort.grow (redrawn W d) os).cell? ⟨w.heap.size, 1, none⟩ = some (.slice (some ⟨bb, off, none⟩) o.n' o.c')) ∧ (∀ d os, (Go.Sort.grow (redrawn W d) os).cell? ⟨w.heap.size + 1, 0, none⟩ = some (.string tt)) ∧ (∀ d os, (Go.Sort.grow (redrawn W d) os).cell? ⟨w.heap.size + 1, 1, none⟩ = some (.int .i64 tp)) ∧ (∀ d os, (Go.Sort.grow (redrawn W d) os).cell? ⟨w.heap.size + 1, 2, none⟩ = some (.int .i64 th)) from
            ⟨at_regrown ((h.cell hbl).trans u1), at_regrown ((h.cell hbl).trans u2), at_regrown ((h.cell hbl).trans u3), at_regrown ((h.cell hbl).trans u4), at_regrown (((So4.out.past (below_from h hb.out hb.out.size)).cell 1).trans (by rw [hA]; rfl)),
             at_regrown ((St4.out.past (below_from h hb.out hb.out.size)).cell 0), at_regrown ((St4.out.past (below_from h hb.out hb.out.size)).cell 1), at_regrown ((St4.out.past (below_from h hb.out hb.out.size)).cell 2)⟩))
          have YS := Lib.hid (show ofTp tt tp th x.pos = true → ba = true ∧ va ≤ x.pos.o from fun hy => by
            have := least_M (L := L0) (M := M0) (x := x) (by rw [← hx2]; exact List.getElem_mem hkl2) hy
            rw [Za.out] at this
            exact this)
          have NX := Lib.hid (show (L0.any (ofTp tt tp th) || (M0.take (j + 1)).any fun x => ofTp tt tp th x.pos) = ((L0.any (ofTp tt tp th) || (M0.take j).any fun x => ofTp tt tp th x.pos) || ofTp tt tp th x.pos) from by rw [any_on (fun x : Wt => ofTp tt tp th x.pos) hkl2, hx2, Bool.or_assoc])
          obtain ⟨an, han⟩ : ∃ an, (L0.any (ofTp tt tp th) || (M0.take j).any fun x => ofTp tt tp th x.pos) = an := ⟨_, rfl⟩
          rw [han] at NX ⊢
          have EA := Lib.hid han
          have sB := (St4.out.past hb.out).lt
          have oc := (So4.out.past hb.out).cell 1
          have oc0 : wr.cell? ⟨w.heap.size, 1, none⟩ = some (.slice (some ⟨bb, off, none⟩) o.n' o.c') := oc.trans (by rw [hA]; rfl)
          obtain ⟨s1, s2, s3, s4, s5, s6, s7, s8⟩ := RX.out wr (Below.refl _ _)
          have j0 : (0 : Int) ≤ (j : Int) := by omega
          have j1 : (j : Int) < (o.n' : Int) := by omega
          clear hx hx2 hkl2 hkl hA han u9 u0 u1 u2 u3 u4 oc
          obtain ⟨xi, xg, xt, xp, xh, xo⟩ := x
          simp only at s1 s2 s3 s4 NX YS
          obtain ⟨hx, hhx⟩ : ∃ b, ofTp tt tp th ⟨xg, xt, xp, xh, xo⟩ = b := ⟨_, rfl⟩
          rw [hhx] at NX YS
          have HHX := Lib.hid hhx
          clear hhx
          by_cases h1 : xt = tt
          · subst h1
            by_cases h2 : xp = tp
            · subst h2
              by_cases h3 : xh = th
              · subst h3
                have LE := YS.out (by rw [← HHX.out]; unfold ofTp; simp)
                obtain ⟨rfl, hle⟩ := LE
                have hle : va ≤ xo := hle
                have c1 : decide (xo < va) = false := decide_eq_false (by omega)
                clear hle
                have HH := Lib.hid (show hx = true from by rw [← HHX.out]; unfold ofTp; simp)
                cases an with
                | true =>
                  go_wp2_with fail
                  refine region_below (by kernel_rfl) (by kernel_rfl) ?_
                  repeat (go_big_quiet_step (fail))
                  refine wpQuiet_nil ?_
                  intro wy hby
                  have FY := Lib.hid hby
                  have r0 := RX.out wy hby
                  obtain ⟨r1, r2, r3, r4, r5, r6, r7, r8⟩ := r0
                  clear hby s1 s2 s3 s4 s5 s6 s7 s8
                  go_wp2_with fail
                  refine region_below (by kernel_rfl) (by kernel_rfl) ?_
                  repeat (go_big_quiet_step (fail))
                  refine wpQuiet_nil ?_
                  intro wz hbz
                  have FZ := Lib.hid (below_from hbz FY.out FY.out.size)
                  clear hbz r1 r2 r3 r4 r5 r6 r7 r8
                  go_wp2_with fail
                  go_roundg (o.n' - (j + 1))
                  case measure => omega
                  case rel => exact ⟨j + 1, by omega, by omega, by go_num, Lib.hid (below_from FZ.out hb.out hb.out.size), by rw [NX.out]; simp [HH.out]⟩
                | false =>
                  go_wp2_with fail
                  refine region_below (by kernel_rfl) (by kernel_rfl) ?_
                  repeat (go_big_quiet_step (fail))
                  refine wpQuiet_nil ?_
                  intro wy hby
                  have FY := Lib.hid hby
                  have r0 := RX.out wy hby
                  obtain ⟨r1, r2, r3, r4, r5, r6, r7, r8⟩ := r0
                  clear hby s1 s2 s3 s4 s5 s6 s7 s8
                  go_wp2_with fail
                  refine region_below (by kernel_rfl) (by kernel_rfl) ?_
                  repeat (go_big_quiet_step (fail))
                  refine wpQuiet_nil ?_
                  intro wz hbz
                  have FZ := Lib.hid (below_from hbz FY.out FY.out.size)
                  clear hbz r1 r2 r3 r4 r5 r6 r7 r8
                  go_wp2_with fail
                  go_roundg (o.n' - (j + 1))
                  case measure => omega
                  case rel => exact ⟨j + 1, by omega, by omega, by go_num, Lib.hid (below_from FZ.out hb.out hb.out.size), by rw [NX.out]; simp [HH.out]⟩
              · obtain ⟨d1, d2⟩ := int_ne h3
                have HH := Lib.hid (show hx = false from by rw [← HHX.out]; unfold ofTp; simp [h3])
                clear h3
                cases an with
                | true =>
                  go_wp2_with fail
                  refine region_below (by kernel_rfl) (by kernel_rfl) ?_
                  repeat (go_big_quiet_step (fail))
                  refine wpQuiet_nil ?_
                  intro wy hby
                  have FY := Lib.hid hby
                  have r0 := RX.out wy hby
                  obtain ⟨r1, r2, r3, r4, r5, r6, r7, r8⟩ := r0
                  clear hby s1 s2 s3 s4 s5 s6 s7 s8
                  go_wp2_with fail
                  refine region_below (by kernel_rfl) (by kernel_rfl) ?_
                  repeat (go_big_quiet_step (fail))
                  refine wpQuiet_nil ?_
                  intro wz hbz
                  have FZ := Lib.hid (below_from hbz FY.out FY.out.size)
                  clear hbz r1 r2 r3 r4 r5 r6 r7 r8
                  go_wp2_with fail
                  go_roundg (o.n' - (j + 1))
                  case measure => omega
                  case rel => exact ⟨j + 1, by omega, by omega, by go_num, Lib.hid (below_from FZ.out hb.out hb.out.size), by rw [NX.out]; simp [HH.out]⟩
                | false =>
                  go_wp2_with fail
                  refine region_below (by kernel_rfl) (by kernel_rfl) ?_
                  repeat (go_big_quiet_step (fail))
                  refine wpQuiet_nil ?_
                  intro wy hby
                  have FY := Lib.hid hby
                  have r0 := RX.out wy hby
                  obtain ⟨r1, r2, r3, r4, r5, r6, r7, r8⟩ := r0
                  clear hby s1 s2 s3 s4 s5 s6 s7 s8
                  go_wp2_with fail
                  refine region_below (by kernel_rfl) (by kernel_rfl) ?_
                  repeat (go_big_quiet_step (fail))
                  refine wpQuiet_nil ?_
                  intro wz hbz
                  have FZ := Lib.hid (below_from hbz FY.out FY.out.size)
                  clear hbz r1 r2 r3 r4 r5 r6 r7 r8
                  go_wp2_with fail
                  go_roundg (o.n' - (j + 1))
                  case measure => omega
                  case rel => exact ⟨j + 1, by omega, by omega, by go_num, Lib.hid (below_from FZ.out hb.out hb.out.size), by rw [NX.out]; simp [HH.out]⟩
            · obtain ⟨d1, d2⟩ := int_ne h2
              have HH := Lib.hid (show hx = false from by rw [← HHX.out]; unfold ofTp; simp [h2])
              clear h2
              cases an with
              | true =>
                go_wp2_with fail
                refine region_below (by kernel_rfl) (by kernel_rfl) ?_
                repeat (go_big_quiet_step (fail))
                refine wpQuiet_nil ?_
                intro wy hby
                have FY := Lib.hid hby
                have r0 := RX.out wy hby
                obtain ⟨r1, r2, r3, r4, r5, r6, r7, r8⟩ := r0
                clear hby s1 s2 s3 s4 s5 s6 s7 s8
                go_wp2_with fail
                refine region_below (by kernel_rfl) (by kernel_rfl) ?_
                repeat (go_big_quiet_step (fail))
                refine wpQuiet_nil ?_
                intro wz hbz
                have FZ := Lib.hid (below_from hbz FY.out FY.out.size)
                clear hbz r1 r2 r3 r4 r5 r6 r7 r8
                go_wp2_with fail
                go_roundg (o.n' - (j + 1))
                case measure => omega
                case rel => exact ⟨j + 1, by omega, by omega, by go_num, Lib.hid (below_from FZ.out hb.out hb.out.size), by rw [NX.out]; simp [HH.out]⟩
              | false =>
                go_wp2_with fail
                refine region_below (by kernel_rfl) (by kernel_rfl) ?_
                repeat (go_big_quiet_step (fail))
                refine wpQuiet_nil ?_
                intro wy hby
                have FY := Lib.hid hby
                have r0 := RX.out wy hby
                obtain ⟨r1, r2, r3, r4, r5, r6, r7, r8⟩ := r0
                clear hby s1 s2 s3 s4 s5 s6 s7 s8
                go_wp2_with fail
                refine region_below (by kernel_rfl) (by kernel_rfl) ?_
                repeat (go_big_quiet_step (fail))
                refine wpQuiet_nil ?_
                intro wz hbz
                have FZ := Lib.hid (below_from hbz FY.out FY.out.size)
                clear hbz r1 r2 r3 r4 r5 r6 r7 r8
                go_wp2_with fail
                go_roundg (o.n' - (j + 1))
                case measure => omega
                case rel => exact ⟨j + 1, by omega, by omega, by go_num, Lib.hid (below_from FZ.out hb.out hb.out.size), by rw [NX.out]; simp [HH.out]⟩
          · obtain ⟨d1, d2, d3⟩ := str_nes h1
            have HH := Lib.hid (show hx = false from by rw [← HHX.out]; unfold ofTp; simp [h1])
            clear h1
            cases an with
            | true =>
              go_wp2_with fail
              refine region_below (by kernel_rfl) (by kernel_rfl) ?_
              repeat (go_big_quiet_step (fail))
              refine wpQuiet_nil ?_
              intro wy hby
              have FY := Lib.hid hby
              have r0 := RX.out wy hby
              obtain ⟨r1, r2, r3, r4, r5, r6, r7, r8⟩ := r0
              clear hby s1 s2 s3 s4 s5 s6 s7 s8
              go_wp2_with fail
              refine region_below (by kernel_rfl) (by kernel_rfl) ?_
              repeat (go_big_quiet_step (fail))
              refine wpQuiet_nil ?_
              intro wz hbz
              have FZ := Lib.hid (below_from hbz FY.out FY.out.size)
              clear hbz r1 r2 r3 r4 r5 r6 r7 r8
              go_wp2_with fail
              go_roundg (o.n' - (j + 1))
              case measure => omega
              case rel => exact ⟨j + 1, by omega, by omega, by go_num, Lib.hid (below_from FZ.out hb.out hb.out.size), by rw [NX.out]; simp [HH.out]⟩
            | false =>
              go_wp2_with fail
              refine region_below (by kernel_rfl) (by kernel_rfl) ?_
              repeat (go_big_quiet_step (fail))
              refine wpQuiet_nil ?_
              intro wy hby
              have FY := Lib.hid hby
              have r0 := RX.out wy hby
              obtain ⟨r1, r2, r3, r4, r5, r6, r7, r8⟩ := r0
              clear hby s1 s2 s3 s4 s5 s6 s7 s8
              go_wp2_with fail
              refine region_below (by kernel_rfl) (by kernel_rfl) ?_
              repeat (go_big_quiet_step (fail))
              refine wpQuiet_nil ?_
              intro wz hbz
              have FZ := Lib.hid (below_from hbz FY.out FY.out.size)
              clear hbz r1 r2 r3 r4 r5 r6 r7 r8
              go_wp2_with fail
              go_roundg (o.n' - (j + 1))
              case measure => omega
              case rel => exact ⟨j + 1, by omega, by omega, by go_num, Lib.hid (below_from FZ.out hb.out hb.out.size), by rw [NX.out]; simp [HH.out]⟩
        · have jn : j = o.n' := by omega
          subst jn
          rw [show M0.take o.n' = M0 from List.take_of_length_le (Nat.le_of_eq LO2.out)]
          have AN := Lib.hid (show (L0.any (ofTp tt tp th) || M0.any fun x => ofTp tt tp th x.pos) = ba from by have := least_any L0 M0 tt tp th; rw [Za.out] at this; exact this.symm)
          rw [AN.out]
          have hbx := hb.out
          clear hgg hj hlt hbF e1c e1l
          have B5 := Lib.hid (below_from hbx B4.out B4.out.size)
          have So5 := Lib.hid (So4.out.past hbx)
          have cSo5 := So5.out.cell
          have lSo5 := So5.out.lt
          have St5 := Lib.hid (St4.out.past hbx)
          have cSt5 := St5.out.cell
          have lSt5 := St5.out.lt
          have Sp5 := Lib.hid (Sp4.out.past hbx)
          have cSp5 := Sp5.out.cell
          have lSp5 := Sp5.out.lt
          have O5 := Lib.hid (Of.At.past O4.out hbx)
          clear hbx
          go_wp2_with fail
          refine (ch_at (L := L1) (M := M1) (e := e1) (HD.out o pid p _ O5.out.1 HP.out WI.out) (by rw [O5.out.2.1, O5.out.2.2]; exact V1.out)).mono ?_
          intro e w5 hx
          obtain ⟨o1, rfl, ha, hb⟩ := hx
          have bk6 := hb.alloc hb.size (.cells #[.slice o1.A o1.n o1.c, .slice o1.A' o1.n' o1.c'] 25)
          have B6 := Lib.hid (below_from bk6 B5.out B5.out.size)
          have So6 := Lib.hid (So5.out.past bk6)
          have cSo6 := So6.out.cell
          have lSo6 := So6.out.lt
          have St6 := Lib.hid (St5.out.past bk6)
          have cSt6 := St6.out.cell
          have lSt6 := St6.out.lt
          have Sp6 := Lib.hid (Sp5.out.past bk6)
          have cSp6 := Sp6.out.cell
          have lSp6 := Sp6.out.lt
          have O6 := Lib.hid (Of.At.past O5.out bk6)
          have O1_6 := Lib.hid (Of.At.past ha (below_alloc1 w5 (.cells #[.slice o1.A o1.n o1.c, .slice o1.A' o1.n' o1.c'] 25)))
          have S1_6 := Lib.hid (Has.newAt w5 #[.slice o1.A o1.n o1.c, .slice o1.A' o1.n' o1.c'] 25 (g := w5.heap.size) rfl)
          have cS1_6 := S1_6.out.cell
          have lS1_6 := S1_6.out.lt
          clear cSo5 lSo5 cSt5 lSt5 cSp5 lSp5 hb ha bk6
          go_wp2_with fail
          refine (ch_at (L := L2) (M := M2) (e := e2) (MK.out o pid yes _ O6.out.1) (by rw [O6.out.2.1, O6.out.2.2]; exact V2.out)).mono ?_
          intro e w6 hx
          obtain ⟨o2, rfl, ha, hb⟩ := hx
          have bk7 := hb.alloc hb.size (.cells #[.slice o2.A o2.n o2.c, .slice o2.A' o2.n' o2.c'] 25)
          have B7 := Lib.hid (below_from bk7 B6.out B6.out.size)
          have So7 := Lib.hid (So6.out.past bk7)
          have cSo7 := So7.out.cell
          have lSo7 := So7.out.lt
          have St7 := Lib.hid (St6.out.past bk7)
          have cSt7 := St7.out.cell
          have lSt7 := St7.out.lt
          have Sp7 := Lib.hid (Sp6.out.past bk7)
          have cSp7 := Sp7.out.cell
          have lSp7 := Sp7.out.lt
          have O7 := Lib.hid (Of.At.past O6.out bk7)
          have O1_7 := Lib.hid (Of.At.past O1_6.out bk7)
          have S1_7 := Lib.hid (S1_6.out.past bk7)
          have cS1_7 := S1_7.out.cell
          have lS1_7 := S1_7.out.lt
          have O2_7 := Lib.hid (Of.At.past ha (below_alloc1 w6 (.cells #[.slice o2.A o2.n o2.c, .slice o2.A' o2.n' o2.c'] 25)))
          have S2_7 := Lib.hid (Has.newAt w6 #[.slice o2.A o2.n o2.c, .slice o2.A' o2.n' o2.c'] 25 (g := w6.heap.size) rfl)
          have cS2_7 := S2_7.out.cell
          have lS2_7 := S2_7.out.lt
          clear cSo6 lSo6 cSt6 lSt6 cSp6 lSp6 cS1_6 lS1_6 hb ha bk7
          go_wp2_with fail
          refine (least_at O1_7.out (ch_len V1.out).1 (ch_len V1.out).2 Zb.out).mono ?_
          intro e w7 hx
          obtain ⟨rfl, hb⟩ := hx
          have B8 := Lib.hid (below_from hb B7.out B7.out.size)
          have So8 := Lib.hid (So7.out.past hb)
          have cSo8 := So8.out.cell
          have lSo8 := So8.out.lt
          have St8 := Lib.hid (St7.out.past hb)
          have cSt8 := St8.out.cell
          have lSt8 := St8.out.lt
          have Sp8 := Lib.hid (Sp7.out.past hb)
          have cSp8 := Sp8.out.cell
          have lSp8 := Sp8.out.lt
          have O8 := Lib.hid (Of.At.past O7.out hb)
          have O1_8 := Lib.hid (Of.At.past O1_7.out hb)
          have S1_8 := Lib.hid (S1_7.out.past hb)
          have cS1_8 := S1_8.out.cell
          have lS1_8 := S1_8.out.lt
          have O2_8 := Lib.hid (Of.At.past O2_7.out hb)
          have S2_8 := Lib.hid (S2_7.out.past hb)
          have cS2_8 := S2_8.out.cell
          have lS2_8 := S2_8.out.lt
          clear cSo7 lSo7 cSt7 lSt7 cSp7 lSp7 cS1_7 lS1_7 cS2_7 lS2_7 hb
          go_wp2_with fail
          refine (least_at O2_8.out (ch_len V2.out).1 (ch_len V2.out).2 Zc.out).mono ?_
          intro e w8 hx
          obtain ⟨rfl, hb⟩ := hx
          have B9 := Lib.hid (below_from hb B8.out B8.out.size)
          have So9 := Lib.hid (So8.out.past hb)
          have cSo9 := So9.out.cell
          have lSo9 := So9.out.lt
          have St9 := Lib.hid (St8.out.past hb)
          have cSt9 := St9.out.cell
          have lSt9 := St9.out.lt
          have Sp9 := Lib.hid (Sp8.out.past hb)
          have cSp9 := Sp9.out.cell
          have lSp9 := Sp9.out.lt
          have O9 := Lib.hid (Of.At.past O8.out hb)
          have O1_9 := Lib.hid (Of.At.past O1_8.out hb)
          have S1_9 := Lib.hid (S1_8.out.past hb)
          have cS1_9 := S1_9.out.cell
          have lS1_9 := S1_9.out.lt
          have O2_9 := Lib.hid (Of.At.past O2_8.out hb)
          have S2_9 := Lib.hid (S2_8.out.past hb)
          have cS2_9 := S2_9.out.cell
          have lS2_9 := S2_9.out.lt
          clear cSo8 lSo8 cSt8 lSt8 cSp8 lSp8 cS1_8 lS1_8 cS2_8 lS2_8 hb
          by_cases h1 : e1 = 0
          · subst h1
            obtain ⟨rfl, hle⟩ : bb = true ∧ vb ≤ p.o := by
              have := least_hold V1.out
              rw [Zb.out] at this
              exact this
            have q0 : decide (p.o < vb) = false := decide_eq_false (by omega)
            clear hle
            by_cases h2 : e2 = 0
            · subst h2
              cases bc with
              | false =>
                go_wp2_with fail
                go_ret
                exact ⟨ret_bool (by first | rfl | simp), B9.out⟩
              | true =>
                obtain ⟨rfl, hle⟩ : ba = true ∧ va ≤ vc := by
                  have := least_mark V2.out (t := tt) (p := tp) (k := th)
                  rw [Zc.out, Za.out] at this
                  exact this rfl
                have q1 : decide (va ≤ vc) = true := decide_eq_true hle
                clear hle
                go_wp2_with fail
                go_ret
                exact ⟨ret_bool (by first | rfl | simp), B9.out⟩
            · have m2a : (e2 == 0) = false := by rw [beq_eq_false_iff_ne]; exact h2
              have m2b : decide (e2 = 0) = false := decide_eq_false h2
              have m2c : (e2 != 0) = true := by rw [bne_iff_ne]; exact h2
              clear h2
              go_wp2_with fail
              go_ret
              exact ⟨ret_bool (by first | rfl | simp), B9.out⟩
          · have m1a : (e1 == 0) = false := by rw [beq_eq_false_iff_ne]; exact h1
            have m1b : decide (e1 = 0) = false := decide_eq_false h1
            have m1c : (e1 != 0) = true := by rw [bne_iff_ne]; exact h1
            clear h1
            by_cases h2 : e2 = 0
            · subst h2
              cases bc with
              | false =>
                go_wp2_with fail
                go_ret
                exact ⟨ret_bool (by first | rfl | simp), B9.out⟩
              | true =>
                obtain ⟨rfl, hle⟩ : ba = true ∧ va ≤ vc := by
                  have := least_mark V2.out (t := tt) (p := tp) (k := th)
                  rw [Zc.out, Za.out] at this
                  exact this rfl
                have q1 : decide (va ≤ vc) = true := decide_eq_true hle
                clear hle
                go_wp2_with fail
                go_ret
                exact ⟨ret_bool (by first | rfl | simp), B9.out⟩
            · have m2a : (e2 == 0) = false := by rw [beq_eq_false_iff_ne]; exact h2
              have m2b : decide (e2 = 0) = false := decide_eq_false h2
              have m2c : (e2 != 0) = true := by rw [bne_iff_ne]; exact h2
              clear h2
              go_wp2_with fail
              go_ret
              exact ⟨ret_bool (by first | rfl | simp), B9.out⟩

end Go.Proofs.Ytnkjkgakbgjddaa
