/- Put, Hold and Mark. -/
import Derived.Test.YtnkjkgakbgjddaaClo
import Derived.Test.YtnkjkgakbgjddaaMc
import Derived.Test.YtnkjkgakbgjddaaLawO
namespace Go.Proofs.Ytnkjkgakbgjddaa
open Go.RowKit

set_option maxRecDepth 100000 in
set_option maxHeartbeats 8000000 in
theorem put_any (o : Of) (p : Ps) (w : World) (ho : Of.At w o) (hp : p.wf) : Calls Try.prog 14 #[o.v, p.v] w (ChRes o (putV o.L o.M p) w) := by
  obtain ⟨W0, hW0⟩ : ∃ W0, W0 = ((w.alloc (.cells #[.slice o.A o.n o.c, .slice o.A' o.n' o.c'] 25)).alloc (.cells #[.string p.g, .string p.t, .int .i64 p.p, .int .i64 p.h, .int .i64 p.o] 29)).alloc (.cells #[.slice none 0 0, .slice none 0 0] 25) := ⟨_, rfl⟩
  have B0 := Lib.hid (show Below w.heap.size w W0.drew from by rw [hW0]; exact (((below_alloc1 w _).alloc (by simp) _).alloc (by simp <;> omega) _).drew)
  have S0 := Lib.hid (show Has W0.drew w.heap.size #[.slice o.A o.n o.c, .slice o.A' o.n' o.c'] from by rw [hW0]; exact (((Has.newAt w _ 25 rfl).alloc _).alloc _).drew)
  have P0 := Lib.hid (show Has W0.drew (w.heap.size + 1) #[.string p.g, .string p.t, .int .i64 p.p, .int .i64 p.h, .int .i64 p.o] from by rw [hW0]; exact ((Has.newAt _ _ 29 (by simp)).alloc _).drew)
  have R0 := Lib.hid (show Has W0.drew (w.heap.size + 1 + 1) #[.slice none 0 0, .slice none 0 0] from by rw [hW0]; exact (Has.newAt _ _ 25 (by simp)).drew)
  have z0 := Lib.hid (show w.heap.size + 3 ≤ W0.drew.heap.size from by rw [hW0]; exact Nat.le_of_eq (by simp))
  have RT := Lib.hid (fun W => right_any p W hp.1 hp.2.1)
  have HO := Lib.hid ho
  have CH := Lib.hid (fun W (h : Below w.heap.size w W) (hp' : Has W (w.heap.size + 1) #[.string p.g, .string p.t, .int .i64 p.p, .int .i64 p.h, .int .i64 p.o]) => changed_any o (rightP p) 36 #[.pointer (some ⟨w.heap.size + 1, 0, none⟩)] (insC ordP p o.L) o.M W (ho.below h) (enters_of Try.func36 (by kernel_rfl) rfl)
    (fun hc W' h' => by
      have h1 := check_ok hc
      exact putc_any o p _ W' ((ho.below h).below h') (hp'.past h') hp (check_upL hc) (by have := ho.1.len; omega)))
  obtain ⟨V, hV⟩ : ∃ V, putV o.L o.M p = V := ⟨_, rfl⟩
  have CH := Lib.hid (fun W h hp' => (show Calls _ _ _ _ (ChRes o V W) from by rw [← hV]; exact CH.out W h hp'))
  have s0c := S0.out.cell
  have p0c := P0.out.cell
  have HW0 := Lib.hid hW0
  rw [hV]
  clear ho hp hV hW0
  unfold Ps.v
  go_enter Try.func14, Try.ntmps14
  go_wp2_with fail
  rw [← HW0.out]
  refine region_seg (fun w' => w'.cell? ⟨w.heap.size, 0, none⟩ = some (.slice o.A o.n o.c) ∧ w'.cell? ⟨w.heap.size, 1, none⟩ = some (.slice o.A' o.n' o.c') ∧ w'.cell? ⟨w.heap.size + 1, 0, none⟩ = some (.string p.g) ∧ w'.cell? ⟨w.heap.size + 1, 1, none⟩ = some (.string p.t) ∧ w'.cell? ⟨w.heap.size + 1, 2, none⟩ = some (.int .i64 p.p) ∧ w'.cell? ⟨w.heap.size + 1, 3, none⟩ = some (.int .i64 p.h) ∧ w'.cell? ⟨w.heap.size + 1, 4, none⟩ = some (.int .i64 p.o)) 7 [(0, true), (1, true), (3, true), (2, false), (4, false), (5, true), (6, true)] (by kernel_rfl) (by kernel_rfl) ⟨s0c 0, s0c 1, p0c 0, p0c 1, p0c 2, p0c 3, p0c 4⟩ (fun hHeld => ?_)
  iterate 3
    refine seg_take (v := ?_) (by simp only [List.getElem?_toArray, List.getElem?_cons_succ, List.getElem?_cons_zero]; rfl) (Or.inl ⟨by rfl, ?_⟩) ?_
    rotate_left 1
    · intro w hSw
      try dsimp only at hSw
      go_simp
      try with_reducible rfl
    try simp only [Act.put, List.setIfInBounds_toArray, List.set_cons_zero, List.set_cons_succ]
  refine seg_op (by simp only [List.getElem?_toArray, List.getElem?_cons_succ, List.getElem?_cons_zero]; rfl) (fun K hK => ?_)
  go_wp2_with (go_at_call 35; refine (RT.out _).mono ?_; rintro e w1 ⟨rfl, hb1⟩; have B1 := Lib.hid (below_from hb1 B0.out B0.out.size); have R1 := Lib.hid (R0.out.past hb1); have P1 := Lib.hid (P0.out.past hb1); have z1 := Lib.hid (Nat.le_trans z0.out hb1.size))
  clear hHeld
  refine hK.out _ _ ⟨(S0.out.past hb1).cell 0, (S0.out.past hb1).cell 1, (P0.out.past hb1).cell 0, (P0.out.past hb1).cell 1, (P0.out.past hb1).cell 2, (P0.out.past hb1).cell 3, (P0.out.past hb1).cell 4⟩ (fun hHeld => ?_)
  clear hK K
  try simp only [Act.put, List.setIfInBounds_toArray, List.set_cons_zero, List.set_cons_succ]
  refine seg_op (by simp only [List.getElem?_toArray, List.getElem?_cons_succ, List.getElem?_cons_zero]; rfl) (fun K hK => ?_)
  go_wp2_with (go_at_call 34; refine (CH.out _ B1.out P1.out).mono ?_; rintro e w2 ⟨q, rfl, hA, hL, hM, hF, hb⟩; have B2 := Lib.hid (below_from hb B1.out B1.out.size); have R2 := Lib.hid (R1.out.past hb); have r2c := R2.out.cell; have r2l := R2.out.lt; have r2f := R2.out.free; have AT := Lib.hid hA; have QL := Lib.hid hL; have QM := Lib.hid hM; have FR := Lib.hid hF)
  clear hHeld
  refine hK.out _ _ ⟨(S0.out.past (hb1.trans (hb.mono hb1.size))).cell 0, (S0.out.past (hb1.trans (hb.mono hb1.size))).cell 1, (P0.out.past (hb1.trans (hb.mono hb1.size))).cell 0, (P0.out.past (hb1.trans (hb.mono hb1.size))).cell 1, (P0.out.past (hb1.trans (hb.mono hb1.size))).cell 2, (P0.out.past (hb1.trans (hb.mono hb1.size))).cell 3, (P0.out.past (hb1.trans (hb.mono hb1.size))).cell 4⟩ (fun hHeld => ?_)
  clear hK K
  try simp only [Act.put, List.setIfInBounds_toArray, List.set_cons_zero, List.set_cons_succ]
  iterate 2
    refine seg_take (v := ?_) (by simp only [List.getElem?_toArray, List.getElem?_cons_succ, List.getElem?_cons_zero]; rfl) (Or.inl ⟨by rfl, ?_⟩) ?_
    rotate_left 1
    · intro w hSw
      try dsimp only at hSw
      go_simp
      try with_reducible rfl
    try simp only [Act.put, List.setIfInBounds_toArray, List.set_cons_zero, List.set_cons_succ]
  refine seg_tail rfl ?_
  clear hHeld
  clear hb hA hL hM hF hb1 s0c p0c
  go_wp2_with fail
  have G2 := setCells_grown (w.heap.size + 1 + 1) [.slice q.A q.n q.c, .slice q.A' q.n' q.c'] 0 w2
  refine bodyPost_ret (v := .tuple #[q.v, .int .i64 V.2.2]) (by simp [results, Try.results14, go_sem, r2c]) rfl ?_
  have b2 := B2.out.trans (grown_below G2 B2.out.size (fun k hk => by injection hk with hk; omega))
  exact ⟨q, rfl, AT.out.kept FR.out HO.out b2 G2 (by have := z1.out; omega), QL.out, QM.out, FR.out.mono B1.out.size, b2⟩

set_option maxRecDepth 100000 in
set_option maxHeartbeats 8000000 in
theorem hold_any (o : Of) (pid : Int) (p : Ps) (w : World) (ho : Of.At w o) (hp : p.wf) (hi : (Lit.int .i64 pid).wf = true) : Calls Try.prog 16 #[o.v, .int .i64 pid, p.v] w (ChRes o (holdV o.L o.M pid p) w) := by
  obtain ⟨W0, hW0⟩ : ∃ W0, W0 = (((w.alloc (.cells #[.slice o.A o.n o.c, .slice o.A' o.n' o.c'] 25)).alloc (.cells #[.string p.g, .string p.t, .int .i64 p.p, .int .i64 p.h, .int .i64 p.o] 29)).alloc (.cells #[.slice none 0 0, .slice none 0 0] 25)).alloc (.cells #[.int .i64 pid, .string p.g, .string p.t, .int .i64 p.p, .int .i64 p.h, .int .i64 p.o] 52) := ⟨_, rfl⟩
  have B0 := Lib.hid (show Below w.heap.size w W0.drew from by rw [hW0]; exact ((((below_alloc1 w _).alloc (by simp) _).alloc (by simp <;> omega) _).alloc (by simp <;> omega) _).drew)
  have S0 := Lib.hid (show Has W0.drew w.heap.size #[.slice o.A o.n o.c, .slice o.A' o.n' o.c'] from by rw [hW0]; exact ((((Has.newAt w _ 25 rfl).alloc _).alloc _).alloc _).drew)
  have P0 := Lib.hid (show Has W0.drew (w.heap.size + 1 + 1 + 1) #[.int .i64 pid, .string p.g, .string p.t, .int .i64 p.p, .int .i64 p.h, .int .i64 p.o] from by rw [hW0]; exact (Has.newAt _ _ 52 (by simp)).drew)
  have R0 := Lib.hid (show Has W0.drew (w.heap.size + 1 + 1) #[.slice none 0 0, .slice none 0 0] from by rw [hW0]; exact ((Has.newAt _ _ 25 (by simp)).alloc _).drew)
  have z0 := Lib.hid (show w.heap.size + 4 ≤ W0.drew.heap.size from by rw [hW0]; exact Nat.le_of_eq (by simp))
  have RT := Lib.hid (fun W => rightW_any ⟨pid, p⟩ W hp.1 hp.2.1)
  have HO := Lib.hid ho
  have CH := Lib.hid (fun W (h : Below w.heap.size w W) (hp' : Has W (w.heap.size + 1 + 1 + 1) #[.int .i64 pid, .string p.g, .string p.t, .int .i64 p.p, .int .i64 p.h, .int .i64 p.o]) => changed_any o (rightW ⟨pid, p⟩) 42 #[.pointer (some ⟨w.heap.size + 1 + 1 + 1, 0, none⟩)] o.L (insC ordW ⟨pid, p⟩ o.M) W (ho.below h) (enters_of Try.func42 (by kernel_rfl) rfl)
    (fun hc W' h' => by
      have h1 := check_ok hc
      exact holdc_any o ⟨pid, p⟩ _ W' ((ho.below h).below h') (hp'.past h') ⟨hi, hp⟩ (check_upM hc) (by have := ho.2.len; omega)))
  obtain ⟨V, hV⟩ : ∃ V, holdV o.L o.M pid p = V := ⟨_, rfl⟩
  have CH := Lib.hid (fun W h hp' => (show Calls _ _ _ _ (ChRes o V W) from by rw [← hV]; exact CH.out W h hp'))
  have s0c := S0.out.cell
  have p0c := P0.out.cell
  have HW0 := Lib.hid hW0
  rw [hV]
  clear ho hp hV hW0 hi
  unfold Wt.v at RT
  unfold Ps.v
  go_enter Try.func16, Try.ntmps16
  go_wp2_with fail
  rw [← HW0.out]
  refine region_seg (fun w' => w'.cell? ⟨w.heap.size, 0, none⟩ = some (.slice o.A o.n o.c) ∧ w'.cell? ⟨w.heap.size, 1, none⟩ = some (.slice o.A' o.n' o.c') ∧ w'.cell? ⟨w.heap.size + 1 + 1 + 1, 0, none⟩ = some (.int .i64 pid) ∧ w'.cell? ⟨w.heap.size + 1 + 1 + 1, 1, none⟩ = some (.string p.g) ∧ w'.cell? ⟨w.heap.size + 1 + 1 + 1, 2, none⟩ = some (.string p.t) ∧ w'.cell? ⟨w.heap.size + 1 + 1 + 1, 3, none⟩ = some (.int .i64 p.p) ∧ w'.cell? ⟨w.heap.size + 1 + 1 + 1, 4, none⟩ = some (.int .i64 p.h) ∧ w'.cell? ⟨w.heap.size + 1 + 1 + 1, 5, none⟩ = some (.int .i64 p.o)) 7 [(0, true), (1, true), (3, true), (2, false), (4, false), (5, true), (6, true)] (by kernel_rfl) (by kernel_rfl) ⟨s0c 0, s0c 1, p0c 0, p0c 1, p0c 2, p0c 3, p0c 4, p0c 5⟩ (fun hHeld => ?_)
  iterate 3
    refine seg_take (v := ?_) (by simp only [List.getElem?_toArray, List.getElem?_cons_succ, List.getElem?_cons_zero]; rfl) (Or.inl ⟨by rfl, ?_⟩) ?_
    rotate_left 1
    · intro w hSw
      try dsimp only at hSw
      go_simp
      try with_reducible rfl
    try simp only [Act.put, List.setIfInBounds_toArray, List.set_cons_zero, List.set_cons_succ]
  refine seg_op (by simp only [List.getElem?_toArray, List.getElem?_cons_succ, List.getElem?_cons_zero]; rfl) (fun K hK => ?_)
  go_wp2_with (go_at_call 41; refine (RT.out _).mono ?_; rintro e w1 ⟨rfl, hb1⟩; have B1 := Lib.hid (below_from hb1 B0.out B0.out.size); have R1 := Lib.hid (R0.out.past hb1); have P1 := Lib.hid (P0.out.past hb1); have z1 := Lib.hid (Nat.le_trans z0.out hb1.size))
  clear hHeld
  refine hK.out _ _ ⟨(S0.out.past hb1).cell 0, (S0.out.past hb1).cell 1, (P0.out.past hb1).cell 0, (P0.out.past hb1).cell 1, (P0.out.past hb1).cell 2, (P0.out.past hb1).cell 3, (P0.out.past hb1).cell 4, (P0.out.past hb1).cell 5⟩ (fun hHeld => ?_)
  clear hK K
  try simp only [Act.put, List.setIfInBounds_toArray, List.set_cons_zero, List.set_cons_succ]
  refine seg_op (by simp only [List.getElem?_toArray, List.getElem?_cons_succ, List.getElem?_cons_zero]; rfl) (fun K hK => ?_)
  go_wp2_with (go_at_call 34; refine (CH.out _ B1.out P1.out).mono ?_; rintro e w2 ⟨q, rfl, hA, hL, hM, hF, hb⟩; have B2 := Lib.hid (below_from hb B1.out B1.out.size); have R2 := Lib.hid (R1.out.past hb); have r2c := R2.out.cell; have r2l := R2.out.lt; have r2f := R2.out.free; have AT := Lib.hid hA; have QL := Lib.hid hL; have QM := Lib.hid hM; have FR := Lib.hid hF)
  clear hHeld
  refine hK.out _ _ ⟨(S0.out.past (hb1.trans (hb.mono hb1.size))).cell 0, (S0.out.past (hb1.trans (hb.mono hb1.size))).cell 1, (P0.out.past (hb1.trans (hb.mono hb1.size))).cell 0, (P0.out.past (hb1.trans (hb.mono hb1.size))).cell 1, (P0.out.past (hb1.trans (hb.mono hb1.size))).cell 2, (P0.out.past (hb1.trans (hb.mono hb1.size))).cell 3, (P0.out.past (hb1.trans (hb.mono hb1.size))).cell 4, (P0.out.past (hb1.trans (hb.mono hb1.size))).cell 5⟩ (fun hHeld => ?_)
  clear hK K
  try simp only [Act.put, List.setIfInBounds_toArray, List.set_cons_zero, List.set_cons_succ]
  iterate 2
    refine seg_take (v := ?_) (by simp only [List.getElem?_toArray, List.getElem?_cons_succ, List.getElem?_cons_zero]; rfl) (Or.inl ⟨by rfl, ?_⟩) ?_
    rotate_left 1
    · intro w hSw
      try dsimp only at hSw
      go_simp
      try with_reducible rfl
    try simp only [Act.put, List.setIfInBounds_toArray, List.set_cons_zero, List.set_cons_succ]
  refine seg_tail rfl ?_
  clear hHeld
  clear hb hA hL hM hF hb1 s0c p0c
  go_wp2_with fail
  have G2 := setCells_grown (w.heap.size + 1 + 1) [.slice q.A q.n q.c, .slice q.A' q.n' q.c'] 0 w2
  refine bodyPost_ret (v := .tuple #[q.v, .int .i64 V.2.2]) (by simp [results, Try.results16, go_sem, r2c]) rfl ?_
  have b2 := B2.out.trans (grown_below G2 B2.out.size (fun k hk => by injection hk with hk; omega))
  exact ⟨q, rfl, AT.out.kept FR.out HO.out b2 G2 (by have := z1.out; omega), QL.out, QM.out, FR.out.mono B1.out.size, b2⟩

set_option maxRecDepth 100000 in
set_option maxHeartbeats 8000000 in
theorem mark_any (o : Of) (pid : Int) (yes : Bool) (w : World) (ho : Of.At w o) : Calls Try.prog 18 #[o.v, .int .i64 pid, .bool yes] w (ChRes o (markV o.L o.M pid yes) w) := by
  have B1 := Lib.hid (show Below w.heap.size w ((((w.alloc (.cells #[.slice o.A o.n o.c, .slice o.A' o.n' o.c'] 25)).alloc (.cells #[.int .i64 pid] 3)).alloc (.cells #[.bool yes] 4)).alloc (.cells #[.slice none 0 0, .slice none 0 0] 25)) from (((below_alloc1 w _).alloc (by simp) _).alloc (by simp <;> omega) _).alloc (by simp <;> omega) _)
  have I1 := Lib.hid (show Has ((((w.alloc (.cells #[.slice o.A o.n o.c, .slice o.A' o.n' o.c'] 25)).alloc (.cells #[.int .i64 pid] 3)).alloc (.cells #[.bool yes] 4)).alloc (.cells #[.slice none 0 0, .slice none 0 0] 25)) (w.heap.size + 1) #[.int .i64 pid] from ((Has.newAt _ _ 3 (by simp)).alloc _).alloc _)
  have Y1 := Lib.hid (show Has ((((w.alloc (.cells #[.slice o.A o.n o.c, .slice o.A' o.n' o.c'] 25)).alloc (.cells #[.int .i64 pid] 3)).alloc (.cells #[.bool yes] 4)).alloc (.cells #[.slice none 0 0, .slice none 0 0] 25)) (w.heap.size + 1 + 1) #[.bool yes] from (Has.newAt _ _ 4 (by simp)).alloc _)
  have R1 := Lib.hid (show Has ((((w.alloc (.cells #[.slice o.A o.n o.c, .slice o.A' o.n' o.c'] 25)).alloc (.cells #[.int .i64 pid] 3)).alloc (.cells #[.bool yes] 4)).alloc (.cells #[.slice none 0 0, .slice none 0 0] 25)) (w.heap.size + 1 + 1 + 1) #[.slice none 0 0, .slice none 0 0] from Has.newAt _ _ 25 (by simp))
  have z1 := Lib.hid (show w.heap.size + 4 ≤ ((((w.alloc (.cells #[.slice o.A o.n o.c, .slice o.A' o.n' o.c'] 25)).alloc (.cells #[.int .i64 pid] 3)).alloc (.cells #[.bool yes] 4)).alloc (.cells #[.slice none 0 0, .slice none 0 0] 25)).heap.size from Nat.le_of_eq (by simp))
  have HO := Lib.hid ho
  have CH := Lib.hid (fun W (h : Below w.heap.size w W) (hi : Has W (w.heap.size + 1) #[.int .i64 pid]) (hy : Has W (w.heap.size + 1 + 1) #[.bool yes]) => changed_any o true 46 #[.pointer (some ⟨w.heap.size + 1, 0, none⟩), .pointer (some ⟨w.heap.size + 1 + 1, 0, none⟩)] (markL pid yes o.L o.M) (leftM pid o.M) W (ho.below h) (enters_of Try.func46 (by kernel_rfl) rfl)
    (fun hc W' h' => by
      have h1 := check_ok hc
      exact markc_any o pid yes _ _ W' ((ho.below h).below h') (hi.past h') (hy.past h') (check_upL hc) (by have := ho.1.len; omega) (by have := ho.2.len; omega)))
  obtain ⟨V, hV⟩ : ∃ V, markV o.L o.M pid yes = V := ⟨_, rfl⟩
  have CH := Lib.hid (fun W h hi hy => (show Calls _ _ _ _ (ChRes o V W) from by rw [← hV]; exact CH.out W h hi hy))
  rw [hV]
  clear ho hV
  go_enter Try.func18, Try.ntmps18
  go_wp2_with (go_at_call 34; refine (CH.out _ B1.out I1.out Y1.out).mono ?_; rintro e w2 ⟨q, rfl, hA, hL, hM, hF, hb⟩; have B2 := Lib.hid (below_from hb B1.out B1.out.size); have R2 := Lib.hid (R1.out.past hb); have r2c := R2.out.cell; have r2l := R2.out.lt; have r2f := R2.out.free; have AT := Lib.hid hA; have QL := Lib.hid hL; have QM := Lib.hid hM; have FR := Lib.hid hF; clear hb hA hL hM hF)
  have G2 := setCells_grown (w.heap.size + 1 + 1 + 1) [.slice q.A q.n q.c, .slice q.A' q.n' q.c'] 0 w2
  refine bodyPost_ret (v := .tuple #[q.v, .int .i64 V.2.2]) (by simp [results, Try.results18, go_sem, r2c]) rfl ?_
  have b2 := B2.out.trans (grown_below G2 B2.out.size (fun k hk => by injection hk with hk; omega))
  exact ⟨q, rfl, AT.out.kept FR.out HO.out b2 G2 (by have := z1.out; omega), QL.out, QM.out, FR.out.mono B1.out.size, b2⟩

end Go.Proofs.Ytnkjkgakbgjddaa
