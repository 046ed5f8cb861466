/- A partition is taken in: Add; a group: Send. -/
import Derived.Test.YtnigjchgpmladaaAdd1
import Derived.Test.YtnigjchgpmladaaReg
import Derived.Test.YtnigjchgpmladaaName
import Derived.Deep.DeepCutAuto
namespace Go.Proofs.Ytnigjchgpmladaa
open Go.RowKit Go.Shelf

set_option maxRecDepth 100000 in
set_option maxHeartbeats 16000000 in
theorem add_any (o : Tc) (id : ByteArray) (pid gen : Int) (tp : Tp) (now : Int) (w : World) (ho : Tc.At w o) (hf : FewV o.val) (hw : tp.wf) : Calls Try.prog 31 #[o.v, .string id, .int .i64 pid, .int .i64 gen, tp.v, .int .i64 now] w fun e w' => CoRes w (addV o.val id pid gen tp now) e w' := by
  obtain ⟨W0, hW0⟩ : ∃ W0, W0 = (((w.alloc (.cells #[.int .i64 o.next, .slice o.A o.n o.c] 24)).alloc (.cells #[.string tp.t, .int .i64 tp.p, .int .i64 tp.h] 45)).alloc (.cells #[.int .i64 now] 3)).alloc (.cells #[.int .i64 0, .slice none 0 0] 24) := ⟨_, rfl⟩
  have b1 := below_alloc1 w (.cells #[.int .i64 o.next, .slice o.A o.n o.c] 24)
  have b2 := b1.alloc b1.size (.cells #[.string tp.t, .int .i64 tp.p, .int .i64 tp.h] 45)
  have b3 := b2.alloc b2.size (.cells #[.int .i64 now] 3)
  have D0 := Lib.hid (show Below w.heap.size w W0 from by rw [hW0]; exact b3.alloc b3.size _)
  have s0 : Has W0 w.heap.size #[.int .i64 o.next, .slice o.A o.n o.c] := by rw [hW0]; exact (((Has.newAt w _ 24 rfl).alloc _).alloc _).alloc _
  have t0 : Has W0 (w.heap.size + 1) #[.string tp.t, .int .i64 tp.p, .int .i64 tp.h] := by rw [hW0]; exact ((Has.newAt _ _ 45 (by simp)).alloc _).alloc _
  have m0 : Has W0 (w.heap.size + 1 + 1) #[.int .i64 now] := by rw [hW0]; exact (Has.newAt _ _ 3 (by simp)).alloc _
  have r0 : Has W0 (w.heap.size + 1 + 1 + 1) #[.int .i64 0, .slice none 0 0] := by rw [hW0]; exact Has.newAt _ _ 24 (by simp)
  have B0 := Lib.hid (show Below w.heap.size w W0.drew from D0.out.drew)
  have S0 := Lib.hid s0.drew
  have T0 := Lib.hid t0.drew
  have M0 := Lib.hid m0.drew
  have R0 := Lib.hid r0.drew
  have HW := Lib.hid hW0
  have HO := Lib.hid ho
  have FW := Lib.hid hf
  have HWF := Lib.hid hw
  clear hW0 b1 b2 b3 s0 t0 m0 r0 ho hf
  cases hr : rightT tp with
  | false =>
    have RT := Lib.hid (fun W => by have := right_any tp W hw.1; rw [hr] at this; exact this)
    have HR := Lib.hid hr
    have VE : addV o.val id pid gen tp now = askV o.val id pid gen false (addF tp now) := by unfold addV; rw [hr]; rfl
    rw [VE]
    obtain ⟨V9, hV9⟩ : ∃ V, askV o.val id pid gen false (addF tp now) = V := ⟨_, rfl⟩
    have AS := Lib.hid (fun W (h : Below w.heap.size w W) (hT : Has W (w.heap.size + 1) #[.string tp.t, .int .i64 tp.p, .int .i64 tp.h]) (hN : Has W (w.heap.size + 1 + 1) #[.int .i64 now]) => asked_any o id pid gen false 62 #[.pointer (some ⟨w.heap.size + 1 + 1, 0, none⟩), .pointer (some ⟨w.heap.size + 1, 0, none⟩)] (addF tp now) W (HO.out.below h) FW.out (enters_of Try.func62 (by kernel_rfl) rfl)
      (fun x g W' hb hg hx hc hm hX => add1_any x tp now g _ _ W' W o.val hb hg hx hc hm hX (hN.past hb) (hT.past hb) HWF.out))
    simp only [hV9] at AS
    rw [hV9]
    obtain ⟨V9, c9⟩ := V9
    clear hV9 VE hr
    go_enter Try.func31, Try.ntmps31
    go_upto_region 1 with (fail)
    rw [← HW.out]
    refine region_tr (fun w' => w'.cell? ⟨w.heap.size, 0, none⟩ = some (.int .i64 o.next) ∧ w'.cell? ⟨w.heap.size, 1, none⟩ = some (.slice o.A o.n o.c) ∧ w'.cell? ⟨w.heap.size + 1 + 1, 0, none⟩ = some (.int .i64 now) ∧ w'.cell? ⟨w.heap.size + 1, 0, none⟩ = some (.string tp.t) ∧ w'.cell? ⟨w.heap.size + 1, 1, none⟩ = some (.int .i64 tp.p) ∧ w'.cell? ⟨w.heap.size + 1, 2, none⟩ = some (.int .i64 tp.h)) 17 (.take 0 (.take 1 (.take 2 (.take 3 (.take 4 (.take 12 (.op 5 (.take 6 (.take 7 (.op 8 (.op 9 (.take 10 (.take 11 (.op 13 (.take 14 (.take 15 (.op 16 .tail))))))))))))))))) (by kernel_rfl) (by kernel_rfl) ⟨S0.out.cell 0, S0.out.cell 1, M0.out.cell 0, T0.out.cell 0, T0.out.cell 1, T0.out.cell 2⟩ (fun hHeld => ?_)
    iterate 6
      refine tr_take (v := ?_) (by simp only [List.getElem?_toArray, List.getElem?_cons_succ, List.getElem?_cons_zero]; rfl) (Or.inl ⟨by rfl, ?_⟩) ?_
      rotate_left 1
      · intro w hSw
        try dsimp only at hSw
        go_simp
        try with_reducible rfl
      try simp only [Act.put, List.setIfInBounds_toArray, List.set_cons_zero, List.set_cons_succ]
    refine tr_op (by simp only [List.getElem?_toArray, List.getElem?_cons_succ, List.getElem?_cons_zero]; rfl) (fun K hK => ?_)
    go_wp2_with (go_at_call 61; refine (RT.out _).mono ?_; rintro e w1 ⟨rfl, hb⟩)
    clear hHeld
    have B1 := Lib.hid (below_from hb B0.out B0.out.size)
    have S1 := Lib.hid (S0.out.past hb)
    have T1 := Lib.hid (T0.out.past hb)
    have M1 := Lib.hid (M0.out.past hb)
    have R1 := Lib.hid (R0.out.past hb)
    clear hb
    refine hK.out _ _ ⟨S1.out.cell 0, S1.out.cell 1, M1.out.cell 0, T1.out.cell 0, T1.out.cell 1, T1.out.cell 2⟩ (fun hHeld => ?_)
    clear hK K
    try simp only [Act.put, List.setIfInBounds_toArray, List.set_cons_zero, List.set_cons_succ]
    iterate 1
      refine tr_take (v := ?_) (by simp only [List.getElem?_toArray, List.getElem?_cons_succ, List.getElem?_cons_zero]; rfl) (Or.inl ⟨by rfl, ?_⟩) ?_
      rotate_left 1
      · intro w hSw
        try dsimp only at hSw
        go_simp
        try with_reducible rfl
      try simp only [Act.put, List.setIfInBounds_toArray, List.set_cons_zero, List.set_cons_succ]
    refine tr_take (v := undef) (by simp only [List.getElem?_toArray, List.getElem?_cons_succ, List.getElem?_cons_zero]; rfl) (Or.inr ⟨by rfl, rfl⟩) ?_
    try simp only [Act.put, List.setIfInBounds_toArray, List.set_cons_zero, List.set_cons_succ]
    refine tr_op (by simp only [List.getElem?_toArray, List.getElem?_cons_succ, List.getElem?_cons_zero]; rfl) (fun K hK => ?_)
    go_wp2_with fail
    clear hHeld

    refine hK.out _ _ ⟨S1.out.cell 0, S1.out.cell 1, M1.out.cell 0, T1.out.cell 0, T1.out.cell 1, T1.out.cell 2⟩ (fun hHeld => ?_)
    clear hK K
    try simp only [Act.put, List.setIfInBounds_toArray, List.set_cons_zero, List.set_cons_succ]
    refine tr_op (by simp only [List.getElem?_toArray, List.getElem?_cons_succ, List.getElem?_cons_zero]; rfl) (fun K hK => ?_)
    go_wp2_with fail
    clear hHeld

    refine hK.out _ _ ⟨S1.out.cell 0, S1.out.cell 1, M1.out.cell 0, T1.out.cell 0, T1.out.cell 1, T1.out.cell 2⟩ (fun hHeld => ?_)
    clear hK K
    try simp only [Act.put, List.setIfInBounds_toArray, List.set_cons_zero, List.set_cons_succ]
    refine tr_take (v := undef) (by simp only [List.getElem?_toArray, List.getElem?_cons_succ, List.getElem?_cons_zero]; rfl) (Or.inr ⟨by rfl, rfl⟩) ?_
    try simp only [Act.put, List.setIfInBounds_toArray, List.set_cons_zero, List.set_cons_succ]
    iterate 1
      refine tr_take (v := ?_) (by simp only [List.getElem?_toArray, List.getElem?_cons_succ, List.getElem?_cons_zero]; rfl) (Or.inl ⟨by rfl, ?_⟩) ?_
      rotate_left 1
      · intro w hSw
        try dsimp only at hSw
        go_simp
        try with_reducible rfl
      try simp only [Act.put, List.setIfInBounds_toArray, List.set_cons_zero, List.set_cons_succ]
    refine tr_op (by simp only [List.getElem?_toArray, List.getElem?_cons_succ, List.getElem?_cons_zero]; rfl) (fun K hK => ?_)
    go_wp2_with (go_at_call 59; refine (AS.out w1 B1.out T1.out M1.out).mono ?_; rintro e w2 ⟨q, rfl, hq, hbq⟩)
    clear hHeld
    have HQ := Lib.hid hq
    have B2 := Lib.hid (below_from hbq B1.out B1.out.size)
    have S2 := Lib.hid (S1.out.past hbq)
    have T2 := Lib.hid (T1.out.past hbq)
    have M2 := Lib.hid (M1.out.past hbq)
    have R2 := Lib.hid (R1.out.past hbq)
    clear hbq hq
    have r2c := R2.out.cell
    have r2l := R2.out.lt
    have r2f := R2.out.free
    refine hK.out _ _ ⟨S2.out.cell 0, S2.out.cell 1, M2.out.cell 0, T2.out.cell 0, T2.out.cell 1, T2.out.cell 2⟩ (fun hHeld => ?_)
    clear hK K
    try simp only [Act.put, List.setIfInBounds_toArray, List.set_cons_zero, List.set_cons_succ]
    iterate 2
      refine tr_take (v := ?_) (by simp only [List.getElem?_toArray, List.getElem?_cons_succ, List.getElem?_cons_zero]; rfl) (Or.inl ⟨by rfl, ?_⟩) ?_
      rotate_left 1
      · intro w hSw
        try dsimp only at hSw
        go_simp
        try with_reducible rfl
      try simp only [Act.put, List.setIfInBounds_toArray, List.set_cons_zero, List.set_cons_succ]
    refine tr_op (by simp only [List.getElem?_toArray, List.getElem?_cons_succ, List.getElem?_cons_zero]; rfl) (fun K hK => ?_)
    go_wp2_with fail
    clear hHeld
    have G := setCells_grown (w.heap.size + 1 + 1 + 1) [.int .i64 q.next, .slice q.A q.n q.c] 0 w2
    obtain ⟨w9, hw9⟩ : ∃ W, W = w2.setCells (w.heap.size + 1 + 1 + 1) 0 [.int .i64 q.next, .slice q.A q.n q.c] := ⟨_, rfl⟩
    rw [← hw9] at G
    have B9 := Lib.hid (B2.out.trans (grown_below G B2.out.size (fun k hk => by injection hk with hk; omega)))
    have S9 := Lib.hid (S2.out.grown G (by omega))
    have M9 := Lib.hid (M2.out.grown G (by omega))
    have T9 := Lib.hid (T2.out.grown G (by omega))
    have R9 := Lib.hid (show Has w9 (w.heap.size + 1 + 1 + 1) #[.int .i64 q.next, .slice q.A q.n q.c] from by rw [hw9]; exact R2.out.set [.int .i64 q.next, .slice q.A q.n q.c] rfl)
    have Q9 := Lib.hid (HQ.out.beside R2.out (tc_texts _ _ _ _) G)
    have e9 : (w2.setCell ⟨w.heap.size + 1 + 1 + 1, 0, none⟩ (.int .i64 q.next)).setCell ⟨w.heap.size + 1 + 1 + 1, 1, none⟩ (.slice q.A q.n q.c) = w9 := hw9.symm
    rw [e9]
    clear hw9 e9 G r2c r2l r2f
    refine hK.out _ _ ⟨S9.out.cell 0, S9.out.cell 1, M9.out.cell 0, T9.out.cell 0, T9.out.cell 1, T9.out.cell 2⟩ (fun hHeld => ?_)
    clear hK K
    try simp only [Act.put, List.setIfInBounds_toArray, List.set_cons_zero, List.set_cons_succ]
    refine tr_tail rfl ?_
    clear hHeld
    go_wp2_with fail
    refine bodyPost_ret (v := .tuple #[q.v, .int .i64 _]) (results_cell_tmp Try.results31 (g := w.heap.size + 1 + 1 + 1) rfl rfl (load24 R9.out)) rfl ?_
    exact CoRes.of rfl Q9.out B9.out
  | true =>
    have RT := Lib.hid (fun W => by have := right_any tp W hw.1; rw [hr] at this; exact this)
    have HR := Lib.hid hr
    obtain ⟨mb, hmb⟩ : ∃ b, inB now 1099511627776 = b := ⟨_, rfl⟩
    have HM := Lib.hid (show anyOut 1099511627776 [now] = !mb from by rw [anyOut_one, hmb])
    have VE : addV o.val id pid gen tp now = askV o.val id pid gen mb (addF tp now) := by unfold addV; rw [hr, hmb]; rfl
    clear hmb
    rw [VE]
    obtain ⟨V9, hV9⟩ : ∃ V, askV o.val id pid gen mb (addF tp now) = V := ⟨_, rfl⟩
    have AS := Lib.hid (fun W (h : Below w.heap.size w W) (hT : Has W (w.heap.size + 1) #[.string tp.t, .int .i64 tp.p, .int .i64 tp.h]) (hN : Has W (w.heap.size + 1 + 1) #[.int .i64 now]) => asked_any o id pid gen mb 62 #[.pointer (some ⟨w.heap.size + 1 + 1, 0, none⟩), .pointer (some ⟨w.heap.size + 1, 0, none⟩)] (addF tp now) W (HO.out.below h) FW.out (enters_of Try.func62 (by kernel_rfl) rfl)
      (fun x g W' hb hg hx hc hm hX => add1_any x tp now g _ _ W' W o.val hb hg hx hc hm hX (hN.past hb) (hT.past hb) HWF.out))
    simp only [hV9] at AS
    rw [hV9]
    obtain ⟨V9, c9⟩ := V9
    clear hV9 VE hr
    go_enter Try.func31, Try.ntmps31
    go_upto_region 1 with (fail)
    rw [← HW.out]
    refine region_tr (fun w' => w'.cell? ⟨w.heap.size, 0, none⟩ = some (.int .i64 o.next) ∧ w'.cell? ⟨w.heap.size, 1, none⟩ = some (.slice o.A o.n o.c) ∧ w'.cell? ⟨w.heap.size + 1 + 1, 0, none⟩ = some (.int .i64 now) ∧ w'.cell? ⟨w.heap.size + 1, 0, none⟩ = some (.string tp.t) ∧ w'.cell? ⟨w.heap.size + 1, 1, none⟩ = some (.int .i64 tp.p) ∧ w'.cell? ⟨w.heap.size + 1, 2, none⟩ = some (.int .i64 tp.h)) 17 (.take 0 (.take 1 (.take 2 (.take 3 (.take 4 (.take 12 (.op 5 (.take 6 (.take 7 (.op 8 (.op 9 (.take 10 (.take 11 (.op 13 (.take 14 (.take 15 (.op 16 .tail))))))))))))))))) (by kernel_rfl) (by kernel_rfl) ⟨S0.out.cell 0, S0.out.cell 1, M0.out.cell 0, T0.out.cell 0, T0.out.cell 1, T0.out.cell 2⟩ (fun hHeld => ?_)
    iterate 6
      refine tr_take (v := ?_) (by simp only [List.getElem?_toArray, List.getElem?_cons_succ, List.getElem?_cons_zero]; rfl) (Or.inl ⟨by rfl, ?_⟩) ?_
      rotate_left 1
      · intro w hSw
        try dsimp only at hSw
        go_simp
        try with_reducible rfl
      try simp only [Act.put, List.setIfInBounds_toArray, List.set_cons_zero, List.set_cons_succ]
    refine tr_op (by simp only [List.getElem?_toArray, List.getElem?_cons_succ, List.getElem?_cons_zero]; rfl) (fun K hK => ?_)
    go_wp2_with (go_at_call 61; refine (RT.out _).mono ?_; rintro e w1 ⟨rfl, hb⟩)
    clear hHeld
    have B1 := Lib.hid (below_from hb B0.out B0.out.size)
    have S1 := Lib.hid (S0.out.past hb)
    have T1 := Lib.hid (T0.out.past hb)
    have M1 := Lib.hid (M0.out.past hb)
    have R1 := Lib.hid (R0.out.past hb)
    clear hb
    refine hK.out _ _ ⟨S1.out.cell 0, S1.out.cell 1, M1.out.cell 0, T1.out.cell 0, T1.out.cell 1, T1.out.cell 2⟩ (fun hHeld => ?_)
    clear hK K
    try simp only [Act.put, List.setIfInBounds_toArray, List.set_cons_zero, List.set_cons_succ]
    iterate 2
      refine tr_take (v := ?_) (by simp only [List.getElem?_toArray, List.getElem?_cons_succ, List.getElem?_cons_zero]; rfl) (Or.inl ⟨by rfl, ?_⟩) ?_
      rotate_left 1
      · intro w hSw
        try dsimp only at hSw
        go_simp
        try with_reducible rfl
      try simp only [Act.put, List.setIfInBounds_toArray, List.set_cons_zero, List.set_cons_succ]
    refine tr_op (by simp only [List.getElem?_toArray, List.getElem?_cons_succ, List.getElem?_cons_zero]; rfl) (fun K hK => ?_)
    go_wp2_with fail
    clear hHeld
    obtain ⟨w2, hw2⟩ : ∃ W, W = w1.alloc (.cells #[.int .i64 now] 3) := ⟨_, rfl⟩
    have hb : Below w1.heap.size w1 w2 := by rw [hw2]; exact below_alloc1 w1 _
    have N2 := Lib.hid (show Has w2 w1.heap.size #[.int .i64 now] from by rw [hw2]; exact Has.newAt w1 _ 3 rfl)
    have B2 := Lib.hid (below_from hb B1.out B1.out.size)
    have S2 := Lib.hid (S1.out.past hb)
    have T2 := Lib.hid (T1.out.past hb)
    have M2 := Lib.hid (M1.out.past hb)
    have R2 := Lib.hid (R1.out.past hb)
    try rw [← hw2]
    clear hb hw2
    refine hK.out _ _ ⟨S2.out.cell 0, S2.out.cell 1, M2.out.cell 0, T2.out.cell 0, T2.out.cell 1, T2.out.cell 2⟩ (fun hHeld => ?_)
    clear hK K
    try simp only [Act.put, List.setIfInBounds_toArray, List.set_cons_zero, List.set_cons_succ]
    refine tr_op (by simp only [List.getElem?_toArray, List.getElem?_cons_succ, List.getElem?_cons_zero]; rfl) (fun K hK => ?_)
    go_wp2_with (go_at_call 42; refine (beyond_any 1099511627776 _ 1 1 [now] _ (num_row N2.out rfl (by omega)) Nat.one_pos).mono ?_; rintro e w3 ⟨rfl, rfl⟩; rw [HM.out])
    clear hHeld

    refine hK.out _ _ ⟨S2.out.cell 0, S2.out.cell 1, M2.out.cell 0, T2.out.cell 0, T2.out.cell 1, T2.out.cell 2⟩ (fun hHeld => ?_)
    clear hK K
    try simp only [Act.put, List.setIfInBounds_toArray, List.set_cons_zero, List.set_cons_succ]
    iterate 2
      refine tr_take (v := ?_) (by simp only [List.getElem?_toArray, List.getElem?_cons_succ, List.getElem?_cons_zero]; rfl) (Or.inl ⟨by rfl, ?_⟩) ?_
      rotate_left 1
      · intro w hSw
        try dsimp only at hSw
        go_simp
        try with_reducible rfl
      try simp only [Act.put, List.setIfInBounds_toArray, List.set_cons_zero, List.set_cons_succ]
    refine tr_op (by simp only [List.getElem?_toArray, List.getElem?_cons_succ, List.getElem?_cons_zero]; rfl) (fun K hK => ?_)
    go_wp2_with (go_at_call 59; refine (AS.out w2 B2.out T2.out M2.out).mono ?_; rintro e w3 ⟨q, rfl, hq, hbq⟩)
    clear hHeld
    have HQ := Lib.hid hq
    have B3 := Lib.hid (below_from hbq B2.out B2.out.size)
    have S3 := Lib.hid (S2.out.past hbq)
    have T3 := Lib.hid (T2.out.past hbq)
    have M3 := Lib.hid (M2.out.past hbq)
    have R3 := Lib.hid (R2.out.past hbq)
    clear hbq hq
    have r3c := R3.out.cell
    have r3l := R3.out.lt
    have r3f := R3.out.free
    refine hK.out _ _ ⟨S3.out.cell 0, S3.out.cell 1, M3.out.cell 0, T3.out.cell 0, T3.out.cell 1, T3.out.cell 2⟩ (fun hHeld => ?_)
    clear hK K
    try simp only [Act.put, List.setIfInBounds_toArray, List.set_cons_zero, List.set_cons_succ]
    iterate 2
      refine tr_take (v := ?_) (by simp only [List.getElem?_toArray, List.getElem?_cons_succ, List.getElem?_cons_zero]; rfl) (Or.inl ⟨by rfl, ?_⟩) ?_
      rotate_left 1
      · intro w hSw
        try dsimp only at hSw
        go_simp
        try with_reducible rfl
      try simp only [Act.put, List.setIfInBounds_toArray, List.set_cons_zero, List.set_cons_succ]
    refine tr_op (by simp only [List.getElem?_toArray, List.getElem?_cons_succ, List.getElem?_cons_zero]; rfl) (fun K hK => ?_)
    go_wp2_with fail
    clear hHeld
    have G := setCells_grown (w.heap.size + 1 + 1 + 1) [.int .i64 q.next, .slice q.A q.n q.c] 0 w3
    obtain ⟨w9, hw9⟩ : ∃ W, W = w3.setCells (w.heap.size + 1 + 1 + 1) 0 [.int .i64 q.next, .slice q.A q.n q.c] := ⟨_, rfl⟩
    rw [← hw9] at G
    have B9 := Lib.hid (B3.out.trans (grown_below G B3.out.size (fun k hk => by injection hk with hk; omega)))
    have S9 := Lib.hid (S3.out.grown G (by omega))
    have M9 := Lib.hid (M3.out.grown G (by omega))
    have T9 := Lib.hid (T3.out.grown G (by omega))
    have R9 := Lib.hid (show Has w9 (w.heap.size + 1 + 1 + 1) #[.int .i64 q.next, .slice q.A q.n q.c] from by rw [hw9]; exact R3.out.set [.int .i64 q.next, .slice q.A q.n q.c] rfl)
    have Q9 := Lib.hid (HQ.out.beside R3.out (tc_texts _ _ _ _) G)
    have e9 : (w3.setCell ⟨w.heap.size + 1 + 1 + 1, 0, none⟩ (.int .i64 q.next)).setCell ⟨w.heap.size + 1 + 1 + 1, 1, none⟩ (.slice q.A q.n q.c) = w9 := hw9.symm
    rw [e9]
    clear hw9 e9 G r3c r3l r3f
    refine hK.out _ _ ⟨S9.out.cell 0, S9.out.cell 1, M9.out.cell 0, T9.out.cell 0, T9.out.cell 1, T9.out.cell 2⟩ (fun hHeld => ?_)
    clear hK K
    try simp only [Act.put, List.setIfInBounds_toArray, List.set_cons_zero, List.set_cons_succ]
    refine tr_tail rfl ?_
    clear hHeld
    go_wp2_with fail
    refine bodyPost_ret (v := .tuple #[q.v, .int .i64 _]) (results_cell_tmp Try.results31 (g := w.heap.size + 1 + 1 + 1) rfl rfl (load24 R9.out)) rfl ?_
    exact CoRes.of rfl Q9.out B9.out

set_option maxRecDepth 100000 in
set_option maxHeartbeats 16000000 in
theorem send_any (o : Tc) (id : ByteArray) (pid gen : Int) (tp : ByteArray) (now : Int) (w : World) (ho : Tc.At w o) (hf : FewV o.val) (hw : tp.size ≤ maxLen) : Calls Try.prog 33 #[o.v, .string id, .int .i64 pid, .int .i64 gen, .string tp, .int .i64 now] w fun e w' => CoRes w (sendV o.val id pid gen tp now) e w' := by
  obtain ⟨W0, hW0⟩ : ∃ W0, W0 = (((w.alloc (.cells #[.int .i64 o.next, .slice o.A o.n o.c] 24)).alloc (.cells #[.string tp] 9)).alloc (.cells #[.int .i64 now] 3)).alloc (.cells #[.int .i64 0, .slice none 0 0] 24) := ⟨_, rfl⟩
  have b1 := below_alloc1 w (.cells #[.int .i64 o.next, .slice o.A o.n o.c] 24)
  have b2 := b1.alloc b1.size (.cells #[.string tp] 9)
  have b3 := b2.alloc b2.size (.cells #[.int .i64 now] 3)
  have D0 := Lib.hid (show Below w.heap.size w W0 from by rw [hW0]; exact b3.alloc b3.size _)
  have s0 : Has W0 w.heap.size #[.int .i64 o.next, .slice o.A o.n o.c] := by rw [hW0]; exact (((Has.newAt w _ 24 rfl).alloc _).alloc _).alloc _
  have t0 : Has W0 (w.heap.size + 1) #[.string tp] := by rw [hW0]; exact ((Has.newAt _ _ 9 (by simp)).alloc _).alloc _
  have m0 : Has W0 (w.heap.size + 1 + 1) #[.int .i64 now] := by rw [hW0]; exact (Has.newAt _ _ 3 (by simp)).alloc _
  have r0 : Has W0 (w.heap.size + 1 + 1 + 1) #[.int .i64 0, .slice none 0 0] := by rw [hW0]; exact Has.newAt _ _ 24 (by simp)
  have B0 := Lib.hid (show Below w.heap.size w W0.drew from D0.out.drew)
  have S0 := Lib.hid s0.drew
  have T0 := Lib.hid t0.drew
  have M0 := Lib.hid m0.drew
  have R0 := Lib.hid r0.drew
  have HW := Lib.hid hW0
  have HO := Lib.hid ho
  have FW := Lib.hid hf
  have HWF := Lib.hid hw
  clear hW0 b1 b2 b3 s0 t0 m0 r0 ho hf
  cases hr : nameC tp with
  | false =>
    have RT := Lib.hid (fun W => by have := name_any tp W hw; rw [hr] at this; exact this)
    have HR := Lib.hid hr
    have VE : sendV o.val id pid gen tp now = askV o.val id pid gen false (sendF tp now) := by unfold sendV; rw [hr]; rfl
    rw [VE]
    obtain ⟨V9, hV9⟩ : ∃ V, askV o.val id pid gen false (sendF tp now) = V := ⟨_, rfl⟩
    have AS := Lib.hid (fun W (h : Below w.heap.size w W) (hT : Has W (w.heap.size + 1) #[.string tp]) (hN : Has W (w.heap.size + 1 + 1) #[.int .i64 now]) => asked_any o id pid gen false 71 #[.pointer (some ⟨w.heap.size + 1 + 1, 0, none⟩), .pointer (some ⟨w.heap.size + 1, 0, none⟩)] (sendF tp now) W (HO.out.below h) FW.out (enters_of Try.func71 (by kernel_rfl) rfl)
      (fun x g W' hb hg hx hc hm hX => send1_any x tp now g _ _ W' W o.val hb hg hx hc hm hX (hN.past hb) (hT.past hb) HWF.out))
    simp only [hV9] at AS
    rw [hV9]
    obtain ⟨V9, c9⟩ := V9
    clear hV9 VE hr
    go_enter Try.func33, Try.ntmps33
    go_upto_region 1 with (fail)
    rw [← HW.out]
    refine region_tr (fun w' => w'.cell? ⟨w.heap.size, 0, none⟩ = some (.int .i64 o.next) ∧ w'.cell? ⟨w.heap.size, 1, none⟩ = some (.slice o.A o.n o.c) ∧ w'.cell? ⟨w.heap.size + 1 + 1, 0, none⟩ = some (.int .i64 now) ∧ w'.cell? ⟨w.heap.size + 1, 0, none⟩ = some (.string tp)) 17 (.take 0 (.take 1 (.take 2 (.take 3 (.take 4 (.take 12 (.op 5 (.take 6 (.take 7 (.op 8 (.op 9 (.take 10 (.take 11 (.op 13 (.take 14 (.take 15 (.op 16 .tail))))))))))))))))) (by kernel_rfl) (by kernel_rfl) ⟨S0.out.cell 0, S0.out.cell 1, M0.out.cell 0, T0.out.cell 0⟩ (fun hHeld => ?_)
    iterate 6
      refine tr_take (v := ?_) (by simp only [List.getElem?_toArray, List.getElem?_cons_succ, List.getElem?_cons_zero]; rfl) (Or.inl ⟨by rfl, ?_⟩) ?_
      rotate_left 1
      · intro w hSw
        try dsimp only at hSw
        go_simp
        try with_reducible rfl
      try simp only [Act.put, List.setIfInBounds_toArray, List.set_cons_zero, List.set_cons_succ]
    refine tr_op (by simp only [List.getElem?_toArray, List.getElem?_cons_succ, List.getElem?_cons_zero]; rfl) (fun K hK => ?_)
    go_wp2_with (go_at_call 43; refine (RT.out _).mono ?_; rintro e w1 ⟨rfl, hb⟩)
    clear hHeld
    have B1 := Lib.hid (below_from hb B0.out B0.out.size)
    have S1 := Lib.hid (S0.out.past hb)
    have T1 := Lib.hid (T0.out.past hb)
    have M1 := Lib.hid (M0.out.past hb)
    have R1 := Lib.hid (R0.out.past hb)
    clear hb
    refine hK.out _ _ ⟨S1.out.cell 0, S1.out.cell 1, M1.out.cell 0, T1.out.cell 0⟩ (fun hHeld => ?_)
    clear hK K
    try simp only [Act.put, List.setIfInBounds_toArray, List.set_cons_zero, List.set_cons_succ]
    iterate 1
      refine tr_take (v := ?_) (by simp only [List.getElem?_toArray, List.getElem?_cons_succ, List.getElem?_cons_zero]; rfl) (Or.inl ⟨by rfl, ?_⟩) ?_
      rotate_left 1
      · intro w hSw
        try dsimp only at hSw
        go_simp
        try with_reducible rfl
      try simp only [Act.put, List.setIfInBounds_toArray, List.set_cons_zero, List.set_cons_succ]
    refine tr_take (v := undef) (by simp only [List.getElem?_toArray, List.getElem?_cons_succ, List.getElem?_cons_zero]; rfl) (Or.inr ⟨by rfl, rfl⟩) ?_
    try simp only [Act.put, List.setIfInBounds_toArray, List.set_cons_zero, List.set_cons_succ]
    refine tr_op (by simp only [List.getElem?_toArray, List.getElem?_cons_succ, List.getElem?_cons_zero]; rfl) (fun K hK => ?_)
    go_wp2_with fail
    clear hHeld

    refine hK.out _ _ ⟨S1.out.cell 0, S1.out.cell 1, M1.out.cell 0, T1.out.cell 0⟩ (fun hHeld => ?_)
    clear hK K
    try simp only [Act.put, List.setIfInBounds_toArray, List.set_cons_zero, List.set_cons_succ]
    refine tr_op (by simp only [List.getElem?_toArray, List.getElem?_cons_succ, List.getElem?_cons_zero]; rfl) (fun K hK => ?_)
    go_wp2_with fail
    clear hHeld

    refine hK.out _ _ ⟨S1.out.cell 0, S1.out.cell 1, M1.out.cell 0, T1.out.cell 0⟩ (fun hHeld => ?_)
    clear hK K
    try simp only [Act.put, List.setIfInBounds_toArray, List.set_cons_zero, List.set_cons_succ]
    refine tr_take (v := undef) (by simp only [List.getElem?_toArray, List.getElem?_cons_succ, List.getElem?_cons_zero]; rfl) (Or.inr ⟨by rfl, rfl⟩) ?_
    try simp only [Act.put, List.setIfInBounds_toArray, List.set_cons_zero, List.set_cons_succ]
    iterate 1
      refine tr_take (v := ?_) (by simp only [List.getElem?_toArray, List.getElem?_cons_succ, List.getElem?_cons_zero]; rfl) (Or.inl ⟨by rfl, ?_⟩) ?_
      rotate_left 1
      · intro w hSw
        try dsimp only at hSw
        go_simp
        try with_reducible rfl
      try simp only [Act.put, List.setIfInBounds_toArray, List.set_cons_zero, List.set_cons_succ]
    refine tr_op (by simp only [List.getElem?_toArray, List.getElem?_cons_succ, List.getElem?_cons_zero]; rfl) (fun K hK => ?_)
    go_wp2_with (go_at_call 59; refine (AS.out w1 B1.out T1.out M1.out).mono ?_; rintro e w2 ⟨q, rfl, hq, hbq⟩)
    clear hHeld
    have HQ := Lib.hid hq
    have B2 := Lib.hid (below_from hbq B1.out B1.out.size)
    have S2 := Lib.hid (S1.out.past hbq)
    have T2 := Lib.hid (T1.out.past hbq)
    have M2 := Lib.hid (M1.out.past hbq)
    have R2 := Lib.hid (R1.out.past hbq)
    clear hbq hq
    have r2c := R2.out.cell
    have r2l := R2.out.lt
    have r2f := R2.out.free
    refine hK.out _ _ ⟨S2.out.cell 0, S2.out.cell 1, M2.out.cell 0, T2.out.cell 0⟩ (fun hHeld => ?_)
    clear hK K
    try simp only [Act.put, List.setIfInBounds_toArray, List.set_cons_zero, List.set_cons_succ]
    iterate 2
      refine tr_take (v := ?_) (by simp only [List.getElem?_toArray, List.getElem?_cons_succ, List.getElem?_cons_zero]; rfl) (Or.inl ⟨by rfl, ?_⟩) ?_
      rotate_left 1
      · intro w hSw
        try dsimp only at hSw
        go_simp
        try with_reducible rfl
      try simp only [Act.put, List.setIfInBounds_toArray, List.set_cons_zero, List.set_cons_succ]
    refine tr_op (by simp only [List.getElem?_toArray, List.getElem?_cons_succ, List.getElem?_cons_zero]; rfl) (fun K hK => ?_)
    go_wp2_with fail
    clear hHeld
    have G := setCells_grown (w.heap.size + 1 + 1 + 1) [.int .i64 q.next, .slice q.A q.n q.c] 0 w2
    obtain ⟨w9, hw9⟩ : ∃ W, W = w2.setCells (w.heap.size + 1 + 1 + 1) 0 [.int .i64 q.next, .slice q.A q.n q.c] := ⟨_, rfl⟩
    rw [← hw9] at G
    have B9 := Lib.hid (B2.out.trans (grown_below G B2.out.size (fun k hk => by injection hk with hk; omega)))
    have S9 := Lib.hid (S2.out.grown G (by omega))
    have M9 := Lib.hid (M2.out.grown G (by omega))
    have T9 := Lib.hid (T2.out.grown G (by omega))
    have R9 := Lib.hid (show Has w9 (w.heap.size + 1 + 1 + 1) #[.int .i64 q.next, .slice q.A q.n q.c] from by rw [hw9]; exact R2.out.set [.int .i64 q.next, .slice q.A q.n q.c] rfl)
    have Q9 := Lib.hid (HQ.out.beside R2.out (tc_texts _ _ _ _) G)
    have e9 : (w2.setCell ⟨w.heap.size + 1 + 1 + 1, 0, none⟩ (.int .i64 q.next)).setCell ⟨w.heap.size + 1 + 1 + 1, 1, none⟩ (.slice q.A q.n q.c) = w9 := hw9.symm
    rw [e9]
    clear hw9 e9 G r2c r2l r2f
    refine hK.out _ _ ⟨S9.out.cell 0, S9.out.cell 1, M9.out.cell 0, T9.out.cell 0⟩ (fun hHeld => ?_)
    clear hK K
    try simp only [Act.put, List.setIfInBounds_toArray, List.set_cons_zero, List.set_cons_succ]
    refine tr_tail rfl ?_
    clear hHeld
    go_wp2_with fail
    refine bodyPost_ret (v := .tuple #[q.v, .int .i64 _]) (results_cell_tmp Try.results33 (g := w.heap.size + 1 + 1 + 1) rfl rfl (load24 R9.out)) rfl ?_
    exact CoRes.of rfl Q9.out B9.out
  | true =>
    have RT := Lib.hid (fun W => by have := name_any tp W hw; rw [hr] at this; exact this)
    have HR := Lib.hid hr
    obtain ⟨mb, hmb⟩ : ∃ b, inB now 1099511627776 = b := ⟨_, rfl⟩
    have HM := Lib.hid (show anyOut 1099511627776 [now] = !mb from by rw [anyOut_one, hmb])
    have VE : sendV o.val id pid gen tp now = askV o.val id pid gen mb (sendF tp now) := by unfold sendV; rw [hr, hmb]; rfl
    clear hmb
    rw [VE]
    obtain ⟨V9, hV9⟩ : ∃ V, askV o.val id pid gen mb (sendF tp now) = V := ⟨_, rfl⟩
    have AS := Lib.hid (fun W (h : Below w.heap.size w W) (hT : Has W (w.heap.size + 1) #[.string tp]) (hN : Has W (w.heap.size + 1 + 1) #[.int .i64 now]) => asked_any o id pid gen mb 71 #[.pointer (some ⟨w.heap.size + 1 + 1, 0, none⟩), .pointer (some ⟨w.heap.size + 1, 0, none⟩)] (sendF tp now) W (HO.out.below h) FW.out (enters_of Try.func71 (by kernel_rfl) rfl)
      (fun x g W' hb hg hx hc hm hX => send1_any x tp now g _ _ W' W o.val hb hg hx hc hm hX (hN.past hb) (hT.past hb) HWF.out))
    simp only [hV9] at AS
    rw [hV9]
    obtain ⟨V9, c9⟩ := V9
    clear hV9 VE hr
    go_enter Try.func33, Try.ntmps33
    go_upto_region 1 with (fail)
    rw [← HW.out]
    refine region_tr (fun w' => w'.cell? ⟨w.heap.size, 0, none⟩ = some (.int .i64 o.next) ∧ w'.cell? ⟨w.heap.size, 1, none⟩ = some (.slice o.A o.n o.c) ∧ w'.cell? ⟨w.heap.size + 1 + 1, 0, none⟩ = some (.int .i64 now) ∧ w'.cell? ⟨w.heap.size + 1, 0, none⟩ = some (.string tp)) 17 (.take 0 (.take 1 (.take 2 (.take 3 (.take 4 (.take 12 (.op 5 (.take 6 (.take 7 (.op 8 (.op 9 (.take 10 (.take 11 (.op 13 (.take 14 (.take 15 (.op 16 .tail))))))))))))))))) (by kernel_rfl) (by kernel_rfl) ⟨S0.out.cell 0, S0.out.cell 1, M0.out.cell 0, T0.out.cell 0⟩ (fun hHeld => ?_)
    iterate 6
      refine tr_take (v := ?_) (by simp only [List.getElem?_toArray, List.getElem?_cons_succ, List.getElem?_cons_zero]; rfl) (Or.inl ⟨by rfl, ?_⟩) ?_
      rotate_left 1
      · intro w hSw
        try dsimp only at hSw
        go_simp
        try with_reducible rfl
      try simp only [Act.put, List.setIfInBounds_toArray, List.set_cons_zero, List.set_cons_succ]
    refine tr_op (by simp only [List.getElem?_toArray, List.getElem?_cons_succ, List.getElem?_cons_zero]; rfl) (fun K hK => ?_)
    go_wp2_with (go_at_call 43; refine (RT.out _).mono ?_; rintro e w1 ⟨rfl, hb⟩)
    clear hHeld
    have B1 := Lib.hid (below_from hb B0.out B0.out.size)
    have S1 := Lib.hid (S0.out.past hb)
    have T1 := Lib.hid (T0.out.past hb)
    have M1 := Lib.hid (M0.out.past hb)
    have R1 := Lib.hid (R0.out.past hb)
    clear hb
    refine hK.out _ _ ⟨S1.out.cell 0, S1.out.cell 1, M1.out.cell 0, T1.out.cell 0⟩ (fun hHeld => ?_)
    clear hK K
    try simp only [Act.put, List.setIfInBounds_toArray, List.set_cons_zero, List.set_cons_succ]
    iterate 2
      refine tr_take (v := ?_) (by simp only [List.getElem?_toArray, List.getElem?_cons_succ, List.getElem?_cons_zero]; rfl) (Or.inl ⟨by rfl, ?_⟩) ?_
      rotate_left 1
      · intro w hSw
        try dsimp only at hSw
        go_simp
        try with_reducible rfl
      try simp only [Act.put, List.setIfInBounds_toArray, List.set_cons_zero, List.set_cons_succ]
    refine tr_op (by simp only [List.getElem?_toArray, List.getElem?_cons_succ, List.getElem?_cons_zero]; rfl) (fun K hK => ?_)
    go_wp2_with fail
    clear hHeld
    obtain ⟨w2, hw2⟩ : ∃ W, W = w1.alloc (.cells #[.int .i64 now] 3) := ⟨_, rfl⟩
    have hb : Below w1.heap.size w1 w2 := by rw [hw2]; exact below_alloc1 w1 _
    have N2 := Lib.hid (show Has w2 w1.heap.size #[.int .i64 now] from by rw [hw2]; exact Has.newAt w1 _ 3 rfl)
    have B2 := Lib.hid (below_from hb B1.out B1.out.size)
    have S2 := Lib.hid (S1.out.past hb)
    have T2 := Lib.hid (T1.out.past hb)
    have M2 := Lib.hid (M1.out.past hb)
    have R2 := Lib.hid (R1.out.past hb)
    try rw [← hw2]
    clear hb hw2
    refine hK.out _ _ ⟨S2.out.cell 0, S2.out.cell 1, M2.out.cell 0, T2.out.cell 0⟩ (fun hHeld => ?_)
    clear hK K
    try simp only [Act.put, List.setIfInBounds_toArray, List.set_cons_zero, List.set_cons_succ]
    refine tr_op (by simp only [List.getElem?_toArray, List.getElem?_cons_succ, List.getElem?_cons_zero]; rfl) (fun K hK => ?_)
    go_wp2_with (go_at_call 42; refine (beyond_any 1099511627776 _ 1 1 [now] _ (num_row N2.out rfl (by omega)) Nat.one_pos).mono ?_; rintro e w3 ⟨rfl, rfl⟩; rw [HM.out])
    clear hHeld

    refine hK.out _ _ ⟨S2.out.cell 0, S2.out.cell 1, M2.out.cell 0, T2.out.cell 0⟩ (fun hHeld => ?_)
    clear hK K
    try simp only [Act.put, List.setIfInBounds_toArray, List.set_cons_zero, List.set_cons_succ]
    iterate 2
      refine tr_take (v := ?_) (by simp only [List.getElem?_toArray, List.getElem?_cons_succ, List.getElem?_cons_zero]; rfl) (Or.inl ⟨by rfl, ?_⟩) ?_
      rotate_left 1
      · intro w hSw
        try dsimp only at hSw
        go_simp
        try with_reducible rfl
      try simp only [Act.put, List.setIfInBounds_toArray, List.set_cons_zero, List.set_cons_succ]
    refine tr_op (by simp only [List.getElem?_toArray, List.getElem?_cons_succ, List.getElem?_cons_zero]; rfl) (fun K hK => ?_)
    go_wp2_with (go_at_call 59; refine (AS.out w2 B2.out T2.out M2.out).mono ?_; rintro e w3 ⟨q, rfl, hq, hbq⟩)
    clear hHeld
    have HQ := Lib.hid hq
    have B3 := Lib.hid (below_from hbq B2.out B2.out.size)
    have S3 := Lib.hid (S2.out.past hbq)
    have T3 := Lib.hid (T2.out.past hbq)
    have M3 := Lib.hid (M2.out.past hbq)
    have R3 := Lib.hid (R2.out.past hbq)
    clear hbq hq
    have r3c := R3.out.cell
    have r3l := R3.out.lt
    have r3f := R3.out.free
    refine hK.out _ _ ⟨S3.out.cell 0, S3.out.cell 1, M3.out.cell 0, T3.out.cell 0⟩ (fun hHeld => ?_)
    clear hK K
    try simp only [Act.put, List.setIfInBounds_toArray, List.set_cons_zero, List.set_cons_succ]
    iterate 2
      refine tr_take (v := ?_) (by simp only [List.getElem?_toArray, List.getElem?_cons_succ, List.getElem?_cons_zero]; rfl) (Or.inl ⟨by rfl, ?_⟩) ?_
      rotate_left 1
      · intro w hSw
        try dsimp only at hSw
        go_simp
        try with_reducible rfl
      try simp only [Act.put, List.setIfInBounds_toArray, List.set_cons_zero, List.set_cons_succ]
    refine tr_op (by simp only [List.getElem?_toArray, List.getElem?_cons_succ, List.getElem?_cons_zero]; rfl) (fun K hK => ?_)
    go_wp2_with fail
    clear hHeld
    have G := setCells_grown (w.heap.size + 1 + 1 + 1) [.int .i64 q.next, .slice q.A q.n q.c] 0 w3
    obtain ⟨w9, hw9⟩ : ∃ W, W = w3.setCells (w.heap.size + 1 + 1 + 1) 0 [.int .i64 q.next, .slice q.A q.n q.c] := ⟨_, rfl⟩
    rw [← hw9] at G
    have B9 := Lib.hid (B3.out.trans (grown_below G B3.out.size (fun k hk => by injection hk with hk; omega)))
    have S9 := Lib.hid (S3.out.grown G (by omega))
    have M9 := Lib.hid (M3.out.grown G (by omega))
    have T9 := Lib.hid (T3.out.grown G (by omega))
    have R9 := Lib.hid (show Has w9 (w.heap.size + 1 + 1 + 1) #[.int .i64 q.next, .slice q.A q.n q.c] from by rw [hw9]; exact R3.out.set [.int .i64 q.next, .slice q.A q.n q.c] rfl)
    have Q9 := Lib.hid (HQ.out.beside R3.out (tc_texts _ _ _ _) G)
    have e9 : (w3.setCell ⟨w.heap.size + 1 + 1 + 1, 0, none⟩ (.int .i64 q.next)).setCell ⟨w.heap.size + 1 + 1 + 1, 1, none⟩ (.slice q.A q.n q.c) = w9 := hw9.symm
    rw [e9]
    clear hw9 e9 G r3c r3l r3f
    refine hK.out _ _ ⟨S9.out.cell 0, S9.out.cell 1, M9.out.cell 0, T9.out.cell 0⟩ (fun hHeld => ?_)
    clear hK K
    try simp only [Act.put, List.setIfInBounds_toArray, List.set_cons_zero, List.set_cons_succ]
    refine tr_tail rfl ?_
    clear hHeld
    go_wp2_with fail
    refine bodyPost_ret (v := .tuple #[q.v, .int .i64 _]) (results_cell_tmp Try.results33 (g := w.heap.size + 1 + 1 + 1) rfl rfl (load24 R9.out)) rfl ?_
    exact CoRes.of rfl Q9.out B9.out

end Go.Proofs.Ytnigjchgpmladaa
