/- CoordFenced: who has an old gen is fenced for ever. -/
import Derived.Test.YtnigjchgpmladaaAll
import Derived.Deep.DeepCutAuto
namespace Go.Proofs.Ytnigjchgpmladaa
open Go.RowKit Go.Shelf

theorem mask16 (k : Int) : ∃ v : Nat, v ≤ 65535 ∧ bits .and .i64 k 65535 = (v : Int) := by
  refine ⟨(BitVec.ofInt 64 k &&& BitVec.ofInt 64 65535).toNat, ?_, ?_⟩
  · rw [BitVec.toNat_and]
    exact Nat.and_le_right
  · have h : (BitVec.ofInt 64 k &&& BitVec.ofInt 64 65535).toNat ≤ 65535 := by
      rw [BitVec.toNat_and]
      exact Nat.and_le_right
    show IntKind.i64.wrap ((BitVec.ofInt 64 k &&& BitVec.ofInt 64 65535).toNat : Int) = _
    exact IntWalk.i64_in _ (by omega)
set_option maxHeartbeats 16000000 in
set_option maxRecDepth 100000 in
theorem lfenced_any (o : Tc) (k : Int) (A : Option Addr) (n c : Nat) (l : List Dv) (a : Av) (w : World) (ho : Tc.At w o) (hl : Sl dvK w A n c l) (ha : a.wf) (_hk : (Lit.int .i64 k).wf = true) : Calls Try.prog 8 #[o.v, .int .i64 k, .slice A n c, a.v] w fun e w' => e = .returned (.bool true) ∧ Below w.heap.size w w' := by
  have bw : Below w.heap.size w ((w.alloc (.cells #[.int .i64 o.next, .slice o.A o.n o.c] 24)).alloc (.cells #[.string a.id, .int .i64 a.pid, .int .i64 a.gen, .string a.tp.t, .int .i64 a.tp.p, .int .i64 a.tp.h, .string a.g, .bool a.yes, .int .i64 a.now] 47)) := (below_alloc1 w _).alloc (by simp) _
  obtain ⟨W0, hW0⟩ : ∃ W, W = ((w.alloc (.cells #[.int .i64 o.next, .slice o.A o.n o.c] 24)).alloc (.cells #[.string a.id, .int .i64 a.pid, .int .i64 a.gen, .string a.tp.t, .int .i64 a.tp.p, .int .i64 a.tp.h, .string a.g, .bool a.yes, .int .i64 a.now] 47)) := ⟨_, rfl⟩
  rw [← hW0] at bw
  have B0 := Lib.hid bw
  have SO0 := Lib.hid (show Has W0 w.heap.size #[.int .i64 o.next, .slice o.A o.n o.c] from by rw [hW0]; exact (Has.newAt w _ 24 rfl).alloc _)
  have cSO0 := SO0.out.cell
  have lSO0 := SO0.out.lt
  have SA0 := Lib.hid (show Has W0 (w.heap.size + 1) #[.string a.id, .int .i64 a.pid, .int .i64 a.gen, .string a.tp.t, .int .i64 a.tp.p, .int .i64 a.tp.h, .string a.g, .bool a.yes, .int .i64 a.now] from by rw [hW0]; exact Has.newAt _ _ 47 (by simp))
  have cSA0 := SA0.out.cell
  have lSA0 := SA0.out.lt
  have O0 := Lib.hid (show Tc.Is W0 o o.val from ⟨ho.below bw, rfl⟩)
  have LS0 := Lib.hid (hl.below bw)
  have HWW := Lib.hid hW0
  have LV := Lib.hid live_any
  have HA := Lib.hid ha
  clear bw ho hW0 hl ha
  go_enter Try.func8, Try.ntmps8
  go_upto_region 1 with (fail)
  rw [← HWW.out]
  go_wp2_with fail
  refine (LV.out _).mono ?_
  intro e w1 hx
  obtain ⟨rfl, hb⟩ := hx
  have B1 := Lib.hid (below_from hb B0.out B0.out.size)
  have SO1 := Lib.hid (SO0.out.past hb)
  have cSO1 := SO1.out.cell
  have lSO1 := SO1.out.lt
  have SA1 := Lib.hid (SA0.out.past hb)
  have cSA1 := SA1.out.cell
  have lSA1 := SA1.out.lt
  have O1 := Lib.hid (Tc.Is.past O0.out hb)
  have LS1 := Lib.hid (LS0.out.below hb)
  clear cSO0 lSO0 cSA0 lSA0 hb
  go_wp2_with fail
  cases hfw : fewB o.val with
  | false =>
    refine (few_at O1.out hfw).mono ?_
    intro e w2 hx
    obtain ⟨rfl, hb⟩ := hx
    have B2 := Lib.hid (below_from hb B1.out B1.out.size)
    have SO2 := Lib.hid (SO1.out.past hb)
    have cSO2 := SO2.out.cell
    have lSO2 := SO2.out.lt
    have SA2 := Lib.hid (SA1.out.past hb)
    have cSA2 := SA2.out.cell
    have lSA2 := SA2.out.lt
    have O2 := Lib.hid (Tc.Is.past O1.out hb)
    have LS2 := Lib.hid (LS1.out.below hb)
    clear cSO1 lSO1 cSA1 lSA1 hb
    go_wp2_with fail
    go_ret
    exact ⟨rfl, B2.out⟩
  | true =>
  have FEW := Lib.hid (fewB_few hfw)
  refine (few_at O1.out hfw).mono ?_
  intro e w2 hx
  obtain ⟨rfl, hb⟩ := hx
  have B2 := Lib.hid (below_from hb B1.out B1.out.size)
  have SO2 := Lib.hid (SO1.out.past hb)
  have cSO2 := SO2.out.cell
  have lSO2 := SO2.out.lt
  have SA2 := Lib.hid (SA1.out.past hb)
  have cSA2 := SA2.out.cell
  have lSA2 := SA2.out.lt
  have O2 := Lib.hid (Tc.Is.past O1.out hb)
  have LS2 := Lib.hid (LS1.out.below hb)
  clear cSO1 lSO1 cSA1 lSA1 hb hfw
  go_wp2_with fail
  refine (fewd_any A n c l _ LS2.out).mono ?_
  intro e w3 hx
  obtain ⟨bf, rfl, hb⟩ := hx
  have B3 := Lib.hid (below_from hb B2.out B2.out.size)
  have SO3 := Lib.hid (SO2.out.past hb)
  have cSO3 := SO3.out.cell
  have lSO3 := SO3.out.lt
  have SA3 := Lib.hid (SA2.out.past hb)
  have cSA3 := SA3.out.cell
  have lSA3 := SA3.out.lt
  have O3 := Lib.hid (Tc.Is.past O2.out hb)
  have LS3 := Lib.hid (LS2.out.below hb)
  clear cSO2 lSO2 cSA2 lSA2 hb
  cases bf with
  | false =>
    go_wp2_with fail
    go_ret
    exact ⟨rfl, B3.out⟩
  | true =>
  go_wp2_with fail
  cases hsh : shortB a with
  | false =>
    have SH := Lib.hid (short_any a)
    rw [hsh] at SH
    clear hsh
    refine (SH.out _).mono ?_
    intro e w3 hx
    obtain ⟨rfl, hb⟩ := hx
    have B4 := Lib.hid (below_from hb B3.out B3.out.size)
    have SO4 := Lib.hid (SO3.out.past hb)
    have cSO4 := SO4.out.cell
    have lSO4 := SO4.out.lt
    have SA4 := Lib.hid (SA3.out.past hb)
    have cSA4 := SA4.out.cell
    have lSA4 := SA4.out.lt
    have O4 := Lib.hid (Tc.Is.past O3.out hb)
    have LS4 := Lib.hid (LS3.out.below hb)
    clear cSO3 lSO3 cSA3 lSA3 hb
    go_wp2_with fail
    go_ret
    exact ⟨rfl, B4.out⟩
  | true =>
  have SH := Lib.hid (short_any a)
  rw [hsh] at SH
  clear hsh
  refine (SH.out _).mono ?_
  intro e w3 hx
  obtain ⟨rfl, hb⟩ := hx
  have B4 := Lib.hid (below_from hb B3.out B3.out.size)
  have SO4 := Lib.hid (SO3.out.past hb)
  have cSO4 := SO4.out.cell
  have lSO4 := SO4.out.lt
  have SA4 := Lib.hid (SA3.out.past hb)
  have cSA4 := SA4.out.cell
  have lSA4 := SA4.out.lt
  have O4 := Lib.hid (Tc.Is.past O3.out hb)
  have LS4 := Lib.hid (LS3.out.below hb)
  clear cSO3 lSO3 cSA3 lSA3 hb
  by_cases hz : o.n = 0
  · have d1 : ((o.n : Int) == 0) = true := by rw [beq_iff_eq]; omega
    have d2 : decide (o.n = 0) = true := decide_eq_true hz
    clear hz
    go_wp2_with fail
    go_ret
    exact ⟨rfl, B4.out⟩
  have dz1 : ((o.n : Int) == 0) = false := by rw [beq_eq_false_iff_ne]; omega
  have dz2 : decide (o.n = 0) = false := decide_eq_false hz
  have PZ := Lib.hid (show 0 < o.n from by omega)
  clear hz
  go_wp2_with fail
  by_cases hk : checkV o.val = 0
  · have HK := Lib.hid hk
    clear hk
    refine (check_at O4.out FEW.out HK.out).mono ?_
    intro e w5 hx
    obtain ⟨rfl, hb⟩ := hx
    have B5 := Lib.hid (below_from hb B4.out B4.out.size)
    have SO5 := Lib.hid (SO4.out.past hb)
    have cSO5 := SO5.out.cell
    have lSO5 := SO5.out.lt
    have SA5 := Lib.hid (SA4.out.past hb)
    have cSA5 := SA5.out.cell
    have lSA5 := SA5.out.lt
    have O5 := Lib.hid (Tc.Is.past O4.out hb)
    have LS5 := Lib.hid (LS4.out.below hb)
    clear cSO4 lSO4 cSA4 lSA4 hb
    go_upto_region 4 with (fail)
    obtain ⟨v, hv, hb⟩ := mask16 k
    obtain ⟨i, hi⟩ : ∃ i, i = v % o.n := ⟨_, rfl⟩
    have hin : i < o.n := by rw [hi]; exact Nat.mod_lt _ PZ.out
    have ht : Int.tmod (v : Int) (o.n : Int) = (i : Int) := by rw [hi]; rfl
    obtain ⟨b, off, hl, hA, hbl, u0, u1, u2, u3, u4, u5, u6, u7⟩ := tx_at O5.out.1 hin
    obtain ⟨x, hx⟩ : ∃ x, o.L[i] = x := ⟨_, rfl⟩
    have HM := Lib.hid (show x.val ∈ o.val.L from by rw [← hx]; exact List.mem_map_of_mem (List.getElem_mem hl))
    have HXI := Lib.hid (show Tx.Is w5 x x.val from ⟨by rw [← hx]; exact O5.out.1.each _ (List.getElem_mem hl), rfl⟩)
    rw [hx] at u0 u1 u2 u3 u4 u5 u6 u7
    have so := SO5.out
    rw [hA] at so
    have SOX := Lib.hid so
    have U := Lib.hid (show _ ∧ _ ∧ _ ∧ _ ∧ _ ∧ _ ∧ _ ∧ _ from ⟨u0, u1, u2, u3, u4, u5, u6, u7⟩)
    have q0 : (0 : Int) ≤ (i : Int) := by omega
    have q1 : (i : Int) < (o.n : Int) := by omega
    have q2 : ((o.n : Int) == 0) = false := dz1
    have q3 : ¬ ((o.n : Int) = 0) := by omega
    have q4 : ¬ (o.n = 0) := by omega
    have CC := Lib.hid hA
    have D1 := Lib.hid (show Below w5.heap.size w5 w5.drew from (Below.refl _ w5).drew)
    have HB := Lib.hid hbl
    clear hx hl hin hi hA hv u0 u1 u2 u3 u4 u5 u6 u7 so cSO5 lSO5 cSA5 lSA5 dz1 dz2
    refine region_tr (fun w' => w'.cell? ⟨w.heap.size, 0, none⟩ = some (.int .i64 o.next) ∧ w'.cell? ⟨w.heap.size, 1, none⟩ = some (.slice (some ⟨b, off, none⟩) o.n o.c) ∧ w'.cell? ⟨b, off + i * 8, none⟩ = some (.string x.id) ∧ w'.cell? ⟨b, off + i * 8 + 1, none⟩ = some (.int .i64 x.pid) ∧ w'.cell? ⟨b, off + i * 8 + 2, none⟩ = some (.int .i64 x.gen) ∧ w'.cell? ⟨b, off + i * 8 + 3, none⟩ = some (.int .i64 x.no) ∧ w'.cell? ⟨b, off + i * 8 + 4, none⟩ = some (.int .i64 x.st) ∧ w'.cell? ⟨b, off + i * 8 + 5, none⟩ = some (.slice x.PA x.Pn x.Pc) ∧ w'.cell? ⟨b, off + i * 8 + 6, none⟩ = some (.slice x.GA x.Gn x.Gc) ∧ w'.cell? ⟨b, off + i * 8 + 7, none⟩ = some (.int .i64 x.at_)) 11 (.take 0 (.take 1 (.take 2 (.take 3 (.take 4 (.take 5 (.take 6 (.take 7 (.take 8 (.take 9 (.op 10 .tail))))))))))) (by kernel_rfl) (by kernel_rfl) ⟨(SOX.out.past D1.out).cell 0, (SOX.out.past D1.out).cell 1, (D1.out.cell (p := ⟨b, off + i * 8, none⟩) HB.out).trans U.out.1, (D1.out.cell (p := ⟨b, off + i * 8 + 1, none⟩) HB.out).trans U.out.2.1, (D1.out.cell (p := ⟨b, off + i * 8 + 2, none⟩) HB.out).trans U.out.2.2.1, (D1.out.cell (p := ⟨b, off + i * 8 + 3, none⟩) HB.out).trans U.out.2.2.2.1, (D1.out.cell (p := ⟨b, off + i * 8 + 4, none⟩) HB.out).trans U.out.2.2.2.2.1, (D1.out.cell (p := ⟨b, off + i * 8 + 5, none⟩) HB.out).trans U.out.2.2.2.2.2.1, (D1.out.cell (p := ⟨b, off + i * 8 + 6, none⟩) HB.out).trans U.out.2.2.2.2.2.2.1, (D1.out.cell (p := ⟨b, off + i * 8 + 7, none⟩) HB.out).trans U.out.2.2.2.2.2.2.2⟩ (fun hHeld => ?_)
    iterate 10
      refine tr_take (v := ?_) (by simp only [List.getElem?_toArray, List.getElem?_cons_succ, List.getElem?_cons_zero]; rfl) (Or.inl ⟨by rfl, ?_⟩) ?_
      rotate_left 1
      · intro w hSw
        try dsimp only at hSw
        go_simp
        try with_reducible rfl
      try simp only [Act.put, List.setIfInBounds_toArray, List.set_cons_zero, List.set_cons_succ]
    obtain ⟨wd, hwd⟩ : ∃ W, W = w5.drew := ⟨_, rfl⟩
    have DD := Lib.hid (show Below w5.heap.size w5 wd from by rw [hwd]; exact D1.out)
    have DS := Lib.hid (show wd.heap.size = w5.heap.size from by rw [hwd]; rfl)
    rw [← hwd]
    clear hwd
    refine tr_op (by simp only [List.getElem?_toArray, List.getElem?_cons_succ, List.getElem?_cons_zero]; rfl) (fun K hK => ?_)
    go_wp2_with fail
    clear hHeld

    refine hK.out _ _ ⟨(SOX.out.past (DD.out.alloc DD.out.size (.cells #[.string ⟨#[]⟩, .int .i64 0, .int .i64 0, .int .i64 0, .int .i64 0, .slice none 0 0, .slice none 0 0, .int .i64 0] 33))).cell 0, (SOX.out.past (DD.out.alloc DD.out.size (.cells #[.string ⟨#[]⟩, .int .i64 0, .int .i64 0, .int .i64 0, .int .i64 0, .slice none 0 0, .slice none 0 0, .int .i64 0] 33))).cell 1, ((DD.out.alloc DD.out.size (.cells #[.string ⟨#[]⟩, .int .i64 0, .int .i64 0, .int .i64 0, .int .i64 0, .slice none 0 0, .slice none 0 0, .int .i64 0] 33)).cell (p := ⟨b, off + i * 8, none⟩) HB.out).trans U.out.1, ((DD.out.alloc DD.out.size (.cells #[.string ⟨#[]⟩, .int .i64 0, .int .i64 0, .int .i64 0, .int .i64 0, .slice none 0 0, .slice none 0 0, .int .i64 0] 33)).cell (p := ⟨b, off + i * 8 + 1, none⟩) HB.out).trans U.out.2.1, ((DD.out.alloc DD.out.size (.cells #[.string ⟨#[]⟩, .int .i64 0, .int .i64 0, .int .i64 0, .int .i64 0, .slice none 0 0, .slice none 0 0, .int .i64 0] 33)).cell (p := ⟨b, off + i * 8 + 2, none⟩) HB.out).trans U.out.2.2.1, ((DD.out.alloc DD.out.size (.cells #[.string ⟨#[]⟩, .int .i64 0, .int .i64 0, .int .i64 0, .int .i64 0, .slice none 0 0, .slice none 0 0, .int .i64 0] 33)).cell (p := ⟨b, off + i * 8 + 3, none⟩) HB.out).trans U.out.2.2.2.1, ((DD.out.alloc DD.out.size (.cells #[.string ⟨#[]⟩, .int .i64 0, .int .i64 0, .int .i64 0, .int .i64 0, .slice none 0 0, .slice none 0 0, .int .i64 0] 33)).cell (p := ⟨b, off + i * 8 + 4, none⟩) HB.out).trans U.out.2.2.2.2.1, ((DD.out.alloc DD.out.size (.cells #[.string ⟨#[]⟩, .int .i64 0, .int .i64 0, .int .i64 0, .int .i64 0, .slice none 0 0, .slice none 0 0, .int .i64 0] 33)).cell (p := ⟨b, off + i * 8 + 5, none⟩) HB.out).trans U.out.2.2.2.2.2.1, ((DD.out.alloc DD.out.size (.cells #[.string ⟨#[]⟩, .int .i64 0, .int .i64 0, .int .i64 0, .int .i64 0, .slice none 0 0, .slice none 0 0, .int .i64 0] 33)).cell (p := ⟨b, off + i * 8 + 6, none⟩) HB.out).trans U.out.2.2.2.2.2.2.1, ((DD.out.alloc DD.out.size (.cells #[.string ⟨#[]⟩, .int .i64 0, .int .i64 0, .int .i64 0, .int .i64 0, .slice none 0 0, .slice none 0 0, .int .i64 0] 33)).cell (p := ⟨b, off + i * 8 + 7, none⟩) HB.out).trans U.out.2.2.2.2.2.2.2⟩ (fun hHeld => ?_)
    clear hK K
    try simp only [Act.put, List.setIfInBounds_toArray, List.set_cons_zero, List.set_cons_succ]
    refine tr_tail rfl ?_
    clear hHeld
    go_upto_region 5 with (fail)
    obtain ⟨w6, hw6⟩ : ∃ W, W = wd.alloc (.cells #[.string x.id, .int .i64 x.pid, .int .i64 x.gen, .int .i64 x.no, .int .i64 x.st, .slice x.PA x.Pn x.Pc, .slice x.GA x.Gn x.Gc, .int .i64 x.at_] 33) := ⟨_, rfl⟩
    have bk6 : Below w5.heap.size w5 w6 := by rw [hw6]; exact DD.out.alloc DD.out.size _
    have X6 := Lib.hid (show Has w6 wd.heap.size #[.string x.id, .int .i64 x.pid, .int .i64 x.gen, .int .i64 x.no, .int .i64 x.st, .slice x.PA x.Pn x.Pc, .slice x.GA x.Gn x.Gc, .int .i64 x.at_] from by rw [hw6]; exact Has.newAt wd _ 33 rfl)
    rw [← hw6]
    clear hw6 q0 q1 q2 q3 q4 hb ht
    have B6 := Lib.hid (below_from bk6 B5.out B5.out.size)
    have SO6 := Lib.hid (SO5.out.past bk6)
    have cSO6 := SO6.out.cell
    have lSO6 := SO6.out.lt
    have SA6 := Lib.hid (SA5.out.past bk6)
    have cSA6 := SA6.out.cell
    have lSA6 := SA6.out.lt
    have O6 := Lib.hid (Tc.Is.past O5.out bk6)
    have LS6 := Lib.hid (LS5.out.below bk6)
    clear bk6
    have XS6 := Lib.hid X6.out
    have cXS6 := XS6.out.cell
    have lXS6 := XS6.out.lt
    obtain ⟨V1, hV1⟩ : ∃ V, initV o.val x.id 0 = V := ⟨_, rfl⟩
    obtain ⟨V1, p, g, e1⟩ := V1
    have H1 := Lib.hid hV1
    have XID := Lib.hid (show x.id.size ≤ maxLen from HXI.out.1.id)
    clear hV1
    go_wp2_with fail
    refine (init_at O6.out FEW.out XID.out H1.out).mono ?_
    intro e w7 hx
    obtain ⟨o1, rfl, ha, hb⟩ := hx
    have LT := Lib.hid (show w.heap.size + 1 < w7.heap.size ∧ wd.heap.size < w7.heap.size ∧ w.heap.size < w7.heap.size from ⟨Nat.lt_of_lt_of_le SA6.out.lt hb.size, Nat.lt_of_lt_of_le XS6.out.lt hb.size, Nat.lt_of_lt_of_le SO6.out.lt hb.size⟩)
    have bk7 := hb.alloc hb.size (.cells #[.int .i64 o1.next, .slice o1.A o1.n o1.c] 24)
    have B7 := Lib.hid (below_from bk7 B6.out B6.out.size)
    have SO7 := Lib.hid (SO6.out.past bk7)
    have cSO7 := SO7.out.cell
    have lSO7 := SO7.out.lt
    have SA7 := Lib.hid (SA6.out.past bk7)
    have cSA7 := SA7.out.cell
    have lSA7 := SA7.out.lt
    have O7 := Lib.hid (Tc.Is.past O6.out bk7)
    have LS7 := Lib.hid (LS6.out.below bk7)
    have XS7 := Lib.hid (XS6.out.past bk7)
    have cXS7 := XS7.out.cell
    have lXS7 := XS7.out.lt
    have O1_7 := Lib.hid (ha.past (below_alloc1 w7 (.cells #[.int .i64 o1.next, .slice o1.A o1.n o1.c] 24)))
    have S1_7 := Lib.hid (Has.newAt w7 #[.int .i64 o1.next, .slice o1.A o1.n o1.c] 24 (g := w7.heap.size) rfl)
    have cS1_7 := S1_7.out.cell
    have lS1_7 := S1_7.out.lt
    clear cSO6 lSO6 cSA6 lSA6 cXS6 lXS6 hb ha bk7
    by_cases hne : e1 = 0
    · subst hne
      have FX := Lib.hid (init_fine H1.out).2.1.fewV
      go_wp2_with fail
      refine (all_steps o1 A n c l _ O1_7.out.1 (by rw [O1_7.out.2]; exact FX.out) LS7.out).mono ?_
      intro e w8 hx
      obtain ⟨o2, rfl, ha, hst, hfq, hb⟩ := hx
      rw [O1_7.out.2] at hst
      obtain ⟨y1, y2, y3⟩ := fenced_law (chk_iff.1 HK.out) HM.out H1.out hst
      have FL := Lib.hid y3
      have FQ2 := Lib.hid hfq
      have P1 := Lib.hid (show p = x.pid from y1)
      have P2 := Lib.hid (show g = x.gen + 1 from y2)
      have GN := Lib.hid ((chk_iff.1 HK.out).ok HM.out).gen
      have B8_ := Lib.hid (below_from hb B7.out B7.out.size)
      have SBX := Lib.hid (S1_7.out.past hb)
      have cb := SBX.out.cell
      have cf := SBX.out.free
      have cl := SBX.out.lt
      have SO8_ := Lib.hid (SO7.out.past hb)
      have SA8_ := Lib.hid (SA7.out.past hb)
      have XS8_ := Lib.hid (XS7.out.past hb)
      have Q8 := Lib.hid ha
      clear y1 y2 y3 hst hfq ha hb cSO7 lSO7 cSA7 lSA7 cXS7 lXS7 cS1_7 lS1_7
      go_upto_region 9 with (fail)
      have G := setCells_grown w7.heap.size [.int .i64 o2.next, .slice o2.A o2.n o2.c] 0 w8
      obtain ⟨w9, hw9⟩ : ∃ W, W = w8.setCells w7.heap.size 0 [.int .i64 o2.next, .slice o2.A o2.n o2.c] := ⟨_, rfl⟩
      have S2_8 := Lib.hid (show Has w9 w7.heap.size #[.int .i64 o2.next, .slice o2.A o2.n o2.c] from by rw [hw9]; exact SBX.out.set [.int .i64 o2.next, .slice o2.A o2.n o2.c] rfl)
      rw [← hw9] at G
      have B8 := Lib.hid (B8_.out.trans (grown_below G B8_.out.size (fun k hk => by injection hk with hk; have := LT.out.2.2; omega)))
      have SO8 := Lib.hid (SO8_.out.grown G (by have := LT.out.2.2; omega))
      have SA8 := Lib.hid (SA8_.out.grown G (by have := LT.out.1; omega))
      have XS8 := Lib.hid (XS8_.out.grown G (by have := LT.out.2.1; omega))
      have O2_8 := Lib.hid (show Tc.Is w9 o2 o2.val from ⟨Q8.out.beside SBX.out (tc_texts _ _ _ _) G, rfl⟩)
      rw [show (w8.setCell ⟨w7.heap.size, 0, none⟩ (.int .i64 o2.next)).setCell ⟨w7.heap.size, 1, none⟩ (.slice o2.A o2.n o2.c) = w9 from hw9.symm]
      clear hw9 G cb cf cl
      have cSO8 := SO8.out.cell
      have lSO8 := SO8.out.lt
      have cSA8 := SA8.out.cell
      have lSA8 := SA8.out.lt
      have cXS8 := XS8.out.cell
      have lXS8 := XS8.out.lt
      have cS2_8 := S2_8.out.cell
      have lS2_8 := S2_8.out.lt
      obtain ⟨c4, h4, m4⟩ : ∃ r, addV o2.val x.id x.pid x.gen a.tp 0 = (noC, r) ∧ (r = 1 ∨ r = 110) := by
        have := FL.out (rightT a.tp && inB 0 1099511627776) (addF a.tp 0)
        refine ⟨_, this, ?_⟩
        split
        · exact .inl rfl
        · exact .inr rfl
      have H4 := Lib.hid h4
      have M4 := Lib.hid m4
      clear h4 m4
      obtain ⟨c5, h5, m5⟩ : ∃ r, sendV o2.val x.id x.pid x.gen a.g 0 = (noC, r) ∧ (r = 1 ∨ r = 110) := by
        have := FL.out (nameC a.g && inB 0 1099511627776) (sendF a.g 0)
        refine ⟨_, this, ?_⟩
        split
        · exact .inl rfl
        · exact .inr rfl
      have H5 := Lib.hid h5
      have M5 := Lib.hid m5
      clear h5 m5
      have H6 := Lib.hid (show endV o2.val x.id x.pid x.gen a.yes = (noC, 110) from FL.out true (endF a.yes))
      go_wp2_with fail
      refine (add_at O2_8.out FQ2.out HA.out.tp H4.out).mono ?_
      intro e w10 hx
      obtain ⟨o4, rfl, ha, hb⟩ := hx
      have bk9 := hb.alloc hb.size (.cells #[.int .i64 o4.next, .slice o4.A o4.n o4.c] 24)
      have B9 := Lib.hid (below_from bk9 B8.out B8.out.size)
      have SO9 := Lib.hid (SO8.out.past bk9)
      have cSO9 := SO9.out.cell
      have lSO9 := SO9.out.lt
      have SA9 := Lib.hid (SA8.out.past bk9)
      have cSA9 := SA9.out.cell
      have lSA9 := SA9.out.lt
      have XS9 := Lib.hid (XS8.out.past bk9)
      have cXS9 := XS9.out.cell
      have lXS9 := XS9.out.lt
      have S2_9 := Lib.hid (S2_8.out.past bk9)
      have cS2_9 := S2_9.out.cell
      have lS2_9 := S2_9.out.lt
      have O2_9 := Lib.hid (Tc.Is.past O2_8.out bk9)
      have O4_9 := Lib.hid (ha.past (below_alloc1 w10 (.cells #[.int .i64 o4.next, .slice o4.A o4.n o4.c] 24)))
      have S4_9 := Lib.hid (Has.newAt w10 #[.int .i64 o4.next, .slice o4.A o4.n o4.c] 24 (g := w10.heap.size) rfl)
      have cS4_9 := S4_9.out.cell
      have lS4_9 := S4_9.out.lt
      clear cSO8 lSO8 cSA8 lSA8 cXS8 lXS8 cS2_8 lS2_8 hb ha bk9
      go_wp2_with fail
      refine (send_at O2_9.out FQ2.out HA.out.g H5.out).mono ?_
      intro e w11 hx
      obtain ⟨o5, rfl, ha, hb⟩ := hx
      have bk10 := hb.alloc hb.size (.cells #[.int .i64 o5.next, .slice o5.A o5.n o5.c] 24)
      have B10 := Lib.hid (below_from bk10 B9.out B9.out.size)
      have SO10 := Lib.hid (SO9.out.past bk10)
      have cSO10 := SO10.out.cell
      have lSO10 := SO10.out.lt
      have SA10 := Lib.hid (SA9.out.past bk10)
      have cSA10 := SA10.out.cell
      have lSA10 := SA10.out.lt
      have XS10 := Lib.hid (XS9.out.past bk10)
      have cXS10 := XS10.out.cell
      have lXS10 := XS10.out.lt
      have S2_10 := Lib.hid (S2_9.out.past bk10)
      have cS2_10 := S2_10.out.cell
      have lS2_10 := S2_10.out.lt
      have O2_10 := Lib.hid (Tc.Is.past O2_9.out bk10)
      have O4_10 := Lib.hid (Tc.Is.past O4_9.out bk10)
      have S4_10 := Lib.hid (S4_9.out.past bk10)
      have cS4_10 := S4_10.out.cell
      have lS4_10 := S4_10.out.lt
      have O5_10 := Lib.hid (ha.past (below_alloc1 w11 (.cells #[.int .i64 o5.next, .slice o5.A o5.n o5.c] 24)))
      have S5_10 := Lib.hid (Has.newAt w11 #[.int .i64 o5.next, .slice o5.A o5.n o5.c] 24 (g := w11.heap.size) rfl)
      have cS5_10 := S5_10.out.cell
      have lS5_10 := S5_10.out.lt
      clear cSO9 lSO9 cSA9 lSA9 cXS9 lXS9 cS2_9 lS2_9 cS4_9 lS4_9 hb ha bk10
      go_wp2_with fail
      refine (end_at O2_10.out FQ2.out H6.out).mono ?_
      intro e w12 hx
      obtain ⟨o6, rfl, ha, hb⟩ := hx
      have bk11 := hb.alloc hb.size (.cells #[.int .i64 o6.next, .slice o6.A o6.n o6.c] 24)
      have B11 := Lib.hid (below_from bk11 B10.out B10.out.size)
      have SO11 := Lib.hid (SO10.out.past bk11)
      have cSO11 := SO11.out.cell
      have lSO11 := SO11.out.lt
      have SA11 := Lib.hid (SA10.out.past bk11)
      have cSA11 := SA11.out.cell
      have lSA11 := SA11.out.lt
      have XS11 := Lib.hid (XS10.out.past bk11)
      have cXS11 := XS11.out.cell
      have lXS11 := XS11.out.lt
      have S2_11 := Lib.hid (S2_10.out.past bk11)
      have cS2_11 := S2_11.out.cell
      have lS2_11 := S2_11.out.lt
      have O2_11 := Lib.hid (Tc.Is.past O2_10.out bk11)
      have O4_11 := Lib.hid (Tc.Is.past O4_10.out bk11)
      have S4_11 := Lib.hid (S4_10.out.past bk11)
      have cS4_11 := S4_11.out.cell
      have lS4_11 := S4_11.out.lt
      have O5_11 := Lib.hid (Tc.Is.past O5_10.out bk11)
      have S5_11 := Lib.hid (S5_10.out.past bk11)
      have cS5_11 := S5_11.out.cell
      have lS5_11 := S5_11.out.lt
      have O6_11 := Lib.hid (ha.past (below_alloc1 w12 (.cells #[.int .i64 o6.next, .slice o6.A o6.n o6.c] 24)))
      have S6_11 := Lib.hid (Has.newAt w12 #[.int .i64 o6.next, .slice o6.A o6.n o6.c] 24 (g := w12.heap.size) rfl)
      have cS6_11 := S6_11.out.cell
      have lS6_11 := S6_11.out.lt
      clear cSO10 lSO10 cSA10 lSA10 cXS10 lXS10 cS2_10 lS2_10 cS4_10 lS4_10 cS5_10 lS5_10 hb ha bk11
      have z1 := P1.out
      have z2 := P2.out
      have wr1 : IntKind.i64.wrap (x.gen + 1) = x.gen + 1 := IntWalk.i64_in _ (by have h := GN.out; have h1 : 0 ≤ x.gen := h.1; have h2 : x.gen ≤ 1048576 := h.2; omega)
      subst z1 z2
      rcases M4.out with rfl | rfl
      · rcases M5.out with rfl | rfl
        · go_wp2_with fail
          go_ret
          exact ⟨rfl, B11.out⟩
        · go_wp2_with fail
          go_ret
          exact ⟨rfl, B11.out⟩
      · rcases M5.out with rfl | rfl
        · go_wp2_with fail
          go_ret
          exact ⟨rfl, B11.out⟩
        · go_wp2_with fail
          go_ret
          exact ⟨rfl, B11.out⟩
    · have z := fenced_bound (chk_iff.1 HK.out) HM.out H1.out hne
      subst z
      clear hne
      go_wp2_with fail
      go_ret
      exact ⟨rfl, B7.out⟩
  · obtain ⟨cc, hc⟩ : ∃ c, checkV o.val = c := ⟨_, rfl⟩
    have HC := Lib.hid hc
    rw [hc] at hk
    have n1 : (cc != 0) = true := by rw [bne_iff_ne]; exact hk
    have n2 : (cc == 0) = false := by rw [beq_eq_false_iff_ne]; exact hk
    clear hc hk
    refine (check_at O4.out FEW.out HC.out).mono ?_
    intro e w5 hx
    obtain ⟨rfl, hb⟩ := hx
    have B5 := Lib.hid (below_from hb B4.out B4.out.size)
    have SO5 := Lib.hid (SO4.out.past hb)
    have cSO5 := SO5.out.cell
    have lSO5 := SO5.out.lt
    have SA5 := Lib.hid (SA4.out.past hb)
    have cSA5 := SA5.out.cell
    have lSA5 := SA5.out.lt
    have O5 := Lib.hid (Tc.Is.past O4.out hb)
    have LS5 := Lib.hid (LS4.out.below hb)
    clear cSO4 lSO4 cSA4 lSA4 hb
    go_wp2_with fail
    go_ret
    exact ⟨rfl, B5.out⟩

end Go.Proofs.Ytnigjchgpmladaa
