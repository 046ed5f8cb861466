/- Send, of the program. -/
import Derived.Test.YtmlgahambecamaaSendQ
import Derived.Test.YtmlgahambecamaaRep
import Derived.Test.YtmlgahambecamaaInZ
import Derived.Test.YtmlgahambecamaaFork3
import Derived.Test.YtmlgahambecamaaBld
import Derived.Test.YtmlgahambecamaaRetN
import Derived.Deep.DeepCutAuto
namespace Go.Proofs.Ytmlgahambecamaa
open Go.RowKit Go.Shelf

set_option maxHeartbeats 64000000 in
set_option maxRecDepth 100000 in
theorem send_any (o : Nt) (frm dst d : Int) (A : Option Addr) (n c : Nat) (bs : List UInt8) (w : World) (ho : Nt.At w o) (hf : o.Few) (hbs : Sl u8K w A n c bs) :
    Calls Try.prog 19 #[o.v, .int .i64 frm, .int .i64 dst, .int .i64 d, .slice A n c] w fun e w' => NetRes w.heap.size (sendV o.val frm dst d bs) e w' ∧ Below w.heap.size w w' := by
  obtain ⟨i0, hi0, hz0, hs0, hb0⟩ := info_parts inf40
  have HO := Lib.hid ho
  have HF := Lib.hid hf
  have HB := Lib.hid hbs
  have hk := Nat.le_trans ho.k.cap ho.k.max
  have hn := Nat.le_trans hbs.cap hbs.max
  have KL : o.val.K.length = o.Kn := ho.k.len
  have BL : bs.length = n := hbs.len
  obtain ⟨W0, hW0⟩ : ∃ W0, W0 = (w.alloc (.cells #[.int .i64 o.now, .int .i64 o.next, .slice o.LA o.Ln o.Lc, .slice o.SA o.Sn o.Sc, .slice o.CA o.Cn o.Cc, .slice o.KA o.Kn o.Kc] 27)).alloc (.cells #[.int .i64 0, .int .i64 0, .slice none 0 0, .slice none 0 0, .slice none 0 0, .slice none 0 0] 27) := ⟨_, rfl⟩
  have B0 := Lib.hid (show Below w.heap.size w W0 from by rw [hW0]; exact ((Below.refl _ w).alloc (Nat.le_refl _) _).alloc (by simp) _)
  have N0 := Lib.hid (show Has W0 w.heap.size #[.int .i64 o.now, .int .i64 o.next, .slice o.LA o.Ln o.Lc, .slice o.SA o.Sn o.Sc, .slice o.CA o.Cn o.Cc, .slice o.KA o.Kn o.Kc] from by rw [hW0]; exact (Has.newAt w #[.int .i64 o.now, .int .i64 o.next, .slice o.LA o.Ln o.Lc, .slice o.SA o.Sn o.Sc, .slice o.CA o.Cn o.Cc, .slice o.KA o.Kn o.Kc] 27 rfl).alloc _)
  have X0 := Lib.hid (show Has W0 (w.heap.size + 1) #[.int .i64 0, .int .i64 0, .slice none 0 0, .slice none 0 0, .slice none 0 0, .slice none 0 0] from by rw [hW0]; exact Has.newAt _ #[.int .i64 0, .int .i64 0, .slice none 0 0, .slice none 0 0, .slice none 0 0, .slice none 0 0] 27 (by simp))
  have TR := Lib.hid (show HasT W0 (w.heap.size + 1) 27 from by rw [hW0]; exact HasT.newAt _ #[.int .i64 0, .int .i64 0, .slice none 0 0, .slice none 0 0, .slice none 0 0, .slice none 0 0] 27 (by simp))
  have LE := Lib.hid (show w.heap.size + 2 ≤ W0.heap.size from by rw [hW0]; simp)
  have CK := Lib.hid (check_any o W0 (ho.below B0.out) (by have := hf.s; omega))
  have HW0 := Lib.hid hW0
  have n0c := N0.out.cell
  have n0l := N0.out.lt
  clear ho hf hW0 hbs
  cases hc : checkB o.val with
  | false =>
    rw [checkI_no hc] at CK
    have TV := Lib.hid (sendV_arg (frm := frm) (dst := dst) (takes := d) (bs := bs) (n := o.val) (fun h => by rw [h.1] at hc; cases hc))
    clear hc KL BL
    go_enter Try.func19, Try.ntmps19
    go_upto_region 1 with (fail)
    rw [← HW0.out]
    go_wp2_with (go_at_call 15; refine CK.out.mono ?_; rintro e w1 ⟨rfl, hb⟩; have B1 := Lib.hid (below_from hb B0.out B0.out.size); have N1 := Lib.hid (N0.out.past hb); have X1 := Lib.hid (X0.out.past hb); have L1 := Lib.hid (Nat.le_trans LE.out hb.size); have TR1 := Lib.hid (TR.out.past hb); have c1 := N1.out.cell; have l1 := N1.out.lt; have x1c := X1.out.cell; have x1l := X1.out.lt; have x1f := X1.out.free; clear hb)
    refine bodyPost_ret (v := .tuple #[noN.v, .int .i64 1]) (by simp [results, Try.results19, go_sem, noN, x1c]) rfl ?_
    exact ⟨NetRes.no (TV.out), B1.out.trans (grown_below (setCells_grown (w.heap.size + 1) [.int .i64 0, .int .i64 0, .slice none 0 0, .slice none 0 0, .slice none 0 0, .slice none 0 0] 0 w1) B1.out.size (fun q hq => by injection hq with hq; omega))⟩
  | true =>
  rw [checkI_yes hc] at CK
  by_cases h1 : min frm dst < 0
  · have d1 : decide (min frm dst < 0) = true := decide_eq_true h1
    have TV := Lib.hid (sendV_arg (frm := frm) (dst := dst) (takes := d) (bs := bs) (n := o.val) (fun h => by have e := ends_min (m := o.Kn) (a := frm) (b := dst) (by omega); have h2 := h.2.1; have h3 := h.2.2.1; rw [KL] at h2 h3; rw [h2, h3] at e; cases e))
    clear hc KL BL h1
    go_enter Try.func19, Try.ntmps19
    go_upto_region 1 with (fail)
    rw [← HW0.out]
    go_wp2_with (go_at_call 15; refine CK.out.mono ?_; rintro e w1 ⟨rfl, hb⟩; have B1 := Lib.hid (below_from hb B0.out B0.out.size); have N1 := Lib.hid (N0.out.past hb); have X1 := Lib.hid (X0.out.past hb); have L1 := Lib.hid (Nat.le_trans LE.out hb.size); have TR1 := Lib.hid (TR.out.past hb); have c1 := N1.out.cell; have l1 := N1.out.lt; have x1c := X1.out.cell; have x1l := X1.out.lt; have x1f := X1.out.free; clear hb)
    refine bodyPost_ret (v := .tuple #[noN.v, .int .i64 1]) (by simp [results, Try.results19, go_sem, noN, x1c]) rfl ?_
    exact ⟨NetRes.no (TV.out), B1.out.trans (grown_below (setCells_grown (w.heap.size + 1) [.int .i64 0, .int .i64 0, .slice none 0 0, .slice none 0 0, .slice none 0 0, .slice none 0 0] 0 w1) B1.out.size (fun q hq => by injection hq with hq; omega))⟩
  have d1 : decide (min frm dst < 0) = false := decide_eq_false h1
  by_cases h2 : (o.Kn : Int) ≤ max frm dst
  · have d2 : decide ((o.Kn : Int) ≤ max frm dst) = true := decide_eq_true h2
    have TV := Lib.hid (sendV_arg (frm := frm) (dst := dst) (takes := d) (bs := bs) (n := o.val) (fun h => by have e := ends_max (m := o.Kn) (a := frm) (b := dst) h2; have h3 := h.2.1; have h4 := h.2.2.1; rw [KL] at h3 h4; rw [h3, h4] at e; cases e))
    clear hc KL BL h1 h2
    go_enter Try.func19, Try.ntmps19
    go_upto_region 1 with (fail)
    rw [← HW0.out]
    go_wp2_with (go_at_call 15; refine CK.out.mono ?_; rintro e w1 ⟨rfl, hb⟩; have B1 := Lib.hid (below_from hb B0.out B0.out.size); have N1 := Lib.hid (N0.out.past hb); have X1 := Lib.hid (X0.out.past hb); have L1 := Lib.hid (Nat.le_trans LE.out hb.size); have TR1 := Lib.hid (TR.out.past hb); have c1 := N1.out.cell; have l1 := N1.out.lt; have x1c := X1.out.cell; have x1l := X1.out.lt; have x1f := X1.out.free; clear hb)
    refine bodyPost_ret (v := .tuple #[noN.v, .int .i64 1]) (by simp [results, Try.results19, go_sem, noN, x1c]) rfl ?_
    exact ⟨NetRes.no (TV.out), B1.out.trans (grown_below (setCells_grown (w.heap.size + 1) [.int .i64 0, .int .i64 0, .slice none 0 0, .slice none 0 0, .slice none 0 0, .slice none 0 0] 0 w1) B1.out.size (fun q hq => by injection hq with hq; omega))⟩
  have d2 : decide ((o.Kn : Int) ≤ max frm dst) = false := decide_eq_false h2
  have EE := ends_yes (m := o.Kn) (a := frm) (b := dst) (by omega) (by omega)
  cases h3 : inR d 0 1099511627776 with
  | false =>
    have E1 := Lib.hid h3
    have TV := Lib.hid (sendV_arg (frm := frm) (dst := dst) (takes := d) (bs := bs) (n := o.val) (fun h => by have h4 := h.2.2.2.1; rw [show maxO = 1099511627776 from rfl, h3] at h4; cases h4))
    clear hc KL BL h1 h2 h3 EE
    go_enter Try.func19, Try.ntmps19
    go_upto_region 1 with (fail)
    rw [← HW0.out]
    go_wp2_with (first | (go_at_call 15; refine CK.out.mono ?_; rintro e w1 ⟨rfl, hb⟩; have B1 := Lib.hid (below_from hb B0.out B0.out.size); have N1 := Lib.hid (N0.out.past hb); have X1 := Lib.hid (X0.out.past hb); have L1 := Lib.hid (Nat.le_trans LE.out hb.size); have TR1 := Lib.hid (TR.out.past hb); have c1 := N1.out.cell; have l1 := N1.out.lt; have x1c := X1.out.cell; have x1l := X1.out.lt; have x1f := X1.out.free; clear hb) | (go_at_call 35; refine (within_any _ _ _ _).mono ?_; rintro e w' ⟨rfl, rfl⟩; rw [E1.out]))
    refine bodyPost_ret (v := .tuple #[noN.v, .int .i64 1]) (by simp [results, Try.results19, go_sem, noN, x1c]) rfl ?_
    exact ⟨NetRes.no (TV.out), B1.out.trans (grown_below (setCells_grown (w.heap.size + 1) [.int .i64 0, .int .i64 0, .slice none 0 0, .slice none 0 0, .slice none 0 0, .slice none 0 0] 0 w1) B1.out.size (fun q hq => by injection hq with hq; omega))⟩
  | true =>
  have E1 := Lib.hid h3
  by_cases h4 : 4096 < n
  · have d4 : decide ((4096 : Int) < (n : Int)) = true := decide_eq_true (by omega)
    have d4n : decide (4096 < n) = true := decide_eq_true h4
    have TV := Lib.hid (sendV_arg (frm := frm) (dst := dst) (takes := d) (bs := bs) (n := o.val) (fun h => by have h5 := h.2.2.2.2; omega))
    clear hc KL BL h1 h2 h3 EE h4
    go_enter Try.func19, Try.ntmps19
    go_upto_region 1 with (fail)
    rw [← HW0.out]
    go_wp2_with (first | (go_at_call 15; refine CK.out.mono ?_; rintro e w1 ⟨rfl, hb⟩; have B1 := Lib.hid (below_from hb B0.out B0.out.size); have N1 := Lib.hid (N0.out.past hb); have X1 := Lib.hid (X0.out.past hb); have L1 := Lib.hid (Nat.le_trans LE.out hb.size); have TR1 := Lib.hid (TR.out.past hb); have c1 := N1.out.cell; have l1 := N1.out.lt; have x1c := X1.out.cell; have x1l := X1.out.lt; have x1f := X1.out.free; clear hb) | (go_at_call 35; refine (within_any _ _ _ _).mono ?_; rintro e w' ⟨rfl, rfl⟩; rw [E1.out]))
    refine bodyPost_ret (v := .tuple #[noN.v, .int .i64 1]) (by simp [results, Try.results19, go_sem, noN, x1c]) rfl ?_
    exact ⟨NetRes.no (TV.out), B1.out.trans (grown_below (setCells_grown (w.heap.size + 1) [.int .i64 0, .int .i64 0, .slice none 0 0, .slice none 0 0, .slice none 0 0, .slice none 0 0] 0 w1) B1.out.size (fun q hq => by injection hq with hq; omega))⟩
  have d4 : decide ((4096 : Int) < (n : Int)) = false := decide_eq_false (by omega)
  have d4n : decide (4096 < n) = false := decide_eq_false h4
  have SB := Lib.hid (show sendable o.val frm dst d bs from ⟨hc, by rw [KL]; exact (Bool.and_eq_true_iff.1 EE).1, by rw [KL]; exact (Bool.and_eq_true_iff.1 EE).2, h3, by omega⟩)
  have NW : 0 ≤ o.now ∧ o.now ≤ 1099511627776 := chk_now hc
  have DR : 0 ≤ d ∧ d ≤ 1099511627776 := by unfold inR at h3; simpa using h3
  have h4' : n ≤ 4096 := by omega
  clear h1 h2 h3 h4 EE KL
  by_cases h5 : o.next = 1099511627776
  · have d5 : (o.next == 1099511627776) = true := by rw [beq_iff_eq]; exact h5
    have TV := Lib.hid (sendV_next SB.out h5)
    clear hc BL h5
    go_enter Try.func19, Try.ntmps19
    go_upto_region 1 with (fail)
    rw [← HW0.out]
    go_wp2_with (first | (go_at_call 15; refine CK.out.mono ?_; rintro e w1 ⟨rfl, hb⟩; have B1 := Lib.hid (below_from hb B0.out B0.out.size); have N1 := Lib.hid (N0.out.past hb); have X1 := Lib.hid (X0.out.past hb); have L1 := Lib.hid (Nat.le_trans LE.out hb.size); have TR1 := Lib.hid (TR.out.past hb); have c1 := N1.out.cell; have l1 := N1.out.lt; have x1c := X1.out.cell; have x1l := X1.out.lt; have x1f := X1.out.free; clear hb) | (go_at_call 35; refine (within_any _ _ _ _).mono ?_; rintro e w' ⟨rfl, rfl⟩; rw [E1.out]))
    refine bodyPost_ret (v := .tuple #[noN.v, .int .i64 2]) (by simp [results, Try.results19, go_sem, noN, x1c]) rfl ?_
    exact ⟨NetRes.no (TV.out), B1.out.trans (grown_below (setCells_grown (w.heap.size + 1) [.int .i64 0, .int .i64 0, .slice none 0 0, .slice none 0 0, .slice none 0 0, .slice none 0 0] 0 w1) B1.out.size (fun q hq => by injection hq with hq; omega))⟩
  have d5 : (o.next == 1099511627776) = false := by rw [beq_eq_false_iff_ne]; exact h5
  have H5 := Lib.hid h5
  have HC := Lib.hid hc
  have wr0 : IntKind.i64.wrap (o.now + d) = o.now + d := IntWalk.i64_in _ (by omega)
  have OW := Lib.hid (fun W (h : Below w.heap.size w W) => own_apart o W (HO.out.below h) HF.out)
  have CL := Lib.hid (fun W (h : Below w.heap.size w W) => cloneB A n c bs W (HB.out.below h) (by omega))
  clear hc h5 BL
  go_enter Try.func19, Try.ntmps19
  go_upto_region 1 with (fail)
  rw [← HW0.out]
  go_upto_region 5 with (first | (go_at_call 15; refine CK.out.mono ?_; rintro e w1 ⟨rfl, hb⟩; have B1 := Lib.hid (below_from hb B0.out B0.out.size); have N1 := Lib.hid (N0.out.past hb); have X1 := Lib.hid (X0.out.past hb); have L1 := Lib.hid (Nat.le_trans LE.out hb.size); have TR1 := Lib.hid (TR.out.past hb); have c1 := N1.out.cell; have l1 := N1.out.lt; have x1c := X1.out.cell; have x1l := X1.out.lt; have x1f := X1.out.free; clear hb) | (go_at_call 35; refine (within_any _ _ _ _).mono ?_; rintro e w' ⟨rfl, rfl⟩; rw [E1.out]))
  go_cut [12, 13] (fun s12 s13 wx => ∃ (gx gm : Nat) (q : Nt) (A1 : Option Addr) (c1 : Nat), s12 = .pointer (some ⟨gx, 0, none⟩) ∧ s13 = .pointer (some ⟨gm, 0, none⟩) ∧ Hid (SC o w wx gx gm q #[.int .i64 q.now, .int .i64 q.next, .slice q.LA q.Ln q.Lc, .slice q.SA q.Sn q.Sc, .slice q.CA q.Cn q.Cc, .slice q.KA q.Kn q.Kc] A1 n c1 bs (o.now + d) o.next frm dst))
  case first =>
    refine region_tr3 (fun w' => ∀ i, w'.cell? ⟨w.heap.size, i, none⟩ = (#[.int .i64 o.now, .int .i64 o.next, .slice o.LA o.Ln o.Lc, .slice o.SA o.Sn o.Sc, .slice o.CA o.Cn o.Cc, .slice o.KA o.Kn o.Kc] : Array Value)[i]?) 16 (.take 0 (.take 2 (.take 3 (.take 4 (.take 5 (.take 6 (.take 7 (.take 8 (.take 9 (.take 10 (.fork3 1 (.fork3 11 (.take 12 (.fork 13 (.op 14 (.op 15 .tail)) 14 (.op 13 (.op 15 .tail)))) 13 (.fork 11 (.take 12 (.op 14 (.op 15 .tail))) 14 (.op 11 (.take 12 (.op 15 .tail)))) 14 (.fork 11 (.take 12 (.op 13 (.op 15 .tail))) 13 (.op 11 (.take 12 (.op 15 .tail))))) 13 (.fork 1 (.fork 11 (.take 12 (.op 14 (.op 15 .tail))) 14 (.op 11 (.take 12 (.op 15 .tail)))) 14 (.op 1 (.op 11 (.take 12 (.op 15 .tail))))) 14 (.fork 1 (.fork 11 (.take 12 (.op 13 (.op 15 .tail))) 13 (.op 11 (.take 12 (.op 15 .tail)))) 13 (.op 1 (.op 11 (.take 12 (.op 15 .tail)))))))))))))))) (by kernel_rfl) (by kernel_rfl) N1.out.drew.cell (fun hHeld => ?_)
    have B0 := Lib.hid B1.out.drew
    have N0 := Lib.hid N1.out.drew
    have R0 := Lib.hid X1.out.drew
    have TR0 := Lib.hid TR1.out.drew
    have LE0 := Lib.hid (show w.heap.size + 2 ≤ w1.drew.heap.size from L1.out)
    clear n0c n0l c1 l1 x1c x1l x1f B1 N1 X1
    obtain ⟨v0, hv⟩ : ∃ v, v = w1.drew := ⟨_, rfl⟩
    rw [← hv] at hHeld B0 N0 R0 LE0 TR0
    rw [← hv]
    clear hv
    iterate 10
      refine tr_take3 (v := ?_) (by simp only [List.getElem?_toArray, List.getElem?_cons_succ, List.getElem?_cons_zero]; rfl) (Or.inl ⟨by rfl, ?_⟩) ?_
      rotate_left 1
      · intro w hSw
        try dsimp only at hSw
        go_simp
        try with_reducible rfl
      try simp only [Act.put, List.setIfInBounds_toArray, List.set_cons_zero, List.set_cons_succ]
    refine tr_fork33 (by simp only [List.getElem?_toArray, List.getElem?_cons_succ, List.getElem?_cons_zero]; rfl) (by simp only [List.getElem?_toArray, List.getElem?_cons_succ, List.getElem?_cons_zero]; rfl) (by simp only [List.getElem?_toArray, List.getElem?_cons_succ, List.getElem?_cons_zero]; rfl) (fun K hK => ?_) (fun K hK => ?_) (fun K hK => ?_)
    · skip
      go_wp2_with (go_at_call 33; refine (OW.out _ B0.out).mono ?_; rintro e v1 ⟨q, rfl, hL, hO, hA, hb⟩; have B1 := Lib.hid (below_from hb B0.out B0.out.size); have N1 := Lib.hid (N0.out.past hb); have R1 := Lib.hid (R0.out.past hb); have Z1 := Lib.hid hb.size; have TR1 := Lib.hid (TR0.out.past hb); have QA := Lib.hid hA; have QL := Lib.hid hL; have QT := Lib.hid hO.btw; have O1 := Lib.hid (hO.base (show w.heap.size + 2 ≤ v0.heap.size from LE0.out)); clear hL hO hA hb)
      clear hHeld
      refine hK.out _ _ N1.out.cell (fun hHeld => ?_)
      clear hK K
      try simp only [Act.put, List.setIfInBounds_toArray, List.set_cons_zero, List.set_cons_succ]
      have LE1 := Lib.hid (Nat.le_trans LE0.out Z1.out)
      refine tr_fork33 (by simp only [List.getElem?_toArray, List.getElem?_cons_succ, List.getElem?_cons_zero]; rfl) (by simp only [List.getElem?_toArray, List.getElem?_cons_succ, List.getElem?_cons_zero]; rfl) (by simp only [List.getElem?_toArray, List.getElem?_cons_succ, List.getElem?_cons_zero]; rfl) (fun K hK => ?_) (fun K hK => ?_) (fun K hK => ?_)
      · skip
        go_wp2_with (go_at_call 42; refine (CL.out _ B1.out).mono ?_; rintro e v2 ⟨A1, c1, rfl, hO, hb⟩; have B2 := Lib.hid (below_from hb B1.out B1.out.size); have N2 := Lib.hid (N1.out.past hb); have R2 := Lib.hid (R1.out.past hb); have Z2 := Lib.hid hb.size; have TR2 := Lib.hid (TR1.out.past hb); have O2 := Lib.hid (O1.out.kept hb); have YT := Lib.hid hO.2.1.lt; have Y2 := Lib.hid (hO.base LE1.out); clear hO hb)
        clear hHeld
        refine hK.out _ _ N2.out.cell (fun hHeld => ?_)
        clear hK K
        try simp only [Act.put, List.setIfInBounds_toArray, List.set_cons_zero, List.set_cons_succ]
        have LE2 := Lib.hid (Nat.le_trans LE1.out Z2.out)
        refine tr_take3 (v := ?_) (by simp only [List.getElem?_toArray, List.getElem?_cons_succ, List.getElem?_cons_zero]; rfl) (Or.inl ⟨by rfl, ?_⟩) ?_
        rotate_left 1
        · intro w hSw
          try dsimp only at hSw
          go_simp
          try with_reducible rfl
        try simp only [Act.put, List.setIfInBounds_toArray, List.set_cons_zero, List.set_cons_succ]
        refine tr_fork3 (by simp only [List.getElem?_toArray, List.getElem?_cons_succ, List.getElem?_cons_zero]; rfl) (by simp only [List.getElem?_toArray, List.getElem?_cons_succ, List.getElem?_cons_zero]; rfl) (fun K hK => ?_) (fun K hK => ?_)
        · skip
          go_wp2_with fail
          clear hHeld
          refine hK.out _ _ (N2.out.alloc (.cells #[.int .i64 0, .int .i64 0, .slice none 0 0, .slice none 0 0, .slice none 0 0, .slice none 0 0] 27)).cell (fun hHeld => ?_)
          clear hK K
          try simp only [Act.put, List.setIfInBounds_toArray, List.set_cons_zero, List.set_cons_succ]
          have hb := below_alloc1 v2 (.cells #[.int .i64 0, .int .i64 0, .slice none 0 0, .slice none 0 0, .slice none 0 0, .slice none 0 0] 27)
          have hX := Has.newAt v2 #[.int .i64 0, .int .i64 0, .slice none 0 0, .slice none 0 0, .slice none 0 0, .slice none 0 0] 27 (g := v2.heap.size) rfl
          have hT := HasT.newAt v2 #[.int .i64 0, .int .i64 0, .slice none 0 0, .slice none 0 0, .slice none 0 0, .slice none 0 0] 27 (g := v2.heap.size) rfl
          have hz := Lib.hid (show v2.heap.size < (v2.alloc (.cells #[.int .i64 0, .int .i64 0, .slice none 0 0, .slice none 0 0, .slice none 0 0, .slice none 0 0] 27)).heap.size from by simp)
          obtain ⟨v3, hv⟩ : ∃ v, v = v2.alloc (.cells #[.int .i64 0, .int .i64 0, .slice none 0 0, .slice none 0 0, .slice none 0 0, .slice none 0 0] 27) := ⟨_, rfl⟩
          rw [← hv] at hb hX hz hHeld hT
          rw [← hv]
          clear hv
          have B3 := Lib.hid (below_from hb B2.out B2.out.size)
          have N3 := Lib.hid (N2.out.past hb)
          have R3 := Lib.hid (R2.out.past hb)
          have Z3 := Lib.hid hb.size
          have TR3 := Lib.hid (TR2.out.past hb)
          have O3 := Lib.hid (O2.out.kept hb)
          have Y3 := Lib.hid (Y2.out.kept hb)
          have X3 := Lib.hid hX
          have TX3 := Lib.hid hT
          have ZLX := hz
          have LE3 := Lib.hid (Nat.le_trans LE2.out Z3.out)
          clear hb hX hz hT
          refine tr_op3 (by simp only [List.getElem?_toArray, List.getElem?_cons_succ, List.getElem?_cons_zero]; rfl) (fun K hK => ?_)
          go_wp2_with fail
          clear hHeld
          refine hK.out _ _ (N3.out.alloc (.cells #[.int .i64 0, .int .i64 0, .int .i64 0, .int .i64 0, .slice none 0 0] 40)).cell (fun hHeld => ?_)
          clear hK K
          try simp only [Act.put, List.setIfInBounds_toArray, List.set_cons_zero, List.set_cons_succ]
          have hb := below_alloc1 v3 (.cells #[.int .i64 0, .int .i64 0, .int .i64 0, .int .i64 0, .slice none 0 0] 40)
          have hX := Has.newAt v3 #[.int .i64 0, .int .i64 0, .int .i64 0, .int .i64 0, .slice none 0 0] 40 (g := v3.heap.size) rfl
          have hT := HasT.newAt v3 #[.int .i64 0, .int .i64 0, .int .i64 0, .int .i64 0, .slice none 0 0] 40 (g := v3.heap.size) rfl
          have hz := Lib.hid (show v3.heap.size < (v3.alloc (.cells #[.int .i64 0, .int .i64 0, .int .i64 0, .int .i64 0, .slice none 0 0] 40)).heap.size from by simp)
          obtain ⟨v4, hv⟩ : ∃ v, v = v3.alloc (.cells #[.int .i64 0, .int .i64 0, .int .i64 0, .int .i64 0, .slice none 0 0] 40) := ⟨_, rfl⟩
          rw [← hv] at hb hX hz hHeld hT
          rw [← hv]
          clear hv
          have B4 := Lib.hid (below_from hb B3.out B3.out.size)
          have N4 := Lib.hid (N3.out.past hb)
          have R4 := Lib.hid (R3.out.past hb)
          have Z4 := Lib.hid hb.size
          have TR4 := Lib.hid (TR3.out.past hb)
          have X4 := Lib.hid (X3.out.past hb)
          have TX4 := Lib.hid (TX3.out.past hb)
          have O4 := Lib.hid (O3.out.kept hb)
          have Y4 := Lib.hid (Y3.out.kept hb)
          have M4 := Lib.hid hX
          have TM4 := Lib.hid hT
          have ZLM := hz
          have LE4 := Lib.hid (Nat.le_trans LE3.out Z4.out)
          clear hb hX hz hT
          have xc := X4.out.cell
          have xl := X4.out.lt
          have xf := X4.out.free
          have z1 := Z1.out
          have z2 := Z2.out
          have z3 := Z3.out
          have z4 := Z4.out
          have zx := ZLX.out
          have zm := ZLM.out
          have le := LE0.out
          have nex : w.heap.size ≠ v2.heap.size := by omega
          have nmx : v2.heap.size ≠ v3.heap.size := by omega
          refine tr_op3 (by simp only [List.getElem?_toArray, List.getElem?_cons_succ, List.getElem?_cons_zero]; rfl) (fun K hK => ?_)
          go_wp2_with fail
          have ST := setCells_grown (v2.heap.size) [.int .i64 q.now, .int .i64 q.next, .slice q.LA q.Ln q.Lc, .slice q.SA q.Sn q.Sc, .slice q.CA q.Cn q.Cc, .slice q.KA q.Kn q.Kc] 0 v4
          clear hHeld
          refine hK.out _ _ (show ∀ i, (v4.setCells (v2.heap.size) 0 [.int .i64 q.now, .int .i64 q.next, .slice q.LA q.Ln q.Lc, .slice q.SA q.Sn q.Sc, .slice q.CA q.Cn q.Cc, .slice q.KA q.Kn q.Kc]).cell? ⟨w.heap.size, i, none⟩ = _ from (N4.out.grown ST (by omega)).cell) (fun hHeld => ?_)
          clear hK K
          try simp only [Act.put, List.setIfInBounds_toArray, List.set_cons_zero, List.set_cons_succ]
          obtain ⟨v5, hv⟩ : ∃ v, v = ((((((v4.setCell ⟨v2.heap.size, 0, none⟩ (.int .i64 q.now)).setCell ⟨v2.heap.size, 1, none⟩ (.int .i64 q.next)).setCell ⟨v2.heap.size, 2, none⟩ (.slice q.LA q.Ln q.Lc)).setCell ⟨v2.heap.size, 3, none⟩ (.slice q.SA q.Sn q.Sc)).setCell ⟨v2.heap.size, 4, none⟩ (.slice q.CA q.Cn q.Cc)).setCell ⟨v2.heap.size, 5, none⟩ (.slice q.KA q.Kn q.Kc)) := ⟨_, rfl⟩
          rw [← hv]
          have ST : v4.grownBy v5 (some (v2.heap.size)) := by rw [hv]; exact ST
          have BX := B4.out.trans (grown_below ST B4.out.size (fun j hj => by injection hj with hj; omega))
          have XX : Has v5 (v2.heap.size) #[.int .i64 q.now, .int .i64 q.next, .slice q.LA q.Ln q.Lc, .slice q.SA q.Sn q.Sc, .slice q.CA q.Cn q.Cc, .slice q.KA q.Kn q.Kc] := by rw [hv]; exact X4.out.set [.int .i64 q.now, .int .i64 q.next, .slice q.LA q.Ln q.Lc, .slice q.SA q.Sn q.Sc, .slice q.CA q.Cn q.Cc, .slice q.KA q.Kn q.Kc] rfl
          have MX := M4.out.grown ST (by omega)
          have NX := N4.out.grown ST (by omega)
          have RX := R4.out.grown ST (by omega)
          have TXX : HasT v5 (v2.heap.size) 27 := by rw [hv]; exact TX4.out.set X4.out 0 [.int .i64 q.now, .int .i64 q.next, .slice q.LA q.Ln q.Lc, .slice q.SA q.Sn q.Sc, .slice q.CA q.Cn q.Cc, .slice q.KA q.Kn q.Kc] (by simp)
          have TRX := TR4.out.grown ST (fun e => by injection e with e; omega)
          have OX := O4.out.far ST QT.out (by omega) (fun a ha => mgK.below (HO.out.l.each a (by rw [← QL.out.L]; exact ha)) BX)
          have YX := (Y4.out.rown.apart ST (fun b hb e => by injection e with e; have := YT.out b hb; omega)).own (fun _ _ => trivial)
          have mc := MX.cell
          have ml := MX.lt
          have mf := MX.free
          clear hv hHeld xc xl xf
          refine tr_tail3 rfl ?_
          go_wp2_with fail
          go_meet
          have SM := setCells_grown (v3.heap.size) [.int .i64 (o.now + d), .int .i64 o.next, .int .i64 frm, .int .i64 dst, .slice A1 n c1] 0 v5
          refine ⟨v2.heap.size, v3.heap.size, q, A1, c1, rfl, rfl, Lib.hid ?_⟩
          have BY := BX.trans (grown_below SM BX.size (fun j hj => by injection hj with hj; omega))
          exact ⟨BY, NX.grown SM (by omega), RX.grown SM (by omega), XX.grown SM (by omega), MX.set [.int .i64 (o.now + d), .int .i64 o.next, .int .i64 frm, .int .i64 dst, .slice A1 n c1] rfl, by omega, by omega, by omega, QL.out, QA.out, TXX.grown SM (fun e => by injection e with e; omega), TRX.grown SM (fun e => by injection e with e; omega), OX.far SM QT.out (by omega) (fun a ha => mgK.below (HO.out.l.each a (by rw [← QL.out.L]; exact ha)) BY), (YX.rown.apart SM (fun b hb e => by injection e with e; have := YT.out b hb; omega)).own (fun _ _ => trivial), _, _, QT.out, by omega, by omega, fun b hb => by have := YT.out b hb; omega⟩
        · skip
          go_wp2_with fail
          clear hHeld
          refine hK.out _ _ (N2.out.alloc (.cells #[.int .i64 0, .int .i64 0, .int .i64 0, .int .i64 0, .slice none 0 0] 40)).cell (fun hHeld => ?_)
          clear hK K
          try simp only [Act.put, List.setIfInBounds_toArray, List.set_cons_zero, List.set_cons_succ]
          have hb := below_alloc1 v2 (.cells #[.int .i64 0, .int .i64 0, .int .i64 0, .int .i64 0, .slice none 0 0] 40)
          have hX := Has.newAt v2 #[.int .i64 0, .int .i64 0, .int .i64 0, .int .i64 0, .slice none 0 0] 40 (g := v2.heap.size) rfl
          have hT := HasT.newAt v2 #[.int .i64 0, .int .i64 0, .int .i64 0, .int .i64 0, .slice none 0 0] 40 (g := v2.heap.size) rfl
          have hz := Lib.hid (show v2.heap.size < (v2.alloc (.cells #[.int .i64 0, .int .i64 0, .int .i64 0, .int .i64 0, .slice none 0 0] 40)).heap.size from by simp)
          obtain ⟨v3, hv⟩ : ∃ v, v = v2.alloc (.cells #[.int .i64 0, .int .i64 0, .int .i64 0, .int .i64 0, .slice none 0 0] 40) := ⟨_, rfl⟩
          rw [← hv] at hb hX hz hHeld hT
          rw [← hv]
          clear hv
          have B3 := Lib.hid (below_from hb B2.out B2.out.size)
          have N3 := Lib.hid (N2.out.past hb)
          have R3 := Lib.hid (R2.out.past hb)
          have Z3 := Lib.hid hb.size
          have TR3 := Lib.hid (TR2.out.past hb)
          have O3 := Lib.hid (O2.out.kept hb)
          have Y3 := Lib.hid (Y2.out.kept hb)
          have M3 := Lib.hid hX
          have TM3 := Lib.hid hT
          have ZLM := hz
          have LE3 := Lib.hid (Nat.le_trans LE2.out Z3.out)
          clear hb hX hz hT
          refine tr_op3 (by simp only [List.getElem?_toArray, List.getElem?_cons_succ, List.getElem?_cons_zero]; rfl) (fun K hK => ?_)
          go_wp2_with fail
          clear hHeld
          refine hK.out _ _ (N3.out.alloc (.cells #[.int .i64 0, .int .i64 0, .slice none 0 0, .slice none 0 0, .slice none 0 0, .slice none 0 0] 27)).cell (fun hHeld => ?_)
          clear hK K
          try simp only [Act.put, List.setIfInBounds_toArray, List.set_cons_zero, List.set_cons_succ]
          have hb := below_alloc1 v3 (.cells #[.int .i64 0, .int .i64 0, .slice none 0 0, .slice none 0 0, .slice none 0 0, .slice none 0 0] 27)
          have hX := Has.newAt v3 #[.int .i64 0, .int .i64 0, .slice none 0 0, .slice none 0 0, .slice none 0 0, .slice none 0 0] 27 (g := v3.heap.size) rfl
          have hT := HasT.newAt v3 #[.int .i64 0, .int .i64 0, .slice none 0 0, .slice none 0 0, .slice none 0 0, .slice none 0 0] 27 (g := v3.heap.size) rfl
          have hz := Lib.hid (show v3.heap.size < (v3.alloc (.cells #[.int .i64 0, .int .i64 0, .slice none 0 0, .slice none 0 0, .slice none 0 0, .slice none 0 0] 27)).heap.size from by simp)
          obtain ⟨v4, hv⟩ : ∃ v, v = v3.alloc (.cells #[.int .i64 0, .int .i64 0, .slice none 0 0, .slice none 0 0, .slice none 0 0, .slice none 0 0] 27) := ⟨_, rfl⟩
          rw [← hv] at hb hX hz hHeld hT
          rw [← hv]
          clear hv
          have B4 := Lib.hid (below_from hb B3.out B3.out.size)
          have N4 := Lib.hid (N3.out.past hb)
          have R4 := Lib.hid (R3.out.past hb)
          have Z4 := Lib.hid hb.size
          have TR4 := Lib.hid (TR3.out.past hb)
          have M4 := Lib.hid (M3.out.past hb)
          have O4 := Lib.hid (O3.out.kept hb)
          have Y4 := Lib.hid (Y3.out.kept hb)
          have X4 := Lib.hid hX
          have TX4 := Lib.hid hT
          have ZLX := hz
          have LE4 := Lib.hid (Nat.le_trans LE3.out Z4.out)
          clear hb hX hz hT
          have xc := X4.out.cell
          have xl := X4.out.lt
          have xf := X4.out.free
          have z1 := Z1.out
          have z2 := Z2.out
          have z3 := Z3.out
          have z4 := Z4.out
          have zx := ZLX.out
          have zm := ZLM.out
          have le := LE0.out
          have nex : w.heap.size ≠ v3.heap.size := by omega
          have nmx : v3.heap.size ≠ v2.heap.size := by omega
          refine tr_op3 (by simp only [List.getElem?_toArray, List.getElem?_cons_succ, List.getElem?_cons_zero]; rfl) (fun K hK => ?_)
          go_wp2_with fail
          have ST := setCells_grown (v3.heap.size) [.int .i64 q.now, .int .i64 q.next, .slice q.LA q.Ln q.Lc, .slice q.SA q.Sn q.Sc, .slice q.CA q.Cn q.Cc, .slice q.KA q.Kn q.Kc] 0 v4
          clear hHeld
          refine hK.out _ _ (show ∀ i, (v4.setCells (v3.heap.size) 0 [.int .i64 q.now, .int .i64 q.next, .slice q.LA q.Ln q.Lc, .slice q.SA q.Sn q.Sc, .slice q.CA q.Cn q.Cc, .slice q.KA q.Kn q.Kc]).cell? ⟨w.heap.size, i, none⟩ = _ from (N4.out.grown ST (by omega)).cell) (fun hHeld => ?_)
          clear hK K
          try simp only [Act.put, List.setIfInBounds_toArray, List.set_cons_zero, List.set_cons_succ]
          obtain ⟨v5, hv⟩ : ∃ v, v = ((((((v4.setCell ⟨v3.heap.size, 0, none⟩ (.int .i64 q.now)).setCell ⟨v3.heap.size, 1, none⟩ (.int .i64 q.next)).setCell ⟨v3.heap.size, 2, none⟩ (.slice q.LA q.Ln q.Lc)).setCell ⟨v3.heap.size, 3, none⟩ (.slice q.SA q.Sn q.Sc)).setCell ⟨v3.heap.size, 4, none⟩ (.slice q.CA q.Cn q.Cc)).setCell ⟨v3.heap.size, 5, none⟩ (.slice q.KA q.Kn q.Kc)) := ⟨_, rfl⟩
          rw [← hv]
          have ST : v4.grownBy v5 (some (v3.heap.size)) := by rw [hv]; exact ST
          have BX := B4.out.trans (grown_below ST B4.out.size (fun j hj => by injection hj with hj; omega))
          have XX : Has v5 (v3.heap.size) #[.int .i64 q.now, .int .i64 q.next, .slice q.LA q.Ln q.Lc, .slice q.SA q.Sn q.Sc, .slice q.CA q.Cn q.Cc, .slice q.KA q.Kn q.Kc] := by rw [hv]; exact X4.out.set [.int .i64 q.now, .int .i64 q.next, .slice q.LA q.Ln q.Lc, .slice q.SA q.Sn q.Sc, .slice q.CA q.Cn q.Cc, .slice q.KA q.Kn q.Kc] rfl
          have MX := M4.out.grown ST (by omega)
          have NX := N4.out.grown ST (by omega)
          have RX := R4.out.grown ST (by omega)
          have TXX : HasT v5 (v3.heap.size) 27 := by rw [hv]; exact TX4.out.set X4.out 0 [.int .i64 q.now, .int .i64 q.next, .slice q.LA q.Ln q.Lc, .slice q.SA q.Sn q.Sc, .slice q.CA q.Cn q.Cc, .slice q.KA q.Kn q.Kc] (by simp)
          have TRX := TR4.out.grown ST (fun e => by injection e with e; omega)
          have OX := O4.out.far ST QT.out (by omega) (fun a ha => mgK.below (HO.out.l.each a (by rw [← QL.out.L]; exact ha)) BX)
          have YX := (Y4.out.rown.apart ST (fun b hb e => by injection e with e; have := YT.out b hb; omega)).own (fun _ _ => trivial)
          have mc := MX.cell
          have ml := MX.lt
          have mf := MX.free
          clear hv hHeld xc xl xf
          refine tr_tail3 rfl ?_
          go_wp2_with fail
          go_meet
          have SM := setCells_grown (v2.heap.size) [.int .i64 (o.now + d), .int .i64 o.next, .int .i64 frm, .int .i64 dst, .slice A1 n c1] 0 v5
          refine ⟨v3.heap.size, v2.heap.size, q, A1, c1, rfl, rfl, Lib.hid ?_⟩
          have BY := BX.trans (grown_below SM BX.size (fun j hj => by injection hj with hj; omega))
          exact ⟨BY, NX.grown SM (by omega), RX.grown SM (by omega), XX.grown SM (by omega), MX.set [.int .i64 (o.now + d), .int .i64 o.next, .int .i64 frm, .int .i64 dst, .slice A1 n c1] rfl, by omega, by omega, by omega, QL.out, QA.out, TXX.grown SM (fun e => by injection e with e; omega), TRX.grown SM (fun e => by injection e with e; omega), OX.far SM QT.out (by omega) (fun a ha => mgK.below (HO.out.l.each a (by rw [← QL.out.L]; exact ha)) BY), (YX.rown.apart SM (fun b hb e => by injection e with e; have := YT.out b hb; omega)).own (fun _ _ => trivial), _, _, QT.out, by omega, by omega, fun b hb => by have := YT.out b hb; omega⟩
      · skip
        go_wp2_with fail
        clear hHeld
        refine hK.out _ _ (N1.out.alloc (.cells #[.int .i64 0, .int .i64 0, .slice none 0 0, .slice none 0 0, .slice none 0 0, .slice none 0 0] 27)).cell (fun hHeld => ?_)
        clear hK K
        try simp only [Act.put, List.setIfInBounds_toArray, List.set_cons_zero, List.set_cons_succ]
        have hb := below_alloc1 v1 (.cells #[.int .i64 0, .int .i64 0, .slice none 0 0, .slice none 0 0, .slice none 0 0, .slice none 0 0] 27)
        have hX := Has.newAt v1 #[.int .i64 0, .int .i64 0, .slice none 0 0, .slice none 0 0, .slice none 0 0, .slice none 0 0] 27 (g := v1.heap.size) rfl
        have hT := HasT.newAt v1 #[.int .i64 0, .int .i64 0, .slice none 0 0, .slice none 0 0, .slice none 0 0, .slice none 0 0] 27 (g := v1.heap.size) rfl
        have hz := Lib.hid (show v1.heap.size < (v1.alloc (.cells #[.int .i64 0, .int .i64 0, .slice none 0 0, .slice none 0 0, .slice none 0 0, .slice none 0 0] 27)).heap.size from by simp)
        obtain ⟨v2, hv⟩ : ∃ v, v = v1.alloc (.cells #[.int .i64 0, .int .i64 0, .slice none 0 0, .slice none 0 0, .slice none 0 0, .slice none 0 0] 27) := ⟨_, rfl⟩
        rw [← hv] at hb hX hz hHeld hT
        rw [← hv]
        clear hv
        have B2 := Lib.hid (below_from hb B1.out B1.out.size)
        have N2 := Lib.hid (N1.out.past hb)
        have R2 := Lib.hid (R1.out.past hb)
        have Z2 := Lib.hid hb.size
        have TR2 := Lib.hid (TR1.out.past hb)
        have O2 := Lib.hid (O1.out.kept hb)
        have X2 := Lib.hid hX
        have TX2 := Lib.hid hT
        have ZLX := hz
        have LE2 := Lib.hid (Nat.le_trans LE1.out Z2.out)
        clear hb hX hz hT
        refine tr_fork3 (by simp only [List.getElem?_toArray, List.getElem?_cons_succ, List.getElem?_cons_zero]; rfl) (by simp only [List.getElem?_toArray, List.getElem?_cons_succ, List.getElem?_cons_zero]; rfl) (fun K hK => ?_) (fun K hK => ?_)
        · skip
          go_wp2_with (go_at_call 42; refine (CL.out _ B2.out).mono ?_; rintro e v3 ⟨A1, c1, rfl, hO, hb⟩; have B3 := Lib.hid (below_from hb B2.out B2.out.size); have N3 := Lib.hid (N2.out.past hb); have R3 := Lib.hid (R2.out.past hb); have Z3 := Lib.hid hb.size; have TR3 := Lib.hid (TR2.out.past hb); have X3 := Lib.hid (X2.out.past hb); have TX3 := Lib.hid (TX2.out.past hb); have O3 := Lib.hid (O2.out.kept hb); have YT := Lib.hid hO.2.1.lt; have Y3 := Lib.hid (hO.base LE2.out); clear hO hb)
          clear hHeld
          refine hK.out _ _ N3.out.cell (fun hHeld => ?_)
          clear hK K
          try simp only [Act.put, List.setIfInBounds_toArray, List.set_cons_zero, List.set_cons_succ]
          have LE3 := Lib.hid (Nat.le_trans LE2.out Z3.out)
          refine tr_take3 (v := ?_) (by simp only [List.getElem?_toArray, List.getElem?_cons_succ, List.getElem?_cons_zero]; rfl) (Or.inl ⟨by rfl, ?_⟩) ?_
          rotate_left 1
          · intro w hSw
            try dsimp only at hSw
            go_simp
            try with_reducible rfl
          try simp only [Act.put, List.setIfInBounds_toArray, List.set_cons_zero, List.set_cons_succ]
          refine tr_op3 (by simp only [List.getElem?_toArray, List.getElem?_cons_succ, List.getElem?_cons_zero]; rfl) (fun K hK => ?_)
          go_wp2_with fail
          clear hHeld
          refine hK.out _ _ (N3.out.alloc (.cells #[.int .i64 0, .int .i64 0, .int .i64 0, .int .i64 0, .slice none 0 0] 40)).cell (fun hHeld => ?_)
          clear hK K
          try simp only [Act.put, List.setIfInBounds_toArray, List.set_cons_zero, List.set_cons_succ]
          have hb := below_alloc1 v3 (.cells #[.int .i64 0, .int .i64 0, .int .i64 0, .int .i64 0, .slice none 0 0] 40)
          have hX := Has.newAt v3 #[.int .i64 0, .int .i64 0, .int .i64 0, .int .i64 0, .slice none 0 0] 40 (g := v3.heap.size) rfl
          have hT := HasT.newAt v3 #[.int .i64 0, .int .i64 0, .int .i64 0, .int .i64 0, .slice none 0 0] 40 (g := v3.heap.size) rfl
          have hz := Lib.hid (show v3.heap.size < (v3.alloc (.cells #[.int .i64 0, .int .i64 0, .int .i64 0, .int .i64 0, .slice none 0 0] 40)).heap.size from by simp)
          obtain ⟨v4, hv⟩ : ∃ v, v = v3.alloc (.cells #[.int .i64 0, .int .i64 0, .int .i64 0, .int .i64 0, .slice none 0 0] 40) := ⟨_, rfl⟩
          rw [← hv] at hb hX hz hHeld hT
          rw [← hv]
          clear hv
          have B4 := Lib.hid (below_from hb B3.out B3.out.size)
          have N4 := Lib.hid (N3.out.past hb)
          have R4 := Lib.hid (R3.out.past hb)
          have Z4 := Lib.hid hb.size
          have TR4 := Lib.hid (TR3.out.past hb)
          have X4 := Lib.hid (X3.out.past hb)
          have TX4 := Lib.hid (TX3.out.past hb)
          have O4 := Lib.hid (O3.out.kept hb)
          have Y4 := Lib.hid (Y3.out.kept hb)
          have M4 := Lib.hid hX
          have TM4 := Lib.hid hT
          have ZLM := hz
          have LE4 := Lib.hid (Nat.le_trans LE3.out Z4.out)
          clear hb hX hz hT
          have xc := X4.out.cell
          have xl := X4.out.lt
          have xf := X4.out.free
          have z1 := Z1.out
          have z2 := Z2.out
          have z3 := Z3.out
          have z4 := Z4.out
          have zx := ZLX.out
          have zm := ZLM.out
          have le := LE0.out
          have nex : w.heap.size ≠ v1.heap.size := by omega
          have nmx : v1.heap.size ≠ v3.heap.size := by omega
          refine tr_op3 (by simp only [List.getElem?_toArray, List.getElem?_cons_succ, List.getElem?_cons_zero]; rfl) (fun K hK => ?_)
          go_wp2_with fail
          have ST := setCells_grown (v1.heap.size) [.int .i64 q.now, .int .i64 q.next, .slice q.LA q.Ln q.Lc, .slice q.SA q.Sn q.Sc, .slice q.CA q.Cn q.Cc, .slice q.KA q.Kn q.Kc] 0 v4
          clear hHeld
          refine hK.out _ _ (show ∀ i, (v4.setCells (v1.heap.size) 0 [.int .i64 q.now, .int .i64 q.next, .slice q.LA q.Ln q.Lc, .slice q.SA q.Sn q.Sc, .slice q.CA q.Cn q.Cc, .slice q.KA q.Kn q.Kc]).cell? ⟨w.heap.size, i, none⟩ = _ from (N4.out.grown ST (by omega)).cell) (fun hHeld => ?_)
          clear hK K
          try simp only [Act.put, List.setIfInBounds_toArray, List.set_cons_zero, List.set_cons_succ]
          obtain ⟨v5, hv⟩ : ∃ v, v = ((((((v4.setCell ⟨v1.heap.size, 0, none⟩ (.int .i64 q.now)).setCell ⟨v1.heap.size, 1, none⟩ (.int .i64 q.next)).setCell ⟨v1.heap.size, 2, none⟩ (.slice q.LA q.Ln q.Lc)).setCell ⟨v1.heap.size, 3, none⟩ (.slice q.SA q.Sn q.Sc)).setCell ⟨v1.heap.size, 4, none⟩ (.slice q.CA q.Cn q.Cc)).setCell ⟨v1.heap.size, 5, none⟩ (.slice q.KA q.Kn q.Kc)) := ⟨_, rfl⟩
          rw [← hv]
          have ST : v4.grownBy v5 (some (v1.heap.size)) := by rw [hv]; exact ST
          have BX := B4.out.trans (grown_below ST B4.out.size (fun j hj => by injection hj with hj; omega))
          have XX : Has v5 (v1.heap.size) #[.int .i64 q.now, .int .i64 q.next, .slice q.LA q.Ln q.Lc, .slice q.SA q.Sn q.Sc, .slice q.CA q.Cn q.Cc, .slice q.KA q.Kn q.Kc] := by rw [hv]; exact X4.out.set [.int .i64 q.now, .int .i64 q.next, .slice q.LA q.Ln q.Lc, .slice q.SA q.Sn q.Sc, .slice q.CA q.Cn q.Cc, .slice q.KA q.Kn q.Kc] rfl
          have MX := M4.out.grown ST (by omega)
          have NX := N4.out.grown ST (by omega)
          have RX := R4.out.grown ST (by omega)
          have TXX : HasT v5 (v1.heap.size) 27 := by rw [hv]; exact TX4.out.set X4.out 0 [.int .i64 q.now, .int .i64 q.next, .slice q.LA q.Ln q.Lc, .slice q.SA q.Sn q.Sc, .slice q.CA q.Cn q.Cc, .slice q.KA q.Kn q.Kc] (by simp)
          have TRX := TR4.out.grown ST (fun e => by injection e with e; omega)
          have OX := O4.out.far ST QT.out (by omega) (fun a ha => mgK.below (HO.out.l.each a (by rw [← QL.out.L]; exact ha)) BX)
          have YX := (Y4.out.rown.apart ST (fun b hb e => by injection e with e; have := YT.out b hb; omega)).own (fun _ _ => trivial)
          have mc := MX.cell
          have ml := MX.lt
          have mf := MX.free
          clear hv hHeld xc xl xf
          refine tr_tail3 rfl ?_
          go_wp2_with fail
          go_meet
          have SM := setCells_grown (v3.heap.size) [.int .i64 (o.now + d), .int .i64 o.next, .int .i64 frm, .int .i64 dst, .slice A1 n c1] 0 v5
          refine ⟨v1.heap.size, v3.heap.size, q, A1, c1, rfl, rfl, Lib.hid ?_⟩
          have BY := BX.trans (grown_below SM BX.size (fun j hj => by injection hj with hj; omega))
          exact ⟨BY, NX.grown SM (by omega), RX.grown SM (by omega), XX.grown SM (by omega), MX.set [.int .i64 (o.now + d), .int .i64 o.next, .int .i64 frm, .int .i64 dst, .slice A1 n c1] rfl, by omega, by omega, by omega, QL.out, QA.out, TXX.grown SM (fun e => by injection e with e; omega), TRX.grown SM (fun e => by injection e with e; omega), OX.far SM QT.out (by omega) (fun a ha => mgK.below (HO.out.l.each a (by rw [← QL.out.L]; exact ha)) BY), (YX.rown.apart SM (fun b hb e => by injection e with e; have := YT.out b hb; omega)).own (fun _ _ => trivial), _, _, QT.out, by omega, by omega, fun b hb => by have := YT.out b hb; omega⟩
        · skip
          go_wp2_with fail
          clear hHeld
          refine hK.out _ _ (N2.out.alloc (.cells #[.int .i64 0, .int .i64 0, .int .i64 0, .int .i64 0, .slice none 0 0] 40)).cell (fun hHeld => ?_)
          clear hK K
          try simp only [Act.put, List.setIfInBounds_toArray, List.set_cons_zero, List.set_cons_succ]
          have hb := below_alloc1 v2 (.cells #[.int .i64 0, .int .i64 0, .int .i64 0, .int .i64 0, .slice none 0 0] 40)
          have hX := Has.newAt v2 #[.int .i64 0, .int .i64 0, .int .i64 0, .int .i64 0, .slice none 0 0] 40 (g := v2.heap.size) rfl
          have hT := HasT.newAt v2 #[.int .i64 0, .int .i64 0, .int .i64 0, .int .i64 0, .slice none 0 0] 40 (g := v2.heap.size) rfl
          have hz := Lib.hid (show v2.heap.size < (v2.alloc (.cells #[.int .i64 0, .int .i64 0, .int .i64 0, .int .i64 0, .slice none 0 0] 40)).heap.size from by simp)
          obtain ⟨v3, hv⟩ : ∃ v, v = v2.alloc (.cells #[.int .i64 0, .int .i64 0, .int .i64 0, .int .i64 0, .slice none 0 0] 40) := ⟨_, rfl⟩
          rw [← hv] at hb hX hz hHeld hT
          rw [← hv]
          clear hv
          have B3 := Lib.hid (below_from hb B2.out B2.out.size)
          have N3 := Lib.hid (N2.out.past hb)
          have R3 := Lib.hid (R2.out.past hb)
          have Z3 := Lib.hid hb.size
          have TR3 := Lib.hid (TR2.out.past hb)
          have X3 := Lib.hid (X2.out.past hb)
          have TX3 := Lib.hid (TX2.out.past hb)
          have O3 := Lib.hid (O2.out.kept hb)
          have M3 := Lib.hid hX
          have TM3 := Lib.hid hT
          have ZLM := hz
          have LE3 := Lib.hid (Nat.le_trans LE2.out Z3.out)
          clear hb hX hz hT
          refine tr_op3 (by simp only [List.getElem?_toArray, List.getElem?_cons_succ, List.getElem?_cons_zero]; rfl) (fun K hK => ?_)
          go_wp2_with (go_at_call 42; refine (CL.out _ B3.out).mono ?_; rintro e v4 ⟨A1, c1, rfl, hO, hb⟩; have B4 := Lib.hid (below_from hb B3.out B3.out.size); have N4 := Lib.hid (N3.out.past hb); have R4 := Lib.hid (R3.out.past hb); have Z4 := Lib.hid hb.size; have TR4 := Lib.hid (TR3.out.past hb); have X4 := Lib.hid (X3.out.past hb); have TX4 := Lib.hid (TX3.out.past hb); have M4 := Lib.hid (M3.out.past hb); have O4 := Lib.hid (O3.out.kept hb); have YT := Lib.hid hO.2.1.lt; have Y4 := Lib.hid (hO.base LE3.out); clear hO hb)
          clear hHeld
          refine hK.out _ _ N4.out.cell (fun hHeld => ?_)
          clear hK K
          try simp only [Act.put, List.setIfInBounds_toArray, List.set_cons_zero, List.set_cons_succ]
          have LE4 := Lib.hid (Nat.le_trans LE3.out Z4.out)
          refine tr_take3 (v := ?_) (by simp only [List.getElem?_toArray, List.getElem?_cons_succ, List.getElem?_cons_zero]; rfl) (Or.inl ⟨by rfl, ?_⟩) ?_
          rotate_left 1
          · intro w hSw
            try dsimp only at hSw
            go_simp
            try with_reducible rfl
          try simp only [Act.put, List.setIfInBounds_toArray, List.set_cons_zero, List.set_cons_succ]
          have xc := X4.out.cell
          have xl := X4.out.lt
          have xf := X4.out.free
          have z1 := Z1.out
          have z2 := Z2.out
          have z3 := Z3.out
          have z4 := Z4.out
          have zx := ZLX.out
          have zm := ZLM.out
          have le := LE0.out
          have nex : w.heap.size ≠ v1.heap.size := by omega
          have nmx : v1.heap.size ≠ v2.heap.size := by omega
          refine tr_op3 (by simp only [List.getElem?_toArray, List.getElem?_cons_succ, List.getElem?_cons_zero]; rfl) (fun K hK => ?_)
          go_wp2_with fail
          have ST := setCells_grown (v1.heap.size) [.int .i64 q.now, .int .i64 q.next, .slice q.LA q.Ln q.Lc, .slice q.SA q.Sn q.Sc, .slice q.CA q.Cn q.Cc, .slice q.KA q.Kn q.Kc] 0 v4
          clear hHeld
          refine hK.out _ _ (show ∀ i, (v4.setCells (v1.heap.size) 0 [.int .i64 q.now, .int .i64 q.next, .slice q.LA q.Ln q.Lc, .slice q.SA q.Sn q.Sc, .slice q.CA q.Cn q.Cc, .slice q.KA q.Kn q.Kc]).cell? ⟨w.heap.size, i, none⟩ = _ from (N4.out.grown ST (by omega)).cell) (fun hHeld => ?_)
          clear hK K
          try simp only [Act.put, List.setIfInBounds_toArray, List.set_cons_zero, List.set_cons_succ]
          obtain ⟨v5, hv⟩ : ∃ v, v = ((((((v4.setCell ⟨v1.heap.size, 0, none⟩ (.int .i64 q.now)).setCell ⟨v1.heap.size, 1, none⟩ (.int .i64 q.next)).setCell ⟨v1.heap.size, 2, none⟩ (.slice q.LA q.Ln q.Lc)).setCell ⟨v1.heap.size, 3, none⟩ (.slice q.SA q.Sn q.Sc)).setCell ⟨v1.heap.size, 4, none⟩ (.slice q.CA q.Cn q.Cc)).setCell ⟨v1.heap.size, 5, none⟩ (.slice q.KA q.Kn q.Kc)) := ⟨_, rfl⟩
          rw [← hv]
          have ST : v4.grownBy v5 (some (v1.heap.size)) := by rw [hv]; exact ST
          have BX := B4.out.trans (grown_below ST B4.out.size (fun j hj => by injection hj with hj; omega))
          have XX : Has v5 (v1.heap.size) #[.int .i64 q.now, .int .i64 q.next, .slice q.LA q.Ln q.Lc, .slice q.SA q.Sn q.Sc, .slice q.CA q.Cn q.Cc, .slice q.KA q.Kn q.Kc] := by rw [hv]; exact X4.out.set [.int .i64 q.now, .int .i64 q.next, .slice q.LA q.Ln q.Lc, .slice q.SA q.Sn q.Sc, .slice q.CA q.Cn q.Cc, .slice q.KA q.Kn q.Kc] rfl
          have MX := M4.out.grown ST (by omega)
          have NX := N4.out.grown ST (by omega)
          have RX := R4.out.grown ST (by omega)
          have TXX : HasT v5 (v1.heap.size) 27 := by rw [hv]; exact TX4.out.set X4.out 0 [.int .i64 q.now, .int .i64 q.next, .slice q.LA q.Ln q.Lc, .slice q.SA q.Sn q.Sc, .slice q.CA q.Cn q.Cc, .slice q.KA q.Kn q.Kc] (by simp)
          have TRX := TR4.out.grown ST (fun e => by injection e with e; omega)
          have OX := O4.out.far ST QT.out (by omega) (fun a ha => mgK.below (HO.out.l.each a (by rw [← QL.out.L]; exact ha)) BX)
          have YX := (Y4.out.rown.apart ST (fun b hb e => by injection e with e; have := YT.out b hb; omega)).own (fun _ _ => trivial)
          have mc := MX.cell
          have ml := MX.lt
          have mf := MX.free
          clear hv hHeld xc xl xf
          refine tr_tail3 rfl ?_
          go_wp2_with fail
          go_meet
          have SM := setCells_grown (v2.heap.size) [.int .i64 (o.now + d), .int .i64 o.next, .int .i64 frm, .int .i64 dst, .slice A1 n c1] 0 v5
          refine ⟨v1.heap.size, v2.heap.size, q, A1, c1, rfl, rfl, Lib.hid ?_⟩
          have BY := BX.trans (grown_below SM BX.size (fun j hj => by injection hj with hj; omega))
          exact ⟨BY, NX.grown SM (by omega), RX.grown SM (by omega), XX.grown SM (by omega), MX.set [.int .i64 (o.now + d), .int .i64 o.next, .int .i64 frm, .int .i64 dst, .slice A1 n c1] rfl, by omega, by omega, by omega, QL.out, QA.out, TXX.grown SM (fun e => by injection e with e; omega), TRX.grown SM (fun e => by injection e with e; omega), OX.far SM QT.out (by omega) (fun a ha => mgK.below (HO.out.l.each a (by rw [← QL.out.L]; exact ha)) BY), (YX.rown.apart SM (fun b hb e => by injection e with e; have := YT.out b hb; omega)).own (fun _ _ => trivial), _, _, QT.out, by omega, by omega, fun b hb => by have := YT.out b hb; omega⟩
      · skip
        go_wp2_with fail
        clear hHeld
        refine hK.out _ _ (N1.out.alloc (.cells #[.int .i64 0, .int .i64 0, .int .i64 0, .int .i64 0, .slice none 0 0] 40)).cell (fun hHeld => ?_)
        clear hK K
        try simp only [Act.put, List.setIfInBounds_toArray, List.set_cons_zero, List.set_cons_succ]
        have hb := below_alloc1 v1 (.cells #[.int .i64 0, .int .i64 0, .int .i64 0, .int .i64 0, .slice none 0 0] 40)
        have hX := Has.newAt v1 #[.int .i64 0, .int .i64 0, .int .i64 0, .int .i64 0, .slice none 0 0] 40 (g := v1.heap.size) rfl
        have hT := HasT.newAt v1 #[.int .i64 0, .int .i64 0, .int .i64 0, .int .i64 0, .slice none 0 0] 40 (g := v1.heap.size) rfl
        have hz := Lib.hid (show v1.heap.size < (v1.alloc (.cells #[.int .i64 0, .int .i64 0, .int .i64 0, .int .i64 0, .slice none 0 0] 40)).heap.size from by simp)
        obtain ⟨v2, hv⟩ : ∃ v, v = v1.alloc (.cells #[.int .i64 0, .int .i64 0, .int .i64 0, .int .i64 0, .slice none 0 0] 40) := ⟨_, rfl⟩
        rw [← hv] at hb hX hz hHeld hT
        rw [← hv]
        clear hv
        have B2 := Lib.hid (below_from hb B1.out B1.out.size)
        have N2 := Lib.hid (N1.out.past hb)
        have R2 := Lib.hid (R1.out.past hb)
        have Z2 := Lib.hid hb.size
        have TR2 := Lib.hid (TR1.out.past hb)
        have O2 := Lib.hid (O1.out.kept hb)
        have M2 := Lib.hid hX
        have TM2 := Lib.hid hT
        have ZLM := hz
        have LE2 := Lib.hid (Nat.le_trans LE1.out Z2.out)
        clear hb hX hz hT
        refine tr_fork3 (by simp only [List.getElem?_toArray, List.getElem?_cons_succ, List.getElem?_cons_zero]; rfl) (by simp only [List.getElem?_toArray, List.getElem?_cons_succ, List.getElem?_cons_zero]; rfl) (fun K hK => ?_) (fun K hK => ?_)
        · skip
          go_wp2_with (go_at_call 42; refine (CL.out _ B2.out).mono ?_; rintro e v3 ⟨A1, c1, rfl, hO, hb⟩; have B3 := Lib.hid (below_from hb B2.out B2.out.size); have N3 := Lib.hid (N2.out.past hb); have R3 := Lib.hid (R2.out.past hb); have Z3 := Lib.hid hb.size; have TR3 := Lib.hid (TR2.out.past hb); have M3 := Lib.hid (M2.out.past hb); have O3 := Lib.hid (O2.out.kept hb); have YT := Lib.hid hO.2.1.lt; have Y3 := Lib.hid (hO.base LE2.out); clear hO hb)
          clear hHeld
          refine hK.out _ _ N3.out.cell (fun hHeld => ?_)
          clear hK K
          try simp only [Act.put, List.setIfInBounds_toArray, List.set_cons_zero, List.set_cons_succ]
          have LE3 := Lib.hid (Nat.le_trans LE2.out Z3.out)
          refine tr_take3 (v := ?_) (by simp only [List.getElem?_toArray, List.getElem?_cons_succ, List.getElem?_cons_zero]; rfl) (Or.inl ⟨by rfl, ?_⟩) ?_
          rotate_left 1
          · intro w hSw
            try dsimp only at hSw
            go_simp
            try with_reducible rfl
          try simp only [Act.put, List.setIfInBounds_toArray, List.set_cons_zero, List.set_cons_succ]
          refine tr_op3 (by simp only [List.getElem?_toArray, List.getElem?_cons_succ, List.getElem?_cons_zero]; rfl) (fun K hK => ?_)
          go_wp2_with fail
          clear hHeld
          refine hK.out _ _ (N3.out.alloc (.cells #[.int .i64 0, .int .i64 0, .slice none 0 0, .slice none 0 0, .slice none 0 0, .slice none 0 0] 27)).cell (fun hHeld => ?_)
          clear hK K
          try simp only [Act.put, List.setIfInBounds_toArray, List.set_cons_zero, List.set_cons_succ]
          have hb := below_alloc1 v3 (.cells #[.int .i64 0, .int .i64 0, .slice none 0 0, .slice none 0 0, .slice none 0 0, .slice none 0 0] 27)
          have hX := Has.newAt v3 #[.int .i64 0, .int .i64 0, .slice none 0 0, .slice none 0 0, .slice none 0 0, .slice none 0 0] 27 (g := v3.heap.size) rfl
          have hT := HasT.newAt v3 #[.int .i64 0, .int .i64 0, .slice none 0 0, .slice none 0 0, .slice none 0 0, .slice none 0 0] 27 (g := v3.heap.size) rfl
          have hz := Lib.hid (show v3.heap.size < (v3.alloc (.cells #[.int .i64 0, .int .i64 0, .slice none 0 0, .slice none 0 0, .slice none 0 0, .slice none 0 0] 27)).heap.size from by simp)
          obtain ⟨v4, hv⟩ : ∃ v, v = v3.alloc (.cells #[.int .i64 0, .int .i64 0, .slice none 0 0, .slice none 0 0, .slice none 0 0, .slice none 0 0] 27) := ⟨_, rfl⟩
          rw [← hv] at hb hX hz hHeld hT
          rw [← hv]
          clear hv
          have B4 := Lib.hid (below_from hb B3.out B3.out.size)
          have N4 := Lib.hid (N3.out.past hb)
          have R4 := Lib.hid (R3.out.past hb)
          have Z4 := Lib.hid hb.size
          have TR4 := Lib.hid (TR3.out.past hb)
          have M4 := Lib.hid (M3.out.past hb)
          have O4 := Lib.hid (O3.out.kept hb)
          have Y4 := Lib.hid (Y3.out.kept hb)
          have X4 := Lib.hid hX
          have TX4 := Lib.hid hT
          have ZLX := hz
          have LE4 := Lib.hid (Nat.le_trans LE3.out Z4.out)
          clear hb hX hz hT
          have xc := X4.out.cell
          have xl := X4.out.lt
          have xf := X4.out.free
          have z1 := Z1.out
          have z2 := Z2.out
          have z3 := Z3.out
          have z4 := Z4.out
          have zx := ZLX.out
          have zm := ZLM.out
          have le := LE0.out
          have nex : w.heap.size ≠ v3.heap.size := by omega
          have nmx : v3.heap.size ≠ v1.heap.size := by omega
          refine tr_op3 (by simp only [List.getElem?_toArray, List.getElem?_cons_succ, List.getElem?_cons_zero]; rfl) (fun K hK => ?_)
          go_wp2_with fail
          have ST := setCells_grown (v3.heap.size) [.int .i64 q.now, .int .i64 q.next, .slice q.LA q.Ln q.Lc, .slice q.SA q.Sn q.Sc, .slice q.CA q.Cn q.Cc, .slice q.KA q.Kn q.Kc] 0 v4
          clear hHeld
          refine hK.out _ _ (show ∀ i, (v4.setCells (v3.heap.size) 0 [.int .i64 q.now, .int .i64 q.next, .slice q.LA q.Ln q.Lc, .slice q.SA q.Sn q.Sc, .slice q.CA q.Cn q.Cc, .slice q.KA q.Kn q.Kc]).cell? ⟨w.heap.size, i, none⟩ = _ from (N4.out.grown ST (by omega)).cell) (fun hHeld => ?_)
          clear hK K
          try simp only [Act.put, List.setIfInBounds_toArray, List.set_cons_zero, List.set_cons_succ]
          obtain ⟨v5, hv⟩ : ∃ v, v = ((((((v4.setCell ⟨v3.heap.size, 0, none⟩ (.int .i64 q.now)).setCell ⟨v3.heap.size, 1, none⟩ (.int .i64 q.next)).setCell ⟨v3.heap.size, 2, none⟩ (.slice q.LA q.Ln q.Lc)).setCell ⟨v3.heap.size, 3, none⟩ (.slice q.SA q.Sn q.Sc)).setCell ⟨v3.heap.size, 4, none⟩ (.slice q.CA q.Cn q.Cc)).setCell ⟨v3.heap.size, 5, none⟩ (.slice q.KA q.Kn q.Kc)) := ⟨_, rfl⟩
          rw [← hv]
          have ST : v4.grownBy v5 (some (v3.heap.size)) := by rw [hv]; exact ST
          have BX := B4.out.trans (grown_below ST B4.out.size (fun j hj => by injection hj with hj; omega))
          have XX : Has v5 (v3.heap.size) #[.int .i64 q.now, .int .i64 q.next, .slice q.LA q.Ln q.Lc, .slice q.SA q.Sn q.Sc, .slice q.CA q.Cn q.Cc, .slice q.KA q.Kn q.Kc] := by rw [hv]; exact X4.out.set [.int .i64 q.now, .int .i64 q.next, .slice q.LA q.Ln q.Lc, .slice q.SA q.Sn q.Sc, .slice q.CA q.Cn q.Cc, .slice q.KA q.Kn q.Kc] rfl
          have MX := M4.out.grown ST (by omega)
          have NX := N4.out.grown ST (by omega)
          have RX := R4.out.grown ST (by omega)
          have TXX : HasT v5 (v3.heap.size) 27 := by rw [hv]; exact TX4.out.set X4.out 0 [.int .i64 q.now, .int .i64 q.next, .slice q.LA q.Ln q.Lc, .slice q.SA q.Sn q.Sc, .slice q.CA q.Cn q.Cc, .slice q.KA q.Kn q.Kc] (by simp)
          have TRX := TR4.out.grown ST (fun e => by injection e with e; omega)
          have OX := O4.out.far ST QT.out (by omega) (fun a ha => mgK.below (HO.out.l.each a (by rw [← QL.out.L]; exact ha)) BX)
          have YX := (Y4.out.rown.apart ST (fun b hb e => by injection e with e; have := YT.out b hb; omega)).own (fun _ _ => trivial)
          have mc := MX.cell
          have ml := MX.lt
          have mf := MX.free
          clear hv hHeld xc xl xf
          refine tr_tail3 rfl ?_
          go_wp2_with fail
          go_meet
          have SM := setCells_grown (v1.heap.size) [.int .i64 (o.now + d), .int .i64 o.next, .int .i64 frm, .int .i64 dst, .slice A1 n c1] 0 v5
          refine ⟨v3.heap.size, v1.heap.size, q, A1, c1, rfl, rfl, Lib.hid ?_⟩
          have BY := BX.trans (grown_below SM BX.size (fun j hj => by injection hj with hj; omega))
          exact ⟨BY, NX.grown SM (by omega), RX.grown SM (by omega), XX.grown SM (by omega), MX.set [.int .i64 (o.now + d), .int .i64 o.next, .int .i64 frm, .int .i64 dst, .slice A1 n c1] rfl, by omega, by omega, by omega, QL.out, QA.out, TXX.grown SM (fun e => by injection e with e; omega), TRX.grown SM (fun e => by injection e with e; omega), OX.far SM QT.out (by omega) (fun a ha => mgK.below (HO.out.l.each a (by rw [← QL.out.L]; exact ha)) BY), (YX.rown.apart SM (fun b hb e => by injection e with e; have := YT.out b hb; omega)).own (fun _ _ => trivial), _, _, QT.out, by omega, by omega, fun b hb => by have := YT.out b hb; omega⟩
        · skip
          go_wp2_with fail
          clear hHeld
          refine hK.out _ _ (N2.out.alloc (.cells #[.int .i64 0, .int .i64 0, .slice none 0 0, .slice none 0 0, .slice none 0 0, .slice none 0 0] 27)).cell (fun hHeld => ?_)
          clear hK K
          try simp only [Act.put, List.setIfInBounds_toArray, List.set_cons_zero, List.set_cons_succ]
          have hb := below_alloc1 v2 (.cells #[.int .i64 0, .int .i64 0, .slice none 0 0, .slice none 0 0, .slice none 0 0, .slice none 0 0] 27)
          have hX := Has.newAt v2 #[.int .i64 0, .int .i64 0, .slice none 0 0, .slice none 0 0, .slice none 0 0, .slice none 0 0] 27 (g := v2.heap.size) rfl
          have hT := HasT.newAt v2 #[.int .i64 0, .int .i64 0, .slice none 0 0, .slice none 0 0, .slice none 0 0, .slice none 0 0] 27 (g := v2.heap.size) rfl
          have hz := Lib.hid (show v2.heap.size < (v2.alloc (.cells #[.int .i64 0, .int .i64 0, .slice none 0 0, .slice none 0 0, .slice none 0 0, .slice none 0 0] 27)).heap.size from by simp)
          obtain ⟨v3, hv⟩ : ∃ v, v = v2.alloc (.cells #[.int .i64 0, .int .i64 0, .slice none 0 0, .slice none 0 0, .slice none 0 0, .slice none 0 0] 27) := ⟨_, rfl⟩
          rw [← hv] at hb hX hz hHeld hT
          rw [← hv]
          clear hv
          have B3 := Lib.hid (below_from hb B2.out B2.out.size)
          have N3 := Lib.hid (N2.out.past hb)
          have R3 := Lib.hid (R2.out.past hb)
          have Z3 := Lib.hid hb.size
          have TR3 := Lib.hid (TR2.out.past hb)
          have M3 := Lib.hid (M2.out.past hb)
          have O3 := Lib.hid (O2.out.kept hb)
          have X3 := Lib.hid hX
          have TX3 := Lib.hid hT
          have ZLX := hz
          have LE3 := Lib.hid (Nat.le_trans LE2.out Z3.out)
          clear hb hX hz hT
          refine tr_op3 (by simp only [List.getElem?_toArray, List.getElem?_cons_succ, List.getElem?_cons_zero]; rfl) (fun K hK => ?_)
          go_wp2_with (go_at_call 42; refine (CL.out _ B3.out).mono ?_; rintro e v4 ⟨A1, c1, rfl, hO, hb⟩; have B4 := Lib.hid (below_from hb B3.out B3.out.size); have N4 := Lib.hid (N3.out.past hb); have R4 := Lib.hid (R3.out.past hb); have Z4 := Lib.hid hb.size; have TR4 := Lib.hid (TR3.out.past hb); have X4 := Lib.hid (X3.out.past hb); have TX4 := Lib.hid (TX3.out.past hb); have M4 := Lib.hid (M3.out.past hb); have O4 := Lib.hid (O3.out.kept hb); have YT := Lib.hid hO.2.1.lt; have Y4 := Lib.hid (hO.base LE3.out); clear hO hb)
          clear hHeld
          refine hK.out _ _ N4.out.cell (fun hHeld => ?_)
          clear hK K
          try simp only [Act.put, List.setIfInBounds_toArray, List.set_cons_zero, List.set_cons_succ]
          have LE4 := Lib.hid (Nat.le_trans LE3.out Z4.out)
          refine tr_take3 (v := ?_) (by simp only [List.getElem?_toArray, List.getElem?_cons_succ, List.getElem?_cons_zero]; rfl) (Or.inl ⟨by rfl, ?_⟩) ?_
          rotate_left 1
          · intro w hSw
            try dsimp only at hSw
            go_simp
            try with_reducible rfl
          try simp only [Act.put, List.setIfInBounds_toArray, List.set_cons_zero, List.set_cons_succ]
          have xc := X4.out.cell
          have xl := X4.out.lt
          have xf := X4.out.free
          have z1 := Z1.out
          have z2 := Z2.out
          have z3 := Z3.out
          have z4 := Z4.out
          have zx := ZLX.out
          have zm := ZLM.out
          have le := LE0.out
          have nex : w.heap.size ≠ v2.heap.size := by omega
          have nmx : v2.heap.size ≠ v1.heap.size := by omega
          refine tr_op3 (by simp only [List.getElem?_toArray, List.getElem?_cons_succ, List.getElem?_cons_zero]; rfl) (fun K hK => ?_)
          go_wp2_with fail
          have ST := setCells_grown (v2.heap.size) [.int .i64 q.now, .int .i64 q.next, .slice q.LA q.Ln q.Lc, .slice q.SA q.Sn q.Sc, .slice q.CA q.Cn q.Cc, .slice q.KA q.Kn q.Kc] 0 v4
          clear hHeld
          refine hK.out _ _ (show ∀ i, (v4.setCells (v2.heap.size) 0 [.int .i64 q.now, .int .i64 q.next, .slice q.LA q.Ln q.Lc, .slice q.SA q.Sn q.Sc, .slice q.CA q.Cn q.Cc, .slice q.KA q.Kn q.Kc]).cell? ⟨w.heap.size, i, none⟩ = _ from (N4.out.grown ST (by omega)).cell) (fun hHeld => ?_)
          clear hK K
          try simp only [Act.put, List.setIfInBounds_toArray, List.set_cons_zero, List.set_cons_succ]
          obtain ⟨v5, hv⟩ : ∃ v, v = ((((((v4.setCell ⟨v2.heap.size, 0, none⟩ (.int .i64 q.now)).setCell ⟨v2.heap.size, 1, none⟩ (.int .i64 q.next)).setCell ⟨v2.heap.size, 2, none⟩ (.slice q.LA q.Ln q.Lc)).setCell ⟨v2.heap.size, 3, none⟩ (.slice q.SA q.Sn q.Sc)).setCell ⟨v2.heap.size, 4, none⟩ (.slice q.CA q.Cn q.Cc)).setCell ⟨v2.heap.size, 5, none⟩ (.slice q.KA q.Kn q.Kc)) := ⟨_, rfl⟩
          rw [← hv]
          have ST : v4.grownBy v5 (some (v2.heap.size)) := by rw [hv]; exact ST
          have BX := B4.out.trans (grown_below ST B4.out.size (fun j hj => by injection hj with hj; omega))
          have XX : Has v5 (v2.heap.size) #[.int .i64 q.now, .int .i64 q.next, .slice q.LA q.Ln q.Lc, .slice q.SA q.Sn q.Sc, .slice q.CA q.Cn q.Cc, .slice q.KA q.Kn q.Kc] := by rw [hv]; exact X4.out.set [.int .i64 q.now, .int .i64 q.next, .slice q.LA q.Ln q.Lc, .slice q.SA q.Sn q.Sc, .slice q.CA q.Cn q.Cc, .slice q.KA q.Kn q.Kc] rfl
          have MX := M4.out.grown ST (by omega)
          have NX := N4.out.grown ST (by omega)
          have RX := R4.out.grown ST (by omega)
          have TXX : HasT v5 (v2.heap.size) 27 := by rw [hv]; exact TX4.out.set X4.out 0 [.int .i64 q.now, .int .i64 q.next, .slice q.LA q.Ln q.Lc, .slice q.SA q.Sn q.Sc, .slice q.CA q.Cn q.Cc, .slice q.KA q.Kn q.Kc] (by simp)
          have TRX := TR4.out.grown ST (fun e => by injection e with e; omega)
          have OX := O4.out.far ST QT.out (by omega) (fun a ha => mgK.below (HO.out.l.each a (by rw [← QL.out.L]; exact ha)) BX)
          have YX := (Y4.out.rown.apart ST (fun b hb e => by injection e with e; have := YT.out b hb; omega)).own (fun _ _ => trivial)
          have mc := MX.cell
          have ml := MX.lt
          have mf := MX.free
          clear hv hHeld xc xl xf
          refine tr_tail3 rfl ?_
          go_wp2_with fail
          go_meet
          have SM := setCells_grown (v1.heap.size) [.int .i64 (o.now + d), .int .i64 o.next, .int .i64 frm, .int .i64 dst, .slice A1 n c1] 0 v5
          refine ⟨v2.heap.size, v1.heap.size, q, A1, c1, rfl, rfl, Lib.hid ?_⟩
          have BY := BX.trans (grown_below SM BX.size (fun j hj => by injection hj with hj; omega))
          exact ⟨BY, NX.grown SM (by omega), RX.grown SM (by omega), XX.grown SM (by omega), MX.set [.int .i64 (o.now + d), .int .i64 o.next, .int .i64 frm, .int .i64 dst, .slice A1 n c1] rfl, by omega, by omega, by omega, QL.out, QA.out, TXX.grown SM (fun e => by injection e with e; omega), TRX.grown SM (fun e => by injection e with e; omega), OX.far SM QT.out (by omega) (fun a ha => mgK.below (HO.out.l.each a (by rw [← QL.out.L]; exact ha)) BY), (YX.rown.apart SM (fun b hb e => by injection e with e; have := YT.out b hb; omega)).own (fun _ _ => trivial), _, _, QT.out, by omega, by omega, fun b hb => by have := YT.out b hb; omega⟩
    · skip
      go_wp2_with fail
      clear hHeld
      refine hK.out _ _ (N0.out.alloc (.cells #[.int .i64 0, .int .i64 0, .slice none 0 0, .slice none 0 0, .slice none 0 0, .slice none 0 0] 27)).cell (fun hHeld => ?_)
      clear hK K
      try simp only [Act.put, List.setIfInBounds_toArray, List.set_cons_zero, List.set_cons_succ]
      have hb := below_alloc1 v0 (.cells #[.int .i64 0, .int .i64 0, .slice none 0 0, .slice none 0 0, .slice none 0 0, .slice none 0 0] 27)
      have hX := Has.newAt v0 #[.int .i64 0, .int .i64 0, .slice none 0 0, .slice none 0 0, .slice none 0 0, .slice none 0 0] 27 (g := v0.heap.size) rfl
      have hT := HasT.newAt v0 #[.int .i64 0, .int .i64 0, .slice none 0 0, .slice none 0 0, .slice none 0 0, .slice none 0 0] 27 (g := v0.heap.size) rfl
      have hz := Lib.hid (show v0.heap.size < (v0.alloc (.cells #[.int .i64 0, .int .i64 0, .slice none 0 0, .slice none 0 0, .slice none 0 0, .slice none 0 0] 27)).heap.size from by simp)
      obtain ⟨v1, hv⟩ : ∃ v, v = v0.alloc (.cells #[.int .i64 0, .int .i64 0, .slice none 0 0, .slice none 0 0, .slice none 0 0, .slice none 0 0] 27) := ⟨_, rfl⟩
      rw [← hv] at hb hX hz hHeld hT
      rw [← hv]
      clear hv
      have B1 := Lib.hid (below_from hb B0.out B0.out.size)
      have N1 := Lib.hid (N0.out.past hb)
      have R1 := Lib.hid (R0.out.past hb)
      have Z1 := Lib.hid hb.size
      have TR1 := Lib.hid (TR0.out.past hb)
      have X1 := Lib.hid hX
      have TX1 := Lib.hid hT
      have ZLX := hz
      have LE1 := Lib.hid (Nat.le_trans LE0.out Z1.out)
      clear hb hX hz hT
      refine tr_fork3 (by simp only [List.getElem?_toArray, List.getElem?_cons_succ, List.getElem?_cons_zero]; rfl) (by simp only [List.getElem?_toArray, List.getElem?_cons_succ, List.getElem?_cons_zero]; rfl) (fun K hK => ?_) (fun K hK => ?_)
      · skip
        go_wp2_with (go_at_call 33; refine (OW.out _ B1.out).mono ?_; rintro e v2 ⟨q, rfl, hL, hO, hA, hb⟩; have B2 := Lib.hid (below_from hb B1.out B1.out.size); have N2 := Lib.hid (N1.out.past hb); have R2 := Lib.hid (R1.out.past hb); have Z2 := Lib.hid hb.size; have TR2 := Lib.hid (TR1.out.past hb); have X2 := Lib.hid (X1.out.past hb); have TX2 := Lib.hid (TX1.out.past hb); have QA := Lib.hid hA; have QL := Lib.hid hL; have QT := Lib.hid hO.btw; have O2 := Lib.hid (hO.base (show w.heap.size + 2 ≤ v1.heap.size from LE1.out)); clear hL hO hA hb)
        clear hHeld
        refine hK.out _ _ N2.out.cell (fun hHeld => ?_)
        clear hK K
        try simp only [Act.put, List.setIfInBounds_toArray, List.set_cons_zero, List.set_cons_succ]
        have LE2 := Lib.hid (Nat.le_trans LE1.out Z2.out)
        refine tr_fork3 (by simp only [List.getElem?_toArray, List.getElem?_cons_succ, List.getElem?_cons_zero]; rfl) (by simp only [List.getElem?_toArray, List.getElem?_cons_succ, List.getElem?_cons_zero]; rfl) (fun K hK => ?_) (fun K hK => ?_)
        · skip
          go_wp2_with (go_at_call 42; refine (CL.out _ B2.out).mono ?_; rintro e v3 ⟨A1, c1, rfl, hO, hb⟩; have B3 := Lib.hid (below_from hb B2.out B2.out.size); have N3 := Lib.hid (N2.out.past hb); have R3 := Lib.hid (R2.out.past hb); have Z3 := Lib.hid hb.size; have TR3 := Lib.hid (TR2.out.past hb); have X3 := Lib.hid (X2.out.past hb); have TX3 := Lib.hid (TX2.out.past hb); have O3 := Lib.hid (O2.out.kept hb); have YT := Lib.hid hO.2.1.lt; have Y3 := Lib.hid (hO.base LE2.out); clear hO hb)
          clear hHeld
          refine hK.out _ _ N3.out.cell (fun hHeld => ?_)
          clear hK K
          try simp only [Act.put, List.setIfInBounds_toArray, List.set_cons_zero, List.set_cons_succ]
          have LE3 := Lib.hid (Nat.le_trans LE2.out Z3.out)
          refine tr_take3 (v := ?_) (by simp only [List.getElem?_toArray, List.getElem?_cons_succ, List.getElem?_cons_zero]; rfl) (Or.inl ⟨by rfl, ?_⟩) ?_
          rotate_left 1
          · intro w hSw
            try dsimp only at hSw
            go_simp
            try with_reducible rfl
          try simp only [Act.put, List.setIfInBounds_toArray, List.set_cons_zero, List.set_cons_succ]
          refine tr_op3 (by simp only [List.getElem?_toArray, List.getElem?_cons_succ, List.getElem?_cons_zero]; rfl) (fun K hK => ?_)
          go_wp2_with fail
          clear hHeld
          refine hK.out _ _ (N3.out.alloc (.cells #[.int .i64 0, .int .i64 0, .int .i64 0, .int .i64 0, .slice none 0 0] 40)).cell (fun hHeld => ?_)
          clear hK K
          try simp only [Act.put, List.setIfInBounds_toArray, List.set_cons_zero, List.set_cons_succ]
          have hb := below_alloc1 v3 (.cells #[.int .i64 0, .int .i64 0, .int .i64 0, .int .i64 0, .slice none 0 0] 40)
          have hX := Has.newAt v3 #[.int .i64 0, .int .i64 0, .int .i64 0, .int .i64 0, .slice none 0 0] 40 (g := v3.heap.size) rfl
          have hT := HasT.newAt v3 #[.int .i64 0, .int .i64 0, .int .i64 0, .int .i64 0, .slice none 0 0] 40 (g := v3.heap.size) rfl
          have hz := Lib.hid (show v3.heap.size < (v3.alloc (.cells #[.int .i64 0, .int .i64 0, .int .i64 0, .int .i64 0, .slice none 0 0] 40)).heap.size from by simp)
          obtain ⟨v4, hv⟩ : ∃ v, v = v3.alloc (.cells #[.int .i64 0, .int .i64 0, .int .i64 0, .int .i64 0, .slice none 0 0] 40) := ⟨_, rfl⟩
          rw [← hv] at hb hX hz hHeld hT
          rw [← hv]
          clear hv
          have B4 := Lib.hid (below_from hb B3.out B3.out.size)
          have N4 := Lib.hid (N3.out.past hb)
          have R4 := Lib.hid (R3.out.past hb)
          have Z4 := Lib.hid hb.size
          have TR4 := Lib.hid (TR3.out.past hb)
          have X4 := Lib.hid (X3.out.past hb)
          have TX4 := Lib.hid (TX3.out.past hb)
          have O4 := Lib.hid (O3.out.kept hb)
          have Y4 := Lib.hid (Y3.out.kept hb)
          have M4 := Lib.hid hX
          have TM4 := Lib.hid hT
          have ZLM := hz
          have LE4 := Lib.hid (Nat.le_trans LE3.out Z4.out)
          clear hb hX hz hT
          have xc := X4.out.cell
          have xl := X4.out.lt
          have xf := X4.out.free
          have z1 := Z1.out
          have z2 := Z2.out
          have z3 := Z3.out
          have z4 := Z4.out
          have zx := ZLX.out
          have zm := ZLM.out
          have le := LE0.out
          have nex : w.heap.size ≠ v0.heap.size := by omega
          have nmx : v0.heap.size ≠ v3.heap.size := by omega
          refine tr_op3 (by simp only [List.getElem?_toArray, List.getElem?_cons_succ, List.getElem?_cons_zero]; rfl) (fun K hK => ?_)
          go_wp2_with fail
          have ST := setCells_grown (v0.heap.size) [.int .i64 q.now, .int .i64 q.next, .slice q.LA q.Ln q.Lc, .slice q.SA q.Sn q.Sc, .slice q.CA q.Cn q.Cc, .slice q.KA q.Kn q.Kc] 0 v4
          clear hHeld
          refine hK.out _ _ (show ∀ i, (v4.setCells (v0.heap.size) 0 [.int .i64 q.now, .int .i64 q.next, .slice q.LA q.Ln q.Lc, .slice q.SA q.Sn q.Sc, .slice q.CA q.Cn q.Cc, .slice q.KA q.Kn q.Kc]).cell? ⟨w.heap.size, i, none⟩ = _ from (N4.out.grown ST (by omega)).cell) (fun hHeld => ?_)
          clear hK K
          try simp only [Act.put, List.setIfInBounds_toArray, List.set_cons_zero, List.set_cons_succ]
          obtain ⟨v5, hv⟩ : ∃ v, v = ((((((v4.setCell ⟨v0.heap.size, 0, none⟩ (.int .i64 q.now)).setCell ⟨v0.heap.size, 1, none⟩ (.int .i64 q.next)).setCell ⟨v0.heap.size, 2, none⟩ (.slice q.LA q.Ln q.Lc)).setCell ⟨v0.heap.size, 3, none⟩ (.slice q.SA q.Sn q.Sc)).setCell ⟨v0.heap.size, 4, none⟩ (.slice q.CA q.Cn q.Cc)).setCell ⟨v0.heap.size, 5, none⟩ (.slice q.KA q.Kn q.Kc)) := ⟨_, rfl⟩
          rw [← hv]
          have ST : v4.grownBy v5 (some (v0.heap.size)) := by rw [hv]; exact ST
          have BX := B4.out.trans (grown_below ST B4.out.size (fun j hj => by injection hj with hj; omega))
          have XX : Has v5 (v0.heap.size) #[.int .i64 q.now, .int .i64 q.next, .slice q.LA q.Ln q.Lc, .slice q.SA q.Sn q.Sc, .slice q.CA q.Cn q.Cc, .slice q.KA q.Kn q.Kc] := by rw [hv]; exact X4.out.set [.int .i64 q.now, .int .i64 q.next, .slice q.LA q.Ln q.Lc, .slice q.SA q.Sn q.Sc, .slice q.CA q.Cn q.Cc, .slice q.KA q.Kn q.Kc] rfl
          have MX := M4.out.grown ST (by omega)
          have NX := N4.out.grown ST (by omega)
          have RX := R4.out.grown ST (by omega)
          have TXX : HasT v5 (v0.heap.size) 27 := by rw [hv]; exact TX4.out.set X4.out 0 [.int .i64 q.now, .int .i64 q.next, .slice q.LA q.Ln q.Lc, .slice q.SA q.Sn q.Sc, .slice q.CA q.Cn q.Cc, .slice q.KA q.Kn q.Kc] (by simp)
          have TRX := TR4.out.grown ST (fun e => by injection e with e; omega)
          have OX := O4.out.far ST QT.out (by omega) (fun a ha => mgK.below (HO.out.l.each a (by rw [← QL.out.L]; exact ha)) BX)
          have YX := (Y4.out.rown.apart ST (fun b hb e => by injection e with e; have := YT.out b hb; omega)).own (fun _ _ => trivial)
          have mc := MX.cell
          have ml := MX.lt
          have mf := MX.free
          clear hv hHeld xc xl xf
          refine tr_tail3 rfl ?_
          go_wp2_with fail
          go_meet
          have SM := setCells_grown (v3.heap.size) [.int .i64 (o.now + d), .int .i64 o.next, .int .i64 frm, .int .i64 dst, .slice A1 n c1] 0 v5
          refine ⟨v0.heap.size, v3.heap.size, q, A1, c1, rfl, rfl, Lib.hid ?_⟩
          have BY := BX.trans (grown_below SM BX.size (fun j hj => by injection hj with hj; omega))
          exact ⟨BY, NX.grown SM (by omega), RX.grown SM (by omega), XX.grown SM (by omega), MX.set [.int .i64 (o.now + d), .int .i64 o.next, .int .i64 frm, .int .i64 dst, .slice A1 n c1] rfl, by omega, by omega, by omega, QL.out, QA.out, TXX.grown SM (fun e => by injection e with e; omega), TRX.grown SM (fun e => by injection e with e; omega), OX.far SM QT.out (by omega) (fun a ha => mgK.below (HO.out.l.each a (by rw [← QL.out.L]; exact ha)) BY), (YX.rown.apart SM (fun b hb e => by injection e with e; have := YT.out b hb; omega)).own (fun _ _ => trivial), _, _, QT.out, by omega, by omega, fun b hb => by have := YT.out b hb; omega⟩
        · skip
          go_wp2_with fail
          clear hHeld
          refine hK.out _ _ (N2.out.alloc (.cells #[.int .i64 0, .int .i64 0, .int .i64 0, .int .i64 0, .slice none 0 0] 40)).cell (fun hHeld => ?_)
          clear hK K
          try simp only [Act.put, List.setIfInBounds_toArray, List.set_cons_zero, List.set_cons_succ]
          have hb := below_alloc1 v2 (.cells #[.int .i64 0, .int .i64 0, .int .i64 0, .int .i64 0, .slice none 0 0] 40)
          have hX := Has.newAt v2 #[.int .i64 0, .int .i64 0, .int .i64 0, .int .i64 0, .slice none 0 0] 40 (g := v2.heap.size) rfl
          have hT := HasT.newAt v2 #[.int .i64 0, .int .i64 0, .int .i64 0, .int .i64 0, .slice none 0 0] 40 (g := v2.heap.size) rfl
          have hz := Lib.hid (show v2.heap.size < (v2.alloc (.cells #[.int .i64 0, .int .i64 0, .int .i64 0, .int .i64 0, .slice none 0 0] 40)).heap.size from by simp)
          obtain ⟨v3, hv⟩ : ∃ v, v = v2.alloc (.cells #[.int .i64 0, .int .i64 0, .int .i64 0, .int .i64 0, .slice none 0 0] 40) := ⟨_, rfl⟩
          rw [← hv] at hb hX hz hHeld hT
          rw [← hv]
          clear hv
          have B3 := Lib.hid (below_from hb B2.out B2.out.size)
          have N3 := Lib.hid (N2.out.past hb)
          have R3 := Lib.hid (R2.out.past hb)
          have Z3 := Lib.hid hb.size
          have TR3 := Lib.hid (TR2.out.past hb)
          have X3 := Lib.hid (X2.out.past hb)
          have TX3 := Lib.hid (TX2.out.past hb)
          have O3 := Lib.hid (O2.out.kept hb)
          have M3 := Lib.hid hX
          have TM3 := Lib.hid hT
          have ZLM := hz
          have LE3 := Lib.hid (Nat.le_trans LE2.out Z3.out)
          clear hb hX hz hT
          refine tr_op3 (by simp only [List.getElem?_toArray, List.getElem?_cons_succ, List.getElem?_cons_zero]; rfl) (fun K hK => ?_)
          go_wp2_with (go_at_call 42; refine (CL.out _ B3.out).mono ?_; rintro e v4 ⟨A1, c1, rfl, hO, hb⟩; have B4 := Lib.hid (below_from hb B3.out B3.out.size); have N4 := Lib.hid (N3.out.past hb); have R4 := Lib.hid (R3.out.past hb); have Z4 := Lib.hid hb.size; have TR4 := Lib.hid (TR3.out.past hb); have X4 := Lib.hid (X3.out.past hb); have TX4 := Lib.hid (TX3.out.past hb); have M4 := Lib.hid (M3.out.past hb); have O4 := Lib.hid (O3.out.kept hb); have YT := Lib.hid hO.2.1.lt; have Y4 := Lib.hid (hO.base LE3.out); clear hO hb)
          clear hHeld
          refine hK.out _ _ N4.out.cell (fun hHeld => ?_)
          clear hK K
          try simp only [Act.put, List.setIfInBounds_toArray, List.set_cons_zero, List.set_cons_succ]
          have LE4 := Lib.hid (Nat.le_trans LE3.out Z4.out)
          refine tr_take3 (v := ?_) (by simp only [List.getElem?_toArray, List.getElem?_cons_succ, List.getElem?_cons_zero]; rfl) (Or.inl ⟨by rfl, ?_⟩) ?_
          rotate_left 1
          · intro w hSw
            try dsimp only at hSw
            go_simp
            try with_reducible rfl
          try simp only [Act.put, List.setIfInBounds_toArray, List.set_cons_zero, List.set_cons_succ]
          have xc := X4.out.cell
          have xl := X4.out.lt
          have xf := X4.out.free
          have z1 := Z1.out
          have z2 := Z2.out
          have z3 := Z3.out
          have z4 := Z4.out
          have zx := ZLX.out
          have zm := ZLM.out
          have le := LE0.out
          have nex : w.heap.size ≠ v0.heap.size := by omega
          have nmx : v0.heap.size ≠ v2.heap.size := by omega
          refine tr_op3 (by simp only [List.getElem?_toArray, List.getElem?_cons_succ, List.getElem?_cons_zero]; rfl) (fun K hK => ?_)
          go_wp2_with fail
          have ST := setCells_grown (v0.heap.size) [.int .i64 q.now, .int .i64 q.next, .slice q.LA q.Ln q.Lc, .slice q.SA q.Sn q.Sc, .slice q.CA q.Cn q.Cc, .slice q.KA q.Kn q.Kc] 0 v4
          clear hHeld
          refine hK.out _ _ (show ∀ i, (v4.setCells (v0.heap.size) 0 [.int .i64 q.now, .int .i64 q.next, .slice q.LA q.Ln q.Lc, .slice q.SA q.Sn q.Sc, .slice q.CA q.Cn q.Cc, .slice q.KA q.Kn q.Kc]).cell? ⟨w.heap.size, i, none⟩ = _ from (N4.out.grown ST (by omega)).cell) (fun hHeld => ?_)
          clear hK K
          try simp only [Act.put, List.setIfInBounds_toArray, List.set_cons_zero, List.set_cons_succ]
          obtain ⟨v5, hv⟩ : ∃ v, v = ((((((v4.setCell ⟨v0.heap.size, 0, none⟩ (.int .i64 q.now)).setCell ⟨v0.heap.size, 1, none⟩ (.int .i64 q.next)).setCell ⟨v0.heap.size, 2, none⟩ (.slice q.LA q.Ln q.Lc)).setCell ⟨v0.heap.size, 3, none⟩ (.slice q.SA q.Sn q.Sc)).setCell ⟨v0.heap.size, 4, none⟩ (.slice q.CA q.Cn q.Cc)).setCell ⟨v0.heap.size, 5, none⟩ (.slice q.KA q.Kn q.Kc)) := ⟨_, rfl⟩
          rw [← hv]
          have ST : v4.grownBy v5 (some (v0.heap.size)) := by rw [hv]; exact ST
          have BX := B4.out.trans (grown_below ST B4.out.size (fun j hj => by injection hj with hj; omega))
          have XX : Has v5 (v0.heap.size) #[.int .i64 q.now, .int .i64 q.next, .slice q.LA q.Ln q.Lc, .slice q.SA q.Sn q.Sc, .slice q.CA q.Cn q.Cc, .slice q.KA q.Kn q.Kc] := by rw [hv]; exact X4.out.set [.int .i64 q.now, .int .i64 q.next, .slice q.LA q.Ln q.Lc, .slice q.SA q.Sn q.Sc, .slice q.CA q.Cn q.Cc, .slice q.KA q.Kn q.Kc] rfl
          have MX := M4.out.grown ST (by omega)
          have NX := N4.out.grown ST (by omega)
          have RX := R4.out.grown ST (by omega)
          have TXX : HasT v5 (v0.heap.size) 27 := by rw [hv]; exact TX4.out.set X4.out 0 [.int .i64 q.now, .int .i64 q.next, .slice q.LA q.Ln q.Lc, .slice q.SA q.Sn q.Sc, .slice q.CA q.Cn q.Cc, .slice q.KA q.Kn q.Kc] (by simp)
          have TRX := TR4.out.grown ST (fun e => by injection e with e; omega)
          have OX := O4.out.far ST QT.out (by omega) (fun a ha => mgK.below (HO.out.l.each a (by rw [← QL.out.L]; exact ha)) BX)
          have YX := (Y4.out.rown.apart ST (fun b hb e => by injection e with e; have := YT.out b hb; omega)).own (fun _ _ => trivial)
          have mc := MX.cell
          have ml := MX.lt
          have mf := MX.free
          clear hv hHeld xc xl xf
          refine tr_tail3 rfl ?_
          go_wp2_with fail
          go_meet
          have SM := setCells_grown (v2.heap.size) [.int .i64 (o.now + d), .int .i64 o.next, .int .i64 frm, .int .i64 dst, .slice A1 n c1] 0 v5
          refine ⟨v0.heap.size, v2.heap.size, q, A1, c1, rfl, rfl, Lib.hid ?_⟩
          have BY := BX.trans (grown_below SM BX.size (fun j hj => by injection hj with hj; omega))
          exact ⟨BY, NX.grown SM (by omega), RX.grown SM (by omega), XX.grown SM (by omega), MX.set [.int .i64 (o.now + d), .int .i64 o.next, .int .i64 frm, .int .i64 dst, .slice A1 n c1] rfl, by omega, by omega, by omega, QL.out, QA.out, TXX.grown SM (fun e => by injection e with e; omega), TRX.grown SM (fun e => by injection e with e; omega), OX.far SM QT.out (by omega) (fun a ha => mgK.below (HO.out.l.each a (by rw [← QL.out.L]; exact ha)) BY), (YX.rown.apart SM (fun b hb e => by injection e with e; have := YT.out b hb; omega)).own (fun _ _ => trivial), _, _, QT.out, by omega, by omega, fun b hb => by have := YT.out b hb; omega⟩
      · skip
        go_wp2_with fail
        clear hHeld
        refine hK.out _ _ (N1.out.alloc (.cells #[.int .i64 0, .int .i64 0, .int .i64 0, .int .i64 0, .slice none 0 0] 40)).cell (fun hHeld => ?_)
        clear hK K
        try simp only [Act.put, List.setIfInBounds_toArray, List.set_cons_zero, List.set_cons_succ]
        have hb := below_alloc1 v1 (.cells #[.int .i64 0, .int .i64 0, .int .i64 0, .int .i64 0, .slice none 0 0] 40)
        have hX := Has.newAt v1 #[.int .i64 0, .int .i64 0, .int .i64 0, .int .i64 0, .slice none 0 0] 40 (g := v1.heap.size) rfl
        have hT := HasT.newAt v1 #[.int .i64 0, .int .i64 0, .int .i64 0, .int .i64 0, .slice none 0 0] 40 (g := v1.heap.size) rfl
        have hz := Lib.hid (show v1.heap.size < (v1.alloc (.cells #[.int .i64 0, .int .i64 0, .int .i64 0, .int .i64 0, .slice none 0 0] 40)).heap.size from by simp)
        obtain ⟨v2, hv⟩ : ∃ v, v = v1.alloc (.cells #[.int .i64 0, .int .i64 0, .int .i64 0, .int .i64 0, .slice none 0 0] 40) := ⟨_, rfl⟩
        rw [← hv] at hb hX hz hHeld hT
        rw [← hv]
        clear hv
        have B2 := Lib.hid (below_from hb B1.out B1.out.size)
        have N2 := Lib.hid (N1.out.past hb)
        have R2 := Lib.hid (R1.out.past hb)
        have Z2 := Lib.hid hb.size
        have TR2 := Lib.hid (TR1.out.past hb)
        have X2 := Lib.hid (X1.out.past hb)
        have TX2 := Lib.hid (TX1.out.past hb)
        have M2 := Lib.hid hX
        have TM2 := Lib.hid hT
        have ZLM := hz
        have LE2 := Lib.hid (Nat.le_trans LE1.out Z2.out)
        clear hb hX hz hT
        refine tr_op3 (by simp only [List.getElem?_toArray, List.getElem?_cons_succ, List.getElem?_cons_zero]; rfl) (fun K hK => ?_)
        go_wp2_with (go_at_call 33; refine (OW.out _ B2.out).mono ?_; rintro e v3 ⟨q, rfl, hL, hO, hA, hb⟩; have B3 := Lib.hid (below_from hb B2.out B2.out.size); have N3 := Lib.hid (N2.out.past hb); have R3 := Lib.hid (R2.out.past hb); have Z3 := Lib.hid hb.size; have TR3 := Lib.hid (TR2.out.past hb); have X3 := Lib.hid (X2.out.past hb); have TX3 := Lib.hid (TX2.out.past hb); have M3 := Lib.hid (M2.out.past hb); have QA := Lib.hid hA; have QL := Lib.hid hL; have QT := Lib.hid hO.btw; have O3 := Lib.hid (hO.base (show w.heap.size + 2 ≤ v2.heap.size from LE2.out)); clear hL hO hA hb)
        clear hHeld
        refine hK.out _ _ N3.out.cell (fun hHeld => ?_)
        clear hK K
        try simp only [Act.put, List.setIfInBounds_toArray, List.set_cons_zero, List.set_cons_succ]
        have LE3 := Lib.hid (Nat.le_trans LE2.out Z3.out)
        refine tr_op3 (by simp only [List.getElem?_toArray, List.getElem?_cons_succ, List.getElem?_cons_zero]; rfl) (fun K hK => ?_)
        go_wp2_with (go_at_call 42; refine (CL.out _ B3.out).mono ?_; rintro e v4 ⟨A1, c1, rfl, hO, hb⟩; have B4 := Lib.hid (below_from hb B3.out B3.out.size); have N4 := Lib.hid (N3.out.past hb); have R4 := Lib.hid (R3.out.past hb); have Z4 := Lib.hid hb.size; have TR4 := Lib.hid (TR3.out.past hb); have X4 := Lib.hid (X3.out.past hb); have TX4 := Lib.hid (TX3.out.past hb); have M4 := Lib.hid (M3.out.past hb); have O4 := Lib.hid (O3.out.kept hb); have YT := Lib.hid hO.2.1.lt; have Y4 := Lib.hid (hO.base LE3.out); clear hO hb)
        clear hHeld
        refine hK.out _ _ N4.out.cell (fun hHeld => ?_)
        clear hK K
        try simp only [Act.put, List.setIfInBounds_toArray, List.set_cons_zero, List.set_cons_succ]
        have LE4 := Lib.hid (Nat.le_trans LE3.out Z4.out)
        refine tr_take3 (v := ?_) (by simp only [List.getElem?_toArray, List.getElem?_cons_succ, List.getElem?_cons_zero]; rfl) (Or.inl ⟨by rfl, ?_⟩) ?_
        rotate_left 1
        · intro w hSw
          try dsimp only at hSw
          go_simp
          try with_reducible rfl
        try simp only [Act.put, List.setIfInBounds_toArray, List.set_cons_zero, List.set_cons_succ]
        have xc := X4.out.cell
        have xl := X4.out.lt
        have xf := X4.out.free
        have z1 := Z1.out
        have z2 := Z2.out
        have z3 := Z3.out
        have z4 := Z4.out
        have zx := ZLX.out
        have zm := ZLM.out
        have le := LE0.out
        have nex : w.heap.size ≠ v0.heap.size := by omega
        have nmx : v0.heap.size ≠ v1.heap.size := by omega
        refine tr_op3 (by simp only [List.getElem?_toArray, List.getElem?_cons_succ, List.getElem?_cons_zero]; rfl) (fun K hK => ?_)
        go_wp2_with fail
        have ST := setCells_grown (v0.heap.size) [.int .i64 q.now, .int .i64 q.next, .slice q.LA q.Ln q.Lc, .slice q.SA q.Sn q.Sc, .slice q.CA q.Cn q.Cc, .slice q.KA q.Kn q.Kc] 0 v4
        clear hHeld
        refine hK.out _ _ (show ∀ i, (v4.setCells (v0.heap.size) 0 [.int .i64 q.now, .int .i64 q.next, .slice q.LA q.Ln q.Lc, .slice q.SA q.Sn q.Sc, .slice q.CA q.Cn q.Cc, .slice q.KA q.Kn q.Kc]).cell? ⟨w.heap.size, i, none⟩ = _ from (N4.out.grown ST (by omega)).cell) (fun hHeld => ?_)
        clear hK K
        try simp only [Act.put, List.setIfInBounds_toArray, List.set_cons_zero, List.set_cons_succ]
        obtain ⟨v5, hv⟩ : ∃ v, v = ((((((v4.setCell ⟨v0.heap.size, 0, none⟩ (.int .i64 q.now)).setCell ⟨v0.heap.size, 1, none⟩ (.int .i64 q.next)).setCell ⟨v0.heap.size, 2, none⟩ (.slice q.LA q.Ln q.Lc)).setCell ⟨v0.heap.size, 3, none⟩ (.slice q.SA q.Sn q.Sc)).setCell ⟨v0.heap.size, 4, none⟩ (.slice q.CA q.Cn q.Cc)).setCell ⟨v0.heap.size, 5, none⟩ (.slice q.KA q.Kn q.Kc)) := ⟨_, rfl⟩
        rw [← hv]
        have ST : v4.grownBy v5 (some (v0.heap.size)) := by rw [hv]; exact ST
        have BX := B4.out.trans (grown_below ST B4.out.size (fun j hj => by injection hj with hj; omega))
        have XX : Has v5 (v0.heap.size) #[.int .i64 q.now, .int .i64 q.next, .slice q.LA q.Ln q.Lc, .slice q.SA q.Sn q.Sc, .slice q.CA q.Cn q.Cc, .slice q.KA q.Kn q.Kc] := by rw [hv]; exact X4.out.set [.int .i64 q.now, .int .i64 q.next, .slice q.LA q.Ln q.Lc, .slice q.SA q.Sn q.Sc, .slice q.CA q.Cn q.Cc, .slice q.KA q.Kn q.Kc] rfl
        have MX := M4.out.grown ST (by omega)
        have NX := N4.out.grown ST (by omega)
        have RX := R4.out.grown ST (by omega)
        have TXX : HasT v5 (v0.heap.size) 27 := by rw [hv]; exact TX4.out.set X4.out 0 [.int .i64 q.now, .int .i64 q.next, .slice q.LA q.Ln q.Lc, .slice q.SA q.Sn q.Sc, .slice q.CA q.Cn q.Cc, .slice q.KA q.Kn q.Kc] (by simp)
        have TRX := TR4.out.grown ST (fun e => by injection e with e; omega)
        have OX := O4.out.far ST QT.out (by omega) (fun a ha => mgK.below (HO.out.l.each a (by rw [← QL.out.L]; exact ha)) BX)
        have YX := (Y4.out.rown.apart ST (fun b hb e => by injection e with e; have := YT.out b hb; omega)).own (fun _ _ => trivial)
        have mc := MX.cell
        have ml := MX.lt
        have mf := MX.free
        clear hv hHeld xc xl xf
        refine tr_tail3 rfl ?_
        go_wp2_with fail
        go_meet
        have SM := setCells_grown (v1.heap.size) [.int .i64 (o.now + d), .int .i64 o.next, .int .i64 frm, .int .i64 dst, .slice A1 n c1] 0 v5
        refine ⟨v0.heap.size, v1.heap.size, q, A1, c1, rfl, rfl, Lib.hid ?_⟩
        have BY := BX.trans (grown_below SM BX.size (fun j hj => by injection hj with hj; omega))
        exact ⟨BY, NX.grown SM (by omega), RX.grown SM (by omega), XX.grown SM (by omega), MX.set [.int .i64 (o.now + d), .int .i64 o.next, .int .i64 frm, .int .i64 dst, .slice A1 n c1] rfl, by omega, by omega, by omega, QL.out, QA.out, TXX.grown SM (fun e => by injection e with e; omega), TRX.grown SM (fun e => by injection e with e; omega), OX.far SM QT.out (by omega) (fun a ha => mgK.below (HO.out.l.each a (by rw [← QL.out.L]; exact ha)) BY), (YX.rown.apart SM (fun b hb e => by injection e with e; have := YT.out b hb; omega)).own (fun _ _ => trivial), _, _, QT.out, by omega, by omega, fun b hb => by have := YT.out b hb; omega⟩
    · skip
      go_wp2_with fail
      clear hHeld
      refine hK.out _ _ (N0.out.alloc (.cells #[.int .i64 0, .int .i64 0, .int .i64 0, .int .i64 0, .slice none 0 0] 40)).cell (fun hHeld => ?_)
      clear hK K
      try simp only [Act.put, List.setIfInBounds_toArray, List.set_cons_zero, List.set_cons_succ]
      have hb := below_alloc1 v0 (.cells #[.int .i64 0, .int .i64 0, .int .i64 0, .int .i64 0, .slice none 0 0] 40)
      have hX := Has.newAt v0 #[.int .i64 0, .int .i64 0, .int .i64 0, .int .i64 0, .slice none 0 0] 40 (g := v0.heap.size) rfl
      have hT := HasT.newAt v0 #[.int .i64 0, .int .i64 0, .int .i64 0, .int .i64 0, .slice none 0 0] 40 (g := v0.heap.size) rfl
      have hz := Lib.hid (show v0.heap.size < (v0.alloc (.cells #[.int .i64 0, .int .i64 0, .int .i64 0, .int .i64 0, .slice none 0 0] 40)).heap.size from by simp)
      obtain ⟨v1, hv⟩ : ∃ v, v = v0.alloc (.cells #[.int .i64 0, .int .i64 0, .int .i64 0, .int .i64 0, .slice none 0 0] 40) := ⟨_, rfl⟩
      rw [← hv] at hb hX hz hHeld hT
      rw [← hv]
      clear hv
      have B1 := Lib.hid (below_from hb B0.out B0.out.size)
      have N1 := Lib.hid (N0.out.past hb)
      have R1 := Lib.hid (R0.out.past hb)
      have Z1 := Lib.hid hb.size
      have TR1 := Lib.hid (TR0.out.past hb)
      have M1 := Lib.hid hX
      have TM1 := Lib.hid hT
      have ZLM := hz
      have LE1 := Lib.hid (Nat.le_trans LE0.out Z1.out)
      clear hb hX hz hT
      refine tr_fork3 (by simp only [List.getElem?_toArray, List.getElem?_cons_succ, List.getElem?_cons_zero]; rfl) (by simp only [List.getElem?_toArray, List.getElem?_cons_succ, List.getElem?_cons_zero]; rfl) (fun K hK => ?_) (fun K hK => ?_)
      · skip
        go_wp2_with (go_at_call 33; refine (OW.out _ B1.out).mono ?_; rintro e v2 ⟨q, rfl, hL, hO, hA, hb⟩; have B2 := Lib.hid (below_from hb B1.out B1.out.size); have N2 := Lib.hid (N1.out.past hb); have R2 := Lib.hid (R1.out.past hb); have Z2 := Lib.hid hb.size; have TR2 := Lib.hid (TR1.out.past hb); have M2 := Lib.hid (M1.out.past hb); have QA := Lib.hid hA; have QL := Lib.hid hL; have QT := Lib.hid hO.btw; have O2 := Lib.hid (hO.base (show w.heap.size + 2 ≤ v1.heap.size from LE1.out)); clear hL hO hA hb)
        clear hHeld
        refine hK.out _ _ N2.out.cell (fun hHeld => ?_)
        clear hK K
        try simp only [Act.put, List.setIfInBounds_toArray, List.set_cons_zero, List.set_cons_succ]
        have LE2 := Lib.hid (Nat.le_trans LE1.out Z2.out)
        refine tr_fork3 (by simp only [List.getElem?_toArray, List.getElem?_cons_succ, List.getElem?_cons_zero]; rfl) (by simp only [List.getElem?_toArray, List.getElem?_cons_succ, List.getElem?_cons_zero]; rfl) (fun K hK => ?_) (fun K hK => ?_)
        · skip
          go_wp2_with (go_at_call 42; refine (CL.out _ B2.out).mono ?_; rintro e v3 ⟨A1, c1, rfl, hO, hb⟩; have B3 := Lib.hid (below_from hb B2.out B2.out.size); have N3 := Lib.hid (N2.out.past hb); have R3 := Lib.hid (R2.out.past hb); have Z3 := Lib.hid hb.size; have TR3 := Lib.hid (TR2.out.past hb); have M3 := Lib.hid (M2.out.past hb); have O3 := Lib.hid (O2.out.kept hb); have YT := Lib.hid hO.2.1.lt; have Y3 := Lib.hid (hO.base LE2.out); clear hO hb)
          clear hHeld
          refine hK.out _ _ N3.out.cell (fun hHeld => ?_)
          clear hK K
          try simp only [Act.put, List.setIfInBounds_toArray, List.set_cons_zero, List.set_cons_succ]
          have LE3 := Lib.hid (Nat.le_trans LE2.out Z3.out)
          refine tr_take3 (v := ?_) (by simp only [List.getElem?_toArray, List.getElem?_cons_succ, List.getElem?_cons_zero]; rfl) (Or.inl ⟨by rfl, ?_⟩) ?_
          rotate_left 1
          · intro w hSw
            try dsimp only at hSw
            go_simp
            try with_reducible rfl
          try simp only [Act.put, List.setIfInBounds_toArray, List.set_cons_zero, List.set_cons_succ]
          refine tr_op3 (by simp only [List.getElem?_toArray, List.getElem?_cons_succ, List.getElem?_cons_zero]; rfl) (fun K hK => ?_)
          go_wp2_with fail
          clear hHeld
          refine hK.out _ _ (N3.out.alloc (.cells #[.int .i64 0, .int .i64 0, .slice none 0 0, .slice none 0 0, .slice none 0 0, .slice none 0 0] 27)).cell (fun hHeld => ?_)
          clear hK K
          try simp only [Act.put, List.setIfInBounds_toArray, List.set_cons_zero, List.set_cons_succ]
          have hb := below_alloc1 v3 (.cells #[.int .i64 0, .int .i64 0, .slice none 0 0, .slice none 0 0, .slice none 0 0, .slice none 0 0] 27)
          have hX := Has.newAt v3 #[.int .i64 0, .int .i64 0, .slice none 0 0, .slice none 0 0, .slice none 0 0, .slice none 0 0] 27 (g := v3.heap.size) rfl
          have hT := HasT.newAt v3 #[.int .i64 0, .int .i64 0, .slice none 0 0, .slice none 0 0, .slice none 0 0, .slice none 0 0] 27 (g := v3.heap.size) rfl
          have hz := Lib.hid (show v3.heap.size < (v3.alloc (.cells #[.int .i64 0, .int .i64 0, .slice none 0 0, .slice none 0 0, .slice none 0 0, .slice none 0 0] 27)).heap.size from by simp)
          obtain ⟨v4, hv⟩ : ∃ v, v = v3.alloc (.cells #[.int .i64 0, .int .i64 0, .slice none 0 0, .slice none 0 0, .slice none 0 0, .slice none 0 0] 27) := ⟨_, rfl⟩
          rw [← hv] at hb hX hz hHeld hT
          rw [← hv]
          clear hv
          have B4 := Lib.hid (below_from hb B3.out B3.out.size)
          have N4 := Lib.hid (N3.out.past hb)
          have R4 := Lib.hid (R3.out.past hb)
          have Z4 := Lib.hid hb.size
          have TR4 := Lib.hid (TR3.out.past hb)
          have M4 := Lib.hid (M3.out.past hb)
          have O4 := Lib.hid (O3.out.kept hb)
          have Y4 := Lib.hid (Y3.out.kept hb)
          have X4 := Lib.hid hX
          have TX4 := Lib.hid hT
          have ZLX := hz
          have LE4 := Lib.hid (Nat.le_trans LE3.out Z4.out)
          clear hb hX hz hT
          have xc := X4.out.cell
          have xl := X4.out.lt
          have xf := X4.out.free
          have z1 := Z1.out
          have z2 := Z2.out
          have z3 := Z3.out
          have z4 := Z4.out
          have zx := ZLX.out
          have zm := ZLM.out
          have le := LE0.out
          have nex : w.heap.size ≠ v3.heap.size := by omega
          have nmx : v3.heap.size ≠ v0.heap.size := by omega
          refine tr_op3 (by simp only [List.getElem?_toArray, List.getElem?_cons_succ, List.getElem?_cons_zero]; rfl) (fun K hK => ?_)
          go_wp2_with fail
          have ST := setCells_grown (v3.heap.size) [.int .i64 q.now, .int .i64 q.next, .slice q.LA q.Ln q.Lc, .slice q.SA q.Sn q.Sc, .slice q.CA q.Cn q.Cc, .slice q.KA q.Kn q.Kc] 0 v4
          clear hHeld
          refine hK.out _ _ (show ∀ i, (v4.setCells (v3.heap.size) 0 [.int .i64 q.now, .int .i64 q.next, .slice q.LA q.Ln q.Lc, .slice q.SA q.Sn q.Sc, .slice q.CA q.Cn q.Cc, .slice q.KA q.Kn q.Kc]).cell? ⟨w.heap.size, i, none⟩ = _ from (N4.out.grown ST (by omega)).cell) (fun hHeld => ?_)
          clear hK K
          try simp only [Act.put, List.setIfInBounds_toArray, List.set_cons_zero, List.set_cons_succ]
          obtain ⟨v5, hv⟩ : ∃ v, v = ((((((v4.setCell ⟨v3.heap.size, 0, none⟩ (.int .i64 q.now)).setCell ⟨v3.heap.size, 1, none⟩ (.int .i64 q.next)).setCell ⟨v3.heap.size, 2, none⟩ (.slice q.LA q.Ln q.Lc)).setCell ⟨v3.heap.size, 3, none⟩ (.slice q.SA q.Sn q.Sc)).setCell ⟨v3.heap.size, 4, none⟩ (.slice q.CA q.Cn q.Cc)).setCell ⟨v3.heap.size, 5, none⟩ (.slice q.KA q.Kn q.Kc)) := ⟨_, rfl⟩
          rw [← hv]
          have ST : v4.grownBy v5 (some (v3.heap.size)) := by rw [hv]; exact ST
          have BX := B4.out.trans (grown_below ST B4.out.size (fun j hj => by injection hj with hj; omega))
          have XX : Has v5 (v3.heap.size) #[.int .i64 q.now, .int .i64 q.next, .slice q.LA q.Ln q.Lc, .slice q.SA q.Sn q.Sc, .slice q.CA q.Cn q.Cc, .slice q.KA q.Kn q.Kc] := by rw [hv]; exact X4.out.set [.int .i64 q.now, .int .i64 q.next, .slice q.LA q.Ln q.Lc, .slice q.SA q.Sn q.Sc, .slice q.CA q.Cn q.Cc, .slice q.KA q.Kn q.Kc] rfl
          have MX := M4.out.grown ST (by omega)
          have NX := N4.out.grown ST (by omega)
          have RX := R4.out.grown ST (by omega)
          have TXX : HasT v5 (v3.heap.size) 27 := by rw [hv]; exact TX4.out.set X4.out 0 [.int .i64 q.now, .int .i64 q.next, .slice q.LA q.Ln q.Lc, .slice q.SA q.Sn q.Sc, .slice q.CA q.Cn q.Cc, .slice q.KA q.Kn q.Kc] (by simp)
          have TRX := TR4.out.grown ST (fun e => by injection e with e; omega)
          have OX := O4.out.far ST QT.out (by omega) (fun a ha => mgK.below (HO.out.l.each a (by rw [← QL.out.L]; exact ha)) BX)
          have YX := (Y4.out.rown.apart ST (fun b hb e => by injection e with e; have := YT.out b hb; omega)).own (fun _ _ => trivial)
          have mc := MX.cell
          have ml := MX.lt
          have mf := MX.free
          clear hv hHeld xc xl xf
          refine tr_tail3 rfl ?_
          go_wp2_with fail
          go_meet
          have SM := setCells_grown (v0.heap.size) [.int .i64 (o.now + d), .int .i64 o.next, .int .i64 frm, .int .i64 dst, .slice A1 n c1] 0 v5
          refine ⟨v3.heap.size, v0.heap.size, q, A1, c1, rfl, rfl, Lib.hid ?_⟩
          have BY := BX.trans (grown_below SM BX.size (fun j hj => by injection hj with hj; omega))
          exact ⟨BY, NX.grown SM (by omega), RX.grown SM (by omega), XX.grown SM (by omega), MX.set [.int .i64 (o.now + d), .int .i64 o.next, .int .i64 frm, .int .i64 dst, .slice A1 n c1] rfl, by omega, by omega, by omega, QL.out, QA.out, TXX.grown SM (fun e => by injection e with e; omega), TRX.grown SM (fun e => by injection e with e; omega), OX.far SM QT.out (by omega) (fun a ha => mgK.below (HO.out.l.each a (by rw [← QL.out.L]; exact ha)) BY), (YX.rown.apart SM (fun b hb e => by injection e with e; have := YT.out b hb; omega)).own (fun _ _ => trivial), _, _, QT.out, by omega, by omega, fun b hb => by have := YT.out b hb; omega⟩
        · skip
          go_wp2_with fail
          clear hHeld
          refine hK.out _ _ (N2.out.alloc (.cells #[.int .i64 0, .int .i64 0, .slice none 0 0, .slice none 0 0, .slice none 0 0, .slice none 0 0] 27)).cell (fun hHeld => ?_)
          clear hK K
          try simp only [Act.put, List.setIfInBounds_toArray, List.set_cons_zero, List.set_cons_succ]
          have hb := below_alloc1 v2 (.cells #[.int .i64 0, .int .i64 0, .slice none 0 0, .slice none 0 0, .slice none 0 0, .slice none 0 0] 27)
          have hX := Has.newAt v2 #[.int .i64 0, .int .i64 0, .slice none 0 0, .slice none 0 0, .slice none 0 0, .slice none 0 0] 27 (g := v2.heap.size) rfl
          have hT := HasT.newAt v2 #[.int .i64 0, .int .i64 0, .slice none 0 0, .slice none 0 0, .slice none 0 0, .slice none 0 0] 27 (g := v2.heap.size) rfl
          have hz := Lib.hid (show v2.heap.size < (v2.alloc (.cells #[.int .i64 0, .int .i64 0, .slice none 0 0, .slice none 0 0, .slice none 0 0, .slice none 0 0] 27)).heap.size from by simp)
          obtain ⟨v3, hv⟩ : ∃ v, v = v2.alloc (.cells #[.int .i64 0, .int .i64 0, .slice none 0 0, .slice none 0 0, .slice none 0 0, .slice none 0 0] 27) := ⟨_, rfl⟩
          rw [← hv] at hb hX hz hHeld hT
          rw [← hv]
          clear hv
          have B3 := Lib.hid (below_from hb B2.out B2.out.size)
          have N3 := Lib.hid (N2.out.past hb)
          have R3 := Lib.hid (R2.out.past hb)
          have Z3 := Lib.hid hb.size
          have TR3 := Lib.hid (TR2.out.past hb)
          have M3 := Lib.hid (M2.out.past hb)
          have O3 := Lib.hid (O2.out.kept hb)
          have X3 := Lib.hid hX
          have TX3 := Lib.hid hT
          have ZLX := hz
          have LE3 := Lib.hid (Nat.le_trans LE2.out Z3.out)
          clear hb hX hz hT
          refine tr_op3 (by simp only [List.getElem?_toArray, List.getElem?_cons_succ, List.getElem?_cons_zero]; rfl) (fun K hK => ?_)
          go_wp2_with (go_at_call 42; refine (CL.out _ B3.out).mono ?_; rintro e v4 ⟨A1, c1, rfl, hO, hb⟩; have B4 := Lib.hid (below_from hb B3.out B3.out.size); have N4 := Lib.hid (N3.out.past hb); have R4 := Lib.hid (R3.out.past hb); have Z4 := Lib.hid hb.size; have TR4 := Lib.hid (TR3.out.past hb); have X4 := Lib.hid (X3.out.past hb); have TX4 := Lib.hid (TX3.out.past hb); have M4 := Lib.hid (M3.out.past hb); have O4 := Lib.hid (O3.out.kept hb); have YT := Lib.hid hO.2.1.lt; have Y4 := Lib.hid (hO.base LE3.out); clear hO hb)
          clear hHeld
          refine hK.out _ _ N4.out.cell (fun hHeld => ?_)
          clear hK K
          try simp only [Act.put, List.setIfInBounds_toArray, List.set_cons_zero, List.set_cons_succ]
          have LE4 := Lib.hid (Nat.le_trans LE3.out Z4.out)
          refine tr_take3 (v := ?_) (by simp only [List.getElem?_toArray, List.getElem?_cons_succ, List.getElem?_cons_zero]; rfl) (Or.inl ⟨by rfl, ?_⟩) ?_
          rotate_left 1
          · intro w hSw
            try dsimp only at hSw
            go_simp
            try with_reducible rfl
          try simp only [Act.put, List.setIfInBounds_toArray, List.set_cons_zero, List.set_cons_succ]
          have xc := X4.out.cell
          have xl := X4.out.lt
          have xf := X4.out.free
          have z1 := Z1.out
          have z2 := Z2.out
          have z3 := Z3.out
          have z4 := Z4.out
          have zx := ZLX.out
          have zm := ZLM.out
          have le := LE0.out
          have nex : w.heap.size ≠ v2.heap.size := by omega
          have nmx : v2.heap.size ≠ v0.heap.size := by omega
          refine tr_op3 (by simp only [List.getElem?_toArray, List.getElem?_cons_succ, List.getElem?_cons_zero]; rfl) (fun K hK => ?_)
          go_wp2_with fail
          have ST := setCells_grown (v2.heap.size) [.int .i64 q.now, .int .i64 q.next, .slice q.LA q.Ln q.Lc, .slice q.SA q.Sn q.Sc, .slice q.CA q.Cn q.Cc, .slice q.KA q.Kn q.Kc] 0 v4
          clear hHeld
          refine hK.out _ _ (show ∀ i, (v4.setCells (v2.heap.size) 0 [.int .i64 q.now, .int .i64 q.next, .slice q.LA q.Ln q.Lc, .slice q.SA q.Sn q.Sc, .slice q.CA q.Cn q.Cc, .slice q.KA q.Kn q.Kc]).cell? ⟨w.heap.size, i, none⟩ = _ from (N4.out.grown ST (by omega)).cell) (fun hHeld => ?_)
          clear hK K
          try simp only [Act.put, List.setIfInBounds_toArray, List.set_cons_zero, List.set_cons_succ]
          obtain ⟨v5, hv⟩ : ∃ v, v = ((((((v4.setCell ⟨v2.heap.size, 0, none⟩ (.int .i64 q.now)).setCell ⟨v2.heap.size, 1, none⟩ (.int .i64 q.next)).setCell ⟨v2.heap.size, 2, none⟩ (.slice q.LA q.Ln q.Lc)).setCell ⟨v2.heap.size, 3, none⟩ (.slice q.SA q.Sn q.Sc)).setCell ⟨v2.heap.size, 4, none⟩ (.slice q.CA q.Cn q.Cc)).setCell ⟨v2.heap.size, 5, none⟩ (.slice q.KA q.Kn q.Kc)) := ⟨_, rfl⟩
          rw [← hv]
          have ST : v4.grownBy v5 (some (v2.heap.size)) := by rw [hv]; exact ST
          have BX := B4.out.trans (grown_below ST B4.out.size (fun j hj => by injection hj with hj; omega))
          have XX : Has v5 (v2.heap.size) #[.int .i64 q.now, .int .i64 q.next, .slice q.LA q.Ln q.Lc, .slice q.SA q.Sn q.Sc, .slice q.CA q.Cn q.Cc, .slice q.KA q.Kn q.Kc] := by rw [hv]; exact X4.out.set [.int .i64 q.now, .int .i64 q.next, .slice q.LA q.Ln q.Lc, .slice q.SA q.Sn q.Sc, .slice q.CA q.Cn q.Cc, .slice q.KA q.Kn q.Kc] rfl
          have MX := M4.out.grown ST (by omega)
          have NX := N4.out.grown ST (by omega)
          have RX := R4.out.grown ST (by omega)
          have TXX : HasT v5 (v2.heap.size) 27 := by rw [hv]; exact TX4.out.set X4.out 0 [.int .i64 q.now, .int .i64 q.next, .slice q.LA q.Ln q.Lc, .slice q.SA q.Sn q.Sc, .slice q.CA q.Cn q.Cc, .slice q.KA q.Kn q.Kc] (by simp)
          have TRX := TR4.out.grown ST (fun e => by injection e with e; omega)
          have OX := O4.out.far ST QT.out (by omega) (fun a ha => mgK.below (HO.out.l.each a (by rw [← QL.out.L]; exact ha)) BX)
          have YX := (Y4.out.rown.apart ST (fun b hb e => by injection e with e; have := YT.out b hb; omega)).own (fun _ _ => trivial)
          have mc := MX.cell
          have ml := MX.lt
          have mf := MX.free
          clear hv hHeld xc xl xf
          refine tr_tail3 rfl ?_
          go_wp2_with fail
          go_meet
          have SM := setCells_grown (v0.heap.size) [.int .i64 (o.now + d), .int .i64 o.next, .int .i64 frm, .int .i64 dst, .slice A1 n c1] 0 v5
          refine ⟨v2.heap.size, v0.heap.size, q, A1, c1, rfl, rfl, Lib.hid ?_⟩
          have BY := BX.trans (grown_below SM BX.size (fun j hj => by injection hj with hj; omega))
          exact ⟨BY, NX.grown SM (by omega), RX.grown SM (by omega), XX.grown SM (by omega), MX.set [.int .i64 (o.now + d), .int .i64 o.next, .int .i64 frm, .int .i64 dst, .slice A1 n c1] rfl, by omega, by omega, by omega, QL.out, QA.out, TXX.grown SM (fun e => by injection e with e; omega), TRX.grown SM (fun e => by injection e with e; omega), OX.far SM QT.out (by omega) (fun a ha => mgK.below (HO.out.l.each a (by rw [← QL.out.L]; exact ha)) BY), (YX.rown.apart SM (fun b hb e => by injection e with e; have := YT.out b hb; omega)).own (fun _ _ => trivial), _, _, QT.out, by omega, by omega, fun b hb => by have := YT.out b hb; omega⟩
      · skip
        go_wp2_with fail
        clear hHeld
        refine hK.out _ _ (N1.out.alloc (.cells #[.int .i64 0, .int .i64 0, .slice none 0 0, .slice none 0 0, .slice none 0 0, .slice none 0 0] 27)).cell (fun hHeld => ?_)
        clear hK K
        try simp only [Act.put, List.setIfInBounds_toArray, List.set_cons_zero, List.set_cons_succ]
        have hb := below_alloc1 v1 (.cells #[.int .i64 0, .int .i64 0, .slice none 0 0, .slice none 0 0, .slice none 0 0, .slice none 0 0] 27)
        have hX := Has.newAt v1 #[.int .i64 0, .int .i64 0, .slice none 0 0, .slice none 0 0, .slice none 0 0, .slice none 0 0] 27 (g := v1.heap.size) rfl
        have hT := HasT.newAt v1 #[.int .i64 0, .int .i64 0, .slice none 0 0, .slice none 0 0, .slice none 0 0, .slice none 0 0] 27 (g := v1.heap.size) rfl
        have hz := Lib.hid (show v1.heap.size < (v1.alloc (.cells #[.int .i64 0, .int .i64 0, .slice none 0 0, .slice none 0 0, .slice none 0 0, .slice none 0 0] 27)).heap.size from by simp)
        obtain ⟨v2, hv⟩ : ∃ v, v = v1.alloc (.cells #[.int .i64 0, .int .i64 0, .slice none 0 0, .slice none 0 0, .slice none 0 0, .slice none 0 0] 27) := ⟨_, rfl⟩
        rw [← hv] at hb hX hz hHeld hT
        rw [← hv]
        clear hv
        have B2 := Lib.hid (below_from hb B1.out B1.out.size)
        have N2 := Lib.hid (N1.out.past hb)
        have R2 := Lib.hid (R1.out.past hb)
        have Z2 := Lib.hid hb.size
        have TR2 := Lib.hid (TR1.out.past hb)
        have M2 := Lib.hid (M1.out.past hb)
        have X2 := Lib.hid hX
        have TX2 := Lib.hid hT
        have ZLX := hz
        have LE2 := Lib.hid (Nat.le_trans LE1.out Z2.out)
        clear hb hX hz hT
        refine tr_op3 (by simp only [List.getElem?_toArray, List.getElem?_cons_succ, List.getElem?_cons_zero]; rfl) (fun K hK => ?_)
        go_wp2_with (go_at_call 33; refine (OW.out _ B2.out).mono ?_; rintro e v3 ⟨q, rfl, hL, hO, hA, hb⟩; have B3 := Lib.hid (below_from hb B2.out B2.out.size); have N3 := Lib.hid (N2.out.past hb); have R3 := Lib.hid (R2.out.past hb); have Z3 := Lib.hid hb.size; have TR3 := Lib.hid (TR2.out.past hb); have X3 := Lib.hid (X2.out.past hb); have TX3 := Lib.hid (TX2.out.past hb); have M3 := Lib.hid (M2.out.past hb); have QA := Lib.hid hA; have QL := Lib.hid hL; have QT := Lib.hid hO.btw; have O3 := Lib.hid (hO.base (show w.heap.size + 2 ≤ v2.heap.size from LE2.out)); clear hL hO hA hb)
        clear hHeld
        refine hK.out _ _ N3.out.cell (fun hHeld => ?_)
        clear hK K
        try simp only [Act.put, List.setIfInBounds_toArray, List.set_cons_zero, List.set_cons_succ]
        have LE3 := Lib.hid (Nat.le_trans LE2.out Z3.out)
        refine tr_op3 (by simp only [List.getElem?_toArray, List.getElem?_cons_succ, List.getElem?_cons_zero]; rfl) (fun K hK => ?_)
        go_wp2_with (go_at_call 42; refine (CL.out _ B3.out).mono ?_; rintro e v4 ⟨A1, c1, rfl, hO, hb⟩; have B4 := Lib.hid (below_from hb B3.out B3.out.size); have N4 := Lib.hid (N3.out.past hb); have R4 := Lib.hid (R3.out.past hb); have Z4 := Lib.hid hb.size; have TR4 := Lib.hid (TR3.out.past hb); have X4 := Lib.hid (X3.out.past hb); have TX4 := Lib.hid (TX3.out.past hb); have M4 := Lib.hid (M3.out.past hb); have O4 := Lib.hid (O3.out.kept hb); have YT := Lib.hid hO.2.1.lt; have Y4 := Lib.hid (hO.base LE3.out); clear hO hb)
        clear hHeld
        refine hK.out _ _ N4.out.cell (fun hHeld => ?_)
        clear hK K
        try simp only [Act.put, List.setIfInBounds_toArray, List.set_cons_zero, List.set_cons_succ]
        have LE4 := Lib.hid (Nat.le_trans LE3.out Z4.out)
        refine tr_take3 (v := ?_) (by simp only [List.getElem?_toArray, List.getElem?_cons_succ, List.getElem?_cons_zero]; rfl) (Or.inl ⟨by rfl, ?_⟩) ?_
        rotate_left 1
        · intro w hSw
          try dsimp only at hSw
          go_simp
          try with_reducible rfl
        try simp only [Act.put, List.setIfInBounds_toArray, List.set_cons_zero, List.set_cons_succ]
        have xc := X4.out.cell
        have xl := X4.out.lt
        have xf := X4.out.free
        have z1 := Z1.out
        have z2 := Z2.out
        have z3 := Z3.out
        have z4 := Z4.out
        have zx := ZLX.out
        have zm := ZLM.out
        have le := LE0.out
        have nex : w.heap.size ≠ v1.heap.size := by omega
        have nmx : v1.heap.size ≠ v0.heap.size := by omega
        refine tr_op3 (by simp only [List.getElem?_toArray, List.getElem?_cons_succ, List.getElem?_cons_zero]; rfl) (fun K hK => ?_)
        go_wp2_with fail
        have ST := setCells_grown (v1.heap.size) [.int .i64 q.now, .int .i64 q.next, .slice q.LA q.Ln q.Lc, .slice q.SA q.Sn q.Sc, .slice q.CA q.Cn q.Cc, .slice q.KA q.Kn q.Kc] 0 v4
        clear hHeld
        refine hK.out _ _ (show ∀ i, (v4.setCells (v1.heap.size) 0 [.int .i64 q.now, .int .i64 q.next, .slice q.LA q.Ln q.Lc, .slice q.SA q.Sn q.Sc, .slice q.CA q.Cn q.Cc, .slice q.KA q.Kn q.Kc]).cell? ⟨w.heap.size, i, none⟩ = _ from (N4.out.grown ST (by omega)).cell) (fun hHeld => ?_)
        clear hK K
        try simp only [Act.put, List.setIfInBounds_toArray, List.set_cons_zero, List.set_cons_succ]
        obtain ⟨v5, hv⟩ : ∃ v, v = ((((((v4.setCell ⟨v1.heap.size, 0, none⟩ (.int .i64 q.now)).setCell ⟨v1.heap.size, 1, none⟩ (.int .i64 q.next)).setCell ⟨v1.heap.size, 2, none⟩ (.slice q.LA q.Ln q.Lc)).setCell ⟨v1.heap.size, 3, none⟩ (.slice q.SA q.Sn q.Sc)).setCell ⟨v1.heap.size, 4, none⟩ (.slice q.CA q.Cn q.Cc)).setCell ⟨v1.heap.size, 5, none⟩ (.slice q.KA q.Kn q.Kc)) := ⟨_, rfl⟩
        rw [← hv]
        have ST : v4.grownBy v5 (some (v1.heap.size)) := by rw [hv]; exact ST
        have BX := B4.out.trans (grown_below ST B4.out.size (fun j hj => by injection hj with hj; omega))
        have XX : Has v5 (v1.heap.size) #[.int .i64 q.now, .int .i64 q.next, .slice q.LA q.Ln q.Lc, .slice q.SA q.Sn q.Sc, .slice q.CA q.Cn q.Cc, .slice q.KA q.Kn q.Kc] := by rw [hv]; exact X4.out.set [.int .i64 q.now, .int .i64 q.next, .slice q.LA q.Ln q.Lc, .slice q.SA q.Sn q.Sc, .slice q.CA q.Cn q.Cc, .slice q.KA q.Kn q.Kc] rfl
        have MX := M4.out.grown ST (by omega)
        have NX := N4.out.grown ST (by omega)
        have RX := R4.out.grown ST (by omega)
        have TXX : HasT v5 (v1.heap.size) 27 := by rw [hv]; exact TX4.out.set X4.out 0 [.int .i64 q.now, .int .i64 q.next, .slice q.LA q.Ln q.Lc, .slice q.SA q.Sn q.Sc, .slice q.CA q.Cn q.Cc, .slice q.KA q.Kn q.Kc] (by simp)
        have TRX := TR4.out.grown ST (fun e => by injection e with e; omega)
        have OX := O4.out.far ST QT.out (by omega) (fun a ha => mgK.below (HO.out.l.each a (by rw [← QL.out.L]; exact ha)) BX)
        have YX := (Y4.out.rown.apart ST (fun b hb e => by injection e with e; have := YT.out b hb; omega)).own (fun _ _ => trivial)
        have mc := MX.cell
        have ml := MX.lt
        have mf := MX.free
        clear hv hHeld xc xl xf
        refine tr_tail3 rfl ?_
        go_wp2_with fail
        go_meet
        have SM := setCells_grown (v0.heap.size) [.int .i64 (o.now + d), .int .i64 o.next, .int .i64 frm, .int .i64 dst, .slice A1 n c1] 0 v5
        refine ⟨v1.heap.size, v0.heap.size, q, A1, c1, rfl, rfl, Lib.hid ?_⟩
        have BY := BX.trans (grown_below SM BX.size (fun j hj => by injection hj with hj; omega))
        exact ⟨BY, NX.grown SM (by omega), RX.grown SM (by omega), XX.grown SM (by omega), MX.set [.int .i64 (o.now + d), .int .i64 o.next, .int .i64 frm, .int .i64 dst, .slice A1 n c1] rfl, by omega, by omega, by omega, QL.out, QA.out, TXX.grown SM (fun e => by injection e with e; omega), TRX.grown SM (fun e => by injection e with e; omega), OX.far SM QT.out (by omega) (fun a ha => mgK.below (HO.out.l.each a (by rw [← QL.out.L]; exact ha)) BY), (YX.rown.apart SM (fun b hb e => by injection e with e; have := YT.out b hb; omega)).own (fun _ _ => trivial), _, _, QT.out, by omega, by omega, fun b hb => by have := YT.out b hb; omega⟩
  case rest =>
    obtain ⟨gx, gm, q, A1, c1, rfl, rfl, hs⟩ := hcut
    have QN : q.next = o.next := hs.out.like.next
    have NX : 0 ≤ o.next ∧ o.next ≤ 1099511627776 := chk_next HC.out
    have wrn : IntKind.i64.wrap (q.next + 1) = q.next + 1 := IntWalk.i64_in _ (by omega)
    replace QN := Lib.hid QN
    have lx := hs.out.lx
    have lm := hs.out.lm
    have nx1 : w.heap.size ≠ gx := by omega
    have nx2 : gx ≠ gm := hs.out.ne
    have nx3 : gm ≠ gx := fun h => nx2 h.symm
    have nx4 : w.heap.size ≠ gm := by omega
    have nx5 : w.heap.size + 1 ≠ gx := by omega
    have nx6 : w.heap.size + 1 ≠ gm := by omega
    have S5 := hs
    have S6 := Lib.hid (show SC o w (wc.setCell ⟨gx, 1, none⟩ (.int .i64 (q.next + 1))) gx gm q #[.int .i64 q.now, .int .i64 (q.next + 1), .slice q.LA q.Ln q.Lc, .slice q.SA q.Sn q.Sc, .slice q.CA q.Cn q.Cc, .slice q.KA q.Kn q.Kc] A1 n c1 bs (o.now + d) o.next frm dst from hs.out.setx HO.out.l.each 1 (.int .i64 (q.next + 1)) (by simp))
    have ax := S5.out.xb.cell
    have axl := S5.out.xb.lt
    have axf := S5.out.xb.free
    have am := S5.out.mb.cell
    have aml := S5.out.mb.lt
    have amf := S5.out.mb.free
    have an := S5.out.nb.cell
    have anl := S5.out.nb.lt
    have ar := S5.out.rb.cell
    have arl := S5.out.rb.lt
    have arf := S5.out.rb.free
    clear hs
    cases hop : openB o.val frm dst with
    | false =>
      have HOP := Lib.hid hop
      clear hop
      go_wp2_with (go_at_call 25; refine (open_any o frm dst _ (HO.out.below S6.out.below) (by have := HF.out.s; omega)).mono ?_; rintro e w7 ⟨rfl, hb⟩; rw [HOP.out]; have S7 := Lib.hid (S6.out.past hb); clear ax axl axf am aml amf an anl ar arl arf; have bx := S7.out.xb.cell; have bxl := S7.out.xb.lt; have bxf := S7.out.xb.free; have bm := S7.out.mb.cell; have bml := S7.out.mb.lt; have bmf := S7.out.mb.free; have bn := S7.out.nb.cell; have bnl := S7.out.nb.lt; have br := S7.out.rb.cell; have brl := S7.out.rb.lt; have brf := S7.out.rb.free; clear hb)
      have IX := Lib.hid (indexS o.SA o.Sn o.Sc o.S w7 44 #[.pointer (some ⟨gm, 0, none⟩)] (fun _ W => Below w7.heap.size w7 W) (fun j => match o.S[j]? with | some x => decide (x.no = o.next) | none => false)
        (enters_of Try.func44 (by kernel_rfl) rfl) (by have := HF.out.s; omega) (Below.refl _ _) (fun _ W hb => (HO.out.s.below S7.out.below).below hb) (fun j hj W hb => by
          refine (show Calls Try.prog 44 #[.agg #[.int .i64 o.S[j].no, .int .i64 o.S[j].kind, .int .i64 o.S[j].amt], .pointer (some ⟨gm, 0, none⟩)] W _ from strikes_any o.S[j] ⟨(o.now + d), o.next, frm, dst, A1, n, c1, bs⟩ gm W (S7.out.mb.past hb)).mono ?_
          rintro e w' ⟨h1, h2⟩
          refine ⟨?_, below_from h2 hb hb.size⟩
          rw [h1, List.getElem?_eq_getElem hj]))
      refine IX.out.mono ?_
      rintro e w8 ⟨r, rfl, hF⟩
      clear IX
      have KK : Hid (Below w7.heap.size w7 w8 ∧ ((r = -1 ∧ slipOf o.S o.next = ⟨0, 0, 0⟩) ∨ ∃ k : Nat, ∃ hk : k < o.S.length, r = k ∧ k < o.Sn ∧ slipOf o.S o.next = o.S[k])) := Lib.hid (by
        have LS : o.S.length = o.Sn := HO.out.s.len
        rcases hF with ⟨rfl, hall, hb⟩ | ⟨k, rfl, hkn, hpk, hbefore, hb⟩
        · refine ⟨hb, .inl ⟨rfl, slip_no (fun j hj => ?_)⟩⟩
          have := hall j (by omega)
          simp only [List.getElem?_eq_getElem hj] at this
          exact of_decide_eq_false this
        · have hkl : k < o.S.length := by omega
          refine ⟨hb, .inr ⟨k, hkl, rfl, hkn, slip_at hkl ?_ (fun j hj hjk => ?_)⟩⟩
          · simp only [List.getElem?_eq_getElem hkl] at hpk
            exact of_decide_eq_true hpk
          · have := hbefore j hjk
            simp only [List.getElem?_eq_getElem hj] at this
            exact of_decide_eq_false this)
      clear hF
      obtain ⟨hb, hr⟩ := KK.out
      clear KK
      have S8 := Lib.hid (S7.out.past hb)
      clear bx bxl bxf bm bml bmf bn bnl br brl brf
      clear hb
      rcases hr with ⟨rfl, hsl⟩ | ⟨k, hkl, rfl, hkn, hsl⟩
      · have SL := Lib.hid (show slipOf o.val.S o.val.next = ⟨0, 0, 0⟩ from hsl)
        clear hsl
        have HM := Lib.hid (show manyV o.val frm dst = 0 from by unfold manyV; rw [SL.out, HOP.out]; simp)
        have TE := Lib.hid (show o.val.now + d + (slipOf o.val.S o.val.next).amt = (o.now + d) from by rw [SL.out]; show o.now + d + 0 = o.now + d; omega)
        have lq : q.Ln ≤ 1024 := by rw [S6.out.like.Ln, ← HO.out.l.len]; have := chk_len HC.out; simpa [Nt.val] using this
        have VL := Lib.hid (show o.val.L.length = q.Ln from by rw [S6.out.like.Ln, ← HO.out.l.len]; simp [Nt.val])
        have ax := S8.out.xb.cell
        have axl := S8.out.xb.lt
        have axf := S8.out.xb.free
        have am := S8.out.mb.cell
        have aml := S8.out.mb.lt
        have amf := S8.out.mb.free
        have an := S8.out.nb.cell
        have anl := S8.out.nb.lt
        have ar := S8.out.rb.cell
        have arl := S8.out.rb.lt
        have arf := S8.out.rb.free
        have dl : decide ((1024 : Int) < (q.Ln : Int)) = false := decide_eq_false (by omega)
        have dln : decide (1024 < q.Ln) = false := decide_eq_false (by omega)
        as_aux_lemma =>
          go_wp2_with fail
          have ORD := Lib.hid (fun j k (hk : k < q.L.length) (hj : j < k) => (show aheadB (q.L[j]'(Nat.lt_trans hj hk)).val q.L[k].val = true from by
            have hk' : k < o.val.L.length := by rw [VL.out]; have := S6.out.own.l.1; omega
            have := chk_order HC.out j k hk' hj
            simp only [Nt.val, List.getElem_map] at this
            simp only [S6.out.like.L]
            exact this))
          have SRC := Lib.hid (searchM q.LA q.Ln q.Lc q.L (⟨(o.now + d), o.next, frm, dst, A1, n, c1, bs⟩ : Mg) _ 46 (fun y => if aheadB y.val ((⟨(o.now + d), o.next, frm, dst, A1, n, c1, bs⟩ : Mg)).val = true then -1 else 1) S8.out.own.l.sl (by omega) (enters_of Try.func46 (by kernel_rfl) rfl) (fun j k hk hj h => by
            have h1 : aheadB q.L[k].val ((⟨(o.now + d), o.next, frm, dst, A1, n, c1, bs⟩ : Mg)).val = true := by
              cases hh : aheadB q.L[k].val ((⟨(o.now + d), o.next, frm, dst, A1, n, c1, bs⟩ : Mg)).val with
              | true => rfl
              | false => rw [hh] at h; simp at h
            simp only [ahead_trans (ORD.out j k hk hj) h1, if_true]
            decide) (fun y _ W' _ => behind_any y (⟨(o.now + d), o.next, frm, dst, A1, n, c1, bs⟩ : Mg) W'))
          refine SRC.out.mono ?_
          rintro e wS ⟨i, bf, rfl, hS, hb⟩
          have PL := hS.1
          have P1 := Lib.hid (show ∀ j (h : j < q.L.length), j < i → aheadB q.L[j].val ((⟨(o.now + d), o.next, frm, dst, A1, n, c1, bs⟩ : Mg)).val = true from fun j h hj => by
            have h0 : (if aheadB q.L[j].val ((⟨(o.now + d), o.next, frm, dst, A1, n, c1, bs⟩ : Mg)).val = true then (-1 : Int) else 1) < 0 := hS.2.1 j h hj
            cases hh : aheadB q.L[j].val ((⟨(o.now + d), o.next, frm, dst, A1, n, c1, bs⟩ : Mg)).val with
            | true => rfl
            | false => rw [hh] at h0; simp at h0)
          have P2 := Lib.hid (show ∀ h : i < q.L.length, aheadB q.L[i].val ((⟨(o.now + d), o.next, frm, dst, A1, n, c1, bs⟩ : Mg)).val = false from fun h => by
            have h0 : 0 ≤ (if aheadB q.L[i].val ((⟨(o.now + d), o.next, frm, dst, A1, n, c1, bs⟩ : Mg)).val = true then (-1 : Int) else 1) := hS.2.2.1 i h (Nat.le_refl _)
            cases hh : aheadB q.L[i].val ((⟨(o.now + d), o.next, frm, dst, A1, n, c1, bs⟩ : Mg)).val with
            | false => rfl
            | true => rw [hh] at h0; simp at h0)
          have hi : i ≤ q.Ln := by rw [← S8.out.own.l.1]; exact PL
          have S11 := Lib.hid (S8.out.past hb)
          have S12 := Lib.hid (S11.out.past (show Below wS.heap.size wS (wS.drew.alloc (.cells #[.int .i64 (o.now + d), .int .i64 o.next, .int .i64 frm, .int .i64 dst, .slice A1 n c1] 40)) from (Below.refl wS.heap.size wS).drew.alloc (Nat.le_refl _) _))
          clear hS hb PL SRC ORD
          clear ax axl axf am aml amf an anl ar arl arf
          have ex := S11.out.xb.cell
          have exl := S11.out.xb.lt
          have exf := S11.out.xb.free
          have em := S11.out.mb.cell
          have eml := S11.out.mb.lt
          have emf := S11.out.mb.free
          have en := S11.out.nb.cell
          have enl := S11.out.nb.lt
          have er := S11.out.rb.cell
          have erl := S11.out.rb.lt
          have erf := S11.out.rb.free
          go_wp2_with fail
          clear ex exl exf em eml emf en enl er erl erf
          refine region_seg (fun w' => (∀ i, w'.cell? ⟨gx, i, none⟩ = (#[.int .i64 q.now, .int .i64 (q.next + 1), .slice q.LA q.Ln q.Lc, .slice q.SA q.Sn q.Sc, .slice q.CA q.Cn q.Cc, .slice q.KA q.Kn q.Kc] : Array Value)[i]?) ∧ (∀ i, w'.cell? ⟨gm, i, none⟩ = (#[.int .i64 (o.now + d), .int .i64 o.next, .int .i64 frm, .int .i64 dst, .slice A1 n c1] : Array Value)[i]?)) 8 [(0, true), (1, true), (2, true), (3, true), (5, true), (4, false), (6, false), (7, false)] (by kernel_rfl) (by kernel_rfl) ⟨S11.out.xb.drew.cell, S11.out.mb.drew.cell⟩ (fun hHeld => ?_)
          iterate 5
            refine seg_take (v := ?_) (by simp only [List.getElem?_toArray, List.getElem?_cons_succ, List.getElem?_cons_zero]; rfl) (Or.inl ⟨by rfl, ?_⟩) ?_
            rotate_left 1
            · intro w hSw
              try dsimp only at hSw
              go_simp
              try with_reducible rfl
            try simp only [Act.put, List.setIfInBounds_toArray, List.set_cons_zero, List.set_cons_succ]
          refine seg_op (by simp only [List.getElem?_toArray, List.getElem?_cons_succ, List.getElem?_cons_zero]; rfl) (fun K hK => ?_)
          refine wpList_build1 _ rfl 22 40 _ rfl i0 _ Try.underlying22 hi0 hz0 #[.int .i64 (o.now + d), .int .i64 o.next, .int .i64 frm, .int .i64 dst, .slice A1 n c1] rfl 5 hs0 rfl (by decide) (by decide) (some 125) rfl wS.heap.size rfl ?_
          refine wpList_nil ?_
          clear hHeld
          refine hK.out _ _ ⟨S12.out.xb.cell, S12.out.mb.cell⟩ (fun hHeld => ?_)
          clear hK K
          try simp only [Act.put, List.setIfInBounds_toArray, List.set_cons_zero, List.set_cons_succ]
          refine seg_op (by simp only [List.getElem?_toArray, List.getElem?_cons_succ, List.getElem?_cons_zero]; rfl) (fun K hK => ?_)
          go_wp2_with (go_at_call 48; refine (rep_0 wS.heap.size (⟨(o.now + d), o.next, frm, dst, A1, n, c1, bs⟩ : Mg) _ (Has.newAt wS.drew #[.int .i64 (o.now + d), .int .i64 o.next, .int .i64 frm, .int .i64 dst, .slice A1 n c1] 40 (g := wS.heap.size) rfl)).mono ?_; rintro e wR ⟨⟨b2, cv, rfl, hg, ht, hle⟩, hb⟩; have S13 := Lib.hid (S12.out.past hb); have RG := Lib.hid hg; have RT := Lib.hid ht; have RL := Lib.hid hle; have ZR := Lib.hid hb.size; clear hb hg ht hle)
          clear hHeld
          refine hK.out _ _ ⟨S13.out.xb.cell, S13.out.mb.cell⟩ (fun hHeld => ?_)
          clear hK K
          try simp only [Act.put, List.setIfInBounds_toArray, List.set_cons_zero, List.set_cons_succ]
          refine seg_op (by simp only [List.getElem?_toArray, List.getElem?_cons_succ, List.getElem?_cons_zero]; rfl) (fun K hK => ?_)
          go_wp2_with (go_at_call 47; refine (insM_zero q.LA q.Ln q.Lc i b2 q.L wR S13.out.own.l.sl hi).mono ?_; rintro e wI ⟨rfl, rfl⟩)
          clear hHeld
          refine hK.out _ _ ⟨S13.out.xb.cell, S13.out.mb.cell⟩ (fun hHeld => ?_)
          clear hK K
          try simp only [Act.put, List.setIfInBounds_toArray, List.set_cons_zero, List.set_cons_succ]
          refine seg_tail rfl ?_
          clear hHeld
          have S14 := Lib.hid S13.out
          have LR := Lib.hid S13.out.own.l.rown
          have OS := Lib.hid S13.out.own
          obtain ⟨lo, hi2, r1, r2, r3, r4⟩ := S13.out.rows
          have apq := Lib.hid S13.out.ap
          have zx := Lib.hid S13.out.lx
          have XI := Lib.hid S13.out.xb
          have RI := Lib.hid S13.out.rb
          have TXI := Lib.hid S13.out.tx
          have TRI := Lib.hid S13.out.tr
          have BI := Lib.hid S13.out.below
          have SI := Lib.hid S13.out.own.s.rown
          have CI := Lib.hid S13.out.own.c.rown
          have KI := Lib.hid S13.out.own.k.rown
          have YI := Lib.hid S13.out.body.rown
          have R14 := Lib.hid (And.intro r1 (And.intro r2 r4))
          have fx := R14.out
          have ST : wR.grownBy (wR.setCell ⟨gx, 2, none⟩ (.slice q.LA q.Ln q.Lc)) (some gx) := setCells_grown gx [.slice q.LA q.Ln q.Lc] 2 wR
          have X2 := Lib.hid (show Has (wR.setCell ⟨gx, 2, none⟩ (.slice q.LA q.Ln q.Lc)) gx #[.int .i64 q.now, .int .i64 (q.next + 1), .slice q.LA q.Ln q.Lc, .slice q.SA q.Sn q.Sc, .slice q.CA q.Cn q.Cc, .slice q.KA q.Kn q.Kc] from XI.out.setAt 2 (.slice q.LA q.Ln q.Lc) (by simp))
          have R2 := Lib.hid (RI.out.grown ST nx5)
          have B2 := Lib.hid (BI.out.trans (grown_below ST BI.out.size (fun j hj => by injection hj with hj; have := zx.out; omega)))
          have L2 := Lib.hid (LR.out.apart ST (fun b hb e => by injection e with e; exact row_not LR.out.2 TXI.out (by decide) b hb e.symm))
          have S2 := Lib.hid (SI.out.apart ST (fun b hb e => by injection e with e; have := fx.1.2.1 b hb; omega))
          have C2 := Lib.hid (CI.out.apart ST (fun b hb e => by injection e with e; have := fx.1.2.2.1 b hb; omega))
          have K2 := Lib.hid (KI.out.apart ST (fun b hb e => by injection e with e; have := fx.1.2.2.2 b hb; omega))
          have Y2 := Lib.hid (YI.out.apart ST (fun b hb e => by injection e with e; have := (fx.2.2 b hb).1; omega))
          have xic := XI.out.cell
          have xil := XI.out.lt
          have xif := XI.out.free
          clear r1 r2 r3 r4 fx ST
          go_upto_region 23 with (fail)
          clear xic xil xif
          obtain ⟨wV, hV⟩ : ∃ wV, wV = (wR.setCell ⟨gx, 2, none⟩ (.slice q.LA q.Ln q.Lc)) := ⟨_, rfl⟩
          rw [← hV] at X2 R2 B2 L2 S2 C2 K2 Y2
          rw [← hV]
          clear hV
          have xvc := X2.out.cell
          have xvl := X2.out.lt
          have ric := R2.out.cell
          have ril := R2.out.lt
          have rif := R2.out.free
          go_wp2_with fail
          refine bodyPost_ret (v := .tuple #[(⟨q.now, q.next + 1, q.LA, q.Ln, q.Lc, q.L, q.SA, q.Sn, q.Sc, q.S, q.CA, q.Cn, q.Cc, q.C, q.KA, q.Kn, q.Kc, q.K⟩ : Nt).v, .int .i64 0]) (results_cell_tmp Try.results19 (g := w.heap.size + 1) rfl rfl (load27 (R2.out.set [.int .i64 q.now, .int .i64 (q.next + 1), .slice q.LA q.Ln q.Lc, .slice q.SA q.Sn q.Sc, .slice q.CA q.Cn q.Cc, .slice q.KA q.Kn q.Kc] rfl))) rfl ?_
          have SG := setCells_grown (w.heap.size + 1) [.int .i64 q.now, .int .i64 (q.next + 1), .slice q.LA q.Ln q.Lc, .slice q.SA q.Sn q.Sc, .slice q.CA q.Cn q.Cc, .slice q.KA q.Kn q.Kc] 0 wV
          have B3 := B2.out.trans (grown_below SG B2.out.size (fun j hj => by injection hj with hj; omega))
          have INL := S11.out.inL HO.out.l.each B3
          have MB : Sl u8K _ A1 n c1 bs := (((Y2.out.apart SG (fun b hb e => by injection e with e; have := (Y2.out.2.lt b hb).1; omega)).own (fun _ _ => trivial)).sl)
          refine ⟨NetRes.mk _ ?_ ⟨?_, ?_, ?_, ?_⟩, B3⟩
          · rw [sendV_none SB.out H5.out HM.out]
            unfold Nt.val
            simp only [S6.out.like.now, S6.out.like.next, S6.out.like.S, S6.out.like.C, S6.out.like.K, S6.out.like.L]
          · exact ((L2.out.apart SG (fun b hb e => by injection e with e; have := (L2.out.2.lt b hb).1; omega)).own (fun a ha => by
              exact INL a ha)).base (by omega)
          · exact ((S2.out.apart SG (fun b hb e => by injection e with e; have := (S2.out.2.lt b hb).1; omega)).own (fun a ha => S11.out.own.s.2.2 a ha)).base (by omega)
          · exact ((C2.out.apart SG (fun b hb e => by injection e with e; have := (C2.out.2.lt b hb).1; omega)).own (fun a ha => S11.out.own.c.2.2 a ha)).base (by omega)
          · exact ((K2.out.apart SG (fun b hb e => by injection e with e; have := (K2.out.2.lt b hb).1; omega)).own (fun a ha => S11.out.own.k.2.2 a ha)).base (by omega)
      · have OKS := ok_kinds (chk_slips HC.out o.S[k] (List.getElem_mem hkl))
        have SL0 := Lib.hid (show slipOf o.val.S o.val.next = o.S[k] from hsl)
        have HXS := Lib.hid (show ∃ b off, o.SA = some ⟨b, off, none⟩ ∧ w8.cell? ⟨b, off + k * 3, none⟩ = some (.int .i64 o.S[k].no) ∧ w8.cell? ⟨b, off + k * 3 + 1, none⟩ = some (.int .i64 o.S[k].kind) ∧ w8.cell? ⟨b, off + k * 3 + 2, none⟩ = some (.int .i64 o.S[k].amt) from by
          obtain ⟨b, off, _, h2, _, h4, h5, h6⟩ := sp_at (HO.out.s.below S8.out.below) hkn
          exact ⟨b, off, h2, h4, h5, h6⟩)
        generalize o.S[k] = x at *
        clear hsl
        have S9 := Lib.hid (S8.out.past (below_alloc1 w8 (.cells #[.int .i64 x.no, .int .i64 x.kind, .int .i64 x.amt] 54)))
        have kk1 : decide ((0 : Int) ≤ (k : Int)) = true := decide_eq_true (by omega)
        have kk2 : (k : Int) < (o.Sn : Int) := by omega
        obtain ⟨bb, off, hSA, x0, x1, x2⟩ := HXS.out
        rcases OKS with ⟨k3, ha1, ha2⟩ | ⟨k1 | k2, ha⟩
        · have e1 : (x.kind == 1) = false := by rw [beq_eq_false_iff_ne]; omega
          have e2 : (x.kind == 2) = false := by rw [beq_eq_false_iff_ne]; omega
          have wrt : IntKind.i64.wrap ((o.now + d) + x.amt) = (o.now + d) + x.amt := IntWalk.i64_in _ (by omega)
          have SQ := Lib.hid (S8.out.sett HO.out.l.each ((o.now + d) + x.amt))
          have S10 := Lib.hid (SQ.out.past (below_alloc1 (w8.setCell ⟨gm, 0, none⟩ (.int .i64 ((o.now + d) + x.amt))) (.cells #[.int .i64 x.no, .int .i64 x.kind, .int .i64 x.amt] 54)))
          have SL : Hid (slipOf o.val.S o.val.next = x) := SL0
          have SK : Hid (x.kind = 3) := k3
          clear k3
          have HM := Lib.hid (show manyV o.val frm dst = 0 from by unfold manyV; rw [SL.out, SK.out, HOP.out]; simp)
          have TE := Lib.hid (show o.val.now + d + (slipOf o.val.S o.val.next).amt = ((o.now + d) + x.amt) from by rw [SL.out]; rfl)
          have lq : q.Ln ≤ 1024 := by rw [S6.out.like.Ln, ← HO.out.l.len]; have := chk_len HC.out; simpa [Nt.val] using this
          have VL := Lib.hid (show o.val.L.length = q.Ln from by rw [S6.out.like.Ln, ← HO.out.l.len]; simp [Nt.val])
          have ax := S8.out.xb.cell
          have axl := S8.out.xb.lt
          have axf := S8.out.xb.free
          have am := S8.out.mb.cell
          have aml := S8.out.mb.lt
          have amf := S8.out.mb.free
          have an := S8.out.nb.cell
          have anl := S8.out.nb.lt
          have ar := S8.out.rb.cell
          have arl := S8.out.rb.lt
          have arf := S8.out.rb.free
          have dl : decide ((1024 : Int) < (q.Ln : Int)) = false := decide_eq_false (by omega)
          have dln : decide (1024 < q.Ln) = false := decide_eq_false (by omega)
          as_aux_lemma =>
            go_wp2_with fail
            have ORD := Lib.hid (fun j k (hk : k < q.L.length) (hj : j < k) => (show aheadB (q.L[j]'(Nat.lt_trans hj hk)).val q.L[k].val = true from by
              have hk' : k < o.val.L.length := by rw [VL.out]; have := S6.out.own.l.1; omega
              have := chk_order HC.out j k hk' hj
              simp only [Nt.val, List.getElem_map] at this
              simp only [S6.out.like.L]
              exact this))
            have SRC := Lib.hid (searchM q.LA q.Ln q.Lc q.L (⟨((o.now + d) + x.amt), o.next, frm, dst, A1, n, c1, bs⟩ : Mg) _ 46 (fun y => if aheadB y.val ((⟨((o.now + d) + x.amt), o.next, frm, dst, A1, n, c1, bs⟩ : Mg)).val = true then -1 else 1) S10.out.own.l.sl (by omega) (enters_of Try.func46 (by kernel_rfl) rfl) (fun j k hk hj h => by
              have h1 : aheadB q.L[k].val ((⟨((o.now + d) + x.amt), o.next, frm, dst, A1, n, c1, bs⟩ : Mg)).val = true := by
                cases hh : aheadB q.L[k].val ((⟨((o.now + d) + x.amt), o.next, frm, dst, A1, n, c1, bs⟩ : Mg)).val with
                | true => rfl
                | false => rw [hh] at h; simp at h
              simp only [ahead_trans (ORD.out j k hk hj) h1, if_true]
              decide) (fun y _ W' _ => behind_any y (⟨((o.now + d) + x.amt), o.next, frm, dst, A1, n, c1, bs⟩ : Mg) W'))
            refine SRC.out.mono ?_
            rintro e wS ⟨i, bf, rfl, hS, hb⟩
            have PL := hS.1
            have P1 := Lib.hid (show ∀ j (h : j < q.L.length), j < i → aheadB q.L[j].val ((⟨((o.now + d) + x.amt), o.next, frm, dst, A1, n, c1, bs⟩ : Mg)).val = true from fun j h hj => by
              have h0 : (if aheadB q.L[j].val ((⟨((o.now + d) + x.amt), o.next, frm, dst, A1, n, c1, bs⟩ : Mg)).val = true then (-1 : Int) else 1) < 0 := hS.2.1 j h hj
              cases hh : aheadB q.L[j].val ((⟨((o.now + d) + x.amt), o.next, frm, dst, A1, n, c1, bs⟩ : Mg)).val with
              | true => rfl
              | false => rw [hh] at h0; simp at h0)
            have P2 := Lib.hid (show ∀ h : i < q.L.length, aheadB q.L[i].val ((⟨((o.now + d) + x.amt), o.next, frm, dst, A1, n, c1, bs⟩ : Mg)).val = false from fun h => by
              have h0 : 0 ≤ (if aheadB q.L[i].val ((⟨((o.now + d) + x.amt), o.next, frm, dst, A1, n, c1, bs⟩ : Mg)).val = true then (-1 : Int) else 1) := hS.2.2.1 i h (Nat.le_refl _)
              cases hh : aheadB q.L[i].val ((⟨((o.now + d) + x.amt), o.next, frm, dst, A1, n, c1, bs⟩ : Mg)).val with
              | false => rfl
              | true => rw [hh] at h0; simp at h0)
            have hi : i ≤ q.Ln := by rw [← S10.out.own.l.1]; exact PL
            have S11 := Lib.hid (S10.out.past hb)
            have S12 := Lib.hid (S11.out.past (show Below wS.heap.size wS (wS.drew.alloc (.cells #[.int .i64 ((o.now + d) + x.amt), .int .i64 o.next, .int .i64 frm, .int .i64 dst, .slice A1 n c1] 40)) from (Below.refl wS.heap.size wS).drew.alloc (Nat.le_refl _) _))
            clear hS hb PL SRC ORD
            clear ax axl axf am aml amf an anl ar arl arf
            have ex := S11.out.xb.cell
            have exl := S11.out.xb.lt
            have exf := S11.out.xb.free
            have em := S11.out.mb.cell
            have eml := S11.out.mb.lt
            have emf := S11.out.mb.free
            have en := S11.out.nb.cell
            have enl := S11.out.nb.lt
            have er := S11.out.rb.cell
            have erl := S11.out.rb.lt
            have erf := S11.out.rb.free
            go_wp2_with fail
            clear ex exl exf em eml emf en enl er erl erf
            refine region_seg (fun w' => (∀ i, w'.cell? ⟨gx, i, none⟩ = (#[.int .i64 q.now, .int .i64 (q.next + 1), .slice q.LA q.Ln q.Lc, .slice q.SA q.Sn q.Sc, .slice q.CA q.Cn q.Cc, .slice q.KA q.Kn q.Kc] : Array Value)[i]?) ∧ (∀ i, w'.cell? ⟨gm, i, none⟩ = (#[.int .i64 ((o.now + d) + x.amt), .int .i64 o.next, .int .i64 frm, .int .i64 dst, .slice A1 n c1] : Array Value)[i]?)) 8 [(0, true), (1, true), (2, true), (3, true), (5, true), (4, false), (6, false), (7, false)] (by kernel_rfl) (by kernel_rfl) ⟨S11.out.xb.drew.cell, S11.out.mb.drew.cell⟩ (fun hHeld => ?_)
            iterate 5
              refine seg_take (v := ?_) (by simp only [List.getElem?_toArray, List.getElem?_cons_succ, List.getElem?_cons_zero]; rfl) (Or.inl ⟨by rfl, ?_⟩) ?_
              rotate_left 1
              · intro w hSw
                try dsimp only at hSw
                go_simp
                try with_reducible rfl
              try simp only [Act.put, List.setIfInBounds_toArray, List.set_cons_zero, List.set_cons_succ]
            refine seg_op (by simp only [List.getElem?_toArray, List.getElem?_cons_succ, List.getElem?_cons_zero]; rfl) (fun K hK => ?_)
            refine wpList_build1 _ rfl 22 40 _ rfl i0 _ Try.underlying22 hi0 hz0 #[.int .i64 ((o.now + d) + x.amt), .int .i64 o.next, .int .i64 frm, .int .i64 dst, .slice A1 n c1] rfl 5 hs0 rfl (by decide) (by decide) (some 125) rfl wS.heap.size rfl ?_
            refine wpList_nil ?_
            clear hHeld
            refine hK.out _ _ ⟨S12.out.xb.cell, S12.out.mb.cell⟩ (fun hHeld => ?_)
            clear hK K
            try simp only [Act.put, List.setIfInBounds_toArray, List.set_cons_zero, List.set_cons_succ]
            refine seg_op (by simp only [List.getElem?_toArray, List.getElem?_cons_succ, List.getElem?_cons_zero]; rfl) (fun K hK => ?_)
            go_wp2_with (go_at_call 48; refine (rep_0 wS.heap.size (⟨((o.now + d) + x.amt), o.next, frm, dst, A1, n, c1, bs⟩ : Mg) _ (Has.newAt wS.drew #[.int .i64 ((o.now + d) + x.amt), .int .i64 o.next, .int .i64 frm, .int .i64 dst, .slice A1 n c1] 40 (g := wS.heap.size) rfl)).mono ?_; rintro e wR ⟨⟨b2, cv, rfl, hg, ht, hle⟩, hb⟩; have S13 := Lib.hid (S12.out.past hb); have RG := Lib.hid hg; have RT := Lib.hid ht; have RL := Lib.hid hle; have ZR := Lib.hid hb.size; clear hb hg ht hle)
            clear hHeld
            refine hK.out _ _ ⟨S13.out.xb.cell, S13.out.mb.cell⟩ (fun hHeld => ?_)
            clear hK K
            try simp only [Act.put, List.setIfInBounds_toArray, List.set_cons_zero, List.set_cons_succ]
            refine seg_op (by simp only [List.getElem?_toArray, List.getElem?_cons_succ, List.getElem?_cons_zero]; rfl) (fun K hK => ?_)
            go_wp2_with (go_at_call 47; refine (insM_zero q.LA q.Ln q.Lc i b2 q.L wR S13.out.own.l.sl hi).mono ?_; rintro e wI ⟨rfl, rfl⟩)
            clear hHeld
            refine hK.out _ _ ⟨S13.out.xb.cell, S13.out.mb.cell⟩ (fun hHeld => ?_)
            clear hK K
            try simp only [Act.put, List.setIfInBounds_toArray, List.set_cons_zero, List.set_cons_succ]
            refine seg_tail rfl ?_
            clear hHeld
            have S14 := Lib.hid S13.out
            have LR := Lib.hid S13.out.own.l.rown
            have OS := Lib.hid S13.out.own
            obtain ⟨lo, hi2, r1, r2, r3, r4⟩ := S13.out.rows
            have apq := Lib.hid S13.out.ap
            have zx := Lib.hid S13.out.lx
            have XI := Lib.hid S13.out.xb
            have RI := Lib.hid S13.out.rb
            have TXI := Lib.hid S13.out.tx
            have TRI := Lib.hid S13.out.tr
            have BI := Lib.hid S13.out.below
            have SI := Lib.hid S13.out.own.s.rown
            have CI := Lib.hid S13.out.own.c.rown
            have KI := Lib.hid S13.out.own.k.rown
            have YI := Lib.hid S13.out.body.rown
            have R14 := Lib.hid (And.intro r1 (And.intro r2 r4))
            have fx := R14.out
            have ST : wR.grownBy (wR.setCell ⟨gx, 2, none⟩ (.slice q.LA q.Ln q.Lc)) (some gx) := setCells_grown gx [.slice q.LA q.Ln q.Lc] 2 wR
            have X2 := Lib.hid (show Has (wR.setCell ⟨gx, 2, none⟩ (.slice q.LA q.Ln q.Lc)) gx #[.int .i64 q.now, .int .i64 (q.next + 1), .slice q.LA q.Ln q.Lc, .slice q.SA q.Sn q.Sc, .slice q.CA q.Cn q.Cc, .slice q.KA q.Kn q.Kc] from XI.out.setAt 2 (.slice q.LA q.Ln q.Lc) (by simp))
            have R2 := Lib.hid (RI.out.grown ST nx5)
            have B2 := Lib.hid (BI.out.trans (grown_below ST BI.out.size (fun j hj => by injection hj with hj; have := zx.out; omega)))
            have L2 := Lib.hid (LR.out.apart ST (fun b hb e => by injection e with e; exact row_not LR.out.2 TXI.out (by decide) b hb e.symm))
            have S2 := Lib.hid (SI.out.apart ST (fun b hb e => by injection e with e; have := fx.1.2.1 b hb; omega))
            have C2 := Lib.hid (CI.out.apart ST (fun b hb e => by injection e with e; have := fx.1.2.2.1 b hb; omega))
            have K2 := Lib.hid (KI.out.apart ST (fun b hb e => by injection e with e; have := fx.1.2.2.2 b hb; omega))
            have Y2 := Lib.hid (YI.out.apart ST (fun b hb e => by injection e with e; have := (fx.2.2 b hb).1; omega))
            have xic := XI.out.cell
            have xil := XI.out.lt
            have xif := XI.out.free
            clear r1 r2 r3 r4 fx ST
            go_upto_region 23 with (fail)
            clear xic xil xif
            obtain ⟨wV, hV⟩ : ∃ wV, wV = (wR.setCell ⟨gx, 2, none⟩ (.slice q.LA q.Ln q.Lc)) := ⟨_, rfl⟩
            rw [← hV] at X2 R2 B2 L2 S2 C2 K2 Y2
            rw [← hV]
            clear hV
            have xvc := X2.out.cell
            have xvl := X2.out.lt
            have ric := R2.out.cell
            have ril := R2.out.lt
            have rif := R2.out.free
            go_wp2_with fail
            refine bodyPost_ret (v := .tuple #[(⟨q.now, q.next + 1, q.LA, q.Ln, q.Lc, q.L, q.SA, q.Sn, q.Sc, q.S, q.CA, q.Cn, q.Cc, q.C, q.KA, q.Kn, q.Kc, q.K⟩ : Nt).v, .int .i64 0]) (results_cell_tmp Try.results19 (g := w.heap.size + 1) rfl rfl (load27 (R2.out.set [.int .i64 q.now, .int .i64 (q.next + 1), .slice q.LA q.Ln q.Lc, .slice q.SA q.Sn q.Sc, .slice q.CA q.Cn q.Cc, .slice q.KA q.Kn q.Kc] rfl))) rfl ?_
            have SG := setCells_grown (w.heap.size + 1) [.int .i64 q.now, .int .i64 (q.next + 1), .slice q.LA q.Ln q.Lc, .slice q.SA q.Sn q.Sc, .slice q.CA q.Cn q.Cc, .slice q.KA q.Kn q.Kc] 0 wV
            have B3 := B2.out.trans (grown_below SG B2.out.size (fun j hj => by injection hj with hj; omega))
            have INL := S11.out.inL HO.out.l.each B3
            have MB : Sl u8K _ A1 n c1 bs := (((Y2.out.apart SG (fun b hb e => by injection e with e; have := (Y2.out.2.lt b hb).1; omega)).own (fun _ _ => trivial)).sl)
            refine ⟨NetRes.mk _ ?_ ⟨?_, ?_, ?_, ?_⟩, B3⟩
            · rw [sendV_none SB.out H5.out HM.out]
              unfold Nt.val
              simp only [S6.out.like.now, S6.out.like.next, S6.out.like.S, S6.out.like.C, S6.out.like.K, S6.out.like.L]
            · exact ((L2.out.apart SG (fun b hb e => by injection e with e; have := (L2.out.2.lt b hb).1; omega)).own (fun a ha => by
                exact INL a ha)).base (by omega)
            · exact ((S2.out.apart SG (fun b hb e => by injection e with e; have := (S2.out.2.lt b hb).1; omega)).own (fun a ha => S11.out.own.s.2.2 a ha)).base (by omega)
            · exact ((C2.out.apart SG (fun b hb e => by injection e with e; have := (C2.out.2.lt b hb).1; omega)).own (fun a ha => S11.out.own.c.2.2 a ha)).base (by omega)
            · exact ((K2.out.apart SG (fun b hb e => by injection e with e; have := (K2.out.2.lt b hb).1; omega)).own (fun a ha => S11.out.own.k.2.2 a ha)).base (by omega)
        · have e1 : (x.kind == 1) = true := by rw [beq_iff_eq]; exact k1
          have SL : Hid (slipOf o.val.S o.val.next = x) := SL0
          have SK : Hid (x.kind = 1) := k1
          have SA0 : Hid (x.amt = 0) := ha
          clear k1 ha
          have HM := Lib.hid (show manyV o.val frm dst = 0 from by unfold manyV; rw [SL.out, SK.out, HOP.out]; simp)
          have TE := Lib.hid (show o.val.now + d + (slipOf o.val.S o.val.next).amt = (o.now + d) from by rw [SL.out, SA0.out]; show o.now + d + 0 = o.now + d; omega)
          have lq : q.Ln ≤ 1024 := by rw [S6.out.like.Ln, ← HO.out.l.len]; have := chk_len HC.out; simpa [Nt.val] using this
          have VL := Lib.hid (show o.val.L.length = q.Ln from by rw [S6.out.like.Ln, ← HO.out.l.len]; simp [Nt.val])
          have ax := S8.out.xb.cell
          have axl := S8.out.xb.lt
          have axf := S8.out.xb.free
          have am := S8.out.mb.cell
          have aml := S8.out.mb.lt
          have amf := S8.out.mb.free
          have an := S8.out.nb.cell
          have anl := S8.out.nb.lt
          have ar := S8.out.rb.cell
          have arl := S8.out.rb.lt
          have arf := S8.out.rb.free
          have dl : decide ((1024 : Int) < (q.Ln : Int)) = false := decide_eq_false (by omega)
          have dln : decide (1024 < q.Ln) = false := decide_eq_false (by omega)
          as_aux_lemma =>
            go_wp2_with fail
            have ORD := Lib.hid (fun j k (hk : k < q.L.length) (hj : j < k) => (show aheadB (q.L[j]'(Nat.lt_trans hj hk)).val q.L[k].val = true from by
              have hk' : k < o.val.L.length := by rw [VL.out]; have := S6.out.own.l.1; omega
              have := chk_order HC.out j k hk' hj
              simp only [Nt.val, List.getElem_map] at this
              simp only [S6.out.like.L]
              exact this))
            have SRC := Lib.hid (searchM q.LA q.Ln q.Lc q.L (⟨(o.now + d), o.next, frm, dst, A1, n, c1, bs⟩ : Mg) _ 46 (fun y => if aheadB y.val ((⟨(o.now + d), o.next, frm, dst, A1, n, c1, bs⟩ : Mg)).val = true then -1 else 1) S9.out.own.l.sl (by omega) (enters_of Try.func46 (by kernel_rfl) rfl) (fun j k hk hj h => by
              have h1 : aheadB q.L[k].val ((⟨(o.now + d), o.next, frm, dst, A1, n, c1, bs⟩ : Mg)).val = true := by
                cases hh : aheadB q.L[k].val ((⟨(o.now + d), o.next, frm, dst, A1, n, c1, bs⟩ : Mg)).val with
                | true => rfl
                | false => rw [hh] at h; simp at h
              simp only [ahead_trans (ORD.out j k hk hj) h1, if_true]
              decide) (fun y _ W' _ => behind_any y (⟨(o.now + d), o.next, frm, dst, A1, n, c1, bs⟩ : Mg) W'))
            refine SRC.out.mono ?_
            rintro e wS ⟨i, bf, rfl, hS, hb⟩
            have PL := hS.1
            have P1 := Lib.hid (show ∀ j (h : j < q.L.length), j < i → aheadB q.L[j].val ((⟨(o.now + d), o.next, frm, dst, A1, n, c1, bs⟩ : Mg)).val = true from fun j h hj => by
              have h0 : (if aheadB q.L[j].val ((⟨(o.now + d), o.next, frm, dst, A1, n, c1, bs⟩ : Mg)).val = true then (-1 : Int) else 1) < 0 := hS.2.1 j h hj
              cases hh : aheadB q.L[j].val ((⟨(o.now + d), o.next, frm, dst, A1, n, c1, bs⟩ : Mg)).val with
              | true => rfl
              | false => rw [hh] at h0; simp at h0)
            have P2 := Lib.hid (show ∀ h : i < q.L.length, aheadB q.L[i].val ((⟨(o.now + d), o.next, frm, dst, A1, n, c1, bs⟩ : Mg)).val = false from fun h => by
              have h0 : 0 ≤ (if aheadB q.L[i].val ((⟨(o.now + d), o.next, frm, dst, A1, n, c1, bs⟩ : Mg)).val = true then (-1 : Int) else 1) := hS.2.2.1 i h (Nat.le_refl _)
              cases hh : aheadB q.L[i].val ((⟨(o.now + d), o.next, frm, dst, A1, n, c1, bs⟩ : Mg)).val with
              | false => rfl
              | true => rw [hh] at h0; simp at h0)
            have hi : i ≤ q.Ln := by rw [← S9.out.own.l.1]; exact PL
            have S11 := Lib.hid (S9.out.past hb)
            have S12 := Lib.hid (S11.out.past (show Below wS.heap.size wS (wS.drew.alloc (.cells #[.int .i64 (o.now + d), .int .i64 o.next, .int .i64 frm, .int .i64 dst, .slice A1 n c1] 40)) from (Below.refl wS.heap.size wS).drew.alloc (Nat.le_refl _) _))
            clear hS hb PL SRC ORD
            clear ax axl axf am aml amf an anl ar arl arf
            have ex := S11.out.xb.cell
            have exl := S11.out.xb.lt
            have exf := S11.out.xb.free
            have em := S11.out.mb.cell
            have eml := S11.out.mb.lt
            have emf := S11.out.mb.free
            have en := S11.out.nb.cell
            have enl := S11.out.nb.lt
            have er := S11.out.rb.cell
            have erl := S11.out.rb.lt
            have erf := S11.out.rb.free
            go_wp2_with fail
            clear ex exl exf em eml emf en enl er erl erf
            refine region_seg (fun w' => (∀ i, w'.cell? ⟨gx, i, none⟩ = (#[.int .i64 q.now, .int .i64 (q.next + 1), .slice q.LA q.Ln q.Lc, .slice q.SA q.Sn q.Sc, .slice q.CA q.Cn q.Cc, .slice q.KA q.Kn q.Kc] : Array Value)[i]?) ∧ (∀ i, w'.cell? ⟨gm, i, none⟩ = (#[.int .i64 (o.now + d), .int .i64 o.next, .int .i64 frm, .int .i64 dst, .slice A1 n c1] : Array Value)[i]?)) 8 [(0, true), (1, true), (2, true), (3, true), (5, true), (4, false), (6, false), (7, false)] (by kernel_rfl) (by kernel_rfl) ⟨S11.out.xb.drew.cell, S11.out.mb.drew.cell⟩ (fun hHeld => ?_)
            iterate 5
              refine seg_take (v := ?_) (by simp only [List.getElem?_toArray, List.getElem?_cons_succ, List.getElem?_cons_zero]; rfl) (Or.inl ⟨by rfl, ?_⟩) ?_
              rotate_left 1
              · intro w hSw
                try dsimp only at hSw
                go_simp
                try with_reducible rfl
              try simp only [Act.put, List.setIfInBounds_toArray, List.set_cons_zero, List.set_cons_succ]
            refine seg_op (by simp only [List.getElem?_toArray, List.getElem?_cons_succ, List.getElem?_cons_zero]; rfl) (fun K hK => ?_)
            refine wpList_build1 _ rfl 22 40 _ rfl i0 _ Try.underlying22 hi0 hz0 #[.int .i64 (o.now + d), .int .i64 o.next, .int .i64 frm, .int .i64 dst, .slice A1 n c1] rfl 5 hs0 rfl (by decide) (by decide) (some 125) rfl wS.heap.size rfl ?_
            refine wpList_nil ?_
            clear hHeld
            refine hK.out _ _ ⟨S12.out.xb.cell, S12.out.mb.cell⟩ (fun hHeld => ?_)
            clear hK K
            try simp only [Act.put, List.setIfInBounds_toArray, List.set_cons_zero, List.set_cons_succ]
            refine seg_op (by simp only [List.getElem?_toArray, List.getElem?_cons_succ, List.getElem?_cons_zero]; rfl) (fun K hK => ?_)
            go_wp2_with (go_at_call 48; refine (rep_0 wS.heap.size (⟨(o.now + d), o.next, frm, dst, A1, n, c1, bs⟩ : Mg) _ (Has.newAt wS.drew #[.int .i64 (o.now + d), .int .i64 o.next, .int .i64 frm, .int .i64 dst, .slice A1 n c1] 40 (g := wS.heap.size) rfl)).mono ?_; rintro e wR ⟨⟨b2, cv, rfl, hg, ht, hle⟩, hb⟩; have S13 := Lib.hid (S12.out.past hb); have RG := Lib.hid hg; have RT := Lib.hid ht; have RL := Lib.hid hle; have ZR := Lib.hid hb.size; clear hb hg ht hle)
            clear hHeld
            refine hK.out _ _ ⟨S13.out.xb.cell, S13.out.mb.cell⟩ (fun hHeld => ?_)
            clear hK K
            try simp only [Act.put, List.setIfInBounds_toArray, List.set_cons_zero, List.set_cons_succ]
            refine seg_op (by simp only [List.getElem?_toArray, List.getElem?_cons_succ, List.getElem?_cons_zero]; rfl) (fun K hK => ?_)
            go_wp2_with (go_at_call 47; refine (insM_zero q.LA q.Ln q.Lc i b2 q.L wR S13.out.own.l.sl hi).mono ?_; rintro e wI ⟨rfl, rfl⟩)
            clear hHeld
            refine hK.out _ _ ⟨S13.out.xb.cell, S13.out.mb.cell⟩ (fun hHeld => ?_)
            clear hK K
            try simp only [Act.put, List.setIfInBounds_toArray, List.set_cons_zero, List.set_cons_succ]
            refine seg_tail rfl ?_
            clear hHeld
            have S14 := Lib.hid S13.out
            have LR := Lib.hid S13.out.own.l.rown
            have OS := Lib.hid S13.out.own
            obtain ⟨lo, hi2, r1, r2, r3, r4⟩ := S13.out.rows
            have apq := Lib.hid S13.out.ap
            have zx := Lib.hid S13.out.lx
            have XI := Lib.hid S13.out.xb
            have RI := Lib.hid S13.out.rb
            have TXI := Lib.hid S13.out.tx
            have TRI := Lib.hid S13.out.tr
            have BI := Lib.hid S13.out.below
            have SI := Lib.hid S13.out.own.s.rown
            have CI := Lib.hid S13.out.own.c.rown
            have KI := Lib.hid S13.out.own.k.rown
            have YI := Lib.hid S13.out.body.rown
            have R14 := Lib.hid (And.intro r1 (And.intro r2 r4))
            have fx := R14.out
            have ST : wR.grownBy (wR.setCell ⟨gx, 2, none⟩ (.slice q.LA q.Ln q.Lc)) (some gx) := setCells_grown gx [.slice q.LA q.Ln q.Lc] 2 wR
            have X2 := Lib.hid (show Has (wR.setCell ⟨gx, 2, none⟩ (.slice q.LA q.Ln q.Lc)) gx #[.int .i64 q.now, .int .i64 (q.next + 1), .slice q.LA q.Ln q.Lc, .slice q.SA q.Sn q.Sc, .slice q.CA q.Cn q.Cc, .slice q.KA q.Kn q.Kc] from XI.out.setAt 2 (.slice q.LA q.Ln q.Lc) (by simp))
            have R2 := Lib.hid (RI.out.grown ST nx5)
            have B2 := Lib.hid (BI.out.trans (grown_below ST BI.out.size (fun j hj => by injection hj with hj; have := zx.out; omega)))
            have L2 := Lib.hid (LR.out.apart ST (fun b hb e => by injection e with e; exact row_not LR.out.2 TXI.out (by decide) b hb e.symm))
            have S2 := Lib.hid (SI.out.apart ST (fun b hb e => by injection e with e; have := fx.1.2.1 b hb; omega))
            have C2 := Lib.hid (CI.out.apart ST (fun b hb e => by injection e with e; have := fx.1.2.2.1 b hb; omega))
            have K2 := Lib.hid (KI.out.apart ST (fun b hb e => by injection e with e; have := fx.1.2.2.2 b hb; omega))
            have Y2 := Lib.hid (YI.out.apart ST (fun b hb e => by injection e with e; have := (fx.2.2 b hb).1; omega))
            have xic := XI.out.cell
            have xil := XI.out.lt
            have xif := XI.out.free
            clear r1 r2 r3 r4 fx ST
            go_upto_region 23 with (fail)
            clear xic xil xif
            obtain ⟨wV, hV⟩ : ∃ wV, wV = (wR.setCell ⟨gx, 2, none⟩ (.slice q.LA q.Ln q.Lc)) := ⟨_, rfl⟩
            rw [← hV] at X2 R2 B2 L2 S2 C2 K2 Y2
            rw [← hV]
            clear hV
            have xvc := X2.out.cell
            have xvl := X2.out.lt
            have ric := R2.out.cell
            have ril := R2.out.lt
            have rif := R2.out.free
            go_wp2_with fail
            refine bodyPost_ret (v := .tuple #[(⟨q.now, q.next + 1, q.LA, q.Ln, q.Lc, q.L, q.SA, q.Sn, q.Sc, q.S, q.CA, q.Cn, q.Cc, q.C, q.KA, q.Kn, q.Kc, q.K⟩ : Nt).v, .int .i64 0]) (results_cell_tmp Try.results19 (g := w.heap.size + 1) rfl rfl (load27 (R2.out.set [.int .i64 q.now, .int .i64 (q.next + 1), .slice q.LA q.Ln q.Lc, .slice q.SA q.Sn q.Sc, .slice q.CA q.Cn q.Cc, .slice q.KA q.Kn q.Kc] rfl))) rfl ?_
            have SG := setCells_grown (w.heap.size + 1) [.int .i64 q.now, .int .i64 (q.next + 1), .slice q.LA q.Ln q.Lc, .slice q.SA q.Sn q.Sc, .slice q.CA q.Cn q.Cc, .slice q.KA q.Kn q.Kc] 0 wV
            have B3 := B2.out.trans (grown_below SG B2.out.size (fun j hj => by injection hj with hj; omega))
            have INL := S11.out.inL HO.out.l.each B3
            have MB : Sl u8K _ A1 n c1 bs := (((Y2.out.apart SG (fun b hb e => by injection e with e; have := (Y2.out.2.lt b hb).1; omega)).own (fun _ _ => trivial)).sl)
            refine ⟨NetRes.mk _ ?_ ⟨?_, ?_, ?_, ?_⟩, B3⟩
            · rw [sendV_none SB.out H5.out HM.out]
              unfold Nt.val
              simp only [S6.out.like.now, S6.out.like.next, S6.out.like.S, S6.out.like.C, S6.out.like.K, S6.out.like.L]
            · exact ((L2.out.apart SG (fun b hb e => by injection e with e; have := (L2.out.2.lt b hb).1; omega)).own (fun a ha => by
                exact INL a ha)).base (by omega)
            · exact ((S2.out.apart SG (fun b hb e => by injection e with e; have := (S2.out.2.lt b hb).1; omega)).own (fun a ha => S11.out.own.s.2.2 a ha)).base (by omega)
            · exact ((C2.out.apart SG (fun b hb e => by injection e with e; have := (C2.out.2.lt b hb).1; omega)).own (fun a ha => S11.out.own.c.2.2 a ha)).base (by omega)
            · exact ((K2.out.apart SG (fun b hb e => by injection e with e; have := (K2.out.2.lt b hb).1; omega)).own (fun a ha => S11.out.own.k.2.2 a ha)).base (by omega)
        · have e1 : (x.kind == 1) = false := by rw [beq_eq_false_iff_ne]; omega
          have e2 : (x.kind == 2) = true := by rw [beq_iff_eq]; exact k2
          have SL : Hid (slipOf o.val.S o.val.next = x) := SL0
          have SK : Hid (x.kind = 2) := k2
          have SA0 : Hid (x.amt = 0) := ha
          clear k2 ha
          have HM := Lib.hid (show manyV o.val frm dst = 0 from by unfold manyV; rw [SL.out, SK.out, HOP.out]; simp)
          have TE := Lib.hid (show o.val.now + d + (slipOf o.val.S o.val.next).amt = (o.now + d) from by rw [SL.out, SA0.out]; show o.now + d + 0 = o.now + d; omega)
          have lq : q.Ln ≤ 1024 := by rw [S6.out.like.Ln, ← HO.out.l.len]; have := chk_len HC.out; simpa [Nt.val] using this
          have VL := Lib.hid (show o.val.L.length = q.Ln from by rw [S6.out.like.Ln, ← HO.out.l.len]; simp [Nt.val])
          have ax := S8.out.xb.cell
          have axl := S8.out.xb.lt
          have axf := S8.out.xb.free
          have am := S8.out.mb.cell
          have aml := S8.out.mb.lt
          have amf := S8.out.mb.free
          have an := S8.out.nb.cell
          have anl := S8.out.nb.lt
          have ar := S8.out.rb.cell
          have arl := S8.out.rb.lt
          have arf := S8.out.rb.free
          have dl : decide ((1024 : Int) < (q.Ln : Int)) = false := decide_eq_false (by omega)
          have dln : decide (1024 < q.Ln) = false := decide_eq_false (by omega)
          as_aux_lemma =>
            go_wp2_with fail
            have ORD := Lib.hid (fun j k (hk : k < q.L.length) (hj : j < k) => (show aheadB (q.L[j]'(Nat.lt_trans hj hk)).val q.L[k].val = true from by
              have hk' : k < o.val.L.length := by rw [VL.out]; have := S6.out.own.l.1; omega
              have := chk_order HC.out j k hk' hj
              simp only [Nt.val, List.getElem_map] at this
              simp only [S6.out.like.L]
              exact this))
            have SRC := Lib.hid (searchM q.LA q.Ln q.Lc q.L (⟨(o.now + d), o.next, frm, dst, A1, n, c1, bs⟩ : Mg) _ 46 (fun y => if aheadB y.val ((⟨(o.now + d), o.next, frm, dst, A1, n, c1, bs⟩ : Mg)).val = true then -1 else 1) S9.out.own.l.sl (by omega) (enters_of Try.func46 (by kernel_rfl) rfl) (fun j k hk hj h => by
              have h1 : aheadB q.L[k].val ((⟨(o.now + d), o.next, frm, dst, A1, n, c1, bs⟩ : Mg)).val = true := by
                cases hh : aheadB q.L[k].val ((⟨(o.now + d), o.next, frm, dst, A1, n, c1, bs⟩ : Mg)).val with
                | true => rfl
                | false => rw [hh] at h; simp at h
              simp only [ahead_trans (ORD.out j k hk hj) h1, if_true]
              decide) (fun y _ W' _ => behind_any y (⟨(o.now + d), o.next, frm, dst, A1, n, c1, bs⟩ : Mg) W'))
            refine SRC.out.mono ?_
            rintro e wS ⟨i, bf, rfl, hS, hb⟩
            have PL := hS.1
            have P1 := Lib.hid (show ∀ j (h : j < q.L.length), j < i → aheadB q.L[j].val ((⟨(o.now + d), o.next, frm, dst, A1, n, c1, bs⟩ : Mg)).val = true from fun j h hj => by
              have h0 : (if aheadB q.L[j].val ((⟨(o.now + d), o.next, frm, dst, A1, n, c1, bs⟩ : Mg)).val = true then (-1 : Int) else 1) < 0 := hS.2.1 j h hj
              cases hh : aheadB q.L[j].val ((⟨(o.now + d), o.next, frm, dst, A1, n, c1, bs⟩ : Mg)).val with
              | true => rfl
              | false => rw [hh] at h0; simp at h0)
            have P2 := Lib.hid (show ∀ h : i < q.L.length, aheadB q.L[i].val ((⟨(o.now + d), o.next, frm, dst, A1, n, c1, bs⟩ : Mg)).val = false from fun h => by
              have h0 : 0 ≤ (if aheadB q.L[i].val ((⟨(o.now + d), o.next, frm, dst, A1, n, c1, bs⟩ : Mg)).val = true then (-1 : Int) else 1) := hS.2.2.1 i h (Nat.le_refl _)
              cases hh : aheadB q.L[i].val ((⟨(o.now + d), o.next, frm, dst, A1, n, c1, bs⟩ : Mg)).val with
              | false => rfl
              | true => rw [hh] at h0; simp at h0)
            have hi : i ≤ q.Ln := by rw [← S9.out.own.l.1]; exact PL
            have S11 := Lib.hid (S9.out.past hb)
            have S12 := Lib.hid (S11.out.past (show Below wS.heap.size wS (wS.drew.alloc (.cells #[.int .i64 (o.now + d), .int .i64 o.next, .int .i64 frm, .int .i64 dst, .slice A1 n c1] 40)) from (Below.refl wS.heap.size wS).drew.alloc (Nat.le_refl _) _))
            clear hS hb PL SRC ORD
            clear ax axl axf am aml amf an anl ar arl arf
            have ex := S11.out.xb.cell
            have exl := S11.out.xb.lt
            have exf := S11.out.xb.free
            have em := S11.out.mb.cell
            have eml := S11.out.mb.lt
            have emf := S11.out.mb.free
            have en := S11.out.nb.cell
            have enl := S11.out.nb.lt
            have er := S11.out.rb.cell
            have erl := S11.out.rb.lt
            have erf := S11.out.rb.free
            go_wp2_with fail
            clear ex exl exf em eml emf en enl er erl erf
            refine region_seg (fun w' => (∀ i, w'.cell? ⟨gx, i, none⟩ = (#[.int .i64 q.now, .int .i64 (q.next + 1), .slice q.LA q.Ln q.Lc, .slice q.SA q.Sn q.Sc, .slice q.CA q.Cn q.Cc, .slice q.KA q.Kn q.Kc] : Array Value)[i]?) ∧ (∀ i, w'.cell? ⟨gm, i, none⟩ = (#[.int .i64 (o.now + d), .int .i64 o.next, .int .i64 frm, .int .i64 dst, .slice A1 n c1] : Array Value)[i]?)) 8 [(0, true), (1, true), (2, true), (3, true), (5, true), (4, false), (6, false), (7, false)] (by kernel_rfl) (by kernel_rfl) ⟨S11.out.xb.drew.cell, S11.out.mb.drew.cell⟩ (fun hHeld => ?_)
            iterate 5
              refine seg_take (v := ?_) (by simp only [List.getElem?_toArray, List.getElem?_cons_succ, List.getElem?_cons_zero]; rfl) (Or.inl ⟨by rfl, ?_⟩) ?_
              rotate_left 1
              · intro w hSw
                try dsimp only at hSw
                go_simp
                try with_reducible rfl
              try simp only [Act.put, List.setIfInBounds_toArray, List.set_cons_zero, List.set_cons_succ]
            refine seg_op (by simp only [List.getElem?_toArray, List.getElem?_cons_succ, List.getElem?_cons_zero]; rfl) (fun K hK => ?_)
            refine wpList_build1 _ rfl 22 40 _ rfl i0 _ Try.underlying22 hi0 hz0 #[.int .i64 (o.now + d), .int .i64 o.next, .int .i64 frm, .int .i64 dst, .slice A1 n c1] rfl 5 hs0 rfl (by decide) (by decide) (some 125) rfl wS.heap.size rfl ?_
            refine wpList_nil ?_
            clear hHeld
            refine hK.out _ _ ⟨S12.out.xb.cell, S12.out.mb.cell⟩ (fun hHeld => ?_)
            clear hK K
            try simp only [Act.put, List.setIfInBounds_toArray, List.set_cons_zero, List.set_cons_succ]
            refine seg_op (by simp only [List.getElem?_toArray, List.getElem?_cons_succ, List.getElem?_cons_zero]; rfl) (fun K hK => ?_)
            go_wp2_with (go_at_call 48; refine (rep_0 wS.heap.size (⟨(o.now + d), o.next, frm, dst, A1, n, c1, bs⟩ : Mg) _ (Has.newAt wS.drew #[.int .i64 (o.now + d), .int .i64 o.next, .int .i64 frm, .int .i64 dst, .slice A1 n c1] 40 (g := wS.heap.size) rfl)).mono ?_; rintro e wR ⟨⟨b2, cv, rfl, hg, ht, hle⟩, hb⟩; have S13 := Lib.hid (S12.out.past hb); have RG := Lib.hid hg; have RT := Lib.hid ht; have RL := Lib.hid hle; have ZR := Lib.hid hb.size; clear hb hg ht hle)
            clear hHeld
            refine hK.out _ _ ⟨S13.out.xb.cell, S13.out.mb.cell⟩ (fun hHeld => ?_)
            clear hK K
            try simp only [Act.put, List.setIfInBounds_toArray, List.set_cons_zero, List.set_cons_succ]
            refine seg_op (by simp only [List.getElem?_toArray, List.getElem?_cons_succ, List.getElem?_cons_zero]; rfl) (fun K hK => ?_)
            go_wp2_with (go_at_call 47; refine (insM_zero q.LA q.Ln q.Lc i b2 q.L wR S13.out.own.l.sl hi).mono ?_; rintro e wI ⟨rfl, rfl⟩)
            clear hHeld
            refine hK.out _ _ ⟨S13.out.xb.cell, S13.out.mb.cell⟩ (fun hHeld => ?_)
            clear hK K
            try simp only [Act.put, List.setIfInBounds_toArray, List.set_cons_zero, List.set_cons_succ]
            refine seg_tail rfl ?_
            clear hHeld
            have S14 := Lib.hid S13.out
            have LR := Lib.hid S13.out.own.l.rown
            have OS := Lib.hid S13.out.own
            obtain ⟨lo, hi2, r1, r2, r3, r4⟩ := S13.out.rows
            have apq := Lib.hid S13.out.ap
            have zx := Lib.hid S13.out.lx
            have XI := Lib.hid S13.out.xb
            have RI := Lib.hid S13.out.rb
            have TXI := Lib.hid S13.out.tx
            have TRI := Lib.hid S13.out.tr
            have BI := Lib.hid S13.out.below
            have SI := Lib.hid S13.out.own.s.rown
            have CI := Lib.hid S13.out.own.c.rown
            have KI := Lib.hid S13.out.own.k.rown
            have YI := Lib.hid S13.out.body.rown
            have R14 := Lib.hid (And.intro r1 (And.intro r2 r4))
            have fx := R14.out
            have ST : wR.grownBy (wR.setCell ⟨gx, 2, none⟩ (.slice q.LA q.Ln q.Lc)) (some gx) := setCells_grown gx [.slice q.LA q.Ln q.Lc] 2 wR
            have X2 := Lib.hid (show Has (wR.setCell ⟨gx, 2, none⟩ (.slice q.LA q.Ln q.Lc)) gx #[.int .i64 q.now, .int .i64 (q.next + 1), .slice q.LA q.Ln q.Lc, .slice q.SA q.Sn q.Sc, .slice q.CA q.Cn q.Cc, .slice q.KA q.Kn q.Kc] from XI.out.setAt 2 (.slice q.LA q.Ln q.Lc) (by simp))
            have R2 := Lib.hid (RI.out.grown ST nx5)
            have B2 := Lib.hid (BI.out.trans (grown_below ST BI.out.size (fun j hj => by injection hj with hj; have := zx.out; omega)))
            have L2 := Lib.hid (LR.out.apart ST (fun b hb e => by injection e with e; exact row_not LR.out.2 TXI.out (by decide) b hb e.symm))
            have S2 := Lib.hid (SI.out.apart ST (fun b hb e => by injection e with e; have := fx.1.2.1 b hb; omega))
            have C2 := Lib.hid (CI.out.apart ST (fun b hb e => by injection e with e; have := fx.1.2.2.1 b hb; omega))
            have K2 := Lib.hid (KI.out.apart ST (fun b hb e => by injection e with e; have := fx.1.2.2.2 b hb; omega))
            have Y2 := Lib.hid (YI.out.apart ST (fun b hb e => by injection e with e; have := (fx.2.2 b hb).1; omega))
            have xic := XI.out.cell
            have xil := XI.out.lt
            have xif := XI.out.free
            clear r1 r2 r3 r4 fx ST
            go_upto_region 23 with (fail)
            clear xic xil xif
            obtain ⟨wV, hV⟩ : ∃ wV, wV = (wR.setCell ⟨gx, 2, none⟩ (.slice q.LA q.Ln q.Lc)) := ⟨_, rfl⟩
            rw [← hV] at X2 R2 B2 L2 S2 C2 K2 Y2
            rw [← hV]
            clear hV
            have xvc := X2.out.cell
            have xvl := X2.out.lt
            have ric := R2.out.cell
            have ril := R2.out.lt
            have rif := R2.out.free
            go_wp2_with fail
            refine bodyPost_ret (v := .tuple #[(⟨q.now, q.next + 1, q.LA, q.Ln, q.Lc, q.L, q.SA, q.Sn, q.Sc, q.S, q.CA, q.Cn, q.Cc, q.C, q.KA, q.Kn, q.Kc, q.K⟩ : Nt).v, .int .i64 0]) (results_cell_tmp Try.results19 (g := w.heap.size + 1) rfl rfl (load27 (R2.out.set [.int .i64 q.now, .int .i64 (q.next + 1), .slice q.LA q.Ln q.Lc, .slice q.SA q.Sn q.Sc, .slice q.CA q.Cn q.Cc, .slice q.KA q.Kn q.Kc] rfl))) rfl ?_
            have SG := setCells_grown (w.heap.size + 1) [.int .i64 q.now, .int .i64 (q.next + 1), .slice q.LA q.Ln q.Lc, .slice q.SA q.Sn q.Sc, .slice q.CA q.Cn q.Cc, .slice q.KA q.Kn q.Kc] 0 wV
            have B3 := B2.out.trans (grown_below SG B2.out.size (fun j hj => by injection hj with hj; omega))
            have INL := S11.out.inL HO.out.l.each B3
            have MB : Sl u8K _ A1 n c1 bs := (((Y2.out.apart SG (fun b hb e => by injection e with e; have := (Y2.out.2.lt b hb).1; omega)).own (fun _ _ => trivial)).sl)
            refine ⟨NetRes.mk _ ?_ ⟨?_, ?_, ?_, ?_⟩, B3⟩
            · rw [sendV_none SB.out H5.out HM.out]
              unfold Nt.val
              simp only [S6.out.like.now, S6.out.like.next, S6.out.like.S, S6.out.like.C, S6.out.like.K, S6.out.like.L]
            · exact ((L2.out.apart SG (fun b hb e => by injection e with e; have := (L2.out.2.lt b hb).1; omega)).own (fun a ha => by
                exact INL a ha)).base (by omega)
            · exact ((S2.out.apart SG (fun b hb e => by injection e with e; have := (S2.out.2.lt b hb).1; omega)).own (fun a ha => S11.out.own.s.2.2 a ha)).base (by omega)
            · exact ((C2.out.apart SG (fun b hb e => by injection e with e; have := (C2.out.2.lt b hb).1; omega)).own (fun a ha => S11.out.own.c.2.2 a ha)).base (by omega)
            · exact ((K2.out.apart SG (fun b hb e => by injection e with e; have := (K2.out.2.lt b hb).1; omega)).own (fun a ha => S11.out.own.k.2.2 a ha)).base (by omega)
    | true =>
      have HOP := Lib.hid hop
      clear hop
      go_wp2_with (go_at_call 25; refine (open_any o frm dst _ (HO.out.below S6.out.below) (by have := HF.out.s; omega)).mono ?_; rintro e w7 ⟨rfl, hb⟩; rw [HOP.out]; have S7 := Lib.hid (S6.out.past hb); clear ax axl axf am aml amf an anl ar arl arf; have bx := S7.out.xb.cell; have bxl := S7.out.xb.lt; have bxf := S7.out.xb.free; have bm := S7.out.mb.cell; have bml := S7.out.mb.lt; have bmf := S7.out.mb.free; have bn := S7.out.nb.cell; have bnl := S7.out.nb.lt; have br := S7.out.rb.cell; have brl := S7.out.rb.lt; have brf := S7.out.rb.free; clear hb)
      have IX := Lib.hid (indexS o.SA o.Sn o.Sc o.S w7 44 #[.pointer (some ⟨gm, 0, none⟩)] (fun _ W => Below w7.heap.size w7 W) (fun j => match o.S[j]? with | some x => decide (x.no = o.next) | none => false)
        (enters_of Try.func44 (by kernel_rfl) rfl) (by have := HF.out.s; omega) (Below.refl _ _) (fun _ W hb => (HO.out.s.below S7.out.below).below hb) (fun j hj W hb => by
          refine (show Calls Try.prog 44 #[.agg #[.int .i64 o.S[j].no, .int .i64 o.S[j].kind, .int .i64 o.S[j].amt], .pointer (some ⟨gm, 0, none⟩)] W _ from strikes_any o.S[j] ⟨(o.now + d), o.next, frm, dst, A1, n, c1, bs⟩ gm W (S7.out.mb.past hb)).mono ?_
          rintro e w' ⟨h1, h2⟩
          refine ⟨?_, below_from h2 hb hb.size⟩
          rw [h1, List.getElem?_eq_getElem hj]))
      refine IX.out.mono ?_
      rintro e w8 ⟨r, rfl, hF⟩
      clear IX
      have KK : Hid (Below w7.heap.size w7 w8 ∧ ((r = -1 ∧ slipOf o.S o.next = ⟨0, 0, 0⟩) ∨ ∃ k : Nat, ∃ hk : k < o.S.length, r = k ∧ k < o.Sn ∧ slipOf o.S o.next = o.S[k])) := Lib.hid (by
        have LS : o.S.length = o.Sn := HO.out.s.len
        rcases hF with ⟨rfl, hall, hb⟩ | ⟨k, rfl, hkn, hpk, hbefore, hb⟩
        · refine ⟨hb, .inl ⟨rfl, slip_no (fun j hj => ?_)⟩⟩
          have := hall j (by omega)
          simp only [List.getElem?_eq_getElem hj] at this
          exact of_decide_eq_false this
        · have hkl : k < o.S.length := by omega
          refine ⟨hb, .inr ⟨k, hkl, rfl, hkn, slip_at hkl ?_ (fun j hj hjk => ?_)⟩⟩
          · simp only [List.getElem?_eq_getElem hkl] at hpk
            exact of_decide_eq_true hpk
          · have := hbefore j hjk
            simp only [List.getElem?_eq_getElem hj] at this
            exact of_decide_eq_false this)
      clear hF
      obtain ⟨hb, hr⟩ := KK.out
      clear KK
      have S8 := Lib.hid (S7.out.past hb)
      clear bx bxl bxf bm bml bmf bn bnl br brl brf
      clear hb
      rcases hr with ⟨rfl, hsl⟩ | ⟨k, hkl, rfl, hkn, hsl⟩
      · have SL := Lib.hid (show slipOf o.val.S o.val.next = ⟨0, 0, 0⟩ from hsl)
        clear hsl
        have HM := Lib.hid (show manyV o.val frm dst = 1 from by unfold manyV; rw [SL.out, HOP.out]; simp)
        have TE := Lib.hid (show o.val.now + d + (slipOf o.val.S o.val.next).amt = (o.now + d) from by rw [SL.out]; show o.now + d + 0 = o.now + d; omega)
        have lq : q.Ln ≤ 1024 := by rw [S6.out.like.Ln, ← HO.out.l.len]; have := chk_len HC.out; simpa [Nt.val] using this
        have VL := Lib.hid (show o.val.L.length = q.Ln from by rw [S6.out.like.Ln, ← HO.out.l.len]; simp [Nt.val])
        have ax := S8.out.xb.cell
        have axl := S8.out.xb.lt
        have axf := S8.out.xb.free
        have am := S8.out.mb.cell
        have aml := S8.out.mb.lt
        have amf := S8.out.mb.free
        have an := S8.out.nb.cell
        have anl := S8.out.nb.lt
        have ar := S8.out.rb.cell
        have arl := S8.out.rb.lt
        have arf := S8.out.rb.free
        by_cases hT : 1099511627776 < (o.now + d)
        · have dt : decide (1099511627776 < (o.now + d)) = true := decide_eq_true hT
          have TV := Lib.hid (sendV_bound SB.out H5.out (by rw [HM.out]; omega) (.inl (by rw [TE.out]; exact hT)))
          as_aux_lemma =>
            go_wp2_with fail
            refine bodyPost_ret (v := .tuple #[noN.v, .int .i64 2]) (results_cell_tmp Try.results19 (g := w.heap.size + 1) rfl rfl (load27 (S8.out.rb.set [.int .i64 0, .int .i64 0, .slice none 0 0, .slice none 0 0, .slice none 0 0, .slice none 0 0] rfl))) rfl ?_
            exact ⟨NetRes.no TV.out, S8.out.below.trans (grown_below (setCells_grown (w.heap.size + 1) [.int .i64 0, .int .i64 0, .slice none 0 0, .slice none 0 0, .slice none 0 0, .slice none 0 0] 0 w8) S8.out.below.size (fun q hq => by injection hq with hq; omega))⟩
        have dt : decide (1099511627776 < (o.now + d)) = false := decide_eq_false hT
        by_cases hL : 1024 < q.Ln + 1
        · have dl : decide ((1024 : Int) < (q.Ln : Int) + 1) = true := decide_eq_true (by omega)
          have TV := Lib.hid (sendV_bound SB.out H5.out (by rw [HM.out]; omega) (.inr (by rw [HM.out, VL.out]; exact hL)))
          as_aux_lemma =>
            go_wp2_with fail
            refine bodyPost_ret (v := .tuple #[noN.v, .int .i64 2]) (results_cell_tmp Try.results19 (g := w.heap.size + 1) rfl rfl (load27 (S8.out.rb.set [.int .i64 0, .int .i64 0, .slice none 0 0, .slice none 0 0, .slice none 0 0, .slice none 0 0] rfl))) rfl ?_
            exact ⟨NetRes.no TV.out, S8.out.below.trans (grown_below (setCells_grown (w.heap.size + 1) [.int .i64 0, .int .i64 0, .slice none 0 0, .slice none 0 0, .slice none 0 0, .slice none 0 0] 0 w8) S8.out.below.size (fun q hq => by injection hq with hq; omega))⟩
        have dl : decide ((1024 : Int) < (q.Ln : Int) + 1) = false := decide_eq_false (by omega)
        as_aux_lemma =>
          go_wp2_with fail
          have ORD := Lib.hid (fun j k (hk : k < q.L.length) (hj : j < k) => (show aheadB (q.L[j]'(Nat.lt_trans hj hk)).val q.L[k].val = true from by
            have hk' : k < o.val.L.length := by rw [VL.out]; have := S6.out.own.l.1; omega
            have := chk_order HC.out j k hk' hj
            simp only [Nt.val, List.getElem_map] at this
            simp only [S6.out.like.L]
            exact this))
          have SRC := Lib.hid (searchM q.LA q.Ln q.Lc q.L (⟨(o.now + d), o.next, frm, dst, A1, n, c1, bs⟩ : Mg) _ 46 (fun y => if aheadB y.val ((⟨(o.now + d), o.next, frm, dst, A1, n, c1, bs⟩ : Mg)).val = true then -1 else 1) S8.out.own.l.sl (by omega) (enters_of Try.func46 (by kernel_rfl) rfl) (fun j k hk hj h => by
            have h1 : aheadB q.L[k].val ((⟨(o.now + d), o.next, frm, dst, A1, n, c1, bs⟩ : Mg)).val = true := by
              cases hh : aheadB q.L[k].val ((⟨(o.now + d), o.next, frm, dst, A1, n, c1, bs⟩ : Mg)).val with
              | true => rfl
              | false => rw [hh] at h; simp at h
            simp only [ahead_trans (ORD.out j k hk hj) h1, if_true]
            decide) (fun y _ W' _ => behind_any y (⟨(o.now + d), o.next, frm, dst, A1, n, c1, bs⟩ : Mg) W'))
          refine SRC.out.mono ?_
          rintro e wS ⟨i, bf, rfl, hS, hb⟩
          have PL := hS.1
          have P1 := Lib.hid (show ∀ j (h : j < q.L.length), j < i → aheadB q.L[j].val ((⟨(o.now + d), o.next, frm, dst, A1, n, c1, bs⟩ : Mg)).val = true from fun j h hj => by
            have h0 : (if aheadB q.L[j].val ((⟨(o.now + d), o.next, frm, dst, A1, n, c1, bs⟩ : Mg)).val = true then (-1 : Int) else 1) < 0 := hS.2.1 j h hj
            cases hh : aheadB q.L[j].val ((⟨(o.now + d), o.next, frm, dst, A1, n, c1, bs⟩ : Mg)).val with
            | true => rfl
            | false => rw [hh] at h0; simp at h0)
          have P2 := Lib.hid (show ∀ h : i < q.L.length, aheadB q.L[i].val ((⟨(o.now + d), o.next, frm, dst, A1, n, c1, bs⟩ : Mg)).val = false from fun h => by
            have h0 : 0 ≤ (if aheadB q.L[i].val ((⟨(o.now + d), o.next, frm, dst, A1, n, c1, bs⟩ : Mg)).val = true then (-1 : Int) else 1) := hS.2.2.1 i h (Nat.le_refl _)
            cases hh : aheadB q.L[i].val ((⟨(o.now + d), o.next, frm, dst, A1, n, c1, bs⟩ : Mg)).val with
            | false => rfl
            | true => rw [hh] at h0; simp at h0)
          have hi : i ≤ q.Ln := by rw [← S8.out.own.l.1]; exact PL
          have S11 := Lib.hid (S8.out.past hb)
          have S12 := Lib.hid (S11.out.past (show Below wS.heap.size wS (wS.drew.alloc (.cells #[.int .i64 (o.now + d), .int .i64 o.next, .int .i64 frm, .int .i64 dst, .slice A1 n c1] 40)) from (Below.refl wS.heap.size wS).drew.alloc (Nat.le_refl _) _))
          clear hS hb PL SRC ORD
          clear ax axl axf am aml amf an anl ar arl arf
          have ex := S11.out.xb.cell
          have exl := S11.out.xb.lt
          have exf := S11.out.xb.free
          have em := S11.out.mb.cell
          have eml := S11.out.mb.lt
          have emf := S11.out.mb.free
          have en := S11.out.nb.cell
          have enl := S11.out.nb.lt
          have er := S11.out.rb.cell
          have erl := S11.out.rb.lt
          have erf := S11.out.rb.free
          go_wp2_with fail
          clear ex exl exf em eml emf en enl er erl erf
          refine region_seg (fun w' => (∀ i, w'.cell? ⟨gx, i, none⟩ = (#[.int .i64 q.now, .int .i64 (q.next + 1), .slice q.LA q.Ln q.Lc, .slice q.SA q.Sn q.Sc, .slice q.CA q.Cn q.Cc, .slice q.KA q.Kn q.Kc] : Array Value)[i]?) ∧ (∀ i, w'.cell? ⟨gm, i, none⟩ = (#[.int .i64 (o.now + d), .int .i64 o.next, .int .i64 frm, .int .i64 dst, .slice A1 n c1] : Array Value)[i]?)) 8 [(0, true), (1, true), (2, true), (3, true), (5, true), (4, false), (6, false), (7, false)] (by kernel_rfl) (by kernel_rfl) ⟨S11.out.xb.drew.cell, S11.out.mb.drew.cell⟩ (fun hHeld => ?_)
          iterate 5
            refine seg_take (v := ?_) (by simp only [List.getElem?_toArray, List.getElem?_cons_succ, List.getElem?_cons_zero]; rfl) (Or.inl ⟨by rfl, ?_⟩) ?_
            rotate_left 1
            · intro w hSw
              try dsimp only at hSw
              go_simp
              try with_reducible rfl
            try simp only [Act.put, List.setIfInBounds_toArray, List.set_cons_zero, List.set_cons_succ]
          refine seg_op (by simp only [List.getElem?_toArray, List.getElem?_cons_succ, List.getElem?_cons_zero]; rfl) (fun K hK => ?_)
          refine wpList_build1 _ rfl 22 40 _ rfl i0 _ Try.underlying22 hi0 hz0 #[.int .i64 (o.now + d), .int .i64 o.next, .int .i64 frm, .int .i64 dst, .slice A1 n c1] rfl 5 hs0 rfl (by decide) (by decide) (some 125) rfl wS.heap.size rfl ?_
          refine wpList_nil ?_
          clear hHeld
          refine hK.out _ _ ⟨S12.out.xb.cell, S12.out.mb.cell⟩ (fun hHeld => ?_)
          clear hK K
          try simp only [Act.put, List.setIfInBounds_toArray, List.set_cons_zero, List.set_cons_succ]
          refine seg_op (by simp only [List.getElem?_toArray, List.getElem?_cons_succ, List.getElem?_cons_zero]; rfl) (fun K hK => ?_)
          go_wp2_with (go_at_call 48; refine (rep_1 wS.heap.size (⟨(o.now + d), o.next, frm, dst, A1, n, c1, bs⟩ : Mg) _ (Has.newAt wS.drew #[.int .i64 (o.now + d), .int .i64 o.next, .int .i64 frm, .int .i64 dst, .slice A1 n c1] 40 (g := wS.heap.size) rfl)).mono ?_; rintro e wR ⟨⟨b2, cv, rfl, hg, ht, hle⟩, hb⟩; have S13 := Lib.hid (S12.out.past hb); have RG := Lib.hid hg; have RT := Lib.hid ht; have RL := Lib.hid hle; have ZR := Lib.hid hb.size; have INS := Lib.hid (insM_some (w.heap.size + 2) q.LA q.Ln q.Lc 1 i b2 cv q.L (⟨(o.now + d), o.next, frm, dst, A1, n, c1, bs⟩ : Mg) wR S13.out.own.l (Nat.le_of_lt (Nat.lt_of_le_of_lt S13.out.lx S13.out.xb.lt)) (by omega) (by omega) hg ht (fun e => by have h3 := (S11.out.own.l.2.1.lt b2 e).2; have h4 : wS.heap.size < b2 := Nat.lt_of_lt_of_le (show wS.heap.size < (wS.drew.alloc (.cells #[.int .i64 (o.now + d), .int .i64 o.next, .int .i64 frm, .int .i64 dst, .slice A1 n c1] 40)).heap.size from by simp) hle; omega) hi); clear hb hg ht hle)
          clear hHeld
          refine hK.out _ _ ⟨S13.out.xb.cell, S13.out.mb.cell⟩ (fun hHeld => ?_)
          clear hK K
          try simp only [Act.put, List.setIfInBounds_toArray, List.set_cons_zero, List.set_cons_succ]
          refine seg_op (by simp only [List.getElem?_toArray, List.getElem?_cons_succ, List.getElem?_cons_zero]; rfl) (fun K hK => ?_)
          go_wp2_with (go_at_call 47; refine INS.out.mono ?_; rintro e wI ⟨A2, c2, rfl, hR, hg⟩; have LR := Lib.hid hR; have LG := Lib.hid hg; clear hR hg)
          clear hHeld
          refine hK.out _ _ ⟨(S13.out.xb.beside LG.out (fun e => by obtain ⟨lo, hi2, r1, r2, r3, r4⟩ := S13.out.rows; have := r1.1 gx e.symm; omega)).cell, (S13.out.mb.beside LG.out (fun e => by obtain ⟨lo, hi2, r1, r2, r3, r4⟩ := S13.out.rows; have := r1.1 gm e.symm; omega)).cell⟩ (fun hHeld => ?_)
          clear hK K
          try simp only [Act.put, List.setIfInBounds_toArray, List.set_cons_zero, List.set_cons_succ]
          refine seg_tail rfl ?_
          clear hHeld
          obtain ⟨lo, hi2, r1, r2, r3, r4⟩ := S13.out.rows
          have apq := Lib.hid S13.out.ap
          have zx := Lib.hid S13.out.lx
          have hne : ∀ g, g < w.heap.size + 2 ∨ g = gx → (Value.slice q.LA q.Ln q.Lc).ownBlock ≠ some g := fun g hg e => by
            have h1 := (S13.out.own.l.2.1.lt g e).1
            have h2 := r1.1 g e
            omega
          have XI := Lib.hid (S13.out.xb.beside LG.out (fun e => hne gx (.inr rfl) e.symm))
          have RI := Lib.hid (S13.out.rb.beside LG.out (fun e => hne _ (.inl (by omega)) e.symm))
          have TXI := Lib.hid (S13.out.tx.grown LG.out (fun e => hne gx (.inr rfl) e))
          have TRI := Lib.hid (S13.out.tr.grown LG.out (fun e => hne _ (.inl (by omega)) e))
          have BI := Lib.hid (S13.out.below.trans (grown_below LG.out S13.out.below.size (fun k hk => by have := (S13.out.own.l.2.1.lt k hk).1; omega)))
          have SI := Lib.hid (S13.out.own.s.rown.apart LG.out (fun b hb e => (apq.out.1 b e).1 hb))
          have CI := Lib.hid (S13.out.own.c.rown.apart LG.out (fun b hb e => (apq.out.1 b e).2.1 hb))
          have KI := Lib.hid (S13.out.own.k.rown.apart LG.out (fun b hb e => (apq.out.1 b e).2.2 hb))
          have YI := Lib.hid (S13.out.body.rown.apart LG.out (fun b hb e => by have h1 := r1.1 b e; have h2 := r4 b hb; omega))
          clear hne
          have R14 := Lib.hid (And.intro r1 (And.intro r2 r4))
          have fx := R14.out
          have ST : wI.grownBy (wI.setCell ⟨gx, 2, none⟩ (.slice A2 (q.Ln + 1) c2)) (some gx) := setCells_grown gx [.slice A2 (q.Ln + 1) c2] 2 wI
          have X2 := Lib.hid (show Has (wI.setCell ⟨gx, 2, none⟩ (.slice A2 (q.Ln + 1) c2)) gx #[.int .i64 q.now, .int .i64 (q.next + 1), .slice A2 (q.Ln + 1) c2, .slice q.SA q.Sn q.Sc, .slice q.CA q.Cn q.Cc, .slice q.KA q.Kn q.Kc] from XI.out.setAt 2 (.slice A2 (q.Ln + 1) c2) (by simp))
          have R2 := Lib.hid (RI.out.grown ST nx5)
          have B2 := Lib.hid (BI.out.trans (grown_below ST BI.out.size (fun j hj => by injection hj with hj; have := zx.out; omega)))
          have L2 := Lib.hid (LR.out.apart ST (fun b hb e => by injection e with e; exact row_not LR.out.2 TXI.out (by decide) b hb e.symm))
          have S2 := Lib.hid (SI.out.apart ST (fun b hb e => by injection e with e; have := fx.1.2.1 b hb; omega))
          have C2 := Lib.hid (CI.out.apart ST (fun b hb e => by injection e with e; have := fx.1.2.2.1 b hb; omega))
          have K2 := Lib.hid (KI.out.apart ST (fun b hb e => by injection e with e; have := fx.1.2.2.2 b hb; omega))
          have Y2 := Lib.hid (YI.out.apart ST (fun b hb e => by injection e with e; have := (fx.2.2 b hb).1; omega))
          have xic := XI.out.cell
          have xil := XI.out.lt
          have xif := XI.out.free
          clear r1 r2 r3 r4 fx ST
          go_upto_region 23 with (fail)
          clear xic xil xif
          obtain ⟨wV, hV⟩ : ∃ wV, wV = (wI.setCell ⟨gx, 2, none⟩ (.slice A2 (q.Ln + 1) c2)) := ⟨_, rfl⟩
          rw [← hV] at X2 R2 B2 L2 S2 C2 K2 Y2
          rw [← hV]
          clear hV
          have xvc := X2.out.cell
          have xvl := X2.out.lt
          have ric := R2.out.cell
          have ril := R2.out.lt
          have rif := R2.out.free
          go_wp2_with fail
          refine bodyPost_ret (v := .tuple #[(⟨q.now, q.next + 1, A2, (q.Ln + 1), c2, (q.L.take i ++ List.replicate 1 (⟨(o.now + d), o.next, frm, dst, A1, n, c1, bs⟩ : Mg) ++ q.L.drop i), q.SA, q.Sn, q.Sc, q.S, q.CA, q.Cn, q.Cc, q.C, q.KA, q.Kn, q.Kc, q.K⟩ : Nt).v, .int .i64 0]) (results_cell_tmp Try.results19 (g := w.heap.size + 1) rfl rfl (load27 (R2.out.set [.int .i64 q.now, .int .i64 (q.next + 1), .slice A2 (q.Ln + 1) c2, .slice q.SA q.Sn q.Sc, .slice q.CA q.Cn q.Cc, .slice q.KA q.Kn q.Kc] rfl))) rfl ?_
          have SG := setCells_grown (w.heap.size + 1) [.int .i64 q.now, .int .i64 (q.next + 1), .slice A2 (q.Ln + 1) c2, .slice q.SA q.Sn q.Sc, .slice q.CA q.Cn q.Cc, .slice q.KA q.Kn q.Kc] 0 wV
          have B3 := B2.out.trans (grown_below SG B2.out.size (fun j hj => by injection hj with hj; omega))
          have INL := S11.out.inL HO.out.l.each B3
          have MB : Sl u8K _ A1 n c1 bs := (((Y2.out.apart SG (fun b hb e => by injection e with e; have := (Y2.out.2.lt b hb).1; omega)).own (fun _ _ => trivial)).sl)
          refine ⟨NetRes.mk _ ?_ ⟨?_, ?_, ?_, ?_⟩, B3⟩
          · have YES := sendV_yes SB.out H5.out (by rw [HM.out]; omega) (by rw [TE.out]; omega) (by rw [HM.out, VL.out]; omega) (i := i) (by rw [VL.out]; exact hi)
              (fun j hj hji => by
                have hj' : j < q.L.length := by rw [S6.out.own.l.1, ← VL.out]; exact hj
                have := P1.out j hj' hji
                simp only [S6.out.like.L] at this
                rw [TE.out]
                simp only [Nt.val, List.getElem_map]
                exact this)
              (fun hj => by
                have hj' : i < q.L.length := by rw [S6.out.own.l.1, ← VL.out]; exact hj
                have := P2.out hj'
                simp only [S6.out.like.L] at this
                rw [TE.out]
                simp only [Nt.val, List.getElem_map]
                exact this)
            rw [YES, HM.out, TE.out]
            unfold Nt.val
            simp only [S6.out.like.now, S6.out.like.next, S6.out.like.S, S6.out.like.C, S6.out.like.K, S6.out.like.L, List.map_append, List.map_take, List.map_drop, List.map_replicate]
            rfl
          · exact ((L2.out.apart SG (fun b hb e => by injection e with e; have := (L2.out.2.lt b hb).1; omega)).own (fun a ha => by
              rcases List.mem_append.1 ha with ha | ha
              · rcases List.mem_append.1 ha with ha | ha
                · exact INL a (List.mem_of_mem_take ha)
                · rw [List.eq_of_mem_replicate ha]; exact MB
              · exact INL a (List.mem_of_mem_drop ha))).base (by omega)
          · exact ((S2.out.apart SG (fun b hb e => by injection e with e; have := (S2.out.2.lt b hb).1; omega)).own (fun a ha => S11.out.own.s.2.2 a ha)).base (by omega)
          · exact ((C2.out.apart SG (fun b hb e => by injection e with e; have := (C2.out.2.lt b hb).1; omega)).own (fun a ha => S11.out.own.c.2.2 a ha)).base (by omega)
          · exact ((K2.out.apart SG (fun b hb e => by injection e with e; have := (K2.out.2.lt b hb).1; omega)).own (fun a ha => S11.out.own.k.2.2 a ha)).base (by omega)
      · have OKS := ok_kinds (chk_slips HC.out o.S[k] (List.getElem_mem hkl))
        have SL0 := Lib.hid (show slipOf o.val.S o.val.next = o.S[k] from hsl)
        have HXS := Lib.hid (show ∃ b off, o.SA = some ⟨b, off, none⟩ ∧ w8.cell? ⟨b, off + k * 3, none⟩ = some (.int .i64 o.S[k].no) ∧ w8.cell? ⟨b, off + k * 3 + 1, none⟩ = some (.int .i64 o.S[k].kind) ∧ w8.cell? ⟨b, off + k * 3 + 2, none⟩ = some (.int .i64 o.S[k].amt) from by
          obtain ⟨b, off, _, h2, _, h4, h5, h6⟩ := sp_at (HO.out.s.below S8.out.below) hkn
          exact ⟨b, off, h2, h4, h5, h6⟩)
        generalize o.S[k] = x at *
        clear hsl
        have S9 := Lib.hid (S8.out.past (below_alloc1 w8 (.cells #[.int .i64 x.no, .int .i64 x.kind, .int .i64 x.amt] 54)))
        have kk1 : decide ((0 : Int) ≤ (k : Int)) = true := decide_eq_true (by omega)
        have kk2 : (k : Int) < (o.Sn : Int) := by omega
        obtain ⟨bb, off, hSA, x0, x1, x2⟩ := HXS.out
        rcases OKS with ⟨k3, ha1, ha2⟩ | ⟨k1 | k2, ha⟩
        · have e1 : (x.kind == 1) = false := by rw [beq_eq_false_iff_ne]; omega
          have e2 : (x.kind == 2) = false := by rw [beq_eq_false_iff_ne]; omega
          have wrt : IntKind.i64.wrap ((o.now + d) + x.amt) = (o.now + d) + x.amt := IntWalk.i64_in _ (by omega)
          have SQ := Lib.hid (S8.out.sett HO.out.l.each ((o.now + d) + x.amt))
          have S10 := Lib.hid (SQ.out.past (below_alloc1 (w8.setCell ⟨gm, 0, none⟩ (.int .i64 ((o.now + d) + x.amt))) (.cells #[.int .i64 x.no, .int .i64 x.kind, .int .i64 x.amt] 54)))
          have SL : Hid (slipOf o.val.S o.val.next = x) := SL0
          have SK : Hid (x.kind = 3) := k3
          clear k3
          have HM := Lib.hid (show manyV o.val frm dst = 1 from by unfold manyV; rw [SL.out, SK.out, HOP.out]; simp)
          have TE := Lib.hid (show o.val.now + d + (slipOf o.val.S o.val.next).amt = ((o.now + d) + x.amt) from by rw [SL.out]; rfl)
          have lq : q.Ln ≤ 1024 := by rw [S6.out.like.Ln, ← HO.out.l.len]; have := chk_len HC.out; simpa [Nt.val] using this
          have VL := Lib.hid (show o.val.L.length = q.Ln from by rw [S6.out.like.Ln, ← HO.out.l.len]; simp [Nt.val])
          have ax := S8.out.xb.cell
          have axl := S8.out.xb.lt
          have axf := S8.out.xb.free
          have am := S8.out.mb.cell
          have aml := S8.out.mb.lt
          have amf := S8.out.mb.free
          have an := S8.out.nb.cell
          have anl := S8.out.nb.lt
          have ar := S8.out.rb.cell
          have arl := S8.out.rb.lt
          have arf := S8.out.rb.free
          by_cases hT : 1099511627776 < ((o.now + d) + x.amt)
          · have dt : decide (1099511627776 < ((o.now + d) + x.amt)) = true := decide_eq_true hT
            have TV := Lib.hid (sendV_bound SB.out H5.out (by rw [HM.out]; omega) (.inl (by rw [TE.out]; exact hT)))
            as_aux_lemma =>
              go_upto_region 20 with (fail)
              clear ax axl axf am aml amf an anl ar arl arf
              obtain ⟨wZ, hZ⟩ : ∃ W, W = ((w8.setCell ⟨gm, 0, none⟩ (.int .i64 ((o.now + d) + x.amt))).alloc (.cells #[.int .i64 x.no, .int .i64 x.kind, .int .i64 x.amt] 54)) := ⟨_, rfl⟩
              rw [← hZ] at S10
              rw [← hZ]
              clear hZ
              have zr := S10.out.rb.cell
              have zl := S10.out.rb.lt
              have zf := S10.out.rb.free
              go_wp2_with fail
              refine bodyPost_ret (v := .tuple #[noN.v, .int .i64 2]) (results_cell_tmp Try.results19 (g := w.heap.size + 1) rfl rfl (load27 (S10.out.rb.set [.int .i64 0, .int .i64 0, .slice none 0 0, .slice none 0 0, .slice none 0 0, .slice none 0 0] rfl))) rfl ?_
              exact ⟨NetRes.no TV.out, S10.out.below.trans (grown_below (setCells_grown (w.heap.size + 1) [.int .i64 0, .int .i64 0, .slice none 0 0, .slice none 0 0, .slice none 0 0, .slice none 0 0] 0 wZ) S10.out.below.size (fun q hq => by injection hq with hq; omega))⟩
          have dt : decide (1099511627776 < ((o.now + d) + x.amt)) = false := decide_eq_false hT
          by_cases hL : 1024 < q.Ln + 1
          · have dl : decide ((1024 : Int) < (q.Ln : Int) + 1) = true := decide_eq_true (by omega)
            have TV := Lib.hid (sendV_bound SB.out H5.out (by rw [HM.out]; omega) (.inr (by rw [HM.out, VL.out]; exact hL)))
            as_aux_lemma =>
              go_upto_region 20 with (fail)
              clear ax axl axf am aml amf an anl ar arl arf
              obtain ⟨wZ, hZ⟩ : ∃ W, W = ((w8.setCell ⟨gm, 0, none⟩ (.int .i64 ((o.now + d) + x.amt))).alloc (.cells #[.int .i64 x.no, .int .i64 x.kind, .int .i64 x.amt] 54)) := ⟨_, rfl⟩
              rw [← hZ] at S10
              rw [← hZ]
              clear hZ
              have zr := S10.out.rb.cell
              have zl := S10.out.rb.lt
              have zf := S10.out.rb.free
              go_wp2_with fail
              refine bodyPost_ret (v := .tuple #[noN.v, .int .i64 2]) (results_cell_tmp Try.results19 (g := w.heap.size + 1) rfl rfl (load27 (S10.out.rb.set [.int .i64 0, .int .i64 0, .slice none 0 0, .slice none 0 0, .slice none 0 0, .slice none 0 0] rfl))) rfl ?_
              exact ⟨NetRes.no TV.out, S10.out.below.trans (grown_below (setCells_grown (w.heap.size + 1) [.int .i64 0, .int .i64 0, .slice none 0 0, .slice none 0 0, .slice none 0 0, .slice none 0 0] 0 wZ) S10.out.below.size (fun q hq => by injection hq with hq; omega))⟩
          have dl : decide ((1024 : Int) < (q.Ln : Int) + 1) = false := decide_eq_false (by omega)
          as_aux_lemma =>
            go_wp2_with fail
            have ORD := Lib.hid (fun j k (hk : k < q.L.length) (hj : j < k) => (show aheadB (q.L[j]'(Nat.lt_trans hj hk)).val q.L[k].val = true from by
              have hk' : k < o.val.L.length := by rw [VL.out]; have := S6.out.own.l.1; omega
              have := chk_order HC.out j k hk' hj
              simp only [Nt.val, List.getElem_map] at this
              simp only [S6.out.like.L]
              exact this))
            have SRC := Lib.hid (searchM q.LA q.Ln q.Lc q.L (⟨((o.now + d) + x.amt), o.next, frm, dst, A1, n, c1, bs⟩ : Mg) _ 46 (fun y => if aheadB y.val ((⟨((o.now + d) + x.amt), o.next, frm, dst, A1, n, c1, bs⟩ : Mg)).val = true then -1 else 1) S10.out.own.l.sl (by omega) (enters_of Try.func46 (by kernel_rfl) rfl) (fun j k hk hj h => by
              have h1 : aheadB q.L[k].val ((⟨((o.now + d) + x.amt), o.next, frm, dst, A1, n, c1, bs⟩ : Mg)).val = true := by
                cases hh : aheadB q.L[k].val ((⟨((o.now + d) + x.amt), o.next, frm, dst, A1, n, c1, bs⟩ : Mg)).val with
                | true => rfl
                | false => rw [hh] at h; simp at h
              simp only [ahead_trans (ORD.out j k hk hj) h1, if_true]
              decide) (fun y _ W' _ => behind_any y (⟨((o.now + d) + x.amt), o.next, frm, dst, A1, n, c1, bs⟩ : Mg) W'))
            refine SRC.out.mono ?_
            rintro e wS ⟨i, bf, rfl, hS, hb⟩
            have PL := hS.1
            have P1 := Lib.hid (show ∀ j (h : j < q.L.length), j < i → aheadB q.L[j].val ((⟨((o.now + d) + x.amt), o.next, frm, dst, A1, n, c1, bs⟩ : Mg)).val = true from fun j h hj => by
              have h0 : (if aheadB q.L[j].val ((⟨((o.now + d) + x.amt), o.next, frm, dst, A1, n, c1, bs⟩ : Mg)).val = true then (-1 : Int) else 1) < 0 := hS.2.1 j h hj
              cases hh : aheadB q.L[j].val ((⟨((o.now + d) + x.amt), o.next, frm, dst, A1, n, c1, bs⟩ : Mg)).val with
              | true => rfl
              | false => rw [hh] at h0; simp at h0)
            have P2 := Lib.hid (show ∀ h : i < q.L.length, aheadB q.L[i].val ((⟨((o.now + d) + x.amt), o.next, frm, dst, A1, n, c1, bs⟩ : Mg)).val = false from fun h => by
              have h0 : 0 ≤ (if aheadB q.L[i].val ((⟨((o.now + d) + x.amt), o.next, frm, dst, A1, n, c1, bs⟩ : Mg)).val = true then (-1 : Int) else 1) := hS.2.2.1 i h (Nat.le_refl _)
              cases hh : aheadB q.L[i].val ((⟨((o.now + d) + x.amt), o.next, frm, dst, A1, n, c1, bs⟩ : Mg)).val with
              | false => rfl
              | true => rw [hh] at h0; simp at h0)
            have hi : i ≤ q.Ln := by rw [← S10.out.own.l.1]; exact PL
            have S11 := Lib.hid (S10.out.past hb)
            have S12 := Lib.hid (S11.out.past (show Below wS.heap.size wS (wS.drew.alloc (.cells #[.int .i64 ((o.now + d) + x.amt), .int .i64 o.next, .int .i64 frm, .int .i64 dst, .slice A1 n c1] 40)) from (Below.refl wS.heap.size wS).drew.alloc (Nat.le_refl _) _))
            clear hS hb PL SRC ORD
            clear ax axl axf am aml amf an anl ar arl arf
            have ex := S11.out.xb.cell
            have exl := S11.out.xb.lt
            have exf := S11.out.xb.free
            have em := S11.out.mb.cell
            have eml := S11.out.mb.lt
            have emf := S11.out.mb.free
            have en := S11.out.nb.cell
            have enl := S11.out.nb.lt
            have er := S11.out.rb.cell
            have erl := S11.out.rb.lt
            have erf := S11.out.rb.free
            go_wp2_with fail
            clear ex exl exf em eml emf en enl er erl erf
            refine region_seg (fun w' => (∀ i, w'.cell? ⟨gx, i, none⟩ = (#[.int .i64 q.now, .int .i64 (q.next + 1), .slice q.LA q.Ln q.Lc, .slice q.SA q.Sn q.Sc, .slice q.CA q.Cn q.Cc, .slice q.KA q.Kn q.Kc] : Array Value)[i]?) ∧ (∀ i, w'.cell? ⟨gm, i, none⟩ = (#[.int .i64 ((o.now + d) + x.amt), .int .i64 o.next, .int .i64 frm, .int .i64 dst, .slice A1 n c1] : Array Value)[i]?)) 8 [(0, true), (1, true), (2, true), (3, true), (5, true), (4, false), (6, false), (7, false)] (by kernel_rfl) (by kernel_rfl) ⟨S11.out.xb.drew.cell, S11.out.mb.drew.cell⟩ (fun hHeld => ?_)
            iterate 5
              refine seg_take (v := ?_) (by simp only [List.getElem?_toArray, List.getElem?_cons_succ, List.getElem?_cons_zero]; rfl) (Or.inl ⟨by rfl, ?_⟩) ?_
              rotate_left 1
              · intro w hSw
                try dsimp only at hSw
                go_simp
                try with_reducible rfl
              try simp only [Act.put, List.setIfInBounds_toArray, List.set_cons_zero, List.set_cons_succ]
            refine seg_op (by simp only [List.getElem?_toArray, List.getElem?_cons_succ, List.getElem?_cons_zero]; rfl) (fun K hK => ?_)
            refine wpList_build1 _ rfl 22 40 _ rfl i0 _ Try.underlying22 hi0 hz0 #[.int .i64 ((o.now + d) + x.amt), .int .i64 o.next, .int .i64 frm, .int .i64 dst, .slice A1 n c1] rfl 5 hs0 rfl (by decide) (by decide) (some 125) rfl wS.heap.size rfl ?_
            refine wpList_nil ?_
            clear hHeld
            refine hK.out _ _ ⟨S12.out.xb.cell, S12.out.mb.cell⟩ (fun hHeld => ?_)
            clear hK K
            try simp only [Act.put, List.setIfInBounds_toArray, List.set_cons_zero, List.set_cons_succ]
            refine seg_op (by simp only [List.getElem?_toArray, List.getElem?_cons_succ, List.getElem?_cons_zero]; rfl) (fun K hK => ?_)
            go_wp2_with (go_at_call 48; refine (rep_1 wS.heap.size (⟨((o.now + d) + x.amt), o.next, frm, dst, A1, n, c1, bs⟩ : Mg) _ (Has.newAt wS.drew #[.int .i64 ((o.now + d) + x.amt), .int .i64 o.next, .int .i64 frm, .int .i64 dst, .slice A1 n c1] 40 (g := wS.heap.size) rfl)).mono ?_; rintro e wR ⟨⟨b2, cv, rfl, hg, ht, hle⟩, hb⟩; have S13 := Lib.hid (S12.out.past hb); have RG := Lib.hid hg; have RT := Lib.hid ht; have RL := Lib.hid hle; have ZR := Lib.hid hb.size; have INS := Lib.hid (insM_some (w.heap.size + 2) q.LA q.Ln q.Lc 1 i b2 cv q.L (⟨((o.now + d) + x.amt), o.next, frm, dst, A1, n, c1, bs⟩ : Mg) wR S13.out.own.l (Nat.le_of_lt (Nat.lt_of_le_of_lt S13.out.lx S13.out.xb.lt)) (by omega) (by omega) hg ht (fun e => by have h3 := (S11.out.own.l.2.1.lt b2 e).2; have h4 : wS.heap.size < b2 := Nat.lt_of_lt_of_le (show wS.heap.size < (wS.drew.alloc (.cells #[.int .i64 ((o.now + d) + x.amt), .int .i64 o.next, .int .i64 frm, .int .i64 dst, .slice A1 n c1] 40)).heap.size from by simp) hle; omega) hi); clear hb hg ht hle)
            clear hHeld
            refine hK.out _ _ ⟨S13.out.xb.cell, S13.out.mb.cell⟩ (fun hHeld => ?_)
            clear hK K
            try simp only [Act.put, List.setIfInBounds_toArray, List.set_cons_zero, List.set_cons_succ]
            refine seg_op (by simp only [List.getElem?_toArray, List.getElem?_cons_succ, List.getElem?_cons_zero]; rfl) (fun K hK => ?_)
            go_wp2_with (go_at_call 47; refine INS.out.mono ?_; rintro e wI ⟨A2, c2, rfl, hR, hg⟩; have LR := Lib.hid hR; have LG := Lib.hid hg; clear hR hg)
            clear hHeld
            refine hK.out _ _ ⟨(S13.out.xb.beside LG.out (fun e => by obtain ⟨lo, hi2, r1, r2, r3, r4⟩ := S13.out.rows; have := r1.1 gx e.symm; omega)).cell, (S13.out.mb.beside LG.out (fun e => by obtain ⟨lo, hi2, r1, r2, r3, r4⟩ := S13.out.rows; have := r1.1 gm e.symm; omega)).cell⟩ (fun hHeld => ?_)
            clear hK K
            try simp only [Act.put, List.setIfInBounds_toArray, List.set_cons_zero, List.set_cons_succ]
            refine seg_tail rfl ?_
            clear hHeld
            obtain ⟨lo, hi2, r1, r2, r3, r4⟩ := S13.out.rows
            have apq := Lib.hid S13.out.ap
            have zx := Lib.hid S13.out.lx
            have hne : ∀ g, g < w.heap.size + 2 ∨ g = gx → (Value.slice q.LA q.Ln q.Lc).ownBlock ≠ some g := fun g hg e => by
              have h1 := (S13.out.own.l.2.1.lt g e).1
              have h2 := r1.1 g e
              omega
            have XI := Lib.hid (S13.out.xb.beside LG.out (fun e => hne gx (.inr rfl) e.symm))
            have RI := Lib.hid (S13.out.rb.beside LG.out (fun e => hne _ (.inl (by omega)) e.symm))
            have TXI := Lib.hid (S13.out.tx.grown LG.out (fun e => hne gx (.inr rfl) e))
            have TRI := Lib.hid (S13.out.tr.grown LG.out (fun e => hne _ (.inl (by omega)) e))
            have BI := Lib.hid (S13.out.below.trans (grown_below LG.out S13.out.below.size (fun k hk => by have := (S13.out.own.l.2.1.lt k hk).1; omega)))
            have SI := Lib.hid (S13.out.own.s.rown.apart LG.out (fun b hb e => (apq.out.1 b e).1 hb))
            have CI := Lib.hid (S13.out.own.c.rown.apart LG.out (fun b hb e => (apq.out.1 b e).2.1 hb))
            have KI := Lib.hid (S13.out.own.k.rown.apart LG.out (fun b hb e => (apq.out.1 b e).2.2 hb))
            have YI := Lib.hid (S13.out.body.rown.apart LG.out (fun b hb e => by have h1 := r1.1 b e; have h2 := r4 b hb; omega))
            clear hne
            have R14 := Lib.hid (And.intro r1 (And.intro r2 r4))
            have fx := R14.out
            have ST : wI.grownBy (wI.setCell ⟨gx, 2, none⟩ (.slice A2 (q.Ln + 1) c2)) (some gx) := setCells_grown gx [.slice A2 (q.Ln + 1) c2] 2 wI
            have X2 := Lib.hid (show Has (wI.setCell ⟨gx, 2, none⟩ (.slice A2 (q.Ln + 1) c2)) gx #[.int .i64 q.now, .int .i64 (q.next + 1), .slice A2 (q.Ln + 1) c2, .slice q.SA q.Sn q.Sc, .slice q.CA q.Cn q.Cc, .slice q.KA q.Kn q.Kc] from XI.out.setAt 2 (.slice A2 (q.Ln + 1) c2) (by simp))
            have R2 := Lib.hid (RI.out.grown ST nx5)
            have B2 := Lib.hid (BI.out.trans (grown_below ST BI.out.size (fun j hj => by injection hj with hj; have := zx.out; omega)))
            have L2 := Lib.hid (LR.out.apart ST (fun b hb e => by injection e with e; exact row_not LR.out.2 TXI.out (by decide) b hb e.symm))
            have S2 := Lib.hid (SI.out.apart ST (fun b hb e => by injection e with e; have := fx.1.2.1 b hb; omega))
            have C2 := Lib.hid (CI.out.apart ST (fun b hb e => by injection e with e; have := fx.1.2.2.1 b hb; omega))
            have K2 := Lib.hid (KI.out.apart ST (fun b hb e => by injection e with e; have := fx.1.2.2.2 b hb; omega))
            have Y2 := Lib.hid (YI.out.apart ST (fun b hb e => by injection e with e; have := (fx.2.2 b hb).1; omega))
            have xic := XI.out.cell
            have xil := XI.out.lt
            have xif := XI.out.free
            clear r1 r2 r3 r4 fx ST
            go_upto_region 23 with (fail)
            clear xic xil xif
            obtain ⟨wV, hV⟩ : ∃ wV, wV = (wI.setCell ⟨gx, 2, none⟩ (.slice A2 (q.Ln + 1) c2)) := ⟨_, rfl⟩
            rw [← hV] at X2 R2 B2 L2 S2 C2 K2 Y2
            rw [← hV]
            clear hV
            have xvc := X2.out.cell
            have xvl := X2.out.lt
            have ric := R2.out.cell
            have ril := R2.out.lt
            have rif := R2.out.free
            go_wp2_with fail
            refine bodyPost_ret (v := .tuple #[(⟨q.now, q.next + 1, A2, (q.Ln + 1), c2, (q.L.take i ++ List.replicate 1 (⟨((o.now + d) + x.amt), o.next, frm, dst, A1, n, c1, bs⟩ : Mg) ++ q.L.drop i), q.SA, q.Sn, q.Sc, q.S, q.CA, q.Cn, q.Cc, q.C, q.KA, q.Kn, q.Kc, q.K⟩ : Nt).v, .int .i64 0]) (results_cell_tmp Try.results19 (g := w.heap.size + 1) rfl rfl (load27 (R2.out.set [.int .i64 q.now, .int .i64 (q.next + 1), .slice A2 (q.Ln + 1) c2, .slice q.SA q.Sn q.Sc, .slice q.CA q.Cn q.Cc, .slice q.KA q.Kn q.Kc] rfl))) rfl ?_
            have SG := setCells_grown (w.heap.size + 1) [.int .i64 q.now, .int .i64 (q.next + 1), .slice A2 (q.Ln + 1) c2, .slice q.SA q.Sn q.Sc, .slice q.CA q.Cn q.Cc, .slice q.KA q.Kn q.Kc] 0 wV
            have B3 := B2.out.trans (grown_below SG B2.out.size (fun j hj => by injection hj with hj; omega))
            have INL := S11.out.inL HO.out.l.each B3
            have MB : Sl u8K _ A1 n c1 bs := (((Y2.out.apart SG (fun b hb e => by injection e with e; have := (Y2.out.2.lt b hb).1; omega)).own (fun _ _ => trivial)).sl)
            refine ⟨NetRes.mk _ ?_ ⟨?_, ?_, ?_, ?_⟩, B3⟩
            · have YES := sendV_yes SB.out H5.out (by rw [HM.out]; omega) (by rw [TE.out]; omega) (by rw [HM.out, VL.out]; omega) (i := i) (by rw [VL.out]; exact hi)
                (fun j hj hji => by
                  have hj' : j < q.L.length := by rw [S6.out.own.l.1, ← VL.out]; exact hj
                  have := P1.out j hj' hji
                  simp only [S6.out.like.L] at this
                  rw [TE.out]
                  simp only [Nt.val, List.getElem_map]
                  exact this)
                (fun hj => by
                  have hj' : i < q.L.length := by rw [S6.out.own.l.1, ← VL.out]; exact hj
                  have := P2.out hj'
                  simp only [S6.out.like.L] at this
                  rw [TE.out]
                  simp only [Nt.val, List.getElem_map]
                  exact this)
              rw [YES, HM.out, TE.out]
              unfold Nt.val
              simp only [S6.out.like.now, S6.out.like.next, S6.out.like.S, S6.out.like.C, S6.out.like.K, S6.out.like.L, List.map_append, List.map_take, List.map_drop, List.map_replicate]
              rfl
            · exact ((L2.out.apart SG (fun b hb e => by injection e with e; have := (L2.out.2.lt b hb).1; omega)).own (fun a ha => by
                rcases List.mem_append.1 ha with ha | ha
                · rcases List.mem_append.1 ha with ha | ha
                  · exact INL a (List.mem_of_mem_take ha)
                  · rw [List.eq_of_mem_replicate ha]; exact MB
                · exact INL a (List.mem_of_mem_drop ha))).base (by omega)
            · exact ((S2.out.apart SG (fun b hb e => by injection e with e; have := (S2.out.2.lt b hb).1; omega)).own (fun a ha => S11.out.own.s.2.2 a ha)).base (by omega)
            · exact ((C2.out.apart SG (fun b hb e => by injection e with e; have := (C2.out.2.lt b hb).1; omega)).own (fun a ha => S11.out.own.c.2.2 a ha)).base (by omega)
            · exact ((K2.out.apart SG (fun b hb e => by injection e with e; have := (K2.out.2.lt b hb).1; omega)).own (fun a ha => S11.out.own.k.2.2 a ha)).base (by omega)
        · have e1 : (x.kind == 1) = true := by rw [beq_iff_eq]; exact k1
          have SL : Hid (slipOf o.val.S o.val.next = x) := SL0
          have SK : Hid (x.kind = 1) := k1
          have SA0 : Hid (x.amt = 0) := ha
          clear k1 ha
          have HM := Lib.hid (show manyV o.val frm dst = 0 from by unfold manyV; rw [SL.out, SK.out, HOP.out]; simp)
          have TE := Lib.hid (show o.val.now + d + (slipOf o.val.S o.val.next).amt = (o.now + d) from by rw [SL.out, SA0.out]; show o.now + d + 0 = o.now + d; omega)
          have lq : q.Ln ≤ 1024 := by rw [S6.out.like.Ln, ← HO.out.l.len]; have := chk_len HC.out; simpa [Nt.val] using this
          have VL := Lib.hid (show o.val.L.length = q.Ln from by rw [S6.out.like.Ln, ← HO.out.l.len]; simp [Nt.val])
          have ax := S8.out.xb.cell
          have axl := S8.out.xb.lt
          have axf := S8.out.xb.free
          have am := S8.out.mb.cell
          have aml := S8.out.mb.lt
          have amf := S8.out.mb.free
          have an := S8.out.nb.cell
          have anl := S8.out.nb.lt
          have ar := S8.out.rb.cell
          have arl := S8.out.rb.lt
          have arf := S8.out.rb.free
          have dl : decide ((1024 : Int) < (q.Ln : Int)) = false := decide_eq_false (by omega)
          have dln : decide (1024 < q.Ln) = false := decide_eq_false (by omega)
          as_aux_lemma =>
            go_wp2_with fail
            have ORD := Lib.hid (fun j k (hk : k < q.L.length) (hj : j < k) => (show aheadB (q.L[j]'(Nat.lt_trans hj hk)).val q.L[k].val = true from by
              have hk' : k < o.val.L.length := by rw [VL.out]; have := S6.out.own.l.1; omega
              have := chk_order HC.out j k hk' hj
              simp only [Nt.val, List.getElem_map] at this
              simp only [S6.out.like.L]
              exact this))
            have SRC := Lib.hid (searchM q.LA q.Ln q.Lc q.L (⟨(o.now + d), o.next, frm, dst, A1, n, c1, bs⟩ : Mg) _ 46 (fun y => if aheadB y.val ((⟨(o.now + d), o.next, frm, dst, A1, n, c1, bs⟩ : Mg)).val = true then -1 else 1) S9.out.own.l.sl (by omega) (enters_of Try.func46 (by kernel_rfl) rfl) (fun j k hk hj h => by
              have h1 : aheadB q.L[k].val ((⟨(o.now + d), o.next, frm, dst, A1, n, c1, bs⟩ : Mg)).val = true := by
                cases hh : aheadB q.L[k].val ((⟨(o.now + d), o.next, frm, dst, A1, n, c1, bs⟩ : Mg)).val with
                | true => rfl
                | false => rw [hh] at h; simp at h
              simp only [ahead_trans (ORD.out j k hk hj) h1, if_true]
              decide) (fun y _ W' _ => behind_any y (⟨(o.now + d), o.next, frm, dst, A1, n, c1, bs⟩ : Mg) W'))
            refine SRC.out.mono ?_
            rintro e wS ⟨i, bf, rfl, hS, hb⟩
            have PL := hS.1
            have P1 := Lib.hid (show ∀ j (h : j < q.L.length), j < i → aheadB q.L[j].val ((⟨(o.now + d), o.next, frm, dst, A1, n, c1, bs⟩ : Mg)).val = true from fun j h hj => by
              have h0 : (if aheadB q.L[j].val ((⟨(o.now + d), o.next, frm, dst, A1, n, c1, bs⟩ : Mg)).val = true then (-1 : Int) else 1) < 0 := hS.2.1 j h hj
              cases hh : aheadB q.L[j].val ((⟨(o.now + d), o.next, frm, dst, A1, n, c1, bs⟩ : Mg)).val with
              | true => rfl
              | false => rw [hh] at h0; simp at h0)
            have P2 := Lib.hid (show ∀ h : i < q.L.length, aheadB q.L[i].val ((⟨(o.now + d), o.next, frm, dst, A1, n, c1, bs⟩ : Mg)).val = false from fun h => by
              have h0 : 0 ≤ (if aheadB q.L[i].val ((⟨(o.now + d), o.next, frm, dst, A1, n, c1, bs⟩ : Mg)).val = true then (-1 : Int) else 1) := hS.2.2.1 i h (Nat.le_refl _)
              cases hh : aheadB q.L[i].val ((⟨(o.now + d), o.next, frm, dst, A1, n, c1, bs⟩ : Mg)).val with
              | false => rfl
              | true => rw [hh] at h0; simp at h0)
            have hi : i ≤ q.Ln := by rw [← S9.out.own.l.1]; exact PL
            have S11 := Lib.hid (S9.out.past hb)
            have S12 := Lib.hid (S11.out.past (show Below wS.heap.size wS (wS.drew.alloc (.cells #[.int .i64 (o.now + d), .int .i64 o.next, .int .i64 frm, .int .i64 dst, .slice A1 n c1] 40)) from (Below.refl wS.heap.size wS).drew.alloc (Nat.le_refl _) _))
            clear hS hb PL SRC ORD
            clear ax axl axf am aml amf an anl ar arl arf
            have ex := S11.out.xb.cell
            have exl := S11.out.xb.lt
            have exf := S11.out.xb.free
            have em := S11.out.mb.cell
            have eml := S11.out.mb.lt
            have emf := S11.out.mb.free
            have en := S11.out.nb.cell
            have enl := S11.out.nb.lt
            have er := S11.out.rb.cell
            have erl := S11.out.rb.lt
            have erf := S11.out.rb.free
            go_wp2_with fail
            clear ex exl exf em eml emf en enl er erl erf
            refine region_seg (fun w' => (∀ i, w'.cell? ⟨gx, i, none⟩ = (#[.int .i64 q.now, .int .i64 (q.next + 1), .slice q.LA q.Ln q.Lc, .slice q.SA q.Sn q.Sc, .slice q.CA q.Cn q.Cc, .slice q.KA q.Kn q.Kc] : Array Value)[i]?) ∧ (∀ i, w'.cell? ⟨gm, i, none⟩ = (#[.int .i64 (o.now + d), .int .i64 o.next, .int .i64 frm, .int .i64 dst, .slice A1 n c1] : Array Value)[i]?)) 8 [(0, true), (1, true), (2, true), (3, true), (5, true), (4, false), (6, false), (7, false)] (by kernel_rfl) (by kernel_rfl) ⟨S11.out.xb.drew.cell, S11.out.mb.drew.cell⟩ (fun hHeld => ?_)
            iterate 5
              refine seg_take (v := ?_) (by simp only [List.getElem?_toArray, List.getElem?_cons_succ, List.getElem?_cons_zero]; rfl) (Or.inl ⟨by rfl, ?_⟩) ?_
              rotate_left 1
              · intro w hSw
                try dsimp only at hSw
                go_simp
                try with_reducible rfl
              try simp only [Act.put, List.setIfInBounds_toArray, List.set_cons_zero, List.set_cons_succ]
            refine seg_op (by simp only [List.getElem?_toArray, List.getElem?_cons_succ, List.getElem?_cons_zero]; rfl) (fun K hK => ?_)
            refine wpList_build1 _ rfl 22 40 _ rfl i0 _ Try.underlying22 hi0 hz0 #[.int .i64 (o.now + d), .int .i64 o.next, .int .i64 frm, .int .i64 dst, .slice A1 n c1] rfl 5 hs0 rfl (by decide) (by decide) (some 125) rfl wS.heap.size rfl ?_
            refine wpList_nil ?_
            clear hHeld
            refine hK.out _ _ ⟨S12.out.xb.cell, S12.out.mb.cell⟩ (fun hHeld => ?_)
            clear hK K
            try simp only [Act.put, List.setIfInBounds_toArray, List.set_cons_zero, List.set_cons_succ]
            refine seg_op (by simp only [List.getElem?_toArray, List.getElem?_cons_succ, List.getElem?_cons_zero]; rfl) (fun K hK => ?_)
            go_wp2_with (go_at_call 48; refine (rep_0 wS.heap.size (⟨(o.now + d), o.next, frm, dst, A1, n, c1, bs⟩ : Mg) _ (Has.newAt wS.drew #[.int .i64 (o.now + d), .int .i64 o.next, .int .i64 frm, .int .i64 dst, .slice A1 n c1] 40 (g := wS.heap.size) rfl)).mono ?_; rintro e wR ⟨⟨b2, cv, rfl, hg, ht, hle⟩, hb⟩; have S13 := Lib.hid (S12.out.past hb); have RG := Lib.hid hg; have RT := Lib.hid ht; have RL := Lib.hid hle; have ZR := Lib.hid hb.size; clear hb hg ht hle)
            clear hHeld
            refine hK.out _ _ ⟨S13.out.xb.cell, S13.out.mb.cell⟩ (fun hHeld => ?_)
            clear hK K
            try simp only [Act.put, List.setIfInBounds_toArray, List.set_cons_zero, List.set_cons_succ]
            refine seg_op (by simp only [List.getElem?_toArray, List.getElem?_cons_succ, List.getElem?_cons_zero]; rfl) (fun K hK => ?_)
            go_wp2_with (go_at_call 47; refine (insM_zero q.LA q.Ln q.Lc i b2 q.L wR S13.out.own.l.sl hi).mono ?_; rintro e wI ⟨rfl, rfl⟩)
            clear hHeld
            refine hK.out _ _ ⟨S13.out.xb.cell, S13.out.mb.cell⟩ (fun hHeld => ?_)
            clear hK K
            try simp only [Act.put, List.setIfInBounds_toArray, List.set_cons_zero, List.set_cons_succ]
            refine seg_tail rfl ?_
            clear hHeld
            have S14 := Lib.hid S13.out
            have LR := Lib.hid S13.out.own.l.rown
            have OS := Lib.hid S13.out.own
            obtain ⟨lo, hi2, r1, r2, r3, r4⟩ := S13.out.rows
            have apq := Lib.hid S13.out.ap
            have zx := Lib.hid S13.out.lx
            have XI := Lib.hid S13.out.xb
            have RI := Lib.hid S13.out.rb
            have TXI := Lib.hid S13.out.tx
            have TRI := Lib.hid S13.out.tr
            have BI := Lib.hid S13.out.below
            have SI := Lib.hid S13.out.own.s.rown
            have CI := Lib.hid S13.out.own.c.rown
            have KI := Lib.hid S13.out.own.k.rown
            have YI := Lib.hid S13.out.body.rown
            have R14 := Lib.hid (And.intro r1 (And.intro r2 r4))
            have fx := R14.out
            have ST : wR.grownBy (wR.setCell ⟨gx, 2, none⟩ (.slice q.LA q.Ln q.Lc)) (some gx) := setCells_grown gx [.slice q.LA q.Ln q.Lc] 2 wR
            have X2 := Lib.hid (show Has (wR.setCell ⟨gx, 2, none⟩ (.slice q.LA q.Ln q.Lc)) gx #[.int .i64 q.now, .int .i64 (q.next + 1), .slice q.LA q.Ln q.Lc, .slice q.SA q.Sn q.Sc, .slice q.CA q.Cn q.Cc, .slice q.KA q.Kn q.Kc] from XI.out.setAt 2 (.slice q.LA q.Ln q.Lc) (by simp))
            have R2 := Lib.hid (RI.out.grown ST nx5)
            have B2 := Lib.hid (BI.out.trans (grown_below ST BI.out.size (fun j hj => by injection hj with hj; have := zx.out; omega)))
            have L2 := Lib.hid (LR.out.apart ST (fun b hb e => by injection e with e; exact row_not LR.out.2 TXI.out (by decide) b hb e.symm))
            have S2 := Lib.hid (SI.out.apart ST (fun b hb e => by injection e with e; have := fx.1.2.1 b hb; omega))
            have C2 := Lib.hid (CI.out.apart ST (fun b hb e => by injection e with e; have := fx.1.2.2.1 b hb; omega))
            have K2 := Lib.hid (KI.out.apart ST (fun b hb e => by injection e with e; have := fx.1.2.2.2 b hb; omega))
            have Y2 := Lib.hid (YI.out.apart ST (fun b hb e => by injection e with e; have := (fx.2.2 b hb).1; omega))
            have xic := XI.out.cell
            have xil := XI.out.lt
            have xif := XI.out.free
            clear r1 r2 r3 r4 fx ST
            go_upto_region 23 with (fail)
            clear xic xil xif
            obtain ⟨wV, hV⟩ : ∃ wV, wV = (wR.setCell ⟨gx, 2, none⟩ (.slice q.LA q.Ln q.Lc)) := ⟨_, rfl⟩
            rw [← hV] at X2 R2 B2 L2 S2 C2 K2 Y2
            rw [← hV]
            clear hV
            have xvc := X2.out.cell
            have xvl := X2.out.lt
            have ric := R2.out.cell
            have ril := R2.out.lt
            have rif := R2.out.free
            go_wp2_with fail
            refine bodyPost_ret (v := .tuple #[(⟨q.now, q.next + 1, q.LA, q.Ln, q.Lc, q.L, q.SA, q.Sn, q.Sc, q.S, q.CA, q.Cn, q.Cc, q.C, q.KA, q.Kn, q.Kc, q.K⟩ : Nt).v, .int .i64 0]) (results_cell_tmp Try.results19 (g := w.heap.size + 1) rfl rfl (load27 (R2.out.set [.int .i64 q.now, .int .i64 (q.next + 1), .slice q.LA q.Ln q.Lc, .slice q.SA q.Sn q.Sc, .slice q.CA q.Cn q.Cc, .slice q.KA q.Kn q.Kc] rfl))) rfl ?_
            have SG := setCells_grown (w.heap.size + 1) [.int .i64 q.now, .int .i64 (q.next + 1), .slice q.LA q.Ln q.Lc, .slice q.SA q.Sn q.Sc, .slice q.CA q.Cn q.Cc, .slice q.KA q.Kn q.Kc] 0 wV
            have B3 := B2.out.trans (grown_below SG B2.out.size (fun j hj => by injection hj with hj; omega))
            have INL := S11.out.inL HO.out.l.each B3
            have MB : Sl u8K _ A1 n c1 bs := (((Y2.out.apart SG (fun b hb e => by injection e with e; have := (Y2.out.2.lt b hb).1; omega)).own (fun _ _ => trivial)).sl)
            refine ⟨NetRes.mk _ ?_ ⟨?_, ?_, ?_, ?_⟩, B3⟩
            · rw [sendV_none SB.out H5.out HM.out]
              unfold Nt.val
              simp only [S6.out.like.now, S6.out.like.next, S6.out.like.S, S6.out.like.C, S6.out.like.K, S6.out.like.L]
            · exact ((L2.out.apart SG (fun b hb e => by injection e with e; have := (L2.out.2.lt b hb).1; omega)).own (fun a ha => by
                exact INL a ha)).base (by omega)
            · exact ((S2.out.apart SG (fun b hb e => by injection e with e; have := (S2.out.2.lt b hb).1; omega)).own (fun a ha => S11.out.own.s.2.2 a ha)).base (by omega)
            · exact ((C2.out.apart SG (fun b hb e => by injection e with e; have := (C2.out.2.lt b hb).1; omega)).own (fun a ha => S11.out.own.c.2.2 a ha)).base (by omega)
            · exact ((K2.out.apart SG (fun b hb e => by injection e with e; have := (K2.out.2.lt b hb).1; omega)).own (fun a ha => S11.out.own.k.2.2 a ha)).base (by omega)
        · have e1 : (x.kind == 1) = false := by rw [beq_eq_false_iff_ne]; omega
          have e2 : (x.kind == 2) = true := by rw [beq_iff_eq]; exact k2
          have SL : Hid (slipOf o.val.S o.val.next = x) := SL0
          have SK : Hid (x.kind = 2) := k2
          have SA0 : Hid (x.amt = 0) := ha
          clear k2 ha
          have HM := Lib.hid (show manyV o.val frm dst = 2 from by unfold manyV; rw [SL.out, SK.out, HOP.out]; simp)
          have TE := Lib.hid (show o.val.now + d + (slipOf o.val.S o.val.next).amt = (o.now + d) from by rw [SL.out, SA0.out]; show o.now + d + 0 = o.now + d; omega)
          have lq : q.Ln ≤ 1024 := by rw [S6.out.like.Ln, ← HO.out.l.len]; have := chk_len HC.out; simpa [Nt.val] using this
          have VL := Lib.hid (show o.val.L.length = q.Ln from by rw [S6.out.like.Ln, ← HO.out.l.len]; simp [Nt.val])
          have ax := S8.out.xb.cell
          have axl := S8.out.xb.lt
          have axf := S8.out.xb.free
          have am := S8.out.mb.cell
          have aml := S8.out.mb.lt
          have amf := S8.out.mb.free
          have an := S8.out.nb.cell
          have anl := S8.out.nb.lt
          have ar := S8.out.rb.cell
          have arl := S8.out.rb.lt
          have arf := S8.out.rb.free
          by_cases hT : 1099511627776 < (o.now + d)
          · have dt : decide (1099511627776 < (o.now + d)) = true := decide_eq_true hT
            have TV := Lib.hid (sendV_bound SB.out H5.out (by rw [HM.out]; omega) (.inl (by rw [TE.out]; exact hT)))
            as_aux_lemma =>
              go_upto_region 20 with (fail)
              clear ax axl axf am aml amf an anl ar arl arf
              obtain ⟨wZ, hZ⟩ : ∃ W, W = (w8.alloc (.cells #[.int .i64 x.no, .int .i64 x.kind, .int .i64 x.amt] 54)) := ⟨_, rfl⟩
              rw [← hZ] at S9
              rw [← hZ]
              clear hZ
              have zr := S9.out.rb.cell
              have zl := S9.out.rb.lt
              have zf := S9.out.rb.free
              go_wp2_with fail
              refine bodyPost_ret (v := .tuple #[noN.v, .int .i64 2]) (results_cell_tmp Try.results19 (g := w.heap.size + 1) rfl rfl (load27 (S9.out.rb.set [.int .i64 0, .int .i64 0, .slice none 0 0, .slice none 0 0, .slice none 0 0, .slice none 0 0] rfl))) rfl ?_
              exact ⟨NetRes.no TV.out, S9.out.below.trans (grown_below (setCells_grown (w.heap.size + 1) [.int .i64 0, .int .i64 0, .slice none 0 0, .slice none 0 0, .slice none 0 0, .slice none 0 0] 0 wZ) S9.out.below.size (fun q hq => by injection hq with hq; omega))⟩
          have dt : decide (1099511627776 < (o.now + d)) = false := decide_eq_false hT
          by_cases hL : 1024 < q.Ln + 2
          · have dl : decide ((1024 : Int) < (q.Ln : Int) + 2) = true := decide_eq_true (by omega)
            have TV := Lib.hid (sendV_bound SB.out H5.out (by rw [HM.out]; omega) (.inr (by rw [HM.out, VL.out]; exact hL)))
            as_aux_lemma =>
              go_upto_region 20 with (fail)
              clear ax axl axf am aml amf an anl ar arl arf
              obtain ⟨wZ, hZ⟩ : ∃ W, W = (w8.alloc (.cells #[.int .i64 x.no, .int .i64 x.kind, .int .i64 x.amt] 54)) := ⟨_, rfl⟩
              rw [← hZ] at S9
              rw [← hZ]
              clear hZ
              have zr := S9.out.rb.cell
              have zl := S9.out.rb.lt
              have zf := S9.out.rb.free
              go_wp2_with fail
              refine bodyPost_ret (v := .tuple #[noN.v, .int .i64 2]) (results_cell_tmp Try.results19 (g := w.heap.size + 1) rfl rfl (load27 (S9.out.rb.set [.int .i64 0, .int .i64 0, .slice none 0 0, .slice none 0 0, .slice none 0 0, .slice none 0 0] rfl))) rfl ?_
              exact ⟨NetRes.no TV.out, S9.out.below.trans (grown_below (setCells_grown (w.heap.size + 1) [.int .i64 0, .int .i64 0, .slice none 0 0, .slice none 0 0, .slice none 0 0, .slice none 0 0] 0 wZ) S9.out.below.size (fun q hq => by injection hq with hq; omega))⟩
          have dl : decide ((1024 : Int) < (q.Ln : Int) + 2) = false := decide_eq_false (by omega)
          as_aux_lemma =>
            go_wp2_with fail
            have ORD := Lib.hid (fun j k (hk : k < q.L.length) (hj : j < k) => (show aheadB (q.L[j]'(Nat.lt_trans hj hk)).val q.L[k].val = true from by
              have hk' : k < o.val.L.length := by rw [VL.out]; have := S6.out.own.l.1; omega
              have := chk_order HC.out j k hk' hj
              simp only [Nt.val, List.getElem_map] at this
              simp only [S6.out.like.L]
              exact this))
            have SRC := Lib.hid (searchM q.LA q.Ln q.Lc q.L (⟨(o.now + d), o.next, frm, dst, A1, n, c1, bs⟩ : Mg) _ 46 (fun y => if aheadB y.val ((⟨(o.now + d), o.next, frm, dst, A1, n, c1, bs⟩ : Mg)).val = true then -1 else 1) S9.out.own.l.sl (by omega) (enters_of Try.func46 (by kernel_rfl) rfl) (fun j k hk hj h => by
              have h1 : aheadB q.L[k].val ((⟨(o.now + d), o.next, frm, dst, A1, n, c1, bs⟩ : Mg)).val = true := by
                cases hh : aheadB q.L[k].val ((⟨(o.now + d), o.next, frm, dst, A1, n, c1, bs⟩ : Mg)).val with
                | true => rfl
                | false => rw [hh] at h; simp at h
              simp only [ahead_trans (ORD.out j k hk hj) h1, if_true]
              decide) (fun y _ W' _ => behind_any y (⟨(o.now + d), o.next, frm, dst, A1, n, c1, bs⟩ : Mg) W'))
            refine SRC.out.mono ?_
            rintro e wS ⟨i, bf, rfl, hS, hb⟩
            have PL := hS.1
            have P1 := Lib.hid (show ∀ j (h : j < q.L.length), j < i → aheadB q.L[j].val ((⟨(o.now + d), o.next, frm, dst, A1, n, c1, bs⟩ : Mg)).val = true from fun j h hj => by
              have h0 : (if aheadB q.L[j].val ((⟨(o.now + d), o.next, frm, dst, A1, n, c1, bs⟩ : Mg)).val = true then (-1 : Int) else 1) < 0 := hS.2.1 j h hj
              cases hh : aheadB q.L[j].val ((⟨(o.now + d), o.next, frm, dst, A1, n, c1, bs⟩ : Mg)).val with
              | true => rfl
              | false => rw [hh] at h0; simp at h0)
            have P2 := Lib.hid (show ∀ h : i < q.L.length, aheadB q.L[i].val ((⟨(o.now + d), o.next, frm, dst, A1, n, c1, bs⟩ : Mg)).val = false from fun h => by
              have h0 : 0 ≤ (if aheadB q.L[i].val ((⟨(o.now + d), o.next, frm, dst, A1, n, c1, bs⟩ : Mg)).val = true then (-1 : Int) else 1) := hS.2.2.1 i h (Nat.le_refl _)
              cases hh : aheadB q.L[i].val ((⟨(o.now + d), o.next, frm, dst, A1, n, c1, bs⟩ : Mg)).val with
              | false => rfl
              | true => rw [hh] at h0; simp at h0)
            have hi : i ≤ q.Ln := by rw [← S9.out.own.l.1]; exact PL
            have S11 := Lib.hid (S9.out.past hb)
            have S12 := Lib.hid (S11.out.past (show Below wS.heap.size wS (wS.drew.alloc (.cells #[.int .i64 (o.now + d), .int .i64 o.next, .int .i64 frm, .int .i64 dst, .slice A1 n c1] 40)) from (Below.refl wS.heap.size wS).drew.alloc (Nat.le_refl _) _))
            clear hS hb PL SRC ORD
            clear ax axl axf am aml amf an anl ar arl arf
            have ex := S11.out.xb.cell
            have exl := S11.out.xb.lt
            have exf := S11.out.xb.free
            have em := S11.out.mb.cell
            have eml := S11.out.mb.lt
            have emf := S11.out.mb.free
            have en := S11.out.nb.cell
            have enl := S11.out.nb.lt
            have er := S11.out.rb.cell
            have erl := S11.out.rb.lt
            have erf := S11.out.rb.free
            go_wp2_with fail
            clear ex exl exf em eml emf en enl er erl erf
            refine region_seg (fun w' => (∀ i, w'.cell? ⟨gx, i, none⟩ = (#[.int .i64 q.now, .int .i64 (q.next + 1), .slice q.LA q.Ln q.Lc, .slice q.SA q.Sn q.Sc, .slice q.CA q.Cn q.Cc, .slice q.KA q.Kn q.Kc] : Array Value)[i]?) ∧ (∀ i, w'.cell? ⟨gm, i, none⟩ = (#[.int .i64 (o.now + d), .int .i64 o.next, .int .i64 frm, .int .i64 dst, .slice A1 n c1] : Array Value)[i]?)) 8 [(0, true), (1, true), (2, true), (3, true), (5, true), (4, false), (6, false), (7, false)] (by kernel_rfl) (by kernel_rfl) ⟨S11.out.xb.drew.cell, S11.out.mb.drew.cell⟩ (fun hHeld => ?_)
            iterate 5
              refine seg_take (v := ?_) (by simp only [List.getElem?_toArray, List.getElem?_cons_succ, List.getElem?_cons_zero]; rfl) (Or.inl ⟨by rfl, ?_⟩) ?_
              rotate_left 1
              · intro w hSw
                try dsimp only at hSw
                go_simp
                try with_reducible rfl
              try simp only [Act.put, List.setIfInBounds_toArray, List.set_cons_zero, List.set_cons_succ]
            refine seg_op (by simp only [List.getElem?_toArray, List.getElem?_cons_succ, List.getElem?_cons_zero]; rfl) (fun K hK => ?_)
            refine wpList_build1 _ rfl 22 40 _ rfl i0 _ Try.underlying22 hi0 hz0 #[.int .i64 (o.now + d), .int .i64 o.next, .int .i64 frm, .int .i64 dst, .slice A1 n c1] rfl 5 hs0 rfl (by decide) (by decide) (some 125) rfl wS.heap.size rfl ?_
            refine wpList_nil ?_
            clear hHeld
            refine hK.out _ _ ⟨S12.out.xb.cell, S12.out.mb.cell⟩ (fun hHeld => ?_)
            clear hK K
            try simp only [Act.put, List.setIfInBounds_toArray, List.set_cons_zero, List.set_cons_succ]
            refine seg_op (by simp only [List.getElem?_toArray, List.getElem?_cons_succ, List.getElem?_cons_zero]; rfl) (fun K hK => ?_)
            go_wp2_with (go_at_call 48; refine (rep_2 wS.heap.size (⟨(o.now + d), o.next, frm, dst, A1, n, c1, bs⟩ : Mg) _ (Has.newAt wS.drew #[.int .i64 (o.now + d), .int .i64 o.next, .int .i64 frm, .int .i64 dst, .slice A1 n c1] 40 (g := wS.heap.size) rfl)).mono ?_; rintro e wR ⟨⟨b2, cv, rfl, hg, ht, hle⟩, hb⟩; have S13 := Lib.hid (S12.out.past hb); have RG := Lib.hid hg; have RT := Lib.hid ht; have RL := Lib.hid hle; have ZR := Lib.hid hb.size; have INS := Lib.hid (insM_some (w.heap.size + 2) q.LA q.Ln q.Lc 2 i b2 cv q.L (⟨(o.now + d), o.next, frm, dst, A1, n, c1, bs⟩ : Mg) wR S13.out.own.l (Nat.le_of_lt (Nat.lt_of_le_of_lt S13.out.lx S13.out.xb.lt)) (by omega) (by omega) hg ht (fun e => by have h3 := (S11.out.own.l.2.1.lt b2 e).2; have h4 : wS.heap.size < b2 := Nat.lt_of_lt_of_le (show wS.heap.size < (wS.drew.alloc (.cells #[.int .i64 (o.now + d), .int .i64 o.next, .int .i64 frm, .int .i64 dst, .slice A1 n c1] 40)).heap.size from by simp) hle; omega) hi); clear hb hg ht hle)
            clear hHeld
            refine hK.out _ _ ⟨S13.out.xb.cell, S13.out.mb.cell⟩ (fun hHeld => ?_)
            clear hK K
            try simp only [Act.put, List.setIfInBounds_toArray, List.set_cons_zero, List.set_cons_succ]
            refine seg_op (by simp only [List.getElem?_toArray, List.getElem?_cons_succ, List.getElem?_cons_zero]; rfl) (fun K hK => ?_)
            go_wp2_with (go_at_call 47; refine INS.out.mono ?_; rintro e wI ⟨A2, c2, rfl, hR, hg⟩; have LR := Lib.hid hR; have LG := Lib.hid hg; clear hR hg)
            clear hHeld
            refine hK.out _ _ ⟨(S13.out.xb.beside LG.out (fun e => by obtain ⟨lo, hi2, r1, r2, r3, r4⟩ := S13.out.rows; have := r1.1 gx e.symm; omega)).cell, (S13.out.mb.beside LG.out (fun e => by obtain ⟨lo, hi2, r1, r2, r3, r4⟩ := S13.out.rows; have := r1.1 gm e.symm; omega)).cell⟩ (fun hHeld => ?_)
            clear hK K
            try simp only [Act.put, List.setIfInBounds_toArray, List.set_cons_zero, List.set_cons_succ]
            refine seg_tail rfl ?_
            clear hHeld
            obtain ⟨lo, hi2, r1, r2, r3, r4⟩ := S13.out.rows
            have apq := Lib.hid S13.out.ap
            have zx := Lib.hid S13.out.lx
            have hne : ∀ g, g < w.heap.size + 2 ∨ g = gx → (Value.slice q.LA q.Ln q.Lc).ownBlock ≠ some g := fun g hg e => by
              have h1 := (S13.out.own.l.2.1.lt g e).1
              have h2 := r1.1 g e
              omega
            have XI := Lib.hid (S13.out.xb.beside LG.out (fun e => hne gx (.inr rfl) e.symm))
            have RI := Lib.hid (S13.out.rb.beside LG.out (fun e => hne _ (.inl (by omega)) e.symm))
            have TXI := Lib.hid (S13.out.tx.grown LG.out (fun e => hne gx (.inr rfl) e))
            have TRI := Lib.hid (S13.out.tr.grown LG.out (fun e => hne _ (.inl (by omega)) e))
            have BI := Lib.hid (S13.out.below.trans (grown_below LG.out S13.out.below.size (fun k hk => by have := (S13.out.own.l.2.1.lt k hk).1; omega)))
            have SI := Lib.hid (S13.out.own.s.rown.apart LG.out (fun b hb e => (apq.out.1 b e).1 hb))
            have CI := Lib.hid (S13.out.own.c.rown.apart LG.out (fun b hb e => (apq.out.1 b e).2.1 hb))
            have KI := Lib.hid (S13.out.own.k.rown.apart LG.out (fun b hb e => (apq.out.1 b e).2.2 hb))
            have YI := Lib.hid (S13.out.body.rown.apart LG.out (fun b hb e => by have h1 := r1.1 b e; have h2 := r4 b hb; omega))
            clear hne
            have R14 := Lib.hid (And.intro r1 (And.intro r2 r4))
            have fx := R14.out
            have ST : wI.grownBy (wI.setCell ⟨gx, 2, none⟩ (.slice A2 (q.Ln + 2) c2)) (some gx) := setCells_grown gx [.slice A2 (q.Ln + 2) c2] 2 wI
            have X2 := Lib.hid (show Has (wI.setCell ⟨gx, 2, none⟩ (.slice A2 (q.Ln + 2) c2)) gx #[.int .i64 q.now, .int .i64 (q.next + 1), .slice A2 (q.Ln + 2) c2, .slice q.SA q.Sn q.Sc, .slice q.CA q.Cn q.Cc, .slice q.KA q.Kn q.Kc] from XI.out.setAt 2 (.slice A2 (q.Ln + 2) c2) (by simp))
            have R2 := Lib.hid (RI.out.grown ST nx5)
            have B2 := Lib.hid (BI.out.trans (grown_below ST BI.out.size (fun j hj => by injection hj with hj; have := zx.out; omega)))
            have L2 := Lib.hid (LR.out.apart ST (fun b hb e => by injection e with e; exact row_not LR.out.2 TXI.out (by decide) b hb e.symm))
            have S2 := Lib.hid (SI.out.apart ST (fun b hb e => by injection e with e; have := fx.1.2.1 b hb; omega))
            have C2 := Lib.hid (CI.out.apart ST (fun b hb e => by injection e with e; have := fx.1.2.2.1 b hb; omega))
            have K2 := Lib.hid (KI.out.apart ST (fun b hb e => by injection e with e; have := fx.1.2.2.2 b hb; omega))
            have Y2 := Lib.hid (YI.out.apart ST (fun b hb e => by injection e with e; have := (fx.2.2 b hb).1; omega))
            have xic := XI.out.cell
            have xil := XI.out.lt
            have xif := XI.out.free
            clear r1 r2 r3 r4 fx ST
            go_upto_region 23 with (fail)
            clear xic xil xif
            obtain ⟨wV, hV⟩ : ∃ wV, wV = (wI.setCell ⟨gx, 2, none⟩ (.slice A2 (q.Ln + 2) c2)) := ⟨_, rfl⟩
            rw [← hV] at X2 R2 B2 L2 S2 C2 K2 Y2
            rw [← hV]
            clear hV
            have xvc := X2.out.cell
            have xvl := X2.out.lt
            have ric := R2.out.cell
            have ril := R2.out.lt
            have rif := R2.out.free
            go_wp2_with fail
            refine bodyPost_ret (v := .tuple #[(⟨q.now, q.next + 1, A2, (q.Ln + 2), c2, (q.L.take i ++ List.replicate 2 (⟨(o.now + d), o.next, frm, dst, A1, n, c1, bs⟩ : Mg) ++ q.L.drop i), q.SA, q.Sn, q.Sc, q.S, q.CA, q.Cn, q.Cc, q.C, q.KA, q.Kn, q.Kc, q.K⟩ : Nt).v, .int .i64 0]) (results_cell_tmp Try.results19 (g := w.heap.size + 1) rfl rfl (load27 (R2.out.set [.int .i64 q.now, .int .i64 (q.next + 1), .slice A2 (q.Ln + 2) c2, .slice q.SA q.Sn q.Sc, .slice q.CA q.Cn q.Cc, .slice q.KA q.Kn q.Kc] rfl))) rfl ?_
            have SG := setCells_grown (w.heap.size + 1) [.int .i64 q.now, .int .i64 (q.next + 1), .slice A2 (q.Ln + 2) c2, .slice q.SA q.Sn q.Sc, .slice q.CA q.Cn q.Cc, .slice q.KA q.Kn q.Kc] 0 wV
            have B3 := B2.out.trans (grown_below SG B2.out.size (fun j hj => by injection hj with hj; omega))
            have INL := S11.out.inL HO.out.l.each B3
            have MB : Sl u8K _ A1 n c1 bs := (((Y2.out.apart SG (fun b hb e => by injection e with e; have := (Y2.out.2.lt b hb).1; omega)).own (fun _ _ => trivial)).sl)
            refine ⟨NetRes.mk _ ?_ ⟨?_, ?_, ?_, ?_⟩, B3⟩
            · have YES := sendV_yes SB.out H5.out (by rw [HM.out]; omega) (by rw [TE.out]; omega) (by rw [HM.out, VL.out]; omega) (i := i) (by rw [VL.out]; exact hi)
                (fun j hj hji => by
                  have hj' : j < q.L.length := by rw [S6.out.own.l.1, ← VL.out]; exact hj
                  have := P1.out j hj' hji
                  simp only [S6.out.like.L] at this
                  rw [TE.out]
                  simp only [Nt.val, List.getElem_map]
                  exact this)
                (fun hj => by
                  have hj' : i < q.L.length := by rw [S6.out.own.l.1, ← VL.out]; exact hj
                  have := P2.out hj'
                  simp only [S6.out.like.L] at this
                  rw [TE.out]
                  simp only [Nt.val, List.getElem_map]
                  exact this)
              rw [YES, HM.out, TE.out]
              unfold Nt.val
              simp only [S6.out.like.now, S6.out.like.next, S6.out.like.S, S6.out.like.C, S6.out.like.K, S6.out.like.L, List.map_append, List.map_take, List.map_drop, List.map_replicate]
              rfl
            · exact ((L2.out.apart SG (fun b hb e => by injection e with e; have := (L2.out.2.lt b hb).1; omega)).own (fun a ha => by
                rcases List.mem_append.1 ha with ha | ha
                · rcases List.mem_append.1 ha with ha | ha
                  · exact INL a (List.mem_of_mem_take ha)
                  · rw [List.eq_of_mem_replicate ha]; exact MB
                · exact INL a (List.mem_of_mem_drop ha))).base (by omega)
            · exact ((S2.out.apart SG (fun b hb e => by injection e with e; have := (S2.out.2.lt b hb).1; omega)).own (fun a ha => S11.out.own.s.2.2 a ha)).base (by omega)
            · exact ((C2.out.apart SG (fun b hb e => by injection e with e; have := (C2.out.2.lt b hb).1; omega)).own (fun a ha => S11.out.own.c.2.2 a ha)).base (by omega)
            · exact ((K2.out.apart SG (fun b hb e => by injection e with e; have := (K2.out.2.lt b hb).1; omega)).own (fun a ha => S11.out.own.k.2.2 a ha)).base (by omega)

end Go.Proofs.Ytmlgahambecamaa
