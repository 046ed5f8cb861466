/- A group is taken in, of the document. -/
import Derived.Test.YtnigjchgpmladaaRWith
import Derived.Test.YtnigjchgpmladaaRAsk
import Derived.Test.YtnigjchgpmladaaRCheck
import Derived.Test.YtnigjchgpmladaaAsk
import Derived.Test.YtnigjchgpmladaaRfd
import Derived.Test.YtnigjchgpmladaaReg
import Derived.Test.YtnigjchgpmladaaAdd1
import Derived.Test.YtnigjchgpmladaaRtx
import Derived.Laws.StructEq
import Derived.Deep.DeepCutAuto
namespace Go.Proofs.Ytnigjchgpmladaa
open Go.RowKit Go.Shelf

set_option maxRecDepth 100000 in
set_option maxHeartbeats 16000000 in
theorem rsend_any (o : Tc) (id : ByteArray) (pid gen : Int) (tp : ByteArray) (now : Int) (w : World) (ho : Tc.At w o) (hf : FewV o.val) (hw : tp.size ≤ maxLen) : Calls Try.prog 34 #[o.v, .string id, .int .i64 pid, .int .i64 gen, .string tp, .int .i64 now] w fun e w' => CoRes w (sendV o.val id pid gen tp now) e w' := by
  obtain ⟨W0, hW0⟩ : ∃ W0, W0 = (w.alloc (.cells #[.int .i64 o.next, .slice o.A o.n o.c] 24)).alloc (.cells #[.int .i64 0, .slice none 0 0] 24) := ⟨_, rfl⟩
  have B0 := Lib.hid (show Below w.heap.size w W0 from by rw [hW0]; exact (below_alloc1 w _).alloc (by simp) _)
  have S0 := Lib.hid (show Has W0 w.heap.size #[.int .i64 o.next, .slice o.A o.n o.c] from by rw [hW0]; exact (Has.newAt w _ 24 rfl).alloc _)
  have R0 := Lib.hid (show Has W0 (w.heap.size + 1) #[.int .i64 0, .slice none 0 0] from by rw [hW0]; exact Has.newAt _ _ 24 (by simp))
  have HW := Lib.hid hW0
  have HWF := Lib.hid hw
  have RT := Lib.hid (fun W => rname_any tp W hw)
  have HO := Lib.hid ho
  have nm := ho.few hf
  have CK := Lib.hid (fun W (h : Below w.heap.size w W) => rcheck_any o W (ho.below h) nm.1 nm.2)
  have NN := Lib.hid nm.1
  have LN := Lib.hid ho.num
  have RA := Lib.hid (fun W (h : Below w.heap.size w W) => rasked_any o id pid gen W (ho.below h))
  rw [show sendV o.val id pid gen tp now = askV o.val id pid gen (nameC tp && inB now 1099511627776) (sendF tp now) from rfl]
  have RN := Lib.hid (fun (W : World) (c : Int) (hb : Below w.heap.size w W) (h : askV o.val id pid gen (nameC tp && inB now 1099511627776) (sendF tp now) = (noC, c)) => CoRes.no (w' := W) h hb)
  clear ho hW0 hf nm
  have s0c := S0.out.cell
  have s0l := S0.out.lt
  by_cases hk : checkV o.val = 0
  · have HK := Lib.hid hk
    have FN := Lib.hid (chk_iff.1 hk)
    rw [hk] at CK
    clear hk
    obtain ⟨may, hmay⟩ : ∃ m : Bool, (nameC tp && inB now 1099511627776) = m := ⟨_, rfl⟩
    rw [hmay] at RN ⊢
    have MY := Lib.hid hmay
    clear hmay
    cases h1 : nameC tp with
    | false =>
      have M1 := Lib.hid h1
      clear h1
      have MF : may = false := by rw [← MY.out, M1.out]; rfl
      subst MF
      have ANS := Lib.hid (show askV o.val id pid gen false (sendF tp now) = (noC, 1) from ask_may HK.out)
      clear MY
      go_enter Try.func34, Try.ntmps34
      go_upto_region 4 with (first
        | (go_at_call 19; rw [← HW.out]; refine (CK.out _ B0.out).mono ?_; rintro e w1 ⟨rfl, hb1⟩; have B1 := Lib.hid (below_from hb1 B0.out B0.out.size); have S1 := Lib.hid (S0.out.past hb1); have R1 := Lib.hid (R0.out.past hb1); clear hb1 s0c s0l))
      have s1c := S1.out.cell
      have s1l := S1.out.lt
      go_upto_region 5 with (first
        | (fail)
        | (go_at_call 50; refine (RT.out _).mono ?_; rintro e w2 ⟨rfl, hb2⟩; rw [M1.out]; have B2 := Lib.hid (below_from hb2 B1.out B1.out.size); have S2 := Lib.hid (S1.out.past hb2); have R2 := Lib.hid (R1.out.past hb2); clear hb2))
      have r2c := R2.out.cell
      have r2l := R2.out.lt
      have r2f := R2.out.free
      go_wp2_with fail
      have G := setCells_grown (w.heap.size + 1) [.int .i64 0, .slice none 0 0] 0 w2
      refine bodyPost_ret (v := .tuple #[noO.v, .int .i64 1]) (results_cell_tmp Try.results34 (g := w.heap.size + 1) rfl rfl (load24 (R2.out.set [.int .i64 0, .slice none 0 0] rfl))) rfl ?_
      exact RN.out _ _ (B2.out.trans (grown_below G B2.out.size (fun k hk => by injection hk with hk; omega))) (ANS.out)
    | true =>
      have M1 := Lib.hid h1
      cases h2 : inB now 1099511627776 with
      | false =>
        have M2 := Lib.hid h2
        clear h1 h2
        have MF : may = false := by rw [← MY.out, M1.out, M2.out]; rfl
        subst MF
        have ANS := Lib.hid (show askV o.val id pid gen false (sendF tp now) = (noC, 1) from ask_may HK.out)
        clear MY
        go_enter Try.func34, Try.ntmps34
        go_upto_region 4 with (first
          | (go_at_call 19; rw [← HW.out]; refine (CK.out _ B0.out).mono ?_; rintro e w1 ⟨rfl, hb1⟩; have B1 := Lib.hid (below_from hb1 B0.out B0.out.size); have S1 := Lib.hid (S0.out.past hb1); have R1 := Lib.hid (R0.out.past hb1); clear hb1 s0c s0l))
        have s1c := S1.out.cell
        have s1l := S1.out.lt
        go_upto_region 5 with (first
          | (go_at_call 49; refine (in_any now _).mono ?_; rintro e w' ⟨rfl, rfl⟩; rw [M2.out])
          | (go_at_call 50; refine (RT.out _).mono ?_; rintro e w2 ⟨rfl, hb2⟩; rw [M1.out]; have B2 := Lib.hid (below_from hb2 B1.out B1.out.size); have S2 := Lib.hid (S1.out.past hb2); have R2 := Lib.hid (R1.out.past hb2); clear hb2))
        have r2c := R2.out.cell
        have r2l := R2.out.lt
        have r2f := R2.out.free
        go_wp2_with fail
        have G := setCells_grown (w.heap.size + 1) [.int .i64 0, .slice none 0 0] 0 w2
        refine bodyPost_ret (v := .tuple #[noO.v, .int .i64 1]) (results_cell_tmp Try.results34 (g := w.heap.size + 1) rfl rfl (load24 (R2.out.set [.int .i64 0, .slice none 0 0] rfl))) rfl ?_
        exact RN.out _ _ (B2.out.trans (grown_below G B2.out.size (fun k hk => by injection hk with hk; omega))) (ANS.out)
      | true =>
        have M2 := Lib.hid h2
        have MT : may = true := by rw [← MY.out, h1, h2]; rfl
        subst MT
        clear h1 h2 MY
        cases hi : idAt o.val.L id with
        | none =>
          have ANS := Lib.hid (ask_none (pid := pid) (gen := gen) (f := sendF tp now) HK.out hi)
          have AV := Lib.hid (show askAt o.val id pid gen = (-1, 230) from by unfold askAt; rw [hi])
          simp only [AV.out] at RA
          clear hi
          go_enter Try.func34, Try.ntmps34
          go_upto_region 4 with (first
            | (go_at_call 19; rw [← HW.out]; refine (CK.out _ B0.out).mono ?_; rintro e w1 ⟨rfl, hb1⟩; have B1 := Lib.hid (below_from hb1 B0.out B0.out.size); have S1 := Lib.hid (S0.out.past hb1); have R1 := Lib.hid (R0.out.past hb1); clear hb1 s0c s0l))
          have s1c := S1.out.cell
          have s1l := S1.out.lt
          go_upto_region 6 with (first
            | (go_at_call 49; refine (in_any now _).mono ?_; rintro e w' ⟨rfl, rfl⟩; rw [M2.out])
            | (go_at_call 50; refine (RT.out _).mono ?_; rintro e w2 ⟨rfl, hb2⟩; rw [M1.out]; have B2 := Lib.hid (below_from hb2 B1.out B1.out.size); have S2 := Lib.hid (S1.out.past hb2); have R2 := Lib.hid (R1.out.past hb2); clear hb2))
          have s2c := S2.out.cell
          have s2l := S2.out.lt
          go_upto_region 8 with (go_at_call 68; refine (RA.out _ B2.out).mono ?_; rintro e w3 ⟨rfl, hb3⟩; have B3 := Lib.hid (below_from hb3 B2.out B2.out.size); have S3 := Lib.hid (S2.out.past hb3); have R3 := Lib.hid (R2.out.past hb3); clear hb3 s2c s2l)
          have r3c := R3.out.cell
          have r3l := R3.out.lt
          have r3f := R3.out.free
          go_wp2_with fail
          have G := setCells_grown (w.heap.size + 1) [.int .i64 0, .slice none 0 0] 0 w3
          refine bodyPost_ret (v := .tuple #[noO.v, .int .i64 230]) (results_cell_tmp Try.results34 (g := w.heap.size + 1) rfl rfl (load24 (R3.out.set [.int .i64 0, .slice none 0 0] rfl))) rfl ?_
          exact RN.out _ _ (B3.out.trans (grown_below G B3.out.size (fun k hk => by injection hk with hk; omega))) (ANS.out)
        | some i =>
          have hil : i < o.val.L.length := (id_some hi).elim fun h _ => h
          have hin : i < o.n := by rw [← LN.out]; exact hil
          obtain ⟨b, off, hl, hA, hbl, u0, u1, u2, u3, u4, u5, u6, u7⟩ := tx_at HO.out hin
          obtain ⟨x, hx⟩ : ∃ x, o.L[i] = x := ⟨_, rfl⟩
          have HX := Lib.hid (show Tx.In w x from by rw [← hx]; exact Sl.each HO.out _ (List.getElem_mem hl))
          have HV := Lib.hid (show o.val.L[i]? = some x.val from by show (o.L.map Tx.val)[i]? = _; rw [List.getElem?_map, List.getElem?_eq_getElem hl, hx]; rfl)
          have HM := Lib.hid (show x.val ∈ o.val.L from List.mem_of_getElem? HV.out)
          have HIN := Lib.hid hin
          have HI := Lib.hid hi
          have ANS := Lib.hid (ask_here (pid := pid) (gen := gen) (f := sendF tp now) HK.out hi HV.out)
          rw [hx] at u0 u1 u2 u3 u4 u5 u6 u7
          have UU := Lib.hid (fun W (k : Below w.heap.size w W) => (show W.cell? ⟨b, off + i * 8, none⟩ = some (.string x.id) ∧ W.cell? ⟨b, off + i * 8 + 1, none⟩ = some (.int .i64 x.pid) ∧ W.cell? ⟨b, off + i * 8 + 2, none⟩ = some (.int .i64 x.gen) ∧ W.cell? ⟨b, off + i * 8 + 3, none⟩ = some (.int .i64 x.no) ∧ W.cell? ⟨b, off + i * 8 + 4, none⟩ = some (.int .i64 x.st) ∧ W.cell? ⟨b, off + i * 8 + 5, none⟩ = some (.slice x.PA x.Pn x.Pc) ∧ W.cell? ⟨b, off + i * 8 + 6, none⟩ = some (.slice x.GA x.Gn x.Gc) ∧ W.cell? ⟨b, off + i * 8 + 7, none⟩ = some (.int .i64 x.at_) ∧ b < W.heap.size from
            ⟨(k.cell hbl).trans u0, (k.cell hbl).trans u1, (k.cell hbl).trans u2, (k.cell hbl).trans u3, (k.cell hbl).trans u4, (k.cell hbl).trans u5, (k.cell hbl).trans u6, (k.cell hbl).trans u7, Nat.lt_of_lt_of_le hbl k.size⟩))
          have q0 : (0 : Int) ≤ (i : Int) := by omega
          have q1 : (i : Int) < (o.n : Int) := by omega
          have HA := Lib.hid hA
          clear hi hx hl hil hin hA u0 u1 u2 u3 u4 u5 u6 u7 hbl
          by_cases hm : x.pid = pid ∧ x.gen = gen
          · have ANS := Lib.hid (show askV o.val id pid gen true (sendF tp now) = if (sendF tp now x.val).2 ≠ 0 then (noC, (sendF tp now x.val).2) else ({ o.val with L := o.val.L.set i (sendF tp now x.val).1 }, 0) from ANS.out.trans (if_pos hm))
            have AV := Lib.hid (show askAt o.val id pid gen = ((i : Int), 0) from by unfold askAt; rw [HI.out]; simp only [HV.out]; exact if_pos hm)
            simp only [AV.out] at RA
            clear hm
            go_enter Try.func34, Try.ntmps34
            go_upto_region 4 with (first
              | (go_at_call 19; rw [← HW.out]; refine (CK.out _ B0.out).mono ?_; rintro e w1 ⟨rfl, hb1⟩; have B1 := Lib.hid (below_from hb1 B0.out B0.out.size); have S1 := Lib.hid (S0.out.past hb1); have R1 := Lib.hid (R0.out.past hb1); clear hb1 s0c s0l))
            have s1c := S1.out.cell
            have s1l := S1.out.lt
            go_upto_region 6 with (first
              | (go_at_call 49; refine (in_any now _).mono ?_; rintro e w' ⟨rfl, rfl⟩; rw [M2.out])
              | (go_at_call 50; refine (RT.out _).mono ?_; rintro e w2 ⟨rfl, hb2⟩; rw [M1.out]; have B2 := Lib.hid (below_from hb2 B1.out B1.out.size); have S2 := Lib.hid (S1.out.past hb2); have R2 := Lib.hid (R1.out.past hb2); clear hb2))
            have s2c := S2.out.cell
            have s2l := S2.out.lt
            go_upto_region 9 with (go_at_call 68; refine (RA.out _ B2.out).mono ?_; rintro e w3 ⟨rfl, hb3⟩; have B3 := Lib.hid (below_from hb3 B2.out B2.out.size); have S3 := Lib.hid (S2.out.past hb3); have R3 := Lib.hid (R2.out.past hb3); clear hb3 s2c s2l)
            have s3c := S3.out.cell
            have s3l := S3.out.lt
            rw [HA.out] at s3c
            obtain ⟨u0, u1, u2, u3, u4, u5, u6, u7, ub⟩ := UU.out w3 B3.out
            go_upto_region 10 with (fail)
            obtain ⟨w4, hw4⟩ : ∃ W, W = w3.alloc (.cells #[.string x.id, .int .i64 x.pid, .int .i64 x.gen, .int .i64 x.no, .int .i64 x.st, .slice x.PA x.Pn x.Pc, .slice x.GA x.Gn x.Gc, .int .i64 x.at_] 33) := ⟨_, rfl⟩
            have hb4 : Below w3.heap.size w3 w4 := by rw [hw4]; exact below_alloc1 w3 _
            have X4 := Lib.hid (show Has w4 w3.heap.size #[.string x.id, .int .i64 x.pid, .int .i64 x.gen, .int .i64 x.no, .int .i64 x.st, .slice x.PA x.Pn x.Pc, .slice x.GA x.Gn x.Gc, .int .i64 x.at_] from by rw [hw4]; exact Has.newAt w3 _ 33 rfl)
            have B4 := Lib.hid (below_from hb4 B3.out B3.out.size)
            have S4 := Lib.hid (S3.out.past hb4)
            have R4 := Lib.hid (R3.out.past hb4)
            have GE := Lib.hid (show w.heap.size + 1 < w3.heap.size from R3.out.lt)
            rw [← hw4]
            clear hw4 hb4 s3c s3l u0 u1 u2 u3 u4 u5 u6 u7 ub q0 q1
            have x4c := X4.out.cell
            have x4l := X4.out.lt
            have OKX := Lib.hid (FN.out.ok HM.out)
            have FEWX := Lib.hid (FN.out.few _ HM.out)
            by_cases hs : 1 < x.st
            · have d1 : decide (1 < x.st) = true := decide_eq_true hs
              have E1 := Lib.hid (show (sendF tp now x.val) = (x.val, 211) from if_pos hs)
              have ANS := Lib.hid (show askV o.val id pid gen true (sendF tp now) = (noC, 211) from ANS.out.trans (by rw [E1.out]; exact if_pos (by simp)))
              clear hs
              have r4c := R4.out.cell
              have r4l := R4.out.lt
              have r4f := R4.out.free
              go_wp2_with fail
              have G := setCells_grown (w.heap.size + 1) [.int .i64 0, .slice none 0 0] 0 w4
              refine bodyPost_ret (v := .tuple #[noO.v, .int .i64 211]) (results_cell_tmp Try.results34 (g := w.heap.size + 1) rfl rfl (load24 (R4.out.set [.int .i64 0, .slice none 0 0] rfl))) rfl ?_
              exact RN.out _ _ (B4.out.trans (grown_below G B4.out.size (fun k hk => by injection hk with hk; omega))) (ANS.out)
            · have d1 : decide (1 < x.st) = false := decide_eq_false hs
              have E0 := Lib.hid (show (sendF tp now x.val) = if 64 < (insC cmpS tp x.G).length then (x.val, 2) else (runT { x.val with G := insC cmpS tp x.G } now, 0) from if_neg hs)
              obtain ⟨A, hA⟩ : ∃ A, x.GA = A := ⟨_, rfl⟩
              obtain ⟨n, hn⟩ : ∃ A, x.Gn = A := ⟨_, rfl⟩
              obtain ⟨c, hc⟩ : ∃ A, x.Gc = A := ⟨_, rfl⟩
              have HP := Lib.hid (show Sl strK w A n c x.G from by rw [← hA, ← hn, ← hc]; exact HX.out.g)
              have X4A := X4.out
              rw [hA, hn, hc] at X4A
              have X5 := Lib.hid (show Has w4 w3.heap.size #[.string x.id, .int .i64 x.pid, .int .i64 x.gen, .int .i64 x.no, .int .i64 x.st, .slice x.PA x.Pn x.Pc, .slice A n c, .int .i64 x.at_] from X4A)
              have HU := Lib.hid (show Up cmpS x.G from kept_up lawS OKX.out.g)
              have LNP := Lib.hid HP.out.len
              have nb : n ≤ 64 := by
                have h := FEWX.out.2
                have h2 : x.G.length ≤ 64 := h
                rw [LNP.out] at h2
                exact h2
              have l2 := HP.out.cap
              have l1 := HP.out.max
              have HE := Lib.hid (show x.GA = A ∧ x.Gn = n ∧ x.Gc = c from ⟨hA, hn, hc⟩)
              obtain ⟨i0, hi0, hz0, hs0, hb0⟩ := info_parts inf9
              clear hs hA hn hc X4A x4c x4l
              have x5c := X5.out.cell
              have x5l := X5.out.lt
              go_upto_region 12 with (fail)
              clear d1 x5c x5l
              go_wp2_with fail
              go_loopg [18] n (fun gg s18 wr => ∃ k : Nat, k ≤ n ∧ n - k ≤ gg ∧ s18 = .int .i64 k ∧ Hid (Has wr w3.heap.size #[.string x.id, .int .i64 x.pid, .int .i64 x.gen, .int .i64 x.no, .int .i64 x.st, .slice x.PA x.Pn x.Pc, .slice A n c, .int .i64 x.at_]) ∧ Hid (Has wr w.heap.size #[.int .i64 o.next, .slice o.A o.n o.c]) ∧ Hid (Has wr (w.heap.size + 1) #[.int .i64 0, .slice none 0 0]) ∧ Hid (Below w.heap.size w wr) ∧ Hid (Below w4.heap.size w4 wr) ∧ Hid (∀ j (h : j < x.G.length), j < k → cmpS x.G[j] tp < 0))
              case atStart => exact ⟨0, Nat.zero_le _, by omega, rfl, X5, S4, R4, B4, Lib.hid (Below.refl _ _), Lib.hid (fun j _ h => absurd h (Nat.not_lt_zero _))⟩
              case round =>
                obtain ⟨k, hk, hgg, rfl, XX, SS, RR, BB, B4R, hok⟩ := hrel
                have xc := XX.out.cell
                have xl := XX.out.lt
                by_cases hlt : k < n
                · obtain ⟨bb, off, hkl, hAe, hbl, u0⟩ := str_at (HP.out.below BB.out) hlt
                  subst hAe
                  obtain ⟨z, hz⟩ : ∃ z, x.G[k] = z := ⟨_, rfl⟩
                  rw [hz] at u0
                  have q0 : (0 : Int) ≤ (k : Int) := by omega
                  have q1 : (k : Int) < (n : Int) := by omega
                  have dk1 : decide ((k : Int) < (n : Int)) = true := decide_eq_true q1
                  have dk2 : decide (k < n) = true := decide_eq_true hlt
                  have dk3 : ((k : Int) == (n : Int)) = false := by rw [beq_eq_false_iff_ne]; omega
                  have dk4 : decide (k = n) = false := decide_eq_false (by omega)
                  have HB := Lib.hid hbl
                  by_cases hq : cmpS z tp < 0
                  · have dq : Op.bytesLess z.toList tp.toList = true := by rw [bl_eq]; exact decide_eq_true hq
                    have NX := Lib.hid (show ∀ j (h : j < x.G.length), j < k + 1 → cmpS x.G[j] tp < 0 from fun j hj hjk => by
                      rcases Nat.lt_or_ge j k with h' | h'
                      · exact hok.out j hj h'
                      · obtain rfl : j = k := by omega
                        rw [hz]; exact hq)
                    clear hq hz
                    go_wp2_with fail
                    go_roundg (n - (k + 1))
                    case measure => omega
                    case rel => exact ⟨k + 1, by omega, by omega, by go_num, XX, SS, RR, BB, B4R, NX⟩
                  · have dq : Op.bytesLess z.toList tp.toList = false := by rw [bl_eq]; exact decide_eq_false hq
                    have SRC := Lib.hid (show ∀ b : Bool, (b = true ↔ z = tp) → SrchG (fun y => cmpS y tp) x.G k b from fun b hb => srch_of lawS HU.out (by rw [LNP.out]; omega) hok.out (fun h => by rw [hz]; exact hq) b (hb.trans ⟨fun h => ⟨hkl, by rw [hz, h, lawS.self]; omega⟩, fun ⟨h1, h2⟩ => by
                      rw [hz] at h2
                      exact cmpS_eq.1 (by have := lawS.swap z tp; omega)⟩))
                    have EZ := Lib.hid hz
                    clear hq hz
                    by_cases e0 : z = tp
                    · have ZE := Lib.hid e0
                      have d1 : (z.toList == tp.toList) = true := by rw [e0]; simp
                      have d2 : decide (z.toList = tp.toList) = true := decide_eq_true (by rw [e0])
                      clear e0
                      have SR := Lib.hid (SRC.out true ⟨fun _ => ZE.out, fun _ => rfl⟩)
                      have INS := Lib.hid (show insC cmpS tp x.G = x.G from by rw [ins_srch SR.out, if_pos rfl, ← ZE.out, ← EZ.out, List.getElem_cons_drop, List.take_append_drop])
                      have NB := Lib.hid (show ¬ 64 < (insC cmpS tp x.G).length from by rw [INS.out, LNP.out]; omega)
                      go_upto_region 23 with (fail)
                      obtain ⟨wy, hwy⟩ : ∃ W, W = wr := ⟨_, rfl⟩
                      rw [← hwy] at XX SS RR BB B4R ⊢
                      have XY := XX
                      have SY := SS
                      have RY := RR
                      have BY := BB
                      have BY4 := B4R
                      clear hwy xc xl
                      have yc := XY.out.cell
                      have yl := XY.out.lt
                      clear yc yl 
                      have XYY := XY.out
                      rw [← HE.out.1, ← HE.out.2.1, ← HE.out.2.2] at XYY
                      have X9 := Lib.hid (show Has wy w3.heap.size #[.string x.id, .int .i64 x.pid, .int .i64 x.gen, .int .i64 x.no, .int .i64 x.st, .slice x.PA x.Pn x.Pc, .slice x.GA x.Gn x.Gc, .int .i64 x.at_] from XYY)
                      have YV := Lib.hid (show x.val = { x.val with G := insC cmpS tp x.G } from by rw [INS.out]; rfl)
                      clear XYY
                      have D1 := Lib.hid (show Below wy.heap.size wy wy.drew from (Below.refl _ wy).drew)
                      have AN2 := Lib.hid (show askV o.val id pid gen true (sendF tp now) = ({ o.val with L := o.val.L.set i (runX x now).val }, 0) from ANS.out.trans (by
                        rw [E0.out, if_neg NB.out, runX_val, YV.out]
                        exact if_neg (by simp)))
                      have PU := Lib.hid (fun W (h : Below wy.heap.size wy W) => rwith_any o i (runX x now) W (HO.out.below (BY.out.trans (h.mono BY.out.size))) ((fun (hh : Tx.In wy x) => (⟨hh.id, hh.p, hh.g⟩ : Tx.In wy (runX x now))) (HX.out.past BY.out) |>.past h) HIN.out NN.out)
                      refine region_tr (fun w' => w'.cell? ⟨w.heap.size, 0, none⟩ = some (.int .i64 o.next) ∧ w'.cell? ⟨w.heap.size, 1, none⟩ = some (.slice o.A o.n o.c) ∧ w'.cell? ⟨w3.heap.size, 0, none⟩ = some (.string x.id) ∧ w'.cell? ⟨w3.heap.size, 1, none⟩ = some (.int .i64 x.pid) ∧ w'.cell? ⟨w3.heap.size, 2, none⟩ = some (.int .i64 x.gen) ∧ w'.cell? ⟨w3.heap.size, 3, none⟩ = some (.int .i64 x.no) ∧ w'.cell? ⟨w3.heap.size, 4, none⟩ = some (.int .i64 x.st) ∧ w'.cell? ⟨w3.heap.size, 5, none⟩ = some (.slice x.PA x.Pn x.Pc) ∧ w'.cell? ⟨w3.heap.size, 6, none⟩ = some (.slice x.GA x.Gn x.Gc) ∧ w'.cell? ⟨w3.heap.size, 7, none⟩ = some (.int .i64 x.at_)) 6 (.take 0 (.take 1 (.take 2 (.take 3 (.op 4 (.op 5 .tail)))))) (by kernel_rfl) (by kernel_rfl) ⟨(SY.out.past D1.out).cell 0, (SY.out.past D1.out).cell 1, (X9.out.past D1.out).cell 0, (X9.out.past D1.out).cell 1, (X9.out.past D1.out).cell 2, (X9.out.past D1.out).cell 3, (X9.out.past D1.out).cell 4, (X9.out.past D1.out).cell 5, (X9.out.past D1.out).cell 6, (X9.out.past D1.out).cell 7⟩ (fun hHeld => ?_)
                      iterate 4
                        refine tr_take (v := ?_) (by simp only [List.getElem?_toArray, List.getElem?_cons_succ, List.getElem?_cons_zero]; rfl) (Or.inl ⟨by rfl, ?_⟩) ?_
                        rotate_left 1
                        · intro w hSw
                          try dsimp only at hSw
                          go_simp
                          try with_reducible rfl
                        try simp only [Act.put, List.setIfInBounds_toArray, List.set_cons_zero, List.set_cons_succ]
                      refine tr_op (by simp only [List.getElem?_toArray, List.getElem?_cons_succ, List.getElem?_cons_zero]; rfl) (fun K hK => ?_)
                      go_wp2_with (go_at_call 70; refine (running_any x now _).mono ?_; rintro e w11 ⟨rfl, hb⟩)
                      clear hHeld
                      have F1 := Lib.hid (below_from hb D1.out D1.out.size)
                      clear hb
                      refine hK.out _ _ ⟨(SY.out.past F1.out).cell 0, (SY.out.past F1.out).cell 1, (X9.out.past F1.out).cell 0, (X9.out.past F1.out).cell 1, (X9.out.past F1.out).cell 2, (X9.out.past F1.out).cell 3, (X9.out.past F1.out).cell 4, (X9.out.past F1.out).cell 5, (X9.out.past F1.out).cell 6, (X9.out.past F1.out).cell 7⟩ (fun hHeld => ?_)
                      clear hK K
                      try simp only [Act.put, List.setIfInBounds_toArray, List.set_cons_zero, List.set_cons_succ]
                      refine tr_op (by simp only [List.getElem?_toArray, List.getElem?_cons_succ, List.getElem?_cons_zero]; rfl) (fun K hK => ?_)
                      go_wp2_with (go_at_call 52; refine (PU.out _ F1.out).mono ?_; rintro e w12 ⟨q, rfl, hq, hb⟩)
                      clear hHeld
                      have F2 := Lib.hid (below_from hb F1.out F1.out.size)
                      have HQQ := Lib.hid hq
                      clear hb hq
                      refine hK.out _ _ ⟨(SY.out.past F2.out).cell 0, (SY.out.past F2.out).cell 1, (X9.out.past F2.out).cell 0, (X9.out.past F2.out).cell 1, (X9.out.past F2.out).cell 2, (X9.out.past F2.out).cell 3, (X9.out.past F2.out).cell 4, (X9.out.past F2.out).cell 5, (X9.out.past F2.out).cell 6, (X9.out.past F2.out).cell 7⟩ (fun hHeld => ?_)
                      clear hK K
                      try simp only [Act.put, List.setIfInBounds_toArray, List.set_cons_zero, List.set_cons_succ]
                      refine tr_tail rfl ?_
                      clear hHeld
                      have r9 := RY.out.past F2.out
                      have B9 := below_from F2.out BY.out BY.out.size
                      have RQ := Lib.hid r9
                      have BQ := Lib.hid B9
                      have r9c := r9.cell
                      have r9l := r9.lt
                      have r9f := r9.free
                      clear r9 B9
                      go_wp2_with fail
                      have G := setCells_grown (w.heap.size + 1) [.int .i64 q.next, .slice q.A q.n q.c] 0 w12
                      have BB2 := BQ.out.trans (grown_below G BQ.out.size (fun k hk => by injection hk with hk; omega))
                      refine bodyPost_ret (v := .tuple #[q.v, .int .i64 0]) (results_cell_tmp Try.results34 (g := w.heap.size + 1) rfl rfl (load24 (RQ.out.set [.int .i64 q.next, .slice q.A q.n q.c] rfl))) rfl ?_
                      exact CoRes.of AN2.out (HQQ.out.beside RQ.out (tc_texts _ _ _ _) G) BB2
                    · have SR := Lib.hid (SRC.out false ⟨fun h => (by cases h), fun h => absurd h e0⟩)
                      obtain ⟨d1, d2, d3⟩ := str_nes e0
                      clear e0
                      have LEN := Lib.hid (show (insC cmpS tp x.G).length = n + 1 from by
                        rw [ins_srch SR.out, if_neg (by simp), List.length_append, List.length_cons, List.length_take, List.length_drop, LNP.out]; omega)
                      go_upto_region 16 with (fail)
                      obtain ⟨wy, hwy⟩ : ∃ W, W = wr := ⟨_, rfl⟩
                      rw [← hwy] at XX SS RR BB B4R ⊢
                      have XY := XX
                      have SY := SS
                      have RY := RR
                      have BY := BB
                      have BY4 := B4R
                      clear hwy xc xl
                      have yc := XY.out.cell
                      have yl := XY.out.lt
                      have ncm : ¬ c = k := by omega
                      have nc0 : ¬ c = 0 := by omega
                      by_cases hb8 : n = 64
                      · have d8 : ((n : Int) == 64) = true := by rw [beq_iff_eq]; omega
                        have d9 : decide (n = 64) = true := decide_eq_true hb8
                        have E1 := Lib.hid (show (sendF tp now x.val) = (x.val, 2) from E0.out.trans (if_pos (by rw [LEN.out]; omega)))
                        have AN := Lib.hid (show askV o.val id pid gen true (sendF tp now) = (noC, 2) from ANS.out.trans (by rw [E1.out]; exact if_pos (by simp)))
                        have ryc := RY.out.cell
                        have ryl := RY.out.lt
                        have ryf := RY.out.free
                        clear hb8
                        go_wp2_with fail
                        have Ry := RY
                        have By := BY
                        have G := setCells_grown (w.heap.size + 1) [.int .i64 0, .slice none 0 0] 0 wy
                        refine bodyPost_ret (v := .tuple #[noO.v, .int .i64 2]) (results_cell_tmp Try.results34 (g := w.heap.size + 1) rfl rfl (load24 (Ry.out.set [.int .i64 0, .slice none 0 0] rfl))) rfl ?_
                        exact RN.out _ _ (By.out.trans (grown_below G By.out.size (fun k hk => by injection hk with hk; omega))) (AN.out)
                      · have d8 : ((n : Int) == 64) = false := by rw [beq_eq_false_iff_ne]; omega
                        have d9 : decide (n = 64) = false := decide_eq_false hb8
                        have NB := Lib.hid (show ¬ 64 < (insC cmpS tp x.G).length from by rw [LEN.out]; omega)
                        clear hb8
                        obtain ⟨a0, ha0⟩ : ∃ a : Addr, (⟨bb, off, none⟩ : Addr) = a := ⟨_, rfl⟩
                        have HP9 := Lib.hid (HP.out.below BY.out)
                        rw [ha0] at HP9 yc XY HE ⊢
                        have HA0 := Lib.hid ha0
                        have SLI := Lib.hid (HP9.out.take k (by omega))
                        have ww := BY.out.size
                        go_wp2_with (at_builtin; refine wpList_append_sl (K := strK) _ rfl _ _ 31 rfl wy.heap.size 9 i0 _ 16 Try.underlying31 hi0 hz0 hs0 hb0 rfl none 0 0 [] rfl (World.ownsRow_nil _ _ _ _) (some a0) k c (x.G.take k) rfl SLI.out (by unfold maxLen; omega) (by omega) (Nat.le_refl _) ?_)
                        intro A1 c1 W1 ho hg hnb
                        clear hnb
                        have b1 : Below wy.heap.size wy W1 := grown_below hg (Nat.le_refl _) (fun q hq => by cases hq)
                        have O1 := Lib.hid (show Own strK 9 W1 wy.heap.size A1 k c1 (x.G.take k) from ⟨SLI.out.len, by simpa using ho, fun a ha => strK.below (SLI.out.each a ha) b1⟩)
                        have BW1 := Lib.hid b1
                        have y1c := (XY.out.past b1).cell
                        have y1l := (XY.out.past b1).lt
                        clear ho hg b1 yc yl 
                        go_wp2_with (at_builtin; refine wpList_app1 (K := strK) _ rfl _ _ 31 rfl wy.heap.size 9 i0 _ 16 Try.underlying31 hi0 hz0 hs0 hb0 rfl A1 _ c1 _ rfl (O1.out.kept (below_alloc1 W1 (.cells #[.string tp] 9))) W1.heap.size rfl tp (fun j _ => ((Has.newAt W1 #[.string tp] 9 (g := W1.heap.size) rfl).cell j).trans (by simp; rfl)) HWF.out (fun _ _ h => h) (by unfold maxLen; omega) (by omega) (Nat.le_trans BW1.out.size (below_alloc1 W1 _).size) ?_)
                        intro A2 c2 W2 ho hg hnb
                        clear hnb
                        have O2 := Lib.hid (ho)
                        have b2 := BW1.out.trans ((below_alloc1 W1 (.cells #[.string tp] 9)).mono BW1.out.size)
                        have BW2 := Lib.hid (b2.trans (grown_below hg b2.size (fun q hq => (O1.out.2.1.lt q hq).1)))
                        clear ho hg b2 y1c y1l
                        have RS := Lib.hid (show insC cmpS tp x.G = x.G.take k ++ [tp] ++ x.G.drop k from by rw [ins_srch SR.out, if_neg (by simp)]; simp)
                        have BW2w := Lib.hid (BY.out.trans (BW2.out.mono BY.out.size))
                        have SLR := Lib.hid (show Sl strK W2 (some (a0.add k)) (n - k) (c - k) (x.G.drop k) from by have := sl_dropA (HP9.out.below BW2.out) k (by omega); rw [if_neg ncm, show k * strK.size = k from Nat.mul_one _] at this; exact this)
                        have y2c := (XY.out.past BW2.out).cell
                        have y2l := (XY.out.past BW2.out).lt
                        go_wp2_with (at_builtin; refine wpList_append_sl (K := strK) _ rfl _ _ 31 rfl wy.heap.size 9 i0 _ 16 Try.underlying31 hi0 hz0 hs0 hb0 rfl A2 _ c2 _ rfl O2.out.2.1 _ (n - k) _ (x.G.drop k) (by first | rfl | (go_simp; rfl)) SLR.out (by unfold maxLen; omega) (by omega) BW2.out.size ?_)
                        intro A3 c3 W3 ho hg hnb
                        clear hnb
                        have BW3 := Lib.hid (BW2.out.trans (grown_below hg BW2.out.size (fun q hq => (O2.out.2.1.lt q hq).1)))
                        have O3 := Lib.hid (show Own strK 9 W3 wy.heap.size A3 (k + 1 + (n - k)) c3 (insC cmpS tp x.G) from by
                          rw [RS.out]
                          refine ⟨by rw [List.length_append, O2.out.1, SLR.out.len], by simpa only [List.flatMap_append, List.flatMap_cons, List.flatMap_nil, List.append_nil, List.append_assoc] using ho, fun y hy => ?_⟩
                          rcases List.mem_append.1 hy with hy | hy
                          · exact O2.out.2.2 y hy
                          · exact SLR.out.each y hy)
                        clear ho hg y2c y2l
                        have X3f := Lib.hid (XY.out.past BW3.out)
                        have y3c := X3f.out.cell
                        have y3l := X3f.out.lt
                        have y3f := X3f.out.free
                        go_upto_region 23 with (fail)
                        obtain ⟨y, hy⟩ : ∃ y : Tx, y = { x with GA := A3, Gn := (k + 1 + (n - k)), Gc := c3, G := insC cmpS tp x.G } := ⟨_, rfl⟩
                        have G := setCells_grown w3.heap.size [.slice A3 (k + 1 + (n - k)) c3] 6 W3
                        obtain ⟨w9, hw9⟩ : ∃ W, W = W3.setCells w3.heap.size 6 [.slice A3 (k + 1 + (n - k)) c3] := ⟨_, rfl⟩
                        rw [← hw9] at G
                        have X9 := Lib.hid (show Has w9 w3.heap.size #[.string y.id, .int .i64 y.pid, .int .i64 y.gen, .int .i64 y.no, .int .i64 y.st, .slice y.PA y.Pn y.Pc, .slice y.GA y.Gn y.Gc, .int .i64 y.at_] from by
                          have := X3f.out.setAt 6 (.slice A3 (k + 1 + (n - k)) c3) (by simp)
                          rw [hw9, hy]
                          simpa [World.setCells] using this)
                        have LW := Lib.hid (show w3.heap.size < wy.heap.size from XY.out.lt)
                        have BW3w := Lib.hid (BY.out.trans (BW3.out.mono BY.out.size))
                        have B9 := Lib.hid (BW3w.out.trans (grown_below G BW3w.out.size (fun k hk => by injection hk with hk; have := GE.out; omega)))
                        have S9 := Lib.hid ((SY.out.past BW3.out).grown G (by have := GE.out; omega))
                        have R9 := Lib.hid ((RY.out.past BW3.out).grown G (by have := GE.out; omega))
                        have I9 := Lib.hid (show Tx.In w9 y from by
                          rw [hy]
                          have hp := (O3.out.grown G LW.out (fun a ha => O3.out.2.2 a ha)).sl
                          have hx := HX.out.past B9.out
                          exact ⟨hx.id, hx.p, hp⟩)
                        have YV := Lib.hid (show y.val = { x.val with G := insC cmpS tp x.G } from by rw [hy]; rfl)
                        rw [show W3.setCell ⟨w3.heap.size, 6, none⟩ (.slice A3 (k + 1 + (n - k)) c3) = w9 from hw9.symm]
                        clear hw9 G hy y3c y3l y3f
                        have D1 := Lib.hid (show Below w9.heap.size w9 w9.drew from (Below.refl _ w9).drew)
                        have AN2 := Lib.hid (show askV o.val id pid gen true (sendF tp now) = ({ o.val with L := o.val.L.set i (runX y now).val }, 0) from ANS.out.trans (by
                          rw [E0.out, if_neg NB.out, runX_val, YV.out]
                          exact if_neg (by simp)))
                        have PU := Lib.hid (fun W (h : Below w9.heap.size w9 W) => rwith_any o i (runX y now) W (HO.out.below (B9.out.trans (h.mono B9.out.size))) ((fun (hh : Tx.In w9 y) => (⟨hh.id, hh.p, hh.g⟩ : Tx.In w9 (runX y now))) I9.out |>.past h) HIN.out NN.out)
                        refine region_tr (fun w' => w'.cell? ⟨w.heap.size, 0, none⟩ = some (.int .i64 o.next) ∧ w'.cell? ⟨w.heap.size, 1, none⟩ = some (.slice o.A o.n o.c) ∧ w'.cell? ⟨w3.heap.size, 0, none⟩ = some (.string y.id) ∧ w'.cell? ⟨w3.heap.size, 1, none⟩ = some (.int .i64 y.pid) ∧ w'.cell? ⟨w3.heap.size, 2, none⟩ = some (.int .i64 y.gen) ∧ w'.cell? ⟨w3.heap.size, 3, none⟩ = some (.int .i64 y.no) ∧ w'.cell? ⟨w3.heap.size, 4, none⟩ = some (.int .i64 y.st) ∧ w'.cell? ⟨w3.heap.size, 5, none⟩ = some (.slice y.PA y.Pn y.Pc) ∧ w'.cell? ⟨w3.heap.size, 6, none⟩ = some (.slice y.GA y.Gn y.Gc) ∧ w'.cell? ⟨w3.heap.size, 7, none⟩ = some (.int .i64 y.at_)) 6 (.take 0 (.take 1 (.take 2 (.take 3 (.op 4 (.op 5 .tail)))))) (by kernel_rfl) (by kernel_rfl) ⟨(S9.out.past D1.out).cell 0, (S9.out.past D1.out).cell 1, (X9.out.past D1.out).cell 0, (X9.out.past D1.out).cell 1, (X9.out.past D1.out).cell 2, (X9.out.past D1.out).cell 3, (X9.out.past D1.out).cell 4, (X9.out.past D1.out).cell 5, (X9.out.past D1.out).cell 6, (X9.out.past D1.out).cell 7⟩ (fun hHeld => ?_)
                        iterate 4
                          refine tr_take (v := ?_) (by simp only [List.getElem?_toArray, List.getElem?_cons_succ, List.getElem?_cons_zero]; rfl) (Or.inl ⟨by rfl, ?_⟩) ?_
                          rotate_left 1
                          · intro w hSw
                            try dsimp only at hSw
                            go_simp
                            try with_reducible rfl
                          try simp only [Act.put, List.setIfInBounds_toArray, List.set_cons_zero, List.set_cons_succ]
                        refine tr_op (by simp only [List.getElem?_toArray, List.getElem?_cons_succ, List.getElem?_cons_zero]; rfl) (fun K hK => ?_)
                        go_wp2_with (go_at_call 70; refine (running_any y now _).mono ?_; rintro e w11 ⟨rfl, hb⟩)
                        clear hHeld
                        have F1 := Lib.hid (below_from hb D1.out D1.out.size)
                        clear hb
                        refine hK.out _ _ ⟨(S9.out.past F1.out).cell 0, (S9.out.past F1.out).cell 1, (X9.out.past F1.out).cell 0, (X9.out.past F1.out).cell 1, (X9.out.past F1.out).cell 2, (X9.out.past F1.out).cell 3, (X9.out.past F1.out).cell 4, (X9.out.past F1.out).cell 5, (X9.out.past F1.out).cell 6, (X9.out.past F1.out).cell 7⟩ (fun hHeld => ?_)
                        clear hK K
                        try simp only [Act.put, List.setIfInBounds_toArray, List.set_cons_zero, List.set_cons_succ]
                        refine tr_op (by simp only [List.getElem?_toArray, List.getElem?_cons_succ, List.getElem?_cons_zero]; rfl) (fun K hK => ?_)
                        go_wp2_with (go_at_call 52; refine (PU.out _ F1.out).mono ?_; rintro e w12 ⟨q, rfl, hq, hb⟩)
                        clear hHeld
                        have F2 := Lib.hid (below_from hb F1.out F1.out.size)
                        have HQQ := Lib.hid hq
                        clear hb hq
                        refine hK.out _ _ ⟨(S9.out.past F2.out).cell 0, (S9.out.past F2.out).cell 1, (X9.out.past F2.out).cell 0, (X9.out.past F2.out).cell 1, (X9.out.past F2.out).cell 2, (X9.out.past F2.out).cell 3, (X9.out.past F2.out).cell 4, (X9.out.past F2.out).cell 5, (X9.out.past F2.out).cell 6, (X9.out.past F2.out).cell 7⟩ (fun hHeld => ?_)
                        clear hK K
                        try simp only [Act.put, List.setIfInBounds_toArray, List.set_cons_zero, List.set_cons_succ]
                        refine tr_tail rfl ?_
                        clear hHeld
                        have r9 := R9.out.past F2.out
                        have B9 := below_from F2.out B9.out B9.out.size
                        have RQ := Lib.hid r9
                        have BQ := Lib.hid B9
                        have r9c := r9.cell
                        have r9l := r9.lt
                        have r9f := r9.free
                        clear r9 B9
                        go_wp2_with fail
                        have G := setCells_grown (w.heap.size + 1) [.int .i64 q.next, .slice q.A q.n q.c] 0 w12
                        have BB2 := BQ.out.trans (grown_below G BQ.out.size (fun k hk => by injection hk with hk; omega))
                        refine bodyPost_ret (v := .tuple #[q.v, .int .i64 0]) (results_cell_tmp Try.results34 (g := w.heap.size + 1) rfl rfl (load24 (RQ.out.set [.int .i64 q.next, .slice q.A q.n q.c] rfl))) rfl ?_
                        exact CoRes.of AN2.out (HQQ.out.beside RQ.out (tc_texts _ _ _ _) G) BB2
                · have jn : n = k := by omega
                  subst jn
                  have SR := Lib.hid (show SrchG (fun y => cmpS y tp) x.G n false from srch_of lawS HU.out (by rw [LNP.out]; exact Nat.le_refl _) hok.out (fun h => by have := LNP.out; omega) _ ⟨fun h => (by cases h), fun ⟨h, _⟩ => (by have := LNP.out; omega)⟩)
                  have dk1 : decide ((n : Int) < (n : Int)) = false := decide_eq_false (by omega)
                  have dk2 : decide (n < n) = false := decide_eq_false (by omega)
                  have dk3 : ((n : Int) == (n : Int)) = true := by simp
                  have dk4 : decide (n = n) = true := decide_eq_true rfl
                  clear hok hgg hk hlt
                  have LEN := Lib.hid (show (insC cmpS tp x.G).length = n + 1 from by
                    rw [ins_srch SR.out, if_neg (by simp), List.length_append, List.length_cons, List.length_take, List.length_drop, LNP.out]; omega)
                  go_upto_region 16 with (fail)
                  obtain ⟨wy, hwy⟩ : ∃ W, W = wr := ⟨_, rfl⟩
                  rw [← hwy] at XX SS RR BB B4R ⊢
                  have XY := XX
                  have SY := SS
                  have RY := RR
                  have BY := BB
                  have BY4 := B4R
                  clear hwy xc xl
                  have yc := XY.out.cell
                  have yl := XY.out.lt
                  by_cases hb8 : n = 64
                  · have d8 : ((n : Int) == 64) = true := by rw [beq_iff_eq]; omega
                    have d9 : decide (n = 64) = true := decide_eq_true hb8
                    have E1 := Lib.hid (show (sendF tp now x.val) = (x.val, 2) from E0.out.trans (if_pos (by rw [LEN.out]; omega)))
                    have AN := Lib.hid (show askV o.val id pid gen true (sendF tp now) = (noC, 2) from ANS.out.trans (by rw [E1.out]; exact if_pos (by simp)))
                    have ryc := RY.out.cell
                    have ryl := RY.out.lt
                    have ryf := RY.out.free
                    clear hb8
                    go_wp2_with fail
                    have Ry := RY
                    have By := BY
                    have G := setCells_grown (w.heap.size + 1) [.int .i64 0, .slice none 0 0] 0 wy
                    refine bodyPost_ret (v := .tuple #[noO.v, .int .i64 2]) (results_cell_tmp Try.results34 (g := w.heap.size + 1) rfl rfl (load24 (Ry.out.set [.int .i64 0, .slice none 0 0] rfl))) rfl ?_
                    exact RN.out _ _ (By.out.trans (grown_below G By.out.size (fun k hk => by injection hk with hk; omega))) (AN.out)
                  · have d8 : ((n : Int) == 64) = false := by rw [beq_eq_false_iff_ne]; omega
                    have d9 : decide (n = 64) = false := decide_eq_false hb8
                    have NB := Lib.hid (show ¬ 64 < (insC cmpS tp x.G).length from by rw [LEN.out]; omega)
                    clear hb8
                    have HP9 := Lib.hid (HP.out.below BY.out)
                    rcases A with _ | a0
                    · obtain ⟨e1, e2⟩ := HP9.out.adr rfl
                      subst e1 e2
                      have e3 : x.G = [] := List.length_eq_zero_iff.1 LNP.out
                      have E3 := Lib.hid e3
                      clear e3
                      have ww := BY.out.size
                      have O1 := Lib.hid (show Own strK 9 wy wy.heap.size none 0 0 [] from ⟨rfl, World.ownsRow_nil _ _ _ _, fun a ha => by cases ha⟩)
                      have BW1 := Lib.hid (Below.refl wy.heap.size wy)
                      go_wp2_with (at_builtin; refine wpList_app1 (K := strK) _ rfl _ _ 31 rfl wy.heap.size 9 i0 _ 16 Try.underlying31 hi0 hz0 hs0 hb0 rfl none _ 0 _ rfl (O1.out.kept (below_alloc1 wy (.cells #[.string tp] 9))) wy.heap.size rfl tp (fun j _ => ((Has.newAt wy #[.string tp] 9 (g := wy.heap.size) rfl).cell j).trans (by simp; rfl)) HWF.out (fun _ _ h => h) (by unfold maxLen; omega) (by omega) (Nat.le_trans BW1.out.size (below_alloc1 wy _).size) ?_)
                      intro A2 c2 W2 ho hg hnb
                      clear hnb
                      have O2 := Lib.hid (show Own strK 9 W2 wy.heap.size A2 1 c2 (x.G.take 0 ++ [tp]) from by rw [List.take_zero]; exact ho)
                      have b2 := BW1.out.trans ((below_alloc1 wy (.cells #[.string tp] 9)).mono BW1.out.size)
                      have BW2 := Lib.hid (b2.trans (grown_below hg b2.size (fun q hq => (O1.out.2.1.lt q hq).1)))
                      clear ho hg b2 yc yl
                      have RS := Lib.hid (show insC cmpS tp x.G = x.G.take 0 ++ [tp] ++ x.G.drop 0 from by rw [ins_srch SR.out, if_neg (by simp)]; simp)
                      have BW2w := Lib.hid (BY.out.trans (BW2.out.mono BY.out.size))
                      have SLR := Lib.hid (show Sl strK W2 none 0 0 (x.G.drop 0) from by rw [List.drop_zero, E3.out]; exact Sl.nil _ _)
                      have y2c := (XY.out.past BW2.out).cell
                      have y2l := (XY.out.past BW2.out).lt
                      go_wp2_with (at_builtin; refine wpList_append_sl (K := strK) _ rfl _ _ 31 rfl wy.heap.size 9 i0 _ 16 Try.underlying31 hi0 hz0 hs0 hb0 rfl A2 _ c2 _ rfl O2.out.2.1 _ 0 _ (x.G.drop 0) (by first | rfl | (go_simp; rfl)) SLR.out (by unfold maxLen; omega) (by omega) BW2.out.size ?_)
                      intro A3 c3 W3 ho hg hnb
                      clear hnb
                      have BW3 := Lib.hid (BW2.out.trans (grown_below hg BW2.out.size (fun q hq => (O2.out.2.1.lt q hq).1)))
                      have O3 := Lib.hid (show Own strK 9 W3 wy.heap.size A3 1 c3 (insC cmpS tp x.G) from by
                        rw [RS.out]
                        refine ⟨by rw [List.length_append, O2.out.1, SLR.out.len], by simpa only [List.flatMap_append, List.flatMap_cons, List.flatMap_nil, List.append_nil, List.append_assoc, List.take_zero, List.drop_zero, List.nil_append] using ho, fun y hy => ?_⟩
                        rcases List.mem_append.1 hy with hy | hy
                        · exact O2.out.2.2 y hy
                        · exact SLR.out.each y hy)
                      clear ho hg y2c y2l
                      have X3f := Lib.hid (XY.out.past BW3.out)
                      have y3c := X3f.out.cell
                      have y3l := X3f.out.lt
                      have y3f := X3f.out.free
                      go_upto_region 23 with (fail)
                      obtain ⟨y, hy⟩ : ∃ y : Tx, y = { x with GA := A3, Gn := 1, Gc := c3, G := insC cmpS tp x.G } := ⟨_, rfl⟩
                      have G := setCells_grown w3.heap.size [.slice A3 1 c3] 6 W3
                      obtain ⟨w9, hw9⟩ : ∃ W, W = W3.setCells w3.heap.size 6 [.slice A3 1 c3] := ⟨_, rfl⟩
                      rw [← hw9] at G
                      have X9 := Lib.hid (show Has w9 w3.heap.size #[.string y.id, .int .i64 y.pid, .int .i64 y.gen, .int .i64 y.no, .int .i64 y.st, .slice y.PA y.Pn y.Pc, .slice y.GA y.Gn y.Gc, .int .i64 y.at_] from by
                        have := X3f.out.setAt 6 (.slice A3 1 c3) (by simp)
                        rw [hw9, hy]
                        simpa [World.setCells] using this)
                      have LW := Lib.hid (show w3.heap.size < wy.heap.size from XY.out.lt)
                      have BW3w := Lib.hid (BY.out.trans (BW3.out.mono BY.out.size))
                      have B9 := Lib.hid (BW3w.out.trans (grown_below G BW3w.out.size (fun k hk => by injection hk with hk; have := GE.out; omega)))
                      have S9 := Lib.hid ((SY.out.past BW3.out).grown G (by have := GE.out; omega))
                      have R9 := Lib.hid ((RY.out.past BW3.out).grown G (by have := GE.out; omega))
                      have I9 := Lib.hid (show Tx.In w9 y from by
                        rw [hy]
                        have hp := (O3.out.grown G LW.out (fun a ha => O3.out.2.2 a ha)).sl
                        have hx := HX.out.past B9.out
                        exact ⟨hx.id, hx.p, hp⟩)
                      have YV := Lib.hid (show y.val = { x.val with G := insC cmpS tp x.G } from by rw [hy]; rfl)
                      rw [show W3.setCell ⟨w3.heap.size, 6, none⟩ (.slice A3 1 c3) = w9 from hw9.symm]
                      clear hw9 G hy y3c y3l y3f
                      have D1 := Lib.hid (show Below w9.heap.size w9 w9.drew from (Below.refl _ w9).drew)
                      have AN2 := Lib.hid (show askV o.val id pid gen true (sendF tp now) = ({ o.val with L := o.val.L.set i (runX y now).val }, 0) from ANS.out.trans (by
                        rw [E0.out, if_neg NB.out, runX_val, YV.out]
                        exact if_neg (by simp)))
                      have PU := Lib.hid (fun W (h : Below w9.heap.size w9 W) => rwith_any o i (runX y now) W (HO.out.below (B9.out.trans (h.mono B9.out.size))) ((fun (hh : Tx.In w9 y) => (⟨hh.id, hh.p, hh.g⟩ : Tx.In w9 (runX y now))) I9.out |>.past h) HIN.out NN.out)
                      refine region_tr (fun w' => w'.cell? ⟨w.heap.size, 0, none⟩ = some (.int .i64 o.next) ∧ w'.cell? ⟨w.heap.size, 1, none⟩ = some (.slice o.A o.n o.c) ∧ w'.cell? ⟨w3.heap.size, 0, none⟩ = some (.string y.id) ∧ w'.cell? ⟨w3.heap.size, 1, none⟩ = some (.int .i64 y.pid) ∧ w'.cell? ⟨w3.heap.size, 2, none⟩ = some (.int .i64 y.gen) ∧ w'.cell? ⟨w3.heap.size, 3, none⟩ = some (.int .i64 y.no) ∧ w'.cell? ⟨w3.heap.size, 4, none⟩ = some (.int .i64 y.st) ∧ w'.cell? ⟨w3.heap.size, 5, none⟩ = some (.slice y.PA y.Pn y.Pc) ∧ w'.cell? ⟨w3.heap.size, 6, none⟩ = some (.slice y.GA y.Gn y.Gc) ∧ w'.cell? ⟨w3.heap.size, 7, none⟩ = some (.int .i64 y.at_)) 6 (.take 0 (.take 1 (.take 2 (.take 3 (.op 4 (.op 5 .tail)))))) (by kernel_rfl) (by kernel_rfl) ⟨(S9.out.past D1.out).cell 0, (S9.out.past D1.out).cell 1, (X9.out.past D1.out).cell 0, (X9.out.past D1.out).cell 1, (X9.out.past D1.out).cell 2, (X9.out.past D1.out).cell 3, (X9.out.past D1.out).cell 4, (X9.out.past D1.out).cell 5, (X9.out.past D1.out).cell 6, (X9.out.past D1.out).cell 7⟩ (fun hHeld => ?_)
                      iterate 4
                        refine tr_take (v := ?_) (by simp only [List.getElem?_toArray, List.getElem?_cons_succ, List.getElem?_cons_zero]; rfl) (Or.inl ⟨by rfl, ?_⟩) ?_
                        rotate_left 1
                        · intro w hSw
                          try dsimp only at hSw
                          go_simp
                          try with_reducible rfl
                        try simp only [Act.put, List.setIfInBounds_toArray, List.set_cons_zero, List.set_cons_succ]
                      refine tr_op (by simp only [List.getElem?_toArray, List.getElem?_cons_succ, List.getElem?_cons_zero]; rfl) (fun K hK => ?_)
                      go_wp2_with (go_at_call 70; refine (running_any y now _).mono ?_; rintro e w11 ⟨rfl, hb⟩)
                      clear hHeld
                      have F1 := Lib.hid (below_from hb D1.out D1.out.size)
                      clear hb
                      refine hK.out _ _ ⟨(S9.out.past F1.out).cell 0, (S9.out.past F1.out).cell 1, (X9.out.past F1.out).cell 0, (X9.out.past F1.out).cell 1, (X9.out.past F1.out).cell 2, (X9.out.past F1.out).cell 3, (X9.out.past F1.out).cell 4, (X9.out.past F1.out).cell 5, (X9.out.past F1.out).cell 6, (X9.out.past F1.out).cell 7⟩ (fun hHeld => ?_)
                      clear hK K
                      try simp only [Act.put, List.setIfInBounds_toArray, List.set_cons_zero, List.set_cons_succ]
                      refine tr_op (by simp only [List.getElem?_toArray, List.getElem?_cons_succ, List.getElem?_cons_zero]; rfl) (fun K hK => ?_)
                      go_wp2_with (go_at_call 52; refine (PU.out _ F1.out).mono ?_; rintro e w12 ⟨q, rfl, hq, hb⟩)
                      clear hHeld
                      have F2 := Lib.hid (below_from hb F1.out F1.out.size)
                      have HQQ := Lib.hid hq
                      clear hb hq
                      refine hK.out _ _ ⟨(S9.out.past F2.out).cell 0, (S9.out.past F2.out).cell 1, (X9.out.past F2.out).cell 0, (X9.out.past F2.out).cell 1, (X9.out.past F2.out).cell 2, (X9.out.past F2.out).cell 3, (X9.out.past F2.out).cell 4, (X9.out.past F2.out).cell 5, (X9.out.past F2.out).cell 6, (X9.out.past F2.out).cell 7⟩ (fun hHeld => ?_)
                      clear hK K
                      try simp only [Act.put, List.setIfInBounds_toArray, List.set_cons_zero, List.set_cons_succ]
                      refine tr_tail rfl ?_
                      clear hHeld
                      have r9 := R9.out.past F2.out
                      have B9 := below_from F2.out B9.out B9.out.size
                      have RQ := Lib.hid r9
                      have BQ := Lib.hid B9
                      have r9c := r9.cell
                      have r9l := r9.lt
                      have r9f := r9.free
                      clear r9 B9
                      go_wp2_with fail
                      have G := setCells_grown (w.heap.size + 1) [.int .i64 q.next, .slice q.A q.n q.c] 0 w12
                      have BB2 := BQ.out.trans (grown_below G BQ.out.size (fun k hk => by injection hk with hk; omega))
                      refine bodyPost_ret (v := .tuple #[q.v, .int .i64 0]) (results_cell_tmp Try.results34 (g := w.heap.size + 1) rfl rfl (load24 (RQ.out.set [.int .i64 q.next, .slice q.A q.n q.c] rfl))) rfl ?_
                      exact CoRes.of AN2.out (HQQ.out.beside RQ.out (tc_texts _ _ _ _) G) BB2
                    · by_cases hcm : c = n
                      · subst hcm
                        by_cases hc0 : c = 0
                        · subst hc0
                          have ww := BY.out.size
                          have O1 := Lib.hid (show Own strK 9 wy wy.heap.size none 0 0 [] from ⟨rfl, World.ownsRow_nil _ _ _ _, fun a ha => by cases ha⟩)
                          have BW1 := Lib.hid (Below.refl wy.heap.size wy)
                          go_wp2_with (at_builtin; refine wpList_app1 (K := strK) _ rfl _ _ 31 rfl wy.heap.size 9 i0 _ 16 Try.underlying31 hi0 hz0 hs0 hb0 rfl none _ 0 _ rfl (O1.out.kept (below_alloc1 wy (.cells #[.string tp] 9))) wy.heap.size rfl tp (fun j _ => ((Has.newAt wy #[.string tp] 9 (g := wy.heap.size) rfl).cell j).trans (by simp; rfl)) HWF.out (fun _ _ h => h) (by unfold maxLen; omega) (by omega) (Nat.le_trans BW1.out.size (below_alloc1 wy _).size) ?_)
                          intro A2 c2 W2 ho hg hnb
                          clear hnb
                          have O2 := Lib.hid (show Own strK 9 W2 wy.heap.size A2 1 c2 (x.G.take 0 ++ [tp]) from by rw [List.take_zero]; exact ho)
                          have b2 := BW1.out.trans ((below_alloc1 wy (.cells #[.string tp] 9)).mono BW1.out.size)
                          have BW2 := Lib.hid (b2.trans (grown_below hg b2.size (fun q hq => (O1.out.2.1.lt q hq).1)))
                          clear ho hg b2 yc yl
                          have RS := Lib.hid (show insC cmpS tp x.G = x.G.take 0 ++ [tp] ++ x.G.drop 0 from by rw [ins_srch SR.out, if_neg (by simp)]; simp)
                          have BW2w := Lib.hid (BY.out.trans (BW2.out.mono BY.out.size))
                          have SLR := Lib.hid (show Sl strK W2 (some a0) 0 0 (x.G.drop 0) from sl_zeroA (Nat.zero_le _) (List.drop_eq_nil_of_le (by rw [LNP.out]; exact Nat.le_refl _)))
                          have y2c := (XY.out.past BW2.out).cell
                          have y2l := (XY.out.past BW2.out).lt
                          go_wp2_with (at_builtin; refine wpList_append_sl (K := strK) _ rfl _ _ 31 rfl wy.heap.size 9 i0 _ 16 Try.underlying31 hi0 hz0 hs0 hb0 rfl A2 _ c2 _ rfl O2.out.2.1 _ 0 _ (x.G.drop 0) (by first | rfl | (go_simp; rfl)) SLR.out (by unfold maxLen; omega) (by omega) BW2.out.size ?_)
                          intro A3 c3 W3 ho hg hnb
                          clear hnb
                          have BW3 := Lib.hid (BW2.out.trans (grown_below hg BW2.out.size (fun q hq => (O2.out.2.1.lt q hq).1)))
                          have O3 := Lib.hid (show Own strK 9 W3 wy.heap.size A3 1 c3 (insC cmpS tp x.G) from by
                            rw [RS.out]
                            refine ⟨by rw [List.length_append, O2.out.1, SLR.out.len], by simpa only [List.flatMap_append, List.flatMap_cons, List.flatMap_nil, List.append_nil, List.append_assoc, List.take_zero, List.drop_zero, List.nil_append] using ho, fun y hy => ?_⟩
                            rcases List.mem_append.1 hy with hy | hy
                            · exact O2.out.2.2 y hy
                            · exact SLR.out.each y hy)
                          clear ho hg y2c y2l
                          have X3f := Lib.hid (XY.out.past BW3.out)
                          have y3c := X3f.out.cell
                          have y3l := X3f.out.lt
                          have y3f := X3f.out.free
                          go_upto_region 23 with (fail)
                          obtain ⟨y, hy⟩ : ∃ y : Tx, y = { x with GA := A3, Gn := 1, Gc := c3, G := insC cmpS tp x.G } := ⟨_, rfl⟩
                          have G := setCells_grown w3.heap.size [.slice A3 1 c3] 6 W3
                          obtain ⟨w9, hw9⟩ : ∃ W, W = W3.setCells w3.heap.size 6 [.slice A3 1 c3] := ⟨_, rfl⟩
                          rw [← hw9] at G
                          have X9 := Lib.hid (show Has w9 w3.heap.size #[.string y.id, .int .i64 y.pid, .int .i64 y.gen, .int .i64 y.no, .int .i64 y.st, .slice y.PA y.Pn y.Pc, .slice y.GA y.Gn y.Gc, .int .i64 y.at_] from by
                            have := X3f.out.setAt 6 (.slice A3 1 c3) (by simp)
                            rw [hw9, hy]
                            simpa [World.setCells] using this)
                          have LW := Lib.hid (show w3.heap.size < wy.heap.size from XY.out.lt)
                          have BW3w := Lib.hid (BY.out.trans (BW3.out.mono BY.out.size))
                          have B9 := Lib.hid (BW3w.out.trans (grown_below G BW3w.out.size (fun k hk => by injection hk with hk; have := GE.out; omega)))
                          have S9 := Lib.hid ((SY.out.past BW3.out).grown G (by have := GE.out; omega))
                          have R9 := Lib.hid ((RY.out.past BW3.out).grown G (by have := GE.out; omega))
                          have I9 := Lib.hid (show Tx.In w9 y from by
                            rw [hy]
                            have hp := (O3.out.grown G LW.out (fun a ha => O3.out.2.2 a ha)).sl
                            have hx := HX.out.past B9.out
                            exact ⟨hx.id, hx.p, hp⟩)
                          have YV := Lib.hid (show y.val = { x.val with G := insC cmpS tp x.G } from by rw [hy]; rfl)
                          rw [show W3.setCell ⟨w3.heap.size, 6, none⟩ (.slice A3 1 c3) = w9 from hw9.symm]
                          clear hw9 G hy y3c y3l y3f
                          have D1 := Lib.hid (show Below w9.heap.size w9 w9.drew from (Below.refl _ w9).drew)
                          have AN2 := Lib.hid (show askV o.val id pid gen true (sendF tp now) = ({ o.val with L := o.val.L.set i (runX y now).val }, 0) from ANS.out.trans (by
                            rw [E0.out, if_neg NB.out, runX_val, YV.out]
                            exact if_neg (by simp)))
                          have PU := Lib.hid (fun W (h : Below w9.heap.size w9 W) => rwith_any o i (runX y now) W (HO.out.below (B9.out.trans (h.mono B9.out.size))) ((fun (hh : Tx.In w9 y) => (⟨hh.id, hh.p, hh.g⟩ : Tx.In w9 (runX y now))) I9.out |>.past h) HIN.out NN.out)
                          refine region_tr (fun w' => w'.cell? ⟨w.heap.size, 0, none⟩ = some (.int .i64 o.next) ∧ w'.cell? ⟨w.heap.size, 1, none⟩ = some (.slice o.A o.n o.c) ∧ w'.cell? ⟨w3.heap.size, 0, none⟩ = some (.string y.id) ∧ w'.cell? ⟨w3.heap.size, 1, none⟩ = some (.int .i64 y.pid) ∧ w'.cell? ⟨w3.heap.size, 2, none⟩ = some (.int .i64 y.gen) ∧ w'.cell? ⟨w3.heap.size, 3, none⟩ = some (.int .i64 y.no) ∧ w'.cell? ⟨w3.heap.size, 4, none⟩ = some (.int .i64 y.st) ∧ w'.cell? ⟨w3.heap.size, 5, none⟩ = some (.slice y.PA y.Pn y.Pc) ∧ w'.cell? ⟨w3.heap.size, 6, none⟩ = some (.slice y.GA y.Gn y.Gc) ∧ w'.cell? ⟨w3.heap.size, 7, none⟩ = some (.int .i64 y.at_)) 6 (.take 0 (.take 1 (.take 2 (.take 3 (.op 4 (.op 5 .tail)))))) (by kernel_rfl) (by kernel_rfl) ⟨(S9.out.past D1.out).cell 0, (S9.out.past D1.out).cell 1, (X9.out.past D1.out).cell 0, (X9.out.past D1.out).cell 1, (X9.out.past D1.out).cell 2, (X9.out.past D1.out).cell 3, (X9.out.past D1.out).cell 4, (X9.out.past D1.out).cell 5, (X9.out.past D1.out).cell 6, (X9.out.past D1.out).cell 7⟩ (fun hHeld => ?_)
                          iterate 4
                            refine tr_take (v := ?_) (by simp only [List.getElem?_toArray, List.getElem?_cons_succ, List.getElem?_cons_zero]; rfl) (Or.inl ⟨by rfl, ?_⟩) ?_
                            rotate_left 1
                            · intro w hSw
                              try dsimp only at hSw
                              go_simp
                              try with_reducible rfl
                            try simp only [Act.put, List.setIfInBounds_toArray, List.set_cons_zero, List.set_cons_succ]
                          refine tr_op (by simp only [List.getElem?_toArray, List.getElem?_cons_succ, List.getElem?_cons_zero]; rfl) (fun K hK => ?_)
                          go_wp2_with (go_at_call 70; refine (running_any y now _).mono ?_; rintro e w11 ⟨rfl, hb⟩)
                          clear hHeld
                          have F1 := Lib.hid (below_from hb D1.out D1.out.size)
                          clear hb
                          refine hK.out _ _ ⟨(S9.out.past F1.out).cell 0, (S9.out.past F1.out).cell 1, (X9.out.past F1.out).cell 0, (X9.out.past F1.out).cell 1, (X9.out.past F1.out).cell 2, (X9.out.past F1.out).cell 3, (X9.out.past F1.out).cell 4, (X9.out.past F1.out).cell 5, (X9.out.past F1.out).cell 6, (X9.out.past F1.out).cell 7⟩ (fun hHeld => ?_)
                          clear hK K
                          try simp only [Act.put, List.setIfInBounds_toArray, List.set_cons_zero, List.set_cons_succ]
                          refine tr_op (by simp only [List.getElem?_toArray, List.getElem?_cons_succ, List.getElem?_cons_zero]; rfl) (fun K hK => ?_)
                          go_wp2_with (go_at_call 52; refine (PU.out _ F1.out).mono ?_; rintro e w12 ⟨q, rfl, hq, hb⟩)
                          clear hHeld
                          have F2 := Lib.hid (below_from hb F1.out F1.out.size)
                          have HQQ := Lib.hid hq
                          clear hb hq
                          refine hK.out _ _ ⟨(S9.out.past F2.out).cell 0, (S9.out.past F2.out).cell 1, (X9.out.past F2.out).cell 0, (X9.out.past F2.out).cell 1, (X9.out.past F2.out).cell 2, (X9.out.past F2.out).cell 3, (X9.out.past F2.out).cell 4, (X9.out.past F2.out).cell 5, (X9.out.past F2.out).cell 6, (X9.out.past F2.out).cell 7⟩ (fun hHeld => ?_)
                          clear hK K
                          try simp only [Act.put, List.setIfInBounds_toArray, List.set_cons_zero, List.set_cons_succ]
                          refine tr_tail rfl ?_
                          clear hHeld
                          have r9 := R9.out.past F2.out
                          have B9 := below_from F2.out B9.out B9.out.size
                          have RQ := Lib.hid r9
                          have BQ := Lib.hid B9
                          have r9c := r9.cell
                          have r9l := r9.lt
                          have r9f := r9.free
                          clear r9 B9
                          go_wp2_with fail
                          have G := setCells_grown (w.heap.size + 1) [.int .i64 q.next, .slice q.A q.n q.c] 0 w12
                          have BB2 := BQ.out.trans (grown_below G BQ.out.size (fun k hk => by injection hk with hk; omega))
                          refine bodyPost_ret (v := .tuple #[q.v, .int .i64 0]) (results_cell_tmp Try.results34 (g := w.heap.size + 1) rfl rfl (load24 (RQ.out.set [.int .i64 q.next, .slice q.A q.n q.c] rfl))) rfl ?_
                          exact CoRes.of AN2.out (HQQ.out.beside RQ.out (tc_texts _ _ _ _) G) BB2
                        · have nc0 : ¬ c = 0 := hc0
                          have nc1 : 0 < c := by omega
                          have SLI := Lib.hid (HP9.out.take c (by omega))
                          have ww := BY.out.size
                          go_wp2_with (at_builtin; refine wpList_append_sl (K := strK) _ rfl _ _ 31 rfl wy.heap.size 9 i0 _ 16 Try.underlying31 hi0 hz0 hs0 hb0 rfl none 0 0 [] rfl (World.ownsRow_nil _ _ _ _) (some a0) c c (x.G.take c) rfl SLI.out (by unfold maxLen; omega) (by omega) (Nat.le_refl _) ?_)
                          intro A1 c1 W1 ho hg hnb
                          clear hnb
                          have b1 : Below wy.heap.size wy W1 := grown_below hg (Nat.le_refl _) (fun q hq => by cases hq)
                          have O1 := Lib.hid (show Own strK 9 W1 wy.heap.size A1 c c1 (x.G.take c) from ⟨SLI.out.len, by simpa using ho, fun a ha => strK.below (SLI.out.each a ha) b1⟩)
                          have BW1 := Lib.hid b1
                          have y1c := (XY.out.past b1).cell
                          have y1l := (XY.out.past b1).lt
                          clear ho hg b1 yc yl 
                          go_wp2_with (at_builtin; refine wpList_app1 (K := strK) _ rfl _ _ 31 rfl wy.heap.size 9 i0 _ 16 Try.underlying31 hi0 hz0 hs0 hb0 rfl A1 _ c1 _ rfl (O1.out.kept (below_alloc1 W1 (.cells #[.string tp] 9))) W1.heap.size rfl tp (fun j _ => ((Has.newAt W1 #[.string tp] 9 (g := W1.heap.size) rfl).cell j).trans (by simp; rfl)) HWF.out (fun _ _ h => h) (by unfold maxLen; omega) (by omega) (Nat.le_trans BW1.out.size (below_alloc1 W1 _).size) ?_)
                          intro A2 c2 W2 ho hg hnb
                          clear hnb
                          have O2 := Lib.hid (ho)
                          have b2 := BW1.out.trans ((below_alloc1 W1 (.cells #[.string tp] 9)).mono BW1.out.size)
                          have BW2 := Lib.hid (b2.trans (grown_below hg b2.size (fun q hq => (O1.out.2.1.lt q hq).1)))
                          clear ho hg b2 y1c y1l
                          have RS := Lib.hid (show insC cmpS tp x.G = x.G.take c ++ [tp] ++ x.G.drop c from by rw [ins_srch SR.out, if_neg (by simp)]; simp)
                          have BW2w := Lib.hid (BY.out.trans (BW2.out.mono BY.out.size))
                          have SLR := Lib.hid (show Sl strK W2 (some a0) 0 0 (x.G.drop c) from sl_zeroA (Nat.zero_le _) (List.drop_eq_nil_of_le (by rw [LNP.out]; exact Nat.le_refl _)))
                          have y2c := (XY.out.past BW2.out).cell
                          have y2l := (XY.out.past BW2.out).lt
                          go_wp2_with (at_builtin; refine wpList_append_sl (K := strK) _ rfl _ _ 31 rfl wy.heap.size 9 i0 _ 16 Try.underlying31 hi0 hz0 hs0 hb0 rfl A2 _ c2 _ rfl O2.out.2.1 _ 0 _ (x.G.drop c) (by first | rfl | (go_simp; rfl)) SLR.out (by unfold maxLen; omega) (by omega) BW2.out.size ?_)
                          intro A3 c3 W3 ho hg hnb
                          clear hnb
                          have BW3 := Lib.hid (BW2.out.trans (grown_below hg BW2.out.size (fun q hq => (O2.out.2.1.lt q hq).1)))
                          have O3 := Lib.hid (show Own strK 9 W3 wy.heap.size A3 (c + 1) c3 (insC cmpS tp x.G) from by
                            rw [RS.out]
                            refine ⟨by rw [List.length_append, O2.out.1, SLR.out.len], by simpa only [List.flatMap_append, List.flatMap_cons, List.flatMap_nil, List.append_nil, List.append_assoc] using ho, fun y hy => ?_⟩
                            rcases List.mem_append.1 hy with hy | hy
                            · exact O2.out.2.2 y hy
                            · exact SLR.out.each y hy)
                          clear ho hg y2c y2l
                          have X3f := Lib.hid (XY.out.past BW3.out)
                          have y3c := X3f.out.cell
                          have y3l := X3f.out.lt
                          have y3f := X3f.out.free
                          go_upto_region 23 with (fail)
                          obtain ⟨y, hy⟩ : ∃ y : Tx, y = { x with GA := A3, Gn := (c + 1), Gc := c3, G := insC cmpS tp x.G } := ⟨_, rfl⟩
                          have G := setCells_grown w3.heap.size [.slice A3 (c + 1) c3] 6 W3
                          obtain ⟨w9, hw9⟩ : ∃ W, W = W3.setCells w3.heap.size 6 [.slice A3 (c + 1) c3] := ⟨_, rfl⟩
                          rw [← hw9] at G
                          have X9 := Lib.hid (show Has w9 w3.heap.size #[.string y.id, .int .i64 y.pid, .int .i64 y.gen, .int .i64 y.no, .int .i64 y.st, .slice y.PA y.Pn y.Pc, .slice y.GA y.Gn y.Gc, .int .i64 y.at_] from by
                            have := X3f.out.setAt 6 (.slice A3 (c + 1) c3) (by simp)
                            rw [hw9, hy]
                            simpa [World.setCells] using this)
                          have LW := Lib.hid (show w3.heap.size < wy.heap.size from XY.out.lt)
                          have BW3w := Lib.hid (BY.out.trans (BW3.out.mono BY.out.size))
                          have B9 := Lib.hid (BW3w.out.trans (grown_below G BW3w.out.size (fun k hk => by injection hk with hk; have := GE.out; omega)))
                          have S9 := Lib.hid ((SY.out.past BW3.out).grown G (by have := GE.out; omega))
                          have R9 := Lib.hid ((RY.out.past BW3.out).grown G (by have := GE.out; omega))
                          have I9 := Lib.hid (show Tx.In w9 y from by
                            rw [hy]
                            have hp := (O3.out.grown G LW.out (fun a ha => O3.out.2.2 a ha)).sl
                            have hx := HX.out.past B9.out
                            exact ⟨hx.id, hx.p, hp⟩)
                          have YV := Lib.hid (show y.val = { x.val with G := insC cmpS tp x.G } from by rw [hy]; rfl)
                          rw [show W3.setCell ⟨w3.heap.size, 6, none⟩ (.slice A3 (c + 1) c3) = w9 from hw9.symm]
                          clear hw9 G hy y3c y3l y3f
                          have D1 := Lib.hid (show Below w9.heap.size w9 w9.drew from (Below.refl _ w9).drew)
                          have AN2 := Lib.hid (show askV o.val id pid gen true (sendF tp now) = ({ o.val with L := o.val.L.set i (runX y now).val }, 0) from ANS.out.trans (by
                            rw [E0.out, if_neg NB.out, runX_val, YV.out]
                            exact if_neg (by simp)))
                          have PU := Lib.hid (fun W (h : Below w9.heap.size w9 W) => rwith_any o i (runX y now) W (HO.out.below (B9.out.trans (h.mono B9.out.size))) ((fun (hh : Tx.In w9 y) => (⟨hh.id, hh.p, hh.g⟩ : Tx.In w9 (runX y now))) I9.out |>.past h) HIN.out NN.out)
                          refine region_tr (fun w' => w'.cell? ⟨w.heap.size, 0, none⟩ = some (.int .i64 o.next) ∧ w'.cell? ⟨w.heap.size, 1, none⟩ = some (.slice o.A o.n o.c) ∧ w'.cell? ⟨w3.heap.size, 0, none⟩ = some (.string y.id) ∧ w'.cell? ⟨w3.heap.size, 1, none⟩ = some (.int .i64 y.pid) ∧ w'.cell? ⟨w3.heap.size, 2, none⟩ = some (.int .i64 y.gen) ∧ w'.cell? ⟨w3.heap.size, 3, none⟩ = some (.int .i64 y.no) ∧ w'.cell? ⟨w3.heap.size, 4, none⟩ = some (.int .i64 y.st) ∧ w'.cell? ⟨w3.heap.size, 5, none⟩ = some (.slice y.PA y.Pn y.Pc) ∧ w'.cell? ⟨w3.heap.size, 6, none⟩ = some (.slice y.GA y.Gn y.Gc) ∧ w'.cell? ⟨w3.heap.size, 7, none⟩ = some (.int .i64 y.at_)) 6 (.take 0 (.take 1 (.take 2 (.take 3 (.op 4 (.op 5 .tail)))))) (by kernel_rfl) (by kernel_rfl) ⟨(S9.out.past D1.out).cell 0, (S9.out.past D1.out).cell 1, (X9.out.past D1.out).cell 0, (X9.out.past D1.out).cell 1, (X9.out.past D1.out).cell 2, (X9.out.past D1.out).cell 3, (X9.out.past D1.out).cell 4, (X9.out.past D1.out).cell 5, (X9.out.past D1.out).cell 6, (X9.out.past D1.out).cell 7⟩ (fun hHeld => ?_)
                          iterate 4
                            refine tr_take (v := ?_) (by simp only [List.getElem?_toArray, List.getElem?_cons_succ, List.getElem?_cons_zero]; rfl) (Or.inl ⟨by rfl, ?_⟩) ?_
                            rotate_left 1
                            · intro w hSw
                              try dsimp only at hSw
                              go_simp
                              try with_reducible rfl
                            try simp only [Act.put, List.setIfInBounds_toArray, List.set_cons_zero, List.set_cons_succ]
                          refine tr_op (by simp only [List.getElem?_toArray, List.getElem?_cons_succ, List.getElem?_cons_zero]; rfl) (fun K hK => ?_)
                          go_wp2_with (go_at_call 70; refine (running_any y now _).mono ?_; rintro e w11 ⟨rfl, hb⟩)
                          clear hHeld
                          have F1 := Lib.hid (below_from hb D1.out D1.out.size)
                          clear hb
                          refine hK.out _ _ ⟨(S9.out.past F1.out).cell 0, (S9.out.past F1.out).cell 1, (X9.out.past F1.out).cell 0, (X9.out.past F1.out).cell 1, (X9.out.past F1.out).cell 2, (X9.out.past F1.out).cell 3, (X9.out.past F1.out).cell 4, (X9.out.past F1.out).cell 5, (X9.out.past F1.out).cell 6, (X9.out.past F1.out).cell 7⟩ (fun hHeld => ?_)
                          clear hK K
                          try simp only [Act.put, List.setIfInBounds_toArray, List.set_cons_zero, List.set_cons_succ]
                          refine tr_op (by simp only [List.getElem?_toArray, List.getElem?_cons_succ, List.getElem?_cons_zero]; rfl) (fun K hK => ?_)
                          go_wp2_with (go_at_call 52; refine (PU.out _ F1.out).mono ?_; rintro e w12 ⟨q, rfl, hq, hb⟩)
                          clear hHeld
                          have F2 := Lib.hid (below_from hb F1.out F1.out.size)
                          have HQQ := Lib.hid hq
                          clear hb hq
                          refine hK.out _ _ ⟨(S9.out.past F2.out).cell 0, (S9.out.past F2.out).cell 1, (X9.out.past F2.out).cell 0, (X9.out.past F2.out).cell 1, (X9.out.past F2.out).cell 2, (X9.out.past F2.out).cell 3, (X9.out.past F2.out).cell 4, (X9.out.past F2.out).cell 5, (X9.out.past F2.out).cell 6, (X9.out.past F2.out).cell 7⟩ (fun hHeld => ?_)
                          clear hK K
                          try simp only [Act.put, List.setIfInBounds_toArray, List.set_cons_zero, List.set_cons_succ]
                          refine tr_tail rfl ?_
                          clear hHeld
                          have r9 := R9.out.past F2.out
                          have B9 := below_from F2.out B9.out B9.out.size
                          have RQ := Lib.hid r9
                          have BQ := Lib.hid B9
                          have r9c := r9.cell
                          have r9l := r9.lt
                          have r9f := r9.free
                          clear r9 B9
                          go_wp2_with fail
                          have G := setCells_grown (w.heap.size + 1) [.int .i64 q.next, .slice q.A q.n q.c] 0 w12
                          have BB2 := BQ.out.trans (grown_below G BQ.out.size (fun k hk => by injection hk with hk; omega))
                          refine bodyPost_ret (v := .tuple #[q.v, .int .i64 0]) (results_cell_tmp Try.results34 (g := w.heap.size + 1) rfl rfl (load24 (RQ.out.set [.int .i64 q.next, .slice q.A q.n q.c] rfl))) rfl ?_
                          exact CoRes.of AN2.out (HQQ.out.beside RQ.out (tc_texts _ _ _ _) G) BB2
                      · have ncm : ¬ c = n := hcm
                        have nc0 : ¬ c = 0 := by omega
                        have nc1 : 0 < c := by omega
                        have SLI := Lib.hid (HP9.out.take n (by omega))
                        have ww := BY.out.size
                        go_wp2_with (at_builtin; refine wpList_append_sl (K := strK) _ rfl _ _ 31 rfl wy.heap.size 9 i0 _ 16 Try.underlying31 hi0 hz0 hs0 hb0 rfl none 0 0 [] rfl (World.ownsRow_nil _ _ _ _) (some a0) n c (x.G.take n) rfl SLI.out (by unfold maxLen; omega) (by omega) (Nat.le_refl _) ?_)
                        intro A1 c1 W1 ho hg hnb
                        clear hnb
                        have b1 : Below wy.heap.size wy W1 := grown_below hg (Nat.le_refl _) (fun q hq => by cases hq)
                        have O1 := Lib.hid (show Own strK 9 W1 wy.heap.size A1 n c1 (x.G.take n) from ⟨SLI.out.len, by simpa using ho, fun a ha => strK.below (SLI.out.each a ha) b1⟩)
                        have BW1 := Lib.hid b1
                        have y1c := (XY.out.past b1).cell
                        have y1l := (XY.out.past b1).lt
                        clear ho hg b1 yc yl 
                        go_wp2_with (at_builtin; refine wpList_app1 (K := strK) _ rfl _ _ 31 rfl wy.heap.size 9 i0 _ 16 Try.underlying31 hi0 hz0 hs0 hb0 rfl A1 _ c1 _ rfl (O1.out.kept (below_alloc1 W1 (.cells #[.string tp] 9))) W1.heap.size rfl tp (fun j _ => ((Has.newAt W1 #[.string tp] 9 (g := W1.heap.size) rfl).cell j).trans (by simp; rfl)) HWF.out (fun _ _ h => h) (by unfold maxLen; omega) (by omega) (Nat.le_trans BW1.out.size (below_alloc1 W1 _).size) ?_)
                        intro A2 c2 W2 ho hg hnb
                        clear hnb
                        have O2 := Lib.hid (ho)
                        have b2 := BW1.out.trans ((below_alloc1 W1 (.cells #[.string tp] 9)).mono BW1.out.size)
                        have BW2 := Lib.hid (b2.trans (grown_below hg b2.size (fun q hq => (O1.out.2.1.lt q hq).1)))
                        clear ho hg b2 y1c y1l
                        have RS := Lib.hid (show insC cmpS tp x.G = x.G.take n ++ [tp] ++ x.G.drop n from by rw [ins_srch SR.out, if_neg (by simp)]; simp)
                        have BW2w := Lib.hid (BY.out.trans (BW2.out.mono BY.out.size))
                        have SLR := Lib.hid (show Sl strK W2 (some (a0.add n)) (0) (c - n) (x.G.drop n) from by have := sl_dropA (HP9.out.below BW2.out) n (by omega); rw [if_neg ncm, show n * strK.size = n from Nat.mul_one _, Nat.sub_self] at this; exact this)
                        have y2c := (XY.out.past BW2.out).cell
                        have y2l := (XY.out.past BW2.out).lt
                        go_wp2_with (at_builtin; refine wpList_append_sl (K := strK) _ rfl _ _ 31 rfl wy.heap.size 9 i0 _ 16 Try.underlying31 hi0 hz0 hs0 hb0 rfl A2 _ c2 _ rfl O2.out.2.1 _ (0) _ (x.G.drop n) (by first | rfl | (go_simp; rfl)) SLR.out (by unfold maxLen; omega) (by omega) BW2.out.size ?_)
                        intro A3 c3 W3 ho hg hnb
                        clear hnb
                        have BW3 := Lib.hid (BW2.out.trans (grown_below hg BW2.out.size (fun q hq => (O2.out.2.1.lt q hq).1)))
                        have O3 := Lib.hid (show Own strK 9 W3 wy.heap.size A3 (n + 1) c3 (insC cmpS tp x.G) from by
                          rw [RS.out]
                          refine ⟨by rw [List.length_append, O2.out.1, SLR.out.len], by simpa only [List.flatMap_append, List.flatMap_cons, List.flatMap_nil, List.append_nil, List.append_assoc] using ho, fun y hy => ?_⟩
                          rcases List.mem_append.1 hy with hy | hy
                          · exact O2.out.2.2 y hy
                          · exact SLR.out.each y hy)
                        clear ho hg y2c y2l
                        have X3f := Lib.hid (XY.out.past BW3.out)
                        have y3c := X3f.out.cell
                        have y3l := X3f.out.lt
                        have y3f := X3f.out.free
                        go_upto_region 23 with (fail)
                        obtain ⟨y, hy⟩ : ∃ y : Tx, y = { x with GA := A3, Gn := (n + 1), Gc := c3, G := insC cmpS tp x.G } := ⟨_, rfl⟩
                        have G := setCells_grown w3.heap.size [.slice A3 (n + 1) c3] 6 W3
                        obtain ⟨w9, hw9⟩ : ∃ W, W = W3.setCells w3.heap.size 6 [.slice A3 (n + 1) c3] := ⟨_, rfl⟩
                        rw [← hw9] at G
                        have X9 := Lib.hid (show Has w9 w3.heap.size #[.string y.id, .int .i64 y.pid, .int .i64 y.gen, .int .i64 y.no, .int .i64 y.st, .slice y.PA y.Pn y.Pc, .slice y.GA y.Gn y.Gc, .int .i64 y.at_] from by
                          have := X3f.out.setAt 6 (.slice A3 (n + 1) c3) (by simp)
                          rw [hw9, hy]
                          simpa [World.setCells] using this)
                        have LW := Lib.hid (show w3.heap.size < wy.heap.size from XY.out.lt)
                        have BW3w := Lib.hid (BY.out.trans (BW3.out.mono BY.out.size))
                        have B9 := Lib.hid (BW3w.out.trans (grown_below G BW3w.out.size (fun k hk => by injection hk with hk; have := GE.out; omega)))
                        have S9 := Lib.hid ((SY.out.past BW3.out).grown G (by have := GE.out; omega))
                        have R9 := Lib.hid ((RY.out.past BW3.out).grown G (by have := GE.out; omega))
                        have I9 := Lib.hid (show Tx.In w9 y from by
                          rw [hy]
                          have hp := (O3.out.grown G LW.out (fun a ha => O3.out.2.2 a ha)).sl
                          have hx := HX.out.past B9.out
                          exact ⟨hx.id, hx.p, hp⟩)
                        have YV := Lib.hid (show y.val = { x.val with G := insC cmpS tp x.G } from by rw [hy]; rfl)
                        rw [show W3.setCell ⟨w3.heap.size, 6, none⟩ (.slice A3 (n + 1) c3) = w9 from hw9.symm]
                        clear hw9 G hy y3c y3l y3f
                        have D1 := Lib.hid (show Below w9.heap.size w9 w9.drew from (Below.refl _ w9).drew)
                        have AN2 := Lib.hid (show askV o.val id pid gen true (sendF tp now) = ({ o.val with L := o.val.L.set i (runX y now).val }, 0) from ANS.out.trans (by
                          rw [E0.out, if_neg NB.out, runX_val, YV.out]
                          exact if_neg (by simp)))
                        have PU := Lib.hid (fun W (h : Below w9.heap.size w9 W) => rwith_any o i (runX y now) W (HO.out.below (B9.out.trans (h.mono B9.out.size))) ((fun (hh : Tx.In w9 y) => (⟨hh.id, hh.p, hh.g⟩ : Tx.In w9 (runX y now))) I9.out |>.past h) HIN.out NN.out)
                        refine region_tr (fun w' => w'.cell? ⟨w.heap.size, 0, none⟩ = some (.int .i64 o.next) ∧ w'.cell? ⟨w.heap.size, 1, none⟩ = some (.slice o.A o.n o.c) ∧ w'.cell? ⟨w3.heap.size, 0, none⟩ = some (.string y.id) ∧ w'.cell? ⟨w3.heap.size, 1, none⟩ = some (.int .i64 y.pid) ∧ w'.cell? ⟨w3.heap.size, 2, none⟩ = some (.int .i64 y.gen) ∧ w'.cell? ⟨w3.heap.size, 3, none⟩ = some (.int .i64 y.no) ∧ w'.cell? ⟨w3.heap.size, 4, none⟩ = some (.int .i64 y.st) ∧ w'.cell? ⟨w3.heap.size, 5, none⟩ = some (.slice y.PA y.Pn y.Pc) ∧ w'.cell? ⟨w3.heap.size, 6, none⟩ = some (.slice y.GA y.Gn y.Gc) ∧ w'.cell? ⟨w3.heap.size, 7, none⟩ = some (.int .i64 y.at_)) 6 (.take 0 (.take 1 (.take 2 (.take 3 (.op 4 (.op 5 .tail)))))) (by kernel_rfl) (by kernel_rfl) ⟨(S9.out.past D1.out).cell 0, (S9.out.past D1.out).cell 1, (X9.out.past D1.out).cell 0, (X9.out.past D1.out).cell 1, (X9.out.past D1.out).cell 2, (X9.out.past D1.out).cell 3, (X9.out.past D1.out).cell 4, (X9.out.past D1.out).cell 5, (X9.out.past D1.out).cell 6, (X9.out.past D1.out).cell 7⟩ (fun hHeld => ?_)
                        iterate 4
                          refine tr_take (v := ?_) (by simp only [List.getElem?_toArray, List.getElem?_cons_succ, List.getElem?_cons_zero]; rfl) (Or.inl ⟨by rfl, ?_⟩) ?_
                          rotate_left 1
                          · intro w hSw
                            try dsimp only at hSw
                            go_simp
                            try with_reducible rfl
                          try simp only [Act.put, List.setIfInBounds_toArray, List.set_cons_zero, List.set_cons_succ]
                        refine tr_op (by simp only [List.getElem?_toArray, List.getElem?_cons_succ, List.getElem?_cons_zero]; rfl) (fun K hK => ?_)
                        go_wp2_with (go_at_call 70; refine (running_any y now _).mono ?_; rintro e w11 ⟨rfl, hb⟩)
                        clear hHeld
                        have F1 := Lib.hid (below_from hb D1.out D1.out.size)
                        clear hb
                        refine hK.out _ _ ⟨(S9.out.past F1.out).cell 0, (S9.out.past F1.out).cell 1, (X9.out.past F1.out).cell 0, (X9.out.past F1.out).cell 1, (X9.out.past F1.out).cell 2, (X9.out.past F1.out).cell 3, (X9.out.past F1.out).cell 4, (X9.out.past F1.out).cell 5, (X9.out.past F1.out).cell 6, (X9.out.past F1.out).cell 7⟩ (fun hHeld => ?_)
                        clear hK K
                        try simp only [Act.put, List.setIfInBounds_toArray, List.set_cons_zero, List.set_cons_succ]
                        refine tr_op (by simp only [List.getElem?_toArray, List.getElem?_cons_succ, List.getElem?_cons_zero]; rfl) (fun K hK => ?_)
                        go_wp2_with (go_at_call 52; refine (PU.out _ F1.out).mono ?_; rintro e w12 ⟨q, rfl, hq, hb⟩)
                        clear hHeld
                        have F2 := Lib.hid (below_from hb F1.out F1.out.size)
                        have HQQ := Lib.hid hq
                        clear hb hq
                        refine hK.out _ _ ⟨(S9.out.past F2.out).cell 0, (S9.out.past F2.out).cell 1, (X9.out.past F2.out).cell 0, (X9.out.past F2.out).cell 1, (X9.out.past F2.out).cell 2, (X9.out.past F2.out).cell 3, (X9.out.past F2.out).cell 4, (X9.out.past F2.out).cell 5, (X9.out.past F2.out).cell 6, (X9.out.past F2.out).cell 7⟩ (fun hHeld => ?_)
                        clear hK K
                        try simp only [Act.put, List.setIfInBounds_toArray, List.set_cons_zero, List.set_cons_succ]
                        refine tr_tail rfl ?_
                        clear hHeld
                        have r9 := R9.out.past F2.out
                        have B9 := below_from F2.out B9.out B9.out.size
                        have RQ := Lib.hid r9
                        have BQ := Lib.hid B9
                        have r9c := r9.cell
                        have r9l := r9.lt
                        have r9f := r9.free
                        clear r9 B9
                        go_wp2_with fail
                        have G := setCells_grown (w.heap.size + 1) [.int .i64 q.next, .slice q.A q.n q.c] 0 w12
                        have BB2 := BQ.out.trans (grown_below G BQ.out.size (fun k hk => by injection hk with hk; omega))
                        refine bodyPost_ret (v := .tuple #[q.v, .int .i64 0]) (results_cell_tmp Try.results34 (g := w.heap.size + 1) rfl rfl (load24 (RQ.out.set [.int .i64 q.next, .slice q.A q.n q.c] rfl))) rfl ?_
                        exact CoRes.of AN2.out (HQQ.out.beside RQ.out (tc_texts _ _ _ _) G) BB2
          · have ANS := Lib.hid (show askV o.val id pid gen true (sendF tp now) = (noC, 110) from ANS.out.trans (if_neg hm))
            have AV := Lib.hid (show askAt o.val id pid gen = (-1, 110) from by unfold askAt; rw [HI.out]; simp only [HV.out]; exact if_neg hm)
            simp only [AV.out] at RA
            clear hm
            go_enter Try.func34, Try.ntmps34
            go_upto_region 4 with (first
              | (go_at_call 19; rw [← HW.out]; refine (CK.out _ B0.out).mono ?_; rintro e w1 ⟨rfl, hb1⟩; have B1 := Lib.hid (below_from hb1 B0.out B0.out.size); have S1 := Lib.hid (S0.out.past hb1); have R1 := Lib.hid (R0.out.past hb1); clear hb1 s0c s0l))
            have s1c := S1.out.cell
            have s1l := S1.out.lt
            go_upto_region 6 with (first
              | (go_at_call 49; refine (in_any now _).mono ?_; rintro e w' ⟨rfl, rfl⟩; rw [M2.out])
              | (go_at_call 50; refine (RT.out _).mono ?_; rintro e w2 ⟨rfl, hb2⟩; rw [M1.out]; have B2 := Lib.hid (below_from hb2 B1.out B1.out.size); have S2 := Lib.hid (S1.out.past hb2); have R2 := Lib.hid (R1.out.past hb2); clear hb2))
            have s2c := S2.out.cell
            have s2l := S2.out.lt
            go_upto_region 8 with (go_at_call 68; refine (RA.out _ B2.out).mono ?_; rintro e w3 ⟨rfl, hb3⟩; have B3 := Lib.hid (below_from hb3 B2.out B2.out.size); have S3 := Lib.hid (S2.out.past hb3); have R3 := Lib.hid (R2.out.past hb3); clear hb3 s2c s2l)
            have r3c := R3.out.cell
            have r3l := R3.out.lt
            have r3f := R3.out.free
            go_wp2_with fail
            have G := setCells_grown (w.heap.size + 1) [.int .i64 0, .slice none 0 0] 0 w3
            refine bodyPost_ret (v := .tuple #[noO.v, .int .i64 110]) (results_cell_tmp Try.results34 (g := w.heap.size + 1) rfl rfl (load24 (R3.out.set [.int .i64 0, .slice none 0 0] rfl))) rfl ?_
            exact RN.out _ _ (B3.out.trans (grown_below G B3.out.size (fun k hk => by injection hk with hk; omega))) (ANS.out)
  · have HK := Lib.hid hk
    obtain ⟨c, hc⟩ : ∃ c, checkV o.val = c := ⟨_, rfl⟩
    have HQ := Lib.hid hc
    rw [hc] at CK hk
    have d1 : (c != 0) = true := by rw [bne_iff_ne]; exact hk
    have d2 : (c == 0) = false := by rw [beq_eq_false_iff_ne]; exact hk
    clear hc hk
    go_enter Try.func34, Try.ntmps34
    go_upto_region 3 with (first
      | (go_at_call 19; rw [← HW.out]; refine (CK.out _ B0.out).mono ?_; rintro e w1 ⟨rfl, hb1⟩; have B1 := Lib.hid (below_from hb1 B0.out B0.out.size); have S1 := Lib.hid (S0.out.past hb1); have R1 := Lib.hid (R0.out.past hb1); clear hb1 s0c s0l))
    have r1c := R1.out.cell
    have r1l := R1.out.lt
    have r1f := R1.out.free
    go_wp2_with fail
    have G := setCells_grown (w.heap.size + 1) [.int .i64 0, .slice none 0 0] 0 w1
    refine bodyPost_ret (v := .tuple #[noO.v, .int .i64 c]) (results_cell_tmp Try.results34 (g := w.heap.size + 1) rfl rfl (load24 (R1.out.set [.int .i64 0, .slice none 0 0] rfl))) rfl ?_
    exact RN.out _ _ (B1.out.trans (grown_below G B1.out.size (fun k hk => by injection hk with hk; omega))) (by rw [ask_chk HK.out, HQ.out])

end Go.Proofs.Ytnigjchgpmladaa
