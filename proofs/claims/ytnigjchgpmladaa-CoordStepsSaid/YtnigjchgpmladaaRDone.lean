/- Done, of the document. -/
import Derived.Test.YtnigjchgpmladaaRWith
import Derived.Test.YtnigjchgpmladaaRAsk
import Derived.Test.YtnigjchgpmladaaRCheck
import Derived.Test.YtnigjchgpmladaaDoneC
import Derived.Test.YtnigjchgpmladaaCor
import Derived.Deep.DeepCutAuto
namespace Go.Proofs.Ytnigjchgpmladaa
open Go.RowKit Go.Shelf

set_option maxRecDepth 100000 in
set_option maxHeartbeats 16000000 in
theorem rdone_any (o : Tc) (pid : Int) (w : World) (ho : Tc.At w o) (hf : FewV o.val) : Calls Try.prog 36 #[o.v, .int .i64 pid] w fun e w' => CoRes w (doneV o.val pid) e w' := by
  obtain ⟨W0, hW0⟩ : ∃ W0, W0 = (w.alloc (.cells #[.int .i64 o.next, .slice o.A o.n o.c] 24)).alloc (.cells #[.int .i64 0, .slice none 0 0] 24) := ⟨_, rfl⟩
  have B0 := Lib.hid (show Below w.heap.size w W0 from by rw [hW0]; exact (below_alloc1 w _).alloc (by simp) _)
  have S0 := Lib.hid (show Has W0 w.heap.size #[.int .i64 o.next, .slice o.A o.n o.c] from by rw [hW0]; exact (Has.newAt w _ 24 rfl).alloc _)
  have R0 := Lib.hid (show Has W0 (w.heap.size + 1) #[.int .i64 0, .slice none 0 0] from by rw [hW0]; exact Has.newAt _ _ 24 (by simp))
  have HW := Lib.hid hW0
  have HO := Lib.hid ho
  have HL := Lib.hid (show Sl txK w o.A o.n o.c o.L from ho)
  have hcap := ho.cap
  have hmax := ho.max
  have nm := ho.few hf
  have CK := Lib.hid (fun W (h : Below w.heap.size w W) => rcheck_any o W (ho.below h) nm.1 nm.2)
  have NN := Lib.hid nm.1
  have LN := Lib.hid ho.num
  have RN := Lib.hid (fun (W : World) (c : Int) (hb : Below w.heap.size w W) (h : doneV o.val pid = (noC, c)) => CoRes.no (w' := W) h hb)
  clear ho hW0 hf nm
  have s0c := S0.out.cell
  have s0l := S0.out.lt
  by_cases hk : checkV o.val = 0
  · have HK := Lib.hid hk
    have FN := Lib.hid (chk_iff.1 hk)
    rw [hk] at CK
    clear hk
    go_enter Try.func36, Try.ntmps36
    go_upto_region 4 with (first
      | (go_at_call 19; rw [← HW.out]; refine (CK.out _ B0.out).mono ?_; rintro e w1 ⟨rfl, hb1⟩; have B1 := Lib.hid (below_from hb1 B0.out B0.out.size); have S1 := Lib.hid (S0.out.past hb1); have R1 := Lib.hid (R0.out.past hb1); clear hb1 s0c s0l))
    obtain ⟨CA, hCA⟩ : ∃ A, o.A = A := ⟨_, rfl⟩
    rw [hCA] at HL S1
    have HCA := Lib.hid hCA
    clear hCA
    go_wp2_with fail
    go_loopg [7] o.n (fun gg s7 wr => ∃ k : Nat, k ≤ o.n ∧ o.n - k ≤ gg ∧ s7 = .int .i64 k ∧ Hid (Has wr w.heap.size #[.int .i64 o.next, .slice CA o.n o.c]) ∧ Hid (Has wr (w.heap.size + 1) #[.int .i64 0, .slice none 0 0]) ∧ Hid (Below w.heap.size w wr) ∧ Hid (∀ j (hj : j < o.L.length), j < k → ¬ (o.L[j].pid = pid ∧ 2 ≤ o.L[j].st)))
    case atStart => exact ⟨0, Nat.zero_le _, by omega, rfl, S1, R1, B1, Lib.hid (fun j _ h => absurd h (Nat.not_lt_zero _))⟩
    case round =>
      obtain ⟨k, hk, hgg, rfl, S2, R2, B2, IN⟩ := hrel
      have s2c := S2.out.cell
      have s2l := S2.out.lt
      by_cases hlt : k < o.n
      · obtain ⟨b, off, hkl, rfl, hbl, x0, x1, x2, x3, x4, x5, x6, x7⟩ := tx_at (HL.out.below B2.out) hlt
        have NO := Lib.hid (show ¬ (o.L[k].pid = pid ∧ 2 ≤ o.L[k].st) → ∀ j (hj : j < o.L.length), j < k + 1 → ¬ (o.L[j].pid = pid ∧ 2 ≤ o.L[j].st) from fun h j hj hjk => by
          rcases Nat.lt_or_ge j k with h' | h'
          · exact IN.out j hj h'
          · obtain rfl : j = k := by omega
            exact h)
        have HV := Lib.hid (show o.val.L[k]? = some o.L[k].val from by show (o.L.map Tx.val)[k]? = _; rw [List.getElem?_map, List.getElem?_eq_getElem hkl]; rfl)
        have HP := Lib.hid (show pidAt o.val.L o.L[k].pid = some k from by
          have := pid_at FN.out.pids (i := k) (by rw [LN.out]; exact hlt)
          rw [show (o.val.L[k]'(by rw [LN.out]; exact hlt)) = o.L[k].val from List.getElem_map ..] at this
          exact this)
        have OK := Lib.hid (FN.out.ok (show o.L[k].val ∈ o.val.L from List.mem_map_of_mem (List.getElem_mem hkl)))
        have HX := Lib.hid (show Tx.In w o.L[k] from Sl.each HO.out _ (List.getElem_mem hkl))
        generalize o.L[k] = x at *
        have HIN := Lib.hid hlt
        have q0 : (0 : Int) ≤ (k : Int) := by omega
        have q1 : (k : Int) < (o.n : Int) := by omega
        go_upto_region 8 with (fail)
        obtain ⟨w3, hw3⟩ : ∃ W, W = wr.alloc (.cells #[.string x.id, .int .i64 x.pid, .int .i64 x.gen, .int .i64 x.no, .int .i64 x.st, .slice x.PA x.Pn x.Pc, .slice x.GA x.Gn x.Gc, .int .i64 x.at_] 33) := ⟨_, rfl⟩
        have hb3 : Below wr.heap.size wr w3 := by rw [hw3]; exact below_alloc1 wr _
        have X3 := Lib.hid (show Has w3 wr.heap.size #[.string x.id, .int .i64 x.pid, .int .i64 x.gen, .int .i64 x.no, .int .i64 x.st, .slice x.PA x.Pn x.Pc, .slice x.GA x.Gn x.Gc, .int .i64 x.at_] from by rw [hw3]; exact Has.newAt wr _ 33 rfl)
        have B3 := Lib.hid (below_from hb3 B2.out B2.out.size)
        have S3 := Lib.hid (S2.out.past hb3)
        have R3 := Lib.hid (R2.out.past hb3)
        rw [← hw3]
        clear hw3 hb3 s2c s2l x0 x1 x2 x3 x4 x5 x6 x7 hkl
        have x3c := X3.out.cell
        have x3l := X3.out.lt
        by_cases c1 : x.pid = pid
        · have d1 : (x.pid != pid) = false := by rw [bne_eq_false_iff_eq]; exact c1
          by_cases c2 : x.st < 2
          · have d2 : decide (x.st < 2) = true := decide_eq_true c2
            have NX := Lib.hid (NO.out (fun h => by omega))
            clear c1 c2
            go_wp2_with fail
            go_roundg (o.n - (k + 1))
            case measure => omega
            case rel => exact ⟨k + 1, by omega, by omega, by go_num, S3, R3, B3, NX⟩
          · have d2 : decide (x.st < 2) = false := decide_eq_false c2
            have st := OK.out.st
            have DU := Lib.hid (show dueB x.val = true from by
              unfold dueB
              have h1 : 0 ≤ x.st ∧ x.st ≤ 3 := st
              rcases (show x.st = 2 ∨ x.st = 3 by omega) with h | h
              · rw [show x.val.st = 2 from h]; rfl
              · rw [show x.val.st = 3 from h]; rfl)
            have DN := Lib.hid (show doneV o.val pid = _ from (done_here HK.out (by rw [← c1]; exact HP.out) HV.out).trans (if_pos DU.out))
            clear c1 c2 st
            by_cases hm : x.no = 1048576
            · have d5 : (x.no == 1048576) = true := by rw [beq_iff_eq]; exact hm
              have DN3 := Lib.hid (show doneV o.val pid = (noC, 2) from DN.out.trans (if_pos hm))
              clear hm
              have r3c := R3.out.cell
              have r3l := R3.out.lt
              have r3f := R3.out.free
              go_wp2_with fail
              have G := setCells_grown (w.heap.size + 1) [.int .i64 0, .slice none 0 0] 0 w3
              refine bodyPost_ret (v := .tuple #[noO.v, .int .i64 2]) (results_cell_tmp Try.results36 (g := w.heap.size + 1) rfl rfl (load24 (R3.out.set [.int .i64 0, .slice none 0 0] rfl))) rfl ?_
              exact RN.out _ _ (B3.out.trans (grown_below G B3.out.size (fun k hk => by injection hk with hk; omega))) (DN3.out)
            · have d5 : (x.no == 1048576) = false := by rw [beq_eq_false_iff_ne]; exact hm
              have wr1 : IntKind.i64.wrap (x.no + 1) = x.no + 1 := IntWalk.i64_in _ (by have h := OK.out.no; have h1 : 0 ≤ x.no := h.1; have h2 : x.no ≤ 1048576 := h.2; omega)
              obtain ⟨y, hy⟩ : ∃ y : Tx, y = ⟨x.id, x.pid, x.gen, x.no + 1, 0, none, 0, 0, [], none, 0, 0, [], x.at_⟩ := ⟨_, rfl⟩
              have DN3 := Lib.hid (show doneV o.val pid = ({ o.val with L := o.val.L.set k y.val }, 0) from by rw [hy]; exact DN.out.trans (if_neg hm))
              clear hm
              go_upto_region 12 with (fail)
              obtain ⟨w4, hw4⟩ : ∃ W, W = w3.alloc (.cells #[.string x.id, .int .i64 x.pid, .int .i64 x.gen, .int .i64 (x.no + 1), .int .i64 0, .slice none 0 0, .slice none 0 0, .int .i64 x.at_] 33) := ⟨_, rfl⟩
              have hb4 : Below w3.heap.size w3 w4 := by rw [hw4]; exact below_alloc1 w3 _
              have Y4 := Lib.hid (show Has w4 w3.heap.size #[.string x.id, .int .i64 x.pid, .int .i64 x.gen, .int .i64 (x.no + 1), .int .i64 0, .slice none 0 0, .slice none 0 0, .int .i64 x.at_] from by rw [hw4]; exact Has.newAt w3 _ 33 rfl)
              have B4 := Lib.hid (below_from hb4 B3.out B3.out.size)
              have S4 := Lib.hid (S3.out.past hb4)
              have R4 := Lib.hid (R3.out.past hb4)
              have PU := Lib.hid (rwith_any o k y w4 (HO.out.below B4.out) (by rw [hy]; exact ⟨HX.out.id, Sl.nil _ _, Sl.nil _ _⟩) HIN.out NN.out)
              rw [show y.v = .agg #[.string x.id, .int .i64 x.pid, .int .i64 x.gen, .int .i64 (x.no + 1), .int .i64 0, .slice none 0 0, .slice none 0 0, .int .i64 x.at_] from by rw [hy]] at PU
              rw [← hw4]
              clear hw4 hb4 hy x3c x3l d5 wr1
              have s4c := S4.out.cell
              have s4l := S4.out.lt
              have y4c := Y4.out.cell
              have y4l := Y4.out.lt
              have PU2 := Lib.hid (show Calls Try.prog 52 #[.agg #[.int .i64 o.next, .slice (some ⟨b, off, none⟩) o.n o.c], _, _] _ _ from by rw [← HCA.out]; exact PU.out)
              go_wp2_with (
                go_at_call 52; refine PU2.out.mono ?_; rintro e w5 ⟨q, rfl, hq, hb5⟩; have B5 := Lib.hid (below_from hb5 B4.out B4.out.size); have R5 := Lib.hid (R4.out.past hb5); have HQ := Lib.hid hq; have r5c := R5.out.cell; have r5l := R5.out.lt; have r5f := R5.out.free; clear hb5 hq s4c s4l y4c y4l)
              have G := setCells_grown (w.heap.size + 1) [.int .i64 q.next, .slice q.A q.n q.c] 0 w5
              have BB := B5.out.trans (grown_below G B5.out.size (fun k hk => by injection hk with hk; omega))
              refine bodyPost_ret (v := .tuple #[q.v, .int .i64 0]) (results_cell_tmp Try.results36 (g := w.heap.size + 1) rfl rfl (load24 (R5.out.set [.int .i64 q.next, .slice q.A q.n q.c] rfl))) rfl ?_
              exact CoRes.of DN3.out (HQ.out.beside R5.out (tc_texts _ _ _ _) G) BB
        · have d1 : (x.pid != pid) = true := by rw [bne_iff_ne]; exact c1
          have NX := Lib.hid (NO.out (fun h => c1 h.1))
          clear c1
          go_wp2_with fail
          go_roundg (o.n - (k + 1))
          case measure => omega
          case rel => exact ⟨k + 1, by omega, by omega, by go_num, S3, R3, B3, NX⟩
      · obtain rfl : o.n = k := by omega
        have DN := Lib.hid (show doneV o.val pid = (noC, 210) from by
          cases hp : pidAt o.val.L pid with
          | none => exact done_none HK.out hp
          | some i =>
            obtain ⟨hi, hv⟩ := find_some hp
            have hi' : i < o.L.length := by rw [Sl.len HO.out]; rw [LN.out] at hi; exact hi
            have e1 : o.val.L[i] = o.L[i].val := List.getElem_map ..
            have hpid : o.L[i].pid = pid := by
              have h2 := (List.findIdx?_eq_some_iff_getElem.1 hp).2.1
              have h3 := of_decide_eq_true h2
              rw [e1] at h3
              exact h3
            have h4 := IN.out i hi' (by rw [← Sl.len HO.out]; exact hi')
            have hst := (FN.out.ok (List.getElem_mem hi)).st
            rw [e1] at hst
            have h5 : 0 ≤ o.L[i].st ∧ o.L[i].st ≤ 3 := hst
            refine (done_here HK.out hp (by rw [List.getElem?_eq_getElem hi, e1])).trans (if_neg ?_)
            unfold dueB
            have h6 : o.L[i].st < 2 := by
              apply Int.not_le.1
              intro h
              exact h4 ⟨hpid, h⟩
            simp only [Bool.or_eq_true, decide_eq_true_eq]
            show ¬ (o.L[i].st = 2 ∨ o.L[i].st = 3)
            omega)
        have r2c := R2.out.cell
        have r2l := R2.out.lt
        have r2f := R2.out.free
        go_wp2_with fail
        have G := setCells_grown (w.heap.size + 1) [.int .i64 0, .slice none 0 0] 0 wr
        refine bodyPost_ret (v := .tuple #[noO.v, .int .i64 210]) (results_cell_tmp Try.results36 (g := w.heap.size + 1) rfl rfl (load24 (R2.out.set [.int .i64 0, .slice none 0 0] rfl))) rfl ?_
        exact RN.out _ _ (B2.out.trans (grown_below G B2.out.size (fun k hk => by injection hk with hk; omega))) (DN.out)
  · have HK := Lib.hid hk
    obtain ⟨c, hc⟩ : ∃ c, checkV o.val = c := ⟨_, rfl⟩
    have HQ := Lib.hid hc
    rw [hc] at CK hk
    have d1 : (c != 0) = true := by rw [bne_iff_ne]; exact hk
    have d2 : (c == 0) = false := by rw [beq_eq_false_iff_ne]; exact hk
    clear hc hk
    go_enter Try.func36, Try.ntmps36
    go_upto_region 3 with (first
      | (go_at_call 19; rw [← HW.out]; refine (CK.out _ B0.out).mono ?_; rintro e w1 ⟨rfl, hb1⟩; have B1 := Lib.hid (below_from hb1 B0.out B0.out.size); have S1 := Lib.hid (S0.out.past hb1); have R1 := Lib.hid (R0.out.past hb1); clear hb1 s0c s0l))
    have r1c := R1.out.cell
    have r1l := R1.out.lt
    have r1f := R1.out.free
    go_wp2_with fail
    have G := setCells_grown (w.heap.size + 1) [.int .i64 0, .slice none 0 0] 0 w1
    refine bodyPost_ret (v := .tuple #[noO.v, .int .i64 c]) (results_cell_tmp Try.results36 (g := w.heap.size + 1) rfl rfl (load24 (R1.out.set [.int .i64 0, .slice none 0 0] rfl))) rfl ?_
    exact RN.out _ _ (B1.out.trans (grown_below G B1.out.size (fun k hk => by injection hk with hk; omega))) (by rw [done_chk HK.out, HQ.out])

end Go.Proofs.Ytnigjchgpmladaa
