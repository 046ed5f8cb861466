/- Whom a number finds, who is due, who is old; of the document. -/
import Derived.Test.YtnigjchgpmladaaLook
import Derived.Test.YtnigjchgpmladaaOld
import Derived.Test.YtnigjchgpmladaaRCheck
import Derived.Test.YtnigjchgpmladaaBas
import Derived.Deep.DeepCutAuto
namespace Go.Proofs.Ytnigjchgpmladaa
open Go.RowKit Go.Shelf

set_option maxRecDepth 100000 in
set_option maxHeartbeats 16000000 in
theorem rfind_any (o : Tc) (pid : Int) (w : World) (ho : Tc.At w o) : Calls Try.prog 16 #[o.v, .int .i64 pid] w fun e w' => FndRes o w (findV o.val.L pid) e w' := by
  obtain ⟨W0, hW0⟩ : ∃ W0, W0 = (w.alloc (.cells #[.int .i64 o.next, .slice o.A o.n o.c] 24)).alloc (.cells #[.string ⟨#[]⟩, .int .i64 0, .int .i64 0, .int .i64 0, .int .i64 0, .slice none 0 0, .slice none 0 0, .int .i64 0] 33) := ⟨_, rfl⟩
  have B0 := Lib.hid (show Below w.heap.size w W0 from by rw [hW0]; exact (below_alloc1 w _).alloc (by simp) _)
  have S0 := Lib.hid (show Has W0 w.heap.size #[.int .i64 o.next, .slice o.A o.n o.c] from by rw [hW0]; exact (Has.newAt w _ 24 rfl).alloc _)
  have R0 := Lib.hid (show Has W0 (w.heap.size + 1) #[.string ⟨#[]⟩, .int .i64 0, .int .i64 0, .int .i64 0, .int .i64 0, .slice none 0 0, .slice none 0 0, .int .i64 0] from by rw [hW0]; exact Has.newAt _ _ 33 (by simp))
  have HW := Lib.hid hW0
  have HL := Lib.hid (show Sl txK w o.A o.n o.c o.L from ho)
  have hcap := ho.cap
  have hmax := ho.max
  clear ho hW0
  go_enter Try.func16, Try.ntmps16
  go_upto_region 1 with (fail)
  rw [← HW.out]
  obtain ⟨CA, hCA⟩ : ∃ A, o.A = A := ⟨_, rfl⟩
  rw [hCA] at HL S0
  clear hCA
  go_wp2_with fail
  go_loopg [6] o.n (fun gg s6 wr => ∃ k : Nat, k ≤ o.n ∧ o.n - k ≤ gg ∧ s6 = .int .i64 k ∧ Hid (Has wr w.heap.size #[.int .i64 o.next, .slice CA o.n o.c]) ∧ Hid (Has wr (w.heap.size + 1) #[.string ⟨#[]⟩, .int .i64 0, .int .i64 0, .int .i64 0, .int .i64 0, .slice none 0 0, .slice none 0 0, .int .i64 0]) ∧ Hid (Below w.heap.size w wr) ∧ Hid (∀ j (hj : j < o.L.length), j < k → o.L[j].pid ≠ pid))
  case atStart => exact ⟨0, Nat.zero_le _, by omega, rfl, S0, R0, B0, Lib.hid (fun j _ h => absurd h (Nat.not_lt_zero _))⟩
  case round =>
    obtain ⟨k, hk, hgg, rfl, S1, R1, B1, IN⟩ := hrel
    have s1c := S1.out.cell
    have s1l := S1.out.lt
    by_cases hlt : k < o.n
    · obtain ⟨b, off, hkl, rfl, hbl, x0, x1, x2, x3, x4, x5, x6, x7⟩ := tx_at (HL.out.below B1.out) hlt
      have FD := Lib.hid (show o.L[k].pid = pid → findV o.val.L pid = (o.L[k].val, true) from fun h => by
        obtain ⟨hi, hv⟩ := find_some (show pidAt o.val.L pid = some k from pid_found hkl h (fun j hj hjk => IN.out j hj hjk))
        rw [hv]
        exact congrArg (fun z => (z, true)) (List.getElem_map ..))
      have NX := Lib.hid (show o.L[k].pid ≠ pid → ∀ j (hj : j < o.L.length), j < k + 1 → o.L[j].pid ≠ pid from fun h j hj hjk => by
        rcases Nat.lt_or_ge j k with h' | h'
        · exact IN.out j hj h'
        · obtain rfl : j = k := by omega
          exact h)
      have HX := Lib.hid (show o.L[k] ∈ o.L from List.getElem_mem hkl)
      generalize o.L[k] = x at *
      have q0 : (0 : Int) ≤ (k : Int) := by omega
      have q1 : (k : Int) < (o.n : Int) := by omega
      by_cases e : x.pid = pid
      · have FV := Lib.hid (FD.out e)
        have d1 : (x.pid == pid) = true := by rw [beq_iff_eq]; exact e
        have r1c := R1.out.cell
        have r1l := R1.out.lt
        have r1f := R1.out.free
        clear e
        go_wp2_with fail
        have G := setCells_grown (w.heap.size + 1) [.string x.id, .int .i64 x.pid, .int .i64 x.gen, .int .i64 x.no, .int .i64 x.st, .slice x.PA x.Pn x.Pc, .slice x.GA x.Gn x.Gc, .int .i64 x.at_] 0 wr
        have BB := B1.out.trans (grown_below G B1.out.size (fun k hk => by injection hk with hk; omega))
        refine bodyPost_ret (v := .tuple #[x.v, .bool true]) (results_cell_tmp Try.results16 (g := w.heap.size + 1) rfl rfl (load33 (x := x) (R1.out.set [.string x.id, .int .i64 x.pid, .int .i64 x.gen, .int .i64 x.no, .int .i64 x.st, .slice x.PA x.Pn x.Pc, .slice x.GA x.Gn x.Gc, .int .i64 x.at_] rfl))) rfl ?_
        exact FndRes.of FV.out (.inr HX.out) BB
      · have d1 : (x.pid == pid) = false := by rw [beq_eq_false_iff_ne]; exact e
        have OK := Lib.hid (NX.out e)
        clear e
        go_wp2_with fail
        go_roundg (o.n - (k + 1))
        case measure => omega
        case rel => exact ⟨k + 1, by omega, by omega, by go_num, S1, R1, B1, OK⟩
    · obtain rfl : o.n = k := by omega
      have FV := Lib.hid (show findV o.val.L pid = (noT, false) from find_none (pid_nowhere (fun j hj => IN.out j hj (by rw [← HL.out.len]; exact hj))))
      have r1c := R1.out.cell
      have r1l := R1.out.lt
      have r1f := R1.out.free
      go_wp2_with fail
      have G := setCells_grown (w.heap.size + 1) [.string ⟨#[]⟩, .int .i64 0, .int .i64 0, .int .i64 0, .int .i64 0, .slice none 0 0, .slice none 0 0, .int .i64 0] 0 wr
      refine bodyPost_ret (v := .tuple #[noX.v, .bool false]) (results_cell_tmp Try.results16 (g := w.heap.size + 1) rfl rfl (load33 (x := noX) (R1.out.set [.string ⟨#[]⟩, .int .i64 0, .int .i64 0, .int .i64 0, .int .i64 0, .slice none 0 0, .slice none 0 0, .int .i64 0] rfl))) rfl ?_
      exact FndRes.of FV.out (.inl rfl) (B1.out.trans (grown_below G B1.out.size (fun k hk => by injection hk with hk; omega)))

theorem due_succ {L : List Tx} {k : Nat} (hk : k < L.length) : (L.take (k + 1)).filter (fun x => dueB x.val) = (L.take k).filter (fun x => dueB x.val) ++ if dueB L[k].val = true then [L[k]] else [] := by
  rw [List.take_succ_eq_append_getElem hk, List.filter_append]
  cases h : dueB L[k].val <;> simp [h]
set_option maxRecDepth 100000 in
set_option maxHeartbeats 16000000 in
theorem rdue_any (o : Tc) (w : World) (ho : Tc.At w o) (hn : o.n ≤ 50000) : Calls Try.prog 23 #[o.v] w fun e w' => LsRes w (dueV o.val.L) e w' := by
  obtain ⟨i0, hi0, hz0, hs0, hb0⟩ := info_parts inf33
  have B0 := Lib.hid (below_alloc1 w (.cells #[.int .i64 o.next, .slice o.A o.n o.c] 24))
  have S0 := Lib.hid (Has.newAt w #[.int .i64 o.next, .slice o.A o.n o.c] 24 (g := w.heap.size) rfl)
  have HL := Lib.hid (show Sl txK w o.A o.n o.c o.L from ho)
  have HO := Lib.hid ho
  have NN := Lib.hid hn
  have hcap := ho.cap
  have hmax := ho.max
  clear ho hn
  obtain ⟨W0, hW0⟩ : ∃ W, W = w.alloc (.cells #[.int .i64 o.next, .slice o.A o.n o.c] 24) := ⟨_, rfl⟩
  rw [← hW0] at B0 S0
  have HW := Lib.hid hW0
  clear hW0
  go_enter Try.func23, Try.ntmps23
  go_upto_region 1 with (fail)
  rw [← HW.out]
  obtain ⟨CA, hCA⟩ : ∃ A, o.A = A := ⟨_, rfl⟩
  rw [hCA] at HL S0
  clear hCA
  go_wp2_with fail
  go_loopg [3, 4] o.n (fun gg s3 s4 wr => ∃ (k : Nat) (A : Option Addr) (n c : Nat), k ≤ o.n ∧ o.n - k ≤ gg ∧ s3 = .slice A n c ∧ s4 = .int .i64 k ∧ n ≤ k ∧ w.heap.size < wr.heap.size ∧ Hid (Has wr w.heap.size #[.int .i64 o.next, .slice CA o.n o.c]) ∧ Hid (Below w.heap.size w wr) ∧ Hid (ROwn txK 33 wr (w.heap.size + 1) A n c ((o.L.take k).filter fun x => dueB x.val)))
  case atStart => exact ⟨0, none, 0, 0, Nat.zero_le _, by omega, rfl, rfl, Nat.le_refl _, S0.out.lt, S0, B0, Lib.hid (by simpa using ROwn.nil _ _ _ _)⟩
  case round =>
    obtain ⟨k, A, n, c, hk, hgg, rfl, rfl, hn, hz, S1, B1, O1⟩ := hrel
    have s1c := S1.out.cell
    have s1l := S1.out.lt
    by_cases hlt : k < o.n
    · obtain ⟨b, off, hkl, rfl, hbl, x0, x1, x2, x3, x4, x5, x6, x7⟩ := tx_at (HL.out.below B1.out) hlt
      have TS := Lib.hid (due_succ hkl)
      generalize o.L[k] = x at *
      have q0 : (0 : Int) ≤ (k : Int) := by omega
      have q1 : (k : Int) < (o.n : Int) := by omega
      have DB : dueB x.val = (decide (x.st = 2) || decide (x.st = 3)) := rfl
      have bk := below_alloc1 wr (.cells #[.string x.id, .int .i64 x.pid, .int .i64 x.gen, .int .i64 x.no, .int .i64 x.st, .slice x.PA x.Pn x.Pc, .slice x.GA x.Gn x.Gc, .int .i64 x.at_] 33)
      have B5 := Lib.hid (below_from bk B1.out B1.out.size)
      have S5 := Lib.hid (S1.out.past bk)
      have O5 := Lib.hid (O1.out.kept bk)
      have X5 := Lib.hid (Has.newAt wr #[.string x.id, .int .i64 x.pid, .int .i64 x.gen, .int .i64 x.no, .int .i64 x.st, .slice x.PA x.Pn x.Pc, .slice x.GA x.Gn x.Gc, .int .i64 x.at_] 33 (g := wr.heap.size) rfl)
      have Z5 := Lib.hid (show w.heap.size + 1 ≤ (wr.alloc (.cells #[.string x.id, .int .i64 x.pid, .int .i64 x.gen, .int .i64 x.no, .int .i64 x.st, .slice x.PA x.Pn x.Pc, .slice x.GA x.Gn x.Gc, .int .i64 x.at_] 33)).heap.size from Nat.le_trans hz bk.size)
      clear bk hkl
      by_cases c2 : x.st = 2
      · have d1 : (x.st == 2) = true := by rw [beq_iff_eq]; exact c2
        have TS2 := Lib.hid (show _ = (o.L.take k).filter (fun x => dueB x.val) ++ [x] from TS.out.trans (by rw [DB, decide_eq_true c2]; rfl))
        clear c2 DB
        go_wp2_with (at_builtin; refine wpList_app1R (K := txK) _ rfl _ _ 22 rfl (w.heap.size + 1) 33 i0 _ 104 Try.underlying22 hi0 hz0 hs0 hb0 rfl A n c _ rfl O5.out wr.heap.size rfl x ?qc1 ?qc2 ?qc3 ?qc4 ?_)
        case qc1 => intro j _; exact (X5.out.cell j).trans (by simp [txK, Tx.cells])
        case qc2 => have := NN.out; unfold maxLen; omega
        case qc3 => have := NN.out; omega
        case qc4 => exact Z5.out
        intro A2 c2 w5 hown hgrow hat
        have GB := grown_below (B := w.heap.size + 1) hgrow Z5.out (fun j hj => (O5.out.2.lt j hj).1)
        have B6 := Lib.hid (B5.out.trans (GB.mono (by omega)))
        have S6 := Lib.hid (S5.out.below GB (by omega))
        have T1 := Lib.hid hown
        have Z6 := Lib.hid (Nat.le_trans Z5.out GB.size)
        clear hown hgrow hat GB s1c s1l
        go_wp2_with fail
        go_roundg (o.n - (k + 1))
        case measure => omega
        case rel => exact ⟨k + 1, A2, n + 1, c2, by omega, by omega, rfl, by go_num, by omega, by have := Z6.out; omega, S6, B6, by rw [TS2.out]; exact T1⟩
      have d1 : (x.st == 2) = false := by rw [beq_eq_false_iff_ne]; exact c2
      by_cases c3 : x.st = 3
      · have d2 : (x.st == 3) = true := by rw [beq_iff_eq]; exact c3
        have TS2 := Lib.hid (show _ = (o.L.take k).filter (fun x => dueB x.val) ++ [x] from TS.out.trans (by rw [DB, decide_eq_true c3, Bool.or_true]; rfl))
        clear c2 c3 DB
        go_wp2_with (at_builtin; refine wpList_app1R (K := txK) _ rfl _ _ 22 rfl (w.heap.size + 1) 33 i0 _ 104 Try.underlying22 hi0 hz0 hs0 hb0 rfl A n c _ rfl O5.out wr.heap.size rfl x ?qc1 ?qc2 ?qc3 ?qc4 ?_)
        case qc1 => intro j _; exact (X5.out.cell j).trans (by simp [txK, Tx.cells])
        case qc2 => have := NN.out; unfold maxLen; omega
        case qc3 => have := NN.out; omega
        case qc4 => exact Z5.out
        intro A2 c2 w5 hown hgrow hat
        have GB := grown_below (B := w.heap.size + 1) hgrow Z5.out (fun j hj => (O5.out.2.lt j hj).1)
        have B6 := Lib.hid (B5.out.trans (GB.mono (by omega)))
        have S6 := Lib.hid (S5.out.below GB (by omega))
        have T1 := Lib.hid hown
        have Z6 := Lib.hid (Nat.le_trans Z5.out GB.size)
        clear hown hgrow hat GB s1c s1l
        go_wp2_with fail
        go_roundg (o.n - (k + 1))
        case measure => omega
        case rel => exact ⟨k + 1, A2, n + 1, c2, by omega, by omega, rfl, by go_num, by omega, by have := Z6.out; omega, S6, B6, by rw [TS2.out]; exact T1⟩
      · have d2 : (x.st == 3) = false := by rw [beq_eq_false_iff_ne]; exact c3
        have TS2 := Lib.hid (show _ = (o.L.take k).filter (fun x => dueB x.val) from TS.out.trans (by rw [DB, decide_eq_false c2, decide_eq_false c3, if_neg (by simp), List.append_nil]))
        clear c2 c3 DB
        go_wp2_with fail
        go_roundg (o.n - (k + 1))
        case measure => omega
        case rel => exact ⟨k + 1, A, n, c, by omega, by omega, rfl, by go_num, by omega, hz, S1, B1, by rw [TS2.out]; exact O1⟩
    · obtain rfl : o.n = k := by omega
      have FIN := Lib.hid (show (((o.L.take o.n).filter fun x => dueB x.val).map Tx.val) = dueV o.val.L from by
        rw [List.take_of_length_le (by rw [HL.out.len]; exact Nat.le_refl _)]
        unfold dueV
        show _ = (o.L.map Tx.val).filter dueB
        rw [List.filter_map]
        rfl)
      have MEM := Lib.hid (show ∀ a ∈ (o.L.take o.n).filter (fun x => dueB x.val), Tx.In w a from fun a ha => Sl.each HO.out a (List.mem_of_mem_take (List.mem_filter.1 ha).1))
      go_wp2_with fail
      go_ret
      exact ⟨A, n, c, _, rfl, (O1.out.own (fun a ha => (MEM.out a ha).past B1.out)).sl, FIN.out, B1.out⟩

end Go.Proofs.Ytnigjchgpmladaa
