/- Steps of the laws, one behind the other; whether they are few. -/
import Derived.Test.YtnigjchgpmladaaStp
import Derived.Test.YtnigjchgpmladaaReg
namespace Go.Proofs.Ytnigjchgpmladaa
open Go.RowKit Go.Shelf

def AllRes (w : World) (V : Cv) (e : Ending) (w' : World) : Prop := ∃ q : Tc, e = .returned q.v ∧ Tc.At w' q ∧ Steps V q.val ∧ FewV q.val ∧ Below w.heap.size w w'
set_option maxRecDepth 100000 in
set_option maxHeartbeats 16000000 in
theorem all_steps (o : Tc) (A : Option Addr) (n c : Nat) (l : List Dv) (w : World) (ho : Tc.At w o) (hf : FewV o.val) (hl : Sl dvK w A n c l) : Calls Try.prog 38 #[o.v, .slice A n c] w fun e w' => AllRes w o.val e w' := by
  obtain ⟨W0, hW0⟩ : ∃ W0, W0 = (w.alloc (.cells #[.int .i64 o.next, .slice o.A o.n o.c] 24)).alloc (.cells #[.int .i64 0, .slice none 0 0] 24) := ⟨_, rfl⟩
  have B0 := Lib.hid (show Below w.heap.size w W0 from by rw [hW0]; exact (below_alloc1 w _).alloc (by simp) _)
  have S0 := Lib.hid (show Has W0 w.heap.size #[.int .i64 o.next, .slice o.A o.n o.c] from by rw [hW0]; exact (Has.newAt w _ 24 rfl).alloc _)
  have R0 := Lib.hid (show Has W0 (w.heap.size + 1) #[.int .i64 0, .slice none 0 0] from by rw [hW0]; exact Has.newAt _ _ 24 (by simp))
  have HW := Lib.hid hW0
  have O0 := Lib.hid (ho.below B0.out)
  have HL := Lib.hid hl
  have FW := Lib.hid hf
  have hcap := hl.cap
  have hmax := hl.max
  clear ho hf hl hW0
  go_enter Try.func38, Try.ntmps38
  go_upto_region 1 with (fail)
  rw [← HW.out]
  go_wp2_with fail
  go_loopg [5] n (fun gg s5 wr => ∃ (k : Nat) (q : Tc), k ≤ n ∧ n - k ≤ gg ∧ s5 = .int .i64 k ∧ Hid (Has wr w.heap.size #[.int .i64 q.next, .slice q.A q.n q.c]) ∧ Hid (Has wr (w.heap.size + 1) #[.int .i64 0, .slice none 0 0]) ∧ Hid (Tc.At wr q) ∧ Hid (Steps o.val q.val) ∧ Hid (FewV q.val) ∧ Hid (Below w.heap.size w wr))
  case atStart => exact ⟨0, o, Nat.zero_le _, by omega, rfl, S0, R0, O0, Lib.hid (.refl _), FW, B0⟩
  case round =>
    obtain ⟨k, q, hk, hgg, rfl, S1, R1, Q1, ST, FQ, B1⟩ := hrel
    have sl := S1.out.lt
    by_cases hlt : k < n
    · obtain ⟨b, off, hkl, rfl, hbl, x0, x1, x2, x3, x4, x5, x6, x7, x8, x9, x10⟩ := dv_at (HL.out.below B1.out) hlt
      have XW := Lib.hid (show l[k].a.wf from HL.out.each _ (List.getElem_mem hkl))
      generalize l[k] = d at *
      have XL := Lib.hid hbl
      have q0 : (0 : Int) ≤ (k : Int) := by omega
      have q1 : (k : Int) < (n : Int) := by omega
      have X0 := Lib.hid x0
      have X1 := Lib.hid x1
      have X2 := Lib.hid x2
      have X3 := Lib.hid x3
      have X4 := Lib.hid x4
      have X5 := Lib.hid x5
      have X6 := Lib.hid x6
      have X7 := Lib.hid x7
      have X8 := Lib.hid x8
      have X9 := Lib.hid x9
      have X10 := Lib.hid x10
      have DS := Lib.hid (fun W (h : Below wr.heap.size wr W) => done_step q d W (Q1.out.below h) FQ.out XW.out)
      have D1 := Lib.hid (show Below wr.heap.size wr wr.drew from (Below.refl _ wr).drew)
      clear x0 x1 x2 x3 x4 x5 x6 x7 x8 x9 x10 hkl
      go_wp2_with fail
      refine region_tr (fun w' => w'.cell? ⟨w.heap.size, 0, none⟩ = some (.int .i64 q.next) ∧ w'.cell? ⟨w.heap.size, 1, none⟩ = some (.slice q.A q.n q.c) ∧ w'.cell? ⟨b, off + k * 11, none⟩ = some (.int .i64 d.kind) ∧ w'.cell? ⟨b, off + k * 11 + 1, none⟩ = some (.bool d.own) ∧ w'.cell? ⟨b, off + k * 11 + 2, none⟩ = some (.string d.a.id) ∧ w'.cell? ⟨b, off + k * 11 + 3, none⟩ = some (.int .i64 d.a.pid) ∧ w'.cell? ⟨b, off + k * 11 + 4, none⟩ = some (.int .i64 d.a.gen) ∧ w'.cell? ⟨b, off + k * 11 + 5, none⟩ = some (.string d.a.tp.t) ∧ w'.cell? ⟨b, off + k * 11 + 6, none⟩ = some (.int .i64 d.a.tp.p) ∧ w'.cell? ⟨b, off + k * 11 + 7, none⟩ = some (.int .i64 d.a.tp.h) ∧ w'.cell? ⟨b, off + k * 11 + 8, none⟩ = some (.string d.a.g) ∧ w'.cell? ⟨b, off + k * 11 + 9, none⟩ = some (.bool d.a.yes) ∧ w'.cell? ⟨b, off + k * 11 + 10, none⟩ = some (.int .i64 d.a.now)) 6 (.take 0 (.take 1 (.take 2 (.take 3 (.take 4 (.op 5 .tail)))))) (by kernel_rfl) (by kernel_rfl) ⟨(S1.out.past D1.out).cell 0, (S1.out.past D1.out).cell 1, (D1.out.cell (p := ⟨b, off + k * 11, none⟩) XL.out).trans X0.out, (D1.out.cell (p := ⟨b, off + k * 11 + 1, none⟩) XL.out).trans X1.out, (D1.out.cell (p := ⟨b, off + k * 11 + 2, none⟩) XL.out).trans X2.out, (D1.out.cell (p := ⟨b, off + k * 11 + 3, none⟩) XL.out).trans X3.out, (D1.out.cell (p := ⟨b, off + k * 11 + 4, none⟩) XL.out).trans X4.out, (D1.out.cell (p := ⟨b, off + k * 11 + 5, none⟩) XL.out).trans X5.out, (D1.out.cell (p := ⟨b, off + k * 11 + 6, none⟩) XL.out).trans X6.out, (D1.out.cell (p := ⟨b, off + k * 11 + 7, none⟩) XL.out).trans X7.out, (D1.out.cell (p := ⟨b, off + k * 11 + 8, none⟩) XL.out).trans X8.out, (D1.out.cell (p := ⟨b, off + k * 11 + 9, none⟩) XL.out).trans X9.out, (D1.out.cell (p := ⟨b, off + k * 11 + 10, none⟩) XL.out).trans X10.out⟩ (fun hHeld => ?_)
      iterate 5
        refine tr_take (v := ?_) (by simp only [List.getElem?_toArray, List.getElem?_cons_succ, List.getElem?_cons_zero]; rfl) (Or.inl ⟨by rfl, ?_⟩) ?_
        rotate_left 1
        · intro w hSw
          try dsimp only at hSw
          go_simp
          try with_reducible rfl
        try simp only [Act.put, List.setIfInBounds_toArray, List.set_cons_zero, List.set_cons_succ]
      refine tr_op (by simp only [List.getElem?_toArray, List.getElem?_cons_succ, List.getElem?_cons_zero]; rfl) (fun K hK => ?_)
      go_wp2_with (go_at_call 75; refine (DS.out _ D1.out).mono ?_; rintro e w2 ⟨q2, rfl, hq, hst, hb⟩)
      clear hHeld
      have F1 := Lib.hid (below_from hb D1.out D1.out.size)
      have Q2 := Lib.hid hq
      have T2 := Lib.hid hst
      clear hb hq hst
      refine hK.out _ _ ⟨(S1.out.past F1.out).cell 0, (S1.out.past F1.out).cell 1, (F1.out.cell (p := ⟨b, off + k * 11, none⟩) XL.out).trans X0.out, (F1.out.cell (p := ⟨b, off + k * 11 + 1, none⟩) XL.out).trans X1.out, (F1.out.cell (p := ⟨b, off + k * 11 + 2, none⟩) XL.out).trans X2.out, (F1.out.cell (p := ⟨b, off + k * 11 + 3, none⟩) XL.out).trans X3.out, (F1.out.cell (p := ⟨b, off + k * 11 + 4, none⟩) XL.out).trans X4.out, (F1.out.cell (p := ⟨b, off + k * 11 + 5, none⟩) XL.out).trans X5.out, (F1.out.cell (p := ⟨b, off + k * 11 + 6, none⟩) XL.out).trans X6.out, (F1.out.cell (p := ⟨b, off + k * 11 + 7, none⟩) XL.out).trans X7.out, (F1.out.cell (p := ⟨b, off + k * 11 + 8, none⟩) XL.out).trans X8.out, (F1.out.cell (p := ⟨b, off + k * 11 + 9, none⟩) XL.out).trans X9.out, (F1.out.cell (p := ⟨b, off + k * 11 + 10, none⟩) XL.out).trans X10.out⟩ (fun hHeld => ?_)
      clear hK K
      try simp only [Act.put, List.setIfInBounds_toArray, List.set_cons_zero, List.set_cons_succ]
      refine tr_tail rfl ?_
      clear hHeld
      have SB := Lib.hid (S1.out.past F1.out)
      have RB := Lib.hid (R1.out.past F1.out)
      have sbc := SB.out.cell
      have sbf := SB.out.free
      have sbl := SB.out.lt
      go_wp2_with fail
      have G := setCells_grown w.heap.size [.int .i64 q2.next, .slice q2.A q2.n q2.c] 0 w2
      go_roundg (n - (k + 1))
      case measure => omega
      case rel =>
        refine ⟨k + 1, q2, by omega, by omega, by go_num, Lib.hid (SB.out.set [.int .i64 q2.next, .slice q2.A q2.n q2.c] rfl), Lib.hid (RB.out.grown G (by omega)), Lib.hid (Q2.out.beside SB.out (tc_texts _ _ _ _) G), Lib.hid (.tail ST.out T2.out), Lib.hid ?_, Lib.hid ((below_from F1.out B1.out B1.out.size).trans (grown_below G (Nat.le_trans B1.out.size F1.out.size) (fun k hk => by injection hk with hk; omega)))⟩
        rcases T2.out.few with h | h
        · rw [h]; exact FQ.out
        · exact h.fewV
    · obtain rfl : n = k := by omega
      have s1c := S1.out.cell
      have r1c := R1.out.cell
      have r1l := R1.out.lt
      have r1f := R1.out.free
      go_wp2_with fail
      have G := setCells_grown (w.heap.size + 1) [.int .i64 q.next, .slice q.A q.n q.c] 0 wr
      refine bodyPost_ret (v := q.v) (results_cell Try.results38 (g := w.heap.size + 1) rfl (load24 (R1.out.set [.int .i64 q.next, .slice q.A q.n q.c] rfl))) rfl ?_
      exact ⟨q, rfl, Q1.out.beside R1.out (tc_texts _ _ _ _) G, ST.out, FQ.out, B1.out.trans (grown_below G B1.out.size (fun k hk => by injection hk with hk; omega))⟩

def SomeB (w : World) (e : Ending) (w' : World) : Prop := ∃ b : Bool, e = .returned (.bool b) ∧ Below w.heap.size w w'
set_option maxRecDepth 100000 in
set_option maxHeartbeats 16000000 in
theorem fewd_any (A : Option Addr) (n c : Nat) (l : List Dv) (w : World) (hl : Sl dvK w A n c l) : Calls Try.prog 37 #[.slice A n c] w fun e w' => SomeB w e w' := by
  have HL := Lib.hid hl
  have hcap := hl.cap
  have hmax := hl.max
  have R0 := Lib.hid (Below.refl w.heap.size w)
  clear hl
  go_enter Try.func37, Try.ntmps37
  go_wp2_with fail
  go_loopg [3] n (fun gg s3 wr => ∃ k : Nat, k ≤ n ∧ n - k ≤ gg ∧ s3 = .int .i64 k ∧ Hid (Below w.heap.size w wr))
  case atStart => exact ⟨0, Nat.zero_le _, by omega, rfl, R0⟩
  case round =>
    obtain ⟨k, hk, hgg, rfl, B1⟩ := hrel
    by_cases hlt : k < n
    · by_cases h3 : k < 100
      · have d8 : decide ((k : Int) < (100 : Int)) = true := decide_eq_true (by omega)
        have d9 : decide (k < 100) = true := decide_eq_true h3
        obtain ⟨b, off, hkl, rfl, hbl, x0, x1, x2, x3, x4, x5, x6, x7, x8, x9, x10⟩ := dv_at (HL.out.below B1.out) hlt
        generalize l[k] = d at *
        have q0 : (0 : Int) ≤ (k : Int) := by omega
        have q1 : (k : Int) < (n : Int) := by omega
        have SH := Lib.hid (short_any d.a)
        cases hsh : shortB d.a with
        | false =>
          rw [hsh] at SH
          clear hsh
          go_wp2_with (go_at_call 27; refine (SH.out _).mono ?_; rintro e w2 ⟨rfl, hb⟩; have B2 := Lib.hid (below_from hb B1.out B1.out.size); clear hb)
          go_ret
          exact ⟨false, rfl, B2.out⟩
        | true =>
          rw [hsh] at SH
          clear hsh
          go_wp2_with (go_at_call 27; refine (SH.out _).mono ?_; rintro e w2 ⟨rfl, hb⟩; have B2 := Lib.hid (below_from hb B1.out B1.out.size); clear hb)
          go_roundg (n - (k + 1))
          case measure => omega
          case rel => exact ⟨k + 1, by omega, by omega, by go_num, B2⟩
      · have d8 : decide ((k : Int) < (100 : Int)) = false := decide_eq_false (by omega)
        have d9 : decide (k < 100) = false := decide_eq_false h3
        go_wp2_with fail
        go_ret
        exact ⟨_, rfl, B1.out⟩
    · obtain rfl : n = k := by omega
      go_wp2_with fail
      go_ret
      exact ⟨_, rfl, B1.out⟩

end Go.Proofs.Ytnigjchgpmladaa
