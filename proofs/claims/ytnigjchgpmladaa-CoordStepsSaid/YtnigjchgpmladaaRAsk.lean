/- Where one stands that is asked of by its number and gen; one that runs; of the document. -/
import Derived.Test.YtnigjchgpmladaaRfd
import Derived.Test.YtnigjchgpmladaaRetC
import Derived.Test.YtnigjchgpmladaaRun
import Derived.Deep.DeepCutAuto
namespace Go.Proofs.Ytnigjchgpmladaa
open Go.RowKit Go.Shelf

def askAt (c : Cv) (id : ByteArray) (pid gen : Int) : Int × Int := match idAt c.L id with
  | none => (-1, 230)
  | some i => match c.L[i]? with | none => (-1, 0) | some x => if x.pid = pid ∧ x.gen = gen then (i, 0) else (-1, 110)
set_option maxRecDepth 100000 in
set_option maxHeartbeats 16000000 in
theorem rasked_any (o : Tc) (id : ByteArray) (pid gen : Int) (w : World) (ho : Tc.At w o) : Calls Try.prog 68 #[o.v, .string id, .int .i64 pid, .int .i64 gen] w fun e w' => e = .returned (.tuple #[.int .i64 (askAt o.val id pid gen).1, .int .i64 (askAt o.val id pid gen).2]) ∧ Below w.heap.size w w' := by
  have B0 := Lib.hid (below_alloc1 w (.cells #[.int .i64 o.next, .slice o.A o.n o.c] 24))
  have S0 := Lib.hid (Has.newAt w #[.int .i64 o.next, .slice o.A o.n o.c] 24 (g := w.heap.size) rfl)
  have HO := Lib.hid ho
  have RF := Lib.hid (rfindid_any o id _ (ho.below B0.out))
  have LN := Lib.hid ho.num
  obtain ⟨r, hr⟩ : ∃ r, askAt o.val id pid gen = r := ⟨_, rfl⟩
  have R := Lib.hid hr
  simp only [hr]
  clear ho hr
  have s0 := S0.out.cell
  have s1 := S0.out.lt
  cases hi : idAt o.val.L id with
  | none =>
    have RR := Lib.hid (show r = (-1, 230) from by rw [← R.out]; unfold askAt; rw [hi])
    rw [hi] at RF
    replace RF := Lib.hid (show Calls Try.prog 51 #[o.v, .string id] _ fun e w' => e = .returned (.int .i64 (-1)) ∧ _ from RF.out)
    clear hi
    go_enter Try.func68, Try.ntmps68
    go_wp2_with (go_at_call 51; refine RF.out.mono ?_; rintro e w1 ⟨rfl, hb⟩; have B1 := Lib.hid (below_from hb B0.out B0.out.size); clear hb s0 s1)
    go_ret2
    exact ⟨by rw [RR.out]; rfl, B1.out⟩
  | some i =>
    have hil : i < o.val.L.length := (id_some hi).elim fun h _ => h
    have hin : i < o.n := by rw [← LN.out]; exact hil
    obtain ⟨b, off, hl, hA, hbl, u0, u1, u2, u3, u4, u5, u6, u7⟩ := tx_at HO.out hin
    obtain ⟨x, hx⟩ : ∃ x, o.L[i] = x := ⟨_, rfl⟩
    have HV : o.val.L[i]? = some x.val := by show (o.L.map Tx.val)[i]? = _; rw [List.getElem?_map, List.getElem?_eq_getElem hl, hx]; rfl
    have RR := Lib.hid (show r = if x.pid = pid ∧ x.gen = gen then ((i : Int), (0 : Int)) else (-1, 110) from by rw [← R.out]; unfold askAt; rw [hi]; simp only [HV]; rfl)
    rw [hx] at u0 u1 u2 u3 u4 u5 u6 u7
    rw [hi] at RF
    replace RF := Lib.hid (show Calls Try.prog 51 #[o.v, .string id] _ fun e w' => e = .returned (.int .i64 (i : Nat)) ∧ _ from RF.out)
    have HA := Lib.hid hA
    have q0 : (0 : Int) ≤ (i : Int) := by omega
    have q1 : (i : Int) < (o.n : Int) := by omega
    have U1 := Lib.hid u1
    have U2 := Lib.hid u2
    have HB := Lib.hid hbl
    clear hi hx hl hil hin hA HV u0 u1 u2 u3 u4 u5 u6 u7
    go_enter Try.func68, Try.ntmps68
    go_upto_region 4 with (go_at_call 51; refine RF.out.mono ?_; rintro e w1 ⟨rfl, hb⟩; have B1 := Lib.hid (below_from hb B0.out B0.out.size); have S1 := Lib.hid (S0.out.past hb); clear hb s0 s1)
    have s1c := S1.out.cell
    have s1l := S1.out.lt
    rw [HA.out] at s1c
    have v1 := (B1.out.cell (p := ⟨b, off + i * 8 + 1, none⟩) HB.out).trans U1.out
    have v2 := (B1.out.cell (p := ⟨b, off + i * 8 + 2, none⟩) HB.out).trans U2.out
    have vl := Nat.lt_of_lt_of_le HB.out B1.out.size
    by_cases h1 : x.pid = pid
    · have d1 : (x.pid != pid) = false := by rw [bne_eq_false_iff_eq]; exact h1
      by_cases h2 : x.gen = gen
      · have d2 : (x.gen != gen) = false := by rw [bne_eq_false_iff_eq]; exact h2
        have R2 := Lib.hid (RR.out.trans (if_pos ⟨h1, h2⟩))
        clear h1 h2
        go_wp2_with fail
        go_ret2
        exact ⟨by rw [R2.out]; rfl, B1.out⟩
      · have d2 : (x.gen != gen) = true := by rw [bne_iff_ne]; exact h2
        have R2 := Lib.hid (RR.out.trans (if_neg (fun h => h2 h.2)))
        clear h1 h2
        go_wp2_with fail
        go_ret2
        exact ⟨by rw [R2.out]; rfl, B1.out⟩
    · have d1 : (x.pid != pid) = true := by rw [bne_iff_ne]; exact h1
      have R2 := Lib.hid (RR.out.trans (if_neg (fun h => h1 h.1)))
      clear h1
      go_wp2_with fail
      go_ret2
      exact ⟨by rw [R2.out]; rfl, B1.out⟩

set_option maxRecDepth 100000 in
set_option maxHeartbeats 16000000 in
theorem running_any (x : Tx) (now : Int) (w : World) : Calls Try.prog 70 #[x.v, .int .i64 now] w fun e w' => e = .returned (runX x now).v ∧ Below w.heap.size w w' := by
  obtain ⟨W0, hW0⟩ : ∃ W0, W0 = (w.alloc (.cells #[.string x.id, .int .i64 x.pid, .int .i64 x.gen, .int .i64 x.no, .int .i64 x.st, .slice x.PA x.Pn x.Pc, .slice x.GA x.Gn x.Gc, .int .i64 x.at_] 33)).alloc (.cells #[.string ⟨#[]⟩, .int .i64 0, .int .i64 0, .int .i64 0, .int .i64 0, .slice none 0 0, .slice none 0 0, .int .i64 0] 33) := ⟨_, rfl⟩
  have B0 := Lib.hid (show Below w.heap.size w W0 from by rw [hW0]; exact (below_alloc1 w _).alloc (by simp) _)
  have X0 := Lib.hid (show Has W0 w.heap.size #[.string x.id, .int .i64 x.pid, .int .i64 x.gen, .int .i64 x.no, .int .i64 x.st, .slice x.PA x.Pn x.Pc, .slice x.GA x.Gn x.Gc, .int .i64 x.at_] from by rw [hW0]; exact (Has.newAt w _ 33 rfl).alloc _)
  have R0 := Lib.hid (show Has W0 (w.heap.size + 1) #[.string ⟨#[]⟩, .int .i64 0, .int .i64 0, .int .i64 0, .int .i64 0, .slice none 0 0, .slice none 0 0, .int .i64 0] from by rw [hW0]; exact Has.newAt _ _ 33 (by simp))
  have HW := Lib.hid hW0
  have FIN : Hid (∀ (W1 : World) (y : Tx), Below w.heap.size w W1 → Has W1 (w.heap.size + 1) #[.string ⟨#[]⟩, .int .i64 0, .int .i64 0, .int .i64 0, .int .i64 0, .slice none 0 0, .slice none 0 0, .int .i64 0] → Has (W1.setCells (w.heap.size + 1) 0 [.string y.id, .int .i64 y.pid, .int .i64 y.gen, .int .i64 y.no, .int .i64 y.st, .slice y.PA y.Pn y.Pc, .slice y.GA y.Gn y.Gc, .int .i64 y.at_]) (w.heap.size + 1) #[.string y.id, .int .i64 y.pid, .int .i64 y.gen, .int .i64 y.no, .int .i64 y.st, .slice y.PA y.Pn y.Pc, .slice y.GA y.Gn y.Gc, .int .i64 y.at_] ∧ Below w.heap.size w (W1.setCells (w.heap.size + 1) 0 [.string y.id, .int .i64 y.pid, .int .i64 y.gen, .int .i64 y.no, .int .i64 y.st, .slice y.PA y.Pn y.Pc, .slice y.GA y.Gn y.Gc, .int .i64 y.at_])) :=
    Lib.hid fun W1 y hb hr => ⟨hr.set _ rfl, hb.trans (grown_below (setCells_grown (w.heap.size + 1) _ 0 W1) hb.size (fun k hk => by injection hk with hk; omega))⟩
  clear hW0
  have x0c := X0.out.cell
  have x0l := X0.out.lt
  have x0f := X0.out.free
  have r0c := R0.out.cell
  have r0l := R0.out.lt
  have r0f := R0.out.free
  go_enter Try.func70, Try.ntmps70
  go_upto_region 1 with (fail)
  rw [← HW.out]
  by_cases h : x.st = 0
  · have d1 : (x.st == 0) = true := by rw [beq_iff_eq]; exact h
    have RX := Lib.hid (show runX x now = { x with st := 1, at_ := now } from by unfold runX; rw [if_pos h, if_pos h])
    clear h
    go_upto_region 4 with (fail)
    have G := setCells_grown w.heap.size [.int .i64 1] 4 W0
    have G2 := setCells_grown w.heap.size [.int .i64 now] 7 (W0.setCells w.heap.size 4 [.int .i64 1])
    obtain ⟨w1, hw1⟩ : ∃ W, W = (W0.setCells w.heap.size 4 [.int .i64 1]).setCells w.heap.size 7 [.int .i64 now] := ⟨_, rfl⟩
    have X1 := Lib.hid (show Has w1 w.heap.size #[.string x.id, .int .i64 x.pid, .int .i64 x.gen, .int .i64 x.no, .int .i64 1, .slice x.PA x.Pn x.Pc, .slice x.GA x.Gn x.Gc, .int .i64 now] from by
      have := (X0.out.setAt 4 (.int .i64 1) (by simp)).setAt 7 (.int .i64 now) (by simp)
      rw [hw1]
      simpa [World.setCells] using this)
    have GG := grown_trans G G2
    rw [← hw1] at GG
    have R1 := Lib.hid (R0.out.grown GG (by omega))
    have B1 := Lib.hid (B0.out.trans (grown_below GG B0.out.size (fun k hk => by injection hk with hk; omega)))
    rw [show (W0.setCell ⟨w.heap.size, 4, none⟩ (.int .i64 1)).setCell ⟨w.heap.size, 7, none⟩ (.int .i64 now) = w1 from hw1.symm]
    clear hw1 G G2 GG x0c x0l x0f r0c r0l r0f
    have x1c := X1.out.cell
    have x1l := X1.out.lt
    have r1c := R1.out.cell
    have r1l := R1.out.lt
    have r1f := R1.out.free
    go_wp2_with fail
    have F := FIN.out w1 { x with st := 1, at_ := now } B1.out R1.out
    refine bodyPost_ret (v := (runX x now).v) (results_cell Try.results70 (g := w.heap.size + 1) rfl (by rw [RX.out]; exact load33 F.1)) rfl ?_
    exact ⟨rfl, F.2⟩
  · have d1 : (x.st == 0) = false := by rw [beq_eq_false_iff_ne]; exact h
    have RX := Lib.hid (show runX x now = x from by unfold runX; rw [if_neg h, if_neg h])
    clear h
    go_wp2_with fail
    have F := FIN.out W0 x B0.out R0.out
    refine bodyPost_ret (v := (runX x now).v) (results_cell Try.results70 (g := w.heap.size + 1) rfl (by rw [RX.out]; exact load33 F.1)) rfl ?_
    exact ⟨rfl, F.2⟩

end Go.Proofs.Ytnigjchgpmladaa
