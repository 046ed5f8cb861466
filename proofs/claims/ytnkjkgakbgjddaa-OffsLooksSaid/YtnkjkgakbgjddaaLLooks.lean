/- OffsLooks: where it is, and the least of all, is what the document says. -/
import Derived.Test.YtnkjkgakbgjddaaRGet
namespace Go.Proofs.Ytnkjkgakbgjddaa
open Go.RowKit

theorem of_few3 {o : Of} (h : fewO o = true) : o.n ≤ 100 ∧ o.n' ≤ 100 := by unfold fewO at h; simpa using h
theorem rget_at {o : Of} {w : World} {L : List Ps} {M : List Wt} (h : Of.At w o ∧ o.L = L ∧ o.M = M) {s t : ByteArray} {p k v : Int} {b : Bool} (hr : getV L s t p k = (v, b)) :
    Calls Try.prog 24 #[o.v, .string s, .agg #[.string t, .int .i64 p, .int .i64 k]] w fun e w' => e = .returned (.tuple #[.int .i64 v, .bool b]) ∧ Below w.heap.size w w' := by
  have := rget_any o s t p k w h.1
  rw [h.2.1, hr] at this
  exact this
theorem rleast_at {o : Of} {w : World} {L : List Ps} {M : List Wt} (h : Of.At w o ∧ o.L = L ∧ o.M = M) {t : ByteArray} {p k v : Int} {b : Bool} (hr : leastV L M t p k = (v, b)) :
    Calls Try.prog 26 #[o.v, .agg #[.string t, .int .i64 p, .int .i64 k]] w fun e w' => e = .returned (.tuple #[.int .i64 v, .bool b]) ∧ Below w.heap.size w w' := by
  have := rleast_any o t p k w h.1
  rw [h.2.1, h.2.2, hr] at this
  exact this

set_option maxHeartbeats 16000000 in
set_option maxRecDepth 100000 in
theorem llooks_any (o : Of) (s tt : ByteArray) (tp th : Int) (w : World) (ho : Of.At w o) : Calls Try.prog 4 #[o.v, .string s, .agg #[.string tt, .int .i64 tp, .int .i64 th]] w fun e w' => e = .returned (.bool true) ∧ Below w.heap.size w w' := by
  obtain ⟨L0, eL0⟩ : ∃ L, o.L = L := ⟨_, rfl⟩
  obtain ⟨M0, eM0⟩ : ∃ M, o.M = M := ⟨_, rfl⟩
  have hL0 := Lib.hid eL0
  have hM0 := Lib.hid eM0
  have HO := Lib.hid ho
  have om := ho.1.max
  obtain ⟨za, hza⟩ : ∃ V, getV L0 s tt tp th = V := ⟨_, rfl⟩
  obtain ⟨va, ba⟩ := za
  have Za := Lib.hid hza
  clear hza
  obtain ⟨zc, hzc⟩ : ∃ V, leastV L0 M0 tt tp th = V := ⟨_, rfl⟩
  obtain ⟨vc, bc⟩ := zc
  have Zc := Lib.hid hzc
  clear hzc
  obtain ⟨W0, hW0⟩ : ∃ W0, W0 = ((w.alloc (.cells #[.slice o.A o.n o.c, .slice o.A' o.n' o.c'] 25)).alloc (.cells #[.string tt, .int .i64 tp, .int .i64 th] 27)) := ⟨_, rfl⟩
  have bw : Below w.heap.size w W0 := by rw [hW0]; exact Below.alloc (below_alloc1 w _) (by simp <;> omega) _
  have B0 := Lib.hid bw
  have So0 := Lib.hid (show Has W0 (w.heap.size) #[.slice o.A o.n o.c, .slice o.A' o.n' o.c'] from by rw [hW0]; exact (Has.newAt w _ 25 rfl).alloc _)
  have cSo0 := So0.out.cell
  have lSo0 := So0.out.lt
  have St0 := Lib.hid (show Has W0 (w.heap.size + 1) #[.string tt, .int .i64 tp, .int .i64 th] from by rw [hW0]; exact Has.newAt _ _ 27 (by simp))
  have cSt0 := St0.out.cell
  have lSt0 := St0.out.lt
  have O0 := Lib.hid (Of.At.past (show Of.At w o ∧ o.L = L0 ∧ o.M = M0 from ⟨ho, eL0, eM0⟩) bw)
  have LV := Lib.hid live_any
  have FW := Lib.hid few_any
  have FP := Lib.hid fewP_any
  have HW0 := Lib.hid hW0
  clear bw hW0 ho eL0 eM0
  try unfold Ps.v
  go_enter Try.func4, Try.ntmps4
  go_wp2_with fail
  rw [← HW0.out]
  refine (LV.out _).mono ?_
  intro e w1 hx
  obtain ⟨rfl, hb⟩ := hx
  have B1 := Lib.hid (below_from hb B0.out B0.out.size)
  have So1 := Lib.hid (So0.out.past hb)
  have cSo1 := So1.out.cell
  have lSo1 := So1.out.lt
  have St1 := Lib.hid (St0.out.past hb)
  have cSt1 := St1.out.cell
  have lSt1 := St1.out.lt
  have O1 := Lib.hid (Of.At.past O0.out hb)
  clear cSo0 lSo0 cSt0 lSt0 hb
  go_wp2_with fail
  refine (FW.out o _).mono ?_
  intro e w2 hx
  obtain ⟨rfl, hb⟩ := hx
  have B2 := Lib.hid (below_from hb B1.out B1.out.size)
  have So2 := Lib.hid (So1.out.past hb)
  have cSo2 := So2.out.cell
  have lSo2 := So2.out.lt
  have St2 := Lib.hid (St1.out.past hb)
  have cSt2 := St2.out.cell
  have lSt2 := St2.out.lt
  have O2 := Lib.hid (Of.At.past O1.out hb)
  clear cSo1 lSo1 cSt1 lSt1 hb
  obtain ⟨bf1, hbf1⟩ : ∃ b, fewO o = b := ⟨_, rfl⟩
  rw [hbf1]
  have HF1 := Lib.hid hbf1
  clear hbf1
  cases bf1 with
  | false =>
    go_wp2_with fail
    go_ret
    exact ⟨rfl, B2.out⟩
  | true => ?_
  go_wp2_with fail
  have fl := of_few3 HF1.out
  have LL0 := Lib.hid (show L0.length ≤ 60000 ∧ M0.length ≤ 60000 from ⟨by rw [← hL0.out, HO.out.1.len]; omega, by rw [← hM0.out, HO.out.2.len]; omega⟩)
  clear fl
  refine (get_at O2.out Za.out).mono ?_
  intro e w3 hx
  obtain ⟨rfl, hb⟩ := hx
  have B3 := Lib.hid (below_from hb B2.out B2.out.size)
  have So3 := Lib.hid (So2.out.past hb)
  have cSo3 := So3.out.cell
  have lSo3 := So3.out.lt
  have St3 := Lib.hid (St2.out.past hb)
  have cSt3 := St3.out.cell
  have lSt3 := St3.out.lt
  have O3 := Lib.hid (Of.At.past O2.out hb)
  clear cSo2 lSo2 cSt2 lSt2 hb
  go_wp2_with fail
  refine (rget_at O3.out Za.out).mono ?_
  intro e w4 hx
  obtain ⟨rfl, hb⟩ := hx
  have B4 := Lib.hid (below_from hb B3.out B3.out.size)
  have So4 := Lib.hid (So3.out.past hb)
  have cSo4 := So4.out.cell
  have lSo4 := So4.out.lt
  have St4 := Lib.hid (St3.out.past hb)
  have cSt4 := St4.out.cell
  have lSt4 := St4.out.lt
  have O4 := Lib.hid (Of.At.past O3.out hb)
  clear cSo3 lSo3 cSt3 lSt3 hb
  go_wp2_with fail
  refine (least_at O4.out LL0.out.1 LL0.out.2 Zc.out).mono ?_
  intro e w5 hx
  obtain ⟨rfl, hb⟩ := hx
  have B5 := Lib.hid (below_from hb B4.out B4.out.size)
  have So5 := Lib.hid (So4.out.past hb)
  have cSo5 := So5.out.cell
  have lSo5 := So5.out.lt
  have St5 := Lib.hid (St4.out.past hb)
  have cSt5 := St5.out.cell
  have lSt5 := St5.out.lt
  have O5 := Lib.hid (Of.At.past O4.out hb)
  clear cSo4 lSo4 cSt4 lSt4 hb
  go_wp2_with fail
  refine (rleast_at O5.out Zc.out).mono ?_
  intro e w6 hx
  obtain ⟨rfl, hb⟩ := hx
  have B6 := Lib.hid (below_from hb B5.out B5.out.size)
  have So6 := Lib.hid (So5.out.past hb)
  have cSo6 := So6.out.cell
  have lSo6 := So6.out.lt
  have St6 := Lib.hid (St5.out.past hb)
  have cSt6 := St6.out.cell
  have lSt6 := St6.out.lt
  have O6 := Lib.hid (Of.At.past O5.out hb)
  clear cSo5 lSo5 cSt5 lSt5 hb
  go_wp2_with fail
  go_ret
  exact ⟨ret_bool (by first | rfl | simp), B6.out⟩

end Go.Proofs.Ytnkjkgakbgjddaa
