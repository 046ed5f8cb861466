/- What a producer says: its cells; whether it is short; how often something stands in a list. -/
import Derived.Test.YtnigjchgpmladaaAt
import Derived.Laws.StructEq
import Derived.Deep.DeepCutAuto
namespace Go.Proofs.Ytnigjchgpmladaa
open Go.RowKit Go.Shelf

structure Av where
  id : ByteArray
  pid : Int
  gen : Int
  tp : Tp
  g : ByteArray
  yes : Bool
  now : Int
def Av.cells (a : Av) : List Value := [.string a.id, .int .i64 a.pid, .int .i64 a.gen, .string a.tp.t, .int .i64 a.tp.p, .int .i64 a.tp.h, .string a.g, .bool a.yes, .int .i64 a.now]
abbrev Av.row (a : Av) : Array Value := #[.string a.id, .int .i64 a.pid, .int .i64 a.gen, .string a.tp.t, .int .i64 a.tp.p, .int .i64 a.tp.h, .string a.g, .bool a.yes, .int .i64 a.now]
abbrev Av.v (a : Av) : Value := .agg #[.string a.id, .int .i64 a.pid, .int .i64 a.gen, .string a.tp.t, .int .i64 a.tp.p, .int .i64 a.tp.h, .string a.g, .bool a.yes, .int .i64 a.now]
structure Av.wf (a : Av) : Prop where
  id : a.id.size ≤ maxLen
  tp : a.tp.wf
  g : a.g.size ≤ maxLen
def shortB (a : Av) : Bool := decide (a.id.size ≤ 300) && decide (a.g.size ≤ 300) && decide (a.tp.t.size ≤ 300)

set_option maxRecDepth 100000 in
set_option maxHeartbeats 4000000 in
theorem short_any (a : Av) (w : World) : Calls Try.prog 27 #[a.v] w fun e w' => e = .returned (.bool (shortB a)) ∧ Below w.heap.size w w' := by
  have B0 := Lib.hid (below_alloc1 w (.cells #[.string a.id, .int .i64 a.pid, .int .i64 a.gen, .string a.tp.t, .int .i64 a.tp.p, .int .i64 a.tp.h, .string a.g, .bool a.yes, .int .i64 a.now] 47))
  by_cases h1 : a.id.size ≤ 300
  · have d1 : decide ((a.id.size : Int) ≤ 300) = true := decide_eq_true (by omega)
    have d1' : decide (a.id.size ≤ 300) = true := decide_eq_true h1
    by_cases h2 : a.g.size ≤ 300
    · have d2 : decide ((a.g.size : Int) ≤ 300) = true := decide_eq_true (by omega)
      have d2' : decide (a.g.size ≤ 300) = true := decide_eq_true h2
      obtain ⟨q, hq⟩ : ∃ q, decide (a.tp.t.size ≤ 300) = q := ⟨_, rfl⟩
      have d3 : decide ((a.tp.t.size : Int) ≤ 300) = q := by rw [← hq, decide_eq_decide]; omega
      have R := Lib.hid (show shortB a = q from by unfold shortB; rw [d1', d2', hq]; rfl)
      clear h1 h2
      go_enter Try.func27, Try.ntmps27
      go_wp2_with fail
      go_ret
      exact ⟨ret_bool (by rw [R.out]), B0.out⟩
    · have d2 : decide ((a.g.size : Int) ≤ 300) = false := decide_eq_false (by omega)
      have d2' : decide (a.g.size ≤ 300) = false := decide_eq_false h2
      have R := Lib.hid (show shortB a = false from by unfold shortB; rw [d1', d2']; rfl)
      clear h1 h2
      go_enter Try.func27, Try.ntmps27
      go_wp2_with fail
      go_ret
      exact ⟨ret_bool (by rw [R.out]), B0.out⟩
  · have d1 : decide ((a.id.size : Int) ≤ 300) = false := decide_eq_false (by omega)
    have d1' : decide (a.id.size ≤ 300) = false := decide_eq_false h1
    have R := Lib.hid (show shortB a = false from by unfold shortB; rw [d1']; rfl)
    clear h1
    go_enter Try.func27, Try.ntmps27
    go_wp2_with fail
    go_ret
    exact ⟨ret_bool (by rw [R.out]), B0.out⟩

end Go.Proofs.Ytnigjchgpmladaa
