/- A slice literal of one value of many cells, as a step of a walk; of no function. -/
import Derived.Test.YtmlgahambecamaaSlc
import Derived.Great.BuildSlice
namespace Go.Proofs.Ytmlgahambecamaa
open Go.RowKit

theorem wpList_build1 {P : Program} {ops : Array Oper} {rest : List Oper} {o : Oper} {a : Act} (w : World) {Q : Exit → Act → World → Prop} (hg : o.guard = none) (t e : TypeId) (x : Operand) (ho : o.op = .buildSlice t 1 #[(0, x)])
    (i : TypeInfo) (z : Value) (hu : P.underlying t = some (.slice e)) (hi : P.info? e = some i) (hz : i.zero = some z) (cs : Array Value) (hx : a.eval x = .agg cs) (s : Nat) (hs : i.size = s) (hsz : cs.size = s) (h0 : 0 < s) (hm : s ≤ 1000) (d : Option Tmp) (hd : o.dst = d) (g : Nat) (hgs : w.heap.size = g)
    (h : wpList P ops Q rest (a.put d (.slice (some ⟨g, 0, none⟩) 1 1)) (w.alloc (.cells cs e))) : wpList P ops Q (o :: rest) a w := by
  subst hd hgs
  refine wpList_buildSlice hg t e 1 #[(0, x)] ho cs i z hu hi hz (by rw [hs]; omega) (by rw [hs]; omega) ?_ h
  have := Great.fill_whole (s := s) h0 [.agg cs] ((Array.range (1 * i.size)).map (z.cells[· % z.cells.size]!)) (fun v hv => by obtain rfl := List.mem_singleton.1 hv; exact hsz) (by simp [hs])
  rw [hs] at this ⊢
  have e : ((#[(0, x)] : Array (Nat × Operand)).map fun (i, x) => (i, a.eval x)).toList = [(0, .agg cs)] := by simp [hx]
  rw [e]
  simpa [Value.cells] using this

end Go.Proofs.Ytmlgahambecamaa
