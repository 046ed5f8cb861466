/- Steps: their cells. -/
import Derived.Test.YtnigjchgpmladaaAv
namespace Go.Proofs.Ytnigjchgpmladaa
open Go.RowKit

structure Dv where
  kind : Int
  own : Bool
  a : Av
def Dv.cells (d : Dv) : List Value := [.int .i64 d.kind, .bool d.own, .string d.a.id, .int .i64 d.a.pid, .int .i64 d.a.gen, .string d.a.tp.t, .int .i64 d.a.tp.p, .int .i64 d.a.tp.h, .string d.a.g, .bool d.a.yes, .int .i64 d.a.now]
abbrev Dv.row (d : Dv) : Array Value := #[.int .i64 d.kind, .bool d.own, .string d.a.id, .int .i64 d.a.pid, .int .i64 d.a.gen, .string d.a.tp.t, .int .i64 d.a.tp.p, .int .i64 d.a.tp.h, .string d.a.g, .bool d.a.yes, .int .i64 d.a.now]
abbrev Dv.v (d : Dv) : Value := .agg #[.int .i64 d.kind, .bool d.own, .string d.a.id, .int .i64 d.a.pid, .int .i64 d.a.gen, .string d.a.tp.t, .int .i64 d.a.tp.p, .int .i64 d.a.tp.h, .string d.a.g, .bool d.a.yes, .int .i64 d.a.now]
def dvK : RK Dv := ⟨11, by decide, Dv.cells, fun _ => rfl, fun _ v h => by simp [Dv.cells] at h; rcases h with rfl | rfl | rfl | rfl | rfl | rfl | rfl | rfl | rfl | rfl | rfl <;> rfl, fun _ d => d.a.wf, fun h _ => h⟩
theorem dv_at {w : World} {A : Option Addr} {n c k : Nat} {l : List Dv} (i : Sl dvK w A n c l) (hk : k < n) :
    ∃ b off, ∃ hl : k < l.length, A = some ⟨b, off, none⟩ ∧ b < w.heap.size ∧ w.cell? ⟨b, off + k * 11, none⟩ = some (.int .i64 l[k].kind) ∧ w.cell? ⟨b, off + k * 11 + 1, none⟩ = some (.bool l[k].own) ∧ w.cell? ⟨b, off + k * 11 + 2, none⟩ = some (.string l[k].a.id) ∧
      w.cell? ⟨b, off + k * 11 + 3, none⟩ = some (.int .i64 l[k].a.pid) ∧ w.cell? ⟨b, off + k * 11 + 4, none⟩ = some (.int .i64 l[k].a.gen) ∧ w.cell? ⟨b, off + k * 11 + 5, none⟩ = some (.string l[k].a.tp.t) ∧ w.cell? ⟨b, off + k * 11 + 6, none⟩ = some (.int .i64 l[k].a.tp.p) ∧
      w.cell? ⟨b, off + k * 11 + 7, none⟩ = some (.int .i64 l[k].a.tp.h) ∧ w.cell? ⟨b, off + k * 11 + 8, none⟩ = some (.string l[k].a.g) ∧ w.cell? ⟨b, off + k * 11 + 9, none⟩ = some (.bool l[k].a.yes) ∧ w.cell? ⟨b, off + k * 11 + 10, none⟩ = some (.int .i64 l[k].a.now) := by
  obtain ⟨b, off, hl, rfl, hlt, hc⟩ := i.get hk
  exact ⟨b, off, hl, rfl, hlt, hc 0 (by decide), hc 1 (by decide), hc 2 (by decide), hc 3 (by decide), hc 4 (by decide), hc 5 (by decide), hc 6 (by decide), hc 7 (by decide), hc 8 (by decide), hc 9 (by decide), hc 10 (by decide)⟩

end Go.Proofs.Ytnigjchgpmladaa
