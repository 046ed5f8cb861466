/- Positions, and those that wait: their cells. -/
import Derived.Test.YtnkjkgakbgjddaaKnd
namespace Go.Proofs.Ytnkjkgakbgjddaa
open Go.RowKit

/-- A position: its group, topic, part, home and offset. -/
structure Ps where
  g : ByteArray
  t : ByteArray
  p : Int
  h : Int
  o : Int
deriving DecidableEq
def Ps.cells (x : Ps) : List Value := [.string x.g, .string x.t, .int .i64 x.p, .int .i64 x.h, .int .i64 x.o]
def Ps.wf (x : Ps) : Prop := x.g.size ≤ maxLen ∧ x.t.size ≤ maxLen ∧ (Lit.int .i64 x.p).wf = true ∧ (Lit.int .i64 x.h).wf = true ∧ (Lit.int .i64 x.o).wf = true
def psK : RK Ps := ⟨5, by decide, Ps.cells, fun _ => rfl, fun _ v h => by simp [Ps.cells] at h; rcases h with rfl | rfl | rfl | rfl | rfl <;> rfl, fun _ h => h.wf, fun h _ => h⟩
abbrev Pss (w : World) (A : Option Addr) (n c : Nat) (l : List Ps) : Prop := Sl psK w A n c l
theorem Pss.at_ {w : World} {A : Option Addr} {n c k : Nat} {l : List Ps} (i : Pss w A n c l) (hk : k < n) :
    ∃ b off, ∃ hl : k < l.length, A = some ⟨b, off, none⟩ ∧ b < w.heap.size ∧ w.cell? ⟨b, off + k * 5, none⟩ = some (.string l[k].g) ∧ w.cell? ⟨b, off + k * 5 + 1, none⟩ = some (.string l[k].t) ∧
      w.cell? ⟨b, off + k * 5 + 2, none⟩ = some (.int .i64 l[k].p) ∧ w.cell? ⟨b, off + k * 5 + 3, none⟩ = some (.int .i64 l[k].h) ∧ w.cell? ⟨b, off + k * 5 + 4, none⟩ = some (.int .i64 l[k].o) := by
  obtain ⟨b, off, hl, rfl, hlt, hc⟩ := i.get hk
  exact ⟨b, off, hl, rfl, hlt, hc 0 (by decide), hc 1 (by decide), hc 2 (by decide), hc 3 (by decide), hc 4 (by decide)⟩
/-- One that waits: whom it waits for, and its position. -/
structure Wt where
  pid : Int
  pos : Ps
deriving DecidableEq
def Wt.cells (x : Wt) : List Value := .int .i64 x.pid :: x.pos.cells
def Wt.wf (x : Wt) : Prop := (Lit.int .i64 x.pid).wf = true ∧ x.pos.wf
def wtK : RK Wt := ⟨6, by decide, Wt.cells, fun _ => rfl, fun _ v h => by simp [Wt.cells, Ps.cells] at h; rcases h with rfl | rfl | rfl | rfl | rfl | rfl <;> rfl, fun _ h => h.wf, fun h _ => h⟩
abbrev Wts (w : World) (A : Option Addr) (n c : Nat) (l : List Wt) : Prop := Sl wtK w A n c l
theorem Wts.at_ {w : World} {A : Option Addr} {n c k : Nat} {l : List Wt} (i : Wts w A n c l) (hk : k < n) :
    ∃ b off, ∃ hl : k < l.length, A = some ⟨b, off, none⟩ ∧ b < w.heap.size ∧ w.cell? ⟨b, off + k * 6, none⟩ = some (.int .i64 l[k].pid) ∧ w.cell? ⟨b, off + k * 6 + 1, none⟩ = some (.string l[k].pos.g) ∧ w.cell? ⟨b, off + k * 6 + 2, none⟩ = some (.string l[k].pos.t) ∧
      w.cell? ⟨b, off + k * 6 + 3, none⟩ = some (.int .i64 l[k].pos.p) ∧ w.cell? ⟨b, off + k * 6 + 4, none⟩ = some (.int .i64 l[k].pos.h) ∧ w.cell? ⟨b, off + k * 6 + 5, none⟩ = some (.int .i64 l[k].pos.o) := by
  obtain ⟨b, off, hl, rfl, hlt, hc⟩ := i.get hk
  exact ⟨b, off, hl, rfl, hlt, hc 0 (by decide), hc 1 (by decide), hc 2 (by decide), hc 3 (by decide), hc 4 (by decide), hc 5 (by decide)⟩

end Go.Proofs.Ytnkjkgakbgjddaa
