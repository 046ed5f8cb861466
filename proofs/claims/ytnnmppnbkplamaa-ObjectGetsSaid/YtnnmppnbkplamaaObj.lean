/- What a store holds: objects and faults: their cells. -/
import Derived.Test.YtnnmppnbkplamaaKnd
namespace Go.Proofs.Ytnnmppnbkplamaa
open Go.RowKit

/-- An object: its name, and its bytes: where they lie, how many, how much room, and what they are. -/
structure Ob where
  name : ByteArray
  A : Option Addr
  n : Nat
  c : Nat
  bs : List UInt8
def Ob.cells (h : Ob) : List Value := [.string h.name, .slice h.A h.n h.c]
structure Ob.In (w : World) (h : Ob) : Prop where
  sl : Sl u8K w h.A h.n h.c h.bs
  max : h.n ≤ 140737488355328
  nm : h.name.size ≤ maxLen
theorem Ob.In.below {w w' : World} {s : Ob} (h : Ob.In w s) (hb : Below w.heap.size w w') : Ob.In w' s := ⟨h.sl.below hb, h.max, h.nm⟩
def obK : RK Ob := ⟨2, by decide, Ob.cells, fun _ => rfl, fun _ v h => by simp [Ob.cells] at h; rcases h with rfl | rfl <;> rfl, Ob.In, fun h hb => h.below hb⟩
abbrev Obs (w : World) (A : Option Addr) (n c : Nat) (l : List Ob) : Prop := Sl obK w A n c l
theorem Obs.at_ {w : World} {A : Option Addr} {n c k : Nat} {l : List Ob} (i : Obs w A n c l) (hk : k < n) :
    ∃ b off, ∃ hl : k < l.length, A = some ⟨b, off, none⟩ ∧ b < w.heap.size ∧ w.cell? ⟨b, off + k * 2, none⟩ = some (.string l[k].name) ∧ w.cell? ⟨b, off + k * 2 + 1, none⟩ = some (.slice l[k].A l[k].n l[k].c) := by
  obtain ⟨b, off, hl, rfl, hlt, hc⟩ := i.get hk
  exact ⟨b, off, hl, rfl, hlt, hc 0 (by decide), hc 1 (by decide)⟩
/-- A fault: the call that it strikes, and its kind. -/
structure Ft where
  call : Int
  kind : Int
deriving DecidableEq
def Ft.cells (h : Ft) : List Value := [.int .i64 h.call, .int .i64 h.kind]
def Ft.wf (h : Ft) : Prop := (Lit.int .i64 h.call).wf = true ∧ (Lit.int .i64 h.kind).wf = true
def ftK : RK Ft := ⟨2, by decide, Ft.cells, fun _ => rfl, fun _ v h => by simp [Ft.cells] at h; rcases h with rfl | rfl <;> rfl, fun _ h => h.wf, fun h _ => h⟩
abbrev Fts (w : World) (A : Option Addr) (n c : Nat) (l : List Ft) : Prop := Sl ftK w A n c l
theorem Fts.at_ {w : World} {A : Option Addr} {n c k : Nat} {l : List Ft} (i : Fts w A n c l) (hk : k < n) :
    ∃ b off, ∃ hl : k < l.length, A = some ⟨b, off, none⟩ ∧ b < w.heap.size ∧ w.cell? ⟨b, off + k * 2, none⟩ = some (.int .i64 l[k].call) ∧ w.cell? ⟨b, off + k * 2 + 1, none⟩ = some (.int .i64 l[k].kind) := by
  obtain ⟨b, off, hl, rfl, hlt, hc⟩ := i.get hk
  exact ⟨b, off, hl, rfl, hlt, hc 0 (by decide), hc 1 (by decide)⟩

/-- What an object is, its places aside. -/
structure Oc where
  name : ByteArray
  bs : List UInt8
deriving DecidableEq
def Ob.val (h : Ob) : Oc := ⟨h.name, h.bs⟩

end Go.Proofs.Ytnnmppnbkplamaa
