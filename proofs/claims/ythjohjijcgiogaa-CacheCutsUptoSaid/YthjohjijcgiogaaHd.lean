/- A chunk of a cache: its cells, and its bytes. -/
import Derived.Test.YthjohjijcgiogaaKnd
namespace Go.Proofs.Ythjohjijcgiogaa
open Go.RowKit

/-- A chunk: its name, its number, and its bytes: where they lie, how many, how much room, and what they are. -/
structure Hd where
  name : ByteArray
  no : Int
  A : Option Addr
  n : Nat
  c : Nat
  bs : List UInt8
def Hd.cells (h : Hd) : List Value := [.string h.name, .int .i64 h.no, .slice h.A h.n h.c]
/-- The bytes of a chunk lie there. -/
structure Hd.In (w : World) (h : Hd) : Prop where
  sl : Sl u8K w h.A h.n h.c h.bs
  max : h.n ≤ 140737488355328
  nm : h.name.size ≤ maxLen
  wf : (Lit.int .i64 h.no).wf = true
def hdK : RK Hd := ⟨3, by decide, Hd.cells, fun _ => rfl, fun _ v h => by simp [Hd.cells] at h; rcases h with rfl | rfl | rfl <;> rfl, Hd.In, fun h hb => ⟨h.sl.below hb, h.max, h.nm, h.wf⟩⟩
abbrev Hds (w : World) (A : Option Addr) (n c : Nat) (l : List Hd) : Prop := Sl hdK w A n c l

/-- The three cells of the k-th chunk. -/
theorem Hds.at_ {w : World} {A : Option Addr} {n c k : Nat} {l : List Hd} (i : Hds w A n c l) (hk : k < n) :
    ∃ b off, ∃ hl : k < l.length, A = some ⟨b, off, none⟩ ∧ b < w.heap.size ∧ w.cell? ⟨b, off + k * 3, none⟩ = some (.string l[k].name) ∧ w.cell? ⟨b, off + k * 3 + 1, none⟩ = some (.int .i64 l[k].no) ∧
      w.cell? ⟨b, off + k * 3 + 2, none⟩ = some (.slice l[k].A l[k].n l[k].c) := by
  obtain ⟨b, off, hl, rfl, hlt, hc⟩ := i.get hk
  exact ⟨b, off, hl, rfl, hlt, hc 0 (by decide), hc 1 (by decide), hc 2 (by decide)⟩

/-- What a chunk is, its places aside. -/
structure Ch where
  name : ByteArray
  no : Int
  bs : List UInt8
deriving DecidableEq
def Hd.val (h : Hd) : Ch := ⟨h.name, h.no, h.bs⟩

/-- How many bytes chunks have. -/
def total (l : List Hd) : Nat := (l.map (·.n)).sum
theorem total_snoc (l : List Hd) (k : Nat) (hk : k < l.length) : total (l.take (k + 1)) = total (l.take k) + l[k].n := by
  unfold total
  rw [List.take_succ_eq_append_getElem hk, List.map_append, List.sum_append]
  simp
theorem total_le (l : List Hd) (m : Nat) (h : ∀ x ∈ l, x.n ≤ m) : total l ≤ l.length * m := by
  unfold total
  induction l with
  | nil => simp
  | cons a l ih =>
    have := ih (fun x hx => h x (List.mem_cons_of_mem _ hx))
    have := h a (List.mem_cons_self ..)
    simp [Nat.succ_mul] at *
    omega
/-- .. of what chunks are. -/
def sz (L : List Ch) : Nat := (L.map (·.bs.length)).sum
theorem total_sz {w : World} {l : List Hd} (h : ∀ x ∈ l, Hd.In w x) : total l = sz (l.map Hd.val) := by
  unfold total sz
  rw [List.map_map]
  congr 1
  exact List.map_congr_left fun x hx => (h x hx).sl.len.symm

end Go.Proofs.Ythjohjijcgiogaa
