/- Bytes lie apart from boxes and rows of other things; of no function. -/
import Derived.Test.YtmlgahambecamaaRes
import Derived.Test.YtmlgahambecamaaRset
namespace Go.Proofs.Ytmlgahambecamaa
open Go.RowKit

theorem bytes_apart {w w' : World} {g : Nat} {A : Option Addr} {n c : Nat} {bs : List UInt8} (h : Sl u8K w A n c bs) (hg : w.grownBy w' (some g)) (hno : ∀ i x, w.cell? ⟨g, i, none⟩ ≠ some (byteV x)) : Sl u8K w' A n c bs := by
  refine ⟨h.len, h.cap, h.max, h.adr, fun hne => ?_, fun _ _ => trivial⟩
  obtain ⟨b, off, rfl, hlt, hc⟩ := h.row hne
  have hb : b ≠ g := fun e => by
    subst e
    cases bs with
    | nil => exact hne rfl
    | cons x l =>
      have := hc 0 (by simp [u8K])
      exact hno off x (by simpa [u8K] using this)
  exact ⟨b, off, rfl, Nat.lt_of_lt_of_le hlt hg.size, fun j hj => (World.cell?_of_block (a := ⟨b, off + j, none⟩) (hg.block b hlt (fun e => hb (by injection e)))).trans (hc j hj)⟩
/-- A box that holds no byte. -/
theorem Has.nobyte {w : World} {g : Nat} {cs : Array Value} (h : Has w g cs) (hno : ∀ v ∈ cs.toList, ∀ x, v ≠ byteV x) : ∀ i x, w.cell? ⟨g, i, none⟩ ≠ some (byteV x) := fun i x e => by
  rw [h.cell i] at e
  have hm : byteV x ∈ cs.toList := by
    obtain ⟨hl, e⟩ := Array.getElem?_eq_some_iff.1 e
    rw [← e]
    exact Array.getElem_mem_toList hl
  exact hno _ hm x rfl
theorem mg_apart {w w' : World} {g : Nat} {cs : Array Value} {x : Mg} (h : Has w g cs) (hno : ∀ v ∈ cs.toList, ∀ x, v ≠ byteV x) (hg : w.grownBy w' (some g)) (hx : Mg.In w x) : Mg.In w' x := bytes_apart hx hg (h.nobyte hno)
theorem net_nobyte (a b : Int) (A0 A1 A2 A3 : Option Addr) (n0 n1 n2 n3 c0 c1 c2 c3 : Nat) : ∀ v ∈ (#[.int .i64 a, .int .i64 b, .slice A0 n0 c0, .slice A1 n1 c1, .slice A2 n2 c2, .slice A3 n3 c3] : Array Value).toList, ∀ x, v ≠ byteV x := fun v hv x => by
  simp at hv
  rcases hv with rfl | rfl | rfl | rfl | rfl | rfl <;> simp [byteV]

end Go.Proofs.Ytmlgahambecamaa
