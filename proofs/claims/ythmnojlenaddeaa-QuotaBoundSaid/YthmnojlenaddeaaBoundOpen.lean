/- What QuotaBound's row needs beside Frame: a slice of numbers that came in, by its cells. -/
import Derived.Test.YthmnojlenaddeaaFrame
import Derived.OpenShut
namespace Go.Proofs.Ythmnojlenaddeaa
open Go.ChangeShapes Go.WideShapes Go.ChangeAt Go.RowKit

theorem open_nums {H : Type} {enc : TypeId × Value → H} {w : World} {base : Nat} {spare : Nat → Bool} {held : Bool} {r : Reach} {b0 : Nat} {v : Value} {d : DataW H} {p : List MemPlace}
    (hv : Value.okWide Try.prog w r b0 37 v) (h : DataW.Trod enc Try.prog w base spare held 37 v d p) :
    ∃ (A : Option Addr) (n c : Nat) (zs : List Int), v = .slice A n c ∧ ∀ j, j < n → ∃ b off, A = some ⟨b, off, none⟩ ∧ b < w.heap.size ∧ w.cell? ⟨b, off + j, none⟩ = some (.int .i64 (zs.getD j 0)) := by
  obtain ⟨A, n, c, rfl⟩ := okWide_slice Try.underlying37 hv
  obtain ⟨fuel, hf⟩ := h
  rcases open_ints Try.underlying37 Try.underlying3 (by kernel_rfl) hf with ⟨h0, _⟩ | ⟨a, len, cap, zs, h0, _, hl, _, hlen, _, hc, _⟩
  · simp [Value.cells] at h0
    obtain ⟨rfl, rfl, rfl⟩ := h0
    exact ⟨none, 0, 0, [], rfl, fun j hj => by omega⟩
  · simp [Value.cells] at h0
    obtain ⟨rfl, rfl, rfl⟩ := h0
    have hle : n ≤ zs.length := by rw [hlen]; split <;> omega
    refine ⟨some a, n, c, zs, rfl, fun j hj => ?_⟩
    obtain ⟨b, off, rfl, hx⟩ := ints_at (w := w) hc (by omega)
    exact ⟨b, off, rfl, World.block_lt_of_cell? w ⟨b, off + j, none⟩ (hx j (by omega)), hx j (by omega)⟩

end Go.Proofs.Ythmnojlenaddeaa
