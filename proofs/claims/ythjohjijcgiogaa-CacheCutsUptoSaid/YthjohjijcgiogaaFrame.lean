/- What each law's row of layer 16 shares: caches, texts, numbers and bytes that come in, opened. -/
import Derived.Test.YthjohjijcgiogaaOpn
import Derived.Test.YthjohjijcgiogaaHd
namespace Go.Proofs.Ythjohjijcgiogaa
open Go.ChangeShapes Go.WideShapes Go.ChangeAt Go.RowKit

theorem Try.own : ownKnob Try.prog.godebug = none := by kernel_rfl
theorem Try.laidOut : laidOutB Try.prog = true := by kernel_rfl

section
variable {H : Type} {enc : TypeId × Value → H}

theorem opens_hd : Opens enc Try.prog hdK 37 := by
  intro w base spare held fuel cs d ps h hw
  obtain ⟨hlen, n, hf⟩ := open_field Try.underlying37 h hw
  have hl : cs.length = 3 := hlen.trans (by kernel_rfl)
  match cs, hl with
  | [a, b, c], _ =>
    have c9 : Try.prog.cellsOf 9 = 1 := by kernel_rfl
    have c3 : Try.prog.cellsOf 3 = 1 := by kernel_rfl
    have c34 : Try.prog.cellsOf 34 = 1 := by kernel_rfl
    have c5 : Try.prog.cellsOf 5 = 1 := by kernel_rfl
    have b5 : Try.prog.bytesOf 5 = 1 := by kernel_rfl
    obtain ⟨d0, p0, g0, w0⟩ := hf 0 _ rfl
    obtain ⟨d1, p1, g1, w1⟩ := hf 1 _ rfl
    obtain ⟨d2, p2, g2, w2⟩ := hf 2 _ rfl
    replace g0 : DataW.trod enc Try.prog w base spare held n 9 (List.take (Try.prog.cellsOf 9) [a, b, c]) = some (d0, p0) := g0
    replace g1 : DataW.trod enc Try.prog w base spare held n 3 (List.take (Try.prog.cellsOf 3) [b, c]) = some (d1, p1) := g1
    replace g2 : DataW.trod enc Try.prog w base spare held n 34 (List.take (Try.prog.cellsOf 34) [c]) = some (d2, p2) := g2
    rw [c9] at g0
    rw [c3] at g1
    rw [c34] at g2
    obtain ⟨name, k0, _, hs⟩ := DataW.trod_string Try.underlying9 g0
    obtain ⟨no, k1, _, hno⟩ := DataW.trod_int Try.underlying3 g1
    obtain ⟨A, m, c', bs, rfl, hsl, hm⟩ := opens_slice (opens_u8 Try.underlying5) Try.underlying34 c5 g2 w2
    rw [b5] at hm
    simp at k0 k1
    exact ⟨⟨name, no, A, m, c', bs⟩, by rw [k0, k1]; rfl, hsl, by show m ≤ _; simp only [reachBytes] at hm; omega, hs, hno⟩

variable {w : World} {base : Nat} {spare : Nat → Bool} {held : Bool} {r : Reach} {b0 : Nat} {v : Value} {d : DataW H} {p : List MemPlace}

/-- A cache that came in. -/
theorem open_cache (hv : Value.okWide Try.prog w r b0 24 v) (h : DataW.Trod enc Try.prog w base spare held 24 v d p) (hw : ∀ n ∈ d.weights Try.prog 24, n ≤ reachBytes) :
    ∃ (cap : Int) (A : Option Addr) (n c : Nat) (l : List Hd), v = .agg #[.int .i64 cap, .slice A n c] ∧ Hds w A n c l ∧ (Lit.int .i64 cap).wf = true := by
  obtain ⟨cs, rfl, hsz⟩ := okWide_struct Try.underlying24 hv
  obtain ⟨fuel, hf⟩ := h
  obtain ⟨hlen, n, hf⟩ := open_field Try.underlying24 hf hw
  have hl : cs.toList.length = 2 := by rw [Array.length_toList, hsz]; kernel_rfl
  obtain ⟨cl⟩ := cs
  simp only [Value.cells] at hf hl
  match cl, hl with
  | [a, b], _ =>
    have c3 : Try.prog.cellsOf 3 = 1 := by kernel_rfl
    have c22 : Try.prog.cellsOf 22 = 1 := by kernel_rfl
    have c37 : Try.prog.cellsOf 37 = 3 := by kernel_rfl
    obtain ⟨d0, p0, g0, w0⟩ := hf 0 _ rfl
    obtain ⟨d1, p1, g1, w1⟩ := hf 1 _ rfl
    replace g0 : DataW.trod enc Try.prog w base spare held n 3 (List.take (Try.prog.cellsOf 3) [a, b]) = some (d0, p0) := g0
    replace g1 : DataW.trod enc Try.prog w base spare held n 22 (List.take (Try.prog.cellsOf 22) [b]) = some (d1, p1) := g1
    rw [c3] at g0
    rw [c22] at g1
    obtain ⟨cap, k0, _, hno⟩ := DataW.trod_int Try.underlying3 g0
    obtain ⟨A, m, c', l, rfl, hsl, hm⟩ := opens_slice opens_hd Try.underlying22 c37 g1 w1
    simp at k0
    exact ⟨cap, A, m, c', l, by rw [k0], hsl, hno⟩
/-- A number that came in. -/
theorem open_num (hv : Value.okWide Try.prog w r b0 3 v) (h : DataW.Trod enc Try.prog w base spare held 3 v d p) : ∃ n : Int, v = .int .i64 n ∧ (Lit.int .i64 n).wf = true := by
  obtain ⟨n, rfl, _, _, wn⟩ := open_int Try.underlying3 hv h
  exact ⟨n, rfl, wn⟩
/-- A text that came in. -/
theorem open_text (hv : Value.okWide Try.prog w r b0 9 v) (h : DataW.Trod enc Try.prog w base spare held 9 v d p) : ∃ s : ByteArray, v = .string s ∧ s.size ≤ maxLen := by
  obtain ⟨s, rfl⟩ := okWide_string Try.underlying9 hv
  obtain ⟨fuel, hf⟩ := h
  obtain ⟨s', e, _, hs⟩ := DataW.trod_string Try.underlying9 hf
  simp [Value.cells] at e
  subst e
  exact ⟨s, rfl, hs⟩
/-- Bytes that came in. -/
theorem open_bytes (hv : Value.okWide Try.prog w r b0 34 v) (h : DataW.Trod enc Try.prog w base spare held 34 v d p) (hw : ∀ n ∈ d.weights Try.prog 34, n ≤ reachBytes) : ∃ A n c bs, v = .slice A n c ∧ Sl u8K w A n c bs ∧ n ≤ 140737488355328 := by
  obtain ⟨A, n, c, rfl⟩ := okWide_slice Try.underlying34 hv
  obtain ⟨fuel, hf⟩ := h
  have c5 : Try.prog.cellsOf 5 = 1 := by kernel_rfl
  have b5 : Try.prog.bytesOf 5 = 1 := by kernel_rfl
  obtain ⟨A', n', c', l, e, hsl, hm⟩ := opens_slice (opens_u8 Try.underlying5) Try.underlying34 c5 hf hw
  injection e with e1 e2 e3
  subst e1 e2 e3
  rw [b5] at hm
  exact ⟨A, n, c, l, rfl, hsl, by simp only [reachBytes] at hm; omega⟩
end

end Go.Proofs.Ythjohjijcgiogaa
