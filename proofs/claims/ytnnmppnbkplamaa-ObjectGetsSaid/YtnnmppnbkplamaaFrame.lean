/- What each law's row of layer 14 shares: stores, texts, numbers and bytes that come in, opened. -/
import Derived.Test.YtnnmppnbkplamaaOpn
import Derived.Test.YtnnmppnbkplamaaBegin
namespace Go.Proofs.Ytnnmppnbkplamaa
open Go.ChangeShapes Go.WideShapes Go.ChangeAt Go.RowKit

theorem Try.own : ownKnob Try.prog.godebug = none := by kernel_rfl
theorem Try.laidOut : laidOutB Try.prog = true := by kernel_rfl

section
variable {H : Type} {enc : TypeId × Value → H}

theorem opens_ob : Opens enc Try.prog obK 59 := by
  intro w base spare held fuel cs d ps h hw
  obtain ⟨hlen, n, hf⟩ := open_field Try.underlying59 h hw
  have hl : cs.length = 2 := hlen.trans (by kernel_rfl)
  match cs, hl with
  | [a, b], _ =>
    have c9 : Try.prog.cellsOf 9 = 1 := by kernel_rfl
    have c26 : Try.prog.cellsOf 26 = 1 := by kernel_rfl
    have c5 : Try.prog.cellsOf 5 = 1 := by kernel_rfl
    have b5 : Try.prog.bytesOf 5 = 1 := by kernel_rfl
    obtain ⟨d0, p0, g0, w0⟩ := hf 0 _ rfl
    obtain ⟨d1, p1, g1, w1⟩ := hf 1 _ rfl
    replace g0 : DataW.trod enc Try.prog w base spare held n 9 (List.take (Try.prog.cellsOf 9) [a, b]) = some (d0, p0) := g0
    replace g1 : DataW.trod enc Try.prog w base spare held n 26 (List.take (Try.prog.cellsOf 26) [b]) = some (d1, p1) := g1
    rw [c9] at g0
    rw [c26] at g1
    obtain ⟨name, k0, _, hs⟩ := DataW.trod_string Try.underlying9 g0
    obtain ⟨A, m, c', bs, rfl, hsl, hm⟩ := opens_slice (opens_u8 Try.underlying5) Try.underlying26 c5 g1 w1
    rw [b5] at hm
    simp at k0
    exact ⟨⟨name, A, m, c', bs⟩, by rw [k0]; rfl, hsl, by show m ≤ _; simp only [reachBytes] at hm; omega, hs⟩
theorem opens_ft : Opens enc Try.prog ftK 48 := by
  intro w base spare held fuel cs d ps h hw
  obtain ⟨hlen, n, hf⟩ := open_field Try.underlying48 h hw
  have hl : cs.length = 2 := hlen.trans (by kernel_rfl)
  match cs, hl with
  | [a, b], _ =>
    have c3 : Try.prog.cellsOf 3 = 1 := by kernel_rfl
    obtain ⟨d0, p0, g0, w0⟩ := hf 0 _ rfl
    obtain ⟨d1, p1, g1, w1⟩ := hf 1 _ rfl
    replace g0 : DataW.trod enc Try.prog w base spare held n 3 (List.take (Try.prog.cellsOf 3) [a, b]) = some (d0, p0) := g0
    replace g1 : DataW.trod enc Try.prog w base spare held n 3 (List.take (Try.prog.cellsOf 3) [b]) = some (d1, p1) := g1
    rw [c3] at g0 g1
    obtain ⟨x, k0, _, h0⟩ := DataW.trod_int Try.underlying3 g0
    obtain ⟨y, k1, _, h1⟩ := DataW.trod_int Try.underlying3 g1
    simp at k0 k1
    exact ⟨⟨x, y⟩, by rw [k0, k1]; rfl, h0, h1⟩

variable {w : World} {base : Nat} {spare : Nat → Bool} {held : Bool} {r : Reach} {b0 : Nat} {v : Value} {d : DataW H} {p : List MemPlace}

/-- A store that came in. -/
theorem open_store (hv : Value.okWide Try.prog w r b0 25 v) (h : DataW.Trod enc Try.prog w base spare held 25 v d p) (hw : ∀ n ∈ d.weights Try.prog 25, n ≤ reachBytes) :
    ∃ (A : Option Addr) (n c : Nat) (l : List Ob) (calls : Int) (A' : Option Addr) (n' c' : Nat) (fs : List Ft), v = stV A n c calls A' n' c' ∧ Obs w A n c l ∧ Fts w A' n' c' fs ∧ (Lit.int .i64 calls).wf = true := by
  obtain ⟨cs, rfl, hsz⟩ := okWide_struct Try.underlying25 hv
  obtain ⟨fuel, hf⟩ := h
  obtain ⟨hlen, n, hf⟩ := open_field Try.underlying25 hf hw
  have hl : cs.toList.length = 3 := by rw [Array.length_toList, hsz]; kernel_rfl
  obtain ⟨cl⟩ := cs
  simp only [Value.cells] at hf hl
  match cl, hl with
  | [a, b, c], _ =>
    have c3 : Try.prog.cellsOf 3 = 1 := by kernel_rfl
    have c22 : Try.prog.cellsOf 22 = 1 := by kernel_rfl
    have c23 : Try.prog.cellsOf 23 = 1 := by kernel_rfl
    have c59 : Try.prog.cellsOf 59 = 2 := by kernel_rfl
    have c48 : Try.prog.cellsOf 48 = 2 := by kernel_rfl
    obtain ⟨d0, p0, g0, w0⟩ := hf 0 _ rfl
    obtain ⟨d1, p1, g1, w1⟩ := hf 1 _ rfl
    obtain ⟨d2, p2, g2, w2⟩ := hf 2 _ rfl
    replace g0 : DataW.trod enc Try.prog w base spare held n 22 (List.take (Try.prog.cellsOf 22) [a, b, c]) = some (d0, p0) := g0
    replace g1 : DataW.trod enc Try.prog w base spare held n 3 (List.take (Try.prog.cellsOf 3) [b, c]) = some (d1, p1) := g1
    replace g2 : DataW.trod enc Try.prog w base spare held n 23 (List.take (Try.prog.cellsOf 23) [c]) = some (d2, p2) := g2
    rw [c22] at g0
    rw [c3] at g1
    rw [c23] at g2
    obtain ⟨A, m, k, l, rfl, hsl, hm⟩ := opens_slice opens_ob Try.underlying22 c59 g0 w0
    obtain ⟨calls, k1, _, hc⟩ := DataW.trod_int Try.underlying3 g1
    obtain ⟨A', m', k', fs, rfl, hsl', hm'⟩ := opens_slice opens_ft Try.underlying23 c48 g2 w2
    simp at k1
    exact ⟨A, m, k, l, calls, A', m', k', fs, by rw [k1], hsl, hsl', hc⟩
/-- A number that came in. -/
theorem open_num (hv : Value.okWide Try.prog w r b0 3 v) (h : DataW.Trod enc Try.prog w base spare held 3 v d p) : ∃ n : Int, v = .int .i64 n ∧ (Lit.int .i64 n).wf = true := by
  obtain ⟨n, rfl, _, _, wn⟩ := open_int Try.underlying3 hv h
  exact ⟨n, rfl, wn⟩
/-- A text that came in. -/
theorem open_text (hv : Value.okWide Try.prog w r b0 9 v) (h : DataW.Trod enc Try.prog w base spare held 9 v d p) : ∃ s : ByteArray, v = .string s ∧ s.size ≤ maxLen := by
  obtain ⟨s, rfl⟩ := okWide_string Try.underlying9 hv
  obtain ⟨fuel, hf⟩ := h
  obtain ⟨s', e, _, hs⟩ := DataW.trod_string Try.underlying9 hf
  simp [Value.cells] at e
  subst e
  exact ⟨s, rfl, hs⟩
/-- Bytes that came in. -/
theorem open_bytes (hv : Value.okWide Try.prog w r b0 26 v) (h : DataW.Trod enc Try.prog w base spare held 26 v d p) (hw : ∀ n ∈ d.weights Try.prog 26, n ≤ reachBytes) : ∃ A n c bs, v = .slice A n c ∧ Sl u8K w A n c bs ∧ n ≤ 140737488355328 := by
  obtain ⟨A, n, c, rfl⟩ := okWide_slice Try.underlying26 hv
  obtain ⟨fuel, hf⟩ := h
  have c5 : Try.prog.cellsOf 5 = 1 := by kernel_rfl
  have b5 : Try.prog.bytesOf 5 = 1 := by kernel_rfl
  obtain ⟨A', n', c', l, e, hsl, hm⟩ := opens_slice (opens_u8 Try.underlying5) Try.underlying26 c5 hf hw
  injection e with e1 e2 e3
  subst e1 e2 e3
  rw [b5] at hm
  exact ⟨A, n, c, l, rfl, hsl, by simp only [reachBytes] at hm; omega⟩
end

end Go.Proofs.Ytnnmppnbkplamaa
