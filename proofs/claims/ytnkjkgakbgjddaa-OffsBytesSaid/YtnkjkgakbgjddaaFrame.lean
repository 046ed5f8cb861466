/- What each law's row of layer 24 shares: positions, texts, numbers and bytes that come in, opened. -/
import Derived.Test.YtnkjkgakbgjddaaOpn
import Derived.Test.YtnkjkgakbgjddaaChg
namespace Go.Proofs.Ytnkjkgakbgjddaa
open Go.ChangeShapes Go.WideShapes Go.ChangeAt Go.RowKit

theorem Try.own : ownKnob Try.prog.godebug = none := by kernel_rfl
theorem Try.laidOut : laidOutB Try.prog = true := by kernel_rfl
theorem c3 : Try.prog.cellsOf 3 = 1 := by kernel_rfl
theorem c9 : Try.prog.cellsOf 9 = 1 := by kernel_rfl
theorem c27 : Try.prog.cellsOf 27 = 3 := by kernel_rfl
theorem c29 : Try.prog.cellsOf 29 = 5 := by kernel_rfl
theorem c52 : Try.prog.cellsOf 52 = 6 := by kernel_rfl
theorem c22 : Try.prog.cellsOf 22 = 1 := by kernel_rfl
theorem c23 : Try.prog.cellsOf 23 = 1 := by kernel_rfl

section
variable {H : Type} {enc : TypeId × Value → H}

set_option maxRecDepth 100000 in
theorem tp_open {w : World} {base : Nat} {spare : Nat → Bool} {held : Bool} {fuel : Nat} {cs : List Value} {d : DataW H} {ps : List MemPlace} (h : DataW.trod enc Try.prog w base spare held fuel 27 cs = some (d, ps)) (hw : ∀ n ∈ d.weights Try.prog 27, n ≤ reachBytes) :
    ∃ (t : ByteArray) (p k : Int), cs = [.string t, .int .i64 p, .int .i64 k] ∧ t.size ≤ maxLen ∧ (Lit.int .i64 p).wf = true ∧ (Lit.int .i64 k).wf = true := by
  obtain ⟨hlen, n, hf⟩ := open_field Try.underlying27 h hw
  have hl : cs.length = 3 := hlen.trans c27
  match cs, hl with
  | [a, b, c], _ =>
    obtain ⟨d0, p0, g0, w0⟩ := hf 0 _ rfl
    obtain ⟨d1, p1, g1, w1⟩ := hf 1 _ rfl
    obtain ⟨d2, p2, g2, w2⟩ := hf 2 _ rfl
    replace g0 : DataW.trod enc Try.prog w base spare held n 9 (List.take (Try.prog.cellsOf 9) [a, b, c]) = some (d0, p0) := g0
    replace g1 : DataW.trod enc Try.prog w base spare held n 3 (List.take (Try.prog.cellsOf 3) [b, c]) = some (d1, p1) := g1
    replace g2 : DataW.trod enc Try.prog w base spare held n 3 (List.take (Try.prog.cellsOf 3) [c]) = some (d2, p2) := g2
    rw [c9] at g0
    rw [c3] at g1 g2
    obtain ⟨t, k0, _, hs⟩ := DataW.trod_string Try.underlying9 g0
    obtain ⟨x, k1, _, h1⟩ := DataW.trod_int Try.underlying3 g1
    obtain ⟨y, k2, _, h2⟩ := DataW.trod_int Try.underlying3 g2
    simp at k0 k1 k2
    exact ⟨t, x, y, by rw [k0, k1, k2], hs, h1, h2⟩
set_option maxRecDepth 100000 in
theorem opens_ps : Opens enc Try.prog psK 29 := by
  intro w base spare held fuel cs d ps h hw
  obtain ⟨hlen, n, hf⟩ := open_field Try.underlying29 h hw
  have hl : cs.length = 5 := hlen.trans c29
  match cs, hl with
  | [a, b, c, e, f], _ =>
    obtain ⟨d0, p0, g0, w0⟩ := hf 0 _ rfl
    obtain ⟨d1, p1, g1, w1⟩ := hf 1 _ rfl
    obtain ⟨d2, p2, g2, w2⟩ := hf 2 _ rfl
    replace g0 : DataW.trod enc Try.prog w base spare held n 9 (List.take (Try.prog.cellsOf 9) [a, b, c, e, f]) = some (d0, p0) := g0
    replace g1 : DataW.trod enc Try.prog w base spare held n 27 (List.take (Try.prog.cellsOf 27) [b, c, e, f]) = some (d1, p1) := g1
    replace g2 : DataW.trod enc Try.prog w base spare held n 3 (List.take (Try.prog.cellsOf 3) [f]) = some (d2, p2) := g2
    rw [c9] at g0
    rw [c27] at g1
    rw [c3] at g2
    obtain ⟨s, k0, _, hs⟩ := DataW.trod_string Try.underlying9 g0
    obtain ⟨t, x, y, k1, ht, hx, hy⟩ := tp_open g1 w1
    obtain ⟨z, k2, _, h2⟩ := DataW.trod_int Try.underlying3 g2
    simp at k0 k1 k2
    obtain ⟨k1, k3, k4⟩ := k1
    exact ⟨⟨s, t, x, y, z⟩, by rw [k0, k1, k2, k3, k4]; rfl, hs, ht, hx, hy, h2⟩
set_option maxRecDepth 100000 in
theorem opens_wt : Opens enc Try.prog wtK 52 := by
  intro w base spare held fuel cs d ps h hw
  obtain ⟨hlen, n, hf⟩ := open_field Try.underlying52 h hw
  have hl : cs.length = 6 := hlen.trans c52
  match cs, hl with
  | [q, a, b, c, e, f], _ =>
    obtain ⟨d0, p0, g0, w0⟩ := hf 0 _ rfl
    obtain ⟨d1, p1, g1, w1⟩ := hf 1 _ rfl
    replace g0 : DataW.trod enc Try.prog w base spare held n 3 (List.take (Try.prog.cellsOf 3) [q, a, b, c, e, f]) = some (d0, p0) := g0
    replace g1 : DataW.trod enc Try.prog w base spare held n 29 (List.take (Try.prog.cellsOf 29) [a, b, c, e, f]) = some (d1, p1) := g1
    rw [c3] at g0
    rw [c29] at g1
    obtain ⟨s, k0, _, hs⟩ := DataW.trod_int Try.underlying3 g0
    obtain ⟨x, k1, hx⟩ := opens_ps w base spare held n _ d1 p1 g1 w1
    simp at k0
    have k1 : [a, b, c, e, f] = psK.cells x := k1
    exact ⟨⟨s, x⟩, by rw [k0]; show _ = Value.int .i64 s :: x.cells; rw [show x.cells = psK.cells x from rfl, ← k1], hs, hx⟩

variable {w : World} {base : Nat} {spare : Nat → Bool} {held : Bool} {r : Reach} {b0 : Nat} {v : Value} {d : DataW H} {p : List MemPlace}

set_option maxRecDepth 100000 in
/-- Positions with those that wait, that came in. -/
theorem open_offs (hv : Value.okWide Try.prog w r b0 25 v) (h : DataW.Trod enc Try.prog w base spare held 25 v d p) (hw : ∀ n ∈ d.weights Try.prog 25, n ≤ reachBytes) : ∃ o : Of, v = o.v ∧ Of.At w o := by
  obtain ⟨cs, rfl, hsz⟩ := okWide_struct Try.underlying25 hv
  obtain ⟨fuel, hf⟩ := h
  obtain ⟨hlen, n, hf⟩ := open_field Try.underlying25 hf hw
  have hl : cs.toList.length = 2 := by rw [Array.length_toList, hsz]; kernel_rfl
  obtain ⟨cl⟩ := cs
  simp only [Value.cells] at hf hl
  match cl, hl with
  | [a, b], _ =>
    obtain ⟨d0, p0, g0, w0⟩ := hf 0 _ rfl
    obtain ⟨d1, p1, g1, w1⟩ := hf 1 _ rfl
    replace g0 : DataW.trod enc Try.prog w base spare held n 22 (List.take (Try.prog.cellsOf 22) [a, b]) = some (d0, p0) := g0
    replace g1 : DataW.trod enc Try.prog w base spare held n 23 (List.take (Try.prog.cellsOf 23) [b]) = some (d1, p1) := g1
    rw [c22] at g0
    rw [c23] at g1
    obtain ⟨A, m, k, l, rfl, hsl, hm⟩ := opens_slice opens_ps Try.underlying22 c29 g0 w0
    obtain ⟨A', m', k', l', rfl, hsl', hm'⟩ := opens_slice opens_wt Try.underlying23 c52 g1 w1
    exact ⟨⟨A, m, k, l, A', m', k', l'⟩, rfl, hsl, hsl'⟩
set_option maxRecDepth 100000 in
/-- A position that came in. -/
theorem open_pos (hv : Value.okWide Try.prog w r b0 29 v) (h : DataW.Trod enc Try.prog w base spare held 29 v d p) (hw : ∀ n ∈ d.weights Try.prog 29, n ≤ reachBytes) : ∃ x : Ps, v = x.v ∧ x.wf := by
  obtain ⟨cs, rfl, hsz⟩ := okWide_struct Try.underlying29 hv
  obtain ⟨fuel, hf⟩ := h
  obtain ⟨x, hx, hin⟩ := opens_ps w base spare held fuel _ d p hf hw
  refine ⟨x, ?_, hin⟩
  simp only [Value.cells] at hx
  obtain ⟨cl⟩ := cs
  simp only at hx
  subst hx
  rfl
set_option maxRecDepth 100000 in
/-- A partition that came in. -/
theorem open_tp (hv : Value.okWide Try.prog w r b0 27 v) (h : DataW.Trod enc Try.prog w base spare held 27 v d p) (hw : ∀ n ∈ d.weights Try.prog 27, n ≤ reachBytes) : ∃ (t : ByteArray) (q k : Int), v = .agg #[.string t, .int .i64 q, .int .i64 k] := by
  obtain ⟨cs, rfl, hsz⟩ := okWide_struct Try.underlying27 hv
  obtain ⟨fuel, hf⟩ := h
  obtain ⟨t, q, k, hx, _⟩ := tp_open hf hw
  refine ⟨t, q, k, ?_⟩
  simp only [Value.cells] at hx
  obtain ⟨cl⟩ := cs
  simp only at hx
  subst hx
  rfl
set_option maxRecDepth 100000 in
/-- Some positions that came in. -/
theorem open_list (hv : Value.okWide Try.prog w r b0 22 v) (h : DataW.Trod enc Try.prog w base spare held 22 v d p) (hw : ∀ n ∈ d.weights Try.prog 22, n ≤ reachBytes) : ∃ A n c l, v = .slice A n c ∧ Sl psK w A n c l := by
  obtain ⟨A, n, c, rfl⟩ := okWide_slice Try.underlying22 hv
  obtain ⟨fuel, hf⟩ := h
  obtain ⟨A', n', c', l, e, hsl, hm⟩ := opens_slice opens_ps Try.underlying22 c29 hf hw
  injection e with e1 e2 e3
  subst e1 e2 e3
  exact ⟨A, n, c, l, rfl, hsl⟩
set_option maxRecDepth 100000 in
/-- A number that came in. -/
theorem open_num (hv : Value.okWide Try.prog w r b0 3 v) (h : DataW.Trod enc Try.prog w base spare held 3 v d p) : ∃ n : Int, v = .int .i64 n ∧ (Lit.int .i64 n).wf = true := by
  obtain ⟨n, rfl, _, _, wn⟩ := open_int Try.underlying3 hv h
  exact ⟨n, rfl, wn⟩
set_option maxRecDepth 100000 in
/-- A yes or no that came in. -/
theorem open_yes (hv : Value.okWide Try.prog w r b0 4 v) : ∃ b : Bool, v = .bool b := okWide_bool Try.underlying4 hv
set_option maxRecDepth 100000 in
/-- A text that came in. -/
theorem open_text (hv : Value.okWide Try.prog w r b0 9 v) (h : DataW.Trod enc Try.prog w base spare held 9 v d p) : ∃ s : ByteArray, v = .string s ∧ s.size ≤ maxLen := by
  obtain ⟨s, rfl⟩ := okWide_string Try.underlying9 hv
  obtain ⟨fuel, hf⟩ := h
  obtain ⟨s', e, _, hs⟩ := DataW.trod_string Try.underlying9 hf
  simp [Value.cells] at e
  subst e
  exact ⟨s, rfl, hs⟩
set_option maxRecDepth 100000 in
/-- Bytes that came in. -/
theorem open_bytes (hv : Value.okWide Try.prog w r b0 45 v) (h : DataW.Trod enc Try.prog w base spare held 45 v d p) (hw : ∀ n ∈ d.weights Try.prog 45, n ≤ reachBytes) : ∃ A n c bs, v = .slice A n c ∧ Sl u8K w A n c bs := by
  obtain ⟨A, n, c, rfl⟩ := okWide_slice Try.underlying45 hv
  obtain ⟨fuel, hf⟩ := h
  have c5 : Try.prog.cellsOf 5 = 1 := by kernel_rfl
  obtain ⟨A', n', c', l, e, hsl, hm⟩ := opens_slice (opens_u8 Try.underlying5) Try.underlying45 c5 hf hw
  injection e with e1 e2 e3
  subst e1 e2 e3
  exact ⟨A, n, c, l, rfl, hsl⟩
end

end Go.Proofs.Ytnkjkgakbgjddaa
