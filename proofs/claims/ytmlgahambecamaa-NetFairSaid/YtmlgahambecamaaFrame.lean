/- What each law's row of layer 30 shares: nets, slips, numbers and bytes that come in, opened. -/
import Derived.Test.YtmlgahambecamaaOpn
import Derived.Test.YtmlgahambecamaaNt
import Derived.OpenShut
import Derived.Carry
namespace Go.Proofs.Ytmlgahambecamaa
open Go.ChangeShapes Go.WideShapes Go.ChangeAt Go.RowKit

theorem Try.own : ownKnob Try.prog.godebug = none := by kernel_rfl
theorem Try.laidOut : laidOutB Try.prog = true := by kernel_rfl
theorem c3 : Try.prog.cellsOf 3 = 1 := by kernel_rfl
theorem c5 : Try.prog.cellsOf 5 = 1 := by kernel_rfl
theorem c22 : Try.prog.cellsOf 22 = 1 := by kernel_rfl
theorem c23 : Try.prog.cellsOf 23 = 1 := by kernel_rfl
theorem c24 : Try.prog.cellsOf 24 = 1 := by kernel_rfl
theorem c25 : Try.prog.cellsOf 25 = 1 := by kernel_rfl
theorem c27 : Try.prog.cellsOf 27 = 6 := by kernel_rfl
theorem c36 : Try.prog.cellsOf 36 = 1 := by kernel_rfl
theorem c40 : Try.prog.cellsOf 40 = 5 := by kernel_rfl
theorem c54 : Try.prog.cellsOf 54 = 3 := by kernel_rfl
theorem c63 : Try.prog.cellsOf 63 = 2 := by kernel_rfl

section
variable {H : Type} {enc : TypeId × Value → H}

set_option maxRecDepth 100000 in
theorem opens_mg : Opens enc Try.prog mgK 40 := by
  intro w base spare held fuel cs d ps h hw
  obtain ⟨hlen, n, hf⟩ := open_field Try.underlying40 h hw
  have hl : cs.length = 5 := hlen.trans c40
  match cs, hl with
  | [a, b, c, e, f], _ =>
    obtain ⟨d0, p0, g0, w0⟩ := hf 0 _ rfl
    obtain ⟨d1, p1, g1, w1⟩ := hf 1 _ rfl
    obtain ⟨d2, p2, g2, w2⟩ := hf 2 _ rfl
    obtain ⟨d3, p3, g3, w3⟩ := hf 3 _ rfl
    obtain ⟨d4, p4, g4, w4⟩ := hf 4 _ rfl
    replace g0 : DataW.trod enc Try.prog w base spare held n 3 (List.take (Try.prog.cellsOf 3) [a, b, c, e, f]) = some (d0, p0) := g0
    rw [c3] at g0
    replace g1 : DataW.trod enc Try.prog w base spare held n 3 (List.take (Try.prog.cellsOf 3) [b, c, e, f]) = some (d1, p1) := g1
    rw [c3] at g1
    replace g2 : DataW.trod enc Try.prog w base spare held n 3 (List.take (Try.prog.cellsOf 3) [c, e, f]) = some (d2, p2) := g2
    rw [c3] at g2
    replace g3 : DataW.trod enc Try.prog w base spare held n 3 (List.take (Try.prog.cellsOf 3) [e, f]) = some (d3, p3) := g3
    rw [c3] at g3
    replace g4 : DataW.trod enc Try.prog w base spare held n 36 (List.take (Try.prog.cellsOf 36) [f]) = some (d4, p4) := g4
    rw [c36] at g4
    obtain ⟨x0, k0, _, h0⟩ := DataW.trod_int Try.underlying3 g0
    simp at k0
    obtain ⟨x1, k1, _, h1⟩ := DataW.trod_int Try.underlying3 g1
    simp at k1
    obtain ⟨x2, k2, _, h2⟩ := DataW.trod_int Try.underlying3 g2
    simp at k2
    obtain ⟨x3, k3, _, h3⟩ := DataW.trod_int Try.underlying3 g3
    simp at k3
    obtain ⟨A, m, k, l, k4, hsl, _⟩ := opens_slice (opens_u8 Try.underlying5) Try.underlying36 c5 g4 w4
    exact ⟨⟨x0, x1, x2, x3, A, m, k, l⟩, by rw [k0, k1, k2, k3, k4]; rfl, hsl⟩
set_option maxRecDepth 100000 in
theorem opens_sp : Opens enc Try.prog spK 54 := by
  intro w base spare held fuel cs d ps h hw
  obtain ⟨hlen, n, hf⟩ := open_field Try.underlying54 h hw
  have hl : cs.length = 3 := hlen.trans c54
  match cs, hl with
  | [a, b, c], _ =>
    obtain ⟨d0, p0, g0, w0⟩ := hf 0 _ rfl
    obtain ⟨d1, p1, g1, w1⟩ := hf 1 _ rfl
    obtain ⟨d2, p2, g2, w2⟩ := hf 2 _ rfl
    replace g0 : DataW.trod enc Try.prog w base spare held n 3 (List.take (Try.prog.cellsOf 3) [a, b, c]) = some (d0, p0) := g0
    rw [c3] at g0
    replace g1 : DataW.trod enc Try.prog w base spare held n 3 (List.take (Try.prog.cellsOf 3) [b, c]) = some (d1, p1) := g1
    rw [c3] at g1
    replace g2 : DataW.trod enc Try.prog w base spare held n 3 (List.take (Try.prog.cellsOf 3) [c]) = some (d2, p2) := g2
    rw [c3] at g2
    obtain ⟨x0, k0, _, h0⟩ := DataW.trod_int Try.underlying3 g0
    simp at k0
    obtain ⟨x1, k1, _, h1⟩ := DataW.trod_int Try.underlying3 g1
    simp at k1
    obtain ⟨x2, k2, _, h2⟩ := DataW.trod_int Try.underlying3 g2
    simp at k2
    exact ⟨⟨x0, x1, x2⟩, by rw [k0, k1, k2]; rfl, h0, h1, h2⟩
set_option maxRecDepth 100000 in
theorem opens_pr : Opens enc Try.prog prK 63 := by
  intro w base spare held fuel cs d ps h hw
  obtain ⟨xs, n, _, hx, hlen, hxl, hf⟩ := DataW.trod_array Try.underlying63 h
  have hl : cs.length = 2 := hlen.trans c63
  match cs, hl, xs, hxl with
  | [a, b], _, [x, y], _ =>
    have g0 := hf 0 (by decide)
    have g1 := hf 1 (by decide)
    rw [c3] at g0 g1
    replace g0 : DataW.trod enc Try.prog w base spare held n 3 [a] = some x := g0
    replace g1 : DataW.trod enc Try.prog w base spare held n 3 [b] = some y := g1
    obtain ⟨u, k0, _, h0⟩ := DataW.trod_int Try.underlying3 g0
    obtain ⟨v, k1, _, h1⟩ := DataW.trod_int Try.underlying3 g1
    simp at k0 k1
    exact ⟨⟨u, v⟩, by rw [k0, k1]; rfl, h0, h1⟩

variable {w : World} {base : Nat} {spare : Nat → Bool} {held : Bool} {r : Reach} {b0 : Nat} {v : Value} {d : DataW H} {p : List MemPlace}

set_option maxRecDepth 100000 in
/-- A net that came in. -/
theorem open_net (hv : Value.okWide Try.prog w r b0 27 v) (h : DataW.Trod enc Try.prog w base spare held 27 v d p) (hw : ∀ n ∈ d.weights Try.prog 27, n ≤ reachBytes) : ∃ o : Nt, v = o.v ∧ Nt.At w o := by
  obtain ⟨cs, rfl, hsz⟩ := okWide_struct Try.underlying27 hv
  obtain ⟨fuel, h⟩ := h
  obtain ⟨cl⟩ := cs
  simp only [Value.cells] at h
  have key : ∀ (cs : List Value), DataW.trod enc Try.prog w base spare held fuel 27 cs = some (d, p) → ∃ o : Nt, cs = o.c.toList ∧ Nt.At w o := by
    intro cs h
    obtain ⟨hlen, n, hf⟩ := open_field Try.underlying27 h hw
    have hl : cs.length = 6 := hlen.trans c27
    match cs, hl with
    | [a, b, c, e, f, g], _ =>
      obtain ⟨d0, p0, g0, w0⟩ := hf 0 _ rfl
      obtain ⟨d1, p1, g1, w1⟩ := hf 1 _ rfl
      obtain ⟨d2, p2, g2, w2⟩ := hf 2 _ rfl
      obtain ⟨d3, p3, g3, w3⟩ := hf 3 _ rfl
      obtain ⟨d4, p4, g4, w4⟩ := hf 4 _ rfl
      obtain ⟨d5, p5, g5, w5⟩ := hf 5 _ rfl
      replace g0 : DataW.trod enc Try.prog w base spare held n 3 (List.take (Try.prog.cellsOf 3) [a, b, c, e, f, g]) = some (d0, p0) := g0
      rw [c3] at g0
      replace g1 : DataW.trod enc Try.prog w base spare held n 3 (List.take (Try.prog.cellsOf 3) [b, c, e, f, g]) = some (d1, p1) := g1
      rw [c3] at g1
      replace g2 : DataW.trod enc Try.prog w base spare held n 22 (List.take (Try.prog.cellsOf 22) [c, e, f, g]) = some (d2, p2) := g2
      rw [c22] at g2
      replace g3 : DataW.trod enc Try.prog w base spare held n 23 (List.take (Try.prog.cellsOf 23) [e, f, g]) = some (d3, p3) := g3
      rw [c23] at g3
      replace g4 : DataW.trod enc Try.prog w base spare held n 24 (List.take (Try.prog.cellsOf 24) [f, g]) = some (d4, p4) := g4
      rw [c24] at g4
      replace g5 : DataW.trod enc Try.prog w base spare held n 25 (List.take (Try.prog.cellsOf 25) [g]) = some (d5, p5) := g5
      rw [c25] at g5
      obtain ⟨x0, k0, _, h0⟩ := DataW.trod_int Try.underlying3 g0
      simp at k0
      obtain ⟨x1, k1, _, h1⟩ := DataW.trod_int Try.underlying3 g1
      simp at k1
      obtain ⟨A2, m2, k2, l2, e2, s2, _⟩ := opens_slice opens_mg Try.underlying22 c40 g2 w2
      obtain ⟨A3, m3, k3, l3, e3, s3, _⟩ := opens_slice opens_sp Try.underlying23 c54 g3 w3
      obtain ⟨A4, m4, k4, l4, e4, s4, _⟩ := opens_slice opens_pr Try.underlying24 c63 g4 w4
      obtain ⟨A5, m5, k5, l5, e5, s5, _⟩ := opens_slice (opens_int Try.underlying3) Try.underlying25 c3 g5 w5
      exact ⟨⟨x0, x1, A2, m2, k2, l2, A3, m3, k3, l3, A4, m4, k4, l4, A5, m5, k5, l5⟩, by rw [k0, k1, e2, e3, e4, e5], ⟨s2, s3, s4, s5⟩⟩
  obtain ⟨o, e, ho⟩ := key _ h
  refine ⟨o, ?_, ho⟩
  simp only at e
  subst e
  rfl
set_option maxRecDepth 100000 in
/-- A number that came in. -/
theorem open_num (hv : Value.okWide Try.prog w r b0 3 v) (h : DataW.Trod enc Try.prog w base spare held 3 v d p) : ∃ n : Int, v = .int .i64 n ∧ (Lit.int .i64 n).wf = true := by
  obtain ⟨n, rfl, _, _, wn⟩ := open_int Try.underlying3 hv h
  exact ⟨n, rfl, wn⟩
set_option maxRecDepth 100000 in
/-- Slips that came in. -/
theorem open_slips (hv : Value.okWide Try.prog w r b0 23 v) (h : DataW.Trod enc Try.prog w base spare held 23 v d p) (hw : ∀ n ∈ d.weights Try.prog 23, n ≤ reachBytes) : ∃ A n c l, v = .slice A n c ∧ Sl spK w A n c l := by
  obtain ⟨A, n, c, rfl⟩ := okWide_slice Try.underlying23 hv
  obtain ⟨fuel, hf⟩ := h
  obtain ⟨A', n', c', l, e, hsl, hm⟩ := opens_slice opens_sp Try.underlying23 c54 hf hw
  injection e with e1 e2 e3
  subst e1 e2 e3
  exact ⟨A, n, c, l, rfl, hsl⟩
set_option maxRecDepth 100000 in
/-- Numbers that came in. -/
theorem open_skew (hv : Value.okWide Try.prog w r b0 25 v) (h : DataW.Trod enc Try.prog w base spare held 25 v d p) (hw : ∀ n ∈ d.weights Try.prog 25, n ≤ reachBytes) : ∃ A n c l, v = .slice A n c ∧ Sl intK w A n c l := by
  obtain ⟨A, n, c, rfl⟩ := okWide_slice Try.underlying25 hv
  obtain ⟨fuel, hf⟩ := h
  obtain ⟨A', n', c', l, e, hsl, hm⟩ := opens_slice (opens_int Try.underlying3) Try.underlying25 c3 hf hw
  injection e with e1 e2 e3
  subst e1 e2 e3
  exact ⟨A, n, c, l, rfl, hsl⟩
set_option maxRecDepth 100000 in
/-- Bytes that came in. -/
theorem open_bytes (hv : Value.okWide Try.prog w r b0 36 v) (h : DataW.Trod enc Try.prog w base spare held 36 v d p) (hw : ∀ n ∈ d.weights Try.prog 36, n ≤ reachBytes) : ∃ A n c l, v = .slice A n c ∧ Sl u8K w A n c l := by
  obtain ⟨A, n, c, rfl⟩ := okWide_slice Try.underlying36 hv
  obtain ⟨fuel, hf⟩ := h
  obtain ⟨A', n', c', l, e, hsl, hm⟩ := opens_slice (opens_u8 Try.underlying5) Try.underlying36 c5 hf hw
  injection e with e1 e2 e3
  subst e1 e2 e3
  exact ⟨A, n, c, l, rfl, hsl⟩
end

theorem trodAll_five {H : Type} {enc : TypeId × Value → H} {P : Program} {w : World} {base : Nat} {spare : Nat → Bool} {held : Bool} {t t1 t2 t3 t4 : TypeId} {args : Array Value} {ds : List (DataW H)} {ps : List MemPlace} (h : DataW.TrodAll enc P w base spare held [t, t1, t2, t3, t4] args.toList ds ps) :
    ∃ v v1 v2 v3 v4 d d1 d2 d3 d4 p p1 p2 p3 p4, args = #[v, v1, v2, v3, v4] ∧ ds = [d, d1, d2, d3, d4] ∧ ps = p ++ p1 ++ p2 ++ p3 ++ p4 ∧ DataW.Trod enc P w base spare held t v d p ∧ DataW.Trod enc P w base spare held t1 v1 d1 p1 ∧ DataW.Trod enc P w base spare held t2 v2 d2 p2 ∧ DataW.Trod enc P w base spare held t3 v3 d3 p3 ∧ DataW.Trod enc P w base spare held t4 v4 d4 p4 := by
  obtain ⟨v, vs, d, ds', p, q, hargs, rfl, rfl, hd, hrest⟩ := trodAll_cons h
  obtain ⟨v1, vs1, d1, ds1', p1, q1, rfl, rfl, rfl, hd1, hrest1⟩ := trodAll_cons hrest
  obtain ⟨v2, vs2, d2, ds2', p2, q2, rfl, rfl, rfl, hd2, hrest2⟩ := trodAll_cons hrest1
  obtain ⟨v3, vs3, d3, ds3', p3, q3, rfl, rfl, rfl, hd3, hrest3⟩ := trodAll_cons hrest2
  obtain ⟨v4, vs4, d4, ds4', p4, q4, rfl, rfl, rfl, hd4, hrest4⟩ := trodAll_cons hrest3
  obtain ⟨rfl, rfl, rfl⟩ := trodAll_nil hrest4
  exact ⟨v, v1, v2, v3, v4, d, d1, d2, d3, d4, p, p1, p2, p3, p4, by cases args; simp_all, rfl, by simp, hd, hd1, hd2, hd3, hd4⟩

theorem trodAll_six {H : Type} {enc : TypeId × Value → H} {P : Program} {w : World} {base : Nat} {spare : Nat → Bool} {held : Bool} {t t1 t2 t3 t4 t5 : TypeId} {args : Array Value} {ds : List (DataW H)} {ps : List MemPlace} (h : DataW.TrodAll enc P w base spare held [t, t1, t2, t3, t4, t5] args.toList ds ps) :
    ∃ v v1 v2 v3 v4 v5 d d1 d2 d3 d4 d5 p p1 p2 p3 p4 p5, args = #[v, v1, v2, v3, v4, v5] ∧ ds = [d, d1, d2, d3, d4, d5] ∧ ps = p ++ p1 ++ p2 ++ p3 ++ p4 ++ p5 ∧ DataW.Trod enc P w base spare held t v d p ∧ DataW.Trod enc P w base spare held t1 v1 d1 p1 ∧ DataW.Trod enc P w base spare held t2 v2 d2 p2 ∧ DataW.Trod enc P w base spare held t3 v3 d3 p3 ∧ DataW.Trod enc P w base spare held t4 v4 d4 p4 ∧ DataW.Trod enc P w base spare held t5 v5 d5 p5 := by
  obtain ⟨v, vs, d, ds', p, q, hargs, rfl, rfl, hd, hrest⟩ := trodAll_cons h
  obtain ⟨v1, vs1, d1, ds1', p1, q1, rfl, rfl, rfl, hd1, hrest1⟩ := trodAll_cons hrest
  obtain ⟨v2, vs2, d2, ds2', p2, q2, rfl, rfl, rfl, hd2, hrest2⟩ := trodAll_cons hrest1
  obtain ⟨v3, vs3, d3, ds3', p3, q3, rfl, rfl, rfl, hd3, hrest3⟩ := trodAll_cons hrest2
  obtain ⟨v4, vs4, d4, ds4', p4, q4, rfl, rfl, rfl, hd4, hrest4⟩ := trodAll_cons hrest3
  obtain ⟨v5, vs5, d5, ds5', p5, q5, rfl, rfl, rfl, hd5, hrest5⟩ := trodAll_cons hrest4
  obtain ⟨rfl, rfl, rfl⟩ := trodAll_nil hrest5
  exact ⟨v, v1, v2, v3, v4, v5, d, d1, d2, d3, d4, d5, p, p1, p2, p3, p4, p5, by cases args; simp_all, rfl, by simp, hd, hd1, hd2, hd3, hd4, hd5⟩

end Go.Proofs.Ytmlgahambecamaa
