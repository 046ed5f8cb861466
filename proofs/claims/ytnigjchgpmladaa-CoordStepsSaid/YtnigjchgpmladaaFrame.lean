/- What each law's row of layer 21 shares: coordinators, what a producer says, steps, texts and numbers that come in, opened. -/
import Derived.Test.YtnigjchgpmladaaOpn
import Derived.Test.YtnigjchgpmladaaDv
import Derived.OpenShut
import Derived.Carry
namespace Go.Proofs.Ytnigjchgpmladaa
open Go.ChangeShapes Go.WideShapes Go.ChangeAt Go.RowKit

theorem Try.own : ownKnob Try.prog.godebug = none := by kernel_rfl
theorem Try.laidOut : laidOutB Try.prog = true := by kernel_rfl
theorem c3 : Try.prog.cellsOf 3 = 1 := by kernel_rfl
theorem c4 : Try.prog.cellsOf 4 = 1 := by kernel_rfl
theorem c9 : Try.prog.cellsOf 9 = 1 := by kernel_rfl
theorem c22 : Try.prog.cellsOf 22 = 1 := by kernel_rfl
theorem c24 : Try.prog.cellsOf 24 = 2 := by kernel_rfl
theorem c30 : Try.prog.cellsOf 30 = 1 := by kernel_rfl
theorem c31 : Try.prog.cellsOf 31 = 1 := by kernel_rfl
theorem c33 : Try.prog.cellsOf 33 = 8 := by kernel_rfl
theorem c45 : Try.prog.cellsOf 45 = 3 := by kernel_rfl
theorem c47 : Try.prog.cellsOf 47 = 9 := by kernel_rfl
theorem c57 : Try.prog.cellsOf 57 = 1 := by kernel_rfl
theorem c95 : Try.prog.cellsOf 95 = 11 := by kernel_rfl

section
variable {H : Type} {enc : TypeId × Value → H}

set_option maxRecDepth 100000 in
theorem opens_tp : Opens enc Try.prog tpK 45 := by
  intro w base spare held fuel cs d ps h hw
  obtain ⟨hlen, n, hf⟩ := open_field Try.underlying45 h hw
  have hl : cs.length = 3 := hlen.trans c45
  match cs, hl with
  | [a, b, c], _ =>
    obtain ⟨d0, p0, g0, w0⟩ := hf 0 _ rfl
    obtain ⟨d1, p1, g1, w1⟩ := hf 1 _ rfl
    obtain ⟨d2, p2, g2, w2⟩ := hf 2 _ rfl
    replace g0 : DataW.trod enc Try.prog w base spare held n 9 (List.take (Try.prog.cellsOf 9) [a, b, c]) = some (d0, p0) := g0
    rw [c9] at g0
    replace g1 : DataW.trod enc Try.prog w base spare held n 3 (List.take (Try.prog.cellsOf 3) [b, c]) = some (d1, p1) := g1
    rw [c3] at g1
    replace g2 : DataW.trod enc Try.prog w base spare held n 3 (List.take (Try.prog.cellsOf 3) [c]) = some (d2, p2) := g2
    rw [c3] at g2
    obtain ⟨x0, k0, _, h0⟩ := DataW.trod_string Try.underlying9 g0
    simp at k0
    obtain ⟨x1, k1, _, h1⟩ := DataW.trod_int Try.underlying3 g1
    simp at k1
    obtain ⟨x2, k2, _, h2⟩ := DataW.trod_int Try.underlying3 g2
    simp at k2
    exact ⟨⟨x0, x1, x2⟩, by rw [k0, k1, k2]; rfl, h0, h1, h2⟩
set_option maxRecDepth 100000 in
theorem opens_tx : Opens enc Try.prog txK 33 := by
  intro w base spare held fuel cs d ps h hw
  obtain ⟨hlen, n, hf⟩ := open_field Try.underlying33 h hw
  have hl : cs.length = 8 := hlen.trans c33
  match cs, hl with
  | [a, b, c, e, f, g, i, j], _ =>
    obtain ⟨d0, p0, g0, w0⟩ := hf 0 _ rfl
    obtain ⟨d1, p1, g1, w1⟩ := hf 1 _ rfl
    obtain ⟨d2, p2, g2, w2⟩ := hf 2 _ rfl
    obtain ⟨d3, p3, g3, w3⟩ := hf 3 _ rfl
    obtain ⟨d4, p4, g4, w4⟩ := hf 4 _ rfl
    obtain ⟨d5, p5, g5, w5⟩ := hf 5 _ rfl
    obtain ⟨d6, p6, g6, w6⟩ := hf 6 _ rfl
    obtain ⟨d7, p7, g7, w7⟩ := hf 7 _ rfl
    replace g0 : DataW.trod enc Try.prog w base spare held n 9 (List.take (Try.prog.cellsOf 9) [a, b, c, e, f, g, i, j]) = some (d0, p0) := g0
    rw [c9] at g0
    replace g1 : DataW.trod enc Try.prog w base spare held n 3 (List.take (Try.prog.cellsOf 3) [b, c, e, f, g, i, j]) = some (d1, p1) := g1
    rw [c3] at g1
    replace g2 : DataW.trod enc Try.prog w base spare held n 3 (List.take (Try.prog.cellsOf 3) [c, e, f, g, i, j]) = some (d2, p2) := g2
    rw [c3] at g2
    replace g3 : DataW.trod enc Try.prog w base spare held n 3 (List.take (Try.prog.cellsOf 3) [e, f, g, i, j]) = some (d3, p3) := g3
    rw [c3] at g3
    replace g4 : DataW.trod enc Try.prog w base spare held n 3 (List.take (Try.prog.cellsOf 3) [f, g, i, j]) = some (d4, p4) := g4
    rw [c3] at g4
    replace g5 : DataW.trod enc Try.prog w base spare held n 30 (List.take (Try.prog.cellsOf 30) [g, i, j]) = some (d5, p5) := g5
    rw [c30] at g5
    replace g6 : DataW.trod enc Try.prog w base spare held n 31 (List.take (Try.prog.cellsOf 31) [i, j]) = some (d6, p6) := g6
    rw [c31] at g6
    replace g7 : DataW.trod enc Try.prog w base spare held n 3 (List.take (Try.prog.cellsOf 3) [j]) = some (d7, p7) := g7
    rw [c3] at g7
    obtain ⟨x0, k0, _, h0⟩ := DataW.trod_string Try.underlying9 g0
    simp at k0
    obtain ⟨x1, k1, _, h1⟩ := DataW.trod_int Try.underlying3 g1
    simp at k1
    obtain ⟨x2, k2, _, h2⟩ := DataW.trod_int Try.underlying3 g2
    simp at k2
    obtain ⟨x3, k3, _, h3⟩ := DataW.trod_int Try.underlying3 g3
    simp at k3
    obtain ⟨x4, k4, _, h4⟩ := DataW.trod_int Try.underlying3 g4
    simp at k4
    obtain ⟨x7, k7, _, h7⟩ := DataW.trod_int Try.underlying3 g7
    simp at k7
    obtain ⟨A5, m5, c5, l5, k5, s5, _⟩ := opens_slice opens_tp Try.underlying30 c45 g5 w5
    obtain ⟨A6, m6, c6, l6, k6, s6, _⟩ := opens_slice (opens_str Try.underlying9) Try.underlying31 c9 g6 w6
    exact ⟨⟨x0, x1, x2, x3, x4, A5, m5, c5, l5, A6, m6, c6, l6, x7⟩, by rw [k0, k1, k2, k3, k4, k7, k5, k6]; rfl, h0, s5, s6⟩
set_option maxRecDepth 100000 in
theorem ask_open {w : World} {base : Nat} {spare : Nat → Bool} {held : Bool} {fuel : Nat} {cs : List Value} {d : DataW H} {ps : List MemPlace} (h : DataW.trod enc Try.prog w base spare held fuel 47 cs = some (d, ps)) (hw : ∀ n ∈ d.weights Try.prog 47, n ≤ reachBytes) :
    ∃ a : Av, cs = a.cells ∧ a.wf := by
  obtain ⟨hlen, n, hf⟩ := open_field Try.underlying47 h hw
  have hl : cs.length = 9 := hlen.trans c47
  match cs, hl with
  | [a0, a1, a2, a3, a4, a5, a6, a7, a8], _ =>
    obtain ⟨d0, p0, g0, w0⟩ := hf 0 _ rfl
    obtain ⟨d1, p1, g1, w1⟩ := hf 1 _ rfl
    obtain ⟨d2, p2, g2, w2⟩ := hf 2 _ rfl
    obtain ⟨d3, p3, g3, w3⟩ := hf 3 _ rfl
    obtain ⟨d4, p4, g4, w4⟩ := hf 4 _ rfl
    obtain ⟨d5, p5, g5, w5⟩ := hf 5 _ rfl
    obtain ⟨d6, p6, g6, w6⟩ := hf 6 _ rfl
    replace g0 : DataW.trod enc Try.prog w base spare held n 9 (List.take (Try.prog.cellsOf 9) [a0, a1, a2, a3, a4, a5, a6, a7, a8]) = some (d0, p0) := g0
    rw [c9] at g0
    replace g1 : DataW.trod enc Try.prog w base spare held n 3 (List.take (Try.prog.cellsOf 3) [a1, a2, a3, a4, a5, a6, a7, a8]) = some (d1, p1) := g1
    rw [c3] at g1
    replace g2 : DataW.trod enc Try.prog w base spare held n 3 (List.take (Try.prog.cellsOf 3) [a2, a3, a4, a5, a6, a7, a8]) = some (d2, p2) := g2
    rw [c3] at g2
    replace g3 : DataW.trod enc Try.prog w base spare held n 45 (List.take (Try.prog.cellsOf 45) [a3, a4, a5, a6, a7, a8]) = some (d3, p3) := g3
    rw [c45] at g3
    replace g4 : DataW.trod enc Try.prog w base spare held n 9 (List.take (Try.prog.cellsOf 9) [a6, a7, a8]) = some (d4, p4) := g4
    rw [c9] at g4
    replace g5 : DataW.trod enc Try.prog w base spare held n 4 (List.take (Try.prog.cellsOf 4) [a7, a8]) = some (d5, p5) := g5
    rw [c4] at g5
    replace g6 : DataW.trod enc Try.prog w base spare held n 3 (List.take (Try.prog.cellsOf 3) [a8]) = some (d6, p6) := g6
    rw [c3] at g6
    obtain ⟨x0, k0, _, h0⟩ := DataW.trod_string Try.underlying9 g0
    simp at k0
    obtain ⟨x1, k1, _, h1⟩ := DataW.trod_int Try.underlying3 g1
    simp at k1
    obtain ⟨x2, k2, _, h2⟩ := DataW.trod_int Try.underlying3 g2
    simp at k2
    obtain ⟨x, k3, hx⟩ := opens_tp w base spare held n _ d3 p3 g3 w3
    have k3 : [a3, a4, a5] = tpK.cells x := k3
    simp [tpK, Tp.cells] at k3
    obtain ⟨k31, k32, k33⟩ := k3
    obtain ⟨x4, k4, _, h4⟩ := DataW.trod_string Try.underlying9 g4
    simp at k4
    obtain ⟨x5, k5, _⟩ := DataW.trod_bool Try.underlying4 g5
    simp at k5
    obtain ⟨x6, k6, _, h6⟩ := DataW.trod_int Try.underlying3 g6
    simp at k6
    exact ⟨⟨x0, x1, x2, x, x4, x5, x6⟩, by rw [k0, k1, k2, k31, k32, k33, k4, k5, k6]; rfl, h0, hx, h4⟩
set_option maxRecDepth 100000 in
theorem opens_dv : Opens enc Try.prog dvK 95 := by
  intro w base spare held fuel cs d ps h hw
  obtain ⟨hlen, n, hf⟩ := open_field Try.underlying95 h hw
  have hl : cs.length = 11 := hlen.trans c95
  match cs, hl with
  | [b0, b1, a0, a1, a2, a3, a4, a5, a6, a7, a8], _ =>
    obtain ⟨d0, p0, g0, w0⟩ := hf 0 _ rfl
    obtain ⟨d1, p1, g1, w1⟩ := hf 1 _ rfl
    obtain ⟨d2, p2, g2, w2⟩ := hf 2 _ rfl
    replace g0 : DataW.trod enc Try.prog w base spare held n 3 (List.take (Try.prog.cellsOf 3) [b0, b1, a0, a1, a2, a3, a4, a5, a6, a7, a8]) = some (d0, p0) := g0
    rw [c3] at g0
    replace g1 : DataW.trod enc Try.prog w base spare held n 4 (List.take (Try.prog.cellsOf 4) [b1, a0, a1, a2, a3, a4, a5, a6, a7, a8]) = some (d1, p1) := g1
    rw [c4] at g1
    replace g2 : DataW.trod enc Try.prog w base spare held n 47 (List.take (Try.prog.cellsOf 47) [a0, a1, a2, a3, a4, a5, a6, a7, a8]) = some (d2, p2) := g2
    rw [c47] at g2
    obtain ⟨x0, k0, _, h0⟩ := DataW.trod_int Try.underlying3 g0
    simp at k0
    obtain ⟨x1, k1, _⟩ := DataW.trod_bool Try.underlying4 g1
    simp at k1
    obtain ⟨a, k2, ha⟩ := ask_open g2 w2
    have k2 : [a0, a1, a2, a3, a4, a5, a6, a7, a8] = a.cells := k2
    exact ⟨⟨x0, x1, a⟩, by rw [k0, k1]; show _ = Value.int .i64 x0 :: Value.bool x1 :: a.cells; rw [← k2], ha⟩

variable {w : World} {base : Nat} {spare : Nat → Bool} {held : Bool} {r : Reach} {b0 : Nat} {v : Value} {d : DataW H} {p : List MemPlace}

set_option maxRecDepth 100000 in
/-- A coordinator that came in. -/
theorem open_tc (hv : Value.okWide Try.prog w r b0 24 v) (h : DataW.Trod enc Try.prog w base spare held 24 v d p) (hw : ∀ n ∈ d.weights Try.prog 24, n ≤ reachBytes) : ∃ o : Tc, v = o.v ∧ Tc.At w o := by
  obtain ⟨cs, rfl, hsz⟩ := okWide_struct Try.underlying24 hv
  obtain ⟨fuel, h⟩ := h
  obtain ⟨cl⟩ := cs
  simp only [Value.cells] at h
  have key : ∀ (cs : List Value), DataW.trod enc Try.prog w base spare held fuel 24 cs = some (d, p) → ∃ o : Tc, cs = o.box.toList ∧ Tc.At w o := by
    intro cs h
    obtain ⟨hlen, n, hf⟩ := open_field Try.underlying24 h hw
    have hl : cs.length = 2 := hlen.trans c24
    match cs, hl with
    | [a, b], _ =>
      obtain ⟨d0, p0, g0, w0⟩ := hf 0 _ rfl
      obtain ⟨d1, p1, g1, w1⟩ := hf 1 _ rfl
      replace g0 : DataW.trod enc Try.prog w base spare held n 3 (List.take (Try.prog.cellsOf 3) [a, b]) = some (d0, p0) := g0
      rw [c3] at g0
      replace g1 : DataW.trod enc Try.prog w base spare held n 22 (List.take (Try.prog.cellsOf 22) [b]) = some (d1, p1) := g1
      rw [c22] at g1
      obtain ⟨x0, k0, _, h0⟩ := DataW.trod_int Try.underlying3 g0
      simp at k0
      obtain ⟨A, m, c, l, k1, s1, _⟩ := opens_slice opens_tx Try.underlying22 c33 g1 w1
      exact ⟨⟨x0, A, m, c, l⟩, by rw [k0, k1], s1⟩
  obtain ⟨o, e, ho⟩ := key _ h
  refine ⟨o, ?_, ho⟩
  simp only at e
  subst e
  rfl
set_option maxRecDepth 100000 in
/-- What a producer says that came in. -/
theorem open_ask (hv : Value.okWide Try.prog w r b0 47 v) (h : DataW.Trod enc Try.prog w base spare held 47 v d p) (hw : ∀ n ∈ d.weights Try.prog 47, n ≤ reachBytes) : ∃ a : Av, v = a.v ∧ a.wf := by
  obtain ⟨cs, rfl, hsz⟩ := okWide_struct Try.underlying47 hv
  obtain ⟨fuel, h⟩ := h
  obtain ⟨a, e, ha⟩ := ask_open h hw
  refine ⟨a, ?_, ha⟩
  obtain ⟨cl⟩ := cs
  simp only [Value.cells] at e
  subst e
  rfl
set_option maxRecDepth 100000 in
/-- A number that came in. -/
theorem open_num (hv : Value.okWide Try.prog w r b0 3 v) (h : DataW.Trod enc Try.prog w base spare held 3 v d p) : ∃ n : Int, v = .int .i64 n ∧ (Lit.int .i64 n).wf = true := by
  obtain ⟨n, rfl, _, _, wn⟩ := open_int Try.underlying3 hv h
  exact ⟨n, rfl, wn⟩
set_option maxRecDepth 100000 in
/-- A text that came in. -/
theorem open_text (hv : Value.okWide Try.prog w r b0 9 v) (h : DataW.Trod enc Try.prog w base spare held 9 v d p) : ∃ s : ByteArray, v = .string s ∧ s.size ≤ maxLen := by
  obtain ⟨s, rfl⟩ := okWide_string Try.underlying9 hv
  obtain ⟨fuel, hf⟩ := h
  obtain ⟨s', e, _, hs⟩ := DataW.trod_string Try.underlying9 hf
  simp [Value.cells] at e
  subst e
  exact ⟨s, rfl, hs⟩
set_option maxRecDepth 100000 in
/-- Steps that came in. -/
theorem open_steps (hv : Value.okWide Try.prog w r b0 57 v) (h : DataW.Trod enc Try.prog w base spare held 57 v d p) (hw : ∀ n ∈ d.weights Try.prog 57, n ≤ reachBytes) : ∃ A n c l, v = .slice A n c ∧ Sl dvK w A n c l := by
  obtain ⟨A, n, c, rfl⟩ := okWide_slice Try.underlying57 hv
  obtain ⟨fuel, hf⟩ := h
  obtain ⟨A', n', c', l, e, hsl, hm⟩ := opens_slice opens_dv Try.underlying57 c95 hf hw
  injection e with e1 e2 e3
  subst e1 e2 e3
  exact ⟨A, n, c, l, rfl, hsl⟩
end

theorem trodAll_five {H : Type} {enc : TypeId × Value → H} {P : Program} {w : World} {base : Nat} {spare : Nat → Bool} {held : Bool} {t t1 t2 t3 t4 : TypeId} {args : Array Value} {ds : List (DataW H)} {ps : List MemPlace} (h : DataW.TrodAll enc P w base spare held [t, t1, t2, t3, t4] args.toList ds ps) :
    ∃ v v1 v2 v3 v4 d d1 d2 d3 d4 p p1 p2 p3 p4, args = #[v, v1, v2, v3, v4] ∧ ds = [d, d1, d2, d3, d4] ∧ ps = p ++ p1 ++ p2 ++ p3 ++ p4 ∧ DataW.Trod enc P w base spare held t v d p ∧ DataW.Trod enc P w base spare held t1 v1 d1 p1 ∧ DataW.Trod enc P w base spare held t2 v2 d2 p2 ∧ DataW.Trod enc P w base spare held t3 v3 d3 p3 ∧ DataW.Trod enc P w base spare held t4 v4 d4 p4 := by
  obtain ⟨v, vs, d, ds', p, q, hargs, rfl, rfl, hd, hrest⟩ := trodAll_cons h
  obtain ⟨v1, vs1, d1, ds1', p1, q1, rfl, rfl, rfl, hd1, hrest1⟩ := trodAll_cons hrest
  obtain ⟨v2, vs2, d2, ds2', p2, q2, rfl, rfl, rfl, hd2, hrest2⟩ := trodAll_cons hrest1
  obtain ⟨v3, vs3, d3, ds3', p3, q3, rfl, rfl, rfl, hd3, hrest3⟩ := trodAll_cons hrest2
  obtain ⟨v4, vs4, d4, ds4', p4, q4, rfl, rfl, rfl, hd4, hrest4⟩ := trodAll_cons hrest3
  obtain ⟨rfl, rfl, rfl⟩ := trodAll_nil hrest4
  exact ⟨v, v1, v2, v3, v4, d, d1, d2, d3, d4, p, p1, p2, p3, p4, by cases args; simp_all, rfl, by simp, hd, hd1, hd2, hd3, hd4⟩

end Go.Proofs.Ytnigjchgpmladaa
