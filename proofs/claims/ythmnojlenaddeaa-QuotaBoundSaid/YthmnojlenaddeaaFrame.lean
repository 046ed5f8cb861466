/- What each law's row shares: structs that come in opened, and the end of a call that leaves old memory alone. -/
import Derived.Test.YthmnojlenaddeaaRows
import Derived.ProofKit
namespace Go.Proofs.Ythmnojlenaddeaa
open Go.ChangeShapes Go.WideShapes Go.ChangeAt Go.RowKit

theorem Try.own : ownKnob Try.prog.godebug = none := by kernel_rfl
theorem Try.laidOut : laidOutB Try.prog = true := by kernel_rfl

section
variable {H : Type} {enc : TypeId × Value → H} {P : Program}

/-- Whatever came in reads as it did, where old memory was left alone. -/
theorem again_all (hl : laidOutB P = true) {W W' : World} (hb : Below W.heap.size W W') : ∀ (ts : List TypeId) (vs : List Value) (ds : List (DataW H)) (ps : List MemPlace),
    (ts.all fun t => P.readableRec t && decide (t < P.types.size)) = true → DataW.TrodAll enc P W 0 (fun _ => true) true ts vs ds ps → (∀ x ∈ ps, x.block < W.heap.size) →
    DataW.TrodAll enc P W' 0 (fun b => decide (b < W.heap.size)) true ts vs ds ps
  | [], [], [], _, _, h, _ => h
  | t :: ts, v :: vs, d :: ds, ps, hT, ⟨p, q, h1, h2, e⟩, hlt => by
    simp only [List.all_cons, Bool.and_eq_true, decide_eq_true_eq] at hT
    subst e
    exact ⟨p, q, Below.trod hl hT.1.1 hT.1.2 h1 hb (fun x hx => hlt x (List.mem_append_left _ hx)), again_all hl hb ts vs ds q (by simpa using hT.2) h2 (fun x hx => hlt x (List.mem_append_right _ hx)), rfl⟩
  | [], _ :: _, _, _, _, h, _ => h.elim
  | [], [], _ :: _, _, _, h, _ => h.elim
  | _ :: _, [], _, _, _, h, _ => h.elim
  | _ :: _, _ :: _, [], _, _, h, _ => h.elim

/-- A law's end: true, and old memory left alone. -/
theorem law_post {f : Func} {s : ChangeSpec} {W W' : World} {args : Array Value} {ds : List (DataW H)} {before : List MemPlace} (hl : laidOutB P = true)
    (hT : (f.params.toList.all fun t => P.readableRec t && decide (t < P.types.size)) = true) (hr : f.resultTypes = #[4]) (h4 : P.underlying 4 = some .bool) (hv : s.vars = [])
    (hfn : s.fn H (ds ++ []) = { results := [.lit (.bool true)], args := ds }) (hW : DataW.Whole enc P f.params.toList s.vars false W args.toList ds [] before) (hb : Below W.heap.size W W') :
    s.post enc P f false true false false W args (.bool true) W' := by
  have hW0 := hW
  obtain ⟨p, q, hA, hV, rfl, hfz, hnd⟩ := hW
  rw [hv] at hV
  have hq : q = [] := by simpa [DataW.TrodVars] using hV
  subst hq
  refine ⟨ds, [], p ++ [], [], p, [], hW0, ?_, ?_, ?_, hb.frame _, fun h => by cases h⟩
  · rw [hfn, hr]
    exact trodAll_mk1 (shut_bool h4 true)
  · rw [hfn]
    exact again_all hl hb _ _ _ _ hT hA (fun x hx => hW0.lt x (by simpa using hx))
  · rw [hfn, hv]
    rfl

/-- A struct that came in: its cells, each field's read by its own type. -/
theorem open_struct {w : World} {base : Nat} {spare : Nat → Bool} {held : Bool} {r : Reach} {b0 : Nat} {t : TypeId} {fs : Array Field} {v : Value} {d : DataW H} {p : List MemPlace} (hs : P.underlying t = some (.struct fs))
    (hv : Value.okWide P w r b0 t v) (h : DataW.Trod enc P w base spare held t v d p) :
    ∃ (cs : List Value) (n : Nat), v = .agg cs.toArray ∧ cs.length = P.cellsOf t ∧ ∀ (i : Nat) (f : Field), fs[i]? = some f → ∃ y, DataW.trod enc P w base spare held n f.type ((cs.drop f.offset).take (P.cellsOf f.type)) = some y := by
  obtain ⟨cs, rfl, hsz⟩ := okWide_struct hs hv
  obtain ⟨fuel, hf⟩ := h
  obtain ⟨xs, n, _, _, _, hlen, hg⟩ := DataW.trod_struct hs hf
  refine ⟨cs.toList, n, by simp, by simpa using hsz, fun i f hi => ?_⟩
  have hlt : i < xs.length := by rw [hlen]; exact (Array.getElem?_eq_some_iff.1 hi).1
  exact ⟨xs[i], by simpa [Value.cells, List.getElem?_eq_getElem hlt] using hg i f hi⟩
end

theorem list5 {α : Type} {l : List α} (h : l.length = 5) : ∃ a b c d e, l = [a, b, c, d, e] := by
  match l, h with
  | [a, b, c, d, e], _ => exact ⟨a, b, c, d, e, rfl⟩
theorem list3 {α : Type} {l : List α} (h : l.length = 3) : ∃ a b c, l = [a, b, c] := by
  match l, h with
  | [a, b, c], _ => exact ⟨a, b, c, rfl⟩

section
variable {H : Type} {enc : TypeId × Value → H} {w : World} {base : Nat} {spare : Nat → Bool} {held : Bool} {r : Reach} {b0 : Nat} {v : Value} {d : DataW H} {p : List MemPlace}

/-- A bucket that came in. -/
theorem open_bucket (hv : Value.okWide Try.prog w r b0 23 v) (h : DataW.Trod enc Try.prog w base spare held 23 v d p) :
    ∃ (who : ByteArray) (rate burst level at_ : Int), v = .agg #[.string who, .int .i64 rate, .int .i64 burst, .int .i64 level, .int .i64 at_] ∧ (Lit.int .i64 rate).wf = true ∧ (Lit.int .i64 burst).wf = true ∧ (Lit.int .i64 level).wf = true ∧ (Lit.int .i64 at_).wf = true := by
  obtain ⟨cs, n, rfl, hlen, hg⟩ := open_struct Try.underlying23 hv h
  have h5 : Try.prog.cellsOf 23 = 5 := by kernel_rfl
  have c9 : Try.prog.cellsOf 9 = 1 := by kernel_rfl
  have c3 : Try.prog.cellsOf 3 = 1 := by kernel_rfl
  obtain ⟨a, b, c, d, e, rfl⟩ := list5 (hlen.trans h5)
  obtain ⟨y0, g0⟩ := hg 0 _ rfl
  obtain ⟨y1, g1⟩ := hg 1 _ rfl
  obtain ⟨y2, g2⟩ := hg 2 _ rfl
  obtain ⟨y3, g3⟩ := hg 3 _ rfl
  obtain ⟨y4, g4⟩ := hg 4 _ rfl
  replace g0 : DataW.trod enc Try.prog w base spare held n 9 (List.take (Try.prog.cellsOf 9) [a, b, c, d, e]) = some y0 := g0
  replace g1 : DataW.trod enc Try.prog w base spare held n 3 (List.take (Try.prog.cellsOf 3) [b, c, d, e]) = some y1 := g1
  replace g2 : DataW.trod enc Try.prog w base spare held n 3 (List.take (Try.prog.cellsOf 3) [c, d, e]) = some y2 := g2
  replace g3 : DataW.trod enc Try.prog w base spare held n 3 (List.take (Try.prog.cellsOf 3) [d, e]) = some y3 := g3
  replace g4 : DataW.trod enc Try.prog w base spare held n 3 (List.take (Try.prog.cellsOf 3) [e]) = some y4 := g4
  rw [c9] at g0
  rw [c3] at g1 g2 g3 g4
  obtain ⟨who, k0, _, _⟩ := DataW.trod_string Try.underlying9 g0
  obtain ⟨rate, k1, _, w1⟩ := DataW.trod_int Try.underlying3 g1
  obtain ⟨burst, k2, _, w2⟩ := DataW.trod_int Try.underlying3 g2
  obtain ⟨level, k3, _, w3⟩ := DataW.trod_int Try.underlying3 g3
  obtain ⟨at_, k4, _, w4⟩ := DataW.trod_int Try.underlying3 g4
  simp at k0 k1 k2 k3 k4
  exact ⟨who, rate, burst, level, at_, by rw [k0, k1, k2, k3, k4], w1, w2, w3, w4⟩

/-- A rate that came in. -/
theorem open_rate (hv : Value.okWide Try.prog w r b0 25 v) (h : DataW.Trod enc Try.prog w base spare held 25 v d p) :
    ∃ (who : ByteArray) (rate burst : Int), v = .agg #[.string who, .int .i64 rate, .int .i64 burst] := by
  obtain ⟨cs, n, rfl, hlen, hg⟩ := open_struct Try.underlying25 hv h
  have h5 : Try.prog.cellsOf 25 = 3 := by kernel_rfl
  have c9 : Try.prog.cellsOf 9 = 1 := by kernel_rfl
  have c3 : Try.prog.cellsOf 3 = 1 := by kernel_rfl
  obtain ⟨a, b, c, rfl⟩ := list3 (hlen.trans h5)
  obtain ⟨y0, g0⟩ := hg 0 _ rfl
  obtain ⟨y1, g1⟩ := hg 1 _ rfl
  obtain ⟨y2, g2⟩ := hg 2 _ rfl
  replace g0 : DataW.trod enc Try.prog w base spare held n 9 (List.take (Try.prog.cellsOf 9) [a, b, c]) = some y0 := g0
  replace g1 : DataW.trod enc Try.prog w base spare held n 3 (List.take (Try.prog.cellsOf 3) [b, c]) = some y1 := g1
  replace g2 : DataW.trod enc Try.prog w base spare held n 3 (List.take (Try.prog.cellsOf 3) [c]) = some y2 := g2
  rw [c9] at g0
  rw [c3] at g1 g2
  obtain ⟨who, k0, _, _⟩ := DataW.trod_string Try.underlying9 g0
  obtain ⟨rate, k1, _, w1⟩ := DataW.trod_int Try.underlying3 g1
  obtain ⟨burst, k2, _, w2⟩ := DataW.trod_int Try.underlying3 g2
  simp at k0 k1 k2
  exact ⟨who, rate, burst, by rw [k0, k1, k2]⟩

/-- A number that came in. -/
theorem open_num (hv : Value.okWide Try.prog w r b0 3 v) (h : DataW.Trod enc Try.prog w base spare held 3 v d p) : ∃ n : Int, v = .int .i64 n ∧ (Lit.int .i64 n).wf = true := by
  obtain ⟨n, rfl, _, _, wn⟩ := open_int Try.underlying3 hv h
  exact ⟨n, rfl, wn⟩
end

end Go.Proofs.Ythmnojlenaddeaa
