/- What a call hands back that hands back a net and a number; of no function. -/
import Derived.Test.YtmlgahambecamaaRset
import Derived.Test.YtmlgahambecamaaNt
namespace Go.Proofs.Ytmlgahambecamaa
open Go.RowKit
set_option maxHeartbeats 1000000 in
theorem load27 {w : World} {g : Nat} {a b : Int} {A0 A1 A2 A3 : Option Addr} {n0 n1 n2 n3 c0 c1 c2 c3 : Nat} (h : Has w g #[.int .i64 a, .int .i64 b, .slice A0 n0 c0, .slice A1 n1 c1, .slice A2 n2 c2, .slice A3 n3 c3]) :
    (loadVar 27 ⟨g, 0, none⟩).run Try.prog w = .ok (.agg #[.int .i64 a, .int .i64 b, .slice A0 n0 c0, .slice A1 n1 c1, .slice A2 n2 c2, .slice A3 n3 c3]) w := by
  have c := h.cell
  have l := h.lt
  simp [go_sem, c]
theorem results_cell_tmp {fn : Func} {a t u : Nat} (h : fn.results = #[.cell a t, .tmp u]) {tmps : Array Value} {P : Program} {w : World} {g : Nat} {v x : Value}
    (ha : tmps.getD a undef = .pointer (some ⟨g, 0, none⟩)) (hu : tmps.getD u undef = x) (hl : (loadVar t ⟨g, 0, none⟩).run P w = .ok v w) : (results fn tmps).run P w = .ok (.tuple #[v, x]) w := by
  subst hu
  have ha' : tmps[a]?.getD undef = .pointer (some ⟨g, 0, none⟩) := by simpa using ha
  simp [results, h, ha', asAddr, hl]
end Go.Proofs.Ytmlgahambecamaa
