/- What a call hands back that hands back a coordinator, or a producer; of no function. -/
import Derived.Test.YtnigjchgpmladaaRes
namespace Go.Proofs.Ytnigjchgpmladaa
open Go.RowKit
set_option maxHeartbeats 1000000 in
theorem load24 {w : World} {g : Nat} {a : Int} {A0 : Option Addr} {n0 c0 : Nat} (h : Has w g #[.int .i64 a, .slice A0 n0 c0]) :
    (loadVar 24 ⟨g, 0, none⟩).run Try.prog w = .ok (.agg #[.int .i64 a, .slice A0 n0 c0]) w := by
  have c := h.cell
  have l := h.lt
  simp [go_sem, c]
set_option maxHeartbeats 1000000 in
theorem load33 {w : World} {g : Nat} {x : Tx} (h : Has w g #[.string x.id, .int .i64 x.pid, .int .i64 x.gen, .int .i64 x.no, .int .i64 x.st, .slice x.PA x.Pn x.Pc, .slice x.GA x.Gn x.Gc, .int .i64 x.at_]) :
    (loadVar 33 ⟨g, 0, none⟩).run Try.prog w = .ok x.v w := by
  have c := h.cell
  have l := h.lt
  simp [go_sem, c]
section
variable {fn : Func} {tmps : Array Value} {P : Program} {w : World} {g : Nat} {v x y z : Value}
theorem results_cell {a t : Nat} (h : fn.results = #[.cell a t]) (ha : tmps.getD a undef = .pointer (some ⟨g, 0, none⟩)) (hl : (loadVar t ⟨g, 0, none⟩).run P w = .ok v w) : (results fn tmps).run P w = .ok v w := by
  have ha' : tmps[a]?.getD undef = .pointer (some ⟨g, 0, none⟩) := by simpa using ha
  simp [results, h, ha', asAddr, hl]
theorem results_cell_tmp {a t u : Nat} (h : fn.results = #[.cell a t, .tmp u]) (ha : tmps.getD a undef = .pointer (some ⟨g, 0, none⟩)) (hu : tmps.getD u undef = x) (hl : (loadVar t ⟨g, 0, none⟩).run P w = .ok v w) : (results fn tmps).run P w = .ok (.tuple #[v, x]) w := by
  subst hu
  have ha' : tmps[a]?.getD undef = .pointer (some ⟨g, 0, none⟩) := by simpa using ha
  simp [results, h, ha', asAddr, hl]
theorem results_cell_tmp3 {a t u1 u2 u3 : Nat} (h : fn.results = #[.cell a t, .tmp u1, .tmp u2, .tmp u3]) (ha : tmps.getD a undef = .pointer (some ⟨g, 0, none⟩)) (h1 : tmps.getD u1 undef = x) (h2 : tmps.getD u2 undef = y) (h3 : tmps.getD u3 undef = z)
    (hl : (loadVar t ⟨g, 0, none⟩).run P w = .ok v w) : (results fn tmps).run P w = .ok (.tuple #[v, x, y, z]) w := by
  subst h1 h2 h3
  have ha' : tmps[a]?.getD undef = .pointer (some ⟨g, 0, none⟩) := by simpa using ha
  simp [results, h, ha', asAddr, hl]
end
end Go.Proofs.Ytnigjchgpmladaa
