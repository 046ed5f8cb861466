/- A net and a list of messages that are known, as what a call hands back. -/
import Derived.Test.YtmlgahambecamaaTickP
import Derived.Test.YtmlgahambecamaaSendQ
import Derived.Test.YtmlgahambecamaaNew
import Derived.Test.YtmlgahambecamaaLeaf2
namespace Go.Proofs.Ytmlgahambecamaa
open Go.RowKit

/-- A net that is this one. -/
abbrev Nt.Is (w : World) (q : Nt) (V : Nv) : Prop := Nt.At w q ∧ q.val = V
abbrev Ms (w : World) (A : Option Addr) (n c : Nat) (l : List Mg) (M : List Mv) : Prop := Sl mgK w A n c l ∧ l.map Mg.val = M
theorem Nt.past {w w' : World} {q : Nt} {V : Nv} (h : Nt.Is w q V) (hb : Below w.heap.size w w') : Nt.Is w' q V := ⟨h.1.below hb, h.2⟩
theorem Ms.past {w w' : World} {A : Option Addr} {n c : Nat} {l : List Mg} {M : List Mv} (h : Ms w A n c l M) (hb : Below w.heap.size w w') : Ms w' A n c l M := ⟨h.1.below hb, h.2⟩
theorem net_at {f : Nat} {args : Array Value} {w : World} {r : Nv × Int} {V : Nv} {c : Int} (h : Calls Try.prog f args w fun e w' => NetRes w.heap.size r e w' ∧ Below w.heap.size w w') (hr : r = (V, c)) :
    Calls Try.prog f args w fun e w' => ∃ q : Nt, e = .returned (.tuple #[q.v, .int .i64 c]) ∧ Nt.Is w' q V ∧ Below w.heap.size w w' := by
  subst hr
  refine h.mono ?_
  rintro e w' ⟨⟨q, h1, h2, h3⟩, h4⟩
  exact ⟨q, h1, ⟨h3.at_, h2⟩, h4⟩
theorem tick_at {f : Nat} {args : Array Value} {w : World} {r : Nv × List Mv × Int} {V : Nv} {M : List Mv} {c : Int} (h : Calls Try.prog f args w fun e w' => TickRes w.heap.size r e w' ∧ Below w.heap.size w w') (hr : r = (V, M, c)) :
    Calls Try.prog f args w fun e w' => ∃ (q : Nt) (A : Option Addr) (n c' : Nat) (l : List Mg), e = .returned (.tuple #[q.v, .slice A n c', .int .i64 c]) ∧ Nt.Is w' q V ∧ Ms w' A n c' l M ∧ Below w.heap.size w w' := by
  subst hr
  refine h.mono ?_
  rintro e w' ⟨⟨q, A, n, c', l, h1, h2, h3, h4, h5, _⟩, h6⟩
  exact ⟨q, A, n, c', l, h1, ⟨h4.at_, h2⟩, ⟨h5.sl, h3⟩, h6⟩
theorem Nt.Is.lens {w : World} {q : Nt} {V : Nv} (h : Nt.Is w q V) : q.Ln = V.L.length ∧ q.Sn = V.S.length ∧ q.Cn = V.C.length ∧ q.Kn = V.K.length := by
  obtain ⟨h1, rfl⟩ := h
  exact ⟨by rw [← h1.l.len]; simp [Nt.val], h1.s.len.symm, h1.c.len.symm, h1.k.len.symm⟩
theorem Nt.Is.few {w : World} {q : Nt} {V : Nv} (h : Nt.Is w q V) (h1 : V.L.length ≤ 2000) (h2 : V.S.length ≤ 100) (h3 : V.C.length ≤ 400) (h4 : V.K.length ≤ 100) : q.Few := by
  obtain ⟨e1, e2, e3, e4⟩ := h.lens
  exact ⟨by omega, by omega, by omega, by omega⟩
theorem sp_row {w : World} {g : Nat} {x : Sp} (h : Has w g #[.int .i64 x.no, .int .i64 x.kind, .int .i64 x.amt]) (hw : x.wf) : Sl spK w (some ⟨g, 0, none⟩) 1 1 [x] :=
  ⟨rfl, Nat.le_refl _, by omega, fun e => (by cases e), Row.of_has h, fun a ha => by rw [List.mem_singleton.1 ha]; exact hw⟩
theorem byte_row {w : World} {g : Nat} {x : UInt8} (h : Has w g #[byteV x]) : Sl u8K w (some ⟨g, 0, none⟩) 1 1 [x] :=
  ⟨rfl, Nat.le_refl _, by omega, fun e => (by cases e), Row.of_has h, fun _ _ => trivial⟩
theorem Ms.none {w : World} {A : Option Addr} {n c : Nat} {l : List Mg} (h : Ms w A n c l []) : n = 0 := by rw [← h.1.len, List.map_eq_nil_iff.1 h.2]; rfl
theorem Ms.one {w : World} {A : Option Addr} {n c : Nat} {l : List Mg} {m : Mv} (h : Ms w A n c l [m]) : n = 1 ∧ ∃ x, l = [x] ∧ x.val = m := by
  obtain ⟨h1, h2⟩ := h
  cases l with
  | nil => simp at h2
  | cons x l =>
    cases l with
    | nil => exact ⟨h1.len.symm, x, rfl, by simpa using h2⟩
    | cons y l => simp at h2

end Go.Proofs.Ytmlgahambecamaa
