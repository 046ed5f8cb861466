/- What a call that makes a net hands back. -/
import Derived.Test.YtmlgahambecamaaRCopy
namespace Go.Proofs.Ytmlgahambecamaa
open Go.RowKit

/-- What a call that makes a net hands back: the net, its rows of the call's own, and a code. -/
def NetRes (B : Nat) (r : Nv × Int) (e : Ending) (w' : World) : Prop := ∃ q : Nt, e = .returned (.tuple #[q.v, .int .i64 r.2]) ∧ q.val = r.1 ∧ Nt.Own w' B q
theorem NetRes.mk {B : Nat} {r : Nv × Int} {w' : World} (q : Nt) {c : Int} (h1 : r = (q.val, c)) (h2 : Nt.Own w' B q) : NetRes B r (.returned (.tuple #[q.v, .int .i64 c])) w' := ⟨q, by rw [h1], by rw [h1], h2⟩
theorem NetRes.no {B : Nat} {r : Nv × Int} {w' : World} {c : Int} (h1 : r = (noV, c)) : NetRes B r (.returned (.tuple #[noN.v, .int .i64 c])) w' := NetRes.mk noN h1 (noN_own _ _)
theorem Nt.Own.grown {w w' : World} {B g : Nat} {q : Nt} (h : Nt.Own w B q) (hg : w.grownBy w' (some g)) (hgB : g < B) (hin : ∀ a ∈ q.L, Mg.In w' a) : Nt.Own w' B q :=
  ⟨h.l.grown hg hgB hin, h.s.grown hg hgB (fun a ha => h.s.2.2 a ha), h.c.grown hg hgB (fun a ha => h.c.2.2 a ha), h.k.grown hg hgB (fun a ha => h.k.2.2 a ha)⟩
theorem Nt.Own.base {w : World} {B B' : Nat} {q : Nt} (h : Nt.Own w B q) (hB : B' ≤ B) : Nt.Own w B' q := ⟨h.l.base hB, h.s.base hB, h.c.base hB, h.k.base hB⟩
abbrev zeroN : Array Value := #[.int .i64 0, .int .i64 0, .slice none 0 0, .slice none 0 0, .slice none 0 0, .slice none 0 0]
theorem newV_no {m : Int} {S : List Sp} {K : List Int} (h : ¬ (K.length : Int) = m ∨ checkB ⟨0, 0, [], S, [], K⟩ = false) : newV m S K = (noV, 1) := by
  unfold newV
  rw [if_neg]
  rintro ⟨h1, h2⟩
  rcases h with h | h
  · exact h h1
  · rw [h2] at h; cases h
theorem newV_yes {m : Int} {S : List Sp} {K : List Int} (h1 : (K.length : Int) = m) (h2 : checkB ⟨0, 0, [], S, [], K⟩ = true) : newV m S K = (⟨0, 0, [], S, [], K⟩, 0) := by
  unfold newV
  rw [if_pos ⟨h1, h2⟩]
theorem checkI_one {n : Nv} (h : checkB n = false) : checkI n = 1 := by unfold checkI; rw [h]; rfl
theorem checkI_nil {n : Nv} (h : checkB n = true) : checkI n = 0 := by unfold checkI; rw [h]; rfl

end Go.Proofs.Ytmlgahambecamaa
