/- What becomes of a store that an object was put into. -/
import Derived.Test.YtnnmppnbkplamaaDelF
import Derived.Test.YtnnmppnbkplamaaPutE
namespace Go.Proofs.Ytnnmppnbkplamaa
open Go.RowKit Go.Shelf

theorem after_done_in {w : World} {W6 W W' w7 : World} {g : Nat} {A2 A3 A5 : Option Addr} {c2 c3 n5 c5 : Nat} {l l5 : List Ob} {fs : List Ft}
    (hO : Own obK 59 W6 (g + 1) A2 l.length c2 l) (hF : Own ftK 48 W6 (g + 1) A3 fs.length c3 fs) (hg6 : g < W6.heap.size) (hb6 : Below w.heap.size w W6) (hwg : w.heap.size ≤ g) (hbW : Below W6.heap.size W6 W)
    (hN : Now g l5 (.slice A2 l.length c2) A5 n5 c5 W W') (hgr : W'.grownBy w7 (some W6.heap.size)) (hl5 : ∀ x ∈ l5, Ob.In w7 x) (hR : Has W' W6.heap.size #[.slice none 0 0, .int .i64 0, .slice none 0 0] ∨ W'.heap.size ≤ W6.heap.size) :
    Obs w7 A5 n5 c5 l5 ∧ Fts w7 A3 fs.length c3 fs ∧ Below g W6 w7 ∧ Below w.heap.size w w7 ∧ (∀ b off, A5 = some ⟨b, off, none⟩ → g < b) ∧ (∀ b off, A3 = some ⟨b, off, none⟩ → g < b) := by
  obtain ⟨h1, h2, h3, h4⟩ := hN
  have hbg : Below g W6 w7 := (hbW.mono (by omega)).trans (h3.trans (grown_below hgr (by have := h3.size; have := hbW.size; omega) (fun q hq => by injection hq with hq; omega)))
  have hbw : Below w.heap.size w w7 := hb6.trans (hbg.mono hwg)
  have hFW := hF.kept hbW
  refine ⟨?_, ?_, hbg, hbw, fun b off e => by subst e; exact (h1.lt b rfl).1, fun b off e => by subst e; exact (hFW.2.1.lt b rfl).1⟩
  · by_cases h0 : n5 = 0
    · subst h0
      obtain rfl : l5 = [] := List.length_eq_zero_iff.1 h2
      rcases h1.2 with ⟨e, _⟩ | ⟨q, cap, cur, e, _, _, h6, h7, _, _⟩
      · injection e with e1 e2 e3
        subst e1 e3
        exact Sl.nil _ _
      · injection e with e1 e2 e3
        subst e1 e3
        exact ⟨rfl, h6, by simpa [maxLen] using h7, (fun e => by cases e), fun hn => absurd rfl hn, by simp⟩
    · have r7 : w7.ownsRow (g + 1) 59 2 (.slice A5 n5 c5) n5 (l5.flatMap Ob.cells) := by
        refine h1.kept hgr ?_
        cases hv : (Value.slice A5 n5 c5).ownBlock with
        | none => exact .inl rfl
        | some q =>
          refine .inr (fun e => ?_)
          injection e with e
          subst e
          rcases hR with hR | hR
          · obtain ⟨q', cur, e1, _, _, h5, _, _, _, h9⟩ := owns_open h1 (by omega)
            have e2 : q' = W6.heap.size := by rw [e1] at hv; injection hv
            subst e2
            have c0 := hR.cell 0
            rw [row_cell h5] at c0
            have hx : ∃ x r, l5 = x :: r := by
              cases l5 with
              | nil => exact absurd h2.symm h0
              | cons x r => exact ⟨x, r, rfl⟩
            obtain ⟨x, r, rfl⟩ := hx
            have h10 : (cur.toList.take (n5 * 2))[0]? = some (.string x.name) := by rw [h9]; rfl
            rw [List.getElem?_take, if_pos (by omega), Array.getElem?_toList, c0] at h10
            cases h10
          · have := (h1.lt _ hv).2
            omega
      exact (show Own obK 59 w7 (g + 1) A5 n5 c5 l5 from ⟨h2, r7, fun x hx => hl5 x hx⟩).sl
  · refine Own.sl (K := ftK) (E := 48) (B := g + 1) ⟨hFW.1, owns_same hFW.2.1 (fun q hq => ?_), hFW.2.2⟩
    have hq2 := hFW.2.1.lt q hq
    have hq3 := (hF.2.1.lt q hq).2
    refine (hgr.block q (Nat.lt_of_lt_of_le hq2.2 h3.size) (fun e => by injection e with e; omega)).trans (h4 q hq2.2 (by omega) ?_)
    exact owns_apart hFW.2.1 (hO.kept hbW).2.1 (by decide) hq


/-- What Put's closure has done, as a list of objects: the new one among them. -/
theorem put_now {g : Nat} {l1 l2 : List Ob} {s : ByteArray} {bl : List UInt8} {v : Value} {A5 : Option Addr} {n5 c5 : Nat} {W W' : World} (h : PutE g l1 l2 s bl v A5 n5 c5 W W') :
    ∃ x : Ob, x.name = s ∧ x.bs = bl ∧ Sl u8K W' x.A x.n x.c bl ∧ (∀ b off, x.A = some ⟨b, off, none⟩ → W.heap.size ≤ b) ∧ Now g (l1 ++ x :: l2) v A5 n5 c5 W W' := by
  obtain ⟨x, h1, h2, h3, h4, h5, h6, h7, h8⟩ := h
  exact ⟨x, h1, h2, h3, h4, h5, h6, h7, h8⟩
/-- The new object behind done. -/
theorem put_in {x : Ob} {s : ByteArray} {bl : List UInt8} {W W' w7 : World} {r : Nat} (hs : x.name = s) (hb : x.bs = bl) (h : Sl u8K W' x.A x.n x.c bl) (ha : ∀ b off, x.A = some ⟨b, off, none⟩ → W.heap.size ≤ b) (hr : r < W.heap.size) (hg : W'.grownBy w7 (some r)) (hn : s.size ≤ maxLen) (hm : bl.length ≤ 140737488355328) : Ob.In w7 x := by
  refine ⟨?_, by rw [← h.len]; exact hm, by rw [hs]; exact hn⟩
  rw [hb]
  exact h.apart hg (fun b off e e2 => by injection e2 with e2; have := ha b off e; omega) (fun _ _ => trivial)

end Go.Proofs.Ytnnmppnbkplamaa
