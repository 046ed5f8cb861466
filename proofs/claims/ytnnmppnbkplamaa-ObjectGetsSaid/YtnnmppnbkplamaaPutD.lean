/- What becomes of a store behind Put's done. -/
import Derived.Test.YtnnmppnbkplamaaPutN
import Derived.Test.YtnnmppnbkplamaaPutL
namespace Go.Proofs.Ytnnmppnbkplamaa
open Go.RowKit Go.Shelf

theorem Has.of_heap {w w' : World} {b : Nat} {cs : Array Value} (h : Has w b cs) (hh : w'.heap[b]? = w.heap[b]?) (hs : w.heap.size ≤ w'.heap.size) : Has w' b cs := by
  refine ⟨fun i => ?_, fun i => ?_, Nat.lt_of_lt_of_le h.lt hs⟩
  · rw [← h.cell i]; unfold World.cell?; simp only [hh]
  · rw [← h.free i]; unfold World.frozen?; simp only [hh]

theorem put_after {w W6 w7 : World} {e : Ending} {g i : Nat} {A2 A3 : Option Addr} {c2 c3 : Nat} {l r : List Ob} {fs : List Ft} {s : ByteArray} {bl : List UInt8} {calls ft : Int} {b : Bool}
    (hO : Own obK 59 W6 (g + 1) A2 l.length c2 l) (hF : Own ftK 48 W6 (g + 1) A3 fs.length c3 fs) (hg6 : g < W6.heap.size) (hb6 : Below w.heap.size w W6) (hwg : w.heap.size ≤ g)
    (hl : ∀ x ∈ l, Ob.In w x) (hr : Rises l) (ha : AtR l s i b) (hrr : r = if b = true then l.drop (i + 1) else l.drop i) (hs : s.size ≤ maxLen) (hbl : bl.length ≤ 140737488355328)
    (h : DoneR W6 g A2 l.length c2 calls A3 fs.length c3 ft (PutE g (l.take i) r s bl (.slice A2 l.length c2)) (PutE g (l.take i) r s (bl.take (bl.length / 2)) (.slice A2 l.length c2)) e w7) :
    ∃ A5 n5 c5 l5, e = .returned (.tuple #[stV A5 n5 c5 calls A3 fs.length c3, .int .i64 (doneE ft)]) ∧ Obs w7 A5 n5 c5 l5 ∧ l5.map Ob.val = putL (l.map Ob.val) s bl ft ∧ Fts w7 A3 fs.length c3 fs ∧ Below g W6 w7 ∧ Below w.heap.size w w7 ∧
      (∀ b off, A5 = some ⟨b, off, none⟩ → g < b) ∧ (∀ b off, A3 = some ⟨b, off, none⟩ → g < b) ∧ (∀ b cs, b ≠ g → (Value.slice A2 l.length c2).ownBlock ≠ some b → Has W6 b cs → Has w7 b cs) ∧
      ∀ w8 r, r < W6.heap.size → w.heap.size ≤ r → w7.grownBy w8 (some r) → ∀ x ∈ l5, Ob.In w8 x := by
  obtain ⟨A5, n5, c5, W, W', he, hbW, _, hif, hgr, hRR, hlt⟩ := h
  have KEY : ∃ l5, Now g l5 (.slice A2 l.length c2) A5 n5 c5 W W' ∧ l5.map Ob.val = putL (l.map Ob.val) s bl ft ∧ ∀ x ∈ l5, x ∈ l ∨ ∀ w', W'.grownBy w' (some W6.heap.size) → Ob.In w' x ∧ ∀ w8 r, r < W6.heap.size → w'.grownBy w8 (some r) → Ob.In w8 x := by
    unfold putL putBs
    by_cases f1 : ft = 1
    · rw [if_pos f1] at hif
      obtain ⟨rfl, rfl, rfl, rfl⟩ := hif
      exact ⟨l, now_same (hO.kept hbW), by rw [if_pos f1], fun x hx => .inl hx⟩
    · rw [if_neg f1] at hif
      have hlt' : W6.heap.size < W.heap.size := by rcases hlt with h | h; exact absurd h f1; exact h
      have go : ∀ bs : List UInt8, bs.length ≤ 140737488355328 → PutE g (l.take i) r s bs (.slice A2 l.length c2) A5 n5 c5 W W' → ∃ l5, Now g l5 (.slice A2 l.length c2) A5 n5 c5 W W' ∧ l5.map Ob.val = insO s bs (l.map Ob.val) ∧ ∀ x ∈ l5, x ∈ l ∨ ∀ w', W'.grownBy w' (some W6.heap.size) → Ob.In w' x ∧ ∀ w8 r, r < W6.heap.size → w'.grownBy w8 (some r) → Ob.In w8 x := by
        intro bs hbs hp
        obtain ⟨x, hn, hb, hsl, had, hnow⟩ := put_now hp
        refine ⟨_, hnow, ?_, fun y hy => ?_⟩
        · rw [hrr]
          exact ins_at hr ha hn hb
        · rcases List.mem_append.1 hy with hy | hy
          · exact .inl (List.mem_of_mem_take hy)
          · rcases List.mem_cons.1 hy with rfl | hy
            · exact .inr (fun w' hg' => by
                have h0 := put_in hn hb hsl had hlt' hg' hs hbs
                exact ⟨h0, fun w8 r hr' hg8 => ⟨h0.sl.apart hg8 (fun b off e e2 => by injection e2 with e2; have := had b off e; omega) (fun _ _ => trivial), h0.max, h0.nm⟩⟩)
            · refine .inl ?_
              rw [hrr] at hy
              split at hy <;> exact List.mem_of_mem_drop hy
      by_cases f3 : ft = 3
      · rw [if_pos f3] at hif
        rw [if_neg f1, if_pos f3]
        exact go _ (by rw [List.length_take]; omega) hif
      · rw [if_neg f3] at hif
        rw [if_neg f1, if_neg f3]
        exact go _ hbl hif
  obtain ⟨l5, hN, hv5, hm5⟩ := KEY
  have hbg : Below g W6 w7 := (hbW.mono (by omega)).trans (hN.2.2.1.trans (grown_below hgr (by have := hN.2.2.1.size; have := hbW.size; omega) (fun q hq => by injection hq with hq; omega)))
  have hbw : Below w.heap.size w w7 := hb6.trans (hbg.mono hwg)
  obtain ⟨q1, q2, q3, q4, q5, q6⟩ := after_done_in hO hF hg6 hb6 hwg hbW hN hgr (fun x hx => by rcases hm5 x hx with h | h; exact (hl x h).below hbw; exact (h w7 hgr).1) hRR
  refine ⟨A5, n5, c5, l5, he, q1, hv5, q2, q3, q4, q5, q6, fun b cs hbg hv hh => ?_, fun w8 r hr1 hr2 hg8 x hx => ?_⟩
  · have hb6' := hh.lt
    have h1 := hh.past hbW
    have h2 : Has W' b cs := h1.of_heap (hN.2.2.2 b h1.lt hbg hv) hN.2.2.1.size
    exact h2.beside hgr (by intro e; injection e with e; omega)
  · rcases hm5 x hx with h | h
    · exact (hl x h).below (hbw.trans (grown_below hg8 hbw.size (fun q hq => by injection hq with hq; omega)))
    · exact (h w7 hgr).2 w8 r hr1 hg8

end Go.Proofs.Ytnnmppnbkplamaa
