/- What the laws' walks share. -/
import Derived.Test.YtmlgahambecamaaLive
import Derived.Test.YtmlgahambecamaaSameN
import Derived.Test.YtmlgahambecamaaFew
import Derived.Deep.DeepCutAuto
namespace Go.Proofs.Ytmlgahambecamaa
open Go.RowKit Go.Shelf

/-- Two nets that are the same. -/
theorem same_at {w : World} {p q : Nt} {V : Nv} (h : Nt.Is w p V) (k : Nt.Is w q V) : Calls Try.prog 17 #[p.v, q.v] w fun e w' => e = .returned (.bool true) ∧ Below w.heap.size w w' := by
  have := same_any p q w h.1 k.1
  rw [h.2, k.2, decide_eq_true rfl] at this
  exact this
theorem msgs_at {w : World} {A A' : Option Addr} {n c n' c' : Nat} {l m : List Mg} {M : List Mv} (h : Ms w A n c l M) (k : Ms w A' n' c' m M) : Calls Try.prog 23 #[.slice A n c, .slice A' n' c'] w fun e w' => e = .returned (.bool true) ∧ Below w.heap.size w w' := by
  have := msgs_any A n c l A' n' c' m w h.1 k.1
  rw [h.2, k.2, decide_eq_true rfl] at this
  exact this
/-- An operation whose guard holds, as if it had none. -/
theorem wpList_unguard {P : Program} {ops : Array Oper} {rest : List Oper} {o : Oper} {a : Act} {w : World} {Q : Exit → Act → World → Prop} (hw : Region.wanted o (yielded ops a.tmps) = true) (h : wpList P ops Q ({ o with guard := none } :: rest) a w) : wpList P ops Q (o :: rest) a w := by
  unfold wpList at h ⊢
  rw [if_pos hw]
  rw [if_pos (show Region.wanted { o with guard := none } (yielded ops a.tmps) = true from rfl)] at h
  exact h
/-- A row of messages of the call's own: their times may be set. -/
def Bump (w : World) (B : Nat) (A : Option Addr) (n c : Nat) : Prop := ∃ xs, w.ownsRow B 40 5 (.slice A n c) n xs ∧ ∀ i, i < n → ∃ t : Int, xs[i * 5]? = some (.int .i64 t)
theorem Bump.mk_of {w : World} {B : Nat} {A : Option Addr} {n c : Nat} {l : List Mg} (h : ROwn mgK 40 w B A n c l) : Bump w B A n c := by
  refine ⟨_, h.2, fun i hi => ⟨(l[i]'(by rw [h.1]; exact hi)).t, ?_⟩⟩
  have := flat_get mgK.cells 5 mgK.len l i 0 (by rw [h.1]; exact hi) (by decide)
  exact this
theorem Bump.apart {w w' : World} {B : Nat} {A : Option Addr} {n c : Nat} {r : Option Nat} (h : Bump w B A n c) (hg : w.grownBy w' r) (hne : ∀ b, (Value.slice A n c).ownBlock = some b → r ≠ some b) : Bump w' B A n c := by
  obtain ⟨xs, h1, h2⟩ := h
  refine ⟨xs, h1.kept hg ?_, h2⟩
  cases hv : (Value.slice A n c).ownBlock with
  | none => exact .inl rfl
  | some q => exact .inr (fun e => hne q hv e.symm)
theorem Bump.kept {w w' : World} {B : Nat} {A : Option Addr} {n c : Nat} (h : Bump w B A n c) (hb : Below w.heap.size w w') : Bump w' B A n c :=
  h.apart (r := none) ⟨hb.os, hb.tape, hb.output, hb.size, fun k hk _ => hb.block k hk⟩ (fun b _ e => by cases e)
theorem Bump.lt {w : World} {B : Nat} {A : Option Addr} {n c : Nat} (h : Bump w B A n c) : ∀ b, (Value.slice A n c).ownBlock = some b → B ≤ b ∧ b < w.heap.size := by
  obtain ⟨xs, h1, _⟩ := h
  exact h1.lt
theorem Bump.at {w : World} {B : Nat} {A : Option Addr} {n c k : Nat} (h : Bump w B A n c) (hk : k < n) :
    ∃ (g : Nat) (t : Int), A = some ⟨g, 0, none⟩ ∧ B ≤ g ∧ g < w.heap.size ∧ w.cell? ⟨g, k * 5, none⟩ = some (.int .i64 t) ∧ w.frozen? ⟨g, k * 5, none⟩ = false ∧ (n ≤ c ∧ c ≤ 9223372036854775807) ∧
      ∀ u : Int, Bump (w.setCell ⟨g, k * 5, none⟩ (.int .i64 u)) B (some ⟨g, 0, none⟩) n c ∧ w.grownBy (w.setCell ⟨g, k * 5, none⟩ (.int .i64 u)) (some g) := by
  obtain ⟨xs, h1, h2⟩ := h
  obtain ⟨g, cur, rfl, hB, hgl, hg, hnc, hcm, hcs, htk⟩ := owns_open h1 (by omega)
  obtain ⟨t, ht⟩ := h2 k hk
  refine ⟨g, t, rfl, hB, hgl, ?_, h1.frozenAt _, ⟨hnc, by simpa [maxLen] using hcm⟩, fun u => ⟨⟨_, (h1.stored (k * 5) (.int .i64 u)).1, fun i hi => ?_⟩, (h1.stored (k * 5) (.int .i64 u)).2⟩⟩
  · rw [h1.cellAt (k * 5) (by omega), ht]
  · by_cases e : i = k
    · subst e
      exact ⟨u, by rw [List.getElem?_set_self (List.getElem?_eq_some_iff.1 ht).1]⟩
    · obtain ⟨t', ht'⟩ := h2 i hi
      exact ⟨t', by rw [List.getElem?_set_ne (by omega)]; exact ht'⟩
theorem grown_cell {w w' : World} {g b i : Nat} (hg : w.grownBy w' (some g)) (hb : b < w.heap.size) (hne : b ≠ g) : w'.cell? ⟨b, i, none⟩ = w.cell? ⟨b, i, none⟩ :=
  World.cell?_of_block (a := ⟨b, i, none⟩) (hg.block b hb (fun e => hne (by injection e)))
/-- A net that a call made: its rows are the call's own. -/
theorem net_own {f : Nat} {args : Array Value} {w : World} {r : Nv × Int} {V : Nv} {c : Int} (h : Calls Try.prog f args w fun e w' => NetRes w.heap.size r e w' ∧ Below w.heap.size w w') (hr : r = (V, c)) :
    Calls Try.prog f args w fun e w' => ∃ q : Nt, e = .returned (.tuple #[q.v, .int .i64 c]) ∧ (Nt.Is w' q V ∧ ROwn mgK 40 w' w.heap.size q.LA q.Ln q.Lc q.L) ∧ Below w.heap.size w w' := by
  subst hr
  refine h.mono ?_
  rintro e w' ⟨⟨q, h1, h2, h3⟩, h4⟩
  exact ⟨q, h1, ⟨⟨h3.at_, h2⟩, h3.l.rown⟩, h4⟩
theorem tick_own {f : Nat} {args : Array Value} {w : World} {r : Nv × List Mv × Int} {V : Nv} {M : List Mv} {c : Int} (h : Calls Try.prog f args w fun e w' => TickRes w.heap.size r e w' ∧ Below w.heap.size w w') (hr : r = (V, M, c)) :
    Calls Try.prog f args w fun e w' => ∃ (q : Nt) (A : Option Addr) (n c' : Nat) (l : List Mg), e = .returned (.tuple #[q.v, .slice A n c', .int .i64 c]) ∧ (Nt.Is w' q V ∧ ROwn mgK 40 w' w.heap.size q.LA q.Ln q.Lc q.L) ∧
      (Ms w' A n c' l M ∧ ROwn mgK 40 w' w.heap.size A n c' l ∧ (∀ b, (Value.slice A n c').ownBlock = some b → (Value.slice q.LA q.Ln q.Lc).ownBlock ≠ some b)) ∧ Below w.heap.size w w' := by
  subst hr
  refine h.mono ?_
  rintro e w' ⟨⟨q, A, n, c', l, h1, h2, h3, h4, h5, h7⟩, h6⟩
  exact ⟨q, A, n, c', l, h1, ⟨⟨h4.at_, h2⟩, h4.l.rown⟩, ⟨⟨h5.sl, h3⟩, h5.rown, h7⟩, h6⟩
theorem open_at {w : World} {q : Nt} {V : Nv} {a b : Int} {r : Bool} (h : Nt.Is w q V) (hs : V.S.length ≤ 50000) (hr : openB V a b = r) : Calls Try.prog 25 #[q.v, .int .i64 a, .int .i64 b] w fun e w' => e = .returned (.bool r) ∧ Below w.heap.size w w' := by
  have := open_any q a b w h.1 (by rw [h.lens.2.1]; exact hs)
  rw [h.2, hr] at this
  exact this
end Go.Proofs.Ytmlgahambecamaa
