/- Rows of the call's own whose elements lead elsewhere: the cells alone; append of one element. -/
import Derived.Test.YtmlgahambecamaaRes
import Derived.Test.YtmlgahambecamaaApp
namespace Go.Proofs.Ytmlgahambecamaa
open Go.RowKit

/-- A row of the call's own: its cells alone. -/
def ROwn {α : Type} (K : RK α) (E : TypeId) (w : World) (B : Nat) (A : Option Addr) (n c : Nat) (l : List α) : Prop := l.length = n ∧ w.ownsRow B E K.size (.slice A n c) n (l.flatMap K.cells)
theorem ROwn.nil {α : Type} (K : RK α) (E : TypeId) (w : World) (B : Nat) : ROwn K E w B none 0 0 [] := ⟨rfl, World.ownsRow_nil _ _ _ _⟩
theorem ROwn.own {α : Type} {K : RK α} {E : TypeId} {w : World} {B : Nat} {A : Option Addr} {n c : Nat} {l : List α} (h : ROwn K E w B A n c l) (hi : ∀ a ∈ l, K.In w a) : Own K E w B A n c l := ⟨h.1, h.2, hi⟩
theorem Own.rown {α : Type} {K : RK α} {E : TypeId} {w : World} {B : Nat} {A : Option Addr} {n c : Nat} {l : List α} (h : Own K E w B A n c l) : ROwn K E w B A n c l := ⟨h.1, h.2.1⟩
theorem ROwn.kept {α : Type} {K : RK α} {E : TypeId} {w w' : World} {B : Nat} {A : Option Addr} {n c : Nat} {l : List α} (h : ROwn K E w B A n c l) (hb : Below w.heap.size w w') : ROwn K E w' B A n c l :=
  ⟨h.1, h.2.kept (row := none) ⟨hb.os, hb.tape, hb.output, hb.size, fun k hk _ => hb.block k hk⟩ (by cases hv : (Value.slice A n c).ownBlock <;> simp)⟩
theorem ROwn.apart {α : Type} {K : RK α} {E : TypeId} {w w' : World} {B : Nat} {A : Option Addr} {n c : Nat} {l : List α} {r : Option Nat} (h : ROwn K E w B A n c l) (hg : w.grownBy w' r) (hne : ∀ b, (Value.slice A n c).ownBlock = some b → r ≠ some b) : ROwn K E w' B A n c l := by
  refine ⟨h.1, h.2.kept hg ?_⟩
  cases hv : (Value.slice A n c).ownBlock with
  | none => exact .inl rfl
  | some q => exact .inr (fun e => hne q hv e.symm)
theorem ROwn.grown {α : Type} {K : RK α} {E : TypeId} {w w' : World} {B g : Nat} {A : Option Addr} {n c : Nat} {l : List α} (h : ROwn K E w B A n c l) (hg : w.grownBy w' (some g)) (hgB : g < B) : ROwn K E w' B A n c l :=
  h.apart hg (fun b hb e => by injection e with e; have := (h.2.lt b hb).1; omega)
theorem ROwn.base {α : Type} {K : RK α} {E : TypeId} {w : World} {B B' : Nat} {A : Option Addr} {n c : Nat} {l : List α} (h : ROwn K E w B A n c l) (hB : B' ≤ B) : ROwn K E w B' A n c l := ⟨h.1, owns_base h.2 hB⟩

theorem wpList_app1R {α : Type} {K : RK α} {P : Program} (w : World) {ops : Array Oper} {rest : List Oper} {o : Oper} {a : Act} {Q : Exit → Act → World → Prop} (hgd : o.guard = none) (s x : Operand) (t : TypeId)
    (ho : o.op = .call { callee := .builtin .append, args := #[s, x], argTypes := #[t, t] })
    (base : Nat) (e : TypeId) (i : TypeInfo) (z : Value) (bytes : Nat) (ht : P.underlying t = some (.slice e)) (hi : P.info? e = some i) (hz : i.zero = some z)
    (hsize : i.size = K.size) (hby : i.bytes = bytes) (hzs : z.cells.size = K.size)
    (A : Option Addr) (n c : Nat) (l : List α) (hs : a.eval s = .slice A n c) (hown : ROwn K e w base A n c l)
    (g : Nat) (hx : a.eval x = .slice (some ⟨g, 0, none⟩) 1 1) (y : α) (hg : ∀ j, j < K.size → w.cell? ⟨g, j, none⟩ = (K.cells y)[j]?)
    (hmax : n + 1 ≤ maxLen) (hbytes : (n + 1) * bytes ≤ 140737488355328) (hbase : base ≤ w.heap.size)
    (h : ∀ A' c' w', ROwn K e w' base A' (n + 1) c' (l ++ [y]) → w.grownBy w' (Value.slice A n c).ownBlock →
      ((Value.slice A' (n + 1) c').ownBlock = (Value.slice A n c).ownBlock ∨ (Value.slice A' (n + 1) c').ownBlock = some w.heap.size) → wpList P ops Q rest (a.put o.dst (.slice A' (n + 1) c')) w') :
    wpList P ops Q (o :: rest) a w := by
  refine wpList_append_own_at w hgd s x t ho base e i z K.size bytes ht hi hz hsize hby hzs K.pos (.slice A n c) n _ hs hown.2 ⟨g, 0, none⟩ 1 1 (K.cells y) hx (by rw [K.len, Nat.one_mul]) ?_ (K.one y) hmax hbytes hbase ?_
  · intro j u hu
    have hj : j < K.size := by have := (List.getElem?_eq_some_iff.1 hu).1; rwa [K.len] at this
    rw [Addr.add_lit, Nat.zero_add, hg j hj, hu]
  intro v' w' h2 h3 _ h5
  obtain ⟨A', n2, c', rfl⟩ : ∃ A' n2 c', v' = .slice A' n2 c' := by obtain ⟨A', c', e⟩ := owns_form h2; exact ⟨A', _, c', e⟩
  have hn2 : n2 = n + 1 := by
    rcases h2.2 with ⟨e1, h0⟩ | ⟨g, cap, cur, e1, _, _, h6, _⟩
    · injection e1 with _ e3 _; omega
    · injection e1 with _ e3 _
  subst hn2
  refine h A' c' w' ⟨by rw [List.length_append, hown.1]; rfl, ?_⟩ h3 h5
  rw [List.flatMap_append, List.flatMap_cons, List.flatMap_nil, List.append_nil]; exact h2

end Go.Proofs.Ytmlgahambecamaa
