/- append of a slice that reads as a list, nil or not, to a row of the call's own; of no function. -/
import Derived.Test.YtnnmppnbkplamaaKnd
import Derived.Maps.AppendAt
namespace Go.Proofs.Ytnnmppnbkplamaa
open Go.RowKit

theorem run_append_none {P : Program} (w : World) (t ty e : TypeId) (i : TypeInfo) (ht : P.underlying t = some (.slice e)) (hi : P.info? e = some i) (A : Option Addr) (n c : Nat) (hnc : n ≤ c) :
    (Builtin.append_ #[t, t] ty #[.slice A n c, .slice none 0 0]).run P w = .ok (.slice A n c) w := by
  cases A <;> simp [Builtin.append_, run_underlying ht, Builtin.firstCells, Builtin.lenOf, sizeOf, typeInfo, hi, hnc, storeCells]

theorem wpList_append_sl {α : Type} {K : RK α} {P : Program} (w : World) {ops : Array Oper} {rest : List Oper} {o : Oper} {a : Act} {Q : Exit → Act → World → Prop} (hgd : o.guard = none) (s x : Operand) (t : TypeId)
    (ho : o.op = .call { callee := .builtin .append, args := #[s, x], argTypes := #[t, t] })
    (base : Nat) (e : TypeId) (i : TypeInfo) (z : Value) (bytes : Nat) (ht : P.underlying t = some (.slice e)) (hi : P.info? e = some i) (hz : i.zero = some z)
    (hsize : i.size = K.size) (hby : i.bytes = bytes) (hzs : z.cells.size = K.size)
    (A0 : Option Addr) (n c : Nat) (xs : List Value) (hs : a.eval s = .slice A0 n c) (hown : w.ownsRow base e K.size (.slice A0 n c) n xs)
    (A : Option Addr) (m cm : Nat) (l : List α) (hx : a.eval x = .slice A m cm) (hsl : Sl K w A m cm l)
    (h63 : n + m ≤ maxLen) (hbytes : (n + m) * bytes ≤ 140737488355328) (hbase : base ≤ w.heap.size)
    (h : ∀ A' c' w', w'.ownsRow base e K.size (.slice A' (n + m) c') (n + m) (xs ++ l.flatMap K.cells) → w.grownBy w' (Value.slice A0 n c).ownBlock →
      ((Value.slice A' (n + m) c').ownBlock = (Value.slice A0 n c).ownBlock ∨ (Value.slice A' (n + m) c').ownBlock = some w.heap.size) → wpList P ops Q rest (a.put o.dst (.slice A' (n + m) c')) w') :
    wpList P ops Q (o :: rest) a w := by
  cases A with
  | none =>
    obtain ⟨rfl, rfl⟩ := hsl.adr rfl
    obtain rfl : l = [] := List.length_eq_zero_iff.1 hsl.len
    have hnc : n ≤ c := by
      rcases hown.2 with ⟨e1, h0⟩ | ⟨g, cap, cur, e1, _, _, h6, _⟩
      · omega
      · injection e1 with _ _ e3; omega
    refine wpList_plain hgd fun Kn hK => ?_
    unfold Oper.wp execOp
    simp only [ho, resolve, invoke, builtin, Sem.run_bind, Sem.run_pure, Result.andThen_ok, List.map_toArray, List.map_cons, List.map_nil, hs, hx, run_append_none w t o.type e i ht hi A0 n c hnc]
    refine hK _ _ ?_
    have := h A0 c w (by simpa using hown) ⟨rfl, rfl, rfl, Nat.le_refl _, fun _ _ _ => rfl⟩ (.inl rfl)
    simpa using this
  | some ad =>
    refine wpList_append_own_at w hgd s x t ho base e i z K.size bytes ht hi hz hsize hby hzs K.pos (.slice A0 n c) n xs hs hown ad m cm (l.flatMap K.cells) hx hsl.flat_len hsl.news (RK.flat_one K l) h63 hbytes hbase ?_
    intro v' w' h2 h3 _ h5
    obtain ⟨A', n2, c', rfl⟩ : ∃ A' n2 c', v' = .slice A' n2 c' := by obtain ⟨A', c', e⟩ := owns_form h2; exact ⟨A', _, c', e⟩
    have hn2 : n2 = n + m := by
      rcases h2.2 with ⟨e1, h0⟩ | ⟨g, cap, cur, e1, _, _, h6, _⟩
      · injection e1 with _ e3 _; omega
      · injection e1 with _ e3 _
    subst hn2
    exact h A' c' w' h2 h3 h5

end Go.Proofs.Ytnnmppnbkplamaa
