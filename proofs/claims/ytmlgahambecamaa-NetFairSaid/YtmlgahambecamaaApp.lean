/- append of a slice that reads as a list, nil or not, to a row of the call's own; of no function. -/
import Derived.Test.YtmlgahambecamaaKnd
import Derived.Maps.AppendAt
namespace Go.Proofs.Ytmlgahambecamaa
open Go.RowKit

theorem run_append_none {P : Program} (w : World) (t ty e : TypeId) (i : TypeInfo) (ht : P.underlying t = some (.slice e)) (hi : P.info? e = some i) (A : Option Addr) (n c : Nat) (hnc : n ≤ c) :
    (Builtin.append_ #[t, t] ty #[.slice A n c, .slice none 0 0]).run P w = .ok (.slice A n c) w := by
  cases A <;> simp [Builtin.append_, run_underlying ht, Builtin.firstCells, Builtin.lenOf, sizeOf, typeInfo, hi, hnc, storeCells]

theorem wpList_append_sl {α : Type} {K : RK α} {P : Program} (w : World) {ops : Array Oper} {rest : List Oper} {o : Oper} {a : Act} {Q : Exit → Act → World → Prop} (hgd : o.guard = none) (s x : Operand) (t : TypeId)
    (ho : o.op = .call { callee := .builtin .append, args := #[s, x], argTypes := #[t, t] })
    (base : Nat) (e : TypeId) (i : TypeInfo) (z : Value) (bytes : Nat) (ht : P.underlying t = some (.slice e)) (hi : P.info? e = some i) (hz : i.zero = some z)
    (hsize : i.size = K.size) (hby : i.bytes = bytes) (hzs : z.cells.size = K.size)
    (A0 : Option Addr) (n c : Nat) (xs : List Value) (hs : a.eval s = .slice A0 n c) (hown : w.ownsRow base e K.size (.slice A0 n c) n xs)
    (A : Option Addr) (m cm : Nat) (l : List α) (hx : a.eval x = .slice A m cm) (hsl : Sl K w A m cm l)
    (h63 : n + m ≤ maxLen) (hbytes : (n + m) * bytes ≤ 140737488355328) (hbase : base ≤ w.heap.size)
    (h : ∀ A' c' w', w'.ownsRow base e K.size (.slice A' (n + m) c') (n + m) (xs ++ l.flatMap K.cells) → w.grownBy w' (Value.slice A0 n c).ownBlock →
      ((Value.slice A' (n + m) c').ownBlock = (Value.slice A0 n c).ownBlock ∨ (Value.slice A' (n + m) c').ownBlock = some w.heap.size) → wpList P ops Q rest (a.put o.dst (.slice A' (n + m) c')) w') :
    wpList P ops Q (o :: rest) a w := by
  cases A with
  | none =>
    obtain ⟨rfl, rfl⟩ := hsl.adr rfl
    obtain rfl : l = [] := List.length_eq_zero_iff.1 hsl.len
    have hnc : n ≤ c := by
      rcases hown.2 with ⟨e1, h0⟩ | ⟨g, cap, cur, e1, _, _, h6, _⟩
      · omega
      · injection e1 with _ _ e3; omega
    refine wpList_plain hgd fun Kn hK => ?_
    unfold Oper.wp execOp
    simp only [ho, resolve, invoke, builtin, Sem.run_bind, Sem.run_pure, Result.andThen_ok, List.map_toArray, List.map_cons, List.map_nil, hs, hx, run_append_none w t o.type e i ht hi A0 n c hnc]
    refine hK _ _ ?_
    have := h A0 c w (by simpa using hown) ⟨rfl, rfl, rfl, Nat.le_refl _, fun _ _ _ => rfl⟩ (.inl rfl)
    simpa using this
  | some ad =>
    refine wpList_append_own_at w hgd s x t ho base e i z K.size bytes ht hi hz hsize hby hzs K.pos (.slice A0 n c) n xs hs hown ad m cm (l.flatMap K.cells) hx hsl.flat_len hsl.news (RK.flat_one K l) h63 hbytes hbase ?_
    intro v' w' h2 h3 _ h5
    obtain ⟨A', n2, c', rfl⟩ : ∃ A' n2 c', v' = .slice A' n2 c' := by obtain ⟨A', c', e⟩ := owns_form h2; exact ⟨A', _, c', e⟩
    have hn2 : n2 = n + m := by
      rcases h2.2 with ⟨e1, h0⟩ | ⟨g, cap, cur, e1, _, _, h6, _⟩
      · injection e1 with _ e3 _; omega
      · injection e1 with _ e3 _
    subst hn2
    exact h A' c' w' h2 h3 h5

/-- append of one element, out of a box of its own, to a row of the call's own. -/
theorem wpList_app1 {α : Type} {K : RK α} {P : Program} (w : World) {ops : Array Oper} {rest : List Oper} {o : Oper} {a : Act} {Q : Exit → Act → World → Prop} (hgd : o.guard = none) (s x : Operand) (t : TypeId)
    (ho : o.op = .call { callee := .builtin .append, args := #[s, x], argTypes := #[t, t] })
    (base : Nat) (e : TypeId) (i : TypeInfo) (z : Value) (bytes : Nat) (ht : P.underlying t = some (.slice e)) (hi : P.info? e = some i) (hz : i.zero = some z)
    (hsize : i.size = K.size) (hby : i.bytes = bytes) (hzs : z.cells.size = K.size)
    (A : Option Addr) (n c : Nat) (l : List α) (hs : a.eval s = .slice A n c) (hown : Own K e w base A n c l)
    (g : Nat) (hx : a.eval x = .slice (some ⟨g, 0, none⟩) 1 1) (y : α) (hg : ∀ j, j < K.size → w.cell? ⟨g, j, none⟩ = (K.cells y)[j]?) (hy : K.In w y) (hin : ∀ w' a, K.In w a → K.In w' a)
    (hmax : n + 1 ≤ maxLen) (hbytes : (n + 1) * bytes ≤ 140737488355328) (hbase : base ≤ w.heap.size)
    (h : ∀ A' c' w', Own K e w' base A' (n + 1) c' (l ++ [y]) → w.grownBy w' (Value.slice A n c).ownBlock →
      ((Value.slice A' (n + 1) c').ownBlock = (Value.slice A n c).ownBlock ∨ (Value.slice A' (n + 1) c').ownBlock = some w.heap.size) → wpList P ops Q rest (a.put o.dst (.slice A' (n + 1) c')) w') :
    wpList P ops Q (o :: rest) a w := by
  refine wpList_append_own_at w hgd s x t ho base e i z K.size bytes ht hi hz hsize hby hzs K.pos (.slice A n c) n _ hs hown.2.1 ⟨g, 0, none⟩ 1 1 (K.cells y) hx (by rw [K.len, Nat.one_mul]) ?_ (K.one y) hmax hbytes hbase ?_
  · intro j u hu
    have hj : j < K.size := by have := (List.getElem?_eq_some_iff.1 hu).1; rwa [K.len] at this
    rw [Addr.add_lit, Nat.zero_add, hg j hj, hu]
  intro v' w' h2 h3 _ h5
  obtain ⟨A', n2, c', rfl⟩ : ∃ A' n2 c', v' = .slice A' n2 c' := by obtain ⟨A', c', e⟩ := owns_form h2; exact ⟨A', _, c', e⟩
  have hn2 : n2 = n + 1 := by
    rcases h2.2 with ⟨e1, h0⟩ | ⟨g, cap, cur, e1, _, _, h6, _⟩
    · injection e1 with _ e3 _; omega
    · injection e1 with _ e3 _
  subst hn2
  refine h A' c' w' ⟨by rw [List.length_append, hown.1]; rfl, ?_, fun b hb => ?_⟩ h3 h5
  · rw [List.flatMap_append, List.flatMap_cons, List.flatMap_nil, List.append_nil]; exact h2
  · rcases List.mem_append.1 hb with hb | hb
    · exact hin _ _ (hown.2.2 b hb)
    · simp only [List.mem_singleton] at hb; subst hb; exact hin _ _ hy

end Go.Proofs.Ytmlgahambecamaa
