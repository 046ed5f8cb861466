/- What came in, opened, where it is of a bulk: a slice's elements weigh no more than the bulk. -/
import Derived.Test.YthjohjijcgiogaaOpn
import Derived.Test.YthjohjijcgiogaaRows
import Derived.JoinedCond
namespace Go.Proofs.Ythjohjijcgiogaa
open Go.ChangeShapes Go.WideShapes Go.ChangeAt Go.RowKit

section
variable {H : Type} {enc : TypeId × Value → H} {P : Program}

/-- Cells of a type that read as a datum of some bulk are those of an element, of no greater weight. -/
def OpensU {α : Type} (enc : TypeId × Value → H) (P : Program) (K : RK α) (E : TypeId) (f : α → Nat) : Prop :=
  ∀ (w : World) (base : Nat) (spare : Nat → Bool) (held : Bool) (fuel : Nat) (cs : List Value) (d : DataW H) (ps : List MemPlace), DataW.trod enc P w base spare held fuel E cs = some (d, ps) → Rows.uptoBulk d ≤ 1048576 → ∃ a, cs = K.cells a ∧ K.In w a ∧ f a ≤ Rows.uptoBulk d

theorem bulk_sum : ∀ (D : Nat → DataW H) (k : Nat), Rows.uptoBulkAll ((List.range k).map D) = ((List.range k).map fun i => Rows.uptoBulk (D i)).sum := by
  have key : ∀ l : List (DataW H), Rows.uptoBulkAll l = (l.map Rows.uptoBulk).sum := by
    intro l
    induction l with
    | nil => rfl
    | cons a l ih => rw [List.map_cons, List.sum_cons, ← ih]; rfl
  intro D k
  rw [key, List.map_map]
  rfl
theorem bulk_at (D : Nat → DataW H) {k i : Nat} (hi : i < k) : Rows.uptoBulk (D i) ≤ ((List.range k).map fun i => Rows.uptoBulk (D i)).sum := by
  induction k with
  | zero => omega
  | succ k ih =>
    rw [List.range_succ, List.map_append, List.sum_append]
    rcases Nat.lt_or_ge i k with h | h
    · have := ih h; omega
    · obtain rfl : i = k := by omega
      simp

/-- A slice of such. -/
theorem opens_sliceU {α : Type} {K : RK α} {E T : TypeId} {f : α → Nat} (hO : OpensU enc P K E f) (hT : P.underlying T = some (.slice E)) (hs : P.cellsOf E = K.size)
    {w : World} {base : Nat} {spare : Nat → Bool} {held : Bool} {fuel : Nat} {v : Value} {d : DataW H} {ps : List MemPlace} (h : DataW.trod enc P w base spare held fuel T [v] = some (d, ps)) (hw : Rows.uptoBulk d ≤ 1048576) :
    ∃ A n c l, v = .slice A n c ∧ Sl K w A n c l ∧ (l.map f).sum ≤ Rows.uptoBulk d := by
  rcases Go.Deep.open_slice hT h with ⟨e, hx⟩ | ⟨a, len, cap, m, n, D, Pl, e, hb, hlc, hcm, hm, hx, hel⟩
  · injection e with e
    subst e
    exact ⟨none, 0, 0, [], rfl, Sl.nil _ _, Nat.zero_le _⟩
  · injection e with e
    subst e
    injection hx with hd hpl
    clear hpl
    subst hd
    have hlm : len ≤ m := by rw [hm]; split <;> omega
    have hbk : ((List.range len).map fun i => Rows.uptoBulk (D i)).sum ≤ Rows.uptoBulk (DataW.slice ((List.range len).map D) ((List.range (m - len)).map fun j => D (len + j))) := by
      rw [← bulk_sum]
      show _ ≤ Rows.uptoBulkAll _ + Rows.uptoBulkAll _ + 1
      omega
    have hel' : ∀ i, i < len → ∃ x : α, ((∀ j, j < K.size → w.cell? (a.add (i * K.size + j)) = (K.cells x)[j]?) ∧ K.In w x) ∧ f x ≤ Rows.uptoBulk (D i) := fun i hi => by
      obtain ⟨cs', h1, h2⟩ := hel i (by omega)
      obtain ⟨x, rfl, hin, hf⟩ := hO w base spare held n cs' (D i) (Pl i) h2 (Nat.le_trans (bulk_at D hi) (Nat.le_trans hbk hw))
      rw [hs] at h1
      refine ⟨x, ⟨fun j hj => ?_, hin⟩, hf⟩
      rw [← Go.Deep.add_add]
      exact (cells_get h1).2 j hj
    have hall : ∀ k, k ≤ len → ∃ l : List α, l.length = k ∧ (∀ i (hi : i < l.length), (∀ j, j < K.size → w.cell? (a.add (i * K.size + j)) = (K.cells l[i])[j]?) ∧ K.In w l[i]) ∧ (l.map f).sum ≤ ((List.range k).map fun i => Rows.uptoBulk (D i)).sum := by
      intro k
      induction k with
      | zero => intro _; exact ⟨[], rfl, fun i hi => by simp at hi, Nat.le_refl _⟩
      | succ k ih =>
        intro hk
        obtain ⟨l, h1, h2, h3⟩ := ih (by omega)
        obtain ⟨x, hx1, hx2⟩ := hel' k (by omega)
        refine ⟨l ++ [x], by simp [h1], fun i hi => ?_, ?_⟩
        · by_cases e : i < l.length
          · rw [List.getElem_append_left e]; exact h2 i e
          · have ei : i = k := by simp at hi; omega
            subst ei
            rw [List.getElem_append_right (by omega)]
            simp only [h1, Nat.sub_self, List.getElem_cons_zero]
            exact hx1
        · rw [List.map_append, List.sum_append, List.range_succ, List.map_append, List.sum_append]
          simp
          omega
    obtain ⟨l, hl1, hl2, hl3⟩ := hall len (Nat.le_refl _)
    refine ⟨some a, len, cap, l, rfl, ⟨hl1, hlc, by simpa [maxLen] using hcm, (fun h => by cases h), fun hne => ?_, fun x hx => ?_⟩, Nat.le_trans hl3 hbk⟩
    · have hfl := flat_len K.cells K.size K.len l
      have hp := K.pos
      have h0 : 0 < l.length := by
        apply Nat.pos_of_ne_zero; intro e; rw [List.length_eq_zero_iff.1 e] at hne; simp at hne
      obtain ⟨b, off, spot⟩ := a
      have c0 := (hl2 0 h0).1 0 hp
      have hsome : ∃ v, (K.cells l[0])[0]? = some v := ⟨_, List.getElem?_eq_getElem (by rw [K.len]; exact hp)⟩
      obtain ⟨v0, hv0⟩ := hsome
      rw [hv0] at c0
      have hspot : spot = none := by simpa [Addr.add] using World.cell?_spot c0
      subst hspot
      refine ⟨b, off, rfl, ?_, fun j hj => ?_⟩
      · exact World.block_lt_of_cell? w ⟨b, off, none⟩ (by simpa [Addr.add] using c0)
      · rw [hfl] at hj
        have e1 : j / K.size < l.length := (Nat.div_lt_iff_lt_mul hp).2 hj
        have e2 : j / K.size * K.size + j % K.size = j := by rw [Nat.mul_comm]; exact Nat.div_add_mod j K.size
        have e3 : j % K.size < K.size := Nat.mod_lt _ hp
        have := (hl2 (j / K.size) e1).1 (j % K.size) e3
        rw [e2, Addr.add_lit] at this
        rw [this, ← flat_get K.cells K.size K.len l (j / K.size) (j % K.size) e1 e3, e2]
    · obtain ⟨i, hi, rfl⟩ := List.getElem_of_mem hx
      exact (hl2 i hi).2

theorem opens_u8U (h5 : P.underlying 5 = some (.int .u8)) : OpensU enc P u8K 5 (fun _ => 1) := by
  intro w base spare held fuel cs d ps h _
  obtain ⟨n, rfl, hd, hw⟩ := DataW.trod_int h5 h
  have hr : 0 ≤ n ∧ n ≤ 255 := by
    simp [Lit.wf, IntKind.min, IntKind.max, IntKind.bits, IntKind.signed] at hw
    omega
  refine ⟨UInt8.ofNat n.toNat, ?_, trivial, ?_⟩
  · show _ = [byteV _]
    unfold byteV
    congr 2
    rw [UInt8.toNat_ofNat']
    omega
  · injection hd with hd _
    rw [hd]
    exact Nat.le_refl _
/-- Bytes. -/
theorem opens_bytesU (h5 : P.underlying 5 = some (.int .u8)) (hc : P.cellsOf 5 = 1) {T : TypeId} (hT : P.underlying T = some (.slice 5)) {w : World} {base : Nat} {spare : Nat → Bool} {held : Bool} {fuel : Nat} {v : Value} {d : DataW H} {ps : List MemPlace}
    (h : DataW.trod enc P w base spare held fuel T [v] = some (d, ps)) (hw : Rows.uptoBulk d ≤ 1048576) : ∃ A n c l, v = .slice A n c ∧ Sl u8K w A n c l ∧ n ≤ Rows.uptoBulk d := by
  obtain ⟨A, n, c, l, hv, hs, hl⟩ := opens_sliceU (K := u8K) (opens_u8U h5) hT hc h hw
  refine ⟨A, n, c, l, hv, hs, ?_⟩
  rw [← hs.len]
  have : (l.map fun _ => 1).sum = l.length := by
    clear hl hs hv
    induction l with
    | nil => rfl
    | cons a l ih => rw [List.map_cons, List.sum_cons, ih, List.length_cons]; omega
  omega
end

end Go.Proofs.Ythjohjijcgiogaa
