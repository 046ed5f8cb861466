/- What came in, opened: numbers, texts, structs, slices of such, by their cells; and the end of a call that leaves old memory alone. -/
import Derived.Test.YtmlgahambecamaaKnd
import Derived.ProofKit
import Derived.SizedLaws
import Derived.Deep.Slices
namespace Go.Proofs.Ytmlgahambecamaa
open Go.ChangeShapes Go.WideShapes Go.ChangeAt Go.RowKit

section
variable {H : Type} {enc : TypeId × Value → H} {P : Program}

/-- Whatever came in reads as it did, where old memory was left alone. -/
theorem again_all (hl : laidOutB P = true) {W W' : World} (hb : Below W.heap.size W W') : ∀ (ts : List TypeId) (vs : List Value) (ds : List (DataW H)) (ps : List MemPlace),
    (ts.all fun t => P.readableRec t && decide (t < P.types.size)) = true → DataW.TrodAll enc P W 0 (fun _ => true) true ts vs ds ps → (∀ x ∈ ps, x.block < W.heap.size) →
    DataW.TrodAll enc P W' 0 (fun b => decide (b < W.heap.size)) true ts vs ds ps
  | [], [], [], _, _, h, _ => h
  | t :: ts, v :: vs, d :: ds, ps, hT, ⟨p, q, h1, h2, e⟩, hlt => by
    simp only [List.all_cons, Bool.and_eq_true, decide_eq_true_eq] at hT
    subst e
    exact ⟨p, q, Below.trod hl hT.1.1 hT.1.2 h1 hb (fun x hx => hlt x (List.mem_append_left _ hx)), again_all hl hb ts vs ds q (by simpa using hT.2) h2 (fun x hx => hlt x (List.mem_append_right _ hx)), rfl⟩
  | [], _ :: _, _, _, _, h, _ => h.elim
  | [], [], _ :: _, _, _, h, _ => h.elim
  | _ :: _, [], _, _, _, h, _ => h.elim
  | _ :: _, _ :: _, [], _, _, h, _ => h.elim

/-- A law's end: true, and old memory left alone. -/
theorem law_post {f : Func} {s : ChangeSpec} {W W' : World} {args : Array Value} {ds : List (DataW H)} {before : List MemPlace} (hl : laidOutB P = true)
    (hT : (f.params.toList.all fun t => P.readableRec t && decide (t < P.types.size)) = true) (hr : f.resultTypes = #[4]) (h4 : P.underlying 4 = some .bool) (hv : s.vars = [])
    (hfn : s.fn H (ds ++ []) = { results := [.lit (.bool true)], args := ds }) (hW : DataW.Whole enc P f.params.toList s.vars false W args.toList ds [] before) (hb : Below W.heap.size W W') :
    s.post enc P f false true false false W args (.bool true) W' := by
  have hW0 := hW
  obtain ⟨p, q, hA, hV, rfl, hfz, hnd⟩ := hW
  rw [hv] at hV
  have hq : q = [] := by simpa [DataW.TrodVars] using hV
  subst hq
  refine ⟨ds, [], p ++ [], [], p, [], hW0, ?_, ?_, ?_, hb.frame _, fun h => by cases h⟩
  · rw [hfn, hr]
    exact trodAll_mk1 (shut_bool h4 true)
  · rw [hfn]
    exact again_all hl hb _ _ _ _ hT hA (fun x hx => hW0.lt x (by simpa using hx))
  · rw [hfn, hv]
    rfl

theorem cells_get {w : World} {base : Nat} {a : Addr} {n : Nat} {cs : List Value} (h : w.cells? base a n = some cs) : cs.length = n ∧ ∀ i, i < n → w.cell? (a.add i) = cs[i]? := by
  unfold World.cells? at h
  split at h
  · have hm : ∀ (l : List Nat) (cs : List Value), l.mapM (fun i => w.cell? (a.add i)) = some cs → cs.length = l.length ∧ ∀ i (hi : i < l.length), w.cell? (a.add l[i]) = cs[i]? := by
      intro l
      induction l with
      | nil => intro cs h; simp at h; subst h; exact ⟨rfl, fun i hi => by simp at hi⟩
      | cons x l ih =>
        intro cs h
        rw [List.mapM_cons] at h
        cases hx : w.cell? (a.add x) with
        | none => rw [hx] at h; simp at h
        | some v =>
          rw [hx] at h
          cases hr : l.mapM (fun i => w.cell? (a.add i)) with
          | none => rw [hr] at h; simp at h
          | some r =>
            rw [hr] at h
            simp at h
            subst h
            obtain ⟨e1, e2⟩ := ih r hr
            refine ⟨by simp [e1], fun i hi => ?_⟩
            cases i with
            | zero => simpa using hx
            | succ i => simpa using e2 i (by simpa using hi)
    obtain ⟨e1, e2⟩ := hm _ _ h
    refine ⟨by simpa using e1, fun i hi => ?_⟩
    have := e2 i (by simpa using hi)
    simpa using this
  · cases h

theorem weights_all {e : TypeId} : ∀ (l : List (DataW H)) (d : DataW H), d ∈ l → ∀ n ∈ d.weights P e, n ∈ DataW.weightsAll P e l
  | a :: l, d, hd, n, hn => by
    unfold DataW.weightsAll
    rcases List.mem_cons.1 hd with rfl | hd
    · exact List.mem_append_left _ hn
    · exact List.mem_append_right _ (weights_all l d hd n hn)

/-- Cells of a type that read as a datum are those of an element. -/
def Opens {α : Type} (enc : TypeId × Value → H) (P : Program) (K : RK α) (E : TypeId) : Prop :=
  ∀ (w : World) (base : Nat) (spare : Nat → Bool) (held : Bool) (fuel : Nat) (cs : List Value) (d : DataW H) (ps : List MemPlace), DataW.trod enc P w base spare held fuel E cs = some (d, ps) → (∀ n ∈ d.weights P E, n ≤ reachBytes) → ∃ a, cs = K.cells a ∧ K.In w a

/-- A slice of such. -/
theorem opens_slice {α : Type} {K : RK α} {E T : TypeId} (hO : Opens enc P K E) (hT : P.underlying T = some (.slice E)) (hs : P.cellsOf E = K.size)
    {w : World} {base : Nat} {spare : Nat → Bool} {held : Bool} {fuel : Nat} {v : Value} {d : DataW H} {ps : List MemPlace} (h : DataW.trod enc P w base spare held fuel T [v] = some (d, ps)) (hw : ∀ n ∈ d.weights P T, n ≤ reachBytes) :
    ∃ A n c l, v = .slice A n c ∧ Sl K w A n c l ∧ n * P.bytesOf E ≤ reachBytes := by
  rcases Go.Deep.open_slice hT h with ⟨e, hx⟩ | ⟨a, len, cap, m, n, D, Pl, e, hb, hlc, hcm, hm, hx, hel⟩
  · injection e with e
    subst e
    exact ⟨none, 0, 0, [], rfl, Sl.nil _ _, by omega⟩
  · injection e with e
    subst e
    injection hx with hd hpl
    clear hpl
    subst hd
    have hlm : len ≤ m := by rw [hm]; split <;> omega
    have hwt : ∀ i, i < len → ∀ q ∈ (D i).weights P E, q ≤ reachBytes := fun i hi q hq => by
      refine hw q ?_
      unfold DataW.weights
      rw [hT]
      refine List.mem_cons_of_mem _ (List.mem_append_left _ (weights_all _ (D i) (List.mem_map.2 ⟨i, List.mem_range.2 hi, rfl⟩) q hq))
    have hel' : ∀ i, i < len → ∃ x : α, (∀ j, j < K.size → w.cell? (a.add (i * K.size + j)) = (K.cells x)[j]?) ∧ K.In w x := fun i hi => by
      obtain ⟨cs', h1, h2⟩ := hel i (by omega)
      obtain ⟨x, rfl, hin⟩ := hO w base spare held n cs' (D i) (Pl i) h2 (hwt i hi)
      rw [hs] at h1
      refine ⟨x, fun j hj => ?_, hin⟩
      rw [← Go.Deep.add_add]
      exact (cells_get h1).2 j hj
    have hall : ∀ k, k ≤ len → ∃ l : List α, l.length = k ∧ (∀ i (hi : i < l.length), (∀ j, j < K.size → w.cell? (a.add (i * K.size + j)) = (K.cells l[i])[j]?) ∧ K.In w l[i]) := by
      intro k
      induction k with
      | zero => intro _; exact ⟨[], rfl, fun i hi => by simp at hi⟩
      | succ k ih =>
        intro hk
        obtain ⟨l, h1, h2⟩ := ih (by omega)
        obtain ⟨x, hx1, hx2⟩ := hel' k (by omega)
        refine ⟨l ++ [x], by simp [h1], fun i hi => ?_⟩
        by_cases e : i < l.length
        · rw [List.getElem_append_left e]; exact h2 i e
        · have ei : i = k := by simp at hi; omega
          subst ei
          rw [List.getElem_append_right (by omega)]
          simp only [h1, Nat.sub_self, List.getElem_cons_zero]
          exact ⟨hx1, hx2⟩
    obtain ⟨l, hl1, hl2⟩ := hall len (Nat.le_refl _)
    refine ⟨some a, len, cap, l, rfl, ⟨hl1, hlc, by simpa [maxLen] using hcm, (fun h => by cases h), fun hne => ?_, fun x hx => ?_⟩, ?_⟩
    · have hfl := flat_len K.cells K.size K.len l
      have hp := K.pos
      have h0 : 0 < l.length := by
        apply Nat.pos_of_ne_zero; intro e; rw [List.length_eq_zero_iff.1 e] at hne; simp at hne
      obtain ⟨b, off, spot⟩ := a
      have c0 := (hl2 0 h0).1 0 hp
      have hsome : ∃ v, (K.cells l[0])[0]? = some v := ⟨_, List.getElem?_eq_getElem (by rw [K.len]; exact hp)⟩
      obtain ⟨v0, hv0⟩ := hsome
      rw [hv0] at c0
      have hspot : spot = none := by simpa [Addr.add] using World.cell?_spot c0
      subst hspot
      refine ⟨b, off, rfl, ?_, fun j hj => ?_⟩
      · exact World.block_lt_of_cell? w ⟨b, off, none⟩ (by simpa [Addr.add] using c0)
      · rw [hfl] at hj
        have e1 : j / K.size < l.length := (Nat.div_lt_iff_lt_mul hp).2 hj
        have e2 : j / K.size * K.size + j % K.size = j := by rw [Nat.mul_comm]; exact Nat.div_add_mod j K.size
        have e3 : j % K.size < K.size := Nat.mod_lt _ hp
        have := (hl2 (j / K.size) e1).1 (j % K.size) e3
        rw [e2, Addr.add_lit] at this
        rw [this, ← flat_get K.cells K.size K.len l (j / K.size) (j % K.size) e1 e3, e2]
    · obtain ⟨i, hi, rfl⟩ := List.getElem_of_mem hx
      exact (hl2 i hi).2
    · have := hw ((((List.range len).map D).length + ((List.range (m - len)).map fun j => D (len + j)).length) * P.bytesOf E) (by
        unfold DataW.weights
        rw [hT]
        exact List.mem_cons_self ..)
      simp only [List.length_map, List.length_range] at this
      exact Nat.le_trans (Nat.mul_le_mul_right _ (by omega)) this

theorem opens_u8 (h5 : P.underlying 5 = some (.int .u8)) : Opens enc P u8K 5 := by
  intro w base spare held fuel cs d ps h _
  obtain ⟨n, rfl, _, hw⟩ := DataW.trod_int h5 h
  have hr : 0 ≤ n ∧ n ≤ 255 := by
    simp [Lit.wf, IntKind.min, IntKind.max, IntKind.bits, IntKind.signed] at hw
    omega
  refine ⟨UInt8.ofNat n.toNat, ?_, trivial⟩
  show _ = [byteV _]
  unfold byteV
  congr 2
  rw [UInt8.toNat_ofNat']
  omega
theorem opens_int (h3 : P.underlying 3 = some (.int .i64)) : Opens enc P intK 3 := by
  intro w base spare held fuel cs d ps h _
  obtain ⟨n, rfl, _, hw⟩ := DataW.trod_int h3 h
  exact ⟨n, rfl, hw⟩
theorem opens_str (h9 : P.underlying 9 = some .string) : Opens enc P strK 9 := by
  intro w base spare held fuel cs d ps h _
  obtain ⟨s, rfl, _, hs⟩ := DataW.trod_string h9 h
  exact ⟨s, rfl, hs⟩

/-- A field of a struct: its cells read by its own type, its weights stand among the whole's. -/
theorem open_field {fs : Array Field} {t : TypeId} (ht : P.underlying t = some (.struct fs)) {w : World} {base : Nat} {spare : Nat → Bool} {held : Bool} {fuel : Nat} {cs : List Value} {d : DataW H} {ps : List MemPlace}
    (h : DataW.trod enc P w base spare held fuel t cs = some (d, ps)) (hw : ∀ n ∈ d.weights P t, n ≤ reachBytes) :
    cs.length = P.cellsOf t ∧ ∃ n, ∀ (i : Nat) (f : Field), fs[i]? = some f → ∃ d' p', DataW.trod enc P w base spare held n f.type ((cs.drop f.offset).take (P.cellsOf f.type)) = some (d', p') ∧ ∀ q ∈ d'.weights P f.type, q ≤ reachBytes := by
  obtain ⟨xs, n, _, hx, hlen, hxl, hf⟩ := DataW.trod_struct ht h
  injection hx with hd hp
  subst hd
  refine ⟨hlen, n, fun i f hi => ?_⟩
  have hlt : i < xs.length := by rw [hxl]; exact (Array.getElem?_eq_some_iff.1 hi).1
  have := hf i f hi
  rw [List.getElem?_eq_getElem hlt] at this
  refine ⟨xs[i].1, xs[i].2, this, fun q hq => hw q ?_⟩
  unfold DataW.weights
  rw [ht]
  exact DataW.weights_mem_each (j := i) (t := f.type) (d := xs[i].1) (by rw [List.getElem?_map, Array.getElem?_toList, hi]; rfl) (by rw [List.getElem?_map, List.getElem?_eq_getElem hlt]; rfl) q hq

/-- A parameter's weights stand among all. -/
theorem weights_param {ts : List TypeId} {ds : List (DataW H)} (hsz : (DataW.weightsEach P ts ds).all (· ≤ reachBytes) = true) {j : Nat} {t : TypeId} {d : DataW H} (h1 : ts[j]? = some t) (h2 : ds[j]? = some d) : ∀ n ∈ d.weights P t, n ≤ reachBytes := fun n hn => by
  have := List.all_eq_true.1 hsz n (DataW.weights_mem_each h1 h2 n hn)
  simpa using this
end

end Go.Proofs.Ytmlgahambecamaa
