/- Chunks, of the program: what it hands back. -/
import Derived.Test.YthjohjijcgiogaaChunk
namespace Go.Proofs.Ythjohjijcgiogaa
open Go.RowKit Go.Shelf

attribute [local go_sem] Oper.semAt_some

theorem inf34 : (Try.prog.info? 34).map (fun i => (i.zero, i.size, i.bytes)) = some (some (.slice none 0 0), 1, 24) := by kernel_rfl

/-- A call that hands back slices of bytes; old memory is left alone. -/
def PRes (L : List (List UInt8)) (w : World) (e : Ending) (w' : World) : Prop :=
  ∃ A n c l, e = .returned (.slice A n c) ∧ Bsls w' A n c l ∧ l.map Bsl.bs = L ∧ Below w.heap.size w w'

/-- A part, as a value, and as an element. -/
def encV (A : Option Addr) (len m x : Nat) : Value := .slice (onA A (x * m)) (partN len m x) (partN len m x)
def partB (A : Option Addr) (bs : List UInt8) (m x : Nat) : Bsl := ⟨onA A (x * m), partN bs.length m x, partN bs.length m x, (bs.drop (x * m)).take m⟩

theorem Sl.noncell {w w' : World} {row : Option Nat} {A : Option Addr} {n c : Nat} {bs : List UInt8} (h : Sl u8K w A n c bs) (hg : w.grownBy w' row) (hr : ∀ r, row = some r → ∃ o : Obj, w.heap[r]? = some o ∧ o.isCells = false) : Sl u8K w' A n c bs :=
  ⟨h.len, h.cap, h.max, h.adr, fun hn => by
    obtain ⟨b, off, rfl, hlt, hc⟩ := h.row hn
    exact ⟨b, off, rfl, Nat.lt_of_lt_of_le hlt hg.size, fun j hj => by
      have h1 := hc j hj
      rw [List.getElem?_eq_getElem hj] at h1 ⊢
      exact cell_kept h1 hg hr⟩, fun _ _ => trivial⟩

theorem flat1 {α β : Type} (f : α → β) (l : List α) : (l.flatMap fun a => [f a]) = l.map f := by
  induction l with
  | nil => rfl
  | cons a l ih => rw [List.flatMap_cons, ih]; rfl
/-- The row of the parts' values is a row of parts. -/
theorem parts_sl {w : World} {D : Nat} {A A' : Option Addr} {n c c' m : Nat} {bs : List UInt8} (hm : 1 ≤ m) (hn : n ≤ 60000) (hs : Sl u8K w A n c bs) (hr : w.ownsRow D 34 1 (.slice A' (cnt n m) c') (cnt n m) ((List.range (cnt n m)).map (encV A n m))) :
    Bsls w A' (cnt n m) c' ((List.range (cnt n m)).map (partB A bs m)) := by
  have hl := hs.len
  refine Own.sl (K := bslK) (E := 34) (B := D) ⟨by simp, ?_, fun x hx => ?_⟩
  · rw [List.flatMap_map]
    rw [show (fun a => bslK.cells (partB A bs m a)) = fun a => [encV A n m a] from by funext a; show Bsl.cells _ = _; unfold Bsl.cells partB encV; rw [hl]]
    rw [flat1]
    exact hr
  · obtain ⟨k, hk, rfl⟩ := List.mem_map.1 hx
    rw [List.mem_range, cnt_lt hm] at hk
    have he : partN bs.length m k ≤ n - k * m := by unfold partN; rw [hl]; exact Nat.min_le_right _ _
    have he2 : (bs.drop (k * m)).take m = (bs.drop (k * m)).take (partN bs.length m k) := by
      unfold partN
      rw [← List.length_drop, Nat.min_def]
      split
      · rfl
      · rw [List.take_of_length_le (Nat.le_refl _), List.take_of_length_le (by omega)]
    have hp : 0 < partN bs.length m k := by unfold partN; rw [hl]; omega
    refine ⟨?_, by show partN bs.length m k ≤ _; omega⟩
    show Sl u8K w (onA A (k * m)) (partN bs.length m k) (partN bs.length m k) ((bs.drop (k * m)).take m)
    rw [he2]
    exact hs.part (by omega) (Nat.le_refl _) (by omega) hp

set_option maxRecDepth 100000 in
set_option maxHeartbeats 4000000 in
theorem chunks_in (A : Option Addr) (n c m : Nat) (bs : List UInt8) (w : World) (hs : Sl u8K w A n c bs) (hn : n ≤ 60000) (hm : 1 ≤ m) (hm2 : (m : Int) ≤ 9223372036854775807) :
    Calls Try.prog 27 #[.slice A n c, .int .i64 m] w (PRes (parts bs m) w) := by
  refine (callsIn_wide (n := 8)).1 ?_
  obtain ⟨i0, hi, hz0, hz1, hz2⟩ := info_parts inf34
  have d : decide ((m : Int) < 1) = false := decide_eq_false (by omega)
  have d2 : ((m : Int) < 1) = False := eq_false (by omega)
  refine callsIn_of_wp_marks Try.func27 rfl trivial ?_ rfl
  simp only [Try.ntmps27, List.size_toArray, List.length_cons, List.length_nil, Nat.reduceAdd, Nat.reduceSub, Array.replicate_succ, Array.replicate_zero, List.push_toArray, List.append_toArray, List.nil_append, List.cons_append]
  gi_wp2_with (refine ⟨trivial, ?_⟩; first | (gi_at_call 38; refine (callsIn_wide.2 (cloneBs A n c bs _ (hs.alloc _) (by omega))).mono ?_; rintro e w2 ⟨A2, c2, rfl, hO, hb2⟩) | (gi_at_call 46; refine (chunk_make _ _ _ _ _ hm _).mono ?_; rintro e w' ⟨rfl, rfl⟩))
  have z2 := hb2.size
  rw [World.size_alloc] at z2
  have bO : Boxed w2 w.heap.size 48 (.slice none 0 0) := (hb2.block w.heap.size (by simp)).trans (Boxed.new w 48 _)
  have bP := Boxed.new w2 34 (.slice A2 n c2)
  have bQ := Boxed.new (w2.alloc (.cells #[.slice A2 n c2] 34)) 3 (.int .i64 m)
  rw [World.size_alloc] at bQ
  have hSL := (hO.sl.alloc (.cells #[.slice A2 n c2] 34)).alloc (.cells #[.int .i64 m] 3)
  have hBD : n ≠ 0 → ∀ b off, A2 = some ⟨b, off, none⟩ → w.heap.size + 1 ≤ b ∧ b < w2.heap.size := fun _ b off e => by have := hO.lt e; simpa using this
  have hB0 : Below w.heap.size w ((w2.alloc (.cells #[.slice A2 n c2] 34)).alloc (.cells #[.int .i64 m] 3)) := ((((Below.refl _ w).alloc (Nat.le_refl _) _).trans (hb2.mono (by simp))).alloc (by omega) _).alloc (by simp; omega) _
  have hlen : bs.length = n := hO.sl.len
  refine wpIn_rangeFunc_ownG rfl (by omega) (gf := 52) (lb := #[.pointer (some ⟨w2.heap.size, 0, none⟩), .pointer (some ⟨w2.heap.size + 1, 0, none⟩)]) rfl trivial (enters_of Try.func52 (by kernel_rfl) rfl)
    (chunk_stops _ (by omega) w2.heap.size (w2.heap.size + 1) A2 n c2 m bs hm hm2 hn _ (by simp; omega) (by simp) (bP.alloc _).cell bQ.cell hSL) KB.trans
    (fun W l o o' hl ho h1 h2 => (fun hb => ⟨fun i => hb.cell (p := ⟨w2.heap.size, i, none⟩) (by simp; omega), fun i => hb.cell (p := ⟨w2.heap.size + 1, i, none⟩) (by simp)⟩) (belowK_b (Nat.le_refl _) W l o o' hl ho h1 h2)) (Below.refl _ _) (fun _ => rfl)
    (fun pre W => (∃ v, Boxed W w.heap.size 48 v ∧ W.ownsRow (w2.heap.size + 2) 34 1 v pre.length (pre.map (encV A2 n m)) ∧ True) ∧ (w2.heap.size + 2 ≤ W.heap.size ∧ Sl u8K W A2 n c2 bs) ∧ Below w.heap.size w W)
    (fun _ _ _ => False)
    (OwnFrom.and (_root_.Go.Own.from (holdsRow_own (w2.heap.size + 2) w.heap.size 48 34 1 (fun pre : List Nat => pre.length) (fun pre => pre.map (encV A2 n m)) (fun _ _ => True)) _)
      (OwnFrom.and (_root_.Go.Own.from (I := fun (_ : List Nat) W => w2.heap.size + 2 ≤ W.heap.size ∧ Sl u8K W A2 n c2 bs) (fun s X Y row hs hg hr => ⟨Nat.le_trans hs.1 hg.size, hs.2.noncell hg hr⟩) _) (ownFrom_below (Nat.le_refl _) (by simp; omega))))
    (fun _ _ _ _ _ hs _ _ => hs)
    ⟨⟨_, (bO.alloc _).alloc _, World.ownsRow_nil _ _ _ _, trivial⟩, ⟨by simp, hSL⟩, hB0⟩
    (fun x => { tmps := #[.slice A n c, .int .i64 m, undef, undef, .slice none 0 0, .pointer (some ⟨w.heap.size, 0, none⟩), .slice (onA A2 (x * m)) (partN n m x) (partN n m x), .int .i64 m, .bool false, .slice A n c, .slice A2 n c2, .int .i64 m, .func (.func 52) #[] #[.pointer (some ⟨w2.heap.size, 0, none⟩), .pointer (some ⟨w2.heap.size + 1, 0, none⟩)], .slice (onA A2 (x * m)) (partN n m x) (partN n m x), undef, undef, undef, undef, undef], defers := [] }) ?assign ?body ?done ?stop
  case assign =>
    intro l x W K hK
    gi_wp2
    exact hK
  case body =>
    rintro l pre x W ⟨⟨v, hv, hrow, _⟩, ⟨hD, hsl⟩, hB⟩ hlt
    have hc := hv.cell
    have hcn := cnt_le (len := n) hm
    gi_wp2_with (gi_at_builtin; refine wpListIn_append_own _ rfl _ _ 48 rfl (w2.heap.size + 2) 34 i0 (.slice none 0 0) 1 24 Try.underlying48 hi hz0 hz1 hz2 rfl (by decide) _ _ _ rfl (hrow.alloc _) ⟨W.heap.size, 0, none⟩ 1 1 [.slice (onA A2 (x * m)) (partN n m x) (partN n m x)] rfl rfl (cell_one_new _ _ _) (by simp [Value.oneCell']) (by unfold maxLen; omega) (by omega) (by simp; omega) ?_; intro v' w1 hown' hgrow _; obtain ⟨g', cap', rfl⟩ := ownsRow_succ hown'; obtain ⟨hv1, hv2, hr2, hk2, hb3⟩ := hv.appended (by decide) (owns_base hrow (show w.heap.size ≤ w2.heap.size + 2 by omega)) hB.size (Nat.le_refl _) (owns_base hown' (show w.heap.size ≤ w2.heap.size + 2 by omega)) hgrow; have hc1 := hv1.cell; have hf1 := hv1.frozen)
    have hgB : w2.heap.size + 2 ≤ g' := (hown'.lt g' rfl).1
    have bW : Below (w2.heap.size + 2) W w1 := ((Below.refl _ W).alloc hD _).trans (owns_below (hrow.alloc _) hgrow (by simp; omega))
    have far : ∀ s i, s < w2.heap.size + 2 → s ≠ w.heap.size → (w1.setCell ⟨w.heap.size, 0, none⟩ (.slice (some ⟨g', 0, none⟩) (pre.length + 1) cap')).cell? ⟨s, i, none⟩ = W.cell? ⟨s, i, none⟩ := fun s i h1 h2 =>
      ((grownBy_setCell' w1 w.heap.size _).cell_far ⟨s, i, none⟩ (Nat.lt_of_lt_of_le h1 (Nat.le_trans hD bW.size)) (by simpa using h2)).trans (bW.cell (p := ⟨s, i, none⟩) h1)
    have zz : w1.heap.size ≤ (w1.setCell ⟨w.heap.size, 0, none⟩ (.slice (some ⟨g', 0, none⟩) (pre.length + 1) cap')).heap.size := (grownBy_setCell' w1 w.heap.size _).size
    refine ⟨hk2.from _, ⟨fun i => far _ i (by omega) (by omega), fun i => far _ i (by omega) (by omega)⟩, ⟨_, hv2, ?_, trivial⟩, ⟨Nat.le_trans (Nat.le_trans hD bW.size) zz, hsl.over (fun h0 b off e hb => ?_)⟩, hB.trans hb3⟩
    · have := hown'.kept (grownBy_setCell' w1 w.heap.size (.slice (some ⟨g', 0, none⟩) (pre.length + 1) cap')) (.inr (fun e => by injection e with e; have e' : g' = w.heap.size := e; omega))
      simpa [encV] using this
    · have h1 := hBD h0 b off e
      exact ⟨Nat.lt_of_lt_of_le (by omega) (Nat.le_trans (Nat.le_trans hD bW.size) zz), fun i => far b i (by omega) (by omega)⟩
  case done =>
    rintro D ys W hD rfl ⟨⟨v, hv, hrow, _⟩, ⟨hD2, hsl⟩, hB⟩ hK
    have hc := hv.cell
    gi_wp2
    refine ⟨by simp, .inl ⟨_, _, rfl, run_takeDeferred hK, ?_⟩⟩
    have bK := belowK_b (w := (w2.alloc (.cells #[.slice A2 n c2] 34)).alloc (.cells #[.int .i64 m] 3)) (n₀ := w2.heap.size + 2) (by simp) W D (.deferred (some [])) (.deferred none) hD hK rfl rfl
    have hsK : Sl u8K (W.putObj D (.deferred none)) A2 n c2 bs := hsl.over (fun h0 b off e hb => ⟨Nat.lt_of_lt_of_le hb bK.size, fun i => bK.cell (p := ⟨b, i, none⟩) (by have := hBD h0 b off e; show b < _; omega)⟩)
    have hrK := ownsRow_putObj hrow (.deferred none) hK rfl
    rw [List.length_range] at hrK
    obtain ⟨A3, c3, rfl⟩ := owns_form hrK
    refine ⟨_, results_tmp rfl _ _ _, A3, _, c3, _, rfl, parts_sl hm hn hsK hrK, ?_, hB.trans (belowK_b (w := w) (Nat.le_refl _) W D _ _ (by simp at hD; omega) hK rfl rfl)⟩
    rw [List.map_map]
    show _ = parts bs m
    unfold parts
    rw [hlen]
    rfl
  case stop =>
    rintro D c pre W _ _ h _
    exact h.elim

end Go.Proofs.Ythjohjijcgiogaa
