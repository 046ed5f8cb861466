/- Bytes cut, and put together, of layer 16, in plain Lean; and slices of bytes in memory. -/
import Derived.Test.YthjohjijcgiogaaCln
namespace Go.Proofs.Ythjohjijcgiogaa
open Go.RowKit

/-- A slice of bytes that lies in another slice: where, how many, how much room, and what they are. -/
structure Bsl where
  A : Option Addr
  n : Nat
  c : Nat
  bs : List UInt8
def Bsl.cells (x : Bsl) : List Value := [.slice x.A x.n x.c]
structure Bsl.In (w : World) (x : Bsl) : Prop where
  sl : Sl u8K w x.A x.n x.c x.bs
  max : x.n ≤ 140737488355328
def bslK : RK Bsl := ⟨1, by decide, Bsl.cells, fun _ => rfl, fun _ v h => by simp [Bsl.cells] at h; rw [h]; rfl, Bsl.In, fun h hb => ⟨h.sl.below hb, h.max⟩⟩
abbrev Bsls (w : World) (A : Option Addr) (n c : Nat) (l : List Bsl) : Prop := Sl bslK w A n c l
theorem Bsls.at_ {w : World} {A : Option Addr} {n c k : Nat} {l : List Bsl} (i : Bsls w A n c l) (hk : k < n) :
    ∃ b off, ∃ hl : k < l.length, A = some ⟨b, off, none⟩ ∧ b < w.heap.size ∧ w.cell? ⟨b, off + k, none⟩ = some (.slice l[k].A l[k].n l[k].c) := by
  obtain ⟨b, off, hl, rfl, hlt, hc⟩ := i.get hk
  refine ⟨b, off, hl, rfl, hlt, ?_⟩
  have := hc 0 (by decide)
  rw [show k * bslK.size = k from Nat.mul_one k, Nat.add_zero] at this
  exact this

/-- How many parts there are, and what the k-th one is. -/
def cnt (len m : Nat) : Nat := (len + m - 1) / m
def partN (len m k : Nat) : Nat := min m (len - k * m)
def parts (bs : List UInt8) (m : Nat) : List (List UInt8) := (List.range (cnt bs.length m)).map fun k => (bs.drop (k * m)).take m
theorem cnt_lt {len m k : Nat} (hm : 1 ≤ m) : k < cnt len m ↔ k * m < len := by
  unfold cnt
  rw [Nat.lt_iff_add_one_le, Nat.le_div_iff_mul_le (by omega), Nat.succ_mul]
  omega
theorem cnt_zero (m : Nat) (hm : 1 ≤ m) : cnt 0 m = 0 := by
  have := (cnt_lt (len := 0) (k := 0) hm)
  have h2 : ¬ 0 < cnt 0 m := by rw [this]; omega
  omega
theorem cnt_le {len m : Nat} (hm : 1 ≤ m) : cnt len m ≤ len := by
  rcases Nat.lt_or_ge len (cnt len m) with h | h
  · exfalso
    have := (cnt_lt (len := len) hm).1 h
    have := Nat.le_mul_of_pos_right len (show 0 < m by omega)
    omega
  · exact h
theorem part_len {bs : List UInt8} {m k : Nat} : ((bs.drop (k * m)).take m).length = partN bs.length m k := by
  unfold partN; rw [List.length_take, List.length_drop]
theorem parts_len (bs : List UInt8) (m : Nat) : (parts bs m).length = cnt bs.length m := by unfold parts; simp
theorem parts_at {bs : List UInt8} {m k : Nat} (hk : k < cnt bs.length m) : (parts bs m)[k]? = some ((bs.drop (k * m)).take m) := by
  unfold parts
  rw [List.getElem?_map, List.getElem?_range hk]
  rfl
/-- .. and they are whole again. -/
theorem parts_upto (bs : List UInt8) (m : Nat) (hm : 1 ≤ m) : ∀ k, k ≤ cnt bs.length m → ((List.range k).map fun j => (bs.drop (j * m)).take m).flatten = bs.take (k * m)
  | 0, _ => by simp
  | k + 1, hk => by
    rw [List.range_succ, List.map_append, List.flatten_append, parts_upto bs m hm k (by omega), Nat.succ_mul, List.take_add]
    simp
theorem parts_whole (bs : List UInt8) (m : Nat) (hm : 1 ≤ m) : (parts bs m).flatten = bs := by
  unfold parts
  rw [parts_upto bs m hm _ (Nat.le_refl _)]
  apply List.take_of_length_le
  apply Nat.le_of_not_lt
  intro h
  have := (cnt_lt (len := bs.length) hm).2 h
  omega

/-- An address so many cells on. -/
def onA (A : Option Addr) (k : Nat) : Option Addr := A.map fun a => ⟨a.block, a.off + k, a.spot⟩
/-- A part of a slice of bytes. -/
theorem Sl.part {w : World} {A : Option Addr} {n c : Nat} {bs : List UInt8} (h : Sl u8K w A n c bs) {o e c' : Nat} (he : o + e ≤ n) (hc : e ≤ c') (hm : c' ≤ 9223372036854775807) (h0 : 0 < e) : Sl u8K w (onA A o) e c' ((bs.drop o).take e) := by
  obtain ⟨b, off, hl, rfl, hlt, _⟩ := h.get (k := 0) (by omega)
  refine ⟨by rw [List.length_take, List.length_drop, h.len]; omega, hc, hm, (fun e => by cases e), fun _ => ⟨b, off + o, rfl, hlt, fun j hj => ?_⟩, fun _ _ => trivial⟩
  rw [Proofs.Ythjohjijcgiogaa.flat_len u8K.cells u8K.size u8K.len, List.length_take, List.length_drop, h.len, show u8K.size = 1 from rfl, Nat.mul_one] at hj
  obtain ⟨b', off', hl', e', _, hc'⟩ := h.get (k := o + j) (by omega)
  injection e' with e'
  injection e' with e1 e2
  subst e1 e2
  have h1 := hc' 0 (by decide)
  rw [show u8K.size = 1 from rfl, Nat.mul_one, Nat.add_zero, ← Nat.add_assoc] at h1
  have h2 := Proofs.Ythjohjijcgiogaa.flat_get u8K.cells u8K.size u8K.len ((bs.drop o).take e) j 0 (by rw [List.length_take, List.length_drop, h.len]; omega) (by decide)
  rw [show u8K.size = 1 from rfl, Nat.mul_one, Nat.add_zero] at h2
  rw [h1, h2]
  congr 2
  rw [List.getElem_take, List.getElem_drop]

/-- Bytes lie wherever their block lies as it lay. -/
theorem Sl.over {w w' : World} {A : Option Addr} {n c : Nat} {bs : List UInt8} (h : Sl u8K w A n c bs) (hk : n ≠ 0 → ∀ b off, A = some ⟨b, off, none⟩ → b < w.heap.size → b < w'.heap.size ∧ ∀ i, w'.cell? ⟨b, i, none⟩ = w.cell? ⟨b, i, none⟩) : Sl u8K w' A n c bs :=
  ⟨h.len, h.cap, h.max, h.adr, fun hn => by
    obtain ⟨b, off, rfl, hlt, hc⟩ := h.row hn
    have h0 : n ≠ 0 := fun e => hn (by rw [List.length_eq_zero_iff.1 (h.len.trans e)]; rfl)
    obtain ⟨h1, h2⟩ := hk h0 b off rfl hlt
    exact ⟨b, off, rfl, h1, fun j hj => (h2 _).trans (hc j hj)⟩, fun _ _ => trivial⟩
theorem Sl.inside {w : World} {A : Option Addr} {n c : Nat} {bs : List UInt8} (h : Sl u8K w A n c bs) : n ≠ 0 → ∀ b off, A = some ⟨b, off, none⟩ → b < w.heap.size := fun hn b off e => by
  obtain ⟨b', off', _, e', hlt, _⟩ := h.get (k := 0) (by omega)
  rw [e] at e'
  injection e' with e'
  injection e' with e1
  omega

end Go.Proofs.Ythjohjijcgiogaa
