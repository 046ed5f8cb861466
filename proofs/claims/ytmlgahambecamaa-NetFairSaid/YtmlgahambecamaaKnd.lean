/- The plain elements of slices: bytes, numbers, texts; and what a slice that was appended to owns. -/
import Derived.Test.YtmlgahambecamaaSlc
namespace Go.Proofs.Ytmlgahambecamaa
open Go.RowKit

def byteV (x : UInt8) : Value := .int .u8 x.toNat
def u8K : RK UInt8 := ⟨1, by decide, fun x => [byteV x], fun _ => rfl, fun _ v h => by simp at h; subst h; rfl, fun _ _ => True, fun _ _ => trivial⟩
def intK : RK Int := ⟨1, by decide, fun x => [.int .i64 x], fun _ => rfl, fun _ v h => by simp at h; subst h; rfl, fun _ x => (Lit.int .i64 x).wf = true, fun h _ => h⟩
def strK : RK ByteArray := ⟨1, by decide, fun x => [.string x], fun _ => rfl, fun _ v h => by simp at h; subst h; rfl, fun _ x => x.size ≤ maxLen, fun h _ => h⟩

theorem flat_u8 (l : List UInt8) : l.flatMap u8K.cells = l.map byteV := by
  induction l with
  | nil => rfl
  | cons a l ih => rw [List.flatMap_cons, ih]; rfl
theorem flat_int (l : List Int) : l.flatMap intK.cells = l.map (Value.int .i64) := by
  induction l with
  | nil => rfl
  | cons a l ih => rw [List.flatMap_cons, ih]; rfl

/-- The cells that an append hands on: those of a slice that reads as a list. -/
theorem Sl.news {α : Type} {K : RK α} {w : World} {a : Addr} {n c : Nat} {l : List α} (i : Sl K w (some a) n c l) : ∀ j u, (l.flatMap K.cells)[j]? = some u → w.cell? (a.add j) = some u := fun j u hu => by
  have hj : j < (l.flatMap K.cells).length := (List.getElem?_eq_some_iff.1 hu).1
  obtain ⟨b', off', e, _, hc⟩ := i.row (fun e => by rw [e] at hj; simp at hj)
  injection e with e
  subst e
  rw [Addr.add_lit, hc j hj, hu]
theorem Has.news {w : World} {g : Nat} {cs : List Value} (h : Has w g cs.toArray) : ∀ j u, cs[j]? = some u → w.cell? ((⟨g, 0, none⟩ : Addr).add j) = some u := fun j u hu => by
  rw [Addr.add_lit, Nat.zero_add, h.cell]; simpa using hu
theorem Sl.flat_len {α : Type} {K : RK α} {w : World} {A : Option Addr} {n c : Nat} {l : List α} (i : Sl K w A n c l) : (l.flatMap K.cells).length = n * K.size := by
  rw [Proofs.Ytmlgahambecamaa.flat_len K.cells K.size K.len, i.len]

theorem Own.of_row {α : Type} {K : RK α} {E : TypeId} {w : World} {B : Nat} {A : Option Addr} {n c : Nat} {l : List α} (hn : l.length = n) (h : w.ownsRow B E K.size (.slice A n c) n (l.flatMap K.cells)) (hi : ∀ a ∈ l, K.In w a) : Own K E w B A n c l := ⟨hn, h, hi⟩

/-- A value that owns a row is a slice. -/
theorem owns_form {w : World} {B : Nat} {E : TypeId} {s : Nat} {v : Value} {n : Nat} {xs : List Value} (h : w.ownsRow B E s v n xs) : ∃ A c, v = .slice A n c := by
  rcases h.2 with ⟨rfl, rfl⟩ | ⟨g, cap, cur, rfl, _⟩
  · exact ⟨none, 0, rfl⟩
  · exact ⟨_, _, rfl⟩

end Go.Proofs.Ytmlgahambecamaa
