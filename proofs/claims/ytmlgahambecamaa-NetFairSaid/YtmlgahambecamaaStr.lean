/- The text of a slice of bytes; of no function. -/
import Derived.Test.YtmlgahambecamaaKnd
import Derived.Laws.BytesArg
import Derived.Lib.Strings
namespace Go.Proofs.Ytmlgahambecamaa
open Go.RowKit

theorem getD_bytes (l : List UInt8) (i : Nat) (h : i < l.length) : (l.map fun x => (x.toNat : Int)).getD i 0 = (l[i].toNat : Int) := by
  rw [List.getD_eq_getElem?_getD, List.getElem?_map, List.getElem?_eq_getElem h]; rfl
theorem str_of_bytes (l : List UInt8) : strOfNums (l.map fun x => (x.toNat : Int)) = ⟨l.toArray⟩ := by
  unfold strOfNums
  rw [List.map_map]
  congr 1
  congr 1
  conv => rhs; rw [← List.map_id l]
  exact List.map_congr_left fun x _ => by simp
/-- 'string(b)'. -/
theorem conv_bs {P : Program} {w : World} {A : Option Addr} {n c : Nat} {l : List UInt8} (hl : Sl u8K w A n c l) (T : TypeId) (ht : P.underlying T = some (.slice 5)) (h5 : P.underlying 5 = some (.int .u8)) (h9 : P.underlying 9 = some .string) :
    (convert T 9 (.slice A n c)).run P w = .ok (.string ⟨l.toArray⟩) w := by
  by_cases h0 : n = 0
  · subst h0
    have := List.length_eq_zero_iff.1 hl.len
    subst this
    cases A with
    | none => exact run_convert_bytes_nil w T 5 ht h5 0 c 9 h9
    | some a =>
      rw [run_convert_bytes_string w T 9 5 _ 0 c ht h5 h9]
      have hld : (loadCells a 0).run P w = .ok #[] w := by simpa using run_loadCells_list (P := P) w a [] (by simp)
      simp [Conv.bytesToString, hld]
      rfl
  · obtain ⟨b, off, _, rfl, _, _⟩ := hl.get (show 0 < n by omega)
    rw [← str_of_bytes l]
    refine run_convert_bytes_arg w T 5 ht h5 b off n c _ (by rw [List.length_map, hl.len]) (fun i hi => ?_) 9 h9
    obtain ⟨b', off', hk, e, _, hc⟩ := hl.get hi
    injection e with e; injection e with e1 e2 e3
    subst e1 e2
    have := hc 0 (by decide)
    rw [getD_bytes l i hk]
    simpa [u8K, byteV] using this
theorem str_eq (a b : List UInt8) : ((⟨a.toArray⟩ : ByteArray) = ⟨b.toArray⟩) ↔ a = b := by simp

/-- How the walk spells a test of two texts. -/
theorem str_ne {a b : ByteArray} (h : ¬ a = b) : (a.toList == b.toList) = false := by
  rw [beq_eq_false_iff_ne]
  intro e
  rw [Lib.toList_data, Lib.toList_data] at e
  exact h (by cases a; cases b; simp at e; subst e; rfl)

theorem str_ne' {a b : ByteArray} (h : ¬ a = b) : ¬ a.toList = b.toList := by have := str_ne h; simpa using this

end Go.Proofs.Ytmlgahambecamaa
