/- How many bytes chunks have, of the document's answer (bytes). -/
import Derived.Test.YthjohjijcgiogaaHd
namespace Go.Proofs.Ythjohjijcgiogaa
open Go.RowKit

set_option maxHeartbeats 1000000 in
theorem bytes_any (A : Option Addr) (n c : Nat) (l : List Hd) (w : World) (hl : Hds w A n c l) (hn : n ≤ 60000) :
    Calls Try.prog 31 #[.slice A n c] w fun e w' => e = .returned (.int .i64 (total l)) ∧ Below w.heap.size w w' := by
  have hlen := hl.len
  have HLen := Lib.hid hlen
  clear hlen
  go_enter Try.func31, Try.ntmps31
  go_wp2
  go_loopw [3, 8] (fun t i wr => ∃ k : Nat, k ≤ n ∧ i = .int .i64 k ∧ t = .int .i64 (total (l.take k)) ∧ Below w.heap.size w wr) (fun _ i _ => n - (intOf i).toNat)
  case atStart => exact ⟨0, Nat.zero_le _, rfl, by simp [total], Below.refl _ _⟩
  case round =>
    obtain ⟨k, hk, rfl, rfl, hb⟩ := hrel
    by_cases hlt : k < n
    · obtain ⟨b, off, hkl, rfl, hbl, c0, c1, c2⟩ := Hds.at_ (hl.below hb) hlt
      have e1 := total_snoc l k hkl
      have b1 := total_le (l.take k) 140737488355328 (fun x hx => (hl.each x (List.mem_of_mem_take hx)).max)
      have b2 := (hl.each l[k] (List.getElem_mem hkl)).max
      have b3 : (l.take k).length ≤ 60000 := by rw [List.length_take]; omega
      have b4 : total (l.take k) ≤ 60000 * 140737488355328 := Nat.le_trans b1 (Nat.mul_le_mul_right _ b3)
      have E1 := Lib.hid e1
      have HB := Lib.hid hb
      have HL := Lib.hid hl
      clear e1 b1 b3 hb hl
      generalize l[k] = h at *
      generalize total (List.take k l) = T at *
      go_wp2
      go_roundw
      case rel => exact ⟨k + 1, by omega, by go_num, by rw [E1.out]; go_num, by have B := HB.out; repeat (first | with_reducible exact B | (refine Below.alloc ?_ (by have := B.size; first | omega | (simp <;> omega)) _) | (refine Below.setCell ?_ (by have := B.size; first | omega | (simp <;> omega)) _))⟩
      case measure => simp [intOf]; omega
    · have hkn : k = n := by omega
      subst hkn
      go_wp2
      go_ret
      exact ⟨by rw [List.take_of_length_le (Nat.le_of_eq HLen.out)]; rfl, hb⟩

end Go.Proofs.Ythjohjijcgiogaa
