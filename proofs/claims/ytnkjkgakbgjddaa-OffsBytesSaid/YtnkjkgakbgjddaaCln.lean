/- slices.Clone at positions, those that wait, and bytes. -/
import Derived.Test.YtnkjkgakbgjddaaPsn
namespace Go.Proofs.Ytnkjkgakbgjddaa
open Go.RowKit

theorem inf29 : (Try.prog.info? 29).map (fun i => (i.zero, i.size, i.bytes)) = some (some (.agg #[.string ⟨#[]⟩, .string ⟨#[]⟩, .int .i64 0, .int .i64 0, .int .i64 0]), 5, 56) := by kernel_rfl
theorem inf52 : (Try.prog.info? 52).map (fun i => (i.zero, i.size, i.bytes)) = some (some (.agg #[.int .i64 0, .string ⟨#[]⟩, .string ⟨#[]⟩, .int .i64 0, .int .i64 0, .int .i64 0]), 6, 64) := by kernel_rfl
theorem inf5 : (Try.prog.info? 5).map (fun i => (i.zero, i.size, i.bytes)) = some (some (.int .u8 0), 1, 1) := by kernel_rfl

set_option maxHeartbeats 1000000 in
/-- slices.Clone (func 63). -/
theorem cloneP (A : Option Addr) (n c : Nat) (l : List _) (w : World) (hl : Sl psK w A n c l) (hbig : n * 56 ≤ 140737488355328) :
    Calls Try.prog 63 #[.slice A n c] w fun e w' => ∃ A' c', e = .returned (.slice A' n c') ∧ Own psK 29 w' w.heap.size A' n c' l ∧ Below w.heap.size w w' := by
  have q22 := fun (w : World) (a : Option Addr) (n c n' c' : Nat) => Lib.run_eql_slice_nil (P := Try.prog) w 22 29 a n c n' c' Try.underlying22
  obtain ⟨i0, hi, hz0, hz1, hz2⟩ := info_parts inf29
  have hm : n ≤ maxLen := Nat.le_trans hl.cap (by have := hl.max; simpa [maxLen] using this)
  have hlen := hl.len
  rcases A with _ | ⟨ab, ao, asp⟩
  · obtain ⟨rfl, rfl⟩ := hl.adr rfl
    have HL := Lib.hid hlen
    clear hlen hl
    go_enter Try.func63, Try.ntmps63
    go_wp2
    go_ret
    exact ⟨none, 0, rfl, ⟨HL.out, by rw [List.length_eq_zero_iff.1 HL.out]; exact World.ownsRow_nil _ _ _ _, by rw [List.length_eq_zero_iff.1 HL.out]; simp⟩, Below.refl _ _⟩
  · have HA := Lib.hid (fun o : Obj => (hl.alloc o).news)
    have HF := Lib.hid hl.flat_len
    have HL := Lib.hid hl
    clear hlen hl
    go_enter Try.func63, Try.ntmps63
    go_wp2_with (at_builtin; refine wpList_append_own _ rfl _ _ 22 rfl w.heap.size 29 i0 _ 5 56 Try.underlying22 hi hz0 hz1 hz2 rfl (by decide) _ _ _ rfl (World.ownsRow_made w #[] 0 (Nat.le_refl _) (Nat.zero_le _) (by simp)) ⟨ab, ao, asp⟩ n c (l.flatMap psK.cells) rfl ?qc1 ?qc2 ?qc3 ?qc4 ?qc5 ?qc6 ?_)
    case qc1 => exact HF.out
    case qc2 => exact HA.out _
    case qc3 => exact RK.flat_one psK l
    case qc4 => rw [Nat.zero_add]; exact hm
    case qc5 => rw [Nat.zero_add]; exact hbig
    case qc6 => simp
    intro v' w1 hown hgrow hnil
    obtain ⟨A', c', rfl⟩ := owns_form hown
    have HO := Lib.hid hown
    have HG := Lib.hid hgrow
    clear hown hgrow hnil
    go_wp2
    go_ret
    have hb : Below w.heap.size w w1 := ((Below.refl _ w).alloc (Nat.le_refl _) _).grown HG.out (by simp) (by intro k hk; simp [Value.ownBlock] at hk; omega)
    refine ⟨A', c', by simp, ⟨HL.out.len, by exact HO.out, fun a ha => psK.below (HL.out.each a ha) hb⟩, hb⟩

set_option maxHeartbeats 1000000 in
/-- slices.Clone (func 71). -/
theorem cloneW (A : Option Addr) (n c : Nat) (l : List _) (w : World) (hl : Sl wtK w A n c l) (hbig : n * 64 ≤ 140737488355328) :
    Calls Try.prog 71 #[.slice A n c] w fun e w' => ∃ A' c', e = .returned (.slice A' n c') ∧ Own wtK 52 w' w.heap.size A' n c' l ∧ Below w.heap.size w w' := by
  have q22 := fun (w : World) (a : Option Addr) (n c n' c' : Nat) => Lib.run_eql_slice_nil (P := Try.prog) w 23 52 a n c n' c' Try.underlying23
  obtain ⟨i0, hi, hz0, hz1, hz2⟩ := info_parts inf52
  have hm : n ≤ maxLen := Nat.le_trans hl.cap (by have := hl.max; simpa [maxLen] using this)
  have hlen := hl.len
  rcases A with _ | ⟨ab, ao, asp⟩
  · obtain ⟨rfl, rfl⟩ := hl.adr rfl
    have HL := Lib.hid hlen
    clear hlen hl
    go_enter Try.func71, Try.ntmps71
    go_wp2
    go_ret
    exact ⟨none, 0, rfl, ⟨HL.out, by rw [List.length_eq_zero_iff.1 HL.out]; exact World.ownsRow_nil _ _ _ _, by rw [List.length_eq_zero_iff.1 HL.out]; simp⟩, Below.refl _ _⟩
  · have HA := Lib.hid (fun o : Obj => (hl.alloc o).news)
    have HF := Lib.hid hl.flat_len
    have HL := Lib.hid hl
    clear hlen hl
    go_enter Try.func71, Try.ntmps71
    go_wp2_with (at_builtin; refine wpList_append_own _ rfl _ _ 23 rfl w.heap.size 52 i0 _ 6 64 Try.underlying23 hi hz0 hz1 hz2 rfl (by decide) _ _ _ rfl (World.ownsRow_made w #[] 0 (Nat.le_refl _) (Nat.zero_le _) (by simp)) ⟨ab, ao, asp⟩ n c (l.flatMap wtK.cells) rfl ?qc1 ?qc2 ?qc3 ?qc4 ?qc5 ?qc6 ?_)
    case qc1 => exact HF.out
    case qc2 => exact HA.out _
    case qc3 => exact RK.flat_one wtK l
    case qc4 => rw [Nat.zero_add]; exact hm
    case qc5 => rw [Nat.zero_add]; exact hbig
    case qc6 => simp
    intro v' w1 hown hgrow hnil
    obtain ⟨A', c', rfl⟩ := owns_form hown
    have HO := Lib.hid hown
    have HG := Lib.hid hgrow
    clear hown hgrow hnil
    go_wp2
    go_ret
    have hb : Below w.heap.size w w1 := ((Below.refl _ w).alloc (Nat.le_refl _) _).grown HG.out (by simp) (by intro k hk; simp [Value.ownBlock] at hk; omega)
    refine ⟨A', c', by simp, ⟨HL.out.len, by exact HO.out, fun a ha => wtK.below (HL.out.each a ha) hb⟩, hb⟩

set_option maxHeartbeats 1000000 in
/-- slices.Clone (func 74). -/
theorem cloneB (A : Option Addr) (n c : Nat) (l : List _) (w : World) (hl : Sl u8K w A n c l) (hbig : n * 1 ≤ 140737488355328) :
    Calls Try.prog 74 #[.slice A n c] w fun e w' => ∃ A' c', e = .returned (.slice A' n c') ∧ Own u8K 5 w' w.heap.size A' n c' l ∧ Below w.heap.size w w' := by
  have q22 := fun (w : World) (a : Option Addr) (n c n' c' : Nat) => Lib.run_eql_slice_nil (P := Try.prog) w 45 5 a n c n' c' Try.underlying45
  obtain ⟨i0, hi, hz0, hz1, hz2⟩ := info_parts inf5
  have hm : n ≤ maxLen := Nat.le_trans hl.cap (by have := hl.max; simpa [maxLen] using this)
  have hlen := hl.len
  rcases A with _ | ⟨ab, ao, asp⟩
  · obtain ⟨rfl, rfl⟩ := hl.adr rfl
    have HL := Lib.hid hlen
    clear hlen hl
    go_enter Try.func74, Try.ntmps74
    go_wp2
    go_ret
    exact ⟨none, 0, rfl, ⟨HL.out, by rw [List.length_eq_zero_iff.1 HL.out]; exact World.ownsRow_nil _ _ _ _, by rw [List.length_eq_zero_iff.1 HL.out]; simp⟩, Below.refl _ _⟩
  · have HA := Lib.hid (fun o : Obj => (hl.alloc o).news)
    have HF := Lib.hid hl.flat_len
    have HL := Lib.hid hl
    clear hlen hl
    go_enter Try.func74, Try.ntmps74
    go_wp2_with (at_builtin; refine wpList_append_own _ rfl _ _ 45 rfl w.heap.size 5 i0 _ 1 1 Try.underlying45 hi hz0 hz1 hz2 rfl (by decide) _ _ _ rfl (World.ownsRow_made w #[] 0 (Nat.le_refl _) (Nat.zero_le _) (by simp)) ⟨ab, ao, asp⟩ n c (l.flatMap u8K.cells) rfl ?qc1 ?qc2 ?qc3 ?qc4 ?qc5 ?qc6 ?_)
    case qc1 => exact HF.out
    case qc2 => exact HA.out _
    case qc3 => exact RK.flat_one u8K l
    case qc4 => rw [Nat.zero_add]; exact hm
    case qc5 => rw [Nat.zero_add]; exact hbig
    case qc6 => simp
    intro v' w1 hown hgrow hnil
    obtain ⟨A', c', rfl⟩ := owns_form hown
    have HO := Lib.hid hown
    have HG := Lib.hid hgrow
    clear hown hgrow hnil
    go_wp2
    go_ret
    have hb : Below w.heap.size w w1 := ((Below.refl _ w).alloc (Nat.le_refl _) _).grown HG.out (by simp) (by intro k hk; simp [Value.ownBlock] at hk; omega)
    refine ⟨A', c', by simp, ⟨HL.out.len, by exact HO.out, fun a ha => u8K.below (HL.out.each a ha) hb⟩, hb⟩
end Go.Proofs.Ytnkjkgakbgjddaa
