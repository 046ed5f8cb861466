/- slices.Clone at producers, partitions and texts. -/
import Derived.Test.YtnigjchgpmladaaCor
import Derived.Test.YtnigjchgpmladaaBas
namespace Go.Proofs.Ytnigjchgpmladaa
open Go.RowKit

theorem inf33 : (Try.prog.info? 33).map (fun i => (i.zero, i.size, i.bytes)) = some (some (.agg #[.string ⟨#[]⟩, .int .i64 0, .int .i64 0, .int .i64 0, .int .i64 0, .slice none 0 0, .slice none 0 0, .int .i64 0]), 8, 104) := by kernel_rfl
theorem inf45 : (Try.prog.info? 45).map (fun i => (i.zero, i.size, i.bytes)) = some (some (.agg #[.string ⟨#[]⟩, .int .i64 0, .int .i64 0]), 3, 32) := by kernel_rfl
theorem inf9 : (Try.prog.info? 9).map (fun i => (i.zero, i.size, i.bytes)) = some (some (.string ⟨#[]⟩), 1, 16) := by kernel_rfl
theorem inf3 : (Try.prog.info? 3).map (fun i => (i.zero, i.size, i.bytes)) = some (some (.int .i64 0), 1, 8) := by kernel_rfl

set_option maxHeartbeats 1000000 in
/-- slices.Clone (func 48). -/
theorem cloneX (A : Option Addr) (n c : Nat) (l : List _) (w : World) (hl : Sl txK w A n c l) (hbig : n * 104 ≤ 140737488355328) :
    Calls Try.prog 48 #[.slice A n c] w fun e w' => ∃ A' c', e = .returned (.slice A' n c') ∧ Own txK 33 w' w.heap.size A' n c' l ∧ Below w.heap.size w w' := by
  have q22 := fun (w : World) (a : Option Addr) (n c n' c' : Nat) => Lib.run_eql_slice_nil (P := Try.prog) w 22 33 a n c n' c' Try.underlying22
  obtain ⟨i0, hi, hz0, hz1, hz2⟩ := info_parts inf33
  have hm : n ≤ maxLen := Nat.le_trans hl.cap (by have := hl.max; simpa [maxLen] using this)
  have hlen := hl.len
  rcases A with _ | ⟨ab, ao, asp⟩
  · obtain ⟨rfl, rfl⟩ := hl.adr rfl
    have HL := Lib.hid hlen
    clear hlen hl
    go_enter Try.func48, Try.ntmps48
    go_wp2
    go_ret
    exact ⟨none, 0, rfl, ⟨HL.out, by rw [List.length_eq_zero_iff.1 HL.out]; exact World.ownsRow_nil _ _ _ _, by rw [List.length_eq_zero_iff.1 HL.out]; simp⟩, Below.refl _ _⟩
  · have HA := Lib.hid (fun o : Obj => (hl.alloc o).news)
    have HF := Lib.hid hl.flat_len
    have HL := Lib.hid hl
    clear hlen hl
    go_enter Try.func48, Try.ntmps48
    go_wp2_with (at_builtin; refine wpList_append_own _ rfl _ _ 22 rfl w.heap.size 33 i0 _ 8 104 Try.underlying22 hi hz0 hz1 hz2 rfl (by decide) _ _ _ rfl (World.ownsRow_made w #[] 0 (Nat.le_refl _) (Nat.zero_le _) (by simp)) ⟨ab, ao, asp⟩ n c (l.flatMap txK.cells) rfl ?qc1 ?qc2 ?qc3 ?qc4 ?qc5 ?qc6 ?_)
    case qc1 => exact HF.out
    case qc2 => exact HA.out _
    case qc3 => exact RK.flat_one txK l
    case qc4 => rw [Nat.zero_add]; exact hm
    case qc5 => rw [Nat.zero_add]; exact hbig
    case qc6 => simp
    intro v' w1 hown hgrow hnil
    obtain ⟨A', c', rfl⟩ := owns_form hown
    have HO := Lib.hid hown
    have HG := Lib.hid hgrow
    clear hown hgrow hnil
    go_wp2
    go_ret
    have hb : Below w.heap.size w w1 := ((Below.refl _ w).alloc (Nat.le_refl _) _).grown HG.out (by simp) (by intro k hk; simp [Value.ownBlock] at hk; omega)
    refine ⟨A', c', by simp, ⟨HL.out.len, by exact HO.out, fun a ha => txK.below (HL.out.each a ha) hb⟩, hb⟩

set_option maxHeartbeats 1000000 in
/-- slices.Clone (func 90). -/
theorem cloneT (A : Option Addr) (n c : Nat) (l : List _) (w : World) (hl : Sl tpK w A n c l) (hbig : n * 32 ≤ 140737488355328) :
    Calls Try.prog 90 #[.slice A n c] w fun e w' => ∃ A' c', e = .returned (.slice A' n c') ∧ Own tpK 45 w' w.heap.size A' n c' l ∧ Below w.heap.size w w' := by
  have q22 := fun (w : World) (a : Option Addr) (n c n' c' : Nat) => Lib.run_eql_slice_nil (P := Try.prog) w 30 45 a n c n' c' Try.underlying30
  obtain ⟨i0, hi, hz0, hz1, hz2⟩ := info_parts inf45
  have hm : n ≤ maxLen := Nat.le_trans hl.cap (by have := hl.max; simpa [maxLen] using this)
  have hlen := hl.len
  rcases A with _ | ⟨ab, ao, asp⟩
  · obtain ⟨rfl, rfl⟩ := hl.adr rfl
    have HL := Lib.hid hlen
    clear hlen hl
    go_enter Try.func90, Try.ntmps90
    go_wp2
    go_ret
    exact ⟨none, 0, rfl, ⟨HL.out, by rw [List.length_eq_zero_iff.1 HL.out]; exact World.ownsRow_nil _ _ _ _, by rw [List.length_eq_zero_iff.1 HL.out]; simp⟩, Below.refl _ _⟩
  · have HA := Lib.hid (fun o : Obj => (hl.alloc o).news)
    have HF := Lib.hid hl.flat_len
    have HL := Lib.hid hl
    clear hlen hl
    go_enter Try.func90, Try.ntmps90
    go_wp2_with (at_builtin; refine wpList_append_own _ rfl _ _ 30 rfl w.heap.size 45 i0 _ 3 32 Try.underlying30 hi hz0 hz1 hz2 rfl (by decide) _ _ _ rfl (World.ownsRow_made w #[] 0 (Nat.le_refl _) (Nat.zero_le _) (by simp)) ⟨ab, ao, asp⟩ n c (l.flatMap tpK.cells) rfl ?qc1 ?qc2 ?qc3 ?qc4 ?qc5 ?qc6 ?_)
    case qc1 => exact HF.out
    case qc2 => exact HA.out _
    case qc3 => exact RK.flat_one tpK l
    case qc4 => rw [Nat.zero_add]; exact hm
    case qc5 => rw [Nat.zero_add]; exact hbig
    case qc6 => simp
    intro v' w1 hown hgrow hnil
    obtain ⟨A', c', rfl⟩ := owns_form hown
    have HO := Lib.hid hown
    have HG := Lib.hid hgrow
    clear hown hgrow hnil
    go_wp2
    go_ret
    have hb : Below w.heap.size w w1 := ((Below.refl _ w).alloc (Nat.le_refl _) _).grown HG.out (by simp) (by intro k hk; simp [Value.ownBlock] at hk; omega)
    refine ⟨A', c', by simp, ⟨HL.out.len, by exact HO.out, fun a ha => tpK.below (HL.out.each a ha) hb⟩, hb⟩

set_option maxHeartbeats 1000000 in
/-- slices.Clone (func 95). -/
theorem cloneS (A : Option Addr) (n c : Nat) (l : List _) (w : World) (hl : Sl strK w A n c l) (hbig : n * 16 ≤ 140737488355328) :
    Calls Try.prog 95 #[.slice A n c] w fun e w' => ∃ A' c', e = .returned (.slice A' n c') ∧ Own strK 9 w' w.heap.size A' n c' l ∧ Below w.heap.size w w' := by
  have q22 := fun (w : World) (a : Option Addr) (n c n' c' : Nat) => Lib.run_eql_slice_nil (P := Try.prog) w 31 9 a n c n' c' Try.underlying31
  obtain ⟨i0, hi, hz0, hz1, hz2⟩ := info_parts inf9
  have hm : n ≤ maxLen := Nat.le_trans hl.cap (by have := hl.max; simpa [maxLen] using this)
  have hlen := hl.len
  rcases A with _ | ⟨ab, ao, asp⟩
  · obtain ⟨rfl, rfl⟩ := hl.adr rfl
    have HL := Lib.hid hlen
    clear hlen hl
    go_enter Try.func95, Try.ntmps95
    go_wp2
    go_ret
    exact ⟨none, 0, rfl, ⟨HL.out, by rw [List.length_eq_zero_iff.1 HL.out]; exact World.ownsRow_nil _ _ _ _, by rw [List.length_eq_zero_iff.1 HL.out]; simp⟩, Below.refl _ _⟩
  · have HA := Lib.hid (fun o : Obj => (hl.alloc o).news)
    have HF := Lib.hid hl.flat_len
    have HL := Lib.hid hl
    clear hlen hl
    go_enter Try.func95, Try.ntmps95
    go_wp2_with (at_builtin; refine wpList_append_own _ rfl _ _ 31 rfl w.heap.size 9 i0 _ 1 16 Try.underlying31 hi hz0 hz1 hz2 rfl (by decide) _ _ _ rfl (World.ownsRow_made w #[] 0 (Nat.le_refl _) (Nat.zero_le _) (by simp)) ⟨ab, ao, asp⟩ n c (l.flatMap strK.cells) rfl ?qc1 ?qc2 ?qc3 ?qc4 ?qc5 ?qc6 ?_)
    case qc1 => exact HF.out
    case qc2 => exact HA.out _
    case qc3 => exact RK.flat_one strK l
    case qc4 => rw [Nat.zero_add]; exact hm
    case qc5 => rw [Nat.zero_add]; exact hbig
    case qc6 => simp
    intro v' w1 hown hgrow hnil
    obtain ⟨A', c', rfl⟩ := owns_form hown
    have HO := Lib.hid hown
    have HG := Lib.hid hgrow
    clear hown hgrow hnil
    go_wp2
    go_ret
    have hb : Below w.heap.size w w1 := ((Below.refl _ w).alloc (Nat.le_refl _) _).grown HG.out (by simp) (by intro k hk; simp [Value.ownBlock] at hk; omega)
    refine ⟨A', c', by simp, ⟨HL.out.len, by exact HO.out, fun a ha => strK.below (HL.out.each a ha) hb⟩, hb⟩
end Go.Proofs.Ytnigjchgpmladaa
