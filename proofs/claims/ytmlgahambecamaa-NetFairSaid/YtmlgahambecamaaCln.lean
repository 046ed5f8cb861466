/- slices.Clone at messages, slips, ways, numbers and bytes. -/
import Derived.Test.YtmlgahambecamaaNt
namespace Go.Proofs.Ytmlgahambecamaa
open Go.RowKit

theorem inf40 : (Try.prog.info? 40).map (fun i => (i.zero, i.size, i.bytes)) = some (some (.agg #[.int .i64 0, .int .i64 0, .int .i64 0, .int .i64 0, .slice none 0 0]), 5, 56) := by kernel_rfl
theorem inf54 : (Try.prog.info? 54).map (fun i => (i.zero, i.size, i.bytes)) = some (some (.agg #[.int .i64 0, .int .i64 0, .int .i64 0]), 3, 24) := by kernel_rfl
theorem inf63 : (Try.prog.info? 63).map (fun i => (i.zero, i.size, i.bytes)) = some (some (.agg #[.int .i64 0, .int .i64 0]), 2, 16) := by kernel_rfl
theorem inf3 : (Try.prog.info? 3).map (fun i => (i.zero, i.size, i.bytes)) = some (some (.int .i64 0), 1, 8) := by kernel_rfl
theorem inf5 : (Try.prog.info? 5).map (fun i => (i.zero, i.size, i.bytes)) = some (some (.int .u8 0), 1, 1) := by kernel_rfl

set_option maxHeartbeats 1000000 in
/-- slices.Clone (func 55). -/
theorem cloneM (A : Option Addr) (n c : Nat) (l : List _) (w : World) (hl : Sl mgK w A n c l) (hbig : n * 56 ≤ 140737488355328) :
    Calls Try.prog 55 #[.slice A n c] w fun e w' => ∃ A' c', e = .returned (.slice A' n c') ∧ Own mgK 40 w' w.heap.size A' n c' l ∧ Below w.heap.size w w' := by
  have q22 := fun (w : World) (a : Option Addr) (n c n' c' : Nat) => Lib.run_eql_slice_nil (P := Try.prog) w 22 40 a n c n' c' Try.underlying22
  obtain ⟨i0, hi, hz0, hz1, hz2⟩ := info_parts inf40
  have hm : n ≤ maxLen := Nat.le_trans hl.cap (by have := hl.max; simpa [maxLen] using this)
  have hlen := hl.len
  rcases A with _ | ⟨ab, ao, asp⟩
  · obtain ⟨rfl, rfl⟩ := hl.adr rfl
    have HL := Lib.hid hlen
    clear hlen hl
    go_enter Try.func55, Try.ntmps55
    go_wp2
    go_ret
    exact ⟨none, 0, rfl, ⟨HL.out, by rw [List.length_eq_zero_iff.1 HL.out]; exact World.ownsRow_nil _ _ _ _, by rw [List.length_eq_zero_iff.1 HL.out]; simp⟩, Below.refl _ _⟩
  · have HA := Lib.hid (fun o : Obj => (hl.alloc o).news)
    have HF := Lib.hid hl.flat_len
    have HL := Lib.hid hl
    clear hlen hl
    go_enter Try.func55, Try.ntmps55
    go_wp2_with (at_builtin; refine wpList_append_own _ rfl _ _ 22 rfl w.heap.size 40 i0 _ 5 56 Try.underlying22 hi hz0 hz1 hz2 rfl (by decide) _ _ _ rfl (World.ownsRow_made w #[] 0 (Nat.le_refl _) (Nat.zero_le _) (by simp)) ⟨ab, ao, asp⟩ n c (l.flatMap mgK.cells) rfl ?qc1 ?qc2 ?qc3 ?qc4 ?qc5 ?qc6 ?_)
    case qc1 => exact HF.out
    case qc2 => exact HA.out _
    case qc3 => exact RK.flat_one mgK l
    case qc4 => rw [Nat.zero_add]; exact hm
    case qc5 => rw [Nat.zero_add]; exact hbig
    case qc6 => simp
    intro v' w1 hown hgrow hnil
    obtain ⟨A', c', rfl⟩ := owns_form hown
    have HO := Lib.hid hown
    have HG := Lib.hid hgrow
    clear hown hgrow hnil
    go_wp2
    go_ret
    have hb : Below w.heap.size w w1 := ((Below.refl _ w).alloc (Nat.le_refl _) _).grown HG.out (by simp) (by intro k hk; simp [Value.ownBlock] at hk; omega)
    refine ⟨A', c', by simp, ⟨HL.out.len, by exact HO.out, fun a ha => mgK.below (HL.out.each a ha) hb⟩, hb⟩

set_option maxHeartbeats 1000000 in
/-- slices.Clone (func 64). -/
theorem cloneS (A : Option Addr) (n c : Nat) (l : List _) (w : World) (hl : Sl spK w A n c l) (hbig : n * 24 ≤ 140737488355328) :
    Calls Try.prog 64 #[.slice A n c] w fun e w' => ∃ A' c', e = .returned (.slice A' n c') ∧ Own spK 54 w' w.heap.size A' n c' l ∧ Below w.heap.size w w' := by
  have q22 := fun (w : World) (a : Option Addr) (n c n' c' : Nat) => Lib.run_eql_slice_nil (P := Try.prog) w 23 54 a n c n' c' Try.underlying23
  obtain ⟨i0, hi, hz0, hz1, hz2⟩ := info_parts inf54
  have hm : n ≤ maxLen := Nat.le_trans hl.cap (by have := hl.max; simpa [maxLen] using this)
  have hlen := hl.len
  rcases A with _ | ⟨ab, ao, asp⟩
  · obtain ⟨rfl, rfl⟩ := hl.adr rfl
    have HL := Lib.hid hlen
    clear hlen hl
    go_enter Try.func64, Try.ntmps64
    go_wp2
    go_ret
    exact ⟨none, 0, rfl, ⟨HL.out, by rw [List.length_eq_zero_iff.1 HL.out]; exact World.ownsRow_nil _ _ _ _, by rw [List.length_eq_zero_iff.1 HL.out]; simp⟩, Below.refl _ _⟩
  · have HA := Lib.hid (fun o : Obj => (hl.alloc o).news)
    have HF := Lib.hid hl.flat_len
    have HL := Lib.hid hl
    clear hlen hl
    go_enter Try.func64, Try.ntmps64
    go_wp2_with (at_builtin; refine wpList_append_own _ rfl _ _ 23 rfl w.heap.size 54 i0 _ 3 24 Try.underlying23 hi hz0 hz1 hz2 rfl (by decide) _ _ _ rfl (World.ownsRow_made w #[] 0 (Nat.le_refl _) (Nat.zero_le _) (by simp)) ⟨ab, ao, asp⟩ n c (l.flatMap spK.cells) rfl ?qc1 ?qc2 ?qc3 ?qc4 ?qc5 ?qc6 ?_)
    case qc1 => exact HF.out
    case qc2 => exact HA.out _
    case qc3 => exact RK.flat_one spK l
    case qc4 => rw [Nat.zero_add]; exact hm
    case qc5 => rw [Nat.zero_add]; exact hbig
    case qc6 => simp
    intro v' w1 hown hgrow hnil
    obtain ⟨A', c', rfl⟩ := owns_form hown
    have HO := Lib.hid hown
    have HG := Lib.hid hgrow
    clear hown hgrow hnil
    go_wp2
    go_ret
    have hb : Below w.heap.size w w1 := ((Below.refl _ w).alloc (Nat.le_refl _) _).grown HG.out (by simp) (by intro k hk; simp [Value.ownBlock] at hk; omega)
    refine ⟨A', c', by simp, ⟨HL.out.len, by exact HO.out, fun a ha => spK.below (HL.out.each a ha) hb⟩, hb⟩

set_option maxHeartbeats 1000000 in
/-- slices.Clone (func 65). -/
theorem cloneP (A : Option Addr) (n c : Nat) (l : List _) (w : World) (hl : Sl prK w A n c l) (hbig : n * 16 ≤ 140737488355328) :
    Calls Try.prog 65 #[.slice A n c] w fun e w' => ∃ A' c', e = .returned (.slice A' n c') ∧ Own prK 63 w' w.heap.size A' n c' l ∧ Below w.heap.size w w' := by
  have q22 := fun (w : World) (a : Option Addr) (n c n' c' : Nat) => Lib.run_eql_slice_nil (P := Try.prog) w 24 63 a n c n' c' Try.underlying24
  obtain ⟨i0, hi, hz0, hz1, hz2⟩ := info_parts inf63
  have hm : n ≤ maxLen := Nat.le_trans hl.cap (by have := hl.max; simpa [maxLen] using this)
  have hlen := hl.len
  rcases A with _ | ⟨ab, ao, asp⟩
  · obtain ⟨rfl, rfl⟩ := hl.adr rfl
    have HL := Lib.hid hlen
    clear hlen hl
    go_enter Try.func65, Try.ntmps65
    go_wp2
    go_ret
    exact ⟨none, 0, rfl, ⟨HL.out, by rw [List.length_eq_zero_iff.1 HL.out]; exact World.ownsRow_nil _ _ _ _, by rw [List.length_eq_zero_iff.1 HL.out]; simp⟩, Below.refl _ _⟩
  · have HA := Lib.hid (fun o : Obj => (hl.alloc o).news)
    have HF := Lib.hid hl.flat_len
    have HL := Lib.hid hl
    clear hlen hl
    go_enter Try.func65, Try.ntmps65
    go_wp2_with (at_builtin; refine wpList_append_own _ rfl _ _ 24 rfl w.heap.size 63 i0 _ 2 16 Try.underlying24 hi hz0 hz1 hz2 rfl (by decide) _ _ _ rfl (World.ownsRow_made w #[] 0 (Nat.le_refl _) (Nat.zero_le _) (by simp)) ⟨ab, ao, asp⟩ n c (l.flatMap prK.cells) rfl ?qc1 ?qc2 ?qc3 ?qc4 ?qc5 ?qc6 ?_)
    case qc1 => exact HF.out
    case qc2 => exact HA.out _
    case qc3 => exact RK.flat_one prK l
    case qc4 => rw [Nat.zero_add]; exact hm
    case qc5 => rw [Nat.zero_add]; exact hbig
    case qc6 => simp
    intro v' w1 hown hgrow hnil
    obtain ⟨A', c', rfl⟩ := owns_form hown
    have HO := Lib.hid hown
    have HG := Lib.hid hgrow
    clear hown hgrow hnil
    go_wp2
    go_ret
    have hb : Below w.heap.size w w1 := ((Below.refl _ w).alloc (Nat.le_refl _) _).grown HG.out (by simp) (by intro k hk; simp [Value.ownBlock] at hk; omega)
    refine ⟨A', c', by simp, ⟨HL.out.len, by exact HO.out, fun a ha => prK.below (HL.out.each a ha) hb⟩, hb⟩

set_option maxHeartbeats 1000000 in
/-- slices.Clone (func 66). -/
theorem cloneI (A : Option Addr) (n c : Nat) (l : List _) (w : World) (hl : Sl intK w A n c l) (hbig : n * 8 ≤ 140737488355328) :
    Calls Try.prog 66 #[.slice A n c] w fun e w' => ∃ A' c', e = .returned (.slice A' n c') ∧ Own intK 3 w' w.heap.size A' n c' l ∧ Below w.heap.size w w' := by
  have q22 := fun (w : World) (a : Option Addr) (n c n' c' : Nat) => Lib.run_eql_slice_nil (P := Try.prog) w 25 3 a n c n' c' Try.underlying25
  obtain ⟨i0, hi, hz0, hz1, hz2⟩ := info_parts inf3
  have hm : n ≤ maxLen := Nat.le_trans hl.cap (by have := hl.max; simpa [maxLen] using this)
  have hlen := hl.len
  rcases A with _ | ⟨ab, ao, asp⟩
  · obtain ⟨rfl, rfl⟩ := hl.adr rfl
    have HL := Lib.hid hlen
    clear hlen hl
    go_enter Try.func66, Try.ntmps66
    go_wp2
    go_ret
    exact ⟨none, 0, rfl, ⟨HL.out, by rw [List.length_eq_zero_iff.1 HL.out]; exact World.ownsRow_nil _ _ _ _, by rw [List.length_eq_zero_iff.1 HL.out]; simp⟩, Below.refl _ _⟩
  · have HA := Lib.hid (fun o : Obj => (hl.alloc o).news)
    have HF := Lib.hid hl.flat_len
    have HL := Lib.hid hl
    clear hlen hl
    go_enter Try.func66, Try.ntmps66
    go_wp2_with (at_builtin; refine wpList_append_own _ rfl _ _ 25 rfl w.heap.size 3 i0 _ 1 8 Try.underlying25 hi hz0 hz1 hz2 rfl (by decide) _ _ _ rfl (World.ownsRow_made w #[] 0 (Nat.le_refl _) (Nat.zero_le _) (by simp)) ⟨ab, ao, asp⟩ n c (l.flatMap intK.cells) rfl ?qc1 ?qc2 ?qc3 ?qc4 ?qc5 ?qc6 ?_)
    case qc1 => exact HF.out
    case qc2 => exact HA.out _
    case qc3 => exact RK.flat_one intK l
    case qc4 => rw [Nat.zero_add]; exact hm
    case qc5 => rw [Nat.zero_add]; exact hbig
    case qc6 => simp
    intro v' w1 hown hgrow hnil
    obtain ⟨A', c', rfl⟩ := owns_form hown
    have HO := Lib.hid hown
    have HG := Lib.hid hgrow
    clear hown hgrow hnil
    go_wp2
    go_ret
    have hb : Below w.heap.size w w1 := ((Below.refl _ w).alloc (Nat.le_refl _) _).grown HG.out (by simp) (by intro k hk; simp [Value.ownBlock] at hk; omega)
    refine ⟨A', c', by simp, ⟨HL.out.len, by exact HO.out, fun a ha => intK.below (HL.out.each a ha) hb⟩, hb⟩

set_option maxHeartbeats 1000000 in
/-- slices.Clone (func 42). -/
theorem cloneB (A : Option Addr) (n c : Nat) (l : List _) (w : World) (hl : Sl u8K w A n c l) (hbig : n * 1 ≤ 140737488355328) :
    Calls Try.prog 42 #[.slice A n c] w fun e w' => ∃ A' c', e = .returned (.slice A' n c') ∧ Own u8K 5 w' w.heap.size A' n c' l ∧ Below w.heap.size w w' := by
  have q22 := fun (w : World) (a : Option Addr) (n c n' c' : Nat) => Lib.run_eql_slice_nil (P := Try.prog) w 36 5 a n c n' c' Try.underlying36
  obtain ⟨i0, hi, hz0, hz1, hz2⟩ := info_parts inf5
  have hm : n ≤ maxLen := Nat.le_trans hl.cap (by have := hl.max; simpa [maxLen] using this)
  have hlen := hl.len
  rcases A with _ | ⟨ab, ao, asp⟩
  · obtain ⟨rfl, rfl⟩ := hl.adr rfl
    have HL := Lib.hid hlen
    clear hlen hl
    go_enter Try.func42, Try.ntmps42
    go_wp2
    go_ret
    exact ⟨none, 0, rfl, ⟨HL.out, by rw [List.length_eq_zero_iff.1 HL.out]; exact World.ownsRow_nil _ _ _ _, by rw [List.length_eq_zero_iff.1 HL.out]; simp⟩, Below.refl _ _⟩
  · have HA := Lib.hid (fun o : Obj => (hl.alloc o).news)
    have HF := Lib.hid hl.flat_len
    have HL := Lib.hid hl
    clear hlen hl
    go_enter Try.func42, Try.ntmps42
    go_wp2_with (at_builtin; refine wpList_append_own _ rfl _ _ 36 rfl w.heap.size 5 i0 _ 1 1 Try.underlying36 hi hz0 hz1 hz2 rfl (by decide) _ _ _ rfl (World.ownsRow_made w #[] 0 (Nat.le_refl _) (Nat.zero_le _) (by simp)) ⟨ab, ao, asp⟩ n c (l.flatMap u8K.cells) rfl ?qc1 ?qc2 ?qc3 ?qc4 ?qc5 ?qc6 ?_)
    case qc1 => exact HF.out
    case qc2 => exact HA.out _
    case qc3 => exact RK.flat_one u8K l
    case qc4 => rw [Nat.zero_add]; exact hm
    case qc5 => rw [Nat.zero_add]; exact hbig
    case qc6 => simp
    intro v' w1 hown hgrow hnil
    obtain ⟨A', c', rfl⟩ := owns_form hown
    have HO := Lib.hid hown
    have HG := Lib.hid hgrow
    clear hown hgrow hnil
    go_wp2
    go_ret
    have hb : Below w.heap.size w w1 := ((Below.refl _ w).alloc (Nat.le_refl _) _).grown HG.out (by simp) (by intro k hk; simp [Value.ownBlock] at hk; omega)
    refine ⟨A', c', by simp, ⟨HL.out.len, by exact HO.out, fun a ha => u8K.below (HL.out.each a ha) hb⟩, hb⟩

set_option maxHeartbeats 1000000 in
/-- The document's copy of bytes (func 51): append to nil. -/
theorem rcopy_any (A : Option Addr) (n c : Nat) (l : List _) (w : World) (hl : Sl u8K w A n c l) (hbig : n * 1 ≤ 140737488355328) :
    Calls Try.prog 51 #[.slice A n c] w fun e w' => ∃ A' c', e = .returned (.slice A' n c') ∧ Own u8K 5 w' w.heap.size A' n c' l ∧ Below w.heap.size w w' := by
  obtain ⟨i0, hi, hz0, hz1, hz2⟩ := info_parts inf5
  have hm : n ≤ maxLen := Nat.le_trans hl.cap (by have := hl.max; simpa [maxLen] using this)
  have hlen := hl.len
  rcases A with _ | ⟨ab, ao, asp⟩
  · obtain ⟨rfl, rfl⟩ := hl.adr rfl
    have HL := Lib.hid hlen
    clear hlen hl
    go_enter Try.func51, Try.ntmps51
    go_wp2
    go_ret
    exact ⟨none, 0, rfl, ⟨HL.out, by rw [List.length_eq_zero_iff.1 HL.out]; exact World.ownsRow_nil _ _ _ _, by rw [List.length_eq_zero_iff.1 HL.out]; simp⟩, Below.refl _ _⟩
  · have HA := Lib.hid hl.news
    have HF := Lib.hid hl.flat_len
    have HL := Lib.hid hl
    clear hlen hl
    go_enter Try.func51, Try.ntmps51
    go_wp2_with (at_builtin; refine wpList_append_own _ rfl _ _ 36 rfl w.heap.size 5 i0 _ 1 1 Try.underlying36 hi hz0 hz1 hz2 rfl (by decide) _ _ _ rfl (World.ownsRow_nil w w.heap.size 5 1) ⟨ab, ao, asp⟩ n c (l.flatMap u8K.cells) rfl ?qc1 ?qc2 ?qc3 ?qc4 ?qc5 ?qc6 ?_)
    case qc1 => exact HF.out
    case qc2 => exact HA.out
    case qc3 => exact RK.flat_one u8K l
    case qc4 => rw [Nat.zero_add]; exact hm
    case qc5 => rw [Nat.zero_add]; exact hbig
    case qc6 => simp
    intro v' w1 hown hgrow hnil
    obtain ⟨A', c', rfl⟩ := owns_form hown
    have HO := Lib.hid hown
    have HG := Lib.hid hgrow
    clear hown hgrow hnil
    go_wp2
    go_ret
    have hb : Below w.heap.size w w1 := (Below.refl _ w).grown HG.out (by simp) (by intro k hk; simp [Value.ownBlock] at hk)
    refine ⟨A', c', by simp, ⟨HL.out.len, by exact HO.out, fun a ha => u8K.below (HL.out.each a ha) hb⟩, hb⟩
end Go.Proofs.Ytmlgahambecamaa
