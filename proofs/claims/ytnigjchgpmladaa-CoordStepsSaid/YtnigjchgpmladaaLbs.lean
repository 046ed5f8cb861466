/- slices.Clone at producers, partitions and texts. slices.IndexFunc at producers. slices.DeleteFunc at producers. slices.BinarySearchFunc at producers and at texts. slices.BinarySearchFunc at partitions. -/
import Derived.Test.YtnigjchgpmladaaCor
import Derived.Test.YtnigjchgpmladaaBas
import Derived.Test.YtnigjchgpmladaaReg
namespace Go.Proofs.Ytnigjchgpmladaa
open Go.RowKit

theorem inf33 : (Try.prog.info? 33).map (fun i => (i.zero, i.size, i.bytes)) = some (some (.agg #[.string ⟨#[]⟩, .int .i64 0, .int .i64 0, .int .i64 0, .int .i64 0, .slice none 0 0, .slice none 0 0, .int .i64 0]), 8, 104) := by kernel_rfl
theorem inf45 : (Try.prog.info? 45).map (fun i => (i.zero, i.size, i.bytes)) = some (some (.agg #[.string ⟨#[]⟩, .int .i64 0, .int .i64 0]), 3, 32) := by kernel_rfl
theorem inf9 : (Try.prog.info? 9).map (fun i => (i.zero, i.size, i.bytes)) = some (some (.string ⟨#[]⟩), 1, 16) := by kernel_rfl
theorem inf3 : (Try.prog.info? 3).map (fun i => (i.zero, i.size, i.bytes)) = some (some (.int .i64 0), 1, 8) := by kernel_rfl

set_option maxHeartbeats 1000000 in
/-- slices.Clone (func 48). -/
theorem cloneX (A : Option Addr) (n c : Nat) (l : List _) (w : World) (hl : Sl txK w A n c l) (hbig : n * 104 ≤ 140737488355328) :
    Calls Try.prog 48 #[.slice A n c] w fun e w' => ∃ A' c', e = .returned (.slice A' n c') ∧ Own txK 33 w' w.heap.size A' n c' l ∧ Below w.heap.size w w' := by
  have q22 := fun (w : World) (a : Option Addr) (n c n' c' : Nat) => Lib.run_eql_slice_nil (P := Try.prog) w 22 33 a n c n' c' Try.underlying22
  obtain ⟨i0, hi, hz0, hz1, hz2⟩ := info_parts inf33
  have hm : n ≤ maxLen := Nat.le_trans hl.cap (by have := hl.max; simpa [maxLen] using this)
  have hlen := hl.len
  rcases A with _ | ⟨ab, ao, asp⟩
  · obtain ⟨rfl, rfl⟩ := hl.adr rfl
    have HL := Lib.hid hlen
    clear hlen hl
    go_enter Try.func48, Try.ntmps48
    go_wp2
    go_ret
    exact ⟨none, 0, rfl, ⟨HL.out, by rw [List.length_eq_zero_iff.1 HL.out]; exact World.ownsRow_nil _ _ _ _, by rw [List.length_eq_zero_iff.1 HL.out]; simp⟩, Below.refl _ _⟩
  · have HA := Lib.hid (fun o : Obj => (hl.alloc o).news)
    have HF := Lib.hid hl.flat_len
    have HL := Lib.hid hl
    clear hlen hl
    go_enter Try.func48, Try.ntmps48
    go_wp2_with (at_builtin; refine wpList_append_own _ rfl _ _ 22 rfl w.heap.size 33 i0 _ 8 104 Try.underlying22 hi hz0 hz1 hz2 rfl (by decide) _ _ _ rfl (World.ownsRow_made w #[] 0 (Nat.le_refl _) (Nat.zero_le _) (by simp)) ⟨ab, ao, asp⟩ n c (l.flatMap txK.cells) rfl ?qc1 ?qc2 ?qc3 ?qc4 ?qc5 ?qc6 ?_)
    case qc1 => exact HF.out
    case qc2 => exact HA.out _
    case qc3 => exact RK.flat_one txK l
    case qc4 => rw [Nat.zero_add]; exact hm
    case qc5 => rw [Nat.zero_add]; exact hbig
    case qc6 => simp
    intro v' w1 hown hgrow hnil
    obtain ⟨A', c', rfl⟩ := owns_form hown
    have HO := Lib.hid hown
    have HG := Lib.hid hgrow
    clear hown hgrow hnil
    go_wp2
    go_ret
    have hb : Below w.heap.size w w1 := ((Below.refl _ w).alloc (Nat.le_refl _) _).grown HG.out (by simp) (by intro k hk; simp [Value.ownBlock] at hk; omega)
    refine ⟨A', c', by simp, ⟨HL.out.len, by exact HO.out, fun a ha => txK.below (HL.out.each a ha) hb⟩, hb⟩

set_option maxHeartbeats 1000000 in
/-- slices.Clone (func 90). -/
theorem cloneT (A : Option Addr) (n c : Nat) (l : List _) (w : World) (hl : Sl tpK w A n c l) (hbig : n * 32 ≤ 140737488355328) :
    Calls Try.prog 90 #[.slice A n c] w fun e w' => ∃ A' c', e = .returned (.slice A' n c') ∧ Own tpK 45 w' w.heap.size A' n c' l ∧ Below w.heap.size w w' := by
  have q22 := fun (w : World) (a : Option Addr) (n c n' c' : Nat) => Lib.run_eql_slice_nil (P := Try.prog) w 30 45 a n c n' c' Try.underlying30
  obtain ⟨i0, hi, hz0, hz1, hz2⟩ := info_parts inf45
  have hm : n ≤ maxLen := Nat.le_trans hl.cap (by have := hl.max; simpa [maxLen] using this)
  have hlen := hl.len
  rcases A with _ | ⟨ab, ao, asp⟩
  · obtain ⟨rfl, rfl⟩ := hl.adr rfl
    have HL := Lib.hid hlen
    clear hlen hl
    go_enter Try.func90, Try.ntmps90
    go_wp2
    go_ret
    exact ⟨none, 0, rfl, ⟨HL.out, by rw [List.length_eq_zero_iff.1 HL.out]; exact World.ownsRow_nil _ _ _ _, by rw [List.length_eq_zero_iff.1 HL.out]; simp⟩, Below.refl _ _⟩
  · have HA := Lib.hid (fun o : Obj => (hl.alloc o).news)
    have HF := Lib.hid hl.flat_len
    have HL := Lib.hid hl
    clear hlen hl
    go_enter Try.func90, Try.ntmps90
    go_wp2_with (at_builtin; refine wpList_append_own _ rfl _ _ 30 rfl w.heap.size 45 i0 _ 3 32 Try.underlying30 hi hz0 hz1 hz2 rfl (by decide) _ _ _ rfl (World.ownsRow_made w #[] 0 (Nat.le_refl _) (Nat.zero_le _) (by simp)) ⟨ab, ao, asp⟩ n c (l.flatMap tpK.cells) rfl ?qc1 ?qc2 ?qc3 ?qc4 ?qc5 ?qc6 ?_)
    case qc1 => exact HF.out
    case qc2 => exact HA.out _
    case qc3 => exact RK.flat_one tpK l
    case qc4 => rw [Nat.zero_add]; exact hm
    case qc5 => rw [Nat.zero_add]; exact hbig
    case qc6 => simp
    intro v' w1 hown hgrow hnil
    obtain ⟨A', c', rfl⟩ := owns_form hown
    have HO := Lib.hid hown
    have HG := Lib.hid hgrow
    clear hown hgrow hnil
    go_wp2
    go_ret
    have hb : Below w.heap.size w w1 := ((Below.refl _ w).alloc (Nat.le_refl _) _).grown HG.out (by simp) (by intro k hk; simp [Value.ownBlock] at hk; omega)
    refine ⟨A', c', by simp, ⟨HL.out.len, by exact HO.out, fun a ha => tpK.below (HL.out.each a ha) hb⟩, hb⟩

set_option maxHeartbeats 1000000 in
/-- slices.Clone (func 95). -/
theorem cloneS (A : Option Addr) (n c : Nat) (l : List _) (w : World) (hl : Sl strK w A n c l) (hbig : n * 16 ≤ 140737488355328) :
    Calls Try.prog 95 #[.slice A n c] w fun e w' => ∃ A' c', e = .returned (.slice A' n c') ∧ Own strK 9 w' w.heap.size A' n c' l ∧ Below w.heap.size w w' := by
  have q22 := fun (w : World) (a : Option Addr) (n c n' c' : Nat) => Lib.run_eql_slice_nil (P := Try.prog) w 31 9 a n c n' c' Try.underlying31
  obtain ⟨i0, hi, hz0, hz1, hz2⟩ := info_parts inf9
  have hm : n ≤ maxLen := Nat.le_trans hl.cap (by have := hl.max; simpa [maxLen] using this)
  have hlen := hl.len
  rcases A with _ | ⟨ab, ao, asp⟩
  · obtain ⟨rfl, rfl⟩ := hl.adr rfl
    have HL := Lib.hid hlen
    clear hlen hl
    go_enter Try.func95, Try.ntmps95
    go_wp2
    go_ret
    exact ⟨none, 0, rfl, ⟨HL.out, by rw [List.length_eq_zero_iff.1 HL.out]; exact World.ownsRow_nil _ _ _ _, by rw [List.length_eq_zero_iff.1 HL.out]; simp⟩, Below.refl _ _⟩
  · have HA := Lib.hid (fun o : Obj => (hl.alloc o).news)
    have HF := Lib.hid hl.flat_len
    have HL := Lib.hid hl
    clear hlen hl
    go_enter Try.func95, Try.ntmps95
    go_wp2_with (at_builtin; refine wpList_append_own _ rfl _ _ 31 rfl w.heap.size 9 i0 _ 1 16 Try.underlying31 hi hz0 hz1 hz2 rfl (by decide) _ _ _ rfl (World.ownsRow_made w #[] 0 (Nat.le_refl _) (Nat.zero_le _) (by simp)) ⟨ab, ao, asp⟩ n c (l.flatMap strK.cells) rfl ?qc1 ?qc2 ?qc3 ?qc4 ?qc5 ?qc6 ?_)
    case qc1 => exact HF.out
    case qc2 => exact HA.out _
    case qc3 => exact RK.flat_one strK l
    case qc4 => rw [Nat.zero_add]; exact hm
    case qc5 => rw [Nat.zero_add]; exact hbig
    case qc6 => simp
    intro v' w1 hown hgrow hnil
    obtain ⟨A', c', rfl⟩ := owns_form hown
    have HO := Lib.hid hown
    have HG := Lib.hid hgrow
    clear hown hgrow hnil
    go_wp2
    go_ret
    have hb : Below w.heap.size w w1 := ((Below.refl _ w).alloc (Nat.le_refl _) _).grown HG.out (by simp) (by intro k hk; simp [Value.ownBlock] at hk; omega)
    refine ⟨A', c', by simp, ⟨HL.out.len, by exact HO.out, fun a ha => strK.below (HL.out.each a ha) hb⟩, hb⟩
end Go.Proofs.Ytnigjchgpmladaa

namespace Go.Proofs.Ytnigjchgpmladaa
open Go.RowKit


/-- What IndexFunc found: the first place at which p holds, or none; and what became of the world. -/
def Found (p : Nat → Bool) (n : Nat) (I : Nat → World → Prop) (r : Int) (w : World) : Prop :=
  (r = -1 ∧ (∀ j, j < n → p j = false) ∧ I n w) ∨ ∃ k : Nat, r = k ∧ k < n ∧ p k = true ∧ (∀ j, j < k → p j = false) ∧ I (k + 1) w

set_option maxHeartbeats 1000000 in
/-- slices.IndexFunc (func 82). -/
theorem indexX (A : Option Addr) (n c : Nat) (l : List Tx) (w : World) (g : Nat) (lb : Array Value) (I : Nat → World → Prop) (p : Nat → Bool)
    (eg : ∀ args w, (callFunc g args).run Try.prog w = .ok (.enter g args) w) (hmax : n ≤ 9223372036854775807)
    (h0 : I 0 w) (hrow : ∀ j W, I j W → Sl txK W A n c l)
    (hcall : ∀ j (hj : j < l.length) W, I j W → Calls Try.prog g (#[.agg #[.string l[j].id, .int .i64 l[j].pid, .int .i64 l[j].gen, .int .i64 l[j].no, .int .i64 l[j].st, .slice l[j].PA l[j].Pn l[j].Pc, .slice l[j].GA l[j].Gn l[j].Gc, .int .i64 l[j].at_]] ++ lb) W fun e w' => e = .returned (.bool (p j)) ∧ I (j + 1) w') :
    Calls Try.prog 82 #[.slice A n c, .func (.func g) #[] lb] w fun e w' => ∃ r : Int, e = .returned (.int .i64 r) ∧ Found p n I r w' := by
  have HR := Lib.hid hrow
  have HC := Lib.hid hcall
  clear hrow hcall
  have h0' := Lib.hid h0
  clear h0
  go_enter Try.func82, Try.ntmps82
  go_wp2
  go_loopg [5, 8] n (fun gg _ s8 wr => ∃ k : Nat, k ≤ n ∧ n - k ≤ gg ∧ s8 = .int .i64 k ∧ Hid (I k wr) ∧ Hid (∀ j, j < k → p j = false))
  case atStart => exact ⟨0, Nat.zero_le _, by omega, rfl, h0', Lib.hid (fun j hj => absurd hj (Nat.not_lt_zero _))⟩
  case round =>
    obtain ⟨k, hk, hgg, rfl, hI, hp⟩ := hrel
    by_cases hlt : k < n
    · obtain ⟨b, off, hkl, rfl, hbl, x0, x1, x2, x3, x4, x5, x6, x7⟩ := tx_at (HR.out k wr hI.out) hlt
      have hcall := HC.out k hkl wr hI.out
      generalize l[k] = x at *
      cases hq : p k with
      | true =>
        rw [hq] at hcall
        have HQ := Lib.hid hq
        clear hq
        go_wp2_with (refine hcall.mono ?_; rintro e w' ⟨rfl, hI'⟩; replace hI' := Lib.hid hI')
        go_ret
        exact ⟨k, rfl, .inr ⟨k, rfl, hlt, HQ.out, hp.out, hI'.out⟩⟩
      | false =>
        rw [hq] at hcall
        have HQ := Lib.hid hq
        clear hq
        go_wp2_with (refine hcall.mono ?_; rintro e w' ⟨rfl, hI'⟩; replace hI' := Lib.hid hI')
        go_roundg (n - (k + 1))
        case measure => omega
        case rel =>
          refine ⟨k + 1, by omega, by omega, by go_num, hI', Lib.hid (fun j hj => ?_)⟩
          by_cases e : j = k
          · subst e; exact HQ.out
          · exact hp.out j (by omega)
    · have hkn : k = n := by omega
      subst hkn
      go_wp2
      go_ret
      exact ⟨-1, rfl, .inl ⟨rfl, hp.out, hI.out⟩⟩
end Go.Proofs.Ytnigjchgpmladaa

namespace Go.Proofs.Ytnigjchgpmladaa
open Go.RowKit

theorem zv33 (w : World) : (zeroValue 33).run Try.prog w = .ok (.agg #[.string ⟨#[]⟩, .int .i64 0, .int .i64 0, .int .i64 0, .int .i64 0, .slice none 0 0, .slice none 0 0, .int .i64 0]) w := by simp [go_sem]

set_option maxHeartbeats 4000000 in
set_option maxRecDepth 100000 in
/-- slices.DeleteFunc (func 56) on a row of the call's own. -/
theorem deleteX (B : Nat) (A : Option Addr) (n c : Nat) (l : List Tx) (w : World) (g0 : Nat) (lb : Array Value) (p : Tx → Bool) (ho : Own txK 33 w B A n c l)
    (eg : ∀ args w, (callFunc g0 args).run Try.prog w = .ok (.enter g0 args) w)
    (hcall : ∀ x ∈ l, ∀ W, w.grownBy W (Value.slice A n c).ownBlock → Calls Try.prog g0 (#[.agg #[.string x.id, .int .i64 x.pid, .int .i64 x.gen, .int .i64 x.no, .int .i64 x.st, .slice x.PA x.Pn x.Pc, .slice x.GA x.Gn x.Gc, .int .i64 x.at_]] ++ lb) W fun e w' => e = .returned (.bool (p x)) ∧ Below W.heap.size W w') :
    Calls Try.prog 56 #[.slice A n c, .func (.func g0) #[] lb] w fun e w' => ∃ k, e = .returned (.slice A k c) ∧ (l.filter fun x => !p x).length = k ∧ w'.ownsRow B 33 8 (.slice A k c) k ((l.filter fun x => !p x).flatMap txK.cells) ∧ w.grownBy w' (Value.slice A n c).ownBlock := by
  have hsl := ho.sl
  have hidx : ∀ W, W = w → Calls Try.prog 82 #[.slice A n c, .func (.func g0) #[] lb] W fun e w' => ∃ r : Int, e = .returned (.int .i64 r) ∧ Found (fun j => match l[j]? with | some x => p x | none => false) n (fun _ W => Below w.heap.size w W) r w' := by
    rintro W rfl
    refine indexX A n c l W g0 lb (fun _ W' => Below W.heap.size W W') _ eg (Nat.le_trans hsl.cap hsl.max) (Below.refl _ _) (fun _ W' hb => hsl.below hb) (fun j hj W' hb => (hcall l[j] (List.getElem_mem hj) W' (grown_of_below hb _)).mono ?_)
    rintro e w' ⟨h1, h2⟩
    refine ⟨?_, below_from h2 hb hb.size⟩
    rw [h1, List.getElem?_eq_getElem hj]
  have HX := Lib.hid hidx
  have hnn : n ≤ 9223372036854775807 := Nat.le_trans hsl.cap hsl.max
  have hlen : l.length = n := ho.1
  have HO := Lib.hid ho
  have HL := Lib.hid hlen
  have HC := Lib.hid hcall
  clear hidx hsl ho hcall hlen
  go_enter Try.func56, Try.ntmps56
  go_wp2_with fail
  refine (HX.out _ rfl).mono ?_
  rintro e w1 hx
  obtain ⟨r, rfl, hF⟩ := hx
  rcases hF with ⟨rfl, hall, hb1⟩ | ⟨k, rfl, hkn, hpk, hbefore, hb1⟩
  · have HB := Lib.hid hb1
    have HA := Lib.hid hall
    clear hb1 hall
    go_wp2
    go_ret
    have hfl : (l.filter fun x => !p x) = l := by
      rw [List.filter_eq_self]
      intro x hx
      obtain ⟨j, hj, rfl⟩ := List.getElem_of_mem hx
      have := HA.out j (by rw [← HL.out]; exact hj)
      simp only [List.getElem?_eq_getElem hj] at this
      rw [this]; rfl
    refine ⟨n, rfl, by rw [hfl]; exact HL.out, ?_, grown_of_below HB.out _⟩
    rw [hfl]
    exact (HO.out.kept HB.out).2.1
  · obtain ⟨g, cur, rfl, hB, hgl, hg, hnc, hcm, hcs, htk⟩ := owns_open (show w.ownsRow B 33 8 (.slice A n c) n (l.flatMap txK.cells) from HO.out.2.1) (by omega)
    have hcm' : c ≤ 9223372036854775807 := by simpa [maxLen] using hcm
    have hfk : (l.take k).filter (fun x => !p x) = l.take k := by
      rw [List.filter_eq_self]
      intro x hx
      obtain ⟨j, hj, rfl⟩ := List.getElem_of_mem hx
      rw [List.length_take, HL.out] at hj
      have := hbefore j (by omega)
      simp only [List.getElem?_eq_getElem (show j < l.length by rw [HL.out]; omega)] at this
      rw [List.getElem_take, this]; rfl
    have hpk' : p (l[k]'(by rw [HL.out]; exact hkn)) = true := by
      simp only [List.getElem?_eq_getElem (show k < l.length by rw [HL.out]; exact hkn)] at hpk
      exact hpk
    have hfk1 : (l.take (k + 1)).filter (fun x => !p x) = l.take k := by
      rw [List.take_succ_eq_append_getElem (by rw [HL.out]; exact hkn), List.filter_append, hfk]
      simp [hpk']
    have START : Hid (∃ cur' : Array Value, w1.heap[g]? = some (.cells cur' 33 (0, 0)) ∧ cur'.size = c * 8 ∧ cur'.toList.take (k * 8) = ((l.take (k + 1)).filter fun x => !p x).flatMap txK.cells ∧ (∀ t, (k + 1) * 8 ≤ t → t < n * 8 → cur'[t]? = (l.flatMap txK.cells)[t]?) ∧ ((l.take (k + 1)).filter fun x => !p x).length = k ∧ w.grownBy w1 (some g)) := by
      refine ⟨cur, ?_, hcs, ?_, fun t _ ht => ?_, ?_, grown_of_below hb1 _⟩
      · rw [hb1.block g hgl]; exact hg
      · rw [hfk1, ← flat_take txK.cells 8 txK.len, ← htk, List.take_take, Nat.min_eq_left (by omega)]
      · rw [← htk, List.getElem?_take, if_pos ht]; simp
      · rw [hfk1, List.length_take, HL.out]; omega
    have HCM := Lib.hid hcm
    have HCS := Lib.hid hcs
    have hcsl : cur.size ≤ c * 8 := by omega
    clear hb1 hpk hbefore hfk hpk' hfk1 hg htk hcs hcm
    go_wp2_with fail
    go_loopg [5, 6] n (fun gg s5 s6 wr => ∃ i j : Nat, i < j ∧ j ≤ n ∧ n - j ≤ gg ∧ s5 = .int .i64 i ∧ s6 = .int .i64 j ∧ Hid (∃ cur' : Array Value, wr.heap[g]? = some (.cells cur' 33 (0, 0)) ∧ cur'.size = c * 8 ∧ cur'.toList.take (i * 8) = ((l.take j).filter fun x => !p x).flatMap txK.cells ∧ (∀ t, j * 8 ≤ t → t < n * 8 → cur'[t]? = (l.flatMap txK.cells)[t]?) ∧ ((l.take j).filter fun x => !p x).length = i ∧ w.grownBy wr (some g)))
    case atStart => exact ⟨k, k + 1, by omega, by omega, by omega, rfl, by go_num, START⟩
    case round =>
      obtain ⟨i, j, hij, hj, hgg, rfl, rfl, hS⟩ := hrel
      obtain ⟨cur', hg1, hs1, ht1, htail, hli, hgr⟩ := hS.out
      clear hS START
      by_cases hlt : j < n
      · have hjl : j < l.length := by rw [HL.out]; exact hlt
        have hxj : ∀ q, q < 8 → (l.flatMap txK.cells)[j * 8 + q]? = (txK.cells l[j])[q]? := fun q hq => flat_get txK.cells 8 txK.len l j q hjl hq
        have hcj := HC.out l[j] (List.getElem_mem hjl)
        have hft : (l.take (j + 1)).filter (fun x => !p x) = (l.take j).filter (fun x => !p x) ++ if p l[j] then [] else [l[j]] := by
          rw [List.take_succ_eq_append_getElem hjl, List.filter_append]
          cases hq : p l[j] <;> simp [hq]
        have hone := txK.len l[j]
        generalize l[j] = h at *
        have e0 : wr.cell? ⟨g, j * 8, none⟩ = some (.string h.id) := by rw [row_cell hg1]; exact (htail (j * 8 + 0) (by omega) (by omega)).trans (hxj 0 (by decide))
        have e1 : wr.cell? ⟨g, j * 8 + 1, none⟩ = some (.int .i64 h.pid) := by rw [row_cell hg1]; exact (htail (j * 8 + 1) (by omega) (by omega)).trans (hxj 1 (by decide))
        have e2 : wr.cell? ⟨g, j * 8 + 2, none⟩ = some (.int .i64 h.gen) := by rw [row_cell hg1]; exact (htail (j * 8 + 2) (by omega) (by omega)).trans (hxj 2 (by decide))
        have e3 : wr.cell? ⟨g, j * 8 + 3, none⟩ = some (.int .i64 h.no) := by rw [row_cell hg1]; exact (htail (j * 8 + 3) (by omega) (by omega)).trans (hxj 3 (by decide))
        have e4 : wr.cell? ⟨g, j * 8 + 4, none⟩ = some (.int .i64 h.st) := by rw [row_cell hg1]; exact (htail (j * 8 + 4) (by omega) (by omega)).trans (hxj 4 (by decide))
        have e5 : wr.cell? ⟨g, j * 8 + 5, none⟩ = some (.slice h.PA h.Pn h.Pc) := by rw [row_cell hg1]; exact (htail (j * 8 + 5) (by omega) (by omega)).trans (hxj 5 (by decide))
        have e6 : wr.cell? ⟨g, j * 8 + 6, none⟩ = some (.slice h.GA h.Gn h.Gc) := by rw [row_cell hg1]; exact (htail (j * 8 + 6) (by omega) (by omega)).trans (hxj 6 (by decide))
        have e7 : wr.cell? ⟨g, j * 8 + 7, none⟩ = some (.int .i64 h.at_) := by rw [row_cell hg1]; exact (htail (j * 8 + 7) (by omega) (by omega)).trans (hxj 7 (by decide))
        obtain ⟨o0, ho0⟩ : ∃ v, wr.cell? ⟨g, i * 8, none⟩ = some v := ⟨_, by rw [row_cell hg1]; exact Array.getElem?_eq_getElem (by omega)⟩
        have fo0 : wr.frozen? ⟨g, i * 8, none⟩ = false := row_free hg1 _
        obtain ⟨o1, ho1⟩ : ∃ v, wr.cell? ⟨g, i * 8 + 1, none⟩ = some v := ⟨_, by rw [row_cell hg1]; exact Array.getElem?_eq_getElem (by omega)⟩
        have fo1 : wr.frozen? ⟨g, i * 8 + 1, none⟩ = false := row_free hg1 _
        obtain ⟨o2, ho2⟩ : ∃ v, wr.cell? ⟨g, i * 8 + 2, none⟩ = some v := ⟨_, by rw [row_cell hg1]; exact Array.getElem?_eq_getElem (by omega)⟩
        have fo2 : wr.frozen? ⟨g, i * 8 + 2, none⟩ = false := row_free hg1 _
        obtain ⟨o3, ho3⟩ : ∃ v, wr.cell? ⟨g, i * 8 + 3, none⟩ = some v := ⟨_, by rw [row_cell hg1]; exact Array.getElem?_eq_getElem (by omega)⟩
        have fo3 : wr.frozen? ⟨g, i * 8 + 3, none⟩ = false := row_free hg1 _
        obtain ⟨o4, ho4⟩ : ∃ v, wr.cell? ⟨g, i * 8 + 4, none⟩ = some v := ⟨_, by rw [row_cell hg1]; exact Array.getElem?_eq_getElem (by omega)⟩
        have fo4 : wr.frozen? ⟨g, i * 8 + 4, none⟩ = false := row_free hg1 _
        obtain ⟨o5, ho5⟩ : ∃ v, wr.cell? ⟨g, i * 8 + 5, none⟩ = some v := ⟨_, by rw [row_cell hg1]; exact Array.getElem?_eq_getElem (by omega)⟩
        have fo5 : wr.frozen? ⟨g, i * 8 + 5, none⟩ = false := row_free hg1 _
        obtain ⟨o6, ho6⟩ : ∃ v, wr.cell? ⟨g, i * 8 + 6, none⟩ = some v := ⟨_, by rw [row_cell hg1]; exact Array.getElem?_eq_getElem (by omega)⟩
        have fo6 : wr.frozen? ⟨g, i * 8 + 6, none⟩ = false := row_free hg1 _
        obtain ⟨o7, ho7⟩ : ∃ v, wr.cell? ⟨g, i * 8 + 7, none⟩ = some v := ⟨_, by rw [row_cell hg1]; exact Array.getElem?_eq_getElem (by omega)⟩
        have fo7 : wr.frozen? ⟨g, i * 8 + 7, none⟩ = false := row_free hg1 _
        have hgw : g < wr.heap.size := (Array.getElem?_eq_some_iff.1 hg1).1
        have HG1 := Lib.hid hg1
        have HS1 := Lib.hid hs1
        have HT1 := Lib.hid ht1
        have HTL := Lib.hid htail
        have HLI := Lib.hid hli
        have HGR := Lib.hid hgr
        have HXJ := Lib.hid hxj
        have HFT := Lib.hid hft
        have HCJ := Lib.hid hcj
        clear hg1 hs1 ht1 htail hli hgr hxj hft hcj
        cases hq : p h with
        | true =>
          rw [hq] at HFT
          have HCJ2 : Hid (∀ W, w.grownBy W (some g) → Calls Try.prog g0 (#[.agg #[.string h.id, .int .i64 h.pid, .int .i64 h.gen, .int .i64 h.no, .int .i64 h.st, .slice h.PA h.Pn h.Pc, .slice h.GA h.Gn h.Gc, .int .i64 h.at_]] ++ lb) W fun e w' => e = .returned (.bool true) ∧ Below W.heap.size W w') := fun W hW => by have := HCJ.out W hW; rwa [hq] at this
          clear hq
          go_wp2_with (refine (HCJ2.out _ (by exact grown_trans HGR.out (grown_of_below (below_alloc1 _ _) _))).mono ?_; rintro e w2 ⟨rfl, hb2⟩; replace hb2 := Lib.hid hb2)
          go_roundg (n - (j + 1))
          case measure => omega
          case rel =>
            refine ⟨i, j + 1, by omega, by omega, by omega, rfl, by go_num, ?_⟩
            have hbb := hb2.out
            refine ⟨cur', ?_, HS1.out, ?_, fun t ht1 ht2 => HTL.out t (by omega) ht2, ?_, grown_trans HGR.out (grown_of_below (below_from hbb (below_alloc1 _ _) (by simp)) _)⟩
            · rw [hbb.block g (by simp; omega), Below.heap_alloc _ _ _ hgw]; exact HG1.out
            · rw [HFT.out]; simpa using HT1.out
            · rw [HFT.out]; simpa using HLI.out
        | false =>
          rw [hq] at HFT
          have HCJ2 : Hid (∀ W, w.grownBy W (some g) → Calls Try.prog g0 (#[.agg #[.string h.id, .int .i64 h.pid, .int .i64 h.gen, .int .i64 h.no, .int .i64 h.st, .slice h.PA h.Pn h.Pc, .slice h.GA h.Gn h.Gc, .int .i64 h.at_]] ++ lb) W fun e w' => e = .returned (.bool false) ∧ Below W.heap.size W w') := fun W hW => by have := HCJ.out W hW; rwa [hq] at this
          clear hq
          go_wp2_with (refine (HCJ2.out _ (by exact grown_trans HGR.out (grown_of_below (below_alloc1 _ _) _))).mono ?_; rintro e w2 ⟨rfl, hb2⟩; obtain ⟨hc1, hf1⟩ := bcell hb2; have hz2 := hb2.size; simp at hz2; replace hb2 := Lib.hid hb2; have hz3 : wr.heap.size < w2.heap.size := (by omega))
          go_roundg (n - (j + 1))
          case measure => omega
          case rel =>
            refine ⟨i + 1, j + 1, by omega, by omega, by omega, by go_num, by go_num, ?_⟩
            have hbb := hb2.out
            have hg2 : w2.heap[g]? = some (.cells cur' 33 (0, 0)) := by rw [hbb.block g (by simp; omega), Below.heap_alloc _ _ _ hgw]; exact HG1.out
            have hcl : (txK.cells h).length = 8 := hone
            have hfit : i * 8 + (txK.cells h).length ≤ cur'.size := by rw [hcl, HS1.out]; omega
            have hg3 := setCells_heap (txK.cells h) (i * 8) w2 cur' hg2 hfit
            refine ⟨_, hg3, ?_, ?_, fun t ht1 ht2 => ?_, ?_, ?_⟩
            · rw [List.size_toArray, splice_len (by simpa using hfit), Array.length_toList]; exact HS1.out
            · rw [HFT.out, show (i + 1) * 8 = i * 8 + 8 by omega]
              show (splice cur'.toList (i * 8) (txK.cells h)).take _ = _
              rw [splice_take (by simpa using hfit) (by rw [hcl]), HT1.out]
              simp
            · rw [← HTL.out t (by omega) ht2]
              rw [List.getElem?_toArray, splice_get (by simpa using hfit), if_neg (by omega), if_neg (by rw [hcl]; omega)]
              simp
            · rw [HFT.out]; simp [HLI.out]
            · exact grown_trans (grown_trans HGR.out (grown_of_below (below_from hbb (below_alloc1 _ _) (by simp)) _)) (setCells_grown g (txK.cells h) _ w2)
      · obtain rfl : j = n := by omega
        have hin : i ≤ c := by omega
        have hil : i < j := by omega
        have hclr : ∀ ty, (Builtin.clear_ #[22] ty #[.slice (some ⟨g, i * 8, none⟩) (j - i) (c - i)]).run Try.prog wr = .ok (.tuple #[]) (wr.setCells g (i * 8) (zrow (.agg #[.string ⟨#[]⟩, .int .i64 0, .int .i64 0, .int .i64 0, .int .i64 0, .slice none 0 0, .slice none 0 0, .int .i64 0]) (j - i))) :=
          fun ty => run_clear_row wr _ _ ty _ Try.underlying22 zv33 (by decide) g _ _ _ (by omega)
            (fun t ht => by
              have hz : (Value.cells (.agg #[.string ⟨#[]⟩, .int .i64 0, .int .i64 0, .int .i64 0, .int .i64 0, .slice none 0 0, .slice none 0 0, .int .i64 0])).size = 8 := rfl
              rw [hz] at ht
              rw [row_cell hg1, Array.getElem?_eq_getElem (by omega)]; rfl) (fun t ht => row_free hg1 _)
        have hzl : (zrow (.agg #[.string ⟨#[]⟩, .int .i64 0, .int .i64 0, .int .i64 0, .int .i64 0, .slice none 0 0, .slice none 0 0, .int .i64 0]) (j - i)).length = (j - i) * 8 := zrow_len _ _
        have hg2 := setCells_heap (zrow (.agg #[.string ⟨#[]⟩, .int .i64 0, .int .i64 0, .int .i64 0, .int .i64 0, .slice none 0 0, .slice none 0 0, .int .i64 0]) (j - i)) (i * 8) wr _ hg1 (by rw [hzl]; omega)
        have FIN : Hid ((l.filter fun x => !p x).length = i ∧ (wr.setCells g (i * 8) (zrow (.agg #[.string ⟨#[]⟩, .int .i64 0, .int .i64 0, .int .i64 0, .int .i64 0, .slice none 0 0, .slice none 0 0, .int .i64 0]) (j - i))).ownsRow B 33 8 (.slice (some ⟨g, 0, none⟩) i c) i ((l.filter fun x => !p x).flatMap txK.cells) ∧ w.grownBy (wr.setCells g (i * 8) (zrow (.agg #[.string ⟨#[]⟩, .int .i64 0, .int .i64 0, .int .i64 0, .int .i64 0, .slice none 0 0, .slice none 0 0, .int .i64 0]) (j - i))) (some g)) := by
          have e : l.take j = l := List.take_of_length_le (by rw [HL.out]; exact Nat.le_refl _)
          rw [e] at hli ht1
          refine ⟨hli, owns_mk hB hg2 hin HCM.out ?_ ?_, grown_trans hgr (setCells_grown g _ _ _)⟩
          · rw [List.size_toArray, splice_len (by rw [hzl, Array.length_toList]; omega), Array.length_toList]; exact hs1
          · show (splice cur'.toList _ _).take _ = _
            rw [splice_before (by rw [Array.length_toList]; omega) (Nat.le_refl _)]; exact ht1
        have hcn : ¬ (c = i) := by omega
        clear hg1 hs1 ht1 htail hli hgr hg2 hzl HCS HX HC
        go_wp2
        go_ret
        exact ⟨i, rfl, FIN.out⟩
end Go.Proofs.Ytnigjchgpmladaa

namespace Go.Proofs.Ytnigjchgpmladaa
open Go.RowKit


set_option maxHeartbeats 4000000 in
set_option maxRecDepth 1000000 in
/-- slices.BinarySearchFunc (func 44). -/
theorem searchX (A : Option Addr) (n c : Nat) (l : List Tx) (tg : ByteArray) (w : World) (g : Nat) (cb : Array Value) (cft : Tx → Int) (hl : Sl txK w A n c l) (hn : n ≤ 4611686018427387903)
    (eg : ∀ args w, (callFunc g args).run Try.prog w = .ok (.enter g args) w)
    (hmono : ∀ j k (hk : k < l.length) (hj : j < k), cft l[k] < 0 → cft (l[j]'(Nat.lt_trans hj hk)) < 0)
    (hcall : ∀ x ∈ l, ∀ W, Below w.heap.size w W → Calls Try.prog g (#[.agg #[.string x.id, .int .i64 x.pid, .int .i64 x.gen, .int .i64 x.no, .int .i64 x.st, .slice x.PA x.Pn x.Pc, .slice x.GA x.Gn x.Gc, .int .i64 x.at_], .string tg] ++ cb) W fun e w' => e = .returned (.int .i64 (cft x)) ∧ Below W.heap.size W w') :
    Calls Try.prog 44 #[.slice A n c, .string tg, .func (.func g) #[] cb] w fun e w' => ∃ (i : Nat) (b : Bool), e = .returned (.tuple #[.int .i64 i, .bool b]) ∧ SrchG cft l i b ∧ Below w.heap.size w w' := by
  have HL := Lib.hid hl
  have HM := Lib.hid hmono
  have HC := Lib.hid hcall
  have hlen := hl.len
  have hcap := hl.cap
  have hmax := hl.max
  clear hl hmono hcall
  have HN := Lib.hid hlen
  clear hlen
  go_enter Try.func44, Try.ntmps44
  go_wp2
  go_loopg [9, 10] n (fun kx s9 s10 wr => ∃ lo hi : Nat, s9 = .int .i64 lo ∧ s10 = .int .i64 hi ∧ lo ≤ hi ∧ hi ≤ n ∧ hi - lo ≤ kx ∧ Hid (Below w.heap.size w wr) ∧
    Hid ((∀ j (h : j < l.length), j < lo → cft l[j] < 0) ∧ (∀ j (h : j < l.length), hi ≤ j → 0 ≤ cft l[j])))
  case atStart => exact ⟨0, n, rfl, rfl, Nat.zero_le _, Nat.le_refl _, by omega, Below.refl _ _, Lib.hid ⟨fun j _ h => absurd h (Nat.not_lt_zero _), fun j h1 h2 => by have := HN.out; omega⟩⟩
  case round =>
    obtain ⟨lo, hi, rfl, rfl, hlh, hin, hg, hb, I⟩ := hrel
    by_cases hlt : lo < hi
    · obtain ⟨b, off, hkl, rfl, hbl, x0, x1, x2, x3, x4, x5, x6, x7⟩ := tx_at (HL.out.below hb.out) (show (lo + hi) / 2 < n by omega)
      obtain ⟨x, hx⟩ : ∃ x, l[(lo + hi) / 2] = x := ⟨_, rfl⟩
      have MEM := Lib.hid (show x ∈ l from by rw [← hx]; exact List.getElem_mem hkl)
      rw [hx] at x0 x1 x2 x3 x4 x5 x6 x7
      have HK := Lib.hid hkl
      have Y := Lib.hid (fun (h : (lo + hi) / 2 < l.length) => (show l[(lo + hi) / 2]'h = x from hx))
      have hc := HC.out x MEM.out wr hb.out
      skip
      clear hx hkl
      by_cases hyx : cft x < 0
      · go_wp2_with (refine hc.mono ?_; rintro e w' ⟨rfl, hb'⟩; have HB' := Lib.hid (below_from hb' hb.out hb.out.size); clear hb')
        go_roundg (hi - ((lo + hi) / 2 + 1))
        case measure => omega
        case rel =>
          refine ⟨(lo + hi) / 2 + 1, hi, by rw [show ((lo : Int) + (hi : Int)) / 2 + 1 = (((lo + hi) / 2 + 1 : Nat) : Int) by omega], rfl, by omega, hin, Nat.le_refl _, HB', Lib.hid ⟨fun j h hj => ?_, I.out.2⟩⟩
          rcases Nat.lt_or_ge j ((lo + hi) / 2) with h1 | h1
          · exact HM.out j ((lo + hi) / 2) HK.out h1 (by rw [Y.out]; exact hyx)
          · obtain rfl : j = (lo + hi) / 2 := by omega
            rw [Y.out]; exact hyx
      · go_wp2_with (refine hc.mono ?_; rintro e w' ⟨rfl, hb'⟩; have HB' := Lib.hid (below_from hb' hb.out hb.out.size); clear hb')
        go_roundg ((lo + hi) / 2 - lo)
        case measure => omega
        case rel =>
          refine ⟨lo, (lo + hi) / 2, rfl, by rw [show ((lo : Int) + (hi : Int)) / 2 = (((lo + hi) / 2 : Nat) : Int) by omega], by omega, by omega, Nat.le_refl _, HB', Lib.hid ⟨I.out.1, fun j h hj => ?_⟩⟩
          rcases Nat.lt_or_ge ((lo + hi) / 2) j with h1 | h1
          · apply Int.not_lt.1
            intro hneg
            have := HM.out ((lo + hi) / 2) j h h1 hneg
            rw [Y.out] at this
            omega
          · obtain rfl : j = (lo + hi) / 2 := by omega
            rw [Y.out]; omega
    · obtain rfl : hi = lo := by omega
      by_cases hnn : hi < n
      · obtain ⟨b, off, hkl, rfl, hbl, x0, x1, x2, x3, x4, x5, x6, x7⟩ := tx_at (HL.out.below hb.out) hnn
        obtain ⟨x, hx⟩ : ∃ x, l[hi] = x := ⟨_, rfl⟩
        have MEM := Lib.hid (show x ∈ l from by rw [← hx]; exact List.getElem_mem hkl)
        rw [hx] at x0 x1 x2 x3 x4 x5 x6 x7
        have HK := Lib.hid hkl
        have Y := Lib.hid (fun (h : hi < l.length) => (show l[hi]'h = x from hx))
        have hc := HC.out x MEM.out wr hb.out
        skip
        clear hx hkl
        by_cases hyx : cft x = 0
        · go_wp2_with (refine hc.mono ?_; rintro e w' ⟨rfl, hb'⟩; have HB' := Lib.hid (below_from hb' hb.out hb.out.size); clear hb')
          go_ret2
          exact ⟨hi, true, by simp, ⟨Nat.le_of_lt HK.out, I.out.1, I.out.2, ⟨fun _ => ⟨HK.out, by rw [Y.out]; exact hyx⟩, fun _ => rfl⟩⟩, HB'.out⟩
        · go_wp2_with (refine hc.mono ?_; rintro e w' ⟨rfl, hb'⟩; have HB' := Lib.hid (below_from hb' hb.out hb.out.size); clear hb')
          go_ret2
          exact ⟨hi, false, by simp [hyx], ⟨Nat.le_of_lt HK.out, I.out.1, I.out.2, ⟨fun h => (by cases h), fun h => absurd (by obtain ⟨_, h⟩ := h; rw [Y.out] at h; exact h) hyx⟩⟩, HB'.out⟩
      · go_wp2
        go_ret2
        exact ⟨hi, false, rfl, ⟨by rw [HN.out]; omega, I.out.1, I.out.2, ⟨fun h => (by cases h), fun h => absurd h.1 (by rw [HN.out]; omega)⟩⟩, hb.out⟩

set_option maxHeartbeats 4000000 in
set_option maxRecDepth 1000000 in
/-- slices.BinarySearchFunc (func 93). -/
theorem searchS (A : Option Addr) (n c : Nat) (l : List ByteArray) (tg : ByteArray) (w : World) (g : Nat) (cb : Array Value) (cft : ByteArray → Int) (hl : Sl strK w A n c l) (hn : n ≤ 4611686018427387903)
    (eg : ∀ args w, (callFunc g args).run Try.prog w = .ok (.enter g args) w)
    (hmono : ∀ j k (hk : k < l.length) (hj : j < k), cft l[k] < 0 → cft (l[j]'(Nat.lt_trans hj hk)) < 0)
    (hcall : ∀ x ∈ l, ∀ W, Below w.heap.size w W → Calls Try.prog g (#[.string x, .string tg] ++ cb) W fun e w' => e = .returned (.int .i64 (cft x)) ∧ Below W.heap.size W w') :
    Calls Try.prog 93 #[.slice A n c, .string tg, .func (.func g) #[] cb] w fun e w' => ∃ (i : Nat) (b : Bool), e = .returned (.tuple #[.int .i64 i, .bool b]) ∧ SrchG cft l i b ∧ Below w.heap.size w w' := by
  have HL := Lib.hid hl
  have HM := Lib.hid hmono
  have HC := Lib.hid hcall
  have hlen := hl.len
  have hcap := hl.cap
  have hmax := hl.max
  clear hl hmono hcall
  have HN := Lib.hid hlen
  clear hlen
  go_enter Try.func93, Try.ntmps93
  go_wp2
  go_loopg [9, 10] n (fun kx s9 s10 wr => ∃ lo hi : Nat, s9 = .int .i64 lo ∧ s10 = .int .i64 hi ∧ lo ≤ hi ∧ hi ≤ n ∧ hi - lo ≤ kx ∧ Hid (Below w.heap.size w wr) ∧
    Hid ((∀ j (h : j < l.length), j < lo → cft l[j] < 0) ∧ (∀ j (h : j < l.length), hi ≤ j → 0 ≤ cft l[j])))
  case atStart => exact ⟨0, n, rfl, rfl, Nat.zero_le _, Nat.le_refl _, by omega, Below.refl _ _, Lib.hid ⟨fun j _ h => absurd h (Nat.not_lt_zero _), fun j h1 h2 => by have := HN.out; omega⟩⟩
  case round =>
    obtain ⟨lo, hi, rfl, rfl, hlh, hin, hg, hb, I⟩ := hrel
    by_cases hlt : lo < hi
    · obtain ⟨b, off, hkl, rfl, hbl, x0⟩ := str_at (HL.out.below hb.out) (show (lo + hi) / 2 < n by omega)
      obtain ⟨x, hx⟩ : ∃ x, l[(lo + hi) / 2] = x := ⟨_, rfl⟩
      have MEM := Lib.hid (show x ∈ l from by rw [← hx]; exact List.getElem_mem hkl)
      rw [hx] at x0
      have HK := Lib.hid hkl
      have Y := Lib.hid (fun (h : (lo + hi) / 2 < l.length) => (show l[(lo + hi) / 2]'h = x from hx))
      have hc := HC.out x MEM.out wr hb.out
      skip
      clear hx hkl
      by_cases hyx : cft x < 0
      · go_wp2_with (refine hc.mono ?_; rintro e w' ⟨rfl, hb'⟩; have HB' := Lib.hid (below_from hb' hb.out hb.out.size); clear hb')
        go_roundg (hi - ((lo + hi) / 2 + 1))
        case measure => omega
        case rel =>
          refine ⟨(lo + hi) / 2 + 1, hi, by rw [show ((lo : Int) + (hi : Int)) / 2 + 1 = (((lo + hi) / 2 + 1 : Nat) : Int) by omega], rfl, by omega, hin, Nat.le_refl _, HB', Lib.hid ⟨fun j h hj => ?_, I.out.2⟩⟩
          rcases Nat.lt_or_ge j ((lo + hi) / 2) with h1 | h1
          · exact HM.out j ((lo + hi) / 2) HK.out h1 (by rw [Y.out]; exact hyx)
          · obtain rfl : j = (lo + hi) / 2 := by omega
            rw [Y.out]; exact hyx
      · go_wp2_with (refine hc.mono ?_; rintro e w' ⟨rfl, hb'⟩; have HB' := Lib.hid (below_from hb' hb.out hb.out.size); clear hb')
        go_roundg ((lo + hi) / 2 - lo)
        case measure => omega
        case rel =>
          refine ⟨lo, (lo + hi) / 2, rfl, by rw [show ((lo : Int) + (hi : Int)) / 2 = (((lo + hi) / 2 : Nat) : Int) by omega], by omega, by omega, Nat.le_refl _, HB', Lib.hid ⟨I.out.1, fun j h hj => ?_⟩⟩
          rcases Nat.lt_or_ge ((lo + hi) / 2) j with h1 | h1
          · apply Int.not_lt.1
            intro hneg
            have := HM.out ((lo + hi) / 2) j h h1 hneg
            rw [Y.out] at this
            omega
          · obtain rfl : j = (lo + hi) / 2 := by omega
            rw [Y.out]; omega
    · obtain rfl : hi = lo := by omega
      by_cases hnn : hi < n
      · obtain ⟨b, off, hkl, rfl, hbl, x0⟩ := str_at (HL.out.below hb.out) hnn
        obtain ⟨x, hx⟩ : ∃ x, l[hi] = x := ⟨_, rfl⟩
        have MEM := Lib.hid (show x ∈ l from by rw [← hx]; exact List.getElem_mem hkl)
        rw [hx] at x0
        have HK := Lib.hid hkl
        have Y := Lib.hid (fun (h : hi < l.length) => (show l[hi]'h = x from hx))
        have hc := HC.out x MEM.out wr hb.out
        skip
        clear hx hkl
        by_cases hyx : cft x = 0
        · go_wp2_with (refine hc.mono ?_; rintro e w' ⟨rfl, hb'⟩; have HB' := Lib.hid (below_from hb' hb.out hb.out.size); clear hb')
          go_ret2
          exact ⟨hi, true, by simp, ⟨Nat.le_of_lt HK.out, I.out.1, I.out.2, ⟨fun _ => ⟨HK.out, by rw [Y.out]; exact hyx⟩, fun _ => rfl⟩⟩, HB'.out⟩
        · go_wp2_with (refine hc.mono ?_; rintro e w' ⟨rfl, hb'⟩; have HB' := Lib.hid (below_from hb' hb.out hb.out.size); clear hb')
          go_ret2
          exact ⟨hi, false, by simp [hyx], ⟨Nat.le_of_lt HK.out, I.out.1, I.out.2, ⟨fun h => (by cases h), fun h => absurd (by obtain ⟨_, h⟩ := h; rw [Y.out] at h; exact h) hyx⟩⟩, HB'.out⟩
      · go_wp2
        go_ret2
        exact ⟨hi, false, rfl, ⟨by rw [HN.out]; omega, I.out.1, I.out.2, ⟨fun h => (by cases h), fun h => absurd h.1 (by rw [HN.out]; omega)⟩⟩, hb.out⟩
end Go.Proofs.Ytnigjchgpmladaa

namespace Go.Proofs.Ytnigjchgpmladaa
open Go.RowKit


set_option maxHeartbeats 4000000 in
set_option maxRecDepth 1000000 in
/-- slices.BinarySearchFunc (func 88). -/
theorem searchT (A : Option Addr) (n c : Nat) (l : List Tp) (tg : Tp) (w : World) (g : Nat) (cft : Tp → Int) (hl : Sl tpK w A n c l) (hn : n ≤ 4611686018427387903)
    (eg : ∀ args w, (callFunc g args).run Try.prog w = .ok (.enter g args) w)
    (hmono : ∀ j k (hk : k < l.length) (hj : j < k), cft l[k] < 0 → cft (l[j]'(Nat.lt_trans hj hk)) < 0)
    (hcall : ∀ x ∈ l, ∀ W, Below w.heap.size w W → Calls Try.prog g #[.agg #[.string x.t, .int .i64 x.p, .int .i64 x.h], .agg #[.string tg.t, .int .i64 tg.p, .int .i64 tg.h]] W fun e w' => e = .returned (.int .i64 (cft x)) ∧ Below W.heap.size W w') :
    Calls Try.prog 88 #[.slice A n c, .agg #[.string tg.t, .int .i64 tg.p, .int .i64 tg.h], .func (.func g) #[] #[]] w fun e w' => ∃ (i : Nat) (b : Bool), e = .returned (.tuple #[.int .i64 i, .bool b]) ∧ SrchG cft l i b ∧ Below w.heap.size w w' := by
  obtain ⟨W0, hW0⟩ : ∃ W0, W0 = w.alloc (.cells #[.string tg.t, .int .i64 tg.p, .int .i64 tg.h] 45) := ⟨_, rfl⟩
  have B0 := Lib.hid (show Below w.heap.size w W0 from by rw [hW0]; exact below_alloc1 w _)
  have T0 := Lib.hid (show Has W0 w.heap.size #[.string tg.t, .int .i64 tg.p, .int .i64 tg.h] from by rw [hW0]; exact Has.newAt w _ 45 rfl)
  have HW0 := Lib.hid hW0
  have HL := Lib.hid (hl.below B0.out)
  have HM := Lib.hid hmono
  have HC := Lib.hid hcall
  have hlen := hl.len
  have hcap := hl.cap
  have hmax := hl.max
  clear hl hmono hcall hW0
  have HN := Lib.hid hlen
  clear hlen
  go_enter Try.func88, Try.ntmps88
  go_wp2_with fail
  rw [← HW0.out]
  go_loopg [9, 10] n (fun kx s9 s10 wr => ∃ lo hi : Nat, s9 = .int .i64 lo ∧ s10 = .int .i64 hi ∧ lo ≤ hi ∧ hi ≤ n ∧ hi - lo ≤ kx ∧ Hid (Below W0.heap.size W0 wr) ∧
    Hid ((∀ j (h : j < l.length), j < lo → cft l[j] < 0) ∧ (∀ j (h : j < l.length), hi ≤ j → 0 ≤ cft l[j])))
  case atStart => exact ⟨0, n, rfl, rfl, Nat.zero_le _, Nat.le_refl _, by omega, Lib.hid (Below.refl _ _), Lib.hid ⟨fun j _ h => absurd h (Nat.not_lt_zero _), fun j h1 h2 => by have := HN.out; omega⟩⟩
  case round =>
    obtain ⟨lo, hi, rfl, rfl, hlh, hin, hg, hb, I⟩ := hrel
    have TB := Lib.hid (T0.out.past hb.out)
    have tc := TB.out.cell
    have tl := TB.out.lt
    have BB := Lib.hid (below_from hb.out B0.out B0.out.size)
    by_cases hlt : lo < hi
    · obtain ⟨b, off, hkl, rfl, hbl, x0, x1, x2⟩ := tp_at (HL.out.below hb.out) (show (lo + hi) / 2 < n by omega)
      obtain ⟨x, hx⟩ : ∃ x, l[(lo + hi) / 2] = x := ⟨_, rfl⟩
      have MEM := Lib.hid (show x ∈ l from by rw [← hx]; exact List.getElem_mem hkl)
      rw [hx] at x0 x1 x2
      have HK := Lib.hid hkl
      have Y := Lib.hid (fun (h : (lo + hi) / 2 < l.length) => (show l[(lo + hi) / 2]'h = x from hx))
      have HC2 := Lib.hid (fun W (h : Below wr.heap.size wr W) => HC.out x MEM.out W (below_from h BB.out BB.out.size))
      clear hx hkl
      obtain ⟨q, hq⟩ : ∃ q, cft x = q := ⟨_, rfl⟩
      rw [hq] at HC2
      have HQ := Lib.hid hq
      clear hq
      have rx0 := at_regrown x0
      have rx1 := at_regrown x1
      have rx2 := at_regrown x2
      have rt0 := at_regrown (v := .string tg.t) (tc 0)
      have rt1 := at_regrown (v := .int .i64 tg.p) (tc 1)
      have rt2 := at_regrown (v := .int .i64 tg.h) (tc 2)
      by_cases hyx : q < 0
      · go_wp2_with fail
        refine region_below (by kernel_rfl) (by kernel_rfl) ?_
        repeat (go_big_quiet_step (exact call_regrown HC2.out))
        refine wpQuiet_nil ?_
        intro w1 hb1
        have B1 := Lib.hid (below_from hb1 hb.out hb.out.size)
        clear hb1
        go_wp2_with fail
        go_roundg (hi - ((lo + hi) / 2 + 1))
        case measure => omega
        case rel =>
          refine ⟨(lo + hi) / 2 + 1, hi, by rw [show ((lo : Int) + (hi : Int)) / 2 + 1 = (((lo + hi) / 2 + 1 : Nat) : Int) by omega], rfl, by omega, hin, Nat.le_refl _, B1, Lib.hid ⟨fun j h hj => ?_, I.out.2⟩⟩
          rcases Nat.lt_or_ge j ((lo + hi) / 2) with h1 | h1
          · exact HM.out j ((lo + hi) / 2) HK.out h1 (by rw [Y.out, HQ.out]; exact hyx)
          · obtain rfl : j = (lo + hi) / 2 := by omega
            rw [Y.out, HQ.out]; exact hyx
      · go_wp2_with fail
        refine region_below (by kernel_rfl) (by kernel_rfl) ?_
        repeat (go_big_quiet_step (exact call_regrown HC2.out))
        refine wpQuiet_nil ?_
        intro w1 hb1
        have B1 := Lib.hid (below_from hb1 hb.out hb.out.size)
        clear hb1
        go_wp2_with fail
        go_roundg ((lo + hi) / 2 - lo)
        case measure => omega
        case rel =>
          refine ⟨lo, (lo + hi) / 2, rfl, by rw [show ((lo : Int) + (hi : Int)) / 2 = (((lo + hi) / 2 : Nat) : Int) by omega], by omega, by omega, Nat.le_refl _, B1, Lib.hid ⟨I.out.1, fun j h hj => ?_⟩⟩
          rcases Nat.lt_or_ge ((lo + hi) / 2) j with h1 | h1
          · apply Int.not_lt.1
            intro hneg
            have := HM.out ((lo + hi) / 2) j h h1 hneg
            rw [Y.out, HQ.out] at this
            omega
          · obtain rfl : j = (lo + hi) / 2 := by omega
            rw [Y.out, HQ.out]; omega
    · obtain rfl : hi = lo := by omega
      by_cases hnn : hi < n
      · obtain ⟨b, off, hkl, rfl, hbl, x0, x1, x2⟩ := tp_at (HL.out.below hb.out) hnn
        obtain ⟨x, hx⟩ : ∃ x, l[hi] = x := ⟨_, rfl⟩
        have MEM := Lib.hid (show x ∈ l from by rw [← hx]; exact List.getElem_mem hkl)
        rw [hx] at x0 x1 x2
        have HK := Lib.hid hkl
        have Y := Lib.hid (fun (h : hi < l.length) => (show l[hi]'h = x from hx))
        have HC2 := Lib.hid (fun W (h : Below wr.heap.size wr W) => HC.out x MEM.out W (below_from h BB.out BB.out.size))
        have m2 : (hi : Int) < (n : Int) := by omega
        have dd : decide (hi < n) = true := decide_eq_true hnn
        have rx0 := at_regrown x0
        have rx1 := at_regrown x1
        have rx2 := at_regrown x2
        have rt0 := at_regrown (v := .string tg.t) (tc 0)
        have rt1 := at_regrown (v := .int .i64 tg.p) (tc 1)
        have rt2 := at_regrown (v := .int .i64 tg.h) (tc 2)
        clear hx hkl
        obtain ⟨q, hq⟩ : ∃ q, cft x = q := ⟨_, rfl⟩
        rw [hq] at HC2
        have HQ := Lib.hid hq
        clear hq
        by_cases hyx : q = 0
        · subst hyx
          go_wp2_with fail
          refine region_below (by kernel_rfl) (by kernel_rfl) ?_
          repeat (go_big_quiet_step (exact call_regrown HC2.out))
          refine wpQuiet_nil ?_
          intro w1 hb1
          have B1 := Lib.hid (below_from hb1 hb.out hb.out.size)
          clear hb1
          go_wp2_with fail
          go_ret2
          exact ⟨hi, true, by simp, ⟨Nat.le_of_lt HK.out, I.out.1, I.out.2, ⟨fun _ => ⟨HK.out, by rw [Y.out]; exact HQ.out⟩, fun _ => rfl⟩⟩, (below_from B1.out B0.out B0.out.size)⟩
        · go_wp2_with fail
          refine region_below (by kernel_rfl) (by kernel_rfl) ?_
          repeat (go_big_quiet_step (exact call_regrown HC2.out))
          refine wpQuiet_nil ?_
          intro w1 hb1
          have B1 := Lib.hid (below_from hb1 hb.out hb.out.size)
          clear hb1
          go_wp2_with fail
          go_ret2
          exact ⟨hi, false, by simp [hyx], ⟨Nat.le_of_lt HK.out, I.out.1, I.out.2, ⟨fun h => (by cases h), fun h => absurd (by obtain ⟨_, h⟩ := h; rw [Y.out, HQ.out] at h; exact h) hyx⟩⟩, (below_from B1.out B0.out B0.out.size)⟩
      · have dd : decide (hi < n) = false := decide_eq_false hnn
        go_wp2_with fail
        refine region_below (by kernel_rfl) (by kernel_rfl) ?_
        repeat (go_big_quiet_step (fail))
        refine wpQuiet_nil ?_
        intro w1 hb1
        have B1 := Lib.hid (below_from hb1 hb.out hb.out.size)
        clear hb1
        go_wp2_with fail
        go_ret2
        exact ⟨hi, false, rfl, ⟨by rw [HN.out]; omega, I.out.1, I.out.2, ⟨fun h => (by cases h), fun h => absurd h.1 (by rw [HN.out]; omega)⟩⟩, (below_from B1.out B0.out B0.out.size)⟩
end Go.Proofs.Ytnigjchgpmladaa
