/- slices.DeleteFunc at producers. -/
import Derived.Test.YtnigjchgpmladaaIdx
import Derived.Test.YtnigjchgpmladaaBas
import Derived.Test.YtnigjchgpmladaaCln
namespace Go.Proofs.Ytnigjchgpmladaa
open Go.RowKit

theorem zv33 (w : World) : (zeroValue 33).run Try.prog w = .ok (.agg #[.string ⟨#[]⟩, .int .i64 0, .int .i64 0, .int .i64 0, .int .i64 0, .slice none 0 0, .slice none 0 0, .int .i64 0]) w := by simp [go_sem]

set_option maxHeartbeats 4000000 in
set_option maxRecDepth 100000 in
/-- slices.DeleteFunc (func 56) on a row of the call's own. -/
theorem deleteX (B : Nat) (A : Option Addr) (n c : Nat) (l : List Tx) (w : World) (g0 : Nat) (lb : Array Value) (p : Tx → Bool) (ho : Own txK 33 w B A n c l)
    (eg : ∀ args w, (callFunc g0 args).run Try.prog w = .ok (.enter g0 args) w)
    (hcall : ∀ x ∈ l, ∀ W, w.grownBy W (Value.slice A n c).ownBlock → Calls Try.prog g0 (#[.agg #[.string x.id, .int .i64 x.pid, .int .i64 x.gen, .int .i64 x.no, .int .i64 x.st, .slice x.PA x.Pn x.Pc, .slice x.GA x.Gn x.Gc, .int .i64 x.at_]] ++ lb) W fun e w' => e = .returned (.bool (p x)) ∧ Below W.heap.size W w') :
    Calls Try.prog 56 #[.slice A n c, .func (.func g0) #[] lb] w fun e w' => ∃ k, e = .returned (.slice A k c) ∧ (l.filter fun x => !p x).length = k ∧ w'.ownsRow B 33 8 (.slice A k c) k ((l.filter fun x => !p x).flatMap txK.cells) ∧ w.grownBy w' (Value.slice A n c).ownBlock := by
  have hsl := ho.sl
  have hidx : ∀ W, W = w → Calls Try.prog 82 #[.slice A n c, .func (.func g0) #[] lb] W fun e w' => ∃ r : Int, e = .returned (.int .i64 r) ∧ Found (fun j => match l[j]? with | some x => p x | none => false) n (fun _ W => Below w.heap.size w W) r w' := by
    rintro W rfl
    refine indexX A n c l W g0 lb (fun _ W' => Below W.heap.size W W') _ eg (Nat.le_trans hsl.cap hsl.max) (Below.refl _ _) (fun _ W' hb => hsl.below hb) (fun j hj W' hb => (hcall l[j] (List.getElem_mem hj) W' (grown_of_below hb _)).mono ?_)
    rintro e w' ⟨h1, h2⟩
    refine ⟨?_, below_from h2 hb hb.size⟩
    rw [h1, List.getElem?_eq_getElem hj]
  have HX := Lib.hid hidx
  have hnn : n ≤ 9223372036854775807 := Nat.le_trans hsl.cap hsl.max
  have hlen : l.length = n := ho.1
  have HO := Lib.hid ho
  have HL := Lib.hid hlen
  have HC := Lib.hid hcall
  clear hidx hsl ho hcall hlen
  go_enter Try.func56, Try.ntmps56
  go_wp2_with fail
  refine (HX.out _ rfl).mono ?_
  rintro e w1 hx
  obtain ⟨r, rfl, hF⟩ := hx
  rcases hF with ⟨rfl, hall, hb1⟩ | ⟨k, rfl, hkn, hpk, hbefore, hb1⟩
  · have HB := Lib.hid hb1
    have HA := Lib.hid hall
    clear hb1 hall
    go_wp2
    go_ret
    have hfl : (l.filter fun x => !p x) = l := by
      rw [List.filter_eq_self]
      intro x hx
      obtain ⟨j, hj, rfl⟩ := List.getElem_of_mem hx
      have := HA.out j (by rw [← HL.out]; exact hj)
      simp only [List.getElem?_eq_getElem hj] at this
      rw [this]; rfl
    refine ⟨n, rfl, by rw [hfl]; exact HL.out, ?_, grown_of_below HB.out _⟩
    rw [hfl]
    exact (HO.out.kept HB.out).2.1
  · obtain ⟨g, cur, rfl, hB, hgl, hg, hnc, hcm, hcs, htk⟩ := owns_open (show w.ownsRow B 33 8 (.slice A n c) n (l.flatMap txK.cells) from HO.out.2.1) (by omega)
    have hcm' : c ≤ 9223372036854775807 := by simpa [maxLen] using hcm
    have hfk : (l.take k).filter (fun x => !p x) = l.take k := by
      rw [List.filter_eq_self]
      intro x hx
      obtain ⟨j, hj, rfl⟩ := List.getElem_of_mem hx
      rw [List.length_take, HL.out] at hj
      have := hbefore j (by omega)
      simp only [List.getElem?_eq_getElem (show j < l.length by rw [HL.out]; omega)] at this
      rw [List.getElem_take, this]; rfl
    have hpk' : p (l[k]'(by rw [HL.out]; exact hkn)) = true := by
      simp only [List.getElem?_eq_getElem (show k < l.length by rw [HL.out]; exact hkn)] at hpk
      exact hpk
    have hfk1 : (l.take (k + 1)).filter (fun x => !p x) = l.take k := by
      rw [List.take_succ_eq_append_getElem (by rw [HL.out]; exact hkn), List.filter_append, hfk]
      simp [hpk']
    have START : Hid (∃ cur' : Array Value, w1.heap[g]? = some (.cells cur' 33 (0, 0)) ∧ cur'.size = c * 8 ∧ cur'.toList.take (k * 8) = ((l.take (k + 1)).filter fun x => !p x).flatMap txK.cells ∧ (∀ t, (k + 1) * 8 ≤ t → t < n * 8 → cur'[t]? = (l.flatMap txK.cells)[t]?) ∧ ((l.take (k + 1)).filter fun x => !p x).length = k ∧ w.grownBy w1 (some g)) := by
      refine ⟨cur, ?_, hcs, ?_, fun t _ ht => ?_, ?_, grown_of_below hb1 _⟩
      · rw [hb1.block g hgl]; exact hg
      · rw [hfk1, ← flat_take txK.cells 8 txK.len, ← htk, List.take_take, Nat.min_eq_left (by omega)]
      · rw [← htk, List.getElem?_take, if_pos ht]; simp
      · rw [hfk1, List.length_take, HL.out]; omega
    have HCM := Lib.hid hcm
    have HCS := Lib.hid hcs
    have hcsl : cur.size ≤ c * 8 := by omega
    clear hb1 hpk hbefore hfk hpk' hfk1 hg htk hcs hcm
    go_wp2_with fail
    go_loopg [5, 6] n (fun gg s5 s6 wr => ∃ i j : Nat, i < j ∧ j ≤ n ∧ n - j ≤ gg ∧ s5 = .int .i64 i ∧ s6 = .int .i64 j ∧ Hid (∃ cur' : Array Value, wr.heap[g]? = some (.cells cur' 33 (0, 0)) ∧ cur'.size = c * 8 ∧ cur'.toList.take (i * 8) = ((l.take j).filter fun x => !p x).flatMap txK.cells ∧ (∀ t, j * 8 ≤ t → t < n * 8 → cur'[t]? = (l.flatMap txK.cells)[t]?) ∧ ((l.take j).filter fun x => !p x).length = i ∧ w.grownBy wr (some g)))
    case atStart => exact ⟨k, k + 1, by omega, by omega, by omega, rfl, by go_num, START⟩
    case round =>
      obtain ⟨i, j, hij, hj, hgg, rfl, rfl, hS⟩ := hrel
      obtain ⟨cur', hg1, hs1, ht1, htail, hli, hgr⟩ := hS.out
      clear hS START
      by_cases hlt : j < n
      · have hjl : j < l.length := by rw [HL.out]; exact hlt
        have hxj : ∀ q, q < 8 → (l.flatMap txK.cells)[j * 8 + q]? = (txK.cells l[j])[q]? := fun q hq => flat_get txK.cells 8 txK.len l j q hjl hq
        have hcj := HC.out l[j] (List.getElem_mem hjl)
        have hft : (l.take (j + 1)).filter (fun x => !p x) = (l.take j).filter (fun x => !p x) ++ if p l[j] then [] else [l[j]] := by
          rw [List.take_succ_eq_append_getElem hjl, List.filter_append]
          cases hq : p l[j] <;> simp [hq]
        have hone := txK.len l[j]
        generalize l[j] = h at *
        have e0 : wr.cell? ⟨g, j * 8, none⟩ = some (.string h.id) := by rw [row_cell hg1]; exact (htail (j * 8 + 0) (by omega) (by omega)).trans (hxj 0 (by decide))
        have e1 : wr.cell? ⟨g, j * 8 + 1, none⟩ = some (.int .i64 h.pid) := by rw [row_cell hg1]; exact (htail (j * 8 + 1) (by omega) (by omega)).trans (hxj 1 (by decide))
        have e2 : wr.cell? ⟨g, j * 8 + 2, none⟩ = some (.int .i64 h.gen) := by rw [row_cell hg1]; exact (htail (j * 8 + 2) (by omega) (by omega)).trans (hxj 2 (by decide))
        have e3 : wr.cell? ⟨g, j * 8 + 3, none⟩ = some (.int .i64 h.no) := by rw [row_cell hg1]; exact (htail (j * 8 + 3) (by omega) (by omega)).trans (hxj 3 (by decide))
        have e4 : wr.cell? ⟨g, j * 8 + 4, none⟩ = some (.int .i64 h.st) := by rw [row_cell hg1]; exact (htail (j * 8 + 4) (by omega) (by omega)).trans (hxj 4 (by decide))
        have e5 : wr.cell? ⟨g, j * 8 + 5, none⟩ = some (.slice h.PA h.Pn h.Pc) := by rw [row_cell hg1]; exact (htail (j * 8 + 5) (by omega) (by omega)).trans (hxj 5 (by decide))
        have e6 : wr.cell? ⟨g, j * 8 + 6, none⟩ = some (.slice h.GA h.Gn h.Gc) := by rw [row_cell hg1]; exact (htail (j * 8 + 6) (by omega) (by omega)).trans (hxj 6 (by decide))
        have e7 : wr.cell? ⟨g, j * 8 + 7, none⟩ = some (.int .i64 h.at_) := by rw [row_cell hg1]; exact (htail (j * 8 + 7) (by omega) (by omega)).trans (hxj 7 (by decide))
        obtain ⟨o0, ho0⟩ : ∃ v, wr.cell? ⟨g, i * 8, none⟩ = some v := ⟨_, by rw [row_cell hg1]; exact Array.getElem?_eq_getElem (by omega)⟩
        have fo0 : wr.frozen? ⟨g, i * 8, none⟩ = false := row_free hg1 _
        obtain ⟨o1, ho1⟩ : ∃ v, wr.cell? ⟨g, i * 8 + 1, none⟩ = some v := ⟨_, by rw [row_cell hg1]; exact Array.getElem?_eq_getElem (by omega)⟩
        have fo1 : wr.frozen? ⟨g, i * 8 + 1, none⟩ = false := row_free hg1 _
        obtain ⟨o2, ho2⟩ : ∃ v, wr.cell? ⟨g, i * 8 + 2, none⟩ = some v := ⟨_, by rw [row_cell hg1]; exact Array.getElem?_eq_getElem (by omega)⟩
        have fo2 : wr.frozen? ⟨g, i * 8 + 2, none⟩ = false := row_free hg1 _
        obtain ⟨o3, ho3⟩ : ∃ v, wr.cell? ⟨g, i * 8 + 3, none⟩ = some v := ⟨_, by rw [row_cell hg1]; exact Array.getElem?_eq_getElem (by omega)⟩
        have fo3 : wr.frozen? ⟨g, i * 8 + 3, none⟩ = false := row_free hg1 _
        obtain ⟨o4, ho4⟩ : ∃ v, wr.cell? ⟨g, i * 8 + 4, none⟩ = some v := ⟨_, by rw [row_cell hg1]; exact Array.getElem?_eq_getElem (by omega)⟩
        have fo4 : wr.frozen? ⟨g, i * 8 + 4, none⟩ = false := row_free hg1 _
        obtain ⟨o5, ho5⟩ : ∃ v, wr.cell? ⟨g, i * 8 + 5, none⟩ = some v := ⟨_, by rw [row_cell hg1]; exact Array.getElem?_eq_getElem (by omega)⟩
        have fo5 : wr.frozen? ⟨g, i * 8 + 5, none⟩ = false := row_free hg1 _
        obtain ⟨o6, ho6⟩ : ∃ v, wr.cell? ⟨g, i * 8 + 6, none⟩ = some v := ⟨_, by rw [row_cell hg1]; exact Array.getElem?_eq_getElem (by omega)⟩
        have fo6 : wr.frozen? ⟨g, i * 8 + 6, none⟩ = false := row_free hg1 _
        obtain ⟨o7, ho7⟩ : ∃ v, wr.cell? ⟨g, i * 8 + 7, none⟩ = some v := ⟨_, by rw [row_cell hg1]; exact Array.getElem?_eq_getElem (by omega)⟩
        have fo7 : wr.frozen? ⟨g, i * 8 + 7, none⟩ = false := row_free hg1 _
        have hgw : g < wr.heap.size := (Array.getElem?_eq_some_iff.1 hg1).1
        have HG1 := Lib.hid hg1
        have HS1 := Lib.hid hs1
        have HT1 := Lib.hid ht1
        have HTL := Lib.hid htail
        have HLI := Lib.hid hli
        have HGR := Lib.hid hgr
        have HXJ := Lib.hid hxj
        have HFT := Lib.hid hft
        have HCJ := Lib.hid hcj
        clear hg1 hs1 ht1 htail hli hgr hxj hft hcj
        cases hq : p h with
        | true =>
          rw [hq] at HFT
          have HCJ2 : Hid (∀ W, w.grownBy W (some g) → Calls Try.prog g0 (#[.agg #[.string h.id, .int .i64 h.pid, .int .i64 h.gen, .int .i64 h.no, .int .i64 h.st, .slice h.PA h.Pn h.Pc, .slice h.GA h.Gn h.Gc, .int .i64 h.at_]] ++ lb) W fun e w' => e = .returned (.bool true) ∧ Below W.heap.size W w') := fun W hW => by have := HCJ.out W hW; rwa [hq] at this
          clear hq
          go_wp2_with (refine (HCJ2.out _ (by exact grown_trans HGR.out (grown_of_below (below_alloc1 _ _) _))).mono ?_; rintro e w2 ⟨rfl, hb2⟩; replace hb2 := Lib.hid hb2)
          go_roundg (n - (j + 1))
          case measure => omega
          case rel =>
            refine ⟨i, j + 1, by omega, by omega, by omega, rfl, by go_num, ?_⟩
            have hbb := hb2.out
            refine ⟨cur', ?_, HS1.out, ?_, fun t ht1 ht2 => HTL.out t (by omega) ht2, ?_, grown_trans HGR.out (grown_of_below (below_from hbb (below_alloc1 _ _) (by simp)) _)⟩
            · rw [hbb.block g (by simp; omega), Below.heap_alloc _ _ _ hgw]; exact HG1.out
            · rw [HFT.out]; simpa using HT1.out
            · rw [HFT.out]; simpa using HLI.out
        | false =>
          rw [hq] at HFT
          have HCJ2 : Hid (∀ W, w.grownBy W (some g) → Calls Try.prog g0 (#[.agg #[.string h.id, .int .i64 h.pid, .int .i64 h.gen, .int .i64 h.no, .int .i64 h.st, .slice h.PA h.Pn h.Pc, .slice h.GA h.Gn h.Gc, .int .i64 h.at_]] ++ lb) W fun e w' => e = .returned (.bool false) ∧ Below W.heap.size W w') := fun W hW => by have := HCJ.out W hW; rwa [hq] at this
          clear hq
          go_wp2_with (refine (HCJ2.out _ (by exact grown_trans HGR.out (grown_of_below (below_alloc1 _ _) _))).mono ?_; rintro e w2 ⟨rfl, hb2⟩; obtain ⟨hc1, hf1⟩ := bcell hb2; have hz2 := hb2.size; simp at hz2; replace hb2 := Lib.hid hb2; have hz3 : wr.heap.size < w2.heap.size := (by omega))
          go_roundg (n - (j + 1))
          case measure => omega
          case rel =>
            refine ⟨i + 1, j + 1, by omega, by omega, by omega, by go_num, by go_num, ?_⟩
            have hbb := hb2.out
            have hg2 : w2.heap[g]? = some (.cells cur' 33 (0, 0)) := by rw [hbb.block g (by simp; omega), Below.heap_alloc _ _ _ hgw]; exact HG1.out
            have hcl : (txK.cells h).length = 8 := hone
            have hfit : i * 8 + (txK.cells h).length ≤ cur'.size := by rw [hcl, HS1.out]; omega
            have hg3 := setCells_heap (txK.cells h) (i * 8) w2 cur' hg2 hfit
            refine ⟨_, hg3, ?_, ?_, fun t ht1 ht2 => ?_, ?_, ?_⟩
            · rw [List.size_toArray, splice_len (by simpa using hfit), Array.length_toList]; exact HS1.out
            · rw [HFT.out, show (i + 1) * 8 = i * 8 + 8 by omega]
              show (splice cur'.toList (i * 8) (txK.cells h)).take _ = _
              rw [splice_take (by simpa using hfit) (by rw [hcl]), HT1.out]
              simp
            · rw [← HTL.out t (by omega) ht2]
              rw [List.getElem?_toArray, splice_get (by simpa using hfit), if_neg (by omega), if_neg (by rw [hcl]; omega)]
              simp
            · rw [HFT.out]; simp [HLI.out]
            · exact grown_trans (grown_trans HGR.out (grown_of_below (below_from hbb (below_alloc1 _ _) (by simp)) _)) (setCells_grown g (txK.cells h) _ w2)
      · obtain rfl : j = n := by omega
        have hin : i ≤ c := by omega
        have hil : i < j := by omega
        have hclr : ∀ ty, (Builtin.clear_ #[22] ty #[.slice (some ⟨g, i * 8, none⟩) (j - i) (c - i)]).run Try.prog wr = .ok (.tuple #[]) (wr.setCells g (i * 8) (zrow (.agg #[.string ⟨#[]⟩, .int .i64 0, .int .i64 0, .int .i64 0, .int .i64 0, .slice none 0 0, .slice none 0 0, .int .i64 0]) (j - i))) :=
          fun ty => run_clear_row wr _ _ ty _ Try.underlying22 zv33 (by decide) g _ _ _ (by omega)
            (fun t ht => by
              have hz : (Value.cells (.agg #[.string ⟨#[]⟩, .int .i64 0, .int .i64 0, .int .i64 0, .int .i64 0, .slice none 0 0, .slice none 0 0, .int .i64 0])).size = 8 := rfl
              rw [hz] at ht
              rw [row_cell hg1, Array.getElem?_eq_getElem (by omega)]; rfl) (fun t ht => row_free hg1 _)
        have hzl : (zrow (.agg #[.string ⟨#[]⟩, .int .i64 0, .int .i64 0, .int .i64 0, .int .i64 0, .slice none 0 0, .slice none 0 0, .int .i64 0]) (j - i)).length = (j - i) * 8 := zrow_len _ _
        have hg2 := setCells_heap (zrow (.agg #[.string ⟨#[]⟩, .int .i64 0, .int .i64 0, .int .i64 0, .int .i64 0, .slice none 0 0, .slice none 0 0, .int .i64 0]) (j - i)) (i * 8) wr _ hg1 (by rw [hzl]; omega)
        have FIN : Hid ((l.filter fun x => !p x).length = i ∧ (wr.setCells g (i * 8) (zrow (.agg #[.string ⟨#[]⟩, .int .i64 0, .int .i64 0, .int .i64 0, .int .i64 0, .slice none 0 0, .slice none 0 0, .int .i64 0]) (j - i))).ownsRow B 33 8 (.slice (some ⟨g, 0, none⟩) i c) i ((l.filter fun x => !p x).flatMap txK.cells) ∧ w.grownBy (wr.setCells g (i * 8) (zrow (.agg #[.string ⟨#[]⟩, .int .i64 0, .int .i64 0, .int .i64 0, .int .i64 0, .slice none 0 0, .slice none 0 0, .int .i64 0]) (j - i))) (some g)) := by
          have e : l.take j = l := List.take_of_length_le (by rw [HL.out]; exact Nat.le_refl _)
          rw [e] at hli ht1
          refine ⟨hli, owns_mk hB hg2 hin HCM.out ?_ ?_, grown_trans hgr (setCells_grown g _ _ _)⟩
          · rw [List.size_toArray, splice_len (by rw [hzl, Array.length_toList]; omega), Array.length_toList]; exact hs1
          · show (splice cur'.toList _ _).take _ = _
            rw [splice_before (by rw [Array.length_toList]; omega) (Nat.le_refl _)]; exact ht1
        have hcn : ¬ (c = i) := by omega
        clear hg1 hs1 ht1 htail hli hgr hg2 hzl HCS HX HC
        go_wp2
        go_ret
        exact ⟨i, rfl, FIN.out⟩
end Go.Proofs.Ytnigjchgpmladaa
