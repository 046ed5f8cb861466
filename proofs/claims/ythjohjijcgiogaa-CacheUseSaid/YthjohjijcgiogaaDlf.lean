/- slices.DeleteFunc at chunks. -/
import Derived.Test.YthjohjijcgiogaaDel
import Derived.Test.YthjohjijcgiogaaIdx
namespace Go.Proofs.Ythjohjijcgiogaa
open Go.RowKit


set_option maxHeartbeats 4000000 in
set_option maxRecDepth 100000 in
/-- slices.DeleteFunc (func 43) on a row of the call's own. -/
theorem deleteFuncHd (B : Nat) (A : Option Addr) (n c : Nat) (l : List Hd) (w : World) (g0 : Nat) (lb : Array Value) (p : Hd → Bool) (ho : Own hdK 37 w B A n c l)
    (eg : ∀ args w, (callFunc g0 args).run Try.prog w = .ok (.enter g0 args) w)
    (hcall : ∀ x ∈ l, ∀ W, w.grownBy W (Value.slice A n c).ownBlock → Calls Try.prog g0 (#[.agg #[.string x.name, .int .i64 x.no, .slice x.A x.n x.c]] ++ lb) W fun e w' => e = .returned (.bool (p x)) ∧ Below W.heap.size W w') :
    Calls Try.prog 43 #[.slice A n c, .func (.func g0) #[] lb] w fun e w' => ∃ k, e = .returned (.slice A k c) ∧ (l.filter fun x => !p x).length = k ∧ w'.ownsRow B 37 3 (.slice A k c) k ((l.filter fun x => !p x).flatMap hdK.cells) ∧ w.grownBy w' (Value.slice A n c).ownBlock := by
  have hsl := ho.sl
  have hidx : ∀ W, W = w → Calls Try.prog 39 #[.slice A n c, .func (.func g0) #[] lb] W fun e w' => ∃ r : Int, e = .returned (.int .i64 r) ∧ Found (fun j => match l[j]? with | some x => p x | none => false) n (fun _ W => Below w.heap.size w W) r w' := by
    rintro W rfl
    refine indexHd A n c l W g0 lb (fun _ W' => Below W.heap.size W W') _ eg (Nat.le_trans hsl.cap hsl.max) (Below.refl _ _) (fun _ W' hb => hsl.below hb) (fun j hj W' hb => (hcall l[j] (List.getElem_mem hj) W' (grown_of_below hb _)).mono ?_)
    rintro e w' ⟨h1, h2⟩
    refine ⟨?_, below_from h2 hb hb.size⟩
    rw [h1, List.getElem?_eq_getElem hj]
  have HX := Lib.hid hidx
  have hnn : n ≤ 9223372036854775807 := Nat.le_trans hsl.cap hsl.max
  have hlen : l.length = n := ho.1
  have HO := Lib.hid ho
  have HL := Lib.hid hlen
  have HC := Lib.hid hcall
  clear hidx hsl ho hcall hlen
  go_enter Try.func43, Try.ntmps43
  go_wp2_with fail
  refine (HX.out _ rfl).mono ?_
  rintro e w1 hx
  obtain ⟨r, rfl, hF⟩ := hx
  rcases hF with ⟨rfl, hall, hb1⟩ | ⟨k, rfl, hkn, hpk, hbefore, hb1⟩
  · have HB := Lib.hid hb1
    have HA := Lib.hid hall
    clear hb1 hall
    go_wp2
    go_ret
    have hfl : (l.filter fun x => !p x) = l := by
      rw [List.filter_eq_self]
      intro x hx
      obtain ⟨j, hj, rfl⟩ := List.getElem_of_mem hx
      have := HA.out j (by rw [← HL.out]; exact hj)
      simp only [List.getElem?_eq_getElem hj] at this
      rw [this]; rfl
    refine ⟨n, rfl, by rw [hfl]; exact HL.out, ?_, grown_of_below HB.out _⟩
    rw [hfl]
    exact (HO.out.kept HB.out).2.1
  · obtain ⟨g, cur, rfl, hB, hgl, hg, hnc, hcm, hcs, htk⟩ := owns_open (show w.ownsRow B 37 3 (.slice A n c) n (l.flatMap hdK.cells) from HO.out.2.1) (by omega)
    have hcm' : c ≤ 9223372036854775807 := by simpa [maxLen] using hcm
    have hfk : (l.take k).filter (fun x => !p x) = l.take k := by
      rw [List.filter_eq_self]
      intro x hx
      obtain ⟨j, hj, rfl⟩ := List.getElem_of_mem hx
      rw [List.length_take, HL.out] at hj
      have := hbefore j (by omega)
      simp only [List.getElem?_eq_getElem (show j < l.length by rw [HL.out]; omega)] at this
      rw [List.getElem_take, this]; rfl
    have hpk' : p (l[k]'(by rw [HL.out]; exact hkn)) = true := by
      simp only [List.getElem?_eq_getElem (show k < l.length by rw [HL.out]; exact hkn)] at hpk
      exact hpk
    have hfk1 : (l.take (k + 1)).filter (fun x => !p x) = l.take k := by
      rw [List.take_succ_eq_append_getElem (by rw [HL.out]; exact hkn), List.filter_append, hfk]
      simp [hpk']
    have START : Hid (∃ cur' : Array Value, w1.heap[g]? = some (.cells cur' 37 (0, 0)) ∧ cur'.size = c * 3 ∧ cur'.toList.take (k * 3) = ((l.take (k + 1)).filter fun x => !p x).flatMap hdK.cells ∧ (∀ t, (k + 1) * 3 ≤ t → t < n * 3 → cur'[t]? = (l.flatMap hdK.cells)[t]?) ∧ ((l.take (k + 1)).filter fun x => !p x).length = k ∧ w.grownBy w1 (some g)) := by
      refine ⟨cur, ?_, hcs, ?_, fun t _ ht => ?_, ?_, grown_of_below hb1 _⟩
      · rw [hb1.block g hgl]; exact hg
      · rw [hfk1, ← flat_take hdK.cells 3 hdK.len, ← htk, List.take_take, Nat.min_eq_left (by omega)]
      · rw [← htk, List.getElem?_take, if_pos ht]; simp
      · rw [hfk1, List.length_take, HL.out]; omega
    have HCM := Lib.hid hcm
    have HCS := Lib.hid hcs
    have hcsl : cur.size ≤ c * 3 := by omega
    clear hb1 hpk hbefore hfk hpk' hfk1 hg htk hcs hcm
    go_wp2_with fail
    go_loopg [5, 6] n (fun gg s5 s6 wr => ∃ i j : Nat, i < j ∧ j ≤ n ∧ n - j ≤ gg ∧ s5 = .int .i64 i ∧ s6 = .int .i64 j ∧ Hid (∃ cur' : Array Value, wr.heap[g]? = some (.cells cur' 37 (0, 0)) ∧ cur'.size = c * 3 ∧ cur'.toList.take (i * 3) = ((l.take j).filter fun x => !p x).flatMap hdK.cells ∧ (∀ t, j * 3 ≤ t → t < n * 3 → cur'[t]? = (l.flatMap hdK.cells)[t]?) ∧ ((l.take j).filter fun x => !p x).length = i ∧ w.grownBy wr (some g)))
    case atStart => exact ⟨k, k + 1, by omega, by omega, by omega, rfl, by go_num, START⟩
    case round =>
      obtain ⟨i, j, hij, hj, hgg, rfl, rfl, hS⟩ := hrel
      obtain ⟨cur', hg1, hs1, ht1, htail, hli, hgr⟩ := hS.out
      clear hS START
      by_cases hlt : j < n
      · have hjl : j < l.length := by rw [HL.out]; exact hlt
        have hxj : ∀ q, q < 3 → (l.flatMap hdK.cells)[j * 3 + q]? = (hdK.cells l[j])[q]? := fun q hq => flat_get hdK.cells 3 hdK.len l j q hjl hq
        have hcj := HC.out l[j] (List.getElem_mem hjl)
        have hft : (l.take (j + 1)).filter (fun x => !p x) = (l.take j).filter (fun x => !p x) ++ if p l[j] then [] else [l[j]] := by
          rw [List.take_succ_eq_append_getElem hjl, List.filter_append]
          cases hq : p l[j] <;> simp [hq]
        have hone := hdK.len l[j]
        generalize l[j] = h at *
        have e0 : wr.cell? ⟨g, j * 3, none⟩ = some (.string h.name) := by rw [row_cell hg1]; exact (htail (j * 3 + 0) (by omega) (by omega)).trans (hxj 0 (by decide))
        have e1 : wr.cell? ⟨g, j * 3 + 1, none⟩ = some (.int .i64 h.no) := by rw [row_cell hg1]; exact (htail (j * 3 + 1) (by omega) (by omega)).trans (hxj 1 (by decide))
        have e2 : wr.cell? ⟨g, j * 3 + 2, none⟩ = some (.slice h.A h.n h.c) := by rw [row_cell hg1]; exact (htail (j * 3 + 2) (by omega) (by omega)).trans (hxj 2 (by decide))
        obtain ⟨o0, ho0⟩ : ∃ v, wr.cell? ⟨g, i * 3, none⟩ = some v := ⟨_, by rw [row_cell hg1]; exact Array.getElem?_eq_getElem (by omega)⟩
        have fo0 : wr.frozen? ⟨g, i * 3, none⟩ = false := row_free hg1 _
        obtain ⟨o1, ho1⟩ : ∃ v, wr.cell? ⟨g, i * 3 + 1, none⟩ = some v := ⟨_, by rw [row_cell hg1]; exact Array.getElem?_eq_getElem (by omega)⟩
        have fo1 : wr.frozen? ⟨g, i * 3 + 1, none⟩ = false := row_free hg1 _
        obtain ⟨o2, ho2⟩ : ∃ v, wr.cell? ⟨g, i * 3 + 2, none⟩ = some v := ⟨_, by rw [row_cell hg1]; exact Array.getElem?_eq_getElem (by omega)⟩
        have fo2 : wr.frozen? ⟨g, i * 3 + 2, none⟩ = false := row_free hg1 _
        have hgw : g < wr.heap.size := (Array.getElem?_eq_some_iff.1 hg1).1
        have HG1 := Lib.hid hg1
        have HS1 := Lib.hid hs1
        have HT1 := Lib.hid ht1
        have HTL := Lib.hid htail
        have HLI := Lib.hid hli
        have HGR := Lib.hid hgr
        have HXJ := Lib.hid hxj
        have HFT := Lib.hid hft
        have HCJ := Lib.hid hcj
        clear hg1 hs1 ht1 htail hli hgr hxj hft hcj
        cases hq : p h with
        | true =>
          rw [hq] at HFT
          have HCJ2 : Hid (∀ W, w.grownBy W (some g) → Calls Try.prog g0 (#[.agg #[.string h.name, .int .i64 h.no, .slice h.A h.n h.c]] ++ lb) W fun e w' => e = .returned (.bool true) ∧ Below W.heap.size W w') := fun W hW => by have := HCJ.out W hW; rwa [hq] at this
          clear hq
          go_wp2_with (refine (HCJ2.out _ (by exact grown_trans HGR.out (grown_of_below (below_alloc1 _ _) _))).mono ?_; rintro e w2 ⟨rfl, hb2⟩; replace hb2 := Lib.hid hb2)
          go_roundg (n - (j + 1))
          case measure => omega
          case rel =>
            refine ⟨i, j + 1, by omega, by omega, by omega, rfl, by go_num, ?_⟩
            have hbb := hb2.out
            refine ⟨cur', ?_, HS1.out, ?_, fun t ht1 ht2 => HTL.out t (by omega) ht2, ?_, grown_trans HGR.out (grown_of_below (below_from hbb (below_alloc1 _ _) (by simp)) _)⟩
            · rw [hbb.block g (by simp; omega), Below.heap_alloc _ _ _ hgw]; exact HG1.out
            · rw [HFT.out]; simpa using HT1.out
            · rw [HFT.out]; simpa using HLI.out
        | false =>
          rw [hq] at HFT
          have HCJ2 : Hid (∀ W, w.grownBy W (some g) → Calls Try.prog g0 (#[.agg #[.string h.name, .int .i64 h.no, .slice h.A h.n h.c]] ++ lb) W fun e w' => e = .returned (.bool false) ∧ Below W.heap.size W w') := fun W hW => by have := HCJ.out W hW; rwa [hq] at this
          clear hq
          go_wp2_with (refine (HCJ2.out _ (by exact grown_trans HGR.out (grown_of_below (below_alloc1 _ _) _))).mono ?_; rintro e w2 ⟨rfl, hb2⟩; obtain ⟨hc1, hf1⟩ := bcell hb2; have hz2 := hb2.size; simp at hz2; replace hb2 := Lib.hid hb2; have hz3 : wr.heap.size < w2.heap.size := (by omega))
          go_roundg (n - (j + 1))
          case measure => omega
          case rel =>
            refine ⟨i + 1, j + 1, by omega, by omega, by omega, by go_num, by go_num, ?_⟩
            have hbb := hb2.out
            have hg2 : w2.heap[g]? = some (.cells cur' 37 (0, 0)) := by rw [hbb.block g (by simp; omega), Below.heap_alloc _ _ _ hgw]; exact HG1.out
            have hcl : (hdK.cells h).length = 3 := hone
            have hfit : i * 3 + (hdK.cells h).length ≤ cur'.size := by rw [hcl, HS1.out]; omega
            have hg3 := setCells_heap (hdK.cells h) (i * 3) w2 cur' hg2 hfit
            refine ⟨_, hg3, ?_, ?_, fun t ht1 ht2 => ?_, ?_, ?_⟩
            · rw [List.size_toArray, splice_len (by simpa using hfit), Array.length_toList]; exact HS1.out
            · rw [HFT.out, show (i + 1) * 3 = i * 3 + 3 by omega]
              show (splice cur'.toList (i * 3) (hdK.cells h)).take _ = _
              rw [splice_take (by simpa using hfit) (by rw [hcl]), HT1.out]
              simp
            · rw [← HTL.out t (by omega) ht2]
              rw [List.getElem?_toArray, splice_get (by simpa using hfit), if_neg (by omega), if_neg (by rw [hcl]; omega)]
              simp
            · rw [HFT.out]; simp [HLI.out]
            · exact grown_trans (grown_trans HGR.out (grown_of_below (below_from hbb (below_alloc1 _ _) (by simp)) _)) (setCells_grown g (hdK.cells h) _ w2)
      · obtain rfl : j = n := by omega
        have hin : i ≤ c := by omega
        have hil : i < j := by omega
        have hclr : ∀ ty, (Builtin.clear_ #[22] ty #[.slice (some ⟨g, i * 3, none⟩) (j - i) (c - i)]).run Try.prog wr = .ok (.tuple #[]) (wr.setCells g (i * 3) (zrow (.agg #[.string ⟨#[]⟩, .int .i64 0, .slice none 0 0]) (j - i))) :=
          fun ty => run_clear_row wr _ _ ty _ Try.underlying22 zv37 (by decide) g _ _ _ (by omega)
            (fun t ht => by
              have hz : (Value.cells (.agg #[.string ⟨#[]⟩, .int .i64 0, .slice none 0 0])).size = 3 := rfl
              rw [hz] at ht
              rw [row_cell hg1, Array.getElem?_eq_getElem (by omega)]; rfl) (fun t ht => row_free hg1 _)
        have hzl : (zrow (.agg #[.string ⟨#[]⟩, .int .i64 0, .slice none 0 0]) (j - i)).length = (j - i) * 3 := zrow_len _ _
        have hg2 := setCells_heap (zrow (.agg #[.string ⟨#[]⟩, .int .i64 0, .slice none 0 0]) (j - i)) (i * 3) wr _ hg1 (by rw [hzl]; omega)
        have FIN : Hid ((l.filter fun x => !p x).length = i ∧ (wr.setCells g (i * 3) (zrow (.agg #[.string ⟨#[]⟩, .int .i64 0, .slice none 0 0]) (j - i))).ownsRow B 37 3 (.slice (some ⟨g, 0, none⟩) i c) i ((l.filter fun x => !p x).flatMap hdK.cells) ∧ w.grownBy (wr.setCells g (i * 3) (zrow (.agg #[.string ⟨#[]⟩, .int .i64 0, .slice none 0 0]) (j - i))) (some g)) := by
          have e : l.take j = l := List.take_of_length_le (by rw [HL.out]; exact Nat.le_refl _)
          rw [e] at hli ht1
          refine ⟨hli, owns_mk hB hg2 hin HCM.out ?_ ?_, grown_trans hgr (setCells_grown g _ _ _)⟩
          · rw [List.size_toArray, splice_len (by rw [hzl, Array.length_toList]; omega), Array.length_toList]; exact hs1
          · show (splice cur'.toList _ _).take _ = _
            rw [splice_before (by rw [Array.length_toList]; omega) (Nat.le_refl _)]; exact ht1
        have hcn : ¬ (c = i) := by omega
        clear hg1 hs1 ht1 htail hli hgr hg2 hzl HCS HX HC
        go_wp2
        go_ret
        exact ⟨i, rfl, FIN.out⟩
end Go.Proofs.Ythjohjijcgiogaa
