/- slices.Insert at messages. -/
import Derived.Test.YtmlgahambecamaaInp
import Derived.Test.YtmlgahambecamaaCln
import Derived.Shelf.Spec.SlicesInsert
import Derived.Lib.AppendZeros
namespace Go.Proofs.Ytmlgahambecamaa
open Go.RowKit

theorem sz40 : (Try.prog.info? 40).map (·.size) = some 5 := by kernel_rfl
theorem sz63 : (Try.prog.info? 63).map (·.size) = some 2 := by kernel_rfl

set_option maxHeartbeats 4000000 in
set_option maxRecDepth 1000000 in
/-- slices.Insert (func 47) at the end. -/
theorem insertM_end (B : Nat) (A : Option Addr) (n c m vb vc : Nat) (cv : Array Value) (xs ns : List Value) (w : World) (ho : w.ownsRow B 40 5 (.slice A n c) n xs) (_h1x : ∀ u ∈ xs, u.oneCell' = true) (hB0 : B ≤ w.heap.size) (hm : 0 < m) (hbig : (n + m) * 56 ≤ 140737488355328)
    (hv : w.heap[vb]? = some (.cells cv 40 (0, 0))) (hvt : cv.toList.take (m * 5) = ns) (hnl : ns.length = m * 5) (h1n : ∀ u ∈ ns, u.oneCell' = true) (_hvb : (Value.slice A n c).ownBlock ≠ some vb) :
    Calls Try.prog 47 #[.slice A n c, .int .i64 n, .slice (some ⟨vb, 0, none⟩) m vc] w fun e w' => ∃ A' c', e = .returned (.slice A' (n + m) c') ∧ w'.ownsRow B 40 5 (.slice A' (n + m) c') (n + m) (xs ++ ns) ∧ w.grownBy w' (Value.slice A n c).ownBlock := by
  obtain ⟨i0, hi, hz0, hz1, hz2⟩ := info_parts inf40
  have hmx : n + m ≤ maxLen := by unfold maxLen; omega
  have hz1' : ¬ ((m : Int) = 0) := by omega
  have hnews : ∀ j u, ns[j]? = some u → w.cell? ((⟨vb, 0, none⟩ : Addr).add j) = some u := fun j u hu => by
    rw [Addr.add_lit, Nat.zero_add, row_cell hv, ← hu, ← hvt, List.getElem?_take, if_pos (by have := (List.getElem?_eq_some_iff.1 hu).1; omega)]
    simp
  have hnc : n ≤ c := by
    rcases ho.2 with ⟨e, h0⟩ | ⟨g, cap, cur, e, _, _, h, _⟩
    · omega
    · injection e with _ _ e3; omega
  have HO := Lib.hid ho
  have HN := Lib.hid hnews
  have H1 := Lib.hid h1n
  have HL := Lib.hid hnl
  clear ho hnews h1n hnl hvt hv _h1x _hvb
  have walk : ∀ (X : Option Addr), (X = A) → Calls Try.prog 47 #[.slice X n c, .int .i64 n, .slice (some ⟨vb, 0, none⟩) m vc] w fun e w' => ∃ v', e = .returned v' ∧ w'.ownsRow B 40 5 v' (n + m) (xs ++ ns) ∧ w.grownBy w' (Value.slice A n c).ownBlock := by
    rintro X rfl
    rcases X with _ | ⟨ab, ao, asp⟩
    · have h0 : n = 0 ∧ c = 0 := by
        rcases (HO.out).2 with ⟨e, h⟩ | ⟨g, cap, cur, e, _⟩
        · injection e with e1 e2 e3; exact ⟨h, e3⟩
        · injection e with e1 e2 e3; cases e1
      obtain ⟨rfl, rfl⟩ := h0
      go_enter Try.func47, Try.ntmps47
      go_wp2_with (at_builtin; refine wpList_append_own _ rfl _ _ 22 rfl B 40 i0 _ 5 56 Try.underlying22 hi hz0 hz1 hz2 rfl (by decide) _ _ _ rfl HO.out ⟨vb, 0, none⟩ m vc ns rfl HL.out HN.out H1.out hmx hbig hB0 ?_)
      intro v' w1 hown hgrow hnil
      have HOW := Lib.hid hown
      have HGW := Lib.hid hgrow
      clear hown hgrow hnil
      go_wp2
      go_ret
      exact ⟨v', rfl, by simpa using HOW.out, HGW.out⟩
    · have hcm : c ≤ 9223372036854775807 := by
        rcases (HO.out).2 with ⟨e, h⟩ | ⟨g, cap, cur, e, _, _, _, h, _⟩
        · injection e with e1 e2 e3; cases e1
        · injection e with e1 e2 e3; subst e3; simpa [maxLen] using h
      by_cases hcn : c = n
      · subst hcn
        go_enter Try.func47, Try.ntmps47
        go_wp2_with (at_builtin; refine wpList_append_own _ rfl _ _ 22 rfl B 40 i0 _ 5 56 Try.underlying22 hi hz0 hz1 hz2 rfl (by decide) _ _ _ rfl HO.out ⟨vb, 0, none⟩ m vc ns rfl HL.out HN.out H1.out hmx hbig hB0 ?_)
        intro v' w1 hown hgrow hnil
        have HOW := Lib.hid hown
        have HGW := Lib.hid hgrow
        clear hown hgrow hnil
        go_wp2
        go_ret
        exact ⟨v', rfl, HOW.out, HGW.out⟩
      · go_enter Try.func47, Try.ntmps47
        go_wp2_with (at_builtin; refine wpList_append_own _ rfl _ _ 22 rfl B 40 i0 _ 5 56 Try.underlying22 hi hz0 hz1 hz2 rfl (by decide) _ _ _ rfl HO.out ⟨vb, 0, none⟩ m vc ns rfl HL.out HN.out H1.out hmx hbig hB0 ?_)
        intro v' w1 hown hgrow hnil
        have HOW := Lib.hid hown
        have HGW := Lib.hid hgrow
        clear hown hgrow hnil
        go_wp2
        go_ret
        exact ⟨v', rfl, HOW.out, HGW.out⟩
  refine (walk A rfl).mono fun e w' h => ?_
  obtain ⟨v', h1, h2, h3⟩ := h
  obtain ⟨A', c', rfl⟩ := owns_form h2
  exact ⟨A', c', h1, h2, h3⟩

set_option maxHeartbeats 4000000 in
set_option maxRecDepth 1000000 in
/-- slices.Insert (func 47) in the midst, where there is room. -/
theorem insertM_room (B : Nat) (A : Option Addr) (n c m i vb vc : Nat) (cv : Array Value) (xs ns : List Value) (w : World) (ho : w.ownsRow B 40 5 (.slice A n c) n xs) (h1x : ∀ u ∈ xs, u.oneCell' = true) (_hB0 : B ≤ w.heap.size) (hm : 0 < m) (hbig : (n + m) * 56 ≤ 140737488355328)
    (hv : w.heap[vb]? = some (.cells cv 40 (0, 0))) (hvt : cv.toList.take (m * 5) = ns) (hnl : ns.length = m * 5) (h1n : ∀ u ∈ ns, u.oneCell' = true) (hvb : (Value.slice A n c).ownBlock ≠ some vb) (hin : i < n) (hroom : n + m ≤ c) :
    Calls Try.prog 47 #[.slice A n c, .int .i64 i, .slice (some ⟨vb, 0, none⟩) m vc] w fun e w' => ∃ A' c', e = .returned (.slice A' (n + m) c') ∧ w'.ownsRow B 40 5 (.slice A' (n + m) c') (n + m) (xs.take (i * 5) ++ ns ++ xs.drop (i * 5)) ∧ w.grownBy w' (Value.slice A n c).ownBlock := by
  obtain ⟨g, cur, rfl, hB, hgl, hg, hnc, hcm, hcs, htk⟩ := owns_open ho (by omega)
  have hxl : xs.length = n * 5 := ho.1
  have hcm' : c ≤ 9223372036854775807 := by simpa [maxLen] using hcm
  have hne : vb ≠ g := fun e => hvb (by rw [e]; rfl)
  have hcvl : m * 5 ≤ cv.size := by
    have := congrArg List.length hvt; rw [List.length_take, hnl, Array.length_toList] at this; omega
  have hov : ∀ lb cb, (callFunc 70 #[.slice (some ⟨vb, 0, none⟩) m vc, .slice (some ⟨g, (i + m) * 5, none⟩) lb cb]).run Try.prog w = .ok (.value (.bool false)) w := fun lb cb => by
    rw [run_callFunc_extern Try.func70 (by kernel_rfl) (by kernel_rfl) (by kernel_rfl) (e := Extern.SlicesOverlaps.overlaps #[22, 22] #[4]) (by kernel_rfl),
      Lib.run_overlaps_apart w 22 4 40 Try.underlying22 5 (fun w => by simp [go_sem]) ⟨vb, 0, none⟩ ⟨g, (i + m) * 5, none⟩ m vc lb cb hne 40 40 cv.size cur.size (by simp [World.shape?, hv]) (by simp [World.shape?, hg]) (by omega) (row_free hv 0) (row_free hv _)]
    rfl
  have hxr : ∀ k, k < n * 5 → cur[k]? = xs[k]? := fun k hk => by rw [← htk, List.getElem?_take, if_pos hk]; simp
  obtain ⟨D, hD⟩ : ∃ D, D = xs.drop (i * 5) := ⟨_, rfl⟩
  have hDl : D.length = (n - i) * 5 := by rw [hD, List.length_drop, hxl]; omega
  have hD1 : ∀ u ∈ D, u.oneCell' = true := fun u hu => h1x u (by rw [hD] at hu; exact List.mem_of_mem_drop hu)
  have hcp1 : ∀ ty dc sc, (Builtin.copy_ #[22, 22] ty #[.slice (some ⟨g, (i + m) * 5, none⟩) (n + m - (i + m)) dc, .slice (some ⟨g, i * 5, none⟩) (n + m - i) sc]).run Try.prog w.drew = .ok (goInt (Nat.min (n + m - i) (n + m - (i + m)))) (w.drew.setCells g ((i + m) * 5) D) := fun ty dc sc =>
    run_copy_row w.drew _ _ ty 40 5 g _ _ dc ⟨g, i * 5, none⟩ _ sc D Try.underlying22 sz40 (by rw [hDl]; simp only [Nat.min_def]; split <;> omega)
      (fun j v hj => by
        have hjl := (List.getElem?_eq_some_iff.1 hj).1
        rw [Addr.add_lit]
        show w.cell? _ = _
        rw [row_cell hg, hxr _ (by omega), ← hj, hD, List.getElem?_drop])
      (fun j hj => by show (w.cell? _).isSome = true; rw [row_cell hg, Array.getElem?_eq_getElem (by omega)]; rfl) (fun j hj => row_free (w := w) hg _) hD1
  obtain ⟨W1, hW1⟩ : ∃ W1, W1 = w.drew.setCells g ((i + m) * 5) D := ⟨_, rfl⟩
  have hfit1 : (i + m) * 5 + D.length ≤ cur.toList.length := by rw [hDl, Array.length_toList]; omega
  have hg1 : W1.heap[g]? = some (.cells (splice cur.toList ((i + m) * 5) D).toArray 40 (0, 0)) := by rw [hW1]; exact setCells_heap D _ w.drew cur hg (by simpa using hfit1)
  have hl1 : (splice cur.toList ((i + m) * 5) D).length = c * 5 := by rw [splice_len hfit1, Array.length_toList, hcs]
  have hgr1 : w.grownBy W1 (some g) := by rw [hW1]; exact grown_trans (grown_drew (grown_refl w (some g))) (setCells_grown g D _ w.drew)
  have hv1 : ∀ j, W1.cell? ⟨vb, j, none⟩ = w.cell? ⟨vb, j, none⟩ := fun j => hgr1.cell_far ⟨vb, j, none⟩ ((Array.getElem?_eq_some_iff.1 hv).1) (by simpa using hne)
  have hcp2 : ∀ (W : World), (∀ x, W.cell? x = W1.cell? x) → (∀ x, W.frozen? x = W1.frozen? x) → ∀ ty dc, (Builtin.copy_ #[22, 22] ty #[.slice (some ⟨g, i * 5, none⟩) (n + m - i) dc, .slice (some ⟨vb, 0, none⟩) m vc]).run Try.prog W = .ok (goInt (Nat.min m (n + m - i))) (W.setCells g (i * 5) ns) := fun W hWc hWf ty dc =>
    run_copy_row W _ _ ty 40 5 g _ _ dc ⟨vb, 0, none⟩ m vc ns Try.underlying22 sz40 (by rw [hnl]; simp only [Nat.min_def]; split <;> omega)
      (fun j v hj => by
        have hjl := (List.getElem?_eq_some_iff.1 hj).1
        rw [Addr.add_lit, hWc, hv1, Nat.zero_add, row_cell hv, ← hj, ← hvt, List.getElem?_take, if_pos (by omega)]
        simp)
      (fun j hj => by rw [hWc, row_cell hg1, Array.getElem?_eq_getElem (by simp only [List.size_toArray, hl1]; omega)]; rfl) (fun j hj => by rw [hWf]; exact row_free hg1 _) h1n
  obtain ⟨W2, hW2⟩ : ∃ W2, W2 = W1.setCells g (i * 5) ns := ⟨_, rfl⟩
  have hfit2 : i * 5 + ns.length ≤ (splice cur.toList ((i + m) * 5) D).toArray.size := by rw [hnl, List.size_toArray, hl1]; omega
  have hg2 := setCells_heap ns (i * 5) W1 _ hg1 hfit2
  have FIN : Hid (∃ A' c', (Value.slice (some ⟨g, 0, none⟩) (n + m) c) = (.slice A' (n + m) c') ∧ W2.ownsRow B 40 5 (.slice A' (n + m) c') (n + m) (xs.take (i * 5) ++ ns ++ xs.drop (i * 5)) ∧ w.grownBy W2 (Value.slice (some ⟨g, 0, none⟩) n c).ownBlock) := by
    refine ⟨_, c, rfl, ?_, by rw [hW2]; exact grown_trans hgr1 (setCells_grown g _ _ W1)⟩
    rw [← hW2] at hg2
    refine owns_mk hB hg2 hroom hcm ?_ ?_
    · rw [List.size_toArray, splice_len (by simpa using hfit2), List.toList_toArray, hl1]
    · show (splice (splice cur.toList ((i + m) * 5) D) (i * 5) ns).take ((n + m) * 5) = _
      rw [show (i + m) * 5 = i * 5 + m * 5 by omega, show (n + m) * 5 = n * 5 + m * 5 by omega]
      exact splice_gap (by rw [Array.length_toList, hcs]; omega) htk (by omega) hD hnl
  have HW1 : Hid (W1 = w.drew.setCells g ((i + m) * 5) D) := hW1
  rw [← hW1] at hcp1
  have hz1 : ¬ ((m : Int) = 0) := by omega
  have hz2 : ¬ ((i : Int) = (n : Int)) := by omega
  have hw1 : IntKind.i64.wrap ((i : Int) + (m : Int)) = (i : Int) + (m : Int) := by rw [IntKind.wrap_i64]; omega
  have hb1 : (0 : Int) ≤ (i : Int) + (m : Int) := by omega
  have hin' : i ≤ n := by omega
  have htn : ((i : Int) + (m : Int)).toNat = i + m := by omega
  have hb2 : ¬ (c = i + m) := by omega
  have hb3 : (i : Int) ≤ (n : Int) + (m : Int) := by omega
  have hb4 : ¬ (c = i) := by omega
  have HW2 : Hid (W2 = W1.setCells g (i * 5) ns) := hW2
  clear hW1 hW2 hg1 hg2 hgr1 hl1 hfit1 hfit2 hxr hD hDl hD1 hg hcs htk hxl ho h1x hv hvt hnl h1n hcvl hv1 hvb hbig _hB0
  go_enter Try.func47, Try.ntmps47
  go_wp2_with (simp only [hov])
  go_region_law (refine step_copy_runI rfl _ _ 22 22 rfl _ _ (by simp [Act.eval, Act.put]) (by simp [Act.eval, Act.put]) (hcp1 _ _ _) ?_)
  go_wp2_with (at_builtin; refine wpList_copy_runI _ rfl _ _ 22 22 rfl _ _ rfl rfl (hcp2 _ (fun _ => rfl) (fun _ => rfl) _ _) ?_)
  go_ret
  rw [← HW2.out]
  obtain ⟨A', c', h1, h2, h3⟩ := FIN.out
  exact ⟨A', c', by rw [← h1]; rfl, h2, h3⟩

set_option maxHeartbeats 4000000 in
set_option maxRecDepth 1000000 in
/-- slices.Insert (func 47) in the midst, where there is no room: a new row. -/
theorem insertM_grow (B : Nat) (A : Option Addr) (n c m i vb vc : Nat) (cv : Array Value) (xs ns : List Value) (w : World) (ho : w.ownsRow B 40 5 (.slice A n c) n xs) (h1x : ∀ u ∈ xs, u.oneCell' = true) (hB0 : B ≤ w.heap.size) (hm : 0 < m) (hbig : (n + m) * 56 ≤ 140737488355328)
    (hv : w.heap[vb]? = some (.cells cv 40 (0, 0))) (hvt : cv.toList.take (m * 5) = ns) (hnl : ns.length = m * 5) (h1n : ∀ u ∈ ns, u.oneCell' = true) (hvb : (Value.slice A n c).ownBlock ≠ some vb) (hin : i < n) (hroom : c < n + m) :
    Calls Try.prog 47 #[.slice A n c, .int .i64 i, .slice (some ⟨vb, 0, none⟩) m vc] w fun e w' => ∃ A' c', e = .returned (.slice A' (n + m) c') ∧ w'.ownsRow B 40 5 (.slice A' (n + m) c') (n + m) (xs.take (i * 5) ++ ns ++ xs.drop (i * 5)) ∧ w.grownBy w' (Value.slice A n c).ownBlock := by
  obtain ⟨g, cur, rfl, hB, hgl, hg, hnc, hcm, hcs, htk⟩ := owns_open ho (by omega)
  obtain ⟨i0, hi0, hz0, hzs, hzb⟩ := info_parts inf40
  have hxl : xs.length = n * 5 := ho.1
  have hne : vb ≠ g := fun e => hvb (by rw [e]; rfl)
  have hvlt : vb < w.heap.size := (Array.getElem?_eq_some_iff.1 hv).1
  have hcvl : m * 5 ≤ cv.size := by
    have := congrArg List.length hvt; rw [List.length_take, hnl, Array.length_toList] at this; omega
  have hxr : ∀ k, k < n * 5 → cur[k]? = xs[k]? := fun k hk => by rw [← htk, List.getElem?_take, if_pos hk]; simp
  have hz1 : ¬ ((m : Int) = 0) := by omega
  have hz2 : ¬ ((i : Int) = (n : Int)) := by omega
  have hz3 : (c : Int) < (n : Int) + (m : Int) := by omega
  have hkk : (n : Int) + (m : Int) - (i : Int) = ((n + m - i : Nat) : Int) := by omega
  have hik : i + (n + m - i) = n + m := by omega
  have hold : (Builtin.firstCells i0.size i (.slice (some ⟨g, 0, none⟩) i c)).run Try.prog w.drew = .ok (xs.take (i * 5)).toArray w.drew := by
    rw [hzs]
    exact run_firstCells_some w.drew 5 i ⟨g, 0, none⟩ i c (xs.take (i * 5)) (by rw [List.length_take, hxl]; omega) (fun j v hj => by
      rw [Addr.add_lit, Nat.zero_add]
      show w.cell? _ = _
      rw [List.getElem?_take] at hj
      split at hj
      · rw [row_cell hg, hxr _ (by omega)]; exact hj
      · cases hj)
  have hrz : ∀ ty, (Builtin.append_ #[22, 3] ty #[.slice (some ⟨g, 0, none⟩) i c, .int .i64 ((n : Int) + (m : Int) - (i : Int))]).run Try.prog w =
      .ok (.slice (some ⟨w.heap.size, 0, none⟩) (n + m) (grownCap w (n + m) c 40)) (w.drew.alloc (.cells ((xs.take (i * 5)).toArray ++ Builtin.zeroCells (Value.cells (.agg #[.int .i64 0, .int .i64 0, .int .i64 0, .int .i64 0, .slice none 0 0])) (n + m - i) ++ Builtin.zeroCells (Value.cells (.agg #[.int .i64 0, .int .i64 0, .int .i64 0, .int .i64 0, .slice none 0 0])) (grownCap w (n + m) c 40 - (n + m))) 40)) := fun ty => by
    have h := Lib.run_append_grow_zeros w 22 3 ty 40 i0 _ .i64 .i64 Try.underlying22 Try.underlying3 hi0 hz0 (some ⟨g, 0, none⟩) i c (xs.take (i * 5)) hold (n + m - i) (by omega) (by omega) (by omega) (by omega) (by rw [hzb]; omega) (by rw [hzb, hik]; exact growslice_fits hroom hbig)
    rw [hik] at h
    rw [hkk]
    exact h
  obtain ⟨G, hG⟩ : ∃ G, G = grownCap w (n + m) c 40 := ⟨_, rfl⟩
  obtain ⟨ROW, hROW⟩ : ∃ ROW : Array Value, ROW = (xs.take (i * 5)).toArray ++ Builtin.zeroCells (Value.cells (.agg #[.int .i64 0, .int .i64 0, .int .i64 0, .int .i64 0, .slice none 0 0])) (n + m - i) ++ Builtin.zeroCells (Value.cells (.agg #[.int .i64 0, .int .i64 0, .int .i64 0, .int .i64 0, .slice none 0 0])) (G - (n + m)) := ⟨_, rfl⟩
  rw [← hG] at hrz
  rw [← hROW] at hrz
  have hGn : n + m ≤ G := by rw [hG]; exact grownCap_ge w _ _ _
  have hG63' : G ≤ maxLen := by rw [hG]; exact grownCap_le_maxLen w (n + m) c 40 (by unfold maxLen; omega)
  have hG63 : G ≤ 9223372036854775807 := by simpa [maxLen] using hG63'
  have hzc : (Value.cells (.agg #[.int .i64 0, .int .i64 0, .int .i64 0, .int .i64 0, .slice none 0 0])).size = 5 := rfl
  have hRl : ROW.size = G * 5 := by
    rw [hROW, Array.size_append, Array.size_append, List.size_toArray, size_zeroCells, size_zeroCells, List.length_take, hxl, hzc]
    omega
  have hRt : ROW.toList.take (i * 5) = xs.take (i * 5) := by
    rw [hROW, Array.toList_append, Array.toList_append, List.append_assoc, List.take_append, List.toList_toArray, List.take_of_length_le (by rw [List.length_take]; omega), List.length_take, hxl, show i * 5 - min (i * 5) (n * 5) = 0 by omega]
    simp
  obtain ⟨W1, hW1⟩ : ∃ W1, W1 = w.drew.alloc (.cells ROW 40) := ⟨_, rfl⟩
  rw [← hW1] at hrz
  have hg1 : W1.heap[w.heap.size]? = some (.cells ROW 40 (0, 0)) := by rw [hW1]; exact heap_alloc_new w.drew _
  have hgr1 : w.grownBy W1 (some g) := by rw [hW1]; exact grown_of_below (a := w) ((Below.refl w.heap.size w).drew.alloc (Nat.le_refl _) _) _
  have hOg : ∀ j, W1.cell? ⟨g, j, none⟩ = w.cell? ⟨g, j, none⟩ := fun j => by rw [hW1]; exact World.cell?_alloc_past (w := w.drew) _ g j hgl
  have hOv : ∀ j, W1.cell? ⟨vb, j, none⟩ = w.cell? ⟨vb, j, none⟩ := fun j => by rw [hW1]; exact World.cell?_alloc_past (w := w.drew) _ vb j hvlt
  have hgN : g ≠ w.heap.size := by omega
  have hcpA : ∀ (W : World), (∀ x, W.cell? x = W1.cell? x) → (∀ x, W.frozen? x = W1.frozen? x) → ∀ ty dc, (Builtin.copy_ #[22, 22] ty #[.slice (some ⟨w.heap.size, i * 5, none⟩) (n + m - i) dc, .slice (some ⟨vb, 0, none⟩) m vc]).run Try.prog W = .ok (goInt (Nat.min m (n + m - i))) (W.setCells w.heap.size (i * 5) ns) := fun W hWc hWf ty dc =>
    run_copy_row W _ _ ty 40 5 w.heap.size _ _ dc ⟨vb, 0, none⟩ m vc ns Try.underlying22 sz40 (by rw [hnl]; simp only [Nat.min_def]; split <;> omega)
      (fun j v hj => by
        have hjl := (List.getElem?_eq_some_iff.1 hj).1
        rw [Addr.add_lit, hWc, hOv, Nat.zero_add, row_cell hv, ← hj, ← hvt, List.getElem?_take, if_pos (by omega)]
        simp)
      (fun j hj => by rw [hWc, row_cell hg1, Array.getElem?_eq_getElem (by omega)]; rfl) (fun j hj => by rw [hWf]; exact row_free hg1 _) h1n
  obtain ⟨D, hD⟩ : ∃ D, D = xs.drop (i * 5) := ⟨_, rfl⟩
  have hDl : D.length = (n - i) * 5 := by rw [hD, List.length_drop, hxl]; omega
  have hD1 : ∀ u ∈ D, u.oneCell' = true := fun u hu => h1x u (by rw [hD] at hu; exact List.mem_of_mem_drop hu)
  have hfit1 : i * 5 + ns.length ≤ ROW.size := by rw [hnl, hRl]; omega
  have hg2 := setCells_heap ns (i * 5) W1 _ hg1 hfit1
  have hl2 : (splice ROW.toList (i * 5) ns).length = G * 5 := by rw [splice_len (by simpa using hfit1), Array.length_toList, hRl]
  have hOg2 : ∀ j, (W1.setCells w.heap.size (i * 5) ns).cell? ⟨g, j, none⟩ = w.cell? ⟨g, j, none⟩ := fun j => by rw [World.cell?_setCells_out _ _ _ _ _ (fun h _ => absurd h hgN)]; exact hOg j
  have hcpB : ∀ (W : World), (∀ x, W.cell? x = (W1.setCells w.heap.size (i * 5) ns).cell? x) → (∀ x, W.frozen? x = (W1.setCells w.heap.size (i * 5) ns).frozen? x) → ∀ ty dc sc, (Builtin.copy_ #[22, 22] ty #[.slice (some ⟨w.heap.size, (i + m) * 5, none⟩) (n + m - (i + m)) dc, .slice (some ⟨g, i * 5, none⟩) (n - i) sc]).run Try.prog W = .ok (goInt (Nat.min (n - i) (n + m - (i + m)))) (W.setCells w.heap.size ((i + m) * 5) D) := fun W hWc hWf ty dc sc =>
    run_copy_row W _ _ ty 40 5 w.heap.size _ _ dc ⟨g, i * 5, none⟩ _ sc D Try.underlying22 sz40 (by rw [hDl]; simp only [Nat.min_def]; split <;> omega)
      (fun j v hj => by
        have hjl := (List.getElem?_eq_some_iff.1 hj).1
        rw [Addr.add_lit, hWc, hOg2, row_cell hg, hxr _ (by omega), ← hj, hD, List.getElem?_drop])
      (fun j hj => by rw [hWc, row_cell hg2, Array.getElem?_eq_getElem (by simp only [List.size_toArray, hl2]; omega)]; rfl) (fun j hj => by rw [hWf]; exact row_free hg2 _) hD1
  have hfit2 : (i + m) * 5 + D.length ≤ (splice ROW.toList (i * 5) ns).toArray.size := by rw [hDl, List.size_toArray, hl2]; omega
  have FIN : ∀ W3 : World, W3.heap = ((W1.setCells w.heap.size (i * 5) ns).setCells w.heap.size ((i + m) * 5) D).heap → W3.os = w.os → W3.tape = w.tape → W3.output = w.output →
      Hid (W3.ownsRow B 40 5 (.slice (some ⟨w.heap.size, 0, none⟩) (n + m) G) (n + m) (xs.take (i * 5) ++ ns ++ xs.drop (i * 5)) ∧ w.grownBy W3 (Value.slice (some ⟨g, 0, none⟩) n c).ownBlock) := by
    intro W3 h3 e1 e2 e3
    have hg3 := setCells_heap D ((i + m) * 5) _ _ hg2 hfit2
    rw [← h3] at hg3
    have hgr3 := (setCells_grown w.heap.size ns (i * 5) W1)
    have hgr4 := (setCells_grown w.heap.size D ((i + m) * 5) (W1.setCells w.heap.size (i * 5) ns))
    refine ⟨owns_mk hB0 hg3 hGn hG63' ?_ ?_, e1, e2, e3, ?_, ?_⟩
    · rw [List.size_toArray, splice_len (by simpa using hfit2), List.toList_toArray, hl2]
    · show (splice (splice ROW.toList (i * 5) ns) ((i + m) * 5) D).take ((n + m) * 5) = _
      rw [splice_take (by rw [hl2, hDl]; omega) (by rw [hDl]; omega), splice_take (by simpa using hfit1) (by rw [hnl]; omega), hRt, hD]
    · rw [h3]; exact Nat.le_trans hgr1.size (Nat.le_trans hgr3.size hgr4.size)
    · intro k hk hn
      rw [h3, hgr4.block k (Nat.lt_of_lt_of_le hk (Nat.le_trans hgr1.size hgr3.size)) (by simp; omega), hgr3.block k (Nat.lt_of_lt_of_le hk hgr1.size) (by simp; omega), hgr1.block k hk hn]
  have FIN' := Lib.hid FIN
  have hos : W1.os = w.os ∧ W1.tape = w.tape ∧ W1.output = w.output := by rw [hW1]; exact ⟨rfl, rfl, rfl⟩
  subst hW1
  have hE1 : ∀ x, ((w.alloc (.cells ROW 40)).drew).cell? x = (w.drew.alloc (.cells ROW 40)).cell? x := fun x => rfl
  have hE2 : ∀ x, ((w.alloc (.cells ROW 40)).drew).frozen? x = (w.drew.alloc (.cells ROW 40)).frozen? x := fun x => rfl
  have hF1 : ∀ x, (((w.alloc (.cells ROW 40)).drew.setCells w.heap.size (i * 5) ns).drew).cell? x = ((w.drew.alloc (.cells ROW 40)).setCells w.heap.size (i * 5) ns).cell? x := fun x => rfl
  have hF2 : ∀ x, (((w.alloc (.cells ROW 40)).drew.setCells w.heap.size (i * 5) ns).drew).frozen? x = ((w.drew.alloc (.cells ROW 40)).setCells w.heap.size (i * 5) ns).frozen? x := fun x => rfl
  have hw1 : IntKind.i64.wrap ((i : Int) + (m : Int)) = (i : Int) + (m : Int) := by rw [IntKind.wrap_i64]; omega
  have hb1 : (0 : Int) ≤ (i : Int) + (m : Int) := by omega
  have hin' : i ≤ n := by omega
  have htn : ((i : Int) + (m : Int)).toNat = i + m := by omega
  have hb3 : (i : Int) ≤ (n : Int) := by omega
  have hGi : ¬ (G = i) := by omega
  have hGim : ¬ (G = i + m) := by omega
  have hci : ¬ (c = i) := by omega
  clear FIN hkk hik hold hROW hG hRl hRt hg1 hgr1 hOg hOv hg2 hl2 hOg2 hfit1 hfit2 hos hxr hD hDl hD1 hg hcs htk hxl ho h1x hv hvt hnl h1n hcvl hvb hz0 hzs hzb hi0 hzc
  go_enter Try.func47, Try.ntmps47
  go_wp2_with (first
    | (at_builtin; refine Lib.wpList_append_run _ rfl _ _ _ _ rfl _ _ rfl rfl _ _ (hrz _) ?_)
    | (at_builtin; refine wpList_copy_runI _ rfl _ _ 22 22 rfl _ _ rfl rfl (hcpA _ hE1 hE2 _ _) ?_)
    | (at_builtin; refine wpList_copy_runI _ rfl _ _ 22 22 rfl _ _ rfl rfl (hcpB _ (fun _ => rfl) (fun _ => rfl) _ _ _) ?_))
  go_region_law (refine step_copy_runI rfl _ _ 22 22 rfl (.slice (some ⟨w.heap.size, (i + m) * 5, none⟩) (n + m - (i + m)) (G - (i + m))) (.slice (some ⟨g, i * 5, none⟩) (n - i) (c - i)) (by simp [Act.eval, Act.put]) (by simp [Act.eval, Act.put]) (hcpB _ hF1 hF2 3 (G - (i + m)) (c - i)) ?_)
  go_wp2
  go_ret
  obtain ⟨h1, h2⟩ := (FIN'.out ((((w.alloc (.cells ROW 40)).drew.setCells w.heap.size (i * 5) ns).drew).setCells w.heap.size ((i + m) * 5) D) (by rw [← drew_setCells]; rfl) ((setCells_grown _ D _ _).os.trans (setCells_grown _ ns _ _).os) ((setCells_grown _ D _ _).tape.trans (setCells_grown _ ns _ _).tape) ((setCells_grown _ D _ _).output.trans (setCells_grown _ ns _ _).output)).out
  exact ⟨_, G, rfl, h1, h2⟩

/-- slices.Insert (func 47). -/
theorem insertM_any (B : Nat) (A : Option Addr) (n c m i vb vc : Nat) (cv : Array Value) (xs ns : List Value) (w : World) (ho : w.ownsRow B 40 5 (.slice A n c) n xs) (h1x : ∀ u ∈ xs, u.oneCell' = true) (hB0 : B ≤ w.heap.size) (hm : 0 < m) (hbig : (n + m) * 56 ≤ 140737488355328)
    (hv : w.heap[vb]? = some (.cells cv 40 (0, 0))) (hvt : cv.toList.take (m * 5) = ns) (hnl : ns.length = m * 5) (h1n : ∀ u ∈ ns, u.oneCell' = true) (hvb : (Value.slice A n c).ownBlock ≠ some vb) (hin : i ≤ n) :
    Calls Try.prog 47 #[.slice A n c, .int .i64 i, .slice (some ⟨vb, 0, none⟩) m vc] w fun e w' => ∃ A' c', e = .returned (.slice A' (n + m) c') ∧ w'.ownsRow B 40 5 (.slice A' (n + m) c') (n + m) (xs.take (i * 5) ++ ns ++ xs.drop (i * 5)) ∧ w.grownBy w' (Value.slice A n c).ownBlock := by
  by_cases h : i < n
  · by_cases hr : n + m ≤ c
    · exact insertM_room B A n c m i vb vc cv xs ns w ho h1x hB0 hm hbig hv hvt hnl h1n hvb h hr
    · exact insertM_grow B A n c m i vb vc cv xs ns w ho h1x hB0 hm hbig hv hvt hnl h1n hvb h (by omega)
  · obtain rfl : i = n := by omega
    have hxl : xs.length = i * 5 := ho.1
    rw [List.take_of_length_le (by omega), List.drop_eq_nil_of_le (by omega), List.append_nil]
    exact insertM_end B A i c m vb vc cv xs ns w ho h1x hB0 hm hbig hv hvt hnl h1n hvb
end Go.Proofs.Ytmlgahambecamaa
