/- slices.Insert and slices.Delete at ways. -/
import Derived.Test.YtmlgahambecamaaInM
namespace Go.Proofs.Ytmlgahambecamaa
open Go.RowKit


set_option maxHeartbeats 4000000 in
set_option maxRecDepth 1000000 in
/-- slices.Insert (func 60) at the end. -/
theorem insertP_end (B : Nat) (A : Option Addr) (n c m vb vc : Nat) (cv : Array Value) (xs ns : List Value) (w : World) (ho : w.ownsRow B 63 2 (.slice A n c) n xs) (_h1x : ∀ u ∈ xs, u.oneCell' = true) (hB0 : B ≤ w.heap.size) (hm : 0 < m) (hbig : (n + m) * 16 ≤ 140737488355328)
    (hv : w.heap[vb]? = some (.cells cv 63 (0, 0))) (hvt : cv.toList.take (m * 2) = ns) (hnl : ns.length = m * 2) (h1n : ∀ u ∈ ns, u.oneCell' = true) (_hvb : (Value.slice A n c).ownBlock ≠ some vb) :
    Calls Try.prog 60 #[.slice A n c, .int .i64 n, .slice (some ⟨vb, 0, none⟩) m vc] w fun e w' => ∃ A' c', e = .returned (.slice A' (n + m) c') ∧ w'.ownsRow B 63 2 (.slice A' (n + m) c') (n + m) (xs ++ ns) ∧ w.grownBy w' (Value.slice A n c).ownBlock := by
  obtain ⟨i0, hi, hz0, hz1, hz2⟩ := info_parts inf63
  have hmx : n + m ≤ maxLen := by unfold maxLen; omega
  have hz1' : ¬ ((m : Int) = 0) := by omega
  have hnews : ∀ j u, ns[j]? = some u → w.cell? ((⟨vb, 0, none⟩ : Addr).add j) = some u := fun j u hu => by
    rw [Addr.add_lit, Nat.zero_add, row_cell hv, ← hu, ← hvt, List.getElem?_take, if_pos (by have := (List.getElem?_eq_some_iff.1 hu).1; omega)]
    simp
  have hnc : n ≤ c := by
    rcases ho.2 with ⟨e, h0⟩ | ⟨g, cap, cur, e, _, _, h, _⟩
    · omega
    · injection e with _ _ e3; omega
  have HO := Lib.hid ho
  have HN := Lib.hid hnews
  have H1 := Lib.hid h1n
  have HL := Lib.hid hnl
  clear ho hnews h1n hnl hvt hv _h1x _hvb
  have walk : ∀ (X : Option Addr), (X = A) → Calls Try.prog 60 #[.slice X n c, .int .i64 n, .slice (some ⟨vb, 0, none⟩) m vc] w fun e w' => ∃ v', e = .returned v' ∧ w'.ownsRow B 63 2 v' (n + m) (xs ++ ns) ∧ w.grownBy w' (Value.slice A n c).ownBlock := by
    rintro X rfl
    rcases X with _ | ⟨ab, ao, asp⟩
    · have h0 : n = 0 ∧ c = 0 := by
        rcases (HO.out).2 with ⟨e, h⟩ | ⟨g, cap, cur, e, _⟩
        · injection e with e1 e2 e3; exact ⟨h, e3⟩
        · injection e with e1 e2 e3; cases e1
      obtain ⟨rfl, rfl⟩ := h0
      go_enter Try.func60, Try.ntmps60
      go_wp2_with (at_builtin; refine wpList_append_own _ rfl _ _ 24 rfl B 63 i0 _ 2 16 Try.underlying24 hi hz0 hz1 hz2 rfl (by decide) _ _ _ rfl HO.out ⟨vb, 0, none⟩ m vc ns rfl HL.out HN.out H1.out hmx hbig hB0 ?_)
      intro v' w1 hown hgrow hnil
      have HOW := Lib.hid hown
      have HGW := Lib.hid hgrow
      clear hown hgrow hnil
      go_wp2
      go_ret
      exact ⟨v', rfl, by simpa using HOW.out, HGW.out⟩
    · have hcm : c ≤ 9223372036854775807 := by
        rcases (HO.out).2 with ⟨e, h⟩ | ⟨g, cap, cur, e, _, _, _, h, _⟩
        · injection e with e1 e2 e3; cases e1
        · injection e with e1 e2 e3; subst e3; simpa [maxLen] using h
      by_cases hcn : c = n
      · subst hcn
        go_enter Try.func60, Try.ntmps60
        go_wp2_with (at_builtin; refine wpList_append_own _ rfl _ _ 24 rfl B 63 i0 _ 2 16 Try.underlying24 hi hz0 hz1 hz2 rfl (by decide) _ _ _ rfl HO.out ⟨vb, 0, none⟩ m vc ns rfl HL.out HN.out H1.out hmx hbig hB0 ?_)
        intro v' w1 hown hgrow hnil
        have HOW := Lib.hid hown
        have HGW := Lib.hid hgrow
        clear hown hgrow hnil
        go_wp2
        go_ret
        exact ⟨v', rfl, HOW.out, HGW.out⟩
      · go_enter Try.func60, Try.ntmps60
        go_wp2_with (at_builtin; refine wpList_append_own _ rfl _ _ 24 rfl B 63 i0 _ 2 16 Try.underlying24 hi hz0 hz1 hz2 rfl (by decide) _ _ _ rfl HO.out ⟨vb, 0, none⟩ m vc ns rfl HL.out HN.out H1.out hmx hbig hB0 ?_)
        intro v' w1 hown hgrow hnil
        have HOW := Lib.hid hown
        have HGW := Lib.hid hgrow
        clear hown hgrow hnil
        go_wp2
        go_ret
        exact ⟨v', rfl, HOW.out, HGW.out⟩
  refine (walk A rfl).mono fun e w' h => ?_
  obtain ⟨v', h1, h2, h3⟩ := h
  obtain ⟨A', c', rfl⟩ := owns_form h2
  exact ⟨A', c', h1, h2, h3⟩

set_option maxHeartbeats 4000000 in
set_option maxRecDepth 1000000 in
/-- slices.Insert (func 60) in the midst, where there is room. -/
theorem insertP_room (B : Nat) (A : Option Addr) (n c m i vb vc : Nat) (cv : Array Value) (xs ns : List Value) (w : World) (ho : w.ownsRow B 63 2 (.slice A n c) n xs) (h1x : ∀ u ∈ xs, u.oneCell' = true) (_hB0 : B ≤ w.heap.size) (hm : 0 < m) (hbig : (n + m) * 16 ≤ 140737488355328)
    (hv : w.heap[vb]? = some (.cells cv 63 (0, 0))) (hvt : cv.toList.take (m * 2) = ns) (hnl : ns.length = m * 2) (h1n : ∀ u ∈ ns, u.oneCell' = true) (hvb : (Value.slice A n c).ownBlock ≠ some vb) (hin : i < n) (hroom : n + m ≤ c) :
    Calls Try.prog 60 #[.slice A n c, .int .i64 i, .slice (some ⟨vb, 0, none⟩) m vc] w fun e w' => ∃ A' c', e = .returned (.slice A' (n + m) c') ∧ w'.ownsRow B 63 2 (.slice A' (n + m) c') (n + m) (xs.take (i * 2) ++ ns ++ xs.drop (i * 2)) ∧ w.grownBy w' (Value.slice A n c).ownBlock := by
  obtain ⟨g, cur, rfl, hB, hgl, hg, hnc, hcm, hcs, htk⟩ := owns_open ho (by omega)
  have hxl : xs.length = n * 2 := ho.1
  have hcm' : c ≤ 9223372036854775807 := by simpa [maxLen] using hcm
  have hne : vb ≠ g := fun e => hvb (by rw [e]; rfl)
  have hcvl : m * 2 ≤ cv.size := by
    have := congrArg List.length hvt; rw [List.length_take, hnl, Array.length_toList] at this; omega
  have hov : ∀ lb cb, (callFunc 75 #[.slice (some ⟨vb, 0, none⟩) m vc, .slice (some ⟨g, (i + m) * 2, none⟩) lb cb]).run Try.prog w = .ok (.value (.bool false)) w := fun lb cb => by
    rw [run_callFunc_extern Try.func75 (by kernel_rfl) (by kernel_rfl) (by kernel_rfl) (e := Extern.SlicesOverlaps.overlaps #[24, 24] #[4]) (by kernel_rfl),
      Lib.run_overlaps_apart w 24 4 63 Try.underlying24 2 (fun w => by simp [go_sem]) ⟨vb, 0, none⟩ ⟨g, (i + m) * 2, none⟩ m vc lb cb hne 63 63 cv.size cur.size (by simp [World.shape?, hv]) (by simp [World.shape?, hg]) (by omega) (row_free hv 0) (row_free hv _)]
    rfl
  have hxr : ∀ k, k < n * 2 → cur[k]? = xs[k]? := fun k hk => by rw [← htk, List.getElem?_take, if_pos hk]; simp
  obtain ⟨D, hD⟩ : ∃ D, D = xs.drop (i * 2) := ⟨_, rfl⟩
  have hDl : D.length = (n - i) * 2 := by rw [hD, List.length_drop, hxl]; omega
  have hD1 : ∀ u ∈ D, u.oneCell' = true := fun u hu => h1x u (by rw [hD] at hu; exact List.mem_of_mem_drop hu)
  have hcp1 : ∀ ty dc sc, (Builtin.copy_ #[24, 24] ty #[.slice (some ⟨g, (i + m) * 2, none⟩) (n + m - (i + m)) dc, .slice (some ⟨g, i * 2, none⟩) (n + m - i) sc]).run Try.prog w.drew = .ok (goInt (Nat.min (n + m - i) (n + m - (i + m)))) (w.drew.setCells g ((i + m) * 2) D) := fun ty dc sc =>
    run_copy_row w.drew _ _ ty 63 2 g _ _ dc ⟨g, i * 2, none⟩ _ sc D Try.underlying24 sz63 (by rw [hDl]; simp only [Nat.min_def]; split <;> omega)
      (fun j v hj => by
        have hjl := (List.getElem?_eq_some_iff.1 hj).1
        rw [Addr.add_lit]
        show w.cell? _ = _
        rw [row_cell hg, hxr _ (by omega), ← hj, hD, List.getElem?_drop])
      (fun j hj => by show (w.cell? _).isSome = true; rw [row_cell hg, Array.getElem?_eq_getElem (by omega)]; rfl) (fun j hj => row_free (w := w) hg _) hD1
  obtain ⟨W1, hW1⟩ : ∃ W1, W1 = w.drew.setCells g ((i + m) * 2) D := ⟨_, rfl⟩
  have hfit1 : (i + m) * 2 + D.length ≤ cur.toList.length := by rw [hDl, Array.length_toList]; omega
  have hg1 : W1.heap[g]? = some (.cells (splice cur.toList ((i + m) * 2) D).toArray 63 (0, 0)) := by rw [hW1]; exact setCells_heap D _ w.drew cur hg (by simpa using hfit1)
  have hl1 : (splice cur.toList ((i + m) * 2) D).length = c * 2 := by rw [splice_len hfit1, Array.length_toList, hcs]
  have hgr1 : w.grownBy W1 (some g) := by rw [hW1]; exact grown_trans (grown_drew (grown_refl w (some g))) (setCells_grown g D _ w.drew)
  have hv1 : ∀ j, W1.cell? ⟨vb, j, none⟩ = w.cell? ⟨vb, j, none⟩ := fun j => hgr1.cell_far ⟨vb, j, none⟩ ((Array.getElem?_eq_some_iff.1 hv).1) (by simpa using hne)
  have hcp2 : ∀ (W : World), (∀ x, W.cell? x = W1.cell? x) → (∀ x, W.frozen? x = W1.frozen? x) → ∀ ty dc, (Builtin.copy_ #[24, 24] ty #[.slice (some ⟨g, i * 2, none⟩) (n + m - i) dc, .slice (some ⟨vb, 0, none⟩) m vc]).run Try.prog W = .ok (goInt (Nat.min m (n + m - i))) (W.setCells g (i * 2) ns) := fun W hWc hWf ty dc =>
    run_copy_row W _ _ ty 63 2 g _ _ dc ⟨vb, 0, none⟩ m vc ns Try.underlying24 sz63 (by rw [hnl]; simp only [Nat.min_def]; split <;> omega)
      (fun j v hj => by
        have hjl := (List.getElem?_eq_some_iff.1 hj).1
        rw [Addr.add_lit, hWc, hv1, Nat.zero_add, row_cell hv, ← hj, ← hvt, List.getElem?_take, if_pos (by omega)]
        simp)
      (fun j hj => by rw [hWc, row_cell hg1, Array.getElem?_eq_getElem (by simp only [List.size_toArray, hl1]; omega)]; rfl) (fun j hj => by rw [hWf]; exact row_free hg1 _) h1n
  obtain ⟨W2, hW2⟩ : ∃ W2, W2 = W1.setCells g (i * 2) ns := ⟨_, rfl⟩
  have hfit2 : i * 2 + ns.length ≤ (splice cur.toList ((i + m) * 2) D).toArray.size := by rw [hnl, List.size_toArray, hl1]; omega
  have hg2 := setCells_heap ns (i * 2) W1 _ hg1 hfit2
  have FIN : Hid (∃ A' c', (Value.slice (some ⟨g, 0, none⟩) (n + m) c) = (.slice A' (n + m) c') ∧ W2.ownsRow B 63 2 (.slice A' (n + m) c') (n + m) (xs.take (i * 2) ++ ns ++ xs.drop (i * 2)) ∧ w.grownBy W2 (Value.slice (some ⟨g, 0, none⟩) n c).ownBlock) := by
    refine ⟨_, c, rfl, ?_, by rw [hW2]; exact grown_trans hgr1 (setCells_grown g _ _ W1)⟩
    rw [← hW2] at hg2
    refine owns_mk hB hg2 hroom hcm ?_ ?_
    · rw [List.size_toArray, splice_len (by simpa using hfit2), List.toList_toArray, hl1]
    · show (splice (splice cur.toList ((i + m) * 2) D) (i * 2) ns).take ((n + m) * 2) = _
      rw [show (i + m) * 2 = i * 2 + m * 2 by omega, show (n + m) * 2 = n * 2 + m * 2 by omega]
      exact splice_gap (by rw [Array.length_toList, hcs]; omega) htk (by omega) hD hnl
  have HW1 : Hid (W1 = w.drew.setCells g ((i + m) * 2) D) := hW1
  rw [← hW1] at hcp1
  have hz1 : ¬ ((m : Int) = 0) := by omega
  have hz2 : ¬ ((i : Int) = (n : Int)) := by omega
  have hw1 : IntKind.i64.wrap ((i : Int) + (m : Int)) = (i : Int) + (m : Int) := by rw [IntKind.wrap_i64]; omega
  have hb1 : (0 : Int) ≤ (i : Int) + (m : Int) := by omega
  have hin' : i ≤ n := by omega
  have htn : ((i : Int) + (m : Int)).toNat = i + m := by omega
  have hb2 : ¬ (c = i + m) := by omega
  have hb3 : (i : Int) ≤ (n : Int) + (m : Int) := by omega
  have hb4 : ¬ (c = i) := by omega
  have HW2 : Hid (W2 = W1.setCells g (i * 2) ns) := hW2
  clear hW1 hW2 hg1 hg2 hgr1 hl1 hfit1 hfit2 hxr hD hDl hD1 hg hcs htk hxl ho h1x hv hvt hnl h1n hcvl hv1 hvb hbig _hB0
  go_enter Try.func60, Try.ntmps60
  go_wp2_with (simp only [hov])
  go_region_law (refine step_copy_runI rfl _ _ 24 24 rfl _ _ (by simp [Act.eval, Act.put]) (by simp [Act.eval, Act.put]) (hcp1 _ _ _) ?_)
  go_wp2_with (at_builtin; refine wpList_copy_runI _ rfl _ _ 24 24 rfl _ _ rfl rfl (hcp2 _ (fun _ => rfl) (fun _ => rfl) _ _) ?_)
  go_ret
  rw [← HW2.out]
  obtain ⟨A', c', h1, h2, h3⟩ := FIN.out
  exact ⟨A', c', by rw [← h1]; rfl, h2, h3⟩

set_option maxHeartbeats 4000000 in
set_option maxRecDepth 1000000 in
/-- slices.Insert (func 60) in the midst, where there is no room: a new row. -/
theorem insertP_grow (B : Nat) (A : Option Addr) (n c m i vb vc : Nat) (cv : Array Value) (xs ns : List Value) (w : World) (ho : w.ownsRow B 63 2 (.slice A n c) n xs) (h1x : ∀ u ∈ xs, u.oneCell' = true) (hB0 : B ≤ w.heap.size) (hm : 0 < m) (hbig : (n + m) * 16 ≤ 140737488355328)
    (hv : w.heap[vb]? = some (.cells cv 63 (0, 0))) (hvt : cv.toList.take (m * 2) = ns) (hnl : ns.length = m * 2) (h1n : ∀ u ∈ ns, u.oneCell' = true) (hvb : (Value.slice A n c).ownBlock ≠ some vb) (hin : i < n) (hroom : c < n + m) :
    Calls Try.prog 60 #[.slice A n c, .int .i64 i, .slice (some ⟨vb, 0, none⟩) m vc] w fun e w' => ∃ A' c', e = .returned (.slice A' (n + m) c') ∧ w'.ownsRow B 63 2 (.slice A' (n + m) c') (n + m) (xs.take (i * 2) ++ ns ++ xs.drop (i * 2)) ∧ w.grownBy w' (Value.slice A n c).ownBlock := by
  obtain ⟨g, cur, rfl, hB, hgl, hg, hnc, hcm, hcs, htk⟩ := owns_open ho (by omega)
  obtain ⟨i0, hi0, hz0, hzs, hzb⟩ := info_parts inf63
  have hxl : xs.length = n * 2 := ho.1
  have hne : vb ≠ g := fun e => hvb (by rw [e]; rfl)
  have hvlt : vb < w.heap.size := (Array.getElem?_eq_some_iff.1 hv).1
  have hcvl : m * 2 ≤ cv.size := by
    have := congrArg List.length hvt; rw [List.length_take, hnl, Array.length_toList] at this; omega
  have hxr : ∀ k, k < n * 2 → cur[k]? = xs[k]? := fun k hk => by rw [← htk, List.getElem?_take, if_pos hk]; simp
  have hz1 : ¬ ((m : Int) = 0) := by omega
  have hz2 : ¬ ((i : Int) = (n : Int)) := by omega
  have hz3 : (c : Int) < (n : Int) + (m : Int) := by omega
  have hkk : (n : Int) + (m : Int) - (i : Int) = ((n + m - i : Nat) : Int) := by omega
  have hik : i + (n + m - i) = n + m := by omega
  have hold : (Builtin.firstCells i0.size i (.slice (some ⟨g, 0, none⟩) i c)).run Try.prog w.drew = .ok (xs.take (i * 2)).toArray w.drew := by
    rw [hzs]
    exact run_firstCells_some w.drew 2 i ⟨g, 0, none⟩ i c (xs.take (i * 2)) (by rw [List.length_take, hxl]; omega) (fun j v hj => by
      rw [Addr.add_lit, Nat.zero_add]
      show w.cell? _ = _
      rw [List.getElem?_take] at hj
      split at hj
      · rw [row_cell hg, hxr _ (by omega)]; exact hj
      · cases hj)
  have hrz : ∀ ty, (Builtin.append_ #[24, 3] ty #[.slice (some ⟨g, 0, none⟩) i c, .int .i64 ((n : Int) + (m : Int) - (i : Int))]).run Try.prog w =
      .ok (.slice (some ⟨w.heap.size, 0, none⟩) (n + m) (grownCap w (n + m) c 63)) (w.drew.alloc (.cells ((xs.take (i * 2)).toArray ++ Builtin.zeroCells (Value.cells (.agg #[.int .i64 0, .int .i64 0])) (n + m - i) ++ Builtin.zeroCells (Value.cells (.agg #[.int .i64 0, .int .i64 0])) (grownCap w (n + m) c 63 - (n + m))) 63)) := fun ty => by
    have h := Lib.run_append_grow_zeros w 24 3 ty 63 i0 _ .i64 .i64 Try.underlying24 Try.underlying3 hi0 hz0 (some ⟨g, 0, none⟩) i c (xs.take (i * 2)) hold (n + m - i) (by omega) (by omega) (by omega) (by omega) (by rw [hzb]; omega) (by rw [hzb, hik]; exact growslice_fits hroom hbig)
    rw [hik] at h
    rw [hkk]
    exact h
  obtain ⟨G, hG⟩ : ∃ G, G = grownCap w (n + m) c 63 := ⟨_, rfl⟩
  obtain ⟨ROW, hROW⟩ : ∃ ROW : Array Value, ROW = (xs.take (i * 2)).toArray ++ Builtin.zeroCells (Value.cells (.agg #[.int .i64 0, .int .i64 0])) (n + m - i) ++ Builtin.zeroCells (Value.cells (.agg #[.int .i64 0, .int .i64 0])) (G - (n + m)) := ⟨_, rfl⟩
  rw [← hG] at hrz
  rw [← hROW] at hrz
  have hGn : n + m ≤ G := by rw [hG]; exact grownCap_ge w _ _ _
  have hG63' : G ≤ maxLen := by rw [hG]; exact grownCap_le_maxLen w (n + m) c 63 (by unfold maxLen; omega)
  have hG63 : G ≤ 9223372036854775807 := by simpa [maxLen] using hG63'
  have hzc : (Value.cells (.agg #[.int .i64 0, .int .i64 0])).size = 2 := rfl
  have hRl : ROW.size = G * 2 := by
    rw [hROW, Array.size_append, Array.size_append, List.size_toArray, size_zeroCells, size_zeroCells, List.length_take, hxl, hzc]
    omega
  have hRt : ROW.toList.take (i * 2) = xs.take (i * 2) := by
    rw [hROW, Array.toList_append, Array.toList_append, List.append_assoc, List.take_append, List.toList_toArray, List.take_of_length_le (by rw [List.length_take]; omega), List.length_take, hxl, show i * 2 - min (i * 2) (n * 2) = 0 by omega]
    simp
  obtain ⟨W1, hW1⟩ : ∃ W1, W1 = w.drew.alloc (.cells ROW 63) := ⟨_, rfl⟩
  rw [← hW1] at hrz
  have hg1 : W1.heap[w.heap.size]? = some (.cells ROW 63 (0, 0)) := by rw [hW1]; exact heap_alloc_new w.drew _
  have hgr1 : w.grownBy W1 (some g) := by rw [hW1]; exact grown_of_below (a := w) ((Below.refl w.heap.size w).drew.alloc (Nat.le_refl _) _) _
  have hOg : ∀ j, W1.cell? ⟨g, j, none⟩ = w.cell? ⟨g, j, none⟩ := fun j => by rw [hW1]; exact World.cell?_alloc_past (w := w.drew) _ g j hgl
  have hOv : ∀ j, W1.cell? ⟨vb, j, none⟩ = w.cell? ⟨vb, j, none⟩ := fun j => by rw [hW1]; exact World.cell?_alloc_past (w := w.drew) _ vb j hvlt
  have hgN : g ≠ w.heap.size := by omega
  have hcpA : ∀ (W : World), (∀ x, W.cell? x = W1.cell? x) → (∀ x, W.frozen? x = W1.frozen? x) → ∀ ty dc, (Builtin.copy_ #[24, 24] ty #[.slice (some ⟨w.heap.size, i * 2, none⟩) (n + m - i) dc, .slice (some ⟨vb, 0, none⟩) m vc]).run Try.prog W = .ok (goInt (Nat.min m (n + m - i))) (W.setCells w.heap.size (i * 2) ns) := fun W hWc hWf ty dc =>
    run_copy_row W _ _ ty 63 2 w.heap.size _ _ dc ⟨vb, 0, none⟩ m vc ns Try.underlying24 sz63 (by rw [hnl]; simp only [Nat.min_def]; split <;> omega)
      (fun j v hj => by
        have hjl := (List.getElem?_eq_some_iff.1 hj).1
        rw [Addr.add_lit, hWc, hOv, Nat.zero_add, row_cell hv, ← hj, ← hvt, List.getElem?_take, if_pos (by omega)]
        simp)
      (fun j hj => by rw [hWc, row_cell hg1, Array.getElem?_eq_getElem (by omega)]; rfl) (fun j hj => by rw [hWf]; exact row_free hg1 _) h1n
  obtain ⟨D, hD⟩ : ∃ D, D = xs.drop (i * 2) := ⟨_, rfl⟩
  have hDl : D.length = (n - i) * 2 := by rw [hD, List.length_drop, hxl]; omega
  have hD1 : ∀ u ∈ D, u.oneCell' = true := fun u hu => h1x u (by rw [hD] at hu; exact List.mem_of_mem_drop hu)
  have hfit1 : i * 2 + ns.length ≤ ROW.size := by rw [hnl, hRl]; omega
  have hg2 := setCells_heap ns (i * 2) W1 _ hg1 hfit1
  have hl2 : (splice ROW.toList (i * 2) ns).length = G * 2 := by rw [splice_len (by simpa using hfit1), Array.length_toList, hRl]
  have hOg2 : ∀ j, (W1.setCells w.heap.size (i * 2) ns).cell? ⟨g, j, none⟩ = w.cell? ⟨g, j, none⟩ := fun j => by rw [World.cell?_setCells_out _ _ _ _ _ (fun h _ => absurd h hgN)]; exact hOg j
  have hcpB : ∀ (W : World), (∀ x, W.cell? x = (W1.setCells w.heap.size (i * 2) ns).cell? x) → (∀ x, W.frozen? x = (W1.setCells w.heap.size (i * 2) ns).frozen? x) → ∀ ty dc sc, (Builtin.copy_ #[24, 24] ty #[.slice (some ⟨w.heap.size, (i + m) * 2, none⟩) (n + m - (i + m)) dc, .slice (some ⟨g, i * 2, none⟩) (n - i) sc]).run Try.prog W = .ok (goInt (Nat.min (n - i) (n + m - (i + m)))) (W.setCells w.heap.size ((i + m) * 2) D) := fun W hWc hWf ty dc sc =>
    run_copy_row W _ _ ty 63 2 w.heap.size _ _ dc ⟨g, i * 2, none⟩ _ sc D Try.underlying24 sz63 (by rw [hDl]; simp only [Nat.min_def]; split <;> omega)
      (fun j v hj => by
        have hjl := (List.getElem?_eq_some_iff.1 hj).1
        rw [Addr.add_lit, hWc, hOg2, row_cell hg, hxr _ (by omega), ← hj, hD, List.getElem?_drop])
      (fun j hj => by rw [hWc, row_cell hg2, Array.getElem?_eq_getElem (by simp only [List.size_toArray, hl2]; omega)]; rfl) (fun j hj => by rw [hWf]; exact row_free hg2 _) hD1
  have hfit2 : (i + m) * 2 + D.length ≤ (splice ROW.toList (i * 2) ns).toArray.size := by rw [hDl, List.size_toArray, hl2]; omega
  have FIN : ∀ W3 : World, W3.heap = ((W1.setCells w.heap.size (i * 2) ns).setCells w.heap.size ((i + m) * 2) D).heap → W3.os = w.os → W3.tape = w.tape → W3.output = w.output →
      Hid (W3.ownsRow B 63 2 (.slice (some ⟨w.heap.size, 0, none⟩) (n + m) G) (n + m) (xs.take (i * 2) ++ ns ++ xs.drop (i * 2)) ∧ w.grownBy W3 (Value.slice (some ⟨g, 0, none⟩) n c).ownBlock) := by
    intro W3 h3 e1 e2 e3
    have hg3 := setCells_heap D ((i + m) * 2) _ _ hg2 hfit2
    rw [← h3] at hg3
    have hgr3 := (setCells_grown w.heap.size ns (i * 2) W1)
    have hgr4 := (setCells_grown w.heap.size D ((i + m) * 2) (W1.setCells w.heap.size (i * 2) ns))
    refine ⟨owns_mk hB0 hg3 hGn hG63' ?_ ?_, e1, e2, e3, ?_, ?_⟩
    · rw [List.size_toArray, splice_len (by simpa using hfit2), List.toList_toArray, hl2]
    · show (splice (splice ROW.toList (i * 2) ns) ((i + m) * 2) D).take ((n + m) * 2) = _
      rw [splice_take (by rw [hl2, hDl]; omega) (by rw [hDl]; omega), splice_take (by simpa using hfit1) (by rw [hnl]; omega), hRt, hD]
    · rw [h3]; exact Nat.le_trans hgr1.size (Nat.le_trans hgr3.size hgr4.size)
    · intro k hk hn
      rw [h3, hgr4.block k (Nat.lt_of_lt_of_le hk (Nat.le_trans hgr1.size hgr3.size)) (by simp; omega), hgr3.block k (Nat.lt_of_lt_of_le hk hgr1.size) (by simp; omega), hgr1.block k hk hn]
  have FIN' := Lib.hid FIN
  have hos : W1.os = w.os ∧ W1.tape = w.tape ∧ W1.output = w.output := by rw [hW1]; exact ⟨rfl, rfl, rfl⟩
  subst hW1
  have hE1 : ∀ x, ((w.alloc (.cells ROW 63)).drew).cell? x = (w.drew.alloc (.cells ROW 63)).cell? x := fun x => rfl
  have hE2 : ∀ x, ((w.alloc (.cells ROW 63)).drew).frozen? x = (w.drew.alloc (.cells ROW 63)).frozen? x := fun x => rfl
  have hF1 : ∀ x, (((w.alloc (.cells ROW 63)).drew.setCells w.heap.size (i * 2) ns).drew).cell? x = ((w.drew.alloc (.cells ROW 63)).setCells w.heap.size (i * 2) ns).cell? x := fun x => rfl
  have hF2 : ∀ x, (((w.alloc (.cells ROW 63)).drew.setCells w.heap.size (i * 2) ns).drew).frozen? x = ((w.drew.alloc (.cells ROW 63)).setCells w.heap.size (i * 2) ns).frozen? x := fun x => rfl
  have hw1 : IntKind.i64.wrap ((i : Int) + (m : Int)) = (i : Int) + (m : Int) := by rw [IntKind.wrap_i64]; omega
  have hb1 : (0 : Int) ≤ (i : Int) + (m : Int) := by omega
  have hin' : i ≤ n := by omega
  have htn : ((i : Int) + (m : Int)).toNat = i + m := by omega
  have hb3 : (i : Int) ≤ (n : Int) := by omega
  have hGi : ¬ (G = i) := by omega
  have hGim : ¬ (G = i + m) := by omega
  have hci : ¬ (c = i) := by omega
  clear FIN hkk hik hold hROW hG hRl hRt hg1 hgr1 hOg hOv hg2 hl2 hOg2 hfit1 hfit2 hos hxr hD hDl hD1 hg hcs htk hxl ho h1x hv hvt hnl h1n hcvl hvb hz0 hzs hzb hi0 hzc
  go_enter Try.func60, Try.ntmps60
  go_wp2_with (first
    | (at_builtin; refine Lib.wpList_append_run _ rfl _ _ _ _ rfl _ _ rfl rfl _ _ (hrz _) ?_)
    | (at_builtin; refine wpList_copy_runI _ rfl _ _ 24 24 rfl _ _ rfl rfl (hcpA _ hE1 hE2 _ _) ?_)
    | (at_builtin; refine wpList_copy_runI _ rfl _ _ 24 24 rfl _ _ rfl rfl (hcpB _ (fun _ => rfl) (fun _ => rfl) _ _ _) ?_))
  go_region_law (refine step_copy_runI rfl _ _ 24 24 rfl (.slice (some ⟨w.heap.size, (i + m) * 2, none⟩) (n + m - (i + m)) (G - (i + m))) (.slice (some ⟨g, i * 2, none⟩) (n - i) (c - i)) (by simp [Act.eval, Act.put]) (by simp [Act.eval, Act.put]) (hcpB _ hF1 hF2 3 (G - (i + m)) (c - i)) ?_)
  go_wp2
  go_ret
  obtain ⟨h1, h2⟩ := (FIN'.out ((((w.alloc (.cells ROW 63)).drew.setCells w.heap.size (i * 2) ns).drew).setCells w.heap.size ((i + m) * 2) D) (by rw [← drew_setCells]; rfl) ((setCells_grown _ D _ _).os.trans (setCells_grown _ ns _ _).os) ((setCells_grown _ D _ _).tape.trans (setCells_grown _ ns _ _).tape) ((setCells_grown _ D _ _).output.trans (setCells_grown _ ns _ _).output)).out
  exact ⟨_, G, rfl, h1, h2⟩

/-- slices.Insert (func 60). -/
theorem insertP_any (B : Nat) (A : Option Addr) (n c m i vb vc : Nat) (cv : Array Value) (xs ns : List Value) (w : World) (ho : w.ownsRow B 63 2 (.slice A n c) n xs) (h1x : ∀ u ∈ xs, u.oneCell' = true) (hB0 : B ≤ w.heap.size) (hm : 0 < m) (hbig : (n + m) * 16 ≤ 140737488355328)
    (hv : w.heap[vb]? = some (.cells cv 63 (0, 0))) (hvt : cv.toList.take (m * 2) = ns) (hnl : ns.length = m * 2) (h1n : ∀ u ∈ ns, u.oneCell' = true) (hvb : (Value.slice A n c).ownBlock ≠ some vb) (hin : i ≤ n) :
    Calls Try.prog 60 #[.slice A n c, .int .i64 i, .slice (some ⟨vb, 0, none⟩) m vc] w fun e w' => ∃ A' c', e = .returned (.slice A' (n + m) c') ∧ w'.ownsRow B 63 2 (.slice A' (n + m) c') (n + m) (xs.take (i * 2) ++ ns ++ xs.drop (i * 2)) ∧ w.grownBy w' (Value.slice A n c).ownBlock := by
  by_cases h : i < n
  · by_cases hr : n + m ≤ c
    · exact insertP_room B A n c m i vb vc cv xs ns w ho h1x hB0 hm hbig hv hvt hnl h1n hvb h hr
    · exact insertP_grow B A n c m i vb vc cv xs ns w ho h1x hB0 hm hbig hv hvt hnl h1n hvb h (by omega)
  · obtain rfl : i = n := by omega
    have hxl : xs.length = i * 2 := ho.1
    rw [List.take_of_length_le (by omega), List.drop_eq_nil_of_le (by omega), List.append_nil]
    exact insertP_end B A i c m vb vc cv xs ns w ho h1x hB0 hm hbig hv hvt hnl h1n hvb

theorem zv63 (w : World) : (zeroValue 63).run Try.prog w = .ok (.agg #[.int .i64 0, .int .i64 0]) w := by simp [go_sem]

set_option maxHeartbeats 4000000 in
set_option maxRecDepth 1000000 in
/-- slices.Delete (func 62) on a row of the call's own: what stood from i to j goes. -/
theorem deleteP (B : Nat) (A : Option Addr) (n c i j : Nat) (xs : List Value) (w : World) (ho : w.ownsRow B 63 2 (.slice A n c) n xs) (h1x : ∀ u ∈ xs, u.oneCell' = true) (hij : i < j) (hj : j ≤ n) :
    Calls Try.prog 62 #[.slice A n c, .int .i64 i, .int .i64 j] w fun e w' => e = .returned (.slice A (n - (j - i)) c) ∧ w'.ownsRow B 63 2 (.slice A (n - (j - i)) c) (n - (j - i)) (xs.take (i * 2) ++ xs.drop (j * 2)) ∧ w.grownBy w' (Value.slice A n c).ownBlock := by
  obtain ⟨g, cur, rfl, hB, hgl, hg, hnc, hcm, hcs, htk⟩ := owns_open ho (by omega)
  have hxl : xs.length = n * 2 := ho.1
  obtain ⟨i0, hi0, hz0, hz1, hz2⟩ := info_parts inf63
  have hcm' : c ≤ 9223372036854775807 := by simpa [maxLen] using hcm
  obtain ⟨news, hnews⟩ : ∃ news, news = xs.drop (j * 2) := ⟨_, rfl⟩
  have hlen : news.length = (n - j) * 2 := by rw [hnews, List.length_drop, hxl]; omega
  have hcur : ∀ k, k < n * 2 → cur[k]? = xs[k]? := fun k hk => by rw [← htk, List.getElem?_take, if_pos hk]; simp
  obtain ⟨AD, hAD, hsrc⟩ : ∃ AD : Addr, (if c = j then (some ⟨g, 0, none⟩ : Option Addr) else some ⟨g, j * 2, none⟩) = some AD ∧ Hid (∀ t u, news[t]? = some u → w.drew.cell? (AD.add t) = some u) := by
    by_cases h : c = j
    · refine ⟨⟨g, 0, none⟩, by simp [h], fun t u hu => ?_⟩
      have h0 : news.length = 0 := by rw [hlen]; omega
      rw [List.length_eq_zero_iff.1 h0] at hu
      simp at hu
    · refine ⟨⟨g, j * 2, none⟩, by simp [h], fun t u hu => ?_⟩
      have ht : t < (n - j) * 2 := by
        have := (List.getElem?_eq_some_iff.1 hu).1
        rwa [hlen] at this
      rw [Addr.add_lit]
      show w.cell? _ = _
      rw [row_cell hg, hcur _ (by omega), ← hu, hnews, List.getElem?_drop]
  have s1 := Lib.hid hlen
  have s2 : Hid (∀ u ∈ news, u.oneCell' = true) := fun u hu => h1x u (by rw [hnews] at hu; exact List.mem_of_mem_drop hu)
  have s3 : Hid (∀ t, t < news.length → (w.drew.cell? ⟨g, 0 + i * 2 + t, none⟩).isSome = true ∧ w.drew.frozen? ⟨g, 0 + i * 2 + t, none⟩ = false) := by
    intro t ht
    rw [hlen] at ht
    refine ⟨?_, row_free (w := w) hg _⟩
    show (w.cell? _).isSome = true
    rw [row_cell hg, Array.getElem?_eq_getElem (by omega)]; rfl
  obtain ⟨W1, hW1⟩ : ∃ W1, W1 = w.drew.setCells g (0 + i * 2) news := ⟨_, rfl⟩
  have hfit : i * 2 + news.length ≤ cur.toList.length := by rw [hlen, Array.length_toList]; omega
  have hg1 : W1.heap[g]? = some (.cells (splice cur.toList (i * 2) news).toArray 63 (0, 0)) := by
    rw [hW1, Nat.zero_add]; exact setCells_heap news _ w.drew cur hg (by simpa using hfit)
  have hgr1 : w.grownBy W1 (some g) := by rw [hW1]; exact grown_trans (grown_drew (grown_refl w (some g))) (setCells_grown g news _ w.drew)
  have hl1 : (splice cur.toList (i * 2) news).length = c * 2 := by rw [splice_len hfit, Array.length_toList, hcs]
  have hcl : ∀ ty, (Builtin.clear_ #[24] ty #[.slice (some ⟨g, (i + (n - j)) * 2, none⟩) (n - (i + (n - j))) (c - (i + (n - j)))]).run Try.prog W1 = .ok (.tuple #[]) (W1.setCells g ((i + (n - j)) * 2) (zrow (.agg #[.int .i64 0, .int .i64 0]) (n - (i + (n - j))))) :=
    fun ty => run_clear_row W1 _ _ ty _ Try.underlying24 zv63 (by decide) g _ _ _ (by omega)
      (fun t ht => by
        have hz : (Value.cells (.agg #[.int .i64 0, .int .i64 0])).size = 2 := rfl
        rw [hz] at ht
        rw [row_cell hg1, Array.getElem?_eq_getElem (by simp only [List.size_toArray, hl1]; omega)]; rfl) (fun t ht => row_free hg1 _)
  obtain ⟨W2, hW2⟩ : ∃ W2, W2 = W1.setCells g ((i + (n - j)) * 2) (zrow (.agg #[.int .i64 0, .int .i64 0]) (n - (i + (n - j)))) := ⟨_, rfl⟩
  have hzl : (zrow (.agg #[.int .i64 0, .int .i64 0]) (n - (i + (n - j)))).length = (n - (i + (n - j))) * 2 := zrow_len _ _
  have hg2 := setCells_heap (zrow (.agg #[.int .i64 0, .int .i64 0]) (n - (i + (n - j)))) ((i + (n - j)) * 2) W1 _ hg1 (by rw [hzl, List.size_toArray, hl1]; omega)
  have hgr2 : w.grownBy W2 (some g) := by rw [hW2]; exact grown_trans hgr1 (setCells_grown g _ _ W1)
  have FIN : Hid (W2.ownsRow B 63 2 (.slice (some ⟨g, 0, none⟩) (n - (j - i)) c) (n - (j - i)) (xs.take (i * 2) ++ xs.drop (j * 2)) ∧ w.grownBy W2 (some g)) := by
    refine ⟨?_, hgr2⟩
    rw [← hW2] at hg2
    refine owns_mk hB hg2 (by omega) hcm ?_ ?_
    · rw [List.size_toArray, splice_len (by simp only [hzl, hl1]; omega), Array.length_toList, List.size_toArray, hl1]
    · simp only
      rw [splice_before (by simp only [hl1]; omega) (by omega), splice_take hfit (by rw [hlen]; omega), hnews]
      congr 1
      rw [← htk, List.take_take, Nat.min_eq_left (by omega)]
  rw [← hW2] at hcl
  have HW1 : Hid (W1 = w.drew.setCells g (0 + i * 2) news) := hW1
  have hic : i ≤ c := by omega
  have hjc : j ≤ c := by omega
  have hin : i ≤ n := by omega
  clear hW1 hW2 hg1 hg2 hgr1 hgr2 hl1 hzl hfit hcur hnews hlen hg hcs htk hxl ho h1x
  go_enter Try.func62, Try.ntmps62
  go_wp2_with fail
  go_region_law (refine step_append_room rfl (.tmp 22) (.tmp 25) 24 rfl 63 i0 2 Try.underlying24 hi0 hz1 g 0 i c (by simp [Act.eval, Act.put]) AD (n - j) (c - j) news (by simp [Act.eval, Act.put]) s1.out hsrc.out s2.out (by omega) s3.out ?_; rw [← HW1.out])
  go_wp2
  go_ret
  exact ⟨by rw [show n - (j - i) = i + (n - j) by omega]; rfl, FIN.out⟩
end Go.Proofs.Ytmlgahambecamaa
