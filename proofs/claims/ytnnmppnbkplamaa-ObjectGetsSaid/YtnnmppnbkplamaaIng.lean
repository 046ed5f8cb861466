/- slices.Insert at objects, where there is no room; and all. -/
import Derived.Test.YtnnmppnbkplamaaIns
namespace Go.Proofs.Ytnnmppnbkplamaa
open Go.RowKit


set_option maxHeartbeats 4000000 in
set_option maxRecDepth 1000000 in
/-- slices.Insert (func 34) in the midst, where there is no room: a new row. -/
theorem insertOb_grow (B : Nat) (A : Option Addr) (n c m i vb vc : Nat) (cv : Array Value) (xs ns : List Value) (w : World) (ho : w.ownsRow B 59 2 (.slice A n c) n xs) (h1x : ∀ u ∈ xs, u.oneCell' = true) (hB0 : B ≤ w.heap.size) (hm : 0 < m) (hbig : (n + m) * 40 ≤ 140737488355328)
    (hv : w.heap[vb]? = some (.cells cv 59 (0, 0))) (hvt : cv.toList.take (m * 2) = ns) (hnl : ns.length = m * 2) (h1n : ∀ u ∈ ns, u.oneCell' = true) (hvb : (Value.slice A n c).ownBlock ≠ some vb) (hin : i < n) (hroom : c < n + m) :
    Calls Try.prog 34 #[.slice A n c, .int .i64 i, .slice (some ⟨vb, 0, none⟩) m vc] w fun e w' => ∃ A' c', e = .returned (.slice A' (n + m) c') ∧ w'.ownsRow B 59 2 (.slice A' (n + m) c') (n + m) (xs.take (i * 2) ++ ns ++ xs.drop (i * 2)) ∧ w.grownBy w' (Value.slice A n c).ownBlock ∧ Lies w (Value.slice A n c) (.slice A' (n + m) c') := by
  obtain ⟨g, cur, rfl, hB, hgl, hg, hnc, hcm, hcs, htk⟩ := owns_open ho (by omega)
  obtain ⟨i0, hi0, hz0, hzs, hzb⟩ := info_parts inf59
  have hxl : xs.length = n * 2 := ho.1
  have hne : vb ≠ g := fun e => hvb (by rw [e]; rfl)
  have hvlt : vb < w.heap.size := (Array.getElem?_eq_some_iff.1 hv).1
  have hcvl : m * 2 ≤ cv.size := by
    have := congrArg List.length hvt; rw [List.length_take, hnl, Array.length_toList] at this; omega
  have hxr : ∀ k, k < n * 2 → cur[k]? = xs[k]? := fun k hk => by rw [← htk, List.getElem?_take, if_pos hk]; simp
  have hz1 : ¬ ((m : Int) = 0) := by omega
  have hz2 : ¬ ((i : Int) = (n : Int)) := by omega
  have hz3 : (c : Int) < (n : Int) + (m : Int) := by omega
  have hkk : (n : Int) + (m : Int) - (i : Int) = ((n + m - i : Nat) : Int) := by omega
  have hik : i + (n + m - i) = n + m := by omega
  have hold : (Builtin.firstCells i0.size i (.slice (some ⟨g, 0, none⟩) i c)).run Try.prog w.drew = .ok (xs.take (i * 2)).toArray w.drew := by
    rw [hzs]
    exact run_firstCells_some w.drew 2 i ⟨g, 0, none⟩ i c (xs.take (i * 2)) (by rw [List.length_take, hxl]; omega) (fun j v hj => by
      rw [Addr.add_lit, Nat.zero_add]
      show w.cell? _ = _
      rw [List.getElem?_take] at hj
      split at hj
      · rw [row_cell hg, hxr _ (by omega)]; exact hj
      · cases hj)
  have hrz : ∀ ty, (Builtin.append_ #[22, 3] ty #[.slice (some ⟨g, 0, none⟩) i c, .int .i64 ((n : Int) + (m : Int) - (i : Int))]).run Try.prog w =
      .ok (.slice (some ⟨w.heap.size, 0, none⟩) (n + m) (grownCap w (n + m) c 59)) (w.drew.alloc (.cells ((xs.take (i * 2)).toArray ++ Builtin.zeroCells (Value.cells (.agg #[.string ⟨#[]⟩, .slice none 0 0])) (n + m - i) ++ Builtin.zeroCells (Value.cells (.agg #[.string ⟨#[]⟩, .slice none 0 0])) (grownCap w (n + m) c 59 - (n + m))) 59)) := fun ty => by
    have h := Lib.run_append_grow_zeros w 22 3 ty 59 i0 _ .i64 .i64 Try.underlying22 Try.underlying3 hi0 hz0 (some ⟨g, 0, none⟩) i c (xs.take (i * 2)) hold (n + m - i) (by omega) (by omega) (by omega) (by omega) (by rw [hzb]; omega) (by rw [hzb, hik]; exact growslice_fits hroom hbig)
    rw [hik] at h
    rw [hkk]
    exact h
  obtain ⟨G, hG⟩ : ∃ G, G = grownCap w (n + m) c 59 := ⟨_, rfl⟩
  obtain ⟨ROW, hROW⟩ : ∃ ROW : Array Value, ROW = (xs.take (i * 2)).toArray ++ Builtin.zeroCells (Value.cells (.agg #[.string ⟨#[]⟩, .slice none 0 0])) (n + m - i) ++ Builtin.zeroCells (Value.cells (.agg #[.string ⟨#[]⟩, .slice none 0 0])) (G - (n + m)) := ⟨_, rfl⟩
  rw [← hG] at hrz
  rw [← hROW] at hrz
  have hGn : n + m ≤ G := by rw [hG]; exact grownCap_ge w _ _ _
  have hG63' : G ≤ maxLen := by rw [hG]; exact grownCap_le_maxLen w (n + m) c 59 (by unfold maxLen; omega)
  have hG63 : G ≤ 9223372036854775807 := by simpa [maxLen] using hG63'
  have hzc : (Value.cells (.agg #[.string ⟨#[]⟩, .slice none 0 0])).size = 2 := rfl
  have hRl : ROW.size = G * 2 := by
    rw [hROW, Array.size_append, Array.size_append, List.size_toArray, size_zeroCells, size_zeroCells, List.length_take, hxl, hzc]
    omega
  have hRt : ROW.toList.take (i * 2) = xs.take (i * 2) := by
    rw [hROW, Array.toList_append, Array.toList_append, List.append_assoc, List.take_append, List.toList_toArray, List.take_of_length_le (by rw [List.length_take]; omega), List.length_take, hxl, show i * 2 - min (i * 2) (n * 2) = 0 by omega]
    simp
  obtain ⟨W1, hW1⟩ : ∃ W1, W1 = w.drew.alloc (.cells ROW 59) := ⟨_, rfl⟩
  rw [← hW1] at hrz
  have hg1 : W1.heap[w.heap.size]? = some (.cells ROW 59 (0, 0)) := by rw [hW1]; exact heap_alloc_new w.drew _
  have hgr1 : w.grownBy W1 (some g) := by rw [hW1]; exact grown_of_below (a := w) ((Below.refl w.heap.size w).drew.alloc (Nat.le_refl _) _) _
  have hOg : ∀ j, W1.cell? ⟨g, j, none⟩ = w.cell? ⟨g, j, none⟩ := fun j => by rw [hW1]; exact World.cell?_alloc_past (w := w.drew) _ g j hgl
  have hOv : ∀ j, W1.cell? ⟨vb, j, none⟩ = w.cell? ⟨vb, j, none⟩ := fun j => by rw [hW1]; exact World.cell?_alloc_past (w := w.drew) _ vb j hvlt
  have hgN : g ≠ w.heap.size := by omega
  have hcpA : ∀ (W : World), (∀ x, W.cell? x = W1.cell? x) → (∀ x, W.frozen? x = W1.frozen? x) → ∀ ty dc, (Builtin.copy_ #[22, 22] ty #[.slice (some ⟨w.heap.size, i * 2, none⟩) (n + m - i) dc, .slice (some ⟨vb, 0, none⟩) m vc]).run Try.prog W = .ok (goInt (Nat.min m (n + m - i))) (W.setCells w.heap.size (i * 2) ns) := fun W hWc hWf ty dc =>
    run_copy_row W _ _ ty 59 2 w.heap.size _ _ dc ⟨vb, 0, none⟩ m vc ns Try.underlying22 sz59 (by rw [hnl]; simp only [Nat.min_def]; split <;> omega)
      (fun j v hj => by
        have hjl := (List.getElem?_eq_some_iff.1 hj).1
        rw [Addr.add_lit, hWc, hOv, Nat.zero_add, row_cell hv, ← hj, ← hvt, List.getElem?_take, if_pos (by omega)]
        simp)
      (fun j hj => by rw [hWc, row_cell hg1, Array.getElem?_eq_getElem (by omega)]; rfl) (fun j hj => by rw [hWf]; exact row_free hg1 _) h1n
  obtain ⟨D, hD⟩ : ∃ D, D = xs.drop (i * 2) := ⟨_, rfl⟩
  have hDl : D.length = (n - i) * 2 := by rw [hD, List.length_drop, hxl]; omega
  have hD1 : ∀ u ∈ D, u.oneCell' = true := fun u hu => h1x u (by rw [hD] at hu; exact List.mem_of_mem_drop hu)
  have hfit1 : i * 2 + ns.length ≤ ROW.size := by rw [hnl, hRl]; omega
  have hg2 := setCells_heap ns (i * 2) W1 _ hg1 hfit1
  have hl2 : (splice ROW.toList (i * 2) ns).length = G * 2 := by rw [splice_len (by simpa using hfit1), Array.length_toList, hRl]
  have hOg2 : ∀ j, (W1.setCells w.heap.size (i * 2) ns).cell? ⟨g, j, none⟩ = w.cell? ⟨g, j, none⟩ := fun j => by rw [World.cell?_setCells_out _ _ _ _ _ (fun h _ => absurd h hgN)]; exact hOg j
  have hcpB : ∀ (W : World), (∀ x, W.cell? x = (W1.setCells w.heap.size (i * 2) ns).cell? x) → (∀ x, W.frozen? x = (W1.setCells w.heap.size (i * 2) ns).frozen? x) → ∀ ty dc sc, (Builtin.copy_ #[22, 22] ty #[.slice (some ⟨w.heap.size, (i + m) * 2, none⟩) (n + m - (i + m)) dc, .slice (some ⟨g, i * 2, none⟩) (n - i) sc]).run Try.prog W = .ok (goInt (Nat.min (n - i) (n + m - (i + m)))) (W.setCells w.heap.size ((i + m) * 2) D) := fun W hWc hWf ty dc sc =>
    run_copy_row W _ _ ty 59 2 w.heap.size _ _ dc ⟨g, i * 2, none⟩ _ sc D Try.underlying22 sz59 (by rw [hDl]; simp only [Nat.min_def]; split <;> omega)
      (fun j v hj => by
        have hjl := (List.getElem?_eq_some_iff.1 hj).1
        rw [Addr.add_lit, hWc, hOg2, row_cell hg, hxr _ (by omega), ← hj, hD, List.getElem?_drop])
      (fun j hj => by rw [hWc, row_cell hg2, Array.getElem?_eq_getElem (by simp only [List.size_toArray, hl2]; omega)]; rfl) (fun j hj => by rw [hWf]; exact row_free hg2 _) hD1
  have hfit2 : (i + m) * 2 + D.length ≤ (splice ROW.toList (i * 2) ns).toArray.size := by rw [hDl, List.size_toArray, hl2]; omega
  have FIN : ∀ W3 : World, W3.heap = ((W1.setCells w.heap.size (i * 2) ns).setCells w.heap.size ((i + m) * 2) D).heap → W3.os = w.os → W3.tape = w.tape → W3.output = w.output →
      Hid (W3.ownsRow B 59 2 (.slice (some ⟨w.heap.size, 0, none⟩) (n + m) G) (n + m) (xs.take (i * 2) ++ ns ++ xs.drop (i * 2)) ∧ w.grownBy W3 (Value.slice (some ⟨g, 0, none⟩) n c).ownBlock) := by
    intro W3 h3 e1 e2 e3
    have hg3 := setCells_heap D ((i + m) * 2) _ _ hg2 hfit2
    rw [← h3] at hg3
    have hgr3 := (setCells_grown w.heap.size ns (i * 2) W1)
    have hgr4 := (setCells_grown w.heap.size D ((i + m) * 2) (W1.setCells w.heap.size (i * 2) ns))
    refine ⟨owns_mk hB0 hg3 hGn hG63' ?_ ?_, e1, e2, e3, ?_, ?_⟩
    · rw [List.size_toArray, splice_len (by simpa using hfit2), List.toList_toArray, hl2]
    · show (splice (splice ROW.toList (i * 2) ns) ((i + m) * 2) D).take ((n + m) * 2) = _
      rw [splice_take (by rw [hl2, hDl]; omega) (by rw [hDl]; omega), splice_take (by simpa using hfit1) (by rw [hnl]; omega), hRt, hD]
    · rw [h3]; exact Nat.le_trans hgr1.size (Nat.le_trans hgr3.size hgr4.size)
    · intro k hk hn
      rw [h3, hgr4.block k (Nat.lt_of_lt_of_le hk (Nat.le_trans hgr1.size hgr3.size)) (by simp; omega), hgr3.block k (Nat.lt_of_lt_of_le hk hgr1.size) (by simp; omega), hgr1.block k hk hn]
  have FIN' := Lib.hid FIN
  have hos : W1.os = w.os ∧ W1.tape = w.tape ∧ W1.output = w.output := by rw [hW1]; exact ⟨rfl, rfl, rfl⟩
  subst hW1
  have hE1 : ∀ x, ((w.alloc (.cells ROW 59)).drew).cell? x = (w.drew.alloc (.cells ROW 59)).cell? x := fun x => rfl
  have hE2 : ∀ x, ((w.alloc (.cells ROW 59)).drew).frozen? x = (w.drew.alloc (.cells ROW 59)).frozen? x := fun x => rfl
  have hF1 : ∀ x, (((w.alloc (.cells ROW 59)).drew.setCells w.heap.size (i * 2) ns).drew).cell? x = ((w.drew.alloc (.cells ROW 59)).setCells w.heap.size (i * 2) ns).cell? x := fun x => rfl
  have hF2 : ∀ x, (((w.alloc (.cells ROW 59)).drew.setCells w.heap.size (i * 2) ns).drew).frozen? x = ((w.drew.alloc (.cells ROW 59)).setCells w.heap.size (i * 2) ns).frozen? x := fun x => rfl
  have hw1 : IntKind.i64.wrap ((i : Int) + (m : Int)) = (i : Int) + (m : Int) := by rw [IntKind.wrap_i64]; omega
  have hb1 : (0 : Int) ≤ (i : Int) + (m : Int) := by omega
  have hin' : i ≤ n := by omega
  have htn : ((i : Int) + (m : Int)).toNat = i + m := by omega
  have hb3 : (i : Int) ≤ (n : Int) := by omega
  have hGi : ¬ (G = i) := by omega
  have hGim : ¬ (G = i + m) := by omega
  have hci : ¬ (c = i) := by omega
  clear FIN hkk hik hold hROW hG hRl hRt hg1 hgr1 hOg hOv hg2 hl2 hOg2 hfit1 hfit2 hos hxr hD hDl hD1 hg hcs htk hxl ho h1x hv hvt hnl h1n hcvl hvb hz0 hzs hzb hi0 hzc
  go_enter Try.func34, Try.ntmps34
  go_wp2_with (first
    | (at_builtin; refine Lib.wpList_append_run _ rfl _ _ _ _ rfl _ _ rfl rfl _ _ (hrz _) ?_)
    | (at_builtin; refine wpList_copy_runI _ rfl _ _ 22 22 rfl _ _ rfl rfl (hcpA _ hE1 hE2 _ _) ?_)
    | (at_builtin; refine wpList_copy_runI _ rfl _ _ 22 22 rfl _ _ rfl rfl (hcpB _ (fun _ => rfl) (fun _ => rfl) _ _ _) ?_))
  go_region_law (refine step_copy_runI rfl _ _ 22 22 rfl (.slice (some ⟨w.heap.size, (i + m) * 2, none⟩) (n + m - (i + m)) (G - (i + m))) (.slice (some ⟨g, i * 2, none⟩) (n - i) (c - i)) (by simp [Act.eval, Act.put]) (by simp [Act.eval, Act.put]) (hcpB _ hF1 hF2 3 (G - (i + m)) (c - i)) ?_)
  go_wp2
  go_ret
  obtain ⟨h1, h2⟩ := (FIN'.out ((((w.alloc (.cells ROW 59)).drew.setCells w.heap.size (i * 2) ns).drew).setCells w.heap.size ((i + m) * 2) D) (by rw [← drew_setCells]; rfl) ((setCells_grown _ D _ _).os.trans (setCells_grown _ ns _ _).os) ((setCells_grown _ D _ _).tape.trans (setCells_grown _ ns _ _).tape) ((setCells_grown _ D _ _).output.trans (setCells_grown _ ns _ _).output)).out
  exact ⟨_, G, rfl, h1, h2, fun q h => .inr (Nat.le_of_eq (Option.some.inj h))⟩

/-- slices.Insert (func 34). -/
theorem insertOb_any (B : Nat) (A : Option Addr) (n c m i vb vc : Nat) (cv : Array Value) (xs ns : List Value) (w : World) (ho : w.ownsRow B 59 2 (.slice A n c) n xs) (h1x : ∀ u ∈ xs, u.oneCell' = true) (hB0 : B ≤ w.heap.size) (hm : 0 < m) (hbig : (n + m) * 40 ≤ 140737488355328)
    (hv : w.heap[vb]? = some (.cells cv 59 (0, 0))) (hvt : cv.toList.take (m * 2) = ns) (hnl : ns.length = m * 2) (h1n : ∀ u ∈ ns, u.oneCell' = true) (hvb : (Value.slice A n c).ownBlock ≠ some vb) (hin : i ≤ n) :
    Calls Try.prog 34 #[.slice A n c, .int .i64 i, .slice (some ⟨vb, 0, none⟩) m vc] w fun e w' => ∃ A' c', e = .returned (.slice A' (n + m) c') ∧ w'.ownsRow B 59 2 (.slice A' (n + m) c') (n + m) (xs.take (i * 2) ++ ns ++ xs.drop (i * 2)) ∧ w.grownBy w' (Value.slice A n c).ownBlock ∧ Lies w (Value.slice A n c) (.slice A' (n + m) c') := by
  by_cases h : i < n
  · by_cases hr : n + m ≤ c
    · exact insertOb_room B A n c m i vb vc cv xs ns w ho h1x hB0 hm hbig hv hvt hnl h1n hvb h hr
    · exact insertOb_grow B A n c m i vb vc cv xs ns w ho h1x hB0 hm hbig hv hvt hnl h1n hvb h (by omega)
  · obtain rfl : i = n := by omega
    have hxl : xs.length = i * 2 := ho.1
    rw [List.take_of_length_le (by omega), List.drop_eq_nil_of_le (by omega), List.append_nil]
    exact insertOb_end B A i c m vb vc cv xs ns w ho h1x hB0 hm hbig hv hvt hnl h1n hvb
end Go.Proofs.Ytnnmppnbkplamaa
