/- slices.Insert at objects. -/
import Derived.Test.YtnnmppnbkplamaaDel
import Derived.Shelf.Spec.SlicesInsert
import Derived.Lib.AppendZeros
import Derived.Maps.AppendAt
namespace Go.Proofs.Ytnnmppnbkplamaa
open Go.RowKit


/-- The row v' lies where v lay, or it is new since w. -/
def Lies (w : World) (v v' : Value) : Prop := ∀ q, v'.ownBlock = some q → v.ownBlock = some q ∨ w.heap.size ≤ q
theorem lies_at {w : World} {v v' : Value} (h : v'.ownBlock = v.ownBlock ∨ v'.ownBlock = some w.heap.size) : Lies w v v' := fun q hq => by
  rcases h with h | h
  · exact .inl (h.symm.trans hq)
  · exact .inr (Nat.le_of_eq (Option.some.inj (h.symm.trans hq)))

set_option maxHeartbeats 4000000 in
set_option maxRecDepth 1000000 in
/-- slices.Insert (func 34) at the end. -/
theorem insertOb_end (B : Nat) (A : Option Addr) (n c m vb vc : Nat) (cv : Array Value) (xs ns : List Value) (w : World) (ho : w.ownsRow B 59 2 (.slice A n c) n xs) (_h1x : ∀ u ∈ xs, u.oneCell' = true) (hB0 : B ≤ w.heap.size) (hm : 0 < m) (hbig : (n + m) * 40 ≤ 140737488355328)
    (hv : w.heap[vb]? = some (.cells cv 59 (0, 0))) (hvt : cv.toList.take (m * 2) = ns) (hnl : ns.length = m * 2) (h1n : ∀ u ∈ ns, u.oneCell' = true) (_hvb : (Value.slice A n c).ownBlock ≠ some vb) :
    Calls Try.prog 34 #[.slice A n c, .int .i64 n, .slice (some ⟨vb, 0, none⟩) m vc] w fun e w' => ∃ A' c', e = .returned (.slice A' (n + m) c') ∧ w'.ownsRow B 59 2 (.slice A' (n + m) c') (n + m) (xs ++ ns) ∧ w.grownBy w' (Value.slice A n c).ownBlock ∧ Lies w (Value.slice A n c) (.slice A' (n + m) c') := by
  obtain ⟨i0, hi, hz0, hz1, hz2⟩ := info_parts inf59
  have hmx : n + m ≤ maxLen := by unfold maxLen; omega
  have hz1' : ¬ ((m : Int) = 0) := by omega
  have hnews : ∀ j u, ns[j]? = some u → w.cell? ((⟨vb, 0, none⟩ : Addr).add j) = some u := fun j u hu => by
    rw [Addr.add_lit, Nat.zero_add, row_cell hv, ← hu, ← hvt, List.getElem?_take, if_pos (by have := (List.getElem?_eq_some_iff.1 hu).1; omega)]
    simp
  have hnc : n ≤ c := by
    rcases ho.2 with ⟨e, h0⟩ | ⟨g, cap, cur, e, _, _, h, _⟩
    · omega
    · injection e with _ _ e3; omega
  have HO := Lib.hid ho
  have HN := Lib.hid hnews
  have H1 := Lib.hid h1n
  have HL := Lib.hid hnl
  clear ho hnews h1n hnl hvt hv _h1x _hvb
  have walk : ∀ (X : Option Addr), (X = A) → Calls Try.prog 34 #[.slice X n c, .int .i64 n, .slice (some ⟨vb, 0, none⟩) m vc] w fun e w' => ∃ v', e = .returned v' ∧ w'.ownsRow B 59 2 v' (n + m) (xs ++ ns) ∧ w.grownBy w' (Value.slice A n c).ownBlock ∧ Lies w (Value.slice A n c) v' := by
    rintro X rfl
    rcases X with _ | ⟨ab, ao, asp⟩
    · have h0 : n = 0 ∧ c = 0 := by
        rcases (HO.out).2 with ⟨e, h⟩ | ⟨g, cap, cur, e, _⟩
        · injection e with e1 e2 e3; exact ⟨h, e3⟩
        · injection e with e1 e2 e3; cases e1
      obtain ⟨rfl, rfl⟩ := h0
      go_enter Try.func34, Try.ntmps34
      go_wp2_with (at_builtin; refine wpList_append_own_at _ rfl _ _ 22 rfl B 59 i0 _ 2 40 Try.underlying22 hi hz0 hz1 hz2 rfl (by decide) _ _ _ rfl HO.out ⟨vb, 0, none⟩ m vc ns rfl HL.out HN.out H1.out hmx hbig hB0 ?_)
      intro v' w1 hown hgrow hnil hat
      have HOW := Lib.hid hown
      have HGW := Lib.hid hgrow; have HAT := Lib.hid (show Lies w _ _ from lies_at hat)
      clear hown hgrow hnil hat
      go_wp2
      go_ret
      exact ⟨v', rfl, by simpa using HOW.out, HGW.out, HAT.out⟩
    · have hcm : c ≤ 9223372036854775807 := by
        rcases (HO.out).2 with ⟨e, h⟩ | ⟨g, cap, cur, e, _, _, _, h, _⟩
        · injection e with e1 e2 e3; cases e1
        · injection e with e1 e2 e3; subst e3; simpa [maxLen] using h
      by_cases hcn : c = n
      · subst hcn
        go_enter Try.func34, Try.ntmps34
        go_wp2_with (at_builtin; refine wpList_append_own_at _ rfl _ _ 22 rfl B 59 i0 _ 2 40 Try.underlying22 hi hz0 hz1 hz2 rfl (by decide) _ _ _ rfl HO.out ⟨vb, 0, none⟩ m vc ns rfl HL.out HN.out H1.out hmx hbig hB0 ?_)
        intro v' w1 hown hgrow hnil hat
        have HOW := Lib.hid hown
        have HGW := Lib.hid hgrow; have HAT := Lib.hid (show Lies w _ _ from lies_at hat)
        clear hown hgrow hnil hat
        go_wp2
        go_ret
        exact ⟨v', rfl, HOW.out, HGW.out, HAT.out⟩
      · go_enter Try.func34, Try.ntmps34
        go_wp2_with (at_builtin; refine wpList_append_own_at _ rfl _ _ 22 rfl B 59 i0 _ 2 40 Try.underlying22 hi hz0 hz1 hz2 rfl (by decide) _ _ _ rfl HO.out ⟨vb, 0, none⟩ m vc ns rfl HL.out HN.out H1.out hmx hbig hB0 ?_)
        intro v' w1 hown hgrow hnil hat
        have HOW := Lib.hid hown
        have HGW := Lib.hid hgrow; have HAT := Lib.hid (show Lies w _ _ from lies_at hat)
        clear hown hgrow hnil hat
        go_wp2
        go_ret
        exact ⟨v', rfl, HOW.out, HGW.out, HAT.out⟩
  refine (walk A rfl).mono fun e w' h => ?_
  obtain ⟨v', h1, h2, h3⟩ := h
  obtain ⟨A', c', rfl⟩ := owns_form h2
  exact ⟨A', c', h1, h2, h3⟩

set_option maxHeartbeats 4000000 in
set_option maxRecDepth 1000000 in
/-- slices.Insert (func 34) in the midst, where there is room. -/
theorem insertOb_room (B : Nat) (A : Option Addr) (n c m i vb vc : Nat) (cv : Array Value) (xs ns : List Value) (w : World) (ho : w.ownsRow B 59 2 (.slice A n c) n xs) (h1x : ∀ u ∈ xs, u.oneCell' = true) (_hB0 : B ≤ w.heap.size) (hm : 0 < m) (hbig : (n + m) * 40 ≤ 140737488355328)
    (hv : w.heap[vb]? = some (.cells cv 59 (0, 0))) (hvt : cv.toList.take (m * 2) = ns) (hnl : ns.length = m * 2) (h1n : ∀ u ∈ ns, u.oneCell' = true) (hvb : (Value.slice A n c).ownBlock ≠ some vb) (hin : i < n) (hroom : n + m ≤ c) :
    Calls Try.prog 34 #[.slice A n c, .int .i64 i, .slice (some ⟨vb, 0, none⟩) m vc] w fun e w' => ∃ A' c', e = .returned (.slice A' (n + m) c') ∧ w'.ownsRow B 59 2 (.slice A' (n + m) c') (n + m) (xs.take (i * 2) ++ ns ++ xs.drop (i * 2)) ∧ w.grownBy w' (Value.slice A n c).ownBlock ∧ Lies w (Value.slice A n c) (.slice A' (n + m) c') := by
  obtain ⟨g, cur, rfl, hB, hgl, hg, hnc, hcm, hcs, htk⟩ := owns_open ho (by omega)
  have hxl : xs.length = n * 2 := ho.1
  have hcm' : c ≤ 9223372036854775807 := by simpa [maxLen] using hcm
  have hne : vb ≠ g := fun e => hvb (by rw [e]; rfl)
  have hcvl : m * 2 ≤ cv.size := by
    have := congrArg List.length hvt; rw [List.length_take, hnl, Array.length_toList] at this; omega
  have hov : ∀ lb cb, (callFunc 59 #[.slice (some ⟨vb, 0, none⟩) m vc, .slice (some ⟨g, (i + m) * 2, none⟩) lb cb]).run Try.prog w = .ok (.value (.bool false)) w := fun lb cb => by
    rw [run_callFunc_extern Try.func59 (by kernel_rfl) (by kernel_rfl) (by kernel_rfl) (e := Extern.SlicesOverlaps.overlaps #[22, 22] #[4]) (by kernel_rfl),
      Lib.run_overlaps_apart w 22 4 59 Try.underlying22 2 (fun w => by simp [go_sem]) ⟨vb, 0, none⟩ ⟨g, (i + m) * 2, none⟩ m vc lb cb hne 59 59 cv.size cur.size (by simp [World.shape?, hv]) (by simp [World.shape?, hg]) (by omega) (row_free hv 0) (row_free hv _)]
    rfl
  have hxr : ∀ k, k < n * 2 → cur[k]? = xs[k]? := fun k hk => by rw [← htk, List.getElem?_take, if_pos hk]; simp
  obtain ⟨D, hD⟩ : ∃ D, D = xs.drop (i * 2) := ⟨_, rfl⟩
  have hDl : D.length = (n - i) * 2 := by rw [hD, List.length_drop, hxl]; omega
  have hD1 : ∀ u ∈ D, u.oneCell' = true := fun u hu => h1x u (by rw [hD] at hu; exact List.mem_of_mem_drop hu)
  have hcp1 : ∀ ty dc sc, (Builtin.copy_ #[22, 22] ty #[.slice (some ⟨g, (i + m) * 2, none⟩) (n + m - (i + m)) dc, .slice (some ⟨g, i * 2, none⟩) (n + m - i) sc]).run Try.prog w.drew = .ok (goInt (Nat.min (n + m - i) (n + m - (i + m)))) (w.drew.setCells g ((i + m) * 2) D) := fun ty dc sc =>
    run_copy_row w.drew _ _ ty 59 2 g _ _ dc ⟨g, i * 2, none⟩ _ sc D Try.underlying22 sz59 (by rw [hDl]; simp only [Nat.min_def]; split <;> omega)
      (fun j v hj => by
        have hjl := (List.getElem?_eq_some_iff.1 hj).1
        rw [Addr.add_lit]
        show w.cell? _ = _
        rw [row_cell hg, hxr _ (by omega), ← hj, hD, List.getElem?_drop])
      (fun j hj => by show (w.cell? _).isSome = true; rw [row_cell hg, Array.getElem?_eq_getElem (by omega)]; rfl) (fun j hj => row_free (w := w) hg _) hD1
  obtain ⟨W1, hW1⟩ : ∃ W1, W1 = w.drew.setCells g ((i + m) * 2) D := ⟨_, rfl⟩
  have hfit1 : (i + m) * 2 + D.length ≤ cur.toList.length := by rw [hDl, Array.length_toList]; omega
  have hg1 : W1.heap[g]? = some (.cells (splice cur.toList ((i + m) * 2) D).toArray 59 (0, 0)) := by rw [hW1]; exact setCells_heap D _ w.drew cur hg (by simpa using hfit1)
  have hl1 : (splice cur.toList ((i + m) * 2) D).length = c * 2 := by rw [splice_len hfit1, Array.length_toList, hcs]
  have hgr1 : w.grownBy W1 (some g) := by rw [hW1]; exact grown_trans (grown_drew (grown_refl w (some g))) (setCells_grown g D _ w.drew)
  have hv1 : ∀ j, W1.cell? ⟨vb, j, none⟩ = w.cell? ⟨vb, j, none⟩ := fun j => hgr1.cell_far ⟨vb, j, none⟩ ((Array.getElem?_eq_some_iff.1 hv).1) (by simpa using hne)
  have hcp2 : ∀ (W : World), (∀ x, W.cell? x = W1.cell? x) → (∀ x, W.frozen? x = W1.frozen? x) → ∀ ty dc, (Builtin.copy_ #[22, 22] ty #[.slice (some ⟨g, i * 2, none⟩) (n + m - i) dc, .slice (some ⟨vb, 0, none⟩) m vc]).run Try.prog W = .ok (goInt (Nat.min m (n + m - i))) (W.setCells g (i * 2) ns) := fun W hWc hWf ty dc =>
    run_copy_row W _ _ ty 59 2 g _ _ dc ⟨vb, 0, none⟩ m vc ns Try.underlying22 sz59 (by rw [hnl]; simp only [Nat.min_def]; split <;> omega)
      (fun j v hj => by
        have hjl := (List.getElem?_eq_some_iff.1 hj).1
        rw [Addr.add_lit, hWc, hv1, Nat.zero_add, row_cell hv, ← hj, ← hvt, List.getElem?_take, if_pos (by omega)]
        simp)
      (fun j hj => by rw [hWc, row_cell hg1, Array.getElem?_eq_getElem (by simp only [List.size_toArray, hl1]; omega)]; rfl) (fun j hj => by rw [hWf]; exact row_free hg1 _) h1n
  obtain ⟨W2, hW2⟩ : ∃ W2, W2 = W1.setCells g (i * 2) ns := ⟨_, rfl⟩
  have hfit2 : i * 2 + ns.length ≤ (splice cur.toList ((i + m) * 2) D).toArray.size := by rw [hnl, List.size_toArray, hl1]; omega
  have hg2 := setCells_heap ns (i * 2) W1 _ hg1 hfit2
  have FIN : Hid (∃ A' c', (Value.slice (some ⟨g, 0, none⟩) (n + m) c) = (.slice A' (n + m) c') ∧ W2.ownsRow B 59 2 (.slice A' (n + m) c') (n + m) (xs.take (i * 2) ++ ns ++ xs.drop (i * 2)) ∧ w.grownBy W2 (Value.slice (some ⟨g, 0, none⟩) n c).ownBlock ∧ Lies w (Value.slice (some ⟨g, 0, none⟩) n c) (.slice A' (n + m) c')) := by
    refine ⟨_, c, rfl, ?_, by rw [hW2]; exact grown_trans hgr1 (setCells_grown g _ _ W1), fun q h => .inl h⟩
    rw [← hW2] at hg2
    refine owns_mk hB hg2 hroom hcm ?_ ?_
    · rw [List.size_toArray, splice_len (by simpa using hfit2), List.toList_toArray, hl1]
    · show (splice (splice cur.toList ((i + m) * 2) D) (i * 2) ns).take ((n + m) * 2) = _
      rw [show (i + m) * 2 = i * 2 + m * 2 by omega, show (n + m) * 2 = n * 2 + m * 2 by omega]
      exact splice_gap (by rw [Array.length_toList, hcs]; omega) htk (by omega) hD hnl
  have HW1 : Hid (W1 = w.drew.setCells g ((i + m) * 2) D) := hW1
  rw [← hW1] at hcp1
  have hz1 : ¬ ((m : Int) = 0) := by omega
  have hz2 : ¬ ((i : Int) = (n : Int)) := by omega
  have hw1 : IntKind.i64.wrap ((i : Int) + (m : Int)) = (i : Int) + (m : Int) := by rw [IntKind.wrap_i64]; omega
  have hb1 : (0 : Int) ≤ (i : Int) + (m : Int) := by omega
  have hin' : i ≤ n := by omega
  have htn : ((i : Int) + (m : Int)).toNat = i + m := by omega
  have hb2 : ¬ (c = i + m) := by omega
  have hb3 : (i : Int) ≤ (n : Int) + (m : Int) := by omega
  have hb4 : ¬ (c = i) := by omega
  have HW2 : Hid (W2 = W1.setCells g (i * 2) ns) := hW2
  clear hW1 hW2 hg1 hg2 hgr1 hl1 hfit1 hfit2 hxr hD hDl hD1 hg hcs htk hxl ho h1x hv hvt hnl h1n hcvl hv1 hvb hbig _hB0
  go_enter Try.func34, Try.ntmps34
  go_wp2_with (simp only [hov])
  go_region_law (refine step_copy_runI rfl _ _ 22 22 rfl _ _ (by simp [Act.eval, Act.put]) (by simp [Act.eval, Act.put]) (hcp1 _ _ _) ?_)
  go_wp2_with (at_builtin; refine wpList_copy_runI _ rfl _ _ 22 22 rfl _ _ rfl rfl (hcp2 _ (fun _ => rfl) (fun _ => rfl) _ _) ?_)
  go_ret
  rw [← HW2.out]
  obtain ⟨A', c', h1, h2, h3⟩ := FIN.out
  exact ⟨A', c', by rw [← h1]; rfl, h2, h3⟩
end Go.Proofs.Ytnnmppnbkplamaa
