/- slices.Delete at objects. -/
import Derived.Test.YtnnmppnbkplamaaInp
import Derived.Test.YtnnmppnbkplamaaCln
namespace Go.Proofs.Ytnnmppnbkplamaa
open Go.RowKit


theorem zv59 (w : World) : (zeroValue 59).run Try.prog w = .ok (.agg #[.string ⟨#[]⟩, .slice none 0 0]) w := by simp [go_sem]
theorem sz59 : (Try.prog.info? 59).map (·.size) = some 2 := by kernel_rfl

set_option maxHeartbeats 4000000 in
set_option maxRecDepth 1000000 in
/-- slices.Delete (func 43) on a row of the call's own: what stood from i to j goes. -/
theorem deleteOb (B : Nat) (A : Option Addr) (n c i j : Nat) (xs : List Value) (w : World) (ho : w.ownsRow B 59 2 (.slice A n c) n xs) (h1x : ∀ u ∈ xs, u.oneCell' = true) (hij : i < j) (hj : j ≤ n) :
    Calls Try.prog 43 #[.slice A n c, .int .i64 i, .int .i64 j] w fun e w' => e = .returned (.slice A (n - (j - i)) c) ∧ w'.ownsRow B 59 2 (.slice A (n - (j - i)) c) (n - (j - i)) (xs.take (i * 2) ++ xs.drop (j * 2)) ∧ w.grownBy w' (Value.slice A n c).ownBlock := by
  obtain ⟨g, cur, rfl, hB, hgl, hg, hnc, hcm, hcs, htk⟩ := owns_open ho (by omega)
  have hxl : xs.length = n * 2 := ho.1
  obtain ⟨i0, hi0, hz0, hz1, hz2⟩ := info_parts inf59
  have hcm' : c ≤ 9223372036854775807 := by simpa [maxLen] using hcm
  obtain ⟨news, hnews⟩ : ∃ news, news = xs.drop (j * 2) := ⟨_, rfl⟩
  have hlen : news.length = (n - j) * 2 := by rw [hnews, List.length_drop, hxl]; omega
  have hcur : ∀ k, k < n * 2 → cur[k]? = xs[k]? := fun k hk => by rw [← htk, List.getElem?_take, if_pos hk]; simp
  obtain ⟨AD, hAD, hsrc⟩ : ∃ AD : Addr, (if c = j then (some ⟨g, 0, none⟩ : Option Addr) else some ⟨g, j * 2, none⟩) = some AD ∧ Hid (∀ t u, news[t]? = some u → w.drew.cell? (AD.add t) = some u) := by
    by_cases h : c = j
    · refine ⟨⟨g, 0, none⟩, by simp [h], fun t u hu => ?_⟩
      have h0 : news.length = 0 := by rw [hlen]; omega
      rw [List.length_eq_zero_iff.1 h0] at hu
      simp at hu
    · refine ⟨⟨g, j * 2, none⟩, by simp [h], fun t u hu => ?_⟩
      have ht : t < (n - j) * 2 := by
        have := (List.getElem?_eq_some_iff.1 hu).1
        rwa [hlen] at this
      rw [Addr.add_lit]
      show w.cell? _ = _
      rw [row_cell hg, hcur _ (by omega), ← hu, hnews, List.getElem?_drop]
  have s1 := Lib.hid hlen
  have s2 : Hid (∀ u ∈ news, u.oneCell' = true) := fun u hu => h1x u (by rw [hnews] at hu; exact List.mem_of_mem_drop hu)
  have s3 : Hid (∀ t, t < news.length → (w.drew.cell? ⟨g, 0 + i * 2 + t, none⟩).isSome = true ∧ w.drew.frozen? ⟨g, 0 + i * 2 + t, none⟩ = false) := by
    intro t ht
    rw [hlen] at ht
    refine ⟨?_, row_free (w := w) hg _⟩
    show (w.cell? _).isSome = true
    rw [row_cell hg, Array.getElem?_eq_getElem (by omega)]; rfl
  obtain ⟨W1, hW1⟩ : ∃ W1, W1 = w.drew.setCells g (0 + i * 2) news := ⟨_, rfl⟩
  have hfit : i * 2 + news.length ≤ cur.toList.length := by rw [hlen, Array.length_toList]; omega
  have hg1 : W1.heap[g]? = some (.cells (splice cur.toList (i * 2) news).toArray 59 (0, 0)) := by
    rw [hW1, Nat.zero_add]; exact setCells_heap news _ w.drew cur hg (by simpa using hfit)
  have hgr1 : w.grownBy W1 (some g) := by rw [hW1]; exact grown_trans (grown_drew (grown_refl w (some g))) (setCells_grown g news _ w.drew)
  have hl1 : (splice cur.toList (i * 2) news).length = c * 2 := by rw [splice_len hfit, Array.length_toList, hcs]
  have hcl : ∀ ty, (Builtin.clear_ #[22] ty #[.slice (some ⟨g, (i + (n - j)) * 2, none⟩) (n - (i + (n - j))) (c - (i + (n - j)))]).run Try.prog W1 = .ok (.tuple #[]) (W1.setCells g ((i + (n - j)) * 2) (zrow (.agg #[.string ⟨#[]⟩, .slice none 0 0]) (n - (i + (n - j))))) :=
    fun ty => run_clear_row W1 _ _ ty _ Try.underlying22 zv59 (by decide) g _ _ _ (by omega)
      (fun t ht => by
        have hz : (Value.cells (.agg #[.string ⟨#[]⟩, .slice none 0 0])).size = 2 := rfl
        rw [hz] at ht
        rw [row_cell hg1, Array.getElem?_eq_getElem (by simp only [List.size_toArray, hl1]; omega)]; rfl) (fun t ht => row_free hg1 _)
  obtain ⟨W2, hW2⟩ : ∃ W2, W2 = W1.setCells g ((i + (n - j)) * 2) (zrow (.agg #[.string ⟨#[]⟩, .slice none 0 0]) (n - (i + (n - j)))) := ⟨_, rfl⟩
  have hzl : (zrow (.agg #[.string ⟨#[]⟩, .slice none 0 0]) (n - (i + (n - j)))).length = (n - (i + (n - j))) * 2 := zrow_len _ _
  have hg2 := setCells_heap (zrow (.agg #[.string ⟨#[]⟩, .slice none 0 0]) (n - (i + (n - j)))) ((i + (n - j)) * 2) W1 _ hg1 (by rw [hzl, List.size_toArray, hl1]; omega)
  have hgr2 : w.grownBy W2 (some g) := by rw [hW2]; exact grown_trans hgr1 (setCells_grown g _ _ W1)
  have FIN : Hid (W2.ownsRow B 59 2 (.slice (some ⟨g, 0, none⟩) (n - (j - i)) c) (n - (j - i)) (xs.take (i * 2) ++ xs.drop (j * 2)) ∧ w.grownBy W2 (some g)) := by
    refine ⟨?_, hgr2⟩
    rw [← hW2] at hg2
    refine owns_mk hB hg2 (by omega) hcm ?_ ?_
    · rw [List.size_toArray, splice_len (by simp only [hzl, hl1]; omega), Array.length_toList, List.size_toArray, hl1]
    · simp only
      rw [splice_before (by simp only [hl1]; omega) (by omega), splice_take hfit (by rw [hlen]; omega), hnews]
      congr 1
      rw [← htk, List.take_take, Nat.min_eq_left (by omega)]
  rw [← hW2] at hcl
  have HW1 : Hid (W1 = w.drew.setCells g (0 + i * 2) news) := hW1
  have hic : i ≤ c := by omega
  have hjc : j ≤ c := by omega
  have hin : i ≤ n := by omega
  clear hW1 hW2 hg1 hg2 hgr1 hgr2 hl1 hzl hfit hcur hnews hlen hg hcs htk hxl ho h1x
  go_enter Try.func43, Try.ntmps43
  go_wp2_with fail
  go_region_law (refine step_append_room rfl (.tmp 22) (.tmp 25) 22 rfl 59 i0 2 Try.underlying22 hi0 hz1 g 0 i c (by simp [Act.eval, Act.put]) AD (n - j) (c - j) news (by simp [Act.eval, Act.put]) s1.out hsrc.out s2.out (by omega) s3.out ?_; rw [← HW1.out])
  go_wp2
  go_ret
  exact ⟨by rw [show n - (j - i) = i + (n - j) by omega]; rfl, FIN.out⟩
end Go.Proofs.Ytnnmppnbkplamaa
