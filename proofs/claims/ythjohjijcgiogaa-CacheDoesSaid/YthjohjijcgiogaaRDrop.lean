/- Drop, of the document's answer. -/
import Derived.Test.YthjohjijcgiogaaDrop
import Derived.Test.YthjohjijcgiogaaRPut
namespace Go.Proofs.Ythjohjijcgiogaa
open Go.RowKit

set_option maxHeartbeats 4000000 in
set_option maxRecDepth 100000 in
theorem rdrop_any (cap : Int) (A : Option Addr) (n c : Nat) (l : List Hd) (name : ByteArray) (w : World) (hl : Hds w A n c l) (hn : n ≤ 60000) :
    Calls Try.prog 26 #[.agg #[.int .i64 cap, .slice A n c], .string name] w (CRes l (fun v => v) (capC cap (l.map Hd.val)) (dropL cap (l.map Hd.val) name) w) := by
  obtain ⟨W0, hW0⟩ : ∃ W0, W0 = ((w.alloc (.cells #[.int .i64 cap, .slice A n c] 24)).alloc (.cells #[.int .i64 0, .slice none 0 0] 24)) := ⟨_, rfl⟩
  have hb0 : Below w.heap.size w W0 := by rw [hW0]; exact below_from (below_alloc1 _ _) (below_alloc1 w _) (by simp)
  have N2 := Lib.hid (show Has W0 w.heap.size #[.int .i64 cap, .slice A n c] by rw [hW0]; exact ((Has.newAt w _ 24 rfl).alloc _))
  have N4 := Lib.hid (show Has W0 (w.heap.size + 1) #[.int .i64 0, .slice none 0 0] by rw [hW0]; exact Has.newAt _ _ 24 (by simp))
  have ck := Lib.hid (rcheck_any cap A n c l W0 (hl.below hb0) hn)
  have B0 := Lib.hid hb0
  have HL := Lib.hid hl
  have HLN := Lib.hid hl.len
  have hmax := hl.max
  have hcap := hl.cap
  obtain ⟨i0, hi, hz0, hz1, hz2⟩ := info_parts inf37
  clear hl hb0
  subst hW0
  have z0 := B0.out.size
  unfold capC dropL
  rcases check_cases cap (l.map Hd.val) with h | h
  · rw [h] at ck
    rw [h, if_pos rfl, if_pos rfl]
    clear h
    go_enter Try.func26, Try.ntmps26
    go_wp2_with (go_at_call 16; refine ck.out.mono ?_; rintro e w1 ⟨rfl, hb1⟩; have HB1 := Lib.hid (below_from hb1 B0.out B0.out.size); have M2 := Lib.hid (N2.out.past hb1); have M4 := Lib.hid (N4.out.past hb1); have c2 := M2.out.cell; have l2 := M2.out.lt; have l4 := M4.out.lt; clear hb1)
    have X5 := Lib.hid (Has.newAt w1 #[.int .i64 cap, .slice none 0 0] 24 (g := w1.heap.size) rfl)
    have N4' := Lib.hid (M4.out.alloc (.cells #[.int .i64 cap, .slice none 0 0] 24))
    have B1 := Lib.hid (HB1.out.alloc HB1.out.size (.cells #[.int .i64 cap, .slice none 0 0] 24))
    clear c2
    go_loopg [18] n (fun gg s wr => ∃ (k : Nat) (A5 : Option Addr) (n5 c5 : Nat), k ≤ n ∧ n - k ≤ gg ∧ n5 ≤ k ∧ s = .int .i64 k ∧ w1.heap.size + 1 ≤ wr.heap.size ∧ Hid (Own hdK 37 wr (w1.heap.size + 1) A5 n5 c5 ((l.take k).filter fun x => !decide (x.name = name))) ∧
      Hid (Has wr w1.heap.size #[.int .i64 cap, .slice A5 n5 c5]) ∧ Hid (Has wr (w.heap.size + 1) #[.int .i64 0, .slice none 0 0]) ∧ Hid (Below w.heap.size w wr))
    case atStart => exact ⟨0, none, 0, 0, Nat.zero_le _, by omega, by omega, rfl, by simp, ⟨rfl, World.ownsRow_nil _ _ _ _, by simp⟩, X5, N4', B1⟩
    case round =>
      obtain ⟨k, A5, n5, c5, hk, hgg, hnk, rfl, hz, hO, h5, h4, hb⟩ := hrel
      clear X5 N4' B1
      have d5 := h5.out.cell
      have g5 := h5.out.free
      have e5 := h5.out.lt
      by_cases hlt : k < n
      · obtain ⟨b, off, hkl, rfl, hbl, x0, x1, x2⟩ := Hds.at_ (HL.out.below hb.out) hlt
        have ft : (l.take (k + 1)).filter (fun x => !decide (x.name = name)) = (l.take k).filter (fun x => !decide (x.name = name)) ++ if l[k].name = name then [] else [l[k]] := by
          rw [List.take_succ_eq_append_getElem hkl, List.filter_append]
          by_cases hq : l[k].name = name <;> simp [hq]
        have FT := Lib.hid ft
        have MEM := Lib.hid (show l[k] ∈ l from List.getElem_mem hkl)
        clear ft
        generalize l[k] = y at *
        obtain ⟨yn, yo, yA, yN, yC, yb⟩ := y
        simp only at x0 x1 x2
        have b6 := below_alloc1 wr (.cells #[.string yn, .int .i64 yo, .slice yA yN yC] 37)
        have O6 := Lib.hid (hO.out.kept b6)
        have H5 := Lib.hid (h5.out.past b6)
        have H4 := Lib.hid (h4.out.past b6)
        have B6 := Lib.hid (below_from b6 hb.out hb.out.size)
        clear b6
        by_cases h1 : yn = name
        · subst h1
          have FT2 := Lib.hid (show (l.take (k + 1)).filter (fun x => !decide (x.name = yn)) = (l.take k).filter (fun x => !decide (x.name = yn)) by rw [FT.out]; simp)
          clear FT
          go_wp2_with fail
          go_roundg (n - (k + 1))
          case measure => omega
          case rel => exact ⟨k + 1, A5, n5, c5, by omega, by omega, by omega, by go_num, by simp; omega, by rw [FT2.out]; exact O6.out, H5, H4, B6⟩
        · have FT2 := Lib.hid (show (l.take (k + 1)).filter (fun x => !decide (x.name = name)) = (l.take k).filter (fun x => !decide (x.name = name)) ++ [⟨yn, yo, yA, yN, yC, yb⟩] by rw [FT.out]; simp [h1])
          have ne := str_ne h1
          clear FT
          have X7 := Lib.hid (Has.newAt (wr.alloc (.cells #[.string yn, .int .i64 yo, .slice yA yN yC] 37)) #[.string yn, .int .i64 yo, .slice yA yN yC] 37 (g := wr.heap.size + 1) (by simp))
          have q2 := Lib.hid (Has.news (cs := [.string yn, .int .i64 yo, .slice yA yN yC]) X7.out)
          have q3 := Lib.hid (hdK.one ⟨yn, yo, yA, yN, yC, yb⟩)
          have q4 : n5 + 1 ≤ maxLen := by unfold maxLen; omega
          have q5 : (n5 + 1) * 48 ≤ 140737488355328 := by omega
          have q6 := Lib.hid (show w1.heap.size + 1 ≤ ((wr.alloc (.cells #[.string yn, .int .i64 yo, .slice yA yN yC] 37)).alloc (.cells #[.string yn, .int .i64 yo, .slice yA yN yC] 37)).heap.size by simp; omega)
          have O7 := Lib.hid (O6.out.kept (below_alloc1 _ (.cells #[.string yn, .int .i64 yo, .slice yA yN yC] 37)))
          go_wp2_with (at_builtin; refine wpList_append_own _ rfl _ _ 22 rfl (w1.heap.size + 1) 37 i0 _ 3 48 Try.underlying22 hi hz0 hz1 hz2 rfl (by decide) _ _ _ rfl O7.out.2.1 ⟨wr.heap.size + 1, 0, none⟩ 1 1 [.string yn, .int .i64 yo, .slice yA yN yC] rfl rfl q2.out q3.out q4 q5 q6.out ?_)
          intro v' w8 hown hgrow hnil
          obtain ⟨A6, c6, rfl⟩ := owns_form hown
          have bA : Below (w1.heap.size + 1) ((wr.alloc (.cells #[.string yn, .int .i64 yo, .slice yA yN yC] 37)).alloc (.cells #[.string yn, .int .i64 yo, .slice yA yN yC] 37)) w8 := grown_below hgrow q6.out (fun q hq => (O7.out.2.1.lt q hq).1)
          have B8 := Lib.hid ((B6.out.alloc B6.out.size (.cells #[.string yn, .int .i64 yo, .slice yA yN yC] 37)).trans (bA.mono (by have := HB1.out.size; omega)))
          have K5 := Lib.hid ((H5.out.alloc (.cells #[.string yn, .int .i64 yo, .slice yA yN yC] 37)).below bA (by omega))
          have K4 := Lib.hid ((H4.out.alloc (.cells #[.string yn, .int .i64 yo, .slice yA yN yC] 37)).below bA (by omega))
          have S8 := bA.size
          simp at S8
          have j5 := K5.out.cell
          have jf5 := K5.out.free
          have jl5 := K5.out.lt
          have HOW := Lib.hid hown
          clear hown hgrow hnil bA d5 g5 e5
          go_wp2_with fail
          go_roundg (n - (k + 1))
          case measure => omega
          case rel =>
            have gs := setCells_grown w1.heap.size [.slice A6 (n5 + 1) c6] 1 w8
            have bs : Below w.heap.size w (w8.setCells w1.heap.size 1 [.slice A6 (n5 + 1) c6]) := B8.out.grown gs B8.out.size (fun q hq => by injection hq with hq; have := HB1.out.size; omega)
            refine ⟨k + 1, A6, n5 + 1, c6, by omega, by omega, by omega, by go_num, by rw [setCell_size]; omega, ?_, K5.out.setAt 1 (.slice A6 (n5 + 1) c6) (by simp), K4.out.grown gs (by omega), bs⟩
            rw [FT2.out]
            refine ⟨by rw [List.length_append, hO.out.1]; rfl, ?_, fun a ha => hdK.below (HL.out.each a ?_) bs⟩
            · rw [List.flatMap_append]
              exact HOW.out.kept gs (.inr (fun e => by have := (HOW.out.lt _ e).1; omega))
            · rcases List.mem_append.1 ha with ha | ha
              · exact List.mem_of_mem_take (List.mem_filter.1 ha).1
              · rw [List.mem_singleton.1 ha]; exact MEM.out
      · obtain rfl : k = n := by omega
        have d4 := h4.out.cell
        have g4 := h4.out.free
        have e4 := h4.out.lt
        go_wp2_with fail
        have gs := setCells_grown (w.heap.size + 1) [.int .i64 cap, .slice A5 n5 c5] 0 wr
        have bs : Below w.heap.size w (wr.setCells (w.heap.size + 1) 0 [.int .i64 cap, .slice A5 n5 c5]) := hb.out.grown gs hb.out.size (fun q hq => by injection hq; omega)
        have e : l.take k = l := List.take_of_length_le (by rw [HLN.out]; exact Nat.le_refl _)
        have hO' := hO.out
        rw [e] at hO'
        refine bodyPost_ret (v := .agg #[.int .i64 cap, .slice A5 n5 c5]) (by simp [results, Try.results26, go_sem, d4, e4]) rfl ⟨A5, n5, c5, _, rfl, ?_, drop_vals, bs, fun b off e => by have := (hO.out.lt e).1; have := HB1.out.size; omega, fun a ha => .inl (List.mem_filter.1 ha).1⟩
        exact (hO'.grown gs (by omega) (fun a ha => hdK.below (HL.out.each a (List.mem_filter.1 ha).1) bs)).sl
  · rw [h] at ck
    rw [h, if_neg (by decide), if_neg (by decide)]
    clear h
    go_enter Try.func26, Try.ntmps26
    go_wp2_with (go_at_call 16; refine ck.out.mono ?_; rintro e w1 ⟨rfl, hb1⟩; have HB1 := Lib.hid (below_from hb1 B0.out B0.out.size); have M4 := N4.out.past hb1; have c8 := M4.cell; have f8 := M4.free; have l8 := M4.lt; clear hb1)
    refine bodyPost_ret (v := .agg #[.int .i64 0, .slice none 0 0]) (by simp [results, Try.results26, go_sem, c8, l8]) rfl (CRes.nil rfl ?_)
    have B1 := HB1.out
    repeat (first | with_reducible exact B1 | (refine Below.setCell ?_ (by simp <;> omega) _) | (refine Below.alloc ?_ (by simp <;> omega) _))

end Go.Proofs.Ythjohjijcgiogaa
