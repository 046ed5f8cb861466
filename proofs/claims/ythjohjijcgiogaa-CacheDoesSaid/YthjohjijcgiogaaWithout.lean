/- The document's without: chunks without one, and that one. -/
import Derived.Test.YthjohjijcgiogaaPlain
import Derived.Test.YthjohjijcgiogaaCln
import Derived.Test.YthjohjijcgiogaaInp
import Derived.Test.YthjohjijcgiogaaStr
import Derived.BigRegion
import Derived.Outline
namespace Go.Proofs.Ythjohjijcgiogaa
open Go.RowKit

def zeroHd : Hd := ⟨⟨#[]⟩, 0, none, 0, 0, []⟩
theorem zeroHd_in (w : World) : Hd.In w zeroHd := ⟨Sl.nil _ _, by decide, by decide, by decide⟩

/-- What without leaves. -/
def WithoutRes (w : World) (l : List Hd) (name : ByteArray) (no : Int) (e : Ending) (w' : World) : Prop :=
  ∃ A' n' c' x m, e = .returned (.tuple #[.slice A' n' c', .agg #[.string x.name, .int .i64 x.no, .slice x.A x.n x.c], .bool m]) ∧ Own hdK 37 w' w.heap.size A' n' c' (l.filter fun x => !isK name no x.val) ∧ Below w.heap.size w w' ∧
    ((m = false ∧ x = zeroHd ∧ ∀ y ∈ l, isK name no y.val = false) ∨ (m = true ∧ x ∈ l ∧ isK name no x.val = true))

set_option maxHeartbeats 4000000 in
set_option maxRecDepth 100000 in
theorem without_any (A : Option Addr) (n c : Nat) (l : List Hd) (name : ByteArray) (no : Int) (w : World) (hl : Hds w A n c l) (hn : n ≤ 60000) :
    Calls Try.prog 41 #[.slice A n c, .string name, .int .i64 no] w (WithoutRes w l name no) := by
  have HL := Lib.hid hl.len
  have hmax := hl.max
  have hcap := hl.cap
  have H := Lib.hid hl
  clear hl
  obtain ⟨i0, hi, hz0, hz1, hz2⟩ := info_parts inf37
  have B0 := Lib.hid (below_from (below_alloc1 (w.alloc (.cells #[.string ⟨#[]⟩, .int .i64 0, .slice none 0 0] 37)) (.cells #[.string ⟨#[]⟩, .int .i64 0, .slice none 0 0] 37)) (below_alloc1 w _) (by simp))
  have N7 := Lib.hid ((Has.newAt w #[.string ⟨#[]⟩, .int .i64 0, .slice none 0 0] 37 (g := w.heap.size) rfl).alloc (.cells #[.string ⟨#[]⟩, .int .i64 0, .slice none 0 0] 37))
  have N10 := Lib.hid (Has.newAt (w.alloc (.cells #[.string ⟨#[]⟩, .int .i64 0, .slice none 0 0] 37)) #[.string ⟨#[]⟩, .int .i64 0, .slice none 0 0] 37 (g := w.heap.size + 1) (by simp))
  go_enter Try.func41, Try.ntmps41
  go_wp2_with fail
  go_loopg [9, 11, 16] n (fun gg s9 s11 s16 wr => ∃ (k : Nat) (A' : Option Addr) (n' c' : Nat) (x : Hd) (m : Bool), k ≤ n ∧ n - k ≤ gg ∧ n' ≤ k ∧ s9 = .slice A' n' c' ∧ s11 = .bool m ∧ s16 = .int .i64 k ∧ Hid (Own hdK 37 wr (w.heap.size + 2) A' n' c' ((l.take k).filter fun x => !isK name no x.val)) ∧
    Hid (Has wr w.heap.size #[.string ⟨#[]⟩, .int .i64 0, .slice none 0 0]) ∧ Hid (Has wr (w.heap.size + 1) #[.string x.name, .int .i64 x.no, .slice x.A x.n x.c]) ∧ Hid (Below w.heap.size w wr) ∧ w.heap.size + 2 ≤ wr.heap.size ∧
    Hid ((m = false ∧ x = zeroHd ∧ ∀ y ∈ l.take k, isK name no y.val = false) ∨ (m = true ∧ x ∈ l ∧ isK name no x.val = true)))
  case atStart => exact ⟨0, none, 0, 0, zeroHd, false, Nat.zero_le _, by omega, by omega, rfl, rfl, rfl, ⟨rfl, World.ownsRow_nil _ _ _ _, by simp⟩, N7, N10, B0, by simp, .inl ⟨rfl, rfl, by simp⟩⟩
  case round =>
    obtain ⟨k, A', n', c', x, m, hk, hgg, hnk, rfl, rfl, rfl, hO, h7, h10, hb, hz, hm⟩ := hrel
    clear N7 N10 B0
    by_cases hlt : k < n
    · obtain ⟨b, off, hkl, rfl, hbl, x0, x1, x2⟩ := Hds.at_ (H.out.below hb.out) hlt
      have ft : (l.take (k + 1)).filter (fun x => !isK name no x.val) = (l.take k).filter (fun x => !isK name no x.val) ++ if isK name no l[k].val then [] else [l[k]] := by
        rw [List.take_succ_eq_append_getElem hkl, List.filter_append]
        cases hq : isK name no l[k].val <;> simp [hq]
      have FT := Lib.hid ft
      have MEM := Lib.hid (show l[k] ∈ l from List.getElem_mem hkl)
      have TK := Lib.hid (List.take_succ_eq_append_getElem hkl)
      have HI := Lib.hid ((H.out.each l[k] (List.getElem_mem hkl)).sl.len)
      have HE := Lib.hid (H.out.each l[k] (List.getElem_mem hkl))
      clear ft
      generalize l[k] = y at *
      have B1 := Lib.hid (hb.out.alloc hb.out.size (.cells #[.string y.name, .int .i64 y.no, .slice y.A y.n y.c] 37))
      have h7' := Lib.hid (h7.out.alloc (.cells #[.string y.name, .int .i64 y.no, .slice y.A y.n y.c] 37))
      have h10' := Lib.hid (h10.out.alloc (.cells #[.string y.name, .int .i64 y.no, .slice y.A y.n y.c] 37))
      have O1 := Lib.hid (hO.out.kept (below_alloc1 wr (.cells #[.string y.name, .int .i64 y.no, .slice y.A y.n y.c] 37)))
      have c7 := h7'.out.cell
      have l7 := h7'.out.lt
      have c10 := h10'.out.cell
      have f10 := h10'.out.free
      have l10 := h10'.out.lt
      obtain ⟨yn, yo, yA, yN, yC, yb⟩ := y
      simp only at x0 x1 x2 c7 l7 c10 f10 l10
      by_cases h1 : yn = name
      · by_cases h2 : yo = no
        · subst h1 h2
          have hy : isK yn yo (Hd.val ⟨yn, yo, yA, yN, yC, yb⟩) = true := by simp [isK, Hd.val]
          have FT2 := Lib.hid (show (l.take (k + 1)).filter (fun x => !isK yn yo x.val) = (l.take k).filter (fun x => !isK yn yo x.val) by rw [FT.out, hy]; simp)
          have HY := Lib.hid hy
          clear hy FT
          go_wp2_with fail
          go_roundg (n - (k + 1))
          case measure => omega
          case rel =>
            have gs := setCells_grown (w.heap.size + 1) [.string yn, .int .i64 yo, .slice yA yN yC] 0 (wr.alloc (.cells #[.string yn, .int .i64 yo, .slice yA yN yC] 37))
            have bs : Below w.heap.size w ((wr.alloc (.cells #[.string yn, .int .i64 yo, .slice yA yN yC] 37)).setCells (w.heap.size + 1) 0 [.string yn, .int .i64 yo, .slice yA yN yC]) := B1.out.grown gs B1.out.size (fun q hq => by injection hq; omega)
            refine ⟨k + 1, A', n', c', ⟨yn, yo, yA, yN, yC, yb⟩, true, by omega, by omega, by omega, rfl, rfl, by go_num, ?_, h7'.out.grown gs (by omega), h10'.out.set [.string yn, .int .i64 yo, .slice yA yN yC] rfl, bs, by simp; omega, .inr ⟨rfl, MEM.out, HY.out⟩⟩
            rw [FT2.out]
            exact O1.out.grown gs (by omega) (fun a ha => hdK.below (H.out.each a (List.mem_of_mem_take (List.mem_filter.1 ha).1)) bs)
        · subst h1
          have hy : isK yn no (Hd.val ⟨yn, yo, yA, yN, yC, yb⟩) = false := by simp [isK, Hd.val, h2]
          have FT2 := Lib.hid (show (l.take (k + 1)).filter (fun x => !isK yn no x.val) = (l.take k).filter (fun x => !isK yn no x.val) ++ [⟨yn, yo, yA, yN, yC, yb⟩] by rw [FT.out, hy]; simp)
          have HY := Lib.hid hy
          clear hy FT c7 l7 c10 f10 l10
          have X1 := Lib.hid (Has.newAt (wr.alloc (.cells #[.string yn, .int .i64 yo, .slice yA yN yC] 37)) #[.string yn, .int .i64 yo, .slice yA yN yC] 37 (g := wr.heap.size + 1) (by simp))
          have q2 := Lib.hid (Has.news (cs := [.string yn, .int .i64 yo, .slice yA yN yC]) X1.out)
          have q3 := Lib.hid (hdK.one ⟨yn, yo, yA, yN, yC, yb⟩)
          have q4 : n' + 1 ≤ maxLen := by unfold maxLen; omega
          have q5 : (n' + 1) * 48 ≤ 140737488355328 := by omega
          have q6 := Lib.hid (show w.heap.size + 2 ≤ ((wr.alloc (.cells #[.string yn, .int .i64 yo, .slice yA yN yC] 37)).alloc (.cells #[.string yn, .int .i64 yo, .slice yA yN yC] 37)).heap.size by simp; omega)
          go_wp2_with (at_builtin; refine wpList_append_own _ rfl _ _ 22 rfl (w.heap.size + 2) 37 i0 _ 3 48 Try.underlying22 hi hz0 hz1 hz2 rfl (by decide) _ _ _ rfl (O1.out.2.1.alloc _) ⟨wr.heap.size + 1, 0, none⟩ 1 1 [.string yn, .int .i64 yo, .slice yA yN yC] rfl rfl q2.out q3.out q4 q5 q6.out ?_)
          intro v' w5 hown hgrow hnil
          obtain ⟨A5, c5, rfl⟩ := owns_form hown
          have bA : Below (w.heap.size + 2) ((wr.alloc (.cells #[.string yn, .int .i64 yo, .slice yA yN yC] 37)).alloc (.cells #[.string yn, .int .i64 yo, .slice yA yN yC] 37)) w5 := grown_below hgrow q6.out (fun q hq => (O1.out.2.1.lt q hq).1)
          have B5 := Lib.hid ((B1.out.alloc B1.out.size (.cells #[.string yn, .int .i64 yo, .slice yA yN yC] 37)).trans (bA.mono (by omega)))
          have H7 := Lib.hid ((h7'.out.alloc (.cells #[.string yn, .int .i64 yo, .slice yA yN yC] 37)).below bA (by omega))
          have H10 := Lib.hid ((h10'.out.alloc (.cells #[.string yn, .int .i64 yo, .slice yA yN yC] 37)).below bA (by omega))
          have S5 := bA.size
          simp at S5
          have HOW := Lib.hid hown
          clear hown hgrow hnil bA
          go_wp2_with fail
          go_roundg (n - (k + 1))
          case measure => omega
          case rel =>
            refine ⟨k + 1, A5, n' + 1, c5, x, m, by omega, by omega, by omega, rfl, rfl, by go_num, ?_, H7, H10, B5, by omega, ?_⟩
            · rw [FT2.out]
              refine ⟨by rw [List.length_append, O1.out.1]; rfl, by rw [List.flatMap_append]; exact HOW.out, fun a ha => hdK.below (H.out.each a ?_) B5.out⟩
              rcases List.mem_append.1 ha with ha | ha
              · exact List.mem_of_mem_take (List.mem_filter.1 ha).1
              · rw [List.mem_singleton.1 ha]; exact MEM.out
            · rcases hm.out with ⟨h1, h2, h3⟩ | h
              · refine .inl ⟨h1, h2, fun y hy => ?_⟩
                rw [TK.out] at hy
                rcases List.mem_append.1 hy with hy | hy
                · exact h3 y hy
                · rw [List.mem_singleton.1 hy]; exact HY.out
              · exact .inr h
      · have hy : isK name no (Hd.val ⟨yn, yo, yA, yN, yC, yb⟩) = false := by simp [isK, Hd.val, h1]
        have FT2 := Lib.hid (show (l.take (k + 1)).filter (fun x => !isK name no x.val) = (l.take k).filter (fun x => !isK name no x.val) ++ [⟨yn, yo, yA, yN, yC, yb⟩] by rw [FT.out, hy]; simp)
        have HY := Lib.hid hy
        have ne := str_ne h1
        clear hy FT c7 l7 c10 f10 l10
        have X1 := Lib.hid (Has.newAt (wr.alloc (.cells #[.string yn, .int .i64 yo, .slice yA yN yC] 37)) #[.string yn, .int .i64 yo, .slice yA yN yC] 37 (g := wr.heap.size + 1) (by simp))
        have q2 := Lib.hid (Has.news (cs := [.string yn, .int .i64 yo, .slice yA yN yC]) X1.out)
        have q3 := Lib.hid (hdK.one ⟨yn, yo, yA, yN, yC, yb⟩)
        have q4 : n' + 1 ≤ maxLen := by unfold maxLen; omega
        have q5 : (n' + 1) * 48 ≤ 140737488355328 := by omega
        have q6 := Lib.hid (show w.heap.size + 2 ≤ ((wr.alloc (.cells #[.string yn, .int .i64 yo, .slice yA yN yC] 37)).alloc (.cells #[.string yn, .int .i64 yo, .slice yA yN yC] 37)).heap.size by simp; omega)
        go_wp2_with (at_builtin; refine wpList_append_own _ rfl _ _ 22 rfl (w.heap.size + 2) 37 i0 _ 3 48 Try.underlying22 hi hz0 hz1 hz2 rfl (by decide) _ _ _ rfl (O1.out.2.1.alloc _) ⟨wr.heap.size + 1, 0, none⟩ 1 1 [.string yn, .int .i64 yo, .slice yA yN yC] rfl rfl q2.out q3.out q4 q5 q6.out ?_)
        intro v' w5 hown hgrow hnil
        obtain ⟨A5, c5, rfl⟩ := owns_form hown
        have bA : Below (w.heap.size + 2) ((wr.alloc (.cells #[.string yn, .int .i64 yo, .slice yA yN yC] 37)).alloc (.cells #[.string yn, .int .i64 yo, .slice yA yN yC] 37)) w5 := grown_below hgrow q6.out (fun q hq => (O1.out.2.1.lt q hq).1)
        have B5 := Lib.hid ((B1.out.alloc B1.out.size (.cells #[.string yn, .int .i64 yo, .slice yA yN yC] 37)).trans (bA.mono (by omega)))
        have H7 := Lib.hid ((h7'.out.alloc (.cells #[.string yn, .int .i64 yo, .slice yA yN yC] 37)).below bA (by omega))
        have H10 := Lib.hid ((h10'.out.alloc (.cells #[.string yn, .int .i64 yo, .slice yA yN yC] 37)).below bA (by omega))
        have S5 := bA.size
        simp at S5
        have HOW := Lib.hid hown
        clear hown hgrow hnil bA
        go_wp2_with fail
        go_roundg (n - (k + 1))
        case measure => omega
        case rel =>
          refine ⟨k + 1, A5, n' + 1, c5, x, m, by omega, by omega, by omega, rfl, rfl, by go_num, ?_, H7, H10, B5, by omega, ?_⟩
          · rw [FT2.out]
            refine ⟨by rw [List.length_append, O1.out.1]; rfl, by rw [List.flatMap_append]; exact HOW.out, fun a ha => hdK.below (H.out.each a ?_) B5.out⟩
            rcases List.mem_append.1 ha with ha | ha
            · exact List.mem_of_mem_take (List.mem_filter.1 ha).1
            · rw [List.mem_singleton.1 ha]; exact MEM.out
          · rcases hm.out with ⟨h1, h2, h3⟩ | h
            · refine .inl ⟨h1, h2, fun y hy => ?_⟩
              rw [TK.out] at hy
              rcases List.mem_append.1 hy with hy | hy
              · exact h3 y hy
              · rw [List.mem_singleton.1 hy]; exact HY.out
            · exact .inr h
    · obtain rfl : k = n := by omega
      have c7 := h7.out.cell
      have f7 := h7.out.free
      have l7 := h7.out.lt
      have c10 := h10.out.cell
      have l10 := h10.out.lt
      go_wp2_with fail
      go_region
      go_wp2_with fail
      have gs := setCells_grown w.heap.size [.string x.name, .int .i64 x.no, .slice x.A x.n x.c] 0 wr.drew
      have bs : Below w.heap.size w (wr.drew.setCells w.heap.size 0 [.string x.name, .int .i64 x.no, .slice x.A x.n x.c]) := hb.out.drew.grown gs hb.out.size (fun q hq => by injection hq; omega)
      refine bodyPost_ret (v := .tuple #[.slice A' n' c', .agg #[.string x.name, .int .i64 x.no, .slice x.A x.n x.c], .bool m]) (by simp [results, Try.results41, go_sem, c7]) rfl ⟨A', n', c', x, m, rfl, ?_, bs, ?_⟩
      · have e : l.take k = l := List.take_of_length_le (by rw [HL.out]; exact Nat.le_refl _)
        have hO' := hO.out
        rw [e] at hO'
        have hOd : Own hdK 37 wr.drew (w.heap.size + 2) A' n' c' _ := hO'.kept ((Below.refl _ _).drew)
        exact (hOd.grown gs (by omega) (fun a ha => hdK.below (H.out.each a (List.mem_filter.1 ha).1) bs)).base (by omega)
      · rcases hm.out with ⟨h1, h2, h3⟩ | h
        · exact .inl ⟨h1, h2, fun y hy => h3 y (by rw [List.take_of_length_le (by rw [HL.out]; exact Nat.le_refl _)]; exact hy)⟩
        · exact .inr h

end Go.Proofs.Ythjohjijcgiogaa
