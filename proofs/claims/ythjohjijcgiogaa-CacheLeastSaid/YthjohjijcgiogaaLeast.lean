/- CacheLeast of layer 16: the walk. -/
import Derived.Test.YthjohjijcgiogaaLeastP
namespace Go.Proofs.Ythjohjijcgiogaa
open Go.RowKit

set_option maxHeartbeats 4000000 in
set_option maxRecDepth 100000 in
/-- Where the Put fails, or the bytes are too many. -/
theorem least_out (cap : Int) (A : Option Addr) (n c : Nat) (l : List Hd) (name : ByteArray) (no : Int) (A' : Option Addr) (n' c' : Nat) (bs : List UInt8) (w : World) (hl : Hds w A n c l) (hbs : Sl u8K w A' n' c' bs)
    (hnm : name.size ≤ maxLen) (hno : (Lit.int .i64 no).wf = true) (ho : fewC (l.map Hd.val) = false ∨ 5000 < n' ∨ putE cap (l.map Hd.val) name no = 1 ∨ putE cap (l.map Hd.val) name no = 0 ∧ cap < n') :
    Calls Try.prog 4 #[.agg #[.int .i64 cap, .slice A n c], .string name, .int .i64 no, .slice A' n' c'] w fun e w' => e = .returned (.bool true) ∧ Below w.heap.size w w' := by
  have B0 := Lib.hid (below_alloc1 w (.cells #[.int .i64 cap, .slice A n c] 24))
  have N2 := Lib.hid (Has.newAt w #[.int .i64 cap, .slice A n c] 24 (g := w.heap.size) rfl)
  have FW := Lib.hid (fun w' (hb : Below w.heap.size w w') => few_any cap A n c l w' (hl.below hb))
  cases hf : fewC (l.map Hd.val) with
  | false =>
    rw [hf] at FW
    clear hl hf hbs ho
    go_enter Try.func4, Try.ntmps4
    go_wp2_with (first | (go_at_call 11; refine (live_any _).mono ?_; rintro e w1 ⟨rfl, hb1⟩; have HB1 := Lib.hid (below_from hb1 B0.out B0.out.size); have M2 := Lib.hid (N2.out.past hb1); have c2 := M2.out.cell; have m2 := M2.out.lt; clear hb1) | (go_at_call 12; refine (FW.out _ HB1.out).mono ?_; rintro e w2 ⟨rfl, hb2⟩; have HB2 := Lib.hid (below_from hb2 HB1.out HB1.out.size); have M3 := Lib.hid (M2.out.past hb2); clear hb2 c2 m2; have c3 := M3.out.cell; have m3 := M3.out.lt))
    go_ret
    exact ⟨rfl, HB2.out⟩
  | true =>
    rw [hf] at FW
    by_cases h5 : 5000 < n'
    · clear hl hf hbs ho
      go_enter Try.func4, Try.ntmps4
      go_wp2_with (first | (go_at_call 11; refine (live_any _).mono ?_; rintro e w1 ⟨rfl, hb1⟩; have HB1 := Lib.hid (below_from hb1 B0.out B0.out.size); have M2 := Lib.hid (N2.out.past hb1); have c2 := M2.out.cell; have m2 := M2.out.lt; clear hb1) | (go_at_call 12; refine (FW.out _ HB1.out).mono ?_; rintro e w2 ⟨rfl, hb2⟩; have HB2 := Lib.hid (below_from hb2 HB1.out HB1.out.size); have M3 := Lib.hid (M2.out.past hb2); clear hb2 c2 m2; have c3 := M3.out.cell; have m3 := M3.out.lt))
      go_ret
      exact ⟨rfl, HB2.out⟩
    · have hn := (few_le hl hf).1
      have PT := Lib.hid (fun w' (hb : Below w.heap.size w w') => put_any cap A n c l name no A' n' c' bs w' (hl.below hb) (by omega) (hbs.below hb) hnm hno)
      rw [hf] at ho
      replace ho : putE cap (l.map Hd.val) name no = 1 ∨ putE cap (l.map Hd.val) name no = 0 ∧ cap < n' := by
        rcases ho with h | h | h
        · cases h
        · omega
        · exact h
      rcases ho with hp | ⟨hp, hb⟩
      · rw [hp, show putCap cap (l.map Hd.val) name no = 0 from if_neg (by omega)] at PT
        clear hl hbs hf hp
        go_enter Try.func4, Try.ntmps4
        go_wp2_with (first | (go_at_call 11; refine (live_any _).mono ?_; rintro e w1 ⟨rfl, hb1⟩; have HB1 := Lib.hid (below_from hb1 B0.out B0.out.size); have M2 := Lib.hid (N2.out.past hb1); have c2 := M2.out.cell; have m2 := M2.out.lt; clear hb1) | (go_at_call 12; refine (FW.out _ HB1.out).mono ?_; rintro e w2 ⟨rfl, hb2⟩; have HB2 := Lib.hid (below_from hb2 HB1.out HB1.out.size); have M3 := Lib.hid (M2.out.past hb2); clear hb2 c2 m2; have c3 := M3.out.cell; have m3 := M3.out.lt) | (go_at_call 20; refine (PT.out _ HB2.out).mono ?_; intro e w3 hx; obtain ⟨A1, n1, c1, l1, rfl, hh1, hv1, hb3, _⟩ := hx; clear c3 m3; have HB3 := Lib.hid (below_from hb3 HB2.out HB2.out.size); have M4 := Lib.hid ((M3.out.past hb3).alloc (.cells #[.int .i64 0, .slice A1 n1 c1] 24)); have X4 := Lib.hid (Has.newAt w3 #[.int .i64 0, .slice A1 n1 c1] 24 (g := w3.heap.size) rfl); have HB4 := Lib.hid (HB3.out.alloc HB3.out.size (.cells #[.int .i64 0, .slice A1 n1 c1] 24)); have H4 := Lib.hid (hh1.alloc (.cells #[.int .i64 0, .slice A1 n1 c1] 24)); have V1 := Lib.hid hv1; have c4 := M4.out.cell; have m4 := M4.out.lt; have x4 := X4.out.cell; have xm4 := X4.out.lt; clear hh1 hv1 hb3))
        go_ret
        exact ⟨ret_bool (by rfl), HB4.out⟩
      · rw [hp, show putCap cap (l.map Hd.val) name no = cap from if_pos hp] at PT
        clear hl hbs hf hp
        go_enter Try.func4, Try.ntmps4
        go_wp2_with (first | (go_at_call 11; refine (live_any _).mono ?_; rintro e w1 ⟨rfl, hb1⟩; have HB1 := Lib.hid (below_from hb1 B0.out B0.out.size); have M2 := Lib.hid (N2.out.past hb1); have c2 := M2.out.cell; have m2 := M2.out.lt; clear hb1) | (go_at_call 12; refine (FW.out _ HB1.out).mono ?_; rintro e w2 ⟨rfl, hb2⟩; have HB2 := Lib.hid (below_from hb2 HB1.out HB1.out.size); have M3 := Lib.hid (M2.out.past hb2); clear hb2 c2 m2; have c3 := M3.out.cell; have m3 := M3.out.lt) | (go_at_call 20; refine (PT.out _ HB2.out).mono ?_; intro e w3 hx; obtain ⟨A1, n1, c1, l1, rfl, hh1, hv1, hb3, _⟩ := hx; clear c3 m3; have HB3 := Lib.hid (below_from hb3 HB2.out HB2.out.size); have M4 := Lib.hid ((M3.out.past hb3).alloc (.cells #[.int .i64 cap, .slice A1 n1 c1] 24)); have X4 := Lib.hid (Has.newAt w3 #[.int .i64 cap, .slice A1 n1 c1] 24 (g := w3.heap.size) rfl); have HB4 := Lib.hid (HB3.out.alloc HB3.out.size (.cells #[.int .i64 cap, .slice A1 n1 c1] 24)); have H4 := Lib.hid (hh1.alloc (.cells #[.int .i64 cap, .slice A1 n1 c1] 24)); have V1 := Lib.hid hv1; have c4 := M4.out.cell; have m4 := M4.out.lt; have x4 := X4.out.cell; have xm4 := X4.out.lt; clear hh1 hv1 hb3))
        go_ret
        exact ⟨ret_bool (by rfl), HB4.out⟩

set_option maxHeartbeats 4000000 in
set_option maxRecDepth 100000 in
theorem least_in (cap : Int) (A : Option Addr) (n c : Nat) (l : List Hd) (name : ByteArray) (no : Int) (A' : Option Addr) (n' c' : Nat) (bs : List UInt8) (w : World) (hl : Hds w A n c l) (hbs : Sl u8K w A' n' c' bs)
    (hnm : name.size ≤ maxLen) (hno : (Lit.int .i64 no).wf = true) (hf : fewC (l.map Hd.val) = true) (h5 : ¬ 5000 < n') (hp : putE cap (l.map Hd.val) name no = 0) (hb : ¬ cap < n') :
    Calls Try.prog 4 #[.agg #[.int .i64 cap, .slice A n c], .string name, .int .i64 no, .slice A' n' c'] w fun e w' => e = .returned (.bool true) ∧ Below w.heap.size w w' := by
  have B0 := Lib.hid (below_alloc1 w (.cells #[.int .i64 cap, .slice A n c] 24))
  have N2 := Lib.hid (Has.newAt w #[.int .i64 cap, .slice A n c] 24 (g := w.heap.size) rfl)
  have FW := Lib.hid (fun w' (hb : Below w.heap.size w w') => few_any cap A n c l w' (hl.below hb))
  rw [hf] at FW
  have hn := (few_le hl hf).1
  have PT := Lib.hid (fun w' (hb : Below w.heap.size w w') => put_any cap A n c l name no A' n' c' bs w' (hl.below hb) (by omega) (hbs.below hb) hnm hno)
  rw [hp, show putCap cap (l.map Hd.val) name no = cap from if_pos hp] at PT
  have hlen := hbs.len
  obtain ⟨m, hm, hpl, hmore⟩ := least_vals (b := bs) hp (by rw [hlen]; exact hb)
  have PL := Lib.hid hpl
  have HP := Lib.hid hp
  have MORE := Lib.hid hmore
  have hd : (dropC name no (l.map Hd.val)).length ≤ n := by
    have := (drop_sub name no (l.map Hd.val)).length_le
    rw [List.length_map, hl.len] at this
    exact this
  have HL := Lib.hid hl
  have hcapn := hl.cap
  have hmaxn := hl.max
  clear hl hbs hf hp hpl hmore
  obtain ⟨i0, hi, hz0, hz1, hz2⟩ := info_parts inf37
  have hi' := Lib.hid (And.intro hi (And.intro hz0 (And.intro hz1 hz2)))
  clear hi hz0 hz1 hz2
  go_enter Try.func4, Try.ntmps4
  go_wp2_with (first | (go_at_call 11; refine (live_any _).mono ?_; rintro e w1 ⟨rfl, hb1⟩; have HB1 := Lib.hid (below_from hb1 B0.out B0.out.size); have M2 := Lib.hid (N2.out.past hb1); have c2 := M2.out.cell; have m2 := M2.out.lt; clear hb1) | (go_at_call 12; refine (FW.out _ HB1.out).mono ?_; rintro e w2 ⟨rfl, hb2⟩; have HB2 := Lib.hid (below_from hb2 HB1.out HB1.out.size); have M3 := Lib.hid (M2.out.past hb2); clear hb2 c2 m2; have c3 := M3.out.cell; have m3 := M3.out.lt) | (go_at_call 20; refine (PT.out _ HB2.out).mono ?_; intro e w3 hx; obtain ⟨A1, n1, c1, l1, rfl, hh1, hv1, hb3, _⟩ := hx; clear c3 m3; have HB3 := Lib.hid (below_from hb3 HB2.out HB2.out.size); have M4 := Lib.hid ((M3.out.past hb3).alloc (.cells #[.int .i64 cap, .slice A1 n1 c1] 24)); have X4 := Lib.hid (Has.newAt w3 #[.int .i64 cap, .slice A1 n1 c1] 24 (g := w3.heap.size) rfl); have HB4 := Lib.hid (HB3.out.alloc HB3.out.size (.cells #[.int .i64 cap, .slice A1 n1 c1] 24)); have H4 := Lib.hid (hh1.alloc (.cells #[.int .i64 cap, .slice A1 n1 c1] 24)); have V1 := Lib.hid hv1; obtain ⟨m', rfl, b1, off1, rfl, _⟩ := first_of H4.out (V1.out.trans PL.out); have nz1 : ((m' : Int) + 1 == 0) = false := (by rw [beq_eq_false_iff_ne]; omega); have c4 := M4.out.cell; have m4 := M4.out.lt; have x4 := X4.out.cell; have xm4 := X4.out.lt; clear hh1 hv1 hb3))
  obtain rfl : m' = m := by
    have h1 := H4.out.len
    have h2 := V1.out.trans PL.out
    have h3 := congrArg List.length h2
    simp at h3
    omega
  obtain ⟨W, hW⟩ : ∃ W, W = w3.alloc (.cells #[.int .i64 cap, .slice (some ⟨b1, off1, none⟩) (m' + 1) c1] 24) := ⟨_, rfl⟩
  rw [← hW] at HB4 M4 X4 H4 ⊢
  clear hW c4 m4 x4 xm4 nz1
  have OLD : Hid (∀ W', Below W.heap.size W W' → Below w.heap.size w W') := fun W' hb => below_from hb HB4.out HB4.out.size
  obtain ⟨hi, hz0, hz1, hz2⟩ := hi'.out
  go_loopg [11, 60] n (fun gg s11 s60 wr => ∃ (k : Nat) (A5 : Option Addr) (n5 c5 : Nat), k ≤ n ∧ n - k ≤ gg ∧ n5 ≤ k ∧ s11 = .slice A5 n5 c5 ∧ s60 = .int .i64 k ∧ Hid (Own hdK 37 wr W.heap.size A5 n5 c5 ((l.take k).filter fun x => !isK name no x.val)) ∧ Hid (Below W.heap.size W wr))
  case atStart => exact ⟨0, none, 0, 0, Nat.zero_le _, by omega, by omega, rfl, rfl, ⟨rfl, World.ownsRow_nil _ _ _ _, by simp⟩, Below.refl _ _⟩
  case round =>
    obtain ⟨k, A5, n5, c5, hk, hgg, hnk, rfl, rfl, hO, hb⟩ := hrel
    by_cases hlt : k < n
    · obtain ⟨b, off, hkl, rfl, hbl, x0, x1, x2⟩ := Hds.at_ (HL.out.below (OLD.out _ hb.out)) hlt
      have ft : (l.take (k + 1)).filter (fun x => !isK name no x.val) = (l.take k).filter (fun x => !isK name no x.val) ++ if isK name no l[k].val then [] else [l[k]] := by
        rw [List.take_succ_eq_append_getElem hkl, List.filter_append]
        cases hq : isK name no l[k].val <;> simp [hq]
      have FT := Lib.hid ft
      have MEM := Lib.hid (show l[k] ∈ l from List.getElem_mem hkl)
      clear ft
      generalize l[k] = y at *
      have B1 := Lib.hid (hb.out.alloc hb.out.size (.cells #[.string y.name, .int .i64 y.no, .slice y.A y.n y.c] 37))
      have O1 := Lib.hid (hO.out.kept (below_alloc1 wr (.cells #[.string y.name, .int .i64 y.no, .slice y.A y.n y.c] 37)))
      have cc := ((M4.out.past hb.out).alloc (.cells #[.string y.name, .int .i64 y.no, .slice y.A y.n y.c] 37)).cell
      have ll := ((M4.out.past hb.out).alloc (.cells #[.string y.name, .int .i64 y.no, .slice y.A y.n y.c] 37)).lt
      obtain ⟨yn, yo, yA, yN, yC, yb⟩ := y
      simp only at x0 x1 x2 cc ll
      by_cases h1 : yn = name
      · by_cases h2 : yo = no
        · subst h1 h2
          have hy : isK yn yo (Hd.val ⟨yn, yo, yA, yN, yC, yb⟩) = true := by simp [isK, Hd.val]
          have FT2 := Lib.hid (show (l.take (k + 1)).filter (fun x => !isK yn yo x.val) = (l.take k).filter (fun x => !isK yn yo x.val) by rw [FT.out, hy]; simp)
          clear hy FT
          go_wp2_with fail
          go_roundg (n - (k + 1))
          case measure => omega
          case rel => exact ⟨k + 1, A5, n5, c5, by omega, by omega, by omega, rfl, by go_num, by rw [FT2.out]; exact O1.out, B1⟩
        · subst h1
          have hy : isK yn no (Hd.val ⟨yn, yo, yA, yN, yC, yb⟩) = false := by simp [isK, Hd.val, h2]
          have FT2 := Lib.hid (show (l.take (k + 1)).filter (fun x => !isK yn no x.val) = (l.take k).filter (fun x => !isK yn no x.val) ++ [⟨yn, yo, yA, yN, yC, yb⟩] by rw [FT.out, hy]; simp)
          clear hy
          clear FT cc ll
          have X1 := Lib.hid (Has.newAt (wr.alloc (.cells #[.string yn, .int .i64 yo, .slice yA yN yC] 37)) #[.string yn, .int .i64 yo, .slice yA yN yC] 37 (g := wr.heap.size + 1) (by simp))
          have q2 := Lib.hid (Has.news (cs := [.string yn, .int .i64 yo, .slice yA yN yC]) X1.out)
          have q3 := Lib.hid (hdK.one ⟨yn, yo, yA, yN, yC, yb⟩)
          have q4 : n5 + 1 ≤ maxLen := by unfold maxLen; omega
          have q5 : (n5 + 1) * 48 ≤ 140737488355328 := by omega
          have zw := hb.out.size
          have q6 := Lib.hid (show W.heap.size ≤ ((wr.alloc (.cells #[.string yn, .int .i64 yo, .slice yA yN yC] 37)).alloc (.cells #[.string yn, .int .i64 yo, .slice yA yN yC] 37)).heap.size by simp; omega)
          go_wp2_with (at_builtin; refine wpList_append_own _ rfl _ _ 22 rfl W.heap.size 37 i0 _ 3 48 Try.underlying22 hi hz0 hz1 hz2 rfl (by decide) _ _ _ rfl (O1.out.2.1.alloc _) ⟨wr.heap.size + 1, 0, none⟩ 1 1 [.string yn, .int .i64 yo, .slice yA yN yC] rfl rfl q2.out q3.out q4 q5 q6.out ?_)
          intro v' w5 hown hgrow hnil
          obtain ⟨A6, c6, rfl⟩ := owns_form hown
          have bA : Below W.heap.size ((wr.alloc (.cells #[.string yn, .int .i64 yo, .slice yA yN yC] 37)).alloc (.cells #[.string yn, .int .i64 yo, .slice yA yN yC] 37)) w5 := grown_below hgrow q6.out (fun q hq => (O1.out.2.1.lt q hq).1)
          have B5 := Lib.hid (((hb.out.alloc (by omega) (.cells #[.string yn, .int .i64 yo, .slice yA yN yC] 37)).alloc (by simp; omega) (.cells #[.string yn, .int .i64 yo, .slice yA yN yC] 37)).trans bA)
          have HOW := Lib.hid hown
          clear hown hgrow hnil bA
          go_wp2_with fail
          go_roundg (n - (k + 1))
          case measure => omega
          case rel =>
            refine ⟨k + 1, A6, n5 + 1, c6, by omega, by omega, by omega, rfl, by go_num, ?_, B5⟩
            rw [FT2.out]
            refine ⟨by rw [List.length_append, O1.out.1]; rfl, by rw [List.flatMap_append]; exact HOW.out, fun a ha => hdK.below (HL.out.each a ?_) (OLD.out _ B5.out)⟩
            rcases List.mem_append.1 ha with ha | ha
            · exact List.mem_of_mem_take (List.mem_filter.1 ha).1
            · rw [List.mem_singleton.1 ha]; exact MEM.out
      · have hy : isK name no (Hd.val ⟨yn, yo, yA, yN, yC, yb⟩) = false := by simp [isK, Hd.val, h1]
        have FT2 := Lib.hid (show (l.take (k + 1)).filter (fun x => !isK name no x.val) = (l.take k).filter (fun x => !isK name no x.val) ++ [⟨yn, yo, yA, yN, yC, yb⟩] by rw [FT.out, hy]; simp)
        have ne := str_ne h1
        clear hy
        clear FT cc ll
        have X1 := Lib.hid (Has.newAt (wr.alloc (.cells #[.string yn, .int .i64 yo, .slice yA yN yC] 37)) #[.string yn, .int .i64 yo, .slice yA yN yC] 37 (g := wr.heap.size + 1) (by simp))
        have q2 := Lib.hid (Has.news (cs := [.string yn, .int .i64 yo, .slice yA yN yC]) X1.out)
        have q3 := Lib.hid (hdK.one ⟨yn, yo, yA, yN, yC, yb⟩)
        have q4 : n5 + 1 ≤ maxLen := by unfold maxLen; omega
        have q5 : (n5 + 1) * 48 ≤ 140737488355328 := by omega
        have zw := hb.out.size
        have q6 := Lib.hid (show W.heap.size ≤ ((wr.alloc (.cells #[.string yn, .int .i64 yo, .slice yA yN yC] 37)).alloc (.cells #[.string yn, .int .i64 yo, .slice yA yN yC] 37)).heap.size by simp; omega)
        go_wp2_with (at_builtin; refine wpList_append_own _ rfl _ _ 22 rfl W.heap.size 37 i0 _ 3 48 Try.underlying22 hi hz0 hz1 hz2 rfl (by decide) _ _ _ rfl (O1.out.2.1.alloc _) ⟨wr.heap.size + 1, 0, none⟩ 1 1 [.string yn, .int .i64 yo, .slice yA yN yC] rfl rfl q2.out q3.out q4 q5 q6.out ?_)
        intro v' w5 hown hgrow hnil
        obtain ⟨A6, c6, rfl⟩ := owns_form hown
        have bA : Below W.heap.size ((wr.alloc (.cells #[.string yn, .int .i64 yo, .slice yA yN yC] 37)).alloc (.cells #[.string yn, .int .i64 yo, .slice yA yN yC] 37)) w5 := grown_below hgrow q6.out (fun q hq => (O1.out.2.1.lt q hq).1)
        have B5 := Lib.hid (((hb.out.alloc (by omega) (.cells #[.string yn, .int .i64 yo, .slice yA yN yC] 37)).alloc (by simp; omega) (.cells #[.string yn, .int .i64 yo, .slice yA yN yC] 37)).trans bA)
        have HOW := Lib.hid hown
        clear hown hgrow hnil bA
        go_wp2_with fail
        go_roundg (n - (k + 1))
        case measure => omega
        case rel =>
          refine ⟨k + 1, A6, n5 + 1, c6, by omega, by omega, by omega, rfl, by go_num, ?_, B5⟩
          rw [FT2.out]
          refine ⟨by rw [List.length_append, O1.out.1]; rfl, by rw [List.flatMap_append]; exact HOW.out, fun a ha => hdK.below (HL.out.each a ?_) (OLD.out _ B5.out)⟩
          rcases List.mem_append.1 ha with ha | ha
          · exact List.mem_of_mem_take (List.mem_filter.1 ha).1
          · rw [List.mem_singleton.1 ha]; exact MEM.out
    · obtain rfl : k = n := by omega
      have M5 := Lib.hid (M4.out.past hb.out)
      have X5 := Lib.hid (X4.out.past hb.out)
      have c5' := M5.out.cell
      have m5 := M5.out.lt
      have x5 := X5.out.cell
      have xm5 := X5.out.lt
      have hcap1 := H4.out.cap
      have hmax1 := H4.out.max
      have hO' := hO.out
      rw [List.take_of_length_le (show l.length ≤ k by rw [HL.out.len]; exact Nat.le_refl _)] at hO'
      have FV : (l.filter fun x => !isK name no x.val).map Hd.val = dropC name no (l.map Hd.val) := by unfold dropC; rw [List.filter_map]; rfl
      have FM : ∀ a ∈ (l.filter fun x => !isK name no x.val), a ∈ l := fun a ha => (List.mem_filter.1 ha).1
      generalize (l.filter fun x => !isK name no x.val) = F at hO' FV FM
      have HF := Lib.hid hO'
      have n5F : F.length = n5 := hO'.1
      have n5D : (dropC name no (l.map Hd.val)).length = n5 := by rw [← FV, List.length_map]; exact n5F
      have hm5 : m' ≤ n5 := by omega
      have LR : (l1.drop 1).map Hd.val = (F.take m').map Hd.val := by rw [List.map_drop, List.map_take, FV, V1.out, PL.out]; rfl
      have SMF : ∀ (R : Option Addr) (cr : Nat), Hds wr R m' cr (l1.drop 1) → Calls Try.prog 19 #[.agg #[.int .i64 0, .slice R m' cr], .agg #[.int .i64 0, .slice A5 m' c5]] wr fun e w' => e = .returned (.bool true) ∧ Below wr.heap.size wr w' := by
        intro R cr hR
        have := same_any 0 R m' cr _ 0 A5 m' c5 _ wr hR (hO'.sl.take m' hm5)
        rwa [same_true rfl LR] at this
      have cap5 := hO'.sl.cap
      have max5 := hO'.sl.max
      have l1n := H4.out.len
      have PUTOK := Lib.hid (put_check (b := bs) HP.out)
      have usz := Lib.hid (show usedC cap (putL cap (l.map Hd.val) name no bs) = (sz (putL cap (l.map Hd.val) name no bs) : Int) from if_pos PUTOK.out.1)
      obtain ⟨g1, g2, g3, g4⟩ := good_of_check PUTOK.out.1
      have HG := Lib.hid (And.intro g2 (And.intro g3 g4))
      have HH := Lib.hid (H4.out.below hb.out)
      clear g1 g2 g3 g4 M4 X4 hO' hO
      by_cases hc1 : c1 = 1
      · subst hc1
        obtain rfl : m' = 0 := by omega
        have SM := Lib.hid (SMF (some ⟨b1, off1, none⟩) 0 ⟨by rw [List.length_drop]; omega, by omega, by omega, (fun h => by cases h), by rw [List.drop_eq_nil_of_le (by omega)]; exact Row.nil _ _, by rw [List.drop_eq_nil_of_le (by omega)]; simp⟩)
        have HFV := Lib.hid FV; clear SMF LR FV
        rcases Nat.lt_or_ge 0 n5 with hlt5 | hge5
        · obtain ⟨b5, off5, hkl, e5, hb5, _, _, y2⟩ := Hds.at_ HF.out.sl hlt5
          subst e5
          simp only [Nat.zero_mul, Nat.add_zero] at y2
          have HZ := Lib.hid (HL.out.each F[0] (FM _ (List.getElem_mem hkl)))
          have hmz := MORE.out (by omega)
          have ez : (dropC name no (l.map Hd.val))[0]'(by omega) = F[0].val := by have q := HFV.out; simp [← q]
          rw [ez] at hmz
          replace hmz : cap < (sz (putL cap (l.map Hd.val) name no bs) : Int) + (F[0].bs.length : Int) := hmz
          have hzl := HZ.out.sl.len
          rw [hzl] at hmz
          have hzm := HZ.out.max
          clear ez hzl
          generalize F[0] = z at *
          obtain ⟨g2, g3, g4⟩ := HG.out
          generalize sz (putL cap (l.map Hd.val) name no bs) = T at *
          have wrp : IntKind.i64.wrap ((T : Int) + (z.n : Int)) = (T : Int) + (z.n : Int) := IntWalk.i64_in _ (by omega)
          have dk : decide (cap < (T : Int) + (z.n : Int)) = true := decide_eq_true hmz
          have dn : ((0 : Int) == (n5 : Int)) = false := by rw [beq_eq_false_iff_ne]; omega
          have dn2 : decide ((0 : Int) = (n5 : Int)) = false := decide_eq_false (by omega)
          have HMZ := Lib.hid hmz
          clear g2 g3 g4 hmz
          go_wp2_with ((go_at_call 19; refine SM.out.mono ?_; rintro e w6 ⟨rfl, hb6⟩; have HB6 := Lib.hid hb6; clear hb6))
          have r40 := at_regrown (a := ⟨w.heap.size, 0, none⟩) (v := .int .i64 cap) ((M5.out.past HB6.out).cell 0)
          have r90 := at_regrown (a := ⟨w3.heap.size, 0, none⟩) (v := .int .i64 cap) ((X5.out.past HB6.out).cell 0)
          have r91 := at_regrown (a := ⟨w3.heap.size, 1, none⟩) (v := .slice (some ⟨b1, off1, none⟩) (0 + 1) 1) ((X5.out.past HB6.out).cell 1)
          have rz := at_regrown (a := ⟨b5, off5 + 2, none⟩) (v := .slice z.A z.n z.c) ((HB6.out.cell (p := ⟨b5, off5 + 2, none⟩) hb5).trans y2)
          have US := Lib.hid (fun w' (hb' : Below w6.heap.size w6 w') => by
            have := used_any cap (some ⟨b1, off1, none⟩) (0 + 1) 1 l1 w' ((H4.out.below hb.out).below (below_from hb' HB6.out HB6.out.size)) (by omega)
            rw [V1.out, usz.out] at this
            exact this)
          clear c5' m5 x5 xm5
          go_wp2_with fail
          refine region_below (by kernel_rfl) (by kernel_rfl) ?_
          repeat (go_big_quiet_step ((go_at_call 17; exact call_regrown US.out)))
          refine wpQuiet_nil ?_
          intro w7 hb7
          have HB7 := Lib.hid (below_from hb7 (below_from HB6.out (OLD.out _ hb.out) (OLD.out _ hb.out).size) (below_from HB6.out (OLD.out _ hb.out) (OLD.out _ hb.out).size).size)
          clear hb7
          go_wp2_with fail
          go_ret
          exact ⟨ret_bool (by first | rfl | simp), HB7.out⟩
        · obtain rfl : 0 = n5 := by omega
          go_wp2_with ((go_at_call 19; refine SM.out.mono ?_; rintro e w6 ⟨rfl, hb6⟩; have HB6 := Lib.hid hb6; clear hb6))
          have r40 := at_regrown (a := ⟨w.heap.size, 0, none⟩) (v := .int .i64 cap) ((M5.out.past HB6.out).cell 0)
          have r90 := at_regrown (a := ⟨w3.heap.size, 0, none⟩) (v := .int .i64 cap) ((X5.out.past HB6.out).cell 0)
          have r91 := at_regrown (a := ⟨w3.heap.size, 1, none⟩) (v := .slice (some ⟨b1, off1, none⟩) (0 + 1) 1) ((X5.out.past HB6.out).cell 1)
          clear c5' m5 x5 xm5
          go_wp2_with fail
          refine region_below (by kernel_rfl) (by kernel_rfl) ?_
          repeat (go_big_quiet_step (fail))
          refine wpQuiet_nil ?_
          intro w7 hb7
          have HB7 := Lib.hid (below_from hb7 (below_from HB6.out (OLD.out _ hb.out) (OLD.out _ hb.out).size) (below_from HB6.out (OLD.out _ hb.out) (OLD.out _ hb.out).size).size)
          clear hb7
          go_wp2_with fail
          go_ret
          exact ⟨ret_bool (by first | rfl | simp), HB7.out⟩
      · have SMd := SMF (some ⟨b1, off1 + 1 * 3, none⟩) (c1 - 1) (HH.out.drop 1 (by omega))
        have SM := Lib.hid SMd
        have HFV := Lib.hid FV; clear SMd SMF LR FV
        rcases Nat.lt_or_ge m' n5 with hlt5 | hge5
        · obtain ⟨b5, off5, hkl, e5, hb5, _, _, y2⟩ := Hds.at_ HF.out.sl hlt5
          subst e5
          have HZ := Lib.hid (HL.out.each F[m'] (FM _ (List.getElem_mem hkl)))
          have hmz := MORE.out (by omega)
          have ez : (dropC name no (l.map Hd.val))[m']'(by omega) = F[m'].val := by have q := HFV.out; simp [← q]
          rw [ez] at hmz
          replace hmz : cap < (sz (putL cap (l.map Hd.val) name no bs) : Int) + (F[m'].bs.length : Int) := hmz
          have hzl := HZ.out.sl.len
          rw [hzl] at hmz
          have hzm := HZ.out.max
          clear ez hzl
          generalize F[m'] = z at *
          obtain ⟨g2, g3, g4⟩ := HG.out
          generalize sz (putL cap (l.map Hd.val) name no bs) = T at *
          have wrp : IntKind.i64.wrap ((T : Int) + (z.n : Int)) = (T : Int) + (z.n : Int) := IntWalk.i64_in _ (by omega)
          have dk : decide (cap < (T : Int) + (z.n : Int)) = true := decide_eq_true hmz
          have dn : ((m' : Int) == (n5 : Int)) = false := by rw [beq_eq_false_iff_ne]; omega
          have dn2 : decide ((m' : Int) = (n5 : Int)) = false := decide_eq_false (by omega)
          have HMZ := Lib.hid hmz
          clear g2 g3 g4 hmz
          go_wp2_with ((go_at_call 19; refine SM.out.mono ?_; rintro e w6 ⟨rfl, hb6⟩; have HB6 := Lib.hid hb6; clear hb6))
          have r40 := at_regrown (a := ⟨w.heap.size, 0, none⟩) (v := .int .i64 cap) ((M5.out.past HB6.out).cell 0)
          have r90 := at_regrown (a := ⟨w3.heap.size, 0, none⟩) (v := .int .i64 cap) ((X5.out.past HB6.out).cell 0)
          have r91 := at_regrown (a := ⟨w3.heap.size, 1, none⟩) (v := .slice (some ⟨b1, off1, none⟩) (m' + 1) c1) ((X5.out.past HB6.out).cell 1)
          have rz := at_regrown (a := ⟨b5, off5 + m' * 3 + 2, none⟩) (v := .slice z.A z.n z.c) ((HB6.out.cell (p := ⟨b5, off5 + m' * 3 + 2, none⟩) hb5).trans y2)
          have US := Lib.hid (fun w' (hb' : Below w6.heap.size w6 w') => by
            have := used_any cap (some ⟨b1, off1, none⟩) (m' + 1) c1 l1 w' ((H4.out.below hb.out).below (below_from hb' HB6.out HB6.out.size)) (by omega)
            rw [V1.out, usz.out] at this
            exact this)
          clear c5' m5 x5 xm5
          go_wp2_with fail
          refine region_below (by kernel_rfl) (by kernel_rfl) ?_
          repeat (go_big_quiet_step ((go_at_call 17; exact call_regrown US.out)))
          refine wpQuiet_nil ?_
          intro w7 hb7
          have HB7 := Lib.hid (below_from hb7 (below_from HB6.out (OLD.out _ hb.out) (OLD.out _ hb.out).size) (below_from HB6.out (OLD.out _ hb.out) (OLD.out _ hb.out).size).size)
          clear hb7
          go_wp2_with fail
          go_ret
          exact ⟨ret_bool (by first | rfl | simp), HB7.out⟩
        · obtain rfl : m' = n5 := by omega
          go_wp2_with ((go_at_call 19; refine SM.out.mono ?_; rintro e w6 ⟨rfl, hb6⟩; have HB6 := Lib.hid hb6; clear hb6))
          have r40 := at_regrown (a := ⟨w.heap.size, 0, none⟩) (v := .int .i64 cap) ((M5.out.past HB6.out).cell 0)
          have r90 := at_regrown (a := ⟨w3.heap.size, 0, none⟩) (v := .int .i64 cap) ((X5.out.past HB6.out).cell 0)
          have r91 := at_regrown (a := ⟨w3.heap.size, 1, none⟩) (v := .slice (some ⟨b1, off1, none⟩) (m' + 1) c1) ((X5.out.past HB6.out).cell 1)
          clear c5' m5 x5 xm5
          go_wp2_with fail
          refine region_below (by kernel_rfl) (by kernel_rfl) ?_
          repeat (go_big_quiet_step (fail))
          refine wpQuiet_nil ?_
          intro w7 hb7
          have HB7 := Lib.hid (below_from hb7 (below_from HB6.out (OLD.out _ hb.out) (OLD.out _ hb.out).size) (below_from HB6.out (OLD.out _ hb.out) (OLD.out _ hb.out).size).size)
          clear hb7
          go_wp2_with fail
          go_ret
          exact ⟨ret_bool (by first | rfl | simp), HB7.out⟩

theorem least_any (cap : Int) (A : Option Addr) (n c : Nat) (l : List Hd) (name : ByteArray) (no : Int) (A' : Option Addr) (n' c' : Nat) (bs : List UInt8) (w : World) (hl : Hds w A n c l) (hbs : Sl u8K w A' n' c' bs)
    (hnm : name.size ≤ maxLen) (hno : (Lit.int .i64 no).wf = true) :
    Calls Try.prog 4 #[.agg #[.int .i64 cap, .slice A n c], .string name, .int .i64 no, .slice A' n' c'] w fun e w' => e = .returned (.bool true) ∧ Below w.heap.size w w' := by
  cases hf : fewC (l.map Hd.val) with
  | false => exact least_out cap A n c l name no A' n' c' bs w hl hbs hnm hno (.inl hf)
  | true =>
    by_cases h5 : 5000 < n'
    · exact least_out cap A n c l name no A' n' c' bs w hl hbs hnm hno (.inr (.inl h5))
    · rcases putE_two cap (l.map Hd.val) name no with hp | hp
      · by_cases hb : cap < n'
        · exact least_out cap A n c l name no A' n' c' bs w hl hbs hnm hno (.inr (.inr (.inr ⟨hp, hb⟩)))
        · exact least_in cap A n c l name no A' n' c' bs w hl hbs hnm hno hf h5 hp hb
      · exact least_out cap A n c l name no A' n' c' bs w hl hbs hnm hno (.inr (.inr (.inl hp)))

end Go.Proofs.Ythjohjijcgiogaa
