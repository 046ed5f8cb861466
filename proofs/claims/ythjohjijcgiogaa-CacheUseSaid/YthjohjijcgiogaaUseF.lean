/- CacheUse of layer 16: the walk: the chunk is there. -/
import Derived.Test.YthjohjijcgiogaaUse1
namespace Go.Proofs.Ythjohjijcgiogaa
open Go.RowKit


set_option maxHeartbeats 8000000 in
set_option maxRecDepth 100000 in
theorem use_found (cap : Int) (A : Option Addr) (n c : Nat) (l : List Hd) (name : ByteArray) (no : Int) (w : World) (hl : Hds w A n c l) (hfew : fewC (l.map Hd.val) = true) (h0c : checkC cap (l.map Hd.val) = 0) (x : Ch) (hx : findC name no (l.map Hd.val) = some x) :
    Calls Try.prog 8 #[.agg #[.int .i64 cap, .slice A n c], .string name, .int .i64 no] w fun e w' => e = .returned (.bool true) ∧ Below w.heap.size w w' := by
  have B0 := Lib.hid (below_alloc1 w (.cells #[.int .i64 cap, .slice A n c] 24))
  have N2 := Lib.hid (Has.newAt w #[.int .i64 cap, .slice A n c] 24 (g := w.heap.size) rfl)
  have FW := Lib.hid (fun w' (hb : Below w.heap.size w w') => few_any cap A n c l w' (hl.below hb))
  rw [hfew] at FW
  have hn := (few_le hl hfew).1
  have CK := Lib.hid (fun w' (hb : Below w.heap.size w w') => check_any cap A n c l w' (hl.below hb) (by omega))
  rw [h0c] at CK
  obtain ⟨s1, s2, s3⟩ := get_same (name := name) (no := no) h0c
  have hk := (List.find?_eq_some_iff_getElem.1 hx).1
  have hk' : x.name = name ∧ x.no = no := by simpa [isK] using hk
  have gl : getL cap (l.map Hd.val) name no = x :: dropC name no (l.map Hd.val) := by unfold getL; rw [if_pos h0c, hx]; rfl
  have go' : getOk cap (l.map Hd.val) name no = true := by unfold getOk; rw [hx, h0c]; rfl
  have GT := Lib.hid (fun w' (hb : Below w.heap.size w w') => get_any cap A n c l name no w' (hl.below hb) (by omega))
  rw [go', show capC cap (l.map Hd.val) = cap from if_pos h0c] at GT
  have US := Lib.hid (fun w' (hb : Below w.heap.size w w') => used_any cap A n c l w' (hl.below hb) (by omega))
  rw [show usedC cap (l.map Hd.val) = (sz (l.map Hd.val) : Int) from if_pos h0c] at US
  have DR := Lib.hid (fun w' (hb : Below w.heap.size w w') => drop_any cap A n c l name w' (hl.below hb) (by omega))
  rw [show capC cap (l.map Hd.val) = cap from if_pos h0c, show dropL cap (l.map Hd.val) name = (l.filter fun x => !decide (x.name = name)).map Hd.val from (if_pos h0c).trans drop_vals.symm] at DR
  have hlen := hl.len
  have hcapn := hl.cap
  have hmaxn := hl.max
  rw [List.length_map, hlen] at s1
  have S1 := Lib.hid s1
  have UX := Lib.hid (show usedC cap (getL cap (l.map Hd.val) name no) = (sz (l.map Hd.val) : Int) from (if_pos s3).trans (by rw [s2]))
  have GL := Lib.hid gl
  have HL := Lib.hid hl
  generalize hT : sz (l.map Hd.val) = T at *
  clear hl hfew h0c s1 s2 s3 gl go' hT
  go_enter Try.func8, Try.ntmps8
  go_wp2_with (first | (go_at_call 11; refine (live_any _).mono ?_; rintro e w1 ⟨rfl, hb1⟩; have HB1 := Lib.hid (below_from hb1 B0.out B0.out.size); have M2 := Lib.hid (N2.out.past hb1); have c2 := M2.out.cell; have m2 := M2.out.lt; clear hb1) | (go_at_call 12; refine (FW.out _ HB1.out).mono ?_; rintro e w2 ⟨rfl, hb2⟩; have HB2 := Lib.hid (below_from hb2 HB1.out HB1.out.size); have M3 := Lib.hid (M2.out.past hb2); clear hb2 c2 m2; have c3 := M3.out.cell; have m3 := M3.out.lt) | (go_at_call 15; refine (CK.out _ HB2.out).mono ?_; rintro e w3 ⟨rfl, hb3⟩; have HB3 := Lib.hid (below_from hb3 HB2.out HB2.out.size); have M4 := Lib.hid (M3.out.past hb3); clear hb3 c3 m3; have c4 := M4.out.cell; have m4 := M4.out.lt) | (go_at_call 21; refine (GT.out _ HB3.out).mono ?_; intro e w5 hx; obtain ⟨Ax, nx, cx, lx, Ap, np, cp, rfl, hhx, hvx, _, hb5, _⟩ := hx; have HB4 := Lib.hid ((below_from hb5 HB3.out HB3.out.size).alloc (below_from hb5 HB3.out HB3.out.size).size (.cells #[.int .i64 cap, .slice Ax nx cx] 24)); have M6 := Lib.hid ((M4.out.past hb5).alloc (.cells #[.int .i64 cap, .slice Ax nx cx] 24)); have X6 := Lib.hid (Has.newAt w5 #[.int .i64 cap, .slice Ax nx cx] 24 (g := w5.heap.size) rfl); have HX := Lib.hid (hhx.alloc (.cells #[.int .i64 cap, .slice Ax nx cx] 24)); have VX := Lib.hid hvx; clear hhx hvx hb5 c4 m4))
  have nxn : nx = n := by rw [← HX.out.len, ← List.length_map (f := Hd.val), VX.out]; exact S1.out
  obtain ⟨nx', rfl, b9, off9, rfl, ff⟩ := first_at HX.out (VX.out.trans GL.out)
  obtain ⟨f0, f1⟩ := ff _ (Below.refl _ _)
  rw [hk'.1] at f0
  rw [hk'.2] at f1
  clear ff
  obtain ⟨W, hW⟩ : ∃ W, W = w5.alloc (.cells #[.int .i64 cap, .slice (some ⟨b9, off9, none⟩) (nx' + 1) cx] 24) := ⟨_, rfl⟩
  have r30 := at_regrown (a := ⟨w.heap.size, 0, none⟩) (v := .int .i64 cap) (M6.out.cell 0)
  have r31 := at_regrown (a := ⟨w.heap.size, 1, none⟩) (v := .slice A n c) (M6.out.cell 1)
  have r70 := at_regrown (a := ⟨w5.heap.size, 0, none⟩) (v := .int .i64 cap) (X6.out.cell 0)
  have r71 := at_regrown (a := ⟨w5.heap.size, 1, none⟩) (v := .slice (some ⟨b9, off9, none⟩) (nx' + 1) cx) (X6.out.cell 1)
  have rf0 := at_regrown (a := ⟨b9, off9, none⟩) (v := .string name) f0
  have rf1 := at_regrown (a := ⟨b9, off9 + 1, none⟩) (v := .int .i64 no) f1
  have pos : decide ((0 : Int) < (nx' : Int) + 1) = true := decide_eq_true (by omega)
  rw [← hW] at HB4 M6 X6 HX r30 r31 r70 r71 rf0 rf1 ⊢
  subst nxn
  have UC := Lib.hid (fun w' (hb : Below W.heap.size W w') => US.out w' (below_from hb HB4.out HB4.out.size))
  have UXX := Lib.hid (fun w' (hb : Below W.heap.size W w') => by
    have := used_any cap (some ⟨b9, off9, none⟩) (nx' + 1) cx lx w' (HX.out.below hb) (by omega)
    rw [VX.out, UX.out] at this
    exact this)
  clear hW
  refine region_below (by kernel_rfl) (by kernel_rfl) ?_
  repeat (go_big_quiet_step (first | (go_at_call 17; exact call_regrown UXX.out) | (go_at_call 17; exact call_regrown UC.out)))
  refine wpQuiet_nil ?_
  intro w6 hb6
  have HB6 := Lib.hid (below_from hb6 HB4.out HB4.out.size)
  have M7 := Lib.hid (M6.out.past hb6)
  have c7 := M7.out.cell
  have m7 := M7.out.lt
  clear hb6 r30 r31 r70 r71
  go_wp2_with fail
  refine (DR.out _ HB6.out).mono ?_
  intro e w8 hx8
  obtain ⟨A3, n3, c3', l3, rfl, hh3, hv3, hb8, _⟩ := hx8
  obtain ⟨W8, hW8⟩ : ∃ W8, W8 = w8.alloc (.cells #[.int .i64 cap, .slice A3 n3 c3'] 24) := ⟨_, rfl⟩
  have b8 : Below w8.heap.size w8 W8 := by rw [hW8]; exact below_alloc1 _ _
  have HB8 := Lib.hid (below_from b8 (below_from hb8 HB6.out HB6.out.size) (below_from hb8 HB6.out HB6.out.size).size)
  have M8 := Lib.hid ((M7.out.past hb8).past b8)
  have Y8 := Lib.hid (show Has W8 w8.heap.size #[.int .i64 cap, .slice A3 n3 c3'] by rw [hW8]; exact Has.newAt w8 _ 24 rfl)
  have H3 := Lib.hid (hh3.below b8)
  have V3 := Lib.hid hv3
  have n3l : l3.length = n3 := hh3.len
  have c3n := hh3.cap
  have c3m := hh3.max
  have HW8 := Lib.hid hW8
  have nle : n3 ≤ (nx' + 1) := by
    have := congrArg List.length hv3
    rw [List.length_map, List.length_map, n3l] at this
    have := List.length_filter_le (fun x : Hd => !decide (x.name = name)) l
    omega
  have c8 := (M7.out.past hb8).cell
  have m8 := (M7.out.past hb8).lt
  clear hh3 hv3 hb8 b8 c7 m7 hW8
  go_wp2_with fail
  rw [← HW8.out]
  clear HW8 c8 m8
  go_loopg [11, 78] (nx' + 1) (fun gg s11 s78 wr => ∃ k j : Nat, k ≤ (nx' + 1) ∧ (nx' + 1) - k ≤ gg ∧ j ≤ k ∧ s11 = .int .i64 j ∧ s78 = .int .i64 k ∧ Hid (((l.take k).filter fun x => !decide (x.name = name)).length = j) ∧ Hid (Below W8.heap.size W8 wr))
  case atStart => exact ⟨0, 0, Nat.zero_le _, by omega, by omega, rfl, rfl, Lib.hid (by simp), Below.refl _ _⟩
  case round =>
    obtain ⟨k, j, hk, hgg, hjk, rfl, rfl, hj, hb⟩ := hrel
    have OLD := Lib.hid (below_from hb.out HB8.out HB8.out.size)
    by_cases hlt : k < (nx' + 1)
    · obtain ⟨b, off, hkl, rfl, hbl, x0, x1, x2⟩ := Hds.at_ (HL.out.below OLD.out) hlt
      have ft : ((l.take (k + 1)).filter (fun x => !decide (x.name = name))).length = ((l.take k).filter (fun x => !decide (x.name = name))).length + if l[k].name = name then 0 else 1 := by
        rw [List.take_succ_eq_append_getElem hkl, List.filter_append]
        by_cases hq : l[k].name = name <;> simp [hq]
      have FP := Lib.hid (fun hq => filter_place (p := fun x : Hd => !decide (x.name = name)) hkl hq)
      have YI := Lib.hid (HL.out.each l[k] (List.getElem_mem hkl))
      rw [hj.out] at ft
      have FT := Lib.hid ft
      clear ft
      generalize l[k] = y at *
      have B1 := Lib.hid (hb.out.alloc hb.out.size (.cells #[.string y.name, .int .i64 y.no, .slice y.A y.n y.c] 37))
      obtain ⟨wr1, hwr1⟩ : ∃ wr1, wr1 = wr.alloc (.cells #[.string y.name, .int .i64 y.no, .slice y.A y.n y.c] 37) := ⟨_, rfl⟩
      have BX := Lib.hid (show Has wr1 wr.heap.size #[.string y.name, .int .i64 y.no, .slice y.A y.n y.c] by rw [hwr1]; exact Has.newAt wr _ 37 rfl)
      have HWR := Lib.hid hwr1
      have B11 := B1
      rw [← hwr1] at B11
      clear hwr1
      obtain ⟨yn, yo, yA, yN, yC, yb⟩ := y
      simp only at x0 x1 x2 BX HWR B1 B11
      by_cases h1 : yn = name
      · subst h1
        go_wp2_with fail
        go_roundg ((nx' + 1) - (k + 1))
        case measure => omega
        case rel => exact ⟨k + 1, j, by omega, by omega, by omega, rfl, by go_num, Lib.hid (by rw [FT.out]; simp), B1⟩
      · have ne := str_ne h1
        have pl := FP.out (by simp [h1])
        rw [hj.out] at pl
        have v3 : (l3.map Hd.val)[j]? = some (Hd.val ⟨yn, yo, yA, yN, yC, yb⟩) := by rw [V3.out, List.getElem?_map, pl]; rfl
        rw [List.getElem?_map] at v3
        have hj3 : j < n3 := by
          rcases Nat.lt_or_ge j n3 with h | h
          · exact h
          · rw [List.getElem?_eq_none (by omega)] at v3; cases v3
        have LJ := Lib.hid v3
        obtain ⟨b3, off3, hj3l, rfl, hb3, _, _, _⟩ := Hds.at_ H3.out hj3
        have S3 := Lib.hid (show Hds W8 (some ⟨b3, off3 + j * 3, none⟩) 1 (c3' - j) ((l3.drop j).take 1) from (H3.out.drop j (by omega)).take 1 (by omega))
        have SL := Lib.hid (show ((l3.drop j).take 1).map Hd.val = [Hd.val ⟨yn, yo, yA, yN, yC, yb⟩] by
          rw [List.getElem?_eq_getElem hj3l] at v3
          rw [← List.getElem_cons_drop hj3l]
          rw [List.take_succ_cons, List.take_zero, List.map_cons, List.map_nil]
          exact congrArg (fun x => [x]) (Option.some.inj v3))
        have SMJ := Lib.hid (fun (W' : World) (g : Nat) (hb' : Below wr1.heap.size wr1 W') (hg : Has W' g #[.string yn, .int .i64 yo, .slice yA yN yC]) => (show Calls Try.prog 19 #[.agg #[.int .i64 0, .slice (some ⟨g, 0, none⟩) 1 1], .agg #[.int .i64 0, .slice (some ⟨b3, off3 + j * 3, none⟩) 1 (c3' - j)]] W' _ from by
          have bw := B11.out.trans (hb'.mono B11.out.size)
          have := same_any 0 (some ⟨g, 0, none⟩) 1 1 [⟨yn, yo, yA, yN, yC, yb⟩] 0 (some ⟨b3, off3 + j * 3, none⟩) 1 (c3' - j) _ W' (hds_one hg (hdK.below YI.out (below_from bw HB8.out HB8.out.size))) (S3.out.below bw)
          rw [same_true rfl (show ([⟨yn, yo, yA, yN, yC, yb⟩] : List Hd).map Hd.val = ((l3.drop j).take 1).map Hd.val from SL.out.symm)] at this
          exact this))
        have SKH : Hid (∀ W', Below wr1.heap.size wr1 W' → W'.cell? ⟨w8.heap.size, 1, none⟩ = some (.slice (some ⟨b3, off3, none⟩) n3 c3') ∧ W'.cell? ⟨wr.heap.size, 0, none⟩ = some (.string yn) ∧ W'.cell? ⟨wr.heap.size, 1, none⟩ = some (.int .i64 yo) ∧ W'.cell? ⟨wr.heap.size, 2, none⟩ = some (.slice yA yN yC)) := by
          intro W' hb'
          have h1 := Y8.out.past (B11.out.trans (hb'.mono B11.out.size))
          have h2 := BX.out.past hb'
          exact ⟨h1.cell 1, h2.cell 0, h2.cell 1, h2.cell 2⟩
        have wj : IntKind.i64.wrap ((j : Int) + 1) = (j : Int) + 1 := IntWalk.i64_in _ (by omega)
        have y8c := ((Y8.out.past hb.out).alloc (.cells #[.string yn, .int .i64 yo, .slice yA yN yC] 37)).cell
        have y8l := ((Y8.out.past hb.out).alloc (.cells #[.string yn, .int .i64 yo, .slice yA yN yC] 37)).lt
        have dj : decide ((n3 : Int) ≤ (j : Int)) = false := decide_eq_false (by omega)
        have dj2 : decide (n3 ≤ j) = false := decide_eq_false (by omega)
        have dj3 : ((n3 : Int) ≤ (j : Int)) = False := eq_false (by omega)
        have dj4 : (n3 ≤ j) = False := eq_false (by omega)
        have cj : ¬ c3' - j = 0 := by omega
        have cj2 : ¬ c3' = j := by omega
        have bj2 : (j : Int) + 1 ≤ (c3' : Int) := by omega
        have bj1 : (j : Int) ≤ (j : Int) + 1 := by omega
        have bj0 : (0 : Int) ≤ (j : Int) := by omega
        go_wp2_with fail
        rw [← HWR.out]
        clear y8c y8l v3 pl
        go_region_held3 (fun w' => w'.cell? ⟨w8.heap.size, 1, none⟩ = some (.slice (some ⟨b3, off3, none⟩) n3 c3') ∧ w'.cell? ⟨wr.heap.size, 0, none⟩ = some (.string yn) ∧ w'.cell? ⟨wr.heap.size, 1, none⟩ = some (.int .i64 yo) ∧ w'.cell? ⟨wr.heap.size, 2, none⟩ = some (.slice yA yN yC))
          ((refine SKH.out _ ?_; (repeat (first | with_reducible assumption | with_reducible exact Below.refl _ _ | refine Below.drew ?_ | (refine Below.alloc ?_ (by first | omega | (simp <;> omega)) _))); done))
          ((go_at_call 19; (try rw [if_neg cj2]); refine (SMJ.out _ _ (by (repeat (first | with_reducible assumption | with_reducible exact Below.refl _ _ | refine Below.drew ?_ | (refine Below.alloc ?_ (by first | omega | (simp <;> omega)) _)))) (by first | exact Has.newAt _ _ 37 rfl | exact (Has.newAt _ _ 37 rfl).drew | exact (Has.newAt _ _ 37 rfl).drew.drew)).mono ?_; rintro e w11 ⟨rfl, hb11⟩; have BB11 := below_from hb11 (show Below wr1.heap.size wr1 _ from by (repeat (first | with_reducible assumption | with_reducible exact Below.refl _ _ | refine Below.drew ?_ | (refine Below.alloc ?_ (by first | omega | (simp <;> omega)) _)))) (by first | omega | (simp <;> omega)); have z11 := BB11.size; clear hb11))
        all_goals go_wp2_with fail
        all_goals go_roundg ((nx' + 1) - (k + 1))
        all_goals first | omega | exact ⟨k + 1, j + 1, by omega, by omega, by omega, by go_num, by go_num, Lib.hid (by rw [FT.out]; simp [h1]), B11.out.trans (BB11.mono B11.out.size)⟩
    · obtain rfl : k = (nx' + 1) := by omega
      have hjn : j = n3 := by
        have h2 := hj.out
        rw [List.take_of_length_le (by omega)] at h2
        have h3 := congrArg List.length V3.out
        rw [List.length_map, List.length_map, n3l] at h3
        omega
      have y8c := (Y8.out.past hb.out).cell
      have y8l := (Y8.out.past hb.out).lt
      subst hjn
      go_wp2_with fail
      go_ret
      exact ⟨ret_bool (by first | rfl | simp), OLD.out⟩

end Go.Proofs.Ythjohjijcgiogaa
