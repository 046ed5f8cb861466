/- Check, of the program. -/
import Derived.Test.YthjohjijcgiogaaCheck
import Derived.Test.YthjohjijcgiogaaSize
import Derived.Test.YthjohjijcgiogaaEnter
import Derived.Test.YthjohjijcgiogaaInp
namespace Go.Proofs.Ythjohjijcgiogaa
open Go.RowKit

set_option maxHeartbeats 2000000 in
set_option maxRecDepth 100000 in
theorem check_cap (cap : Int) (A : Option Addr) (n c : Nat) (l : List Hd) (w : World) (hl : Hds w A n c l) (hn : n ≤ 60000) (hc : cap < 0 ∨ 1099511627776 < cap ∨ cap < total l) :
    Calls Try.prog 15 #[.agg #[.int .i64 cap, .slice A n c]] w fun e w' => e = .returned (.int .i64 1) ∧ Below w.heap.size w w' := by
  have SZ := Lib.hid (fun w' hb => size_any A n c l w' (hl.below (w' := w') hb) hn)
  have B0 := Lib.hid (below_alloc1 w (.cells #[.int .i64 cap, .slice A n c] 24))
  have r0 := at_regrown (w := w.alloc (.cells #[.int .i64 cap, .slice A n c] 24)) (a := ⟨w.heap.size, 0, none⟩) (v := .int .i64 cap) (by go_simp)
  have r1 := at_regrown (w := w.alloc (.cells #[.int .i64 cap, .slice A n c] 24)) (a := ⟨w.heap.size, 1, none⟩) (v := .slice A n c) (by go_simp)
  have SZ2 := Lib.hid (fun w' (hb : Below (w.alloc (.cells #[.int .i64 cap, .slice A n c] 24)).heap.size (w.alloc (.cells #[.int .i64 cap, .slice A n c] 24)) w') => SZ.out w' (below_from hb B0.out (by simp)))
  clear hl
  by_cases h1 : cap < 0
  · go_enter Try.func15, Try.ntmps15
    go_wp2_with fail
    refine region_below (by kernel_rfl) (by kernel_rfl) ?_
    repeat (go_big_quiet_step (fail))
    refine wpQuiet_nil ?_
    intro w1 hb1
    have HB := Lib.hid hb1
    clear hb1
    go_wp2_with fail
    go_ret
    exact ⟨rfl, below_from HB.out B0.out (by simp)⟩
  · have k1 : decide (cap < 0) = false := decide_eq_false h1
    by_cases h2 : 1099511627776 < cap
    · have k2 : decide (1099511627776 < cap) = true := decide_eq_true h2
      go_enter Try.func15, Try.ntmps15
      go_wp2_with fail
      refine region_below (by kernel_rfl) (by kernel_rfl) ?_
      repeat (go_big_quiet_step (fail))
      refine wpQuiet_nil ?_
      intro w1 hb1
      have HB := Lib.hid hb1
      clear hb1
      go_wp2_with fail
      go_ret
      exact ⟨rfl, below_from HB.out B0.out (by simp)⟩
    · have h3 : cap < total l := by omega
      have k2 : decide (1099511627776 < cap) = false := decide_eq_false h2
      go_enter Try.func15, Try.ntmps15
      go_wp2_with fail
      refine region_below (by kernel_rfl) (by kernel_rfl) ?_
      repeat (go_big_quiet_step ((go_at_call 32; exact call_regrown SZ2.out)))
      refine wpQuiet_nil ?_
      intro w1 hb1
      have HB := Lib.hid hb1
      clear hb1
      go_wp2_with fail
      go_ret
      exact ⟨rfl, below_from HB.out B0.out (by simp)⟩

theorem times_key {L : List Hd} {name : ByteArray} {no : Int} : timesIn name no L = 0 ↔ keyIn name no (L.map Hd.val) = false := by
  unfold timesIn keyIn
  rw [List.countP_eq_zero, List.any_eq_false]
  simp [Hd.val]
theorem Met.drew {w : World} {b : Nat} {l : List Hd} (h : Met w b l) : Met w.drew b l := h.kept (row := none) ⟨rfl, rfl, rfl, Nat.le_refl _, fun _ _ _ => rfl⟩ (by simp)

set_option maxHeartbeats 4000000 in
set_option maxRecDepth 100000 in
theorem check_in' (cap : Int) (A : Option Addr) (n c : Nat) (l : List Hd) (w : World) (hl : Hds w A n c l) (hn : n ≤ 60000) (h1 : 0 ≤ cap) (h2 : cap ≤ 1099511627776) (h3 : total l ≤ cap) :
    Calls Try.prog 15 #[.agg #[.int .i64 cap, .slice A n c]] w fun e w' => e = .returned (.int .i64 (goodI (l.map Hd.val))) ∧ Below w.heap.size w w' := by
  have SZ := Lib.hid (fun w' hb => size_any A n c l w' (hl.below (w' := w') hb) hn)
  have B0 := Lib.hid (below_alloc1 w (.cells #[.int .i64 cap, .slice A n c] 24))
  have N0 := Lib.hid (Has.newAt w #[.int .i64 cap, .slice A n c] 24 (g := w.heap.size) rfl)
  have r0 := at_regrown (w := w.alloc (.cells #[.int .i64 cap, .slice A n c] 24)) (a := ⟨w.heap.size, 0, none⟩) (v := .int .i64 cap) (by go_simp)
  have r1 := at_regrown (w := w.alloc (.cells #[.int .i64 cap, .slice A n c] 24)) (a := ⟨w.heap.size, 1, none⟩) (v := .slice A n c) (by go_simp)
  have HLEN := Lib.hid hl.len
  have hcap := hl.cap
  have hmax := hl.max
  have H := Lib.hid hl
  clear hl
  have k1 : decide (cap < 0) = false := decide_eq_false (by omega)
  have k2 : decide (1099511627776 < cap) = false := decide_eq_false (by omega)
  have SZ2 := Lib.hid (fun w' (hb : Below (w.alloc (.cells #[.int .i64 cap, .slice A n c] 24)).heap.size (w.alloc (.cells #[.int .i64 cap, .slice A n c] 24)) w') => SZ.out w' (below_from hb B0.out (by simp)))
  have hmm := @run_makeMap Try.prog
  go_enter Try.func15, Try.ntmps15
  go_wp2_with fail
  refine region_below (by kernel_rfl) (by kernel_rfl) ?_
  repeat (go_big_quiet_step ((go_at_call 32; exact call_regrown SZ2.out)))
  refine wpQuiet_nil ?_
  intro w1 hb1
  have HB := Lib.hid ((below_from hb1 B0.out (by simp)).alloc (by have := (below_from hb1 B0.out (by simp)).size; exact this) (.map #[] 0))
  have N1 := Lib.hid ((N0.out.past hb1).alloc (.map #[] 0))
  have M1 := Lib.hid (met_made w1)
  have MB1 : w.heap.size < w1.heap.size := (N0.out.past hb1).lt
  clear r0 r1 hb1
  have c1 := N1.out.cell
  have l1 := N1.out.lt
  go_wp2_with fail
  go_loopg [27] n (fun gg s wr => ∃ k : Nat, k ≤ n ∧ n - k ≤ gg ∧ s = .int .i64 k ∧ w1.heap.size < wr.heap.size ∧ Hid (Has wr w.heap.size #[.int .i64 cap, .slice A n c]) ∧ Hid (Below w.heap.size w wr) ∧ Hid (Met wr w1.heap.size (l.take k)) ∧ Hid (∀ j, j < k → badAt (l.map Hd.val) j = false))
  case atStart => exact ⟨0, Nat.zero_le _, by omega, rfl, by simp, N1, HB, by simpa using M1, Lib.hid (fun j hj => absurd hj (Nat.not_lt_zero _))⟩
  case round =>
    obtain ⟨k, hk, hgg, rfl, hmb, N2, B2, M2, G2⟩ := hrel
    clear c1 l1 N1 HB M1
    have c2 := N2.out.cell
    have l2 := N2.out.lt
    by_cases hlt : k < n
    · obtain ⟨b, off, hkl, rfl, hbl, x0, x1, x2⟩ := Hds.at_ (H.out.below B2.out) hlt
      have ev : (l.map Hd.val)[k]? = some l[k].val := by rw [List.getElem?_map, List.getElem?_eq_getElem hkl]; rfl
      have BA := Lib.hid (bad_at ev)
      have HI := H.out.each l[k] (List.getElem_mem hkl)
      have nm := HI.nm
      have wf := HI.wf
      have TS := Lib.hid (List.take_succ_eq_append_getElem hkl)
      have HKL : k < (l.map Hd.val).length := by rw [List.length_map]; exact hkl
      clear ev HI
      generalize l[k] = x at *
      have B3 := Lib.hid (B2.out.alloc B2.out.size (.cells #[.string x.name, .int .i64 x.no, .slice x.A x.n x.c] 37))
      have N3 := Lib.hid (N2.out.alloc (.cells #[.string x.name, .int .i64 x.no, .slice x.A x.n x.c] 37))
      have M3 := Lib.hid (M2.out.kept (World.grownBy_alloc wr (.cells #[.string x.name, .int .i64 x.no, .slice x.A x.n x.c] 37) none) (by simp))
      go_wp2_with (go_at_call 33; refine (keyed_any _ _ _ _ _ _).mono ?_; rintro e w3 ⟨rfl, hb3⟩; have z3 := hb3.size; simp at z3; have BB := Lib.hid hb3; clear hb3)
      have B4 := Lib.hid ((below_from BB.out B3.out B3.out.size).alloc (by have := B3.out.size; simp at this; omega) (.cells #[.string x.name, .int .i64 x.no] 57))
      have N4 := Lib.hid ((N3.out.past BB.out).alloc (.cells #[.string x.name, .int .i64 x.no] 57))
      have M4 := Lib.hid ((M3.out.kept (grown_of_below BB.out none) (by simp)).kept (World.grownBy_alloc w3 (.cells #[.string x.name, .int .i64 x.no] 57) none) (by simp))
      have K4 := Lib.hid (Has.newAt w3 #[.string x.name, .int .i64 x.no] 57 (g := w3.heap.size) rfl)
      have lk := M4.out.drew.look nm wf
      obtain ⟨v0, st, o, w5, r1, r2, M5, g5⟩ := M4.out.drew.bump nm wf (by rw [List.length_take]; omega)
      have lk2 := M4.out.drew.enter nm wf (by rw [List.length_take]; omega) r1
      have tle : timesIn x.name x.no (l.take k) ≤ (l.take k).length := List.countP_le_length
      have tl2 : (l.take k).length ≤ n := by rw [List.length_take]; omega
      have wr1 : IntKind.i64.wrap ((timesIn x.name x.no (l.take k) : Int) + 1) = (timesIn x.name x.no (l.take k) : Int) + 1 := IntWalk.i64_in _ (by omega)
      have kc0 : (w3.alloc (.cells #[.string x.name, .int .i64 x.no] 57)).drew.cell? ⟨w3.heap.size, 0, none⟩ = some (.string x.name) := by go_simp
      have kc1 : (w3.alloc (.cells #[.string x.name, .int .i64 x.no] 57)).drew.cell? ⟨w3.heap.size, 1, none⟩ = some (.int .i64 x.no) := by go_simp
      replace r2 : (Instr.entryStore 55 (.map (some w1.heap.size)) (.int .i64 (st : Int)) (.int .i64 ((timesIn x.name x.no (l.take k) : Int) + 1))).run Try.prog (ChangeMaps.setBlock (w3.alloc (.cells #[.string x.name, .int .i64 x.no] 57)).drew w1.heap.size o) = .ok () w5 := r2
      have ne1 : w3.heap.size ≠ w1.heap.size := by omega
      have ne2 : w.heap.size ≠ w1.heap.size := by omega
      have N5 := Lib.hid (N4.out.drew.grown g5 ne2)
      have K5 := Lib.hid (K4.out.drew.grown g5 ne1)
      have B5 := Lib.hid (B4.out.drew.grown g5 (by have := B4.out.size; exact this) (fun q hq => by injection hq; omega))
      have z5 := g5.size
      simp at z5
      have M6 := Lib.hid (M5.kept (World.grownBy_alloc w5 (.cells #[.string x.name, .int .i64 x.no] 57) none) (by simp))
      have lk6 := M6.out.look nm wf
      rw [timesIn_snoc, if_pos ⟨rfl, rfl⟩] at lk6
      have M5' := Lib.hid M5
      have TK := Lib.hid (times_key (L := l.take k) (name := x.name) (no := x.no))
      clear M5 g5
      have k50 := K5.out.cell
      have k5l := K5.out.lt
      have n50 := N5.out.cell
      have n5l := N5.out.lt
      have BAx : Hid (badAt (l.map Hd.val) k = (!mayK x.name x.no || keyIn x.name x.no ((l.take k).map Hd.val))) := by rw [List.map_take]; exact BA.out
      cases hm : mayK x.name x.no with
      | false =>
        rw [hm] at BAx
        have HM := Lib.hid hm
        go_region
        all_goals
          go_wp2_with (go_at_call 34; refine (may_any _ _ _).mono ?_; rintro e w' ⟨rfl, rfl⟩)
          go_ret
          exact ⟨ret_int (goodI_bad HKL BAx.out).symm, B5.out.alloc B5.out.size _⟩
      | true =>
        rw [hm] at BAx
        have HM := Lib.hid hm
        by_cases ht : timesIn x.name x.no (l.take k) = 0
        · rw [ht] at lk lk2 lk6 r2
          rw [show (((0 : Nat) : Int) + 1) = 1 from rfl] at r2
          rw [show (((0 + 1 : Nat)) : Int) = 1 from rfl] at lk6
          rw [show (((0 : Nat)) : Int) = 0 from rfl] at lk lk2
          clear wr1
          have K0 := TK.out.1 ht
          rw [K0] at BAx
          have BX := Lib.hid (show badAt (l.map Hd.val) k = false from BAx.out)
          have HT := Lib.hid ht
          clear ht K0 tle
          go_region
          all_goals
            go_wp2_with (go_at_call 34; refine (may_any _ _ _).mono ?_; rintro e w' ⟨rfl, rfl⟩)
            go_roundg (n - (k + 1))
            case measure => omega
            case rel =>
              refine ⟨k + 1, by omega, by omega, by go_num, by simp; omega, N5.out.alloc _, B5.out.alloc B5.out.size _, ?_, Lib.hid (fun j hj => ?_)⟩
              · rw [TS.out]; exact M6.out
              · by_cases e : j = k
                · subst e; exact BX.out
                · exact G2.out j (by omega)
        · have hk : keyIn x.name x.no ((l.take k).map Hd.val) = true := by
            cases hq : keyIn x.name x.no ((l.take k).map Hd.val)
            · exact absurd (TK.out.2 hq) ht
            · rfl
          rw [hk] at BAx
          have hgt : 0 < timesIn x.name x.no (l.take k) := by omega
          clear ht hk
          generalize timesIn x.name x.no (l.take k) = T at *
          go_region
          all_goals
            go_wp2_with (go_at_call 34; refine (may_any _ _ _).mono ?_; rintro e w' ⟨rfl, rfl⟩)
            go_ret
            exact ⟨ret_int (goodI_bad HKL (BAx.out.trans (by simp))).symm, B5.out.alloc B5.out.size _⟩
    · obtain rfl : k = n := by omega
      go_wp2_with fail
      go_ret
      exact ⟨ret_int (goodI_ok fun j hj => G2.out j (by rw [List.length_map, HLEN.out] at hj; exact hj)).symm, B2.out⟩

theorem check_any (cap : Int) (A : Option Addr) (n c : Nat) (l : List Hd) (w : World) (hl : Hds w A n c l) (hn : n ≤ 60000) :
    Calls Try.prog 15 #[.agg #[.int .i64 cap, .slice A n c]] w fun e w' => e = .returned (.int .i64 (checkC cap (l.map Hd.val))) ∧ Below w.heap.size w w' := by
  have ht := total_sz hl.each
  by_cases h : cap < 0 ∨ 1099511627776 < cap ∨ cap < total l
  · rw [check_out (by rw [← ht]; exact h)]
    exact check_cap cap A n c l w hl hn h
  · rw [check_in (by omega) (by omega) (by rw [← ht]; omega)]
    exact check_in' cap A n c l w hl hn (by omega) (by omega) (by omega)

end Go.Proofs.Ythjohjijcgiogaa
