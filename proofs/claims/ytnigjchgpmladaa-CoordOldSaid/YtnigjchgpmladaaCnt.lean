/- How often something stands in a list; whether all others are as they were. -/
import Derived.Test.YtnigjchgpmladaaAv
import Derived.Test.YtnigjchgpmladaaCor
namespace Go.Proofs.Ytnigjchgpmladaa
open Go.RowKit Go.Shelf

theorem once_succ {α : Type} [DecidableEq α] {l : List α} {x : α} {k : Nat} (hk : k < l.length) : onceN (l.take (k + 1)) x = onceN (l.take k) x + if l[k] = x then 1 else 0 := by
  unfold onceN
  rw [List.take_succ_eq_append_getElem hk, List.filter_append, List.length_append]
  by_cases h : l[k] = x <;> simp [h]
theorem once_le {α : Type} [DecidableEq α] (l : List α) (x : α) (k : Nat) : onceN (l.take k) x ≤ k := by
  unfold onceN
  refine Nat.le_trans (List.length_filter_le _ _) ?_
  rw [List.length_take]; omega
set_option maxRecDepth 100000 in
set_option maxHeartbeats 8000000 in
theorem name_count (A : Option Addr) (n c : Nat) (l : List ByteArray) (s : ByteArray) (w : World) (hl : Sl strK w A n c l) : Calls Try.prog 30 #[.slice A n c, .string s] w fun e w' => e = .returned (.int .i64 (onceN l s : Nat)) ∧ Below w.heap.size w w' := by
  have HL := Lib.hid hl
  have hcap := hl.cap
  have hmax := hl.max
  have R0 := Lib.hid (Below.refl w.heap.size w)
  clear hl
  go_enter Try.func30, Try.ntmps30
  go_wp2_with fail
  go_loopg [5, 6] n (fun gg s5 s6 wr => ∃ k m : Nat, k ≤ n ∧ n - k ≤ gg ∧ s5 = .int .i64 m ∧ s6 = .int .i64 k ∧ m ≤ k ∧ Hid (m = onceN (l.take k) s) ∧ Hid (Below w.heap.size w wr))
  case atStart => exact ⟨0, 0, Nat.zero_le _, by omega, rfl, rfl, Nat.le_refl _, Lib.hid rfl, R0⟩
  case round =>
    obtain ⟨k, m, hk, hgg, rfl, rfl, hmk, HM, B1⟩ := hrel
    by_cases hlt : k < n
    · obtain ⟨b, off, hkl, rfl, hbl, x0⟩ := str_at (HL.out.below B1.out) hlt
      have TS := Lib.hid (once_succ (x := s) hkl)
      generalize l[k] = x at *
      have q0 : (0 : Int) ≤ (k : Int) := by omega
      have q1 : (k : Int) < (n : Int) := by omega
      by_cases e : x = s
      · have HT := Lib.hid (show onceN (l.take (k + 1)) s = m + 1 from by rw [TS.out, if_pos e, ← HM.out])
        have d1 : (x.toList == s.toList) = true := by rw [e]; simp
        have d2 : decide (x.toList = s.toList) = true := decide_eq_true (by rw [e])
        clear e
        go_wp2_with fail
        go_roundg (n - (k + 1))
        case measure => omega
        case rel => exact ⟨k + 1, m + 1, by omega, by omega, by go_num, by go_num, by omega, Lib.hid HT.out.symm, B1⟩
      · have HT := Lib.hid (show onceN (l.take (k + 1)) s = m from by rw [TS.out, if_neg e, ← HM.out, Nat.add_zero])
        obtain ⟨d1, d2, d3⟩ := str_nes e
        clear e
        go_wp2_with fail
        go_roundg (n - (k + 1))
        case measure => omega
        case rel => exact ⟨k + 1, m, by omega, by omega, rfl, by go_num, by omega, Lib.hid HT.out.symm, B1⟩
    · obtain rfl : n = k := by omega
      have HF := Lib.hid (show m = onceN l s from by rw [HM.out, List.take_of_length_le (by rw [HL.out.len]; exact Nat.le_refl _)])
      go_wp2_with fail
      go_ret
      exact ⟨by rw [HF.out]; rfl, B1.out⟩
set_option maxRecDepth 100000 in
set_option maxHeartbeats 8000000 in
theorem part_count (A : Option Addr) (n c : Nat) (l : List Tp) (s : Tp) (w : World) (hl : Sl tpK w A n c l) : Calls Try.prog 39 #[.slice A n c, s.v] w fun e w' => e = .returned (.int .i64 (onceN l s : Nat)) ∧ Below w.heap.size w w' := by
  have HL := Lib.hid hl
  have hcap := hl.cap
  have hmax := hl.max
  have R0 := Lib.hid (below_alloc1 w (.cells #[.string s.t, .int .i64 s.p, .int .i64 s.h] 45))
  have S0 := Lib.hid (Has.newAt w #[.string s.t, .int .i64 s.p, .int .i64 s.h] 45 (g := w.heap.size) rfl)
  clear hl
  go_enter Try.func39, Try.ntmps39
  go_wp2_with fail
  go_loopg [5, 6] n (fun gg s5 s6 wr => ∃ k m : Nat, k ≤ n ∧ n - k ≤ gg ∧ s5 = .int .i64 m ∧ s6 = .int .i64 k ∧ m ≤ k ∧ Hid (m = onceN (l.take k) s) ∧ Hid (Has wr w.heap.size #[.string s.t, .int .i64 s.p, .int .i64 s.h]) ∧ Hid (Below w.heap.size w wr))
  case atStart => exact ⟨0, 0, Nat.zero_le _, by omega, rfl, rfl, Nat.le_refl _, Lib.hid rfl, S0, R0⟩
  case round =>
    obtain ⟨k, m, hk, hgg, rfl, rfl, hmk, HM, S1, B1⟩ := hrel
    by_cases hlt : k < n
    · obtain ⟨b, off, hkl, rfl, hbl, ut, up, uh⟩ := tp_at (HL.out.below B1.out) hlt
      have TS := Lib.hid (once_succ (x := s) hkl)
      generalize l[k] = x at *
      have q0 : (0 : Int) ≤ (k : Int) := by omega
      have q1 : (k : Int) < (n : Int) := by omega
      have rut := at_regrown ut
      have rup := at_regrown up
      have ruh := at_regrown uh
      have rs0 := at_regrown (w := wr) (v := .string s.t) (S1.out.cell 0)
      have rs1 := at_regrown (w := wr) (v := .int .i64 s.p) (S1.out.cell 1)
      have rs2 := at_regrown (w := wr) (v := .int .i64 s.h) (S1.out.cell 2)
      have sl := S1.out.lt
      by_cases et : x.t = s.t
      · by_cases ep : x.p = s.p
        · by_cases eh : x.h = s.h
          · have HT := Lib.hid (show onceN (l.take (k + 1)) s = m + 1 from by rw [TS.out, if_pos (by cases x; cases s; simp_all), ← HM.out])
            rw [et] at rut ut
            rw [ep] at rup up
            rw [eh] at ruh uh
            clear et ep eh
            go_wp2_with fail
            refine region_below (by kernel_rfl) (by kernel_rfl) ?_
            repeat (go_big_quiet_step (fail))
            refine wpQuiet_nil ?_
            intro w3 hb3
            have B3 := Lib.hid (below_from hb3 B1.out B1.out.size)
            have S3 := Lib.hid (S1.out.past hb3)
            clear hb3
            go_wp2_with fail
            go_roundg (n - (k + 1))
            case measure => omega
            case rel => exact ⟨k + 1, m + 1, by omega, by omega, by go_num, by go_num, by omega, Lib.hid HT.out.symm, S3, B3⟩
          · have HT := Lib.hid (show onceN (l.take (k + 1)) s = m from by rw [TS.out, if_neg (fun h => eh (congrArg Tp.h h)), ← HM.out, Nat.add_zero])
            obtain ⟨d1, d2⟩ := int_ne eh
            rw [et] at rut ut
            rw [ep] at rup up
            clear et ep eh
            go_wp2_with fail
            refine region_below (by kernel_rfl) (by kernel_rfl) ?_
            repeat (go_big_quiet_step (fail))
            refine wpQuiet_nil ?_
            intro w3 hb3
            have B3 := Lib.hid (below_from hb3 B1.out B1.out.size)
            have S3 := Lib.hid (S1.out.past hb3)
            clear hb3
            go_wp2_with fail
            go_roundg (n - (k + 1))
            case measure => omega
            case rel => exact ⟨k + 1, m, by omega, by omega, rfl, by go_num, by omega, Lib.hid HT.out.symm, S3, B3⟩
        · have HT := Lib.hid (show onceN (l.take (k + 1)) s = m from by rw [TS.out, if_neg (fun h => ep (congrArg Tp.p h)), ← HM.out, Nat.add_zero])
          obtain ⟨d1, d2⟩ := int_ne ep
          rw [et] at rut ut
          clear et ep
          go_wp2_with fail
          refine region_below (by kernel_rfl) (by kernel_rfl) ?_
          repeat (go_big_quiet_step (fail))
          refine wpQuiet_nil ?_
          intro w3 hb3
          have B3 := Lib.hid (below_from hb3 B1.out B1.out.size)
          have S3 := Lib.hid (S1.out.past hb3)
          clear hb3
          go_wp2_with fail
          go_roundg (n - (k + 1))
          case measure => omega
          case rel => exact ⟨k + 1, m, by omega, by omega, rfl, by go_num, by omega, Lib.hid HT.out.symm, S3, B3⟩
      · have HT := Lib.hid (show onceN (l.take (k + 1)) s = m from by rw [TS.out, if_neg (fun h => et (congrArg Tp.t h)), ← HM.out, Nat.add_zero])
        obtain ⟨d1, d2, d3⟩ := str_nes et
        clear et
        go_wp2_with fail
        refine region_below (by kernel_rfl) (by kernel_rfl) ?_
        repeat (go_big_quiet_step (fail))
        refine wpQuiet_nil ?_
        intro w3 hb3
        have B3 := Lib.hid (below_from hb3 B1.out B1.out.size)
        have S3 := Lib.hid (S1.out.past hb3)
        clear hb3
        go_wp2_with fail
        go_roundg (n - (k + 1))
        case measure => omega
        case rel => exact ⟨k + 1, m, by omega, by omega, rfl, by go_num, by omega, Lib.hid HT.out.symm, S3, B3⟩
    · obtain rfl : n = k := by omega
      have HF := Lib.hid (show m = onceN l s from by rw [HM.out, List.take_of_length_le (by rw [HL.out.len]; exact Nat.le_refl _)])
      go_wp2_with fail
      go_ret
      exact ⟨by rw [HF.out]; rfl, B1.out⟩

set_option maxRecDepth 100000 in
set_option maxHeartbeats 8000000 in
/-- All but that of a number are as they were. -/
theorem others_true (o q : Tc) (pid : Int) (w : World) (ho : Tc.At w o) (hq : Tc.At w q) (hn : o.next = q.next) (hl : o.n = q.n) (hs : ∀ j (hj : j < o.L.length) (hj' : j < q.L.length), o.L[j].pid ≠ pid → o.L[j].val = q.L[j].val) : Calls Try.prog 40 #[o.v, q.v, .int .i64 pid] w fun e w' => e = .returned (.bool true) ∧ Below w.heap.size w w' := by
  obtain ⟨W0, hW0⟩ : ∃ W0, W0 = (w.alloc (.cells #[.int .i64 o.next, .slice o.A o.n o.c] 24)).alloc (.cells #[.int .i64 q.next, .slice q.A q.n q.c] 24) := ⟨_, rfl⟩
  have B0 := Lib.hid (show Below w.heap.size w W0 from by rw [hW0]; exact (below_alloc1 w _).alloc (by simp) _)
  have S0 := Lib.hid (show Has W0 w.heap.size #[.int .i64 o.next, .slice o.A o.n o.c] from by rw [hW0]; exact (Has.newAt w _ 24 rfl).alloc _)
  have T0 := Lib.hid (show Has W0 (w.heap.size + 1) #[.int .i64 q.next, .slice q.A q.n q.c] from by rw [hW0]; exact Has.newAt _ _ 24 (by simp))
  have HW0 := Lib.hid hW0
  have HL := Lib.hid (show Sl txK w o.A o.n o.c o.L from ho)
  have HL2 := Lib.hid (show Sl txK w q.A q.n q.c q.L from hq)
  have HS := Lib.hid hs
  have EN := Lib.hid hl
  have g1 : ((o.n : Int) != (q.n : Int)) = false := by rw [hl]; simp
  have g2 : (o.next != q.next) = false := by rw [hn]; simp
  have g3 : ((o.n : Int) == (q.n : Int)) = true := by rw [hl]; simp
  have hcap := ho.cap
  have hmax := ho.max
  clear ho hq hn hl hs hW0
  have s0c := S0.out.cell
  have s0l := S0.out.lt
  have t0c := T0.out.cell
  have t0l := T0.out.lt
  go_enter Try.func40, Try.ntmps40
  go_upto_region 1 with (fail)
  rw [← HW0.out]
  go_wp2_with fail
  clear s0c s0l t0c t0l g1 g2 g3
  obtain ⟨CA, hCA⟩ : ∃ A, o.A = A := ⟨_, rfl⟩
  obtain ⟨CB, hCB⟩ : ∃ A, q.A = A := ⟨_, rfl⟩
  rw [hCA] at HL S0
  rw [hCB] at HL2 T0
  go_loopg [7] o.n (fun gg s7 wr => ∃ k : Nat, k ≤ o.n ∧ o.n - k ≤ gg ∧ s7 = .int .i64 k ∧ Hid (Has wr w.heap.size #[.int .i64 o.next, .slice CA o.n o.c]) ∧ Hid (Has wr (w.heap.size + 1) #[.int .i64 q.next, .slice CB q.n q.c]) ∧ Hid (Below w.heap.size w wr))
  case atStart => exact ⟨0, Nat.zero_le _, by omega, rfl, S0, T0, B0⟩
  case round =>
    obtain ⟨k, hk, hgg, rfl, S1, T1, BR⟩ := hrel
    have sl := S1.out.lt
    have tl := T1.out.lt
    have s1c := S1.out.cell
    clear hCA hCB
    by_cases hlt : k < o.n
    · obtain ⟨b, off, hkl, rfl, hbl, x0, x1, x2, x3, x4, x5, x6, x7⟩ := tx_at (HL.out.below BR.out) hlt
      obtain ⟨b', off', hkl', rfl, hbl', y0, y1, y2, y3, y4, y5, y6, y7⟩ := tx_at (HL2.out.below BR.out) (by rw [← EN.out]; exact hlt)
      have SV := Lib.hid (HS.out k hkl hkl')
      have XI := Lib.hid (show Tx.In wr o.L[k] from (HL.out.below BR.out).each _ (List.getElem_mem hkl))
      have YI := Lib.hid (show Tx.In wr q.L[k] from (HL2.out.below BR.out).each _ (List.getElem_mem hkl'))
      have q0 : (0 : Int) ≤ (k : Int) := by omega
      have q1 : (k : Int) < (o.n : Int) := by omega
      have q2 : (k : Int) < (q.n : Int) := by have := EN.out; omega
      have ra1 := at_regrown (w := wr) (v := .slice (some ⟨b, off, none⟩) o.n o.c) (S1.out.cell 1)
      have rb1 := at_regrown (w := wr) (v := .slice (some ⟨b', off', none⟩) q.n q.c) (T1.out.cell 1)
      generalize o.L[k] = x at *
      generalize q.L[k] = y at *
      have rx0 := at_regrown x0
      have ry0 := at_regrown y0
      have rx1 := at_regrown x1
      have ry1 := at_regrown y1
      have rx2 := at_regrown x2
      have ry2 := at_regrown y2
      have rx3 := at_regrown x3
      have ry3 := at_regrown y3
      have rx4 := at_regrown x4
      have ry4 := at_regrown y4
      have rx5 := at_regrown x5
      have ry5 := at_regrown y5
      have rx6 := at_regrown x6
      have ry6 := at_regrown y6
      have rx7 := at_regrown x7
      have ry7 := at_regrown y7
      by_cases e : x.pid = pid
      · have d1 : (x.pid != pid) = false := by rw [bne_eq_false_iff_eq]; exact e
        have d2 : (x.pid == pid) = true := by rw [beq_iff_eq]; exact e
        clear e
        go_wp2_with fail
        refine region_below (by kernel_rfl) (by kernel_rfl) ?_
        repeat (go_big_quiet_step (fail))
        refine wpQuiet_nil ?_
        intro w3 hb3
        have B3 := Lib.hid (below_from hb3 BR.out BR.out.size)
        have S3 := Lib.hid (S1.out.past hb3)
        have T3 := Lib.hid (T1.out.past hb3)
        clear hb3
        go_wp2_with fail
        go_roundg (o.n - (k + 1))
        case measure => omega
        case rel => exact ⟨k + 1, by omega, by omega, by go_num, S3, T3, B3⟩
      · have d1 : (x.pid != pid) = true := by rw [bne_iff_ne]; exact e
        have d2 : (x.pid == pid) = false := by rw [beq_eq_false_iff_ne]; exact e
        have SC := Lib.hid (fun W (h : Below wr.heap.size wr W) => sametx_at (b := true) (⟨XI.out.past h, rfl⟩ : Tx.Is W x x.val) (⟨YI.out.past h, rfl⟩ : Tx.Is W y y.val) (decide_eq_true (SV.out e)))
        clear e
        go_wp2_with fail
        refine region_below (by kernel_rfl) (by kernel_rfl) ?_
        repeat (go_big_quiet_step ((go_at_call 20; exact call_regrown SC.out)))
        refine wpQuiet_nil ?_
        intro w3 hb3
        have B3 := Lib.hid (below_from hb3 BR.out BR.out.size)
        have S3 := Lib.hid (S1.out.past hb3)
        have T3 := Lib.hid (T1.out.past hb3)
        clear hb3
        go_wp2_with fail
        go_roundg (o.n - (k + 1))
        case measure => omega
        case rel => exact ⟨k + 1, by omega, by omega, by go_num, S3, T3, B3⟩
    · obtain rfl : o.n = k := by omega
      go_wp2_with fail
      go_ret
      exact ⟨rfl, BR.out⟩

end Go.Proofs.Ytnigjchgpmladaa
