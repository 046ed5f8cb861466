/- CacheFaith of layer 16: the walk. -/
import Derived.Test.YthjohjijcgiogaaFaithP
import Derived.Test.YthjohjijcgiogaaDrop
import Derived.Test.YthjohjijcgiogaaGet
import Derived.Test.YthjohjijcgiogaaSame
namespace Go.Proofs.Ythjohjijcgiogaa
open Go.RowKit

theorem inf45 : (Try.prog.info? 45).map (fun i => (i.zero, i.size, i.bytes)) = some (some (.agg #[.int .i64 0, .int .i64 0, .string ⟨#[]⟩, .slice none 0 0]), 4, 56) := by kernel_rfl

set_option maxHeartbeats 4000000 in
set_option maxRecDepth 200000 in
/-- Where nothing is looked at, or no cache is made. -/
theorem faith_out (most : Int) (AS : Option Addr) (nS cS : Nat) (w : World) (ho : 40 < nS ∨ newE most = 1) :
    Calls Try.prog 7 #[.int .i64 most, .slice AS nS cS] w fun e w' => e = .returned (.bool true) ∧ Below w.heap.size w w' := by
  by_cases h40 : 40 < nS
  · clear ho
    go_enter Try.func7, Try.ntmps7
    go_wp2_with (go_at_call 11; refine (live_any _).mono ?_; rintro e w1 ⟨rfl, hb1⟩; have HB1 := Lib.hid hb1; clear hb1)
    go_ret
    exact ⟨rfl, HB1.out⟩
  · have hE : newE most = 1 := by rcases ho with h | h; omega; exact h
    have hcap : newCap most = 0 := by
      unfold newE at hE
      unfold newCap
      split at hE
      · rw [if_pos ‹_›]
      · omega
    have NW := Lib.hid (fun w' => (show Calls Try.prog 13 #[.int .i64 most] w' (CRes [] (fun v => .tuple #[v, .int .i64 1]) 0 [] w') from by have := new_any most w'; rw [hE, hcap] at this; exact this))
    clear ho hE hcap
    go_enter Try.func7, Try.ntmps7
    go_wp2_with (first | (go_at_call 11; refine (live_any _).mono ?_; rintro e w1 ⟨rfl, hb1⟩; have HB1 := Lib.hid hb1; clear hb1) | (go_at_call 13; refine (NW.out _).mono ?_; intro e w2 hx; obtain ⟨A0, n0, c0, l0, rfl, hh0, hv0, hb2, _⟩ := hx; obtain rfl : l0 = [] := (by simpa using hv0); obtain rfl : n0 = 0 := hh0.len.symm; have HB2 := Lib.hid (below_from hb2 HB1.out HB1.out.size); have H0 := Lib.hid hh0; have X2 := Lib.hid (Has.newAt w2 #[.int .i64 0, .slice A0 0 c0] 24 (g := w2.heap.size) rfl); have xc := X2.out.cell; have xl := X2.out.lt; clear hh0 hb2 hv0))
    go_ret
    exact ⟨ret_bool (by rfl), HB2.out.alloc HB2.out.size _⟩

set_option maxHeartbeats 16000000 in
set_option maxRecDepth 200000 in
theorem faith_in (most : Int) (AS : Option Addr) (nS cS : Nat) (ss : List St) (w : World) (hs : Sl stK w AS nS cS ss) (h40 : ¬ 40 < nS) (hE : newE most = 0) :
    Calls Try.prog 7 #[.int .i64 most, .slice AS nS cS] w fun e w' => e = .returned (.bool true) ∧ Below w.heap.size w w' := by
  have hcap : newCap most = most := by
    unfold newE at hE
    unfold newCap
    split at hE
    · omega
    · rw [if_neg ‹_›]
  have NW := Lib.hid (fun w' => (show Calls Try.prog 13 #[.int .i64 most] w' (CRes [] (fun v => .tuple #[v, .int .i64 0]) most [] w') from by have := new_any most w'; rw [hE, hcap] at this; exact this))
  have CH0 := Lib.hid (show checkC most (([] : List Hd).map Hd.val) = 0 from (check_nil most).trans hE)
  have SS := Lib.hid hs
  have hcS := hs.cap
  have hmS := hs.max
  obtain ⟨i0, hi, hz0, hz1, hz2⟩ := info_parts inf45
  have hi' := Lib.hid (And.intro hi (And.intro hz0 (And.intro hz1 hz2)))
  clear hs hE hcap hi hz0 hz1 hz2
  go_enter Try.func7, Try.ntmps7
  go_wp2_with (first | (go_at_call 11; refine (live_any _).mono ?_; rintro e w1 ⟨rfl, hb1⟩; have HB1 := Lib.hid hb1; clear hb1) | (go_at_call 13; refine (NW.out _).mono ?_; intro e w2 hx; obtain ⟨A0, n0, c0, l0, rfl, hh0, hv0, hb2, _⟩ := hx; obtain rfl : l0 = [] := (by simpa using hv0); obtain rfl : n0 = 0 := hh0.len.symm; have HB2 := Lib.hid (below_from hb2 HB1.out HB1.out.size); have H0 := Lib.hid hh0; have X2 := Lib.hid (Has.newAt w2 #[.int .i64 most, .slice A0 0 c0] 24 (g := w2.heap.size) rfl); have xc := X2.out.cell; have xl := X2.out.lt; clear hh0 hb2 hv0))
  have F0 : Hid (FI most w w2.heap.size (w2.heap.size + 1) (w2.alloc (.cells #[.int .i64 most, .slice A0 0 c0] 24)) A0 0 c0 [] none 0 0 []) :=
    Lib.hid ⟨X2.out, H0.out.alloc _, CH0.out, rfl, World.ownsRow_nil _ _ _ _, by simp, ⟨HB2.out.size, by omega, by simp⟩, ⟨fun h => absurd rfl h, by simp⟩, (fun _ _ e => by cases e), HB2.out.alloc HB2.out.size _⟩
  clear xc xl X2 H0 HB2 CH0
  obtain ⟨hi, hz0, hz1, hz2⟩ := hi'.out
  go_loopg [7, 41] nS (fun gg s7 s41 wr => ∃ (k : Nat) (A : Option Addr) (n c : Nat) (l : List Hd) (Ap : Option Addr) (np cp : Nat) (put : List St), k ≤ nS ∧ nS - k ≤ gg ∧ n ≤ k ∧ np ≤ k ∧ s7 = .slice Ap np cp ∧ s41 = .int .i64 k ∧ Hid (FI most w w2.heap.size (w2.heap.size + 1) wr A n c l Ap np cp put) ∧ Hid (Faith put (l.map Hd.val)))
  case atStart => exact ⟨0, A0, 0, c0, [], none, 0, 0, [], Nat.zero_le _, by omega, by omega, by omega, rfl, rfl, F0, fun x hx => by cases hx⟩
  case round =>
    obtain ⟨k, A, n, c, l, Ap, np, cp, put, hk, hgg, hnk, hpk, rfl, rfl, F, FA⟩ := hrel
    clear F0
    by_cases hlt : k < nS
    · obtain ⟨b, off, hkl, rfl, hbl, x0, x1, x2, x3⟩ := Sts.at_ (SS.out.below F.out.HB) hlt
      have YI := Lib.hid (show St.In w ss[k] from SS.out.each ss[k] (List.getElem_mem hkl))
      obtain ⟨y, hy⟩ : ∃ y, ss[k] = y := ⟨_, rfl⟩
      rw [hy] at x0 x1 x2 x3 YI
      clear hy hkl
      obtain ⟨yk, yo, yn, yA, yN, yC, yb⟩ := y
      simp only at x0 x1 x2 x3
      by_cases h5 : 500 < yN
      · have b0 := below_alloc1 wr (.cells #[.int .i64 yk, .int .i64 yo, .string yn, .slice yA yN yC] 45)
        have F1 := Lib.hid (F.out.past b0)
        have Y1 := Lib.hid (Has.newAt wr #[.int .i64 yk, .int .i64 yo, .string yn, .slice yA yN yC] 45 (g := wr.heap.size) rfl)
        have YI1 := Lib.hid (YI.out.below F1.out.HB)
        have gw := F.out.C.lt
        clear b0
        have c1 := F1.out.C.cell
        have m1 := F1.out.C.lt
        have y1 := Y1.out.cell
        have ym1 := Y1.out.lt
        
        go_wp2_with fail
        go_ret
        exact ⟨ret_bool (by first | rfl | simp), F1.out.HB⟩
      · by_cases k0 : yk = 0
        · subst k0
          have b0 := below_alloc1 wr (.cells #[.int .i64 0, .int .i64 yo, .string yn, .slice yA yN yC] 45)
          have F1 := Lib.hid (F.out.past b0)
          have Y1 := Lib.hid (Has.newAt wr #[.int .i64 0, .int .i64 yo, .string yn, .slice yA yN yC] 45 (g := wr.heap.size) rfl)
          have YI1 := Lib.hid (YI.out.below F1.out.HB)
          have gw := F.out.C.lt
          clear b0
          have c1 := F1.out.C.cell
          have m1 := F1.out.C.lt
          have y1 := Y1.out.cell
          have ym1 := Y1.out.lt
          
          have HL1 := Lib.hid F1.out.HL
          have PT := Lib.hid (put_any most A n c l yn yo yA yN yC yb _ F1.out.HL (by omega) YI1.out.sl YI1.out.nm YI1.out.wf)
          have pe : putE most (l.map Hd.val) yn yo = 1 ∨ putE most (l.map Hd.val) yn yo = 0 := by unfold putE; split <;> simp
          rcases pe with pe | pe
          · rw [pe, show putCap most (l.map Hd.val) yn yo = 0 from if_neg (by omega)] at PT
            clear pe
            go_wp2_with fail
            refine PT.out.mono ?_
            intro e w3 hx
            obtain ⟨A', n', c', l', rfl, hh', hv', hb3, _⟩ := hx
            have F3 := Lib.hid (F1.out.past hb3)
            have F4 := Lib.hid (F3.out.past (below_alloc1 w3 (.cells #[.int .i64 0, .slice A' n' c'] 24)))
            clear hh' hv' hb3 c1 m1 y1 ym1
            go_wp2_with fail
            go_roundg (nS - (k + 1))
            case measure => omega
            case rel => exact ⟨k + 1, A, n, c, l, Ap, np, cp, put, by omega, by omega, by omega, by omega, rfl, by go_num, F4, FA⟩
          · rw [pe, show putCap most (l.map Hd.val) yn yo = most from if_pos pe] at PT
            have PE := Lib.hid pe
            clear pe
            go_wp2_with fail
            refine PT.out.mono ?_
            intro e w3 hx
            obtain ⟨A', n', c', l', rfl, hh', hv', hb3, hnew⟩ := hx
            
            have F3 := Lib.hid (F1.out.past hb3)
            have Y3 := Lib.hid (Y1.out.past hb3)
            have F4 := Lib.hid (F3.out.past (below_alloc1 w3 (.cells #[.int .i64 most, .slice A' n' c'] 24)))
            have Y4 := Lib.hid (Y3.out.alloc (.cells #[.int .i64 most, .slice A' n' c'] 24))
            have X4 := Lib.hid (Has.newAt w3 #[.int .i64 most, .slice A' n' c'] 24 (g := w3.heap.size) rfl)
            have NW3 := Lib.hid hnew
            have HL3 := Lib.hid hh'
            have HV3 := Lib.hid hv'
            have z3 := hb3.size
            simp only [World.size_alloc] at z3
            clear hnew hh' hv' hb3 c1 m1 y1 ym1
            have c4 := F4.out.C.cell
            have f4 := F4.out.C.free
            have m4 := F4.out.C.lt
            have y4 := Y4.out.cell
            have ym4 := Y4.out.lt
            have x4 := X4.out.cell
            have xm4 := X4.out.lt
            
            have F5 := Lib.hid (show FI most w w2.heap.size (w2.heap.size + 1) (((w3.alloc (.cells #[.int .i64 most, .slice A' n' c'] 24)).setCell ⟨w2.heap.size, 0, none⟩ (.int .i64 most)).setCell ⟨w2.heap.size, 1, none⟩ (.slice A' n' c')) A' n' c' l' Ap np cp put from FI.set F4.out F1.out NW3.out (HL3.out.alloc _) (by rw [HV3.out]; exact (put_check PE.out).1))
            have Y5 := Lib.hid (show Has (((w3.alloc (.cells #[.int .i64 most, .slice A' n' c'] 24)).setCell ⟨w2.heap.size, 0, none⟩ (.int .i64 most)).setCell ⟨w2.heap.size, 1, none⟩ (.slice A' n' c')) wr.heap.size #[.int .i64 0, .int .i64 yo, .string yn, .slice yA yN yC] from Y4.out.grown (setCells_grown w2.heap.size [.int .i64 most, .slice A' n' c'] 0 (w3.alloc (.cells #[.int .i64 most, .slice A' n' c'] 24))) (by omega))
            have nn' : n' ≤ k + 1 := by
              have h1 := HL3.out.len
              have h2 := congrArg List.length HV3.out
              rw [List.length_map, h1] at h2
              have h3 := HL1.out.len
              rw [h2]
              refine Nat.le_trans put_len ?_
              rw [List.length_map]
              omega
            have y5 := Y5.out.cell
            have ym5 := Y5.out.lt
            have c5 := F5.out.C.cell
            have m5 := F5.out.C.lt
            
            have FF := Lib.hid (show Faith (put ++ [(⟨0, yo, yn, yA, yN, yC, yb⟩ : St)]) (l'.map Hd.val) from by rw [HV3.out]; exact faith_put (s := ⟨0, yo, yn, yA, yN, yC, yb⟩) FA.out rfl PE.out)
            
            have XZ := Lib.hid (Has.newAt (((w3.alloc (.cells #[.int .i64 most, .slice A' n' c'] 24)).setCell ⟨w2.heap.size, 0, none⟩ (.int .i64 most)).setCell ⟨w2.heap.size, 1, none⟩ (.slice A' n' c')) #[.int .i64 0, .int .i64 yo, .string yn, .slice yA yN yC] 45 (g := w3.heap.size + 1) (by simp))
            have F5z := Lib.hid (F5.out.past (below_alloc1 _ (.cells #[.int .i64 0, .int .i64 yo, .string yn, .slice yA yN yC] 45)))
            have q2 := Lib.hid (Has.news (cs := [.int .i64 0, .int .i64 yo, .string yn, .slice yA yN yC]) XZ.out)
            have q3 := Lib.hid (stK.one (⟨0, yo, yn, yA, yN, yC, yb⟩ : St))
            have q4 : np + 1 ≤ maxLen := by unfold maxLen; omega
            have q5 : (np + 1) * 56 ≤ 140737488355328 := by omega
            have q6 := Lib.hid F5z.out.GB.2.2
            go_wp2_with (at_builtin; refine wpList_append_own_at _ rfl _ _ 43 rfl (w2.heap.size + 1) 45 i0 _ 4 56 Try.underlying43 hi hz0 hz1 hz2 rfl (by decide) _ _ _ rfl F5z.out.PO ⟨w3.heap.size + 1, 0, none⟩ 1 1 [.int .i64 0, .int .i64 yo, .string yn, .slice yA yN yC] rfl rfl q2.out q3.out q4 q5 q6.out ?_)
            intro v' V hown hgrow _ hat
            obtain ⟨Ap2, cp2, rfl, hFV⟩ := FI.more (s := ⟨0, yo, yn, yA, yN, yC, yb⟩) (by simp) F5z.out (YI.out) hown hgrow hat
            have FV := Lib.hid hFV
            clear hown hgrow hat hFV y5 ym5 c5 m5
            
            have nb : n' ≤ 60000 := by omega
            have vc := FV.out.C.cell
            have vl := FV.out.C.lt
            have CKV := Lib.hid (fun w' (hb : Below (V).heap.size (V) w') => by
              have := check_any most A' n' c' l' w' (FV.out.HL.below hb) nb
              rw [FV.out.CH] at this
              exact this)
            obtain ⟨T, hT⟩ : ∃ T : Int, T = (sz (l'.map Hd.val) : Int) := ⟨_, rfl⟩
            have hTm : T ≤ most := by rw [hT]; exact (good_of_check FV.out.CH).2.2.2
            have USV := Lib.hid (fun w' (hb : Below (V).heap.size (V) w') => by
              have := used_any most A' n' c' l' w' (FV.out.HL.below hb) nb
              rw [show usedC most (l'.map Hd.val) = (sz (l'.map Hd.val) : Int) from if_pos FV.out.CH, ← hT] at this
              exact this)
            have d1 : decide (most < T) = false := decide_eq_false (by omega)
            have d2 : (most < T) = False := eq_false (by omega)
            clear hT
            go_wp2_with (first | (go_at_call 15; refine (CKV.out _ (Below.refl _ _)).mono ?_; rintro e w6 ⟨rfl, hb6⟩; have F6 := Lib.hid (FV.out.past hb6); have B6 := Lib.hid hb6; have c6 := F6.out.C.cell; have m6 := F6.out.C.lt; clear vc vl hb6) | (go_at_call 17; refine (USV.out _ B6.out).mono ?_; rintro e w7 ⟨rfl, hb7⟩; have F7 := Lib.hid (F6.out.past hb7); have c7 := F7.out.C.cell; have m7 := F7.out.C.lt; clear c6 m6 hb7))
            go_roundg (nS - (k + 1))
            case measure => omega
            case rel => exact ⟨k + 1, A', n', c', l', Ap2, (np + 1), cp2, _, by omega, by omega, by omega, by omega, rfl, by go_num, F7, FF⟩
        · by_cases k1 : yk = 1
          · subst k1
            clear k0
            have b0 := below_alloc1 wr (.cells #[.int .i64 1, .int .i64 yo, .string yn, .slice yA yN yC] 45)
            have F1 := Lib.hid (F.out.past b0)
            have Y1 := Lib.hid (Has.newAt wr #[.int .i64 1, .int .i64 yo, .string yn, .slice yA yN yC] 45 (g := wr.heap.size) rfl)
            have YI1 := Lib.hid (YI.out.below F1.out.HB)
            have gw := F.out.C.lt
            clear b0
            have c1 := F1.out.C.cell
            have m1 := F1.out.C.lt
            have y1 := Y1.out.cell
            have ym1 := Y1.out.lt
            
            have HL1 := Lib.hid F1.out.HL
            have GT := Lib.hid (get_any most A n c l yn yo _ F1.out.HL (by omega))
            rw [show capC most (l.map Hd.val) = most from if_pos F1.out.CH] at GT
            obtain ⟨ls, _, lc⟩ := get_same (name := yn) (no := yo) F1.out.CH
            have LS := Lib.hid ls
            have LC := Lib.hid lc
            clear ls lc
            cases ok : getOk most (l.map Hd.val) yn yo
            · rw [ok, getB_none ok] at GT
              clear ok
              go_wp2_with fail
              refine GT.out.mono ?_
              intro e w3 hx
              obtain ⟨A', n', c', l', Ab, nb', cb, rfl, hh', hv', hsb, hb3, hnew⟩ := hx
              have SB3 := Lib.hid hsb
              clear hsb
              
              have F3 := Lib.hid (F1.out.past hb3)
              have Y3 := Lib.hid (Y1.out.past hb3)
              have F4 := Lib.hid (F3.out.past (below_alloc1 w3 (.cells #[.int .i64 most, .slice A' n' c'] 24)))
              have Y4 := Lib.hid (Y3.out.alloc (.cells #[.int .i64 most, .slice A' n' c'] 24))
              have X4 := Lib.hid (Has.newAt w3 #[.int .i64 most, .slice A' n' c'] 24 (g := w3.heap.size) rfl)
              have NW3 := Lib.hid hnew
              have HL3 := Lib.hid hh'
              have HV3 := Lib.hid hv'
              have z3 := hb3.size
              simp only [World.size_alloc] at z3
              clear hnew hh' hv' hb3 c1 m1 y1 ym1
              have c4 := F4.out.C.cell
              have f4 := F4.out.C.free
              have m4 := F4.out.C.lt
              have y4 := Y4.out.cell
              have ym4 := Y4.out.lt
              have x4 := X4.out.cell
              have xm4 := X4.out.lt
              
              have F5 := Lib.hid (show FI most w w2.heap.size (w2.heap.size + 1) (((w3.alloc (.cells #[.int .i64 most, .slice A' n' c'] 24)).setCell ⟨w2.heap.size, 0, none⟩ (.int .i64 most)).setCell ⟨w2.heap.size, 1, none⟩ (.slice A' n' c')) A' n' c' l' Ap np cp put from FI.set F4.out F1.out NW3.out (HL3.out.alloc _) (by rw [HV3.out]; exact LC.out))
              have Y5 := Lib.hid (show Has (((w3.alloc (.cells #[.int .i64 most, .slice A' n' c'] 24)).setCell ⟨w2.heap.size, 0, none⟩ (.int .i64 most)).setCell ⟨w2.heap.size, 1, none⟩ (.slice A' n' c')) wr.heap.size #[.int .i64 1, .int .i64 yo, .string yn, .slice yA yN yC] from Y4.out.grown (setCells_grown w2.heap.size [.int .i64 most, .slice A' n' c'] 0 (w3.alloc (.cells #[.int .i64 most, .slice A' n' c'] 24))) (by omega))
              have nn' : n' ≤ k + 1 := by
                have h1 := HL3.out.len
                have h2 := congrArg List.length HV3.out
                rw [List.length_map, h1] at h2
                have h3 := HL1.out.len
                rw [h2]
                refine Nat.le_trans (Nat.le_of_eq LS.out) ?_
                rw [List.length_map]
                omega
              have y5 := Y5.out.cell
              have ym5 := Y5.out.lt
              have c5 := F5.out.C.cell
              have m5 := F5.out.C.lt
              
              have FF := Lib.hid (show Faith put (l'.map Hd.val) from by rw [HV3.out]; exact Faith.sub FA.out (fun x hx => get_mem hx))
              
              obtain rfl : nb' = 0 := SB3.out.len.symm
              go_wp2_with fail
              go_roundg (nS - (k + 1))
              case measure => omega
              case rel => exact ⟨k + 1, A', n', c', l', Ap, np, cp, put, by omega, by omega, by omega, by omega, rfl, by go_num, F5, FF⟩
            · rw [ok] at GT
              obtain ⟨q, q1, q2, q3⟩ := faith_get FA.out ok
              have Q1 := Lib.hid q1
              have Q2 := Lib.hid q2
              rw [← q3] at GT
              clear q1 q2 q3 ok
              go_wp2_with fail
              refine GT.out.mono ?_
              intro e w3 hx
              obtain ⟨A', n', c', l', Ab, nb', cb, rfl, hh', hv', hsb, hb3, hnew⟩ := hx
              have SB3 := Lib.hid hsb
              clear hsb
              
              have F3 := Lib.hid (F1.out.past hb3)
              have Y3 := Lib.hid (Y1.out.past hb3)
              have F4 := Lib.hid (F3.out.past (below_alloc1 w3 (.cells #[.int .i64 most, .slice A' n' c'] 24)))
              have Y4 := Lib.hid (Y3.out.alloc (.cells #[.int .i64 most, .slice A' n' c'] 24))
              have X4 := Lib.hid (Has.newAt w3 #[.int .i64 most, .slice A' n' c'] 24 (g := w3.heap.size) rfl)
              have NW3 := Lib.hid hnew
              have HL3 := Lib.hid hh'
              have HV3 := Lib.hid hv'
              have z3 := hb3.size
              simp only [World.size_alloc] at z3
              clear hnew hh' hv' hb3 c1 m1 y1 ym1
              have c4 := F4.out.C.cell
              have f4 := F4.out.C.free
              have m4 := F4.out.C.lt
              have y4 := Y4.out.cell
              have ym4 := Y4.out.lt
              have x4 := X4.out.cell
              have xm4 := X4.out.lt
              
              have F5 := Lib.hid (show FI most w w2.heap.size (w2.heap.size + 1) (((w3.alloc (.cells #[.int .i64 most, .slice A' n' c'] 24)).setCell ⟨w2.heap.size, 0, none⟩ (.int .i64 most)).setCell ⟨w2.heap.size, 1, none⟩ (.slice A' n' c')) A' n' c' l' Ap np cp put from FI.set F4.out F1.out NW3.out (HL3.out.alloc _) (by rw [HV3.out]; exact LC.out))
              have Y5 := Lib.hid (show Has (((w3.alloc (.cells #[.int .i64 most, .slice A' n' c'] 24)).setCell ⟨w2.heap.size, 0, none⟩ (.int .i64 most)).setCell ⟨w2.heap.size, 1, none⟩ (.slice A' n' c')) wr.heap.size #[.int .i64 1, .int .i64 yo, .string yn, .slice yA yN yC] from Y4.out.grown (setCells_grown w2.heap.size [.int .i64 most, .slice A' n' c'] 0 (w3.alloc (.cells #[.int .i64 most, .slice A' n' c'] 24))) (by omega))
              have nn' : n' ≤ k + 1 := by
                have h1 := HL3.out.len
                have h2 := congrArg List.length HV3.out
                rw [List.length_map, h1] at h2
                have h3 := HL1.out.len
                rw [h2]
                refine Nat.le_trans (Nat.le_of_eq LS.out) ?_
                rw [List.length_map]
                omega
              have y5 := Y5.out.cell
              have ym5 := Y5.out.lt
              have c5 := F5.out.C.cell
              have m5 := F5.out.C.lt
              
              have FF := Lib.hid (show Faith put (l'.map Hd.val) from by rw [HV3.out]; exact Faith.sub FA.out (fun x hx => get_mem hx))
              
              go_wp2_with fail
              obtain ⟨V, hV⟩ : ∃ V, V = (((w3.alloc (.cells #[.int .i64 most, .slice A' n' c'] 24)).setCell ⟨w2.heap.size, 0, none⟩ (.int .i64 most)).setCell ⟨w2.heap.size, 1, none⟩ (.slice A' n' c')) := ⟨_, rfl⟩
              have SBV := Lib.hid (show Sl u8K (((w3.alloc (.cells #[.int .i64 most, .slice A' n' c'] 24)).setCell ⟨w2.heap.size, 0, none⟩ (.int .i64 most)).setCell ⟨w2.heap.size, 1, none⟩ (.slice A' n' c')) Ab nb' cb q.bs from Sl.beside (SB3.out.alloc _) (setCells_grown w2.heap.size [.int .i64 most, .slice A' n' c'] 0 (w3.alloc (.cells #[.int .i64 most, .slice A' n' c'] 24))) (bytes_off F4.out.C (SB3.out.alloc _)) (fun _ _ => trivial))
              rw [← hV] at F5 Y5 SBV ⊢
              clear hV y5 ym5 c5 m5 c4 f4 m4 y4 ym4 x4 xm4
              go_loopg [101] np (fun gg s101 WV => ∃ i : Nat, i ≤ np ∧ np - i ≤ gg ∧ s101 = .int .i64 i ∧ Hid (lastOf yn yo (put.reverse.drop i) = lastOf yn yo put.reverse) ∧ Hid (Below V.heap.size V WV))
              case atStart => exact ⟨0, Nat.zero_le _, by omega, rfl, Lib.hid (by rw [List.drop_zero]), Below.refl _ _⟩
              case round =>
                obtain ⟨i, hin, hgi, rfl, hLO, hbv⟩ := hrel
                have FW := Lib.hid (F5.out.past hbv.out)
                by_cases hil : i < np
                · obtain ⟨j, hj⟩ : ∃ j, np = i + 1 + j := ⟨np - 1 - i, by omega⟩
                  have hjn : j < np := by omega
                  have wa : IntKind.i64.wrap ((np : Int) - 1) = (np : Int) - 1 := IntWalk.i64_in _ (by omega)
                  have wb : IntKind.i64.wrap ((np : Int) - 1 - (i : Int)) = (j : Int) := by rw [show ((np : Int) - 1 - (i : Int)) = (j : Int) by omega]; exact IntWalk.i64_in _ (by omega)
                  obtain ⟨b3, off3, hjl, rfl, hb3l, p0, p1, p2, p3⟩ := Sts.at_ FW.out.own.sl hjn
                  have LO := Lib.hid hLO.out
                  have PJ := Lib.hid (FW.out.PI put[j] (List.getElem_mem hjl))
                  rw [rev_drop FW.out.PL hj hjl] at LO
                  obtain ⟨p, hp⟩ : ∃ p, put[j] = p := ⟨_, rfl⟩
                  rw [hp] at LO PJ p0 p1 p2 p3
                  clear hp hLO hj hjl
                  obtain ⟨pk, po, pn, pA, pN, pC, pb⟩ := p
                  simp only at p0 p1 p2 p3
                  by_cases hn : pn = yn
                  · have hn' := hn.symm
                    subst hn'
                    by_cases ho : po = yo
                    · have ho' := ho.symm
                      subst ho'
                      have LE := LO.out
                      rw [last_key (p := ⟨pk, yo, yn, pA, pN, pC, pb⟩) rfl rfl, Q1.out] at LE
                      have LE' := Option.some.inj LE
                      subst LE'
                      obtain rfl : pk = 0 := Q2.out
                      clear LE
                      have ZI := Lib.hid (FW.out.past (below_alloc1 wr (.cells #[.int .i64 0, .int .i64 yo, .string yn, .slice pA pN pC] 45)))
                      have P1 := Lib.hid (Has.newAt wr #[.int .i64 0, .int .i64 yo, .string yn, .slice pA pN pC] 45 (g := wr.heap.size) rfl)
                      have YW := Lib.hid ((Y5.out.past hbv.out).alloc (.cells #[.int .i64 0, .int .i64 yo, .string yn, .slice pA pN pC] 45))
                      have pc := P1.out.cell
                      have pm := P1.out.lt
                      have yc := YW.out.cell
                      have ym := YW.out.lt
                      have vc := ZI.out.C.cell
                      have vl := ZI.out.C.lt
                      
                      have SL1 := Lib.hid (PJ.out.below ZI.out.HB).sl
                      have SL2 := Lib.hid (SBV.out.below (hbv.out.alloc hbv.out.size (.cells #[.int .i64 0, .int .i64 yo, .string yn, .slice pA pN pC] 45)))
                      have FV := ZI
                      
                      have nb : n' ≤ 60000 := by omega
                      have vc := FV.out.C.cell
                      have vl := FV.out.C.lt
                      have CKV := Lib.hid (fun w' (hb : Below (wr.alloc (.cells #[.int .i64 0, .int .i64 yo, .string yn, .slice pA pN pC] 45)).heap.size (wr.alloc (.cells #[.int .i64 0, .int .i64 yo, .string yn, .slice pA pN pC] 45)) w') => by
                        have := check_any most A' n' c' l' w' (FV.out.HL.below hb) nb
                        rw [FV.out.CH] at this
                        exact this)
                      obtain ⟨T, hT⟩ : ∃ T : Int, T = (sz (l'.map Hd.val) : Int) := ⟨_, rfl⟩
                      have hTm : T ≤ most := by rw [hT]; exact (good_of_check FV.out.CH).2.2.2
                      have USV := Lib.hid (fun w' (hb : Below (wr.alloc (.cells #[.int .i64 0, .int .i64 yo, .string yn, .slice pA pN pC] 45)).heap.size (wr.alloc (.cells #[.int .i64 0, .int .i64 yo, .string yn, .slice pA pN pC] 45)) w') => by
                        have := used_any most A' n' c' l' w' (FV.out.HL.below hb) nb
                        rw [show usedC most (l'.map Hd.val) = (sz (l'.map Hd.val) : Int) from if_pos FV.out.CH, ← hT] at this
                        exact this)
                      have d1 : decide (most < T) = false := decide_eq_false (by omega)
                      have d2 : (most < T) = False := eq_false (by omega)
                      clear hT
                      go_wp2_with (first | (go_at_call 22; refine (sameBs pA pN pC pb Ab nb' cb pb _ SL1.out SL2.out).mono ?_; rintro e w9 ⟨rfl, rfl⟩) | (go_at_call 15; refine (CKV.out _ (Below.refl _ _)).mono ?_; rintro e w6 ⟨rfl, hb6⟩; have F6 := Lib.hid (FV.out.past hb6); have B6 := Lib.hid hb6; have c6 := F6.out.C.cell; have m6 := F6.out.C.lt; clear vc vl hb6) | (go_at_call 17; refine (USV.out _ B6.out).mono ?_; rintro e w7 ⟨rfl, hb7⟩; have F7 := Lib.hid (F6.out.past hb7); have c7 := F7.out.C.cell; have m7 := F7.out.C.lt; clear c6 m6 hb7))
                      go_roundg (nS - (k + 1))
                      case measure => omega
                      case rel => exact ⟨k + 1, A', n', c', l', (some ⟨b3, off3, none⟩), np, cp, put, by omega, by omega, by omega, by omega, rfl, by go_num, F7, FF⟩
                    · by_cases hk2 : pk = 2
                      · exfalso
                        have LE := LO.out
                        rw [last_gone (p := ⟨pk, po, yn, pA, pN, pC, pb⟩) rfl ho hk2, Q1.out] at LE
                        cases LE
                      · have g1 : (po == yo) = false := by rw [beq_eq_false_iff_ne]; exact ho
                        have g2 : decide (po = yo) = false := decide_eq_false ho
                        have g3 : (pk == 2) = false := by rw [beq_eq_false_iff_ne]; exact hk2
                        have g4 : decide (pk = 2) = false := decide_eq_false hk2
                        have ZI := Lib.hid (FW.out.past (below_alloc1 wr (.cells #[.int .i64 pk, .int .i64 po, .string yn, .slice pA pN pC] 45)))
                        have P1 := Lib.hid (Has.newAt wr #[.int .i64 pk, .int .i64 po, .string yn, .slice pA pN pC] 45 (g := wr.heap.size) rfl)
                        have YW := Lib.hid ((Y5.out.past hbv.out).alloc (.cells #[.int .i64 pk, .int .i64 po, .string yn, .slice pA pN pC] 45))
                        have pc := P1.out.cell
                        have pm := P1.out.lt
                        have yc := YW.out.cell
                        have ym := YW.out.lt
                        have vc := ZI.out.C.cell
                        have vl := ZI.out.C.lt
                        
                        have LN := Lib.hid (show lastOf yn yo (put.reverse.drop (i + 1)) = lastOf yn yo put.reverse from by rw [← LO.out]; exact (last_next (fun e => ho e.2) (fun e => hk2 e.1)).symm)
                        clear LO vc vl
                        go_wp2_with fail
                        go_roundg (np - (i + 1))
                        case measure => omega
                        case rel => exact ⟨i + 1, by omega, by omega, by go_num, LN, hbv.out.alloc hbv.out.size _⟩
                  · have g1 := str_ne hn
                    have g2 : decide (pn = yn) = false := decide_eq_false hn
                    by_cases hk2 : pk = 2
                    · subst hk2
                      have ZI := Lib.hid (FW.out.past (below_alloc1 wr (.cells #[.int .i64 2, .int .i64 po, .string pn, .slice pA pN pC] 45)))
                      have P1 := Lib.hid (Has.newAt wr #[.int .i64 2, .int .i64 po, .string pn, .slice pA pN pC] 45 (g := wr.heap.size) rfl)
                      have YW := Lib.hid ((Y5.out.past hbv.out).alloc (.cells #[.int .i64 2, .int .i64 po, .string pn, .slice pA pN pC] 45))
                      have pc := P1.out.cell
                      have pm := P1.out.lt
                      have yc := YW.out.cell
                      have ym := YW.out.lt
                      have vc := ZI.out.C.cell
                      have vl := ZI.out.C.lt
                      
                      have LN := Lib.hid (show lastOf yn yo (put.reverse.drop (i + 1)) = lastOf yn yo put.reverse from by rw [← LO.out]; exact (last_next (fun e => hn e.1) (fun e => hn e.2)).symm)
                      clear LO vc vl
                      go_wp2_with fail
                      go_roundg (np - (i + 1))
                      case measure => omega
                      case rel => exact ⟨i + 1, by omega, by omega, by go_num, LN, hbv.out.alloc hbv.out.size _⟩
                    · have g3 : (pk == 2) = false := by rw [beq_eq_false_iff_ne]; exact hk2
                      have g4 : decide (pk = 2) = false := decide_eq_false hk2
                      have ZI := Lib.hid (FW.out.past (below_alloc1 wr (.cells #[.int .i64 pk, .int .i64 po, .string pn, .slice pA pN pC] 45)))
                      have P1 := Lib.hid (Has.newAt wr #[.int .i64 pk, .int .i64 po, .string pn, .slice pA pN pC] 45 (g := wr.heap.size) rfl)
                      have YW := Lib.hid ((Y5.out.past hbv.out).alloc (.cells #[.int .i64 pk, .int .i64 po, .string pn, .slice pA pN pC] 45))
                      have pc := P1.out.cell
                      have pm := P1.out.lt
                      have yc := YW.out.cell
                      have ym := YW.out.lt
                      have vc := ZI.out.C.cell
                      have vl := ZI.out.C.lt
                      
                      have LN := Lib.hid (show lastOf yn yo (put.reverse.drop (i + 1)) = lastOf yn yo put.reverse from by rw [← LO.out]; exact (last_next (fun e => hn e.1) (fun e => hk2 e.1)).symm)
                      clear LO vc vl
                      go_wp2_with fail
                      go_roundg (np - (i + 1))
                      case measure => omega
                      case rel => exact ⟨i + 1, by omega, by omega, by go_num, LN, hbv.out.alloc hbv.out.size _⟩
                · exfalso
                  obtain rfl : i = np := by omega
                  have LE := hLO.out
                  rw [List.drop_eq_nil_of_le (by rw [List.length_reverse, FW.out.PL]; omega), Q1.out] at LE
                  cases LE
          · have b0 := below_alloc1 wr (.cells #[.int .i64 yk, .int .i64 yo, .string yn, .slice yA yN yC] 45)
            have F1 := Lib.hid (F.out.past b0)
            have Y1 := Lib.hid (Has.newAt wr #[.int .i64 yk, .int .i64 yo, .string yn, .slice yA yN yC] 45 (g := wr.heap.size) rfl)
            have YI1 := Lib.hid (YI.out.below F1.out.HB)
            have gw := F.out.C.lt
            clear b0
            have c1 := F1.out.C.cell
            have m1 := F1.out.C.lt
            have y1 := Y1.out.cell
            have ym1 := Y1.out.lt
            
            have e0 : (yk == 0) = false := by rw [beq_eq_false_iff_ne]; exact k0
            have e1 : (yk == 1) = false := by rw [beq_eq_false_iff_ne]; exact k1
            have e2 : decide (yk = 0) = false := decide_eq_false k0
            have e3 : decide (yk = 1) = false := decide_eq_false k1
            have HL1 := Lib.hid F1.out.HL
            have DT := Lib.hid (drop_any most A n c l yn _ F1.out.HL (by omega))
            rw [show capC most (l.map Hd.val) = most from if_pos F1.out.CH] at DT
            go_wp2_with fail
            refine DT.out.mono ?_
            intro e w3 hx
            obtain ⟨A', n', c', l', rfl, hh', hv', hb3, hnew⟩ := hx
            have F3 := Lib.hid (F1.out.past hb3)
            have Y3 := Lib.hid (Y1.out.past hb3)
            have NW3 := Lib.hid hnew
            have HL3 := Lib.hid hh'
            have HV3 := Lib.hid hv'
            have z3 := hb3.size
            simp only [World.size_alloc] at z3
            clear hnew hh' hv' hb3 c1 m1 y1 ym1
            have c4 := F3.out.C.cell
            have f4 := F3.out.C.free
            have m4 := F3.out.C.lt
            have y4 := Y3.out.cell
            have ym4 := Y3.out.lt
            have F5 := Lib.hid (show FI most w w2.heap.size (w2.heap.size + 1) ((w3.setCell ⟨w2.heap.size, 0, none⟩ (.int .i64 most)).setCell ⟨w2.heap.size, 1, none⟩ (.slice A' n' c')) A' n' c' l' Ap np cp put from FI.set F3.out F1.out NW3.out HL3.out (by rw [HV3.out]; exact (drop_check F1.out.CH).1))
            have Y5 := Lib.hid (show Has ((w3.setCell ⟨w2.heap.size, 0, none⟩ (.int .i64 most)).setCell ⟨w2.heap.size, 1, none⟩ (.slice A' n' c')) wr.heap.size #[.int .i64 yk, .int .i64 yo, .string yn, .slice yA yN yC] from Y3.out.grown (setCells_grown w2.heap.size [.int .i64 most, .slice A' n' c'] 0 w3) (by omega))
            have nn' : n' ≤ k + 1 := by
              have h1 := HL3.out.len
              have h2 := congrArg List.length HV3.out
              rw [List.length_map, h1] at h2
              have h3 := HL1.out.len
              rw [h2]
              refine Nat.le_trans (drop_check F1.out.CH).2 ?_
              rw [List.length_map]
              omega
            have y5 := Y5.out.cell
            have ym5 := Y5.out.lt
            have c5 := F5.out.C.cell
            have m5 := F5.out.C.lt
            have FF := Lib.hid (show Faith (put ++ [(⟨2, -1, yn, none, 0, 0, []⟩ : St)]) (l'.map Hd.val) from by rw [HV3.out]; exact faith_drop FA.out rfl)
            have XZ := Lib.hid (Has.newAt ((w3.setCell ⟨w2.heap.size, 0, none⟩ (.int .i64 most)).setCell ⟨w2.heap.size, 1, none⟩ (.slice A' n' c')) #[.int .i64 2, .int .i64 (-1), .string yn, .slice none 0 0] 45 (g := w3.heap.size) (by simp))
            have F5z := Lib.hid (F5.out.past (below_alloc1 _ (.cells #[.int .i64 2, .int .i64 (-1), .string yn, .slice none 0 0] 45)))
            have q2 := Lib.hid (Has.news (cs := [.int .i64 2, .int .i64 (-1), .string yn, .slice none 0 0]) XZ.out)
            have q3 := Lib.hid (stK.one (⟨2, -1, yn, none, 0, 0, []⟩ : St))
            have q4 : np + 1 ≤ maxLen := by unfold maxLen; omega
            have q5 : (np + 1) * 56 ≤ 140737488355328 := by omega
            have q6 := Lib.hid F5z.out.GB.2.2
            have SI : Hid (St.In w (⟨2, -1, yn, none, 0, 0, []⟩ : St)) := Lib.hid ⟨Sl.nil _ _, Nat.zero_le _, YI.out.nm, (show (Lit.int .i64 2).wf = true by decide), (show (Lit.int .i64 (-1)).wf = true by decide)⟩
            go_wp2_with (at_builtin; refine wpList_append_own_at _ rfl _ _ 43 rfl (w2.heap.size + 1) 45 i0 _ 4 56 Try.underlying43 hi hz0 hz1 hz2 rfl (by decide) _ _ _ rfl F5z.out.PO ⟨w3.heap.size, 0, none⟩ 1 1 [.int .i64 2, .int .i64 (-1), .string yn, .slice none 0 0] rfl rfl q2.out q3.out q4 q5 q6.out ?_)
            intro v' V hown hgrow _ hat
            obtain ⟨Ap2, cp2, rfl, hFV⟩ := FI.more (s := ⟨2, -1, yn, none, 0, 0, []⟩) (by simp) F5z.out SI.out hown hgrow hat
            have FV := Lib.hid hFV
            clear hown hgrow hat hFV y5 ym5 c5 m5 e0 e1 e2 e3
            
            have nb : n' ≤ 60000 := by omega
            have vc := FV.out.C.cell
            have vl := FV.out.C.lt
            have CKV := Lib.hid (fun w' (hb : Below (V).heap.size (V) w') => by
              have := check_any most A' n' c' l' w' (FV.out.HL.below hb) nb
              rw [FV.out.CH] at this
              exact this)
            obtain ⟨T, hT⟩ : ∃ T : Int, T = (sz (l'.map Hd.val) : Int) := ⟨_, rfl⟩
            have hTm : T ≤ most := by rw [hT]; exact (good_of_check FV.out.CH).2.2.2
            have USV := Lib.hid (fun w' (hb : Below (V).heap.size (V) w') => by
              have := used_any most A' n' c' l' w' (FV.out.HL.below hb) nb
              rw [show usedC most (l'.map Hd.val) = (sz (l'.map Hd.val) : Int) from if_pos FV.out.CH, ← hT] at this
              exact this)
            have d1 : decide (most < T) = false := decide_eq_false (by omega)
            have d2 : (most < T) = False := eq_false (by omega)
            clear hT
            go_wp2_with (first | (go_at_call 15; refine (CKV.out _ (Below.refl _ _)).mono ?_; rintro e w6 ⟨rfl, hb6⟩; have F6 := Lib.hid (FV.out.past hb6); have B6 := Lib.hid hb6; have c6 := F6.out.C.cell; have m6 := F6.out.C.lt; clear vc vl hb6) | (go_at_call 17; refine (USV.out _ B6.out).mono ?_; rintro e w7 ⟨rfl, hb7⟩; have F7 := Lib.hid (F6.out.past hb7); have c7 := F7.out.C.cell; have m7 := F7.out.C.lt; clear c6 m6 hb7))
            go_roundg (nS - (k + 1))
            case measure => omega
            case rel => exact ⟨k + 1, A', n', c', l', Ap2, (np + 1), cp2, _, by omega, by omega, by omega, by omega, rfl, by go_num, F7, FF⟩

    · obtain rfl : k = nS := by omega
      go_wp2_with fail
      go_ret
      exact ⟨rfl, F.out.HB⟩

theorem faith_any (most : Int) (AS : Option Addr) (nS cS : Nat) (ss : List St) (w : World) (hs : Sl stK w AS nS cS ss) :
    Calls Try.prog 7 #[.int .i64 most, .slice AS nS cS] w fun e w' => e = .returned (.bool true) ∧ Below w.heap.size w w' := by
  by_cases h40 : 40 < nS
  · exact faith_out most AS nS cS w (.inl h40)
  · have : newE most = 0 ∨ newE most = 1 := by unfold newE; split <;> simp
    rcases this with h | h
    · exact faith_in most AS nS cS ss w hs h40 h
    · exact faith_out most AS nS cS w (.inr h)

end Go.Proofs.Ythjohjijcgiogaa
