/- Check, of the document. -/
import Derived.Test.YtmlgahambecamaaMet
import Derived.Test.YtmlgahambecamaaInp
import Derived.BigRegion
import Derived.Deep.DeepCutAuto
namespace Go.Proofs.Ytmlgahambecamaa
open Go.RowKit Go.Shelf

theorem allTo_bad {f : Nat → Bool} {n : Nat} (h : allTo f n = false) : ∃ k, k < n ∧ f k = false := by
  unfold allTo at h
  rw [List.all_eq_false] at h
  obtain ⟨k, hk, h⟩ := h
  exact ⟨k, List.mem_range.1 hk, by simpa using h⟩
theorem okSlip_eq (x : Sp) : okSlip x = (inR x.no 0 1099511627776 && inR x.kind 1 3 && ((decide (x.kind = 3) && inR x.amt 1 1099511627776) || (!decide (x.kind = 3) && decide (x.amt = 0)))) := by
  have e : okSlip x = (inR x.no 0 1099511627776 && (if x.kind = 3 then inR x.amt 1 1099511627776 else if x.kind = 1 ∨ x.kind = 2 then decide (x.amt = 0) else false)) := rfl
  rw [e, Bool.and_assoc]
  congr 1
  by_cases h3 : x.kind = 3
  · rw [if_pos h3, h3]
    simp [inR]
  · rw [if_neg h3, decide_eq_false h3]
    by_cases h : x.kind = 1 ∨ x.kind = 2
    · rw [if_pos h]
      have : inR x.kind 1 3 = true := by unfold inR; simp; omega
      rw [this]; simp
    · rw [if_neg h]
      have : inR x.kind 1 3 = false := by unfold inR; simp; omega
      rw [this]; simp
theorem inR_lt (x n : Int) : inR x 0 (n - 1) = (decide (0 ≤ x) && decide (x < n)) := by
  unfold inR
  congr 1
  rw [decide_eq_decide]
  omega

theorem msgAt_last (m : Nat) (now next : Int) (L : List Mg) (k : Nat) (h : k < L.length) : ∃ last : Bool, msgAt m now next (L.map Mg.val) k = (endB m L[k].frm && endB m L[k].dst && inR L[k].t now 1099511627776 && (decide (0 ≤ L[k].no) && decide (L[k].no < next)) && decide (L[k].bs.length ≤ 4096) && last) ∧ (k = 0 → last = true) ∧ (∀ j, k = j + 1 → ∀ hj : j < L.length, last = aheadB L[j].val L[k].val) := by
  cases k with
  | zero =>
    refine ⟨true, ?_, fun _ => rfl, fun j hj => absurd hj (by omega)⟩
    rw [msgAt_zero h, inR_lt, Bool.and_true]
    rfl
  | succ j =>
    have hj : j < L.length := by omega
    refine ⟨aheadB L[j].val L[j + 1].val, ?_, fun h => absurd h (by omega), fun i hi hj => ?_⟩
    rotate_left
    · obtain rfl : j = i := by omega
      rfl
    rw [msgAt_succ h hj, inR_lt]
    rfl

set_option maxHeartbeats 16000000 in
set_option maxRecDepth 100000 in
/-- Whether a net may be. -/
theorem rcheck_any (o : Nt) (w : World) (ho : Nt.At w o) : Calls Try.prog 16 #[o.v] w fun e w' => e = .returned (.int .i64 (checkI o.val)) ∧ Below w.heap.size w w' := by
  have hk1 := ho.k.cap
  have hk2 := ho.k.max
  have hs1 := ho.s.cap
  have hs2 := ho.s.max
  have hc1 := ho.c.cap
  have hc2 := ho.c.max
  have hl1 := ho.l.cap
  have hl2 := ho.l.max
  obtain ⟨V, hV⟩ : ∃ V, o.val = V := ⟨_, rfl⟩
  have VK : V.K = o.K := by rw [← hV]; rfl
  have VS : V.S = o.S := by rw [← hV]; rfl
  have VC : V.C = o.C := by rw [← hV]; rfl
  have VL : V.L = o.L.map Mg.val := by rw [← hV]; rfl
  have VN : V.now = o.now := by rw [← hV]; rfl
  have VX : V.next = o.next := by rw [← hV]; rfl
  have KL : V.K.length = o.Kn := by rw [VK]; exact ho.k.len
  have SL : V.S.length = o.Sn := by rw [VS]; exact ho.s.len
  have CL : V.C.length = o.Cn := by rw [VC]; exact ho.c.len
  have LL : V.L.length = o.Ln := by rw [VL, ← ho.l.len]; exact List.length_map _
  have TOP := Lib.hid (show topB V = (inR (o.Kn : Int) 1 20 && inR o.now 0 1099511627776 && inR o.next 0 1099511627776 && decide (o.Ln ≤ 1024)) from by unfold topB; rw [KL, LL, VN, VX]; rfl)
  have XK := Lib.hid (fun k (hk : k < o.Kn) (h : skewAt o.K k = false) => chk_skew (n := V) (k := k) (by rw [KL]; exact hk) (by rw [VK]; exact h))
  have XS := Lib.hid (fun k (hk : k < o.Sn) (h : slipAt o.S k = false) => chk_slip (n := V) (k := k) (by rw [SL]; exact hk) (by rw [VS]; exact h))
  have XC := Lib.hid (fun k (hk : k < o.Cn) (h : cutAt o.Kn o.C k = false) => chk_cut (n := V) (k := k) (by rw [CL]; exact hk) (by rw [KL, VC]; exact h))
  have XM := Lib.hid (fun k (hk : k < o.Ln) (h : msgAt o.Kn o.now o.next (o.L.map Mg.val) k = false) => chk_msg (n := V) (k := k) (by rw [LL]; exact hk) (by rw [KL, VN, VX, VL]; exact h))
  have YES := Lib.hid (fun (h0 : topB V = true) (h1 : allTo (skewAt o.K) o.Kn = true) (h2 : allTo (slipAt o.S) o.Sn = true) (h3 : allTo (cutAt o.Kn o.C) o.Cn = true) (h4 : allTo (msgAt o.Kn o.now o.next (o.L.map Mg.val)) o.Ln = true) => chk_yes (n := V) h0 (by rw [KL, VK]; exact h1) (by rw [SL, VS]; exact h2) (by rw [CL, KL, VC]; exact h3) (by rw [LL, KL, VN, VX, VL]; exact h4))
  have HK := Lib.hid ho.k
  have HS := Lib.hid ho.s
  have HC := Lib.hid ho.c
  have HL := Lib.hid ho.l
  rw [hV]
  clear VK VS VC VL VN VX KL SL CL LL ho hV
  obtain ⟨now, next, LA, Ln, Lc, L, SA, Sn, Sc, S, CA, Cn, Cc, C, KA, Kn, Kc, K⟩ := o
  dsimp only at *
  obtain ⟨W0, hW0⟩ : ∃ W0, W0 = w.alloc (.cells #[.int .i64 now, .int .i64 next, .slice LA Ln Lc, .slice SA Sn Sc, .slice CA Cn Cc, .slice KA Kn Kc] 27) := ⟨_, rfl⟩
  have B0 := Lib.hid (show Below w.heap.size w W0 from by rw [hW0]; exact below_alloc1 w _)
  have N0 := Lib.hid (show Has W0 w.heap.size #[.int .i64 now, .int .i64 next, .slice LA Ln Lc, .slice SA Sn Sc, .slice CA Cn Cc, .slice KA Kn Kc] from by rw [hW0]; exact Has.newAt w _ 27 rfl)
  have HW0 := Lib.hid hW0
  have c0 := N0.out.cell
  have l0 := N0.out.lt
  clear hW0
  show Calls Try.prog 16 #[.agg #[.int .i64 now, .int .i64 next, .slice LA Ln Lc, .slice SA Sn Sc, .slice CA Cn Cc, .slice KA Kn Kc]] w _
  have CHK := Lib.hid (fun (b : Bool) (hb : b = (topB V && allTo (skewAt K) Kn && allTo (slipAt S) Sn && allTo (cutAt Kn C) Cn && allTo (msgAt Kn now next (L.map Mg.val)) Ln)) => (show checkI V = if b = true then 0 else 1 from by
    cases b with
    | true =>
      have hb := hb.symm
      simp only [Bool.and_eq_true] at hb
      obtain ⟨⟨⟨⟨h0, h1⟩, h2⟩, h3⟩, h4⟩ := hb
      rw [YES.out h0 h1 h2 h3 h4]; rfl
    | false =>
      rw [if_neg (by decide)]
      cases h0 : topB V with
      | false => exact chk_top h0
      | true =>
      cases h1 : allTo (skewAt K) Kn with
      | false =>
        obtain ⟨k, hk, h⟩ : ∃ k, k < Kn ∧ skewAt K k = false := allTo_bad h1
        exact XK.out k hk h
      | true =>
      cases h2 : allTo (slipAt S) Sn with
      | false =>
        obtain ⟨k, hk, h⟩ := allTo_bad h2
        exact XS.out k hk h
      | true =>
      cases h3 : allTo (cutAt Kn C) Cn with
      | false =>
        obtain ⟨k, hk, h⟩ := allTo_bad h3
        exact XC.out k hk h
      | true =>
      cases h4 : allTo (msgAt Kn now next (L.map Mg.val)) Ln with
      | false =>
        obtain ⟨k, hk, h⟩ := allTo_bad h4
        exact XM.out k hk h
      | true => rw [h0, h1, h2, h3, h4] at hb; cases hb))
  clear XK XS XC XM YES
  go_enter Try.func16, Try.ntmps16
  go_upto_region 1 with (fail)
  rw [← HW0.out]
  go_cut [3] (fun s wx => s = .bool (topB V) ∧ W0 = wx)
  case first =>
    cases q1 : inR (Kn : Int) 1 20 with
    | false =>
      have Q1 := Lib.hid q1
      clear q1
      go_wp2_with (go_at_call 39; refine (in_any _ _ _ _).mono ?_; rintro e w' ⟨rfl, rfl⟩; first | rw [Q1.out])
      go_meet
      exact ⟨by rw [TOP.out, Q1.out]; simp, rfl⟩
    | true =>
    cases q2 : inR now 0 1099511627776 with
    | false =>
      have Q1 := Lib.hid q1
      have Q2 := Lib.hid q2
      clear q1 q2
      go_wp2_with (go_at_call 39; refine (in_any _ _ _ _).mono ?_; rintro e w' ⟨rfl, rfl⟩; first | rw [Q1.out] | rw [Q2.out])
      go_meet
      exact ⟨by rw [TOP.out, Q1.out, Q2.out]; simp, rfl⟩
    | true =>
    cases q3 : inR next 0 1099511627776 with
    | false =>
      have Q1 := Lib.hid q1
      have Q2 := Lib.hid q2
      have Q3 := Lib.hid q3
      clear q1 q2 q3
      go_wp2_with (go_at_call 39; refine (in_any _ _ _ _).mono ?_; rintro e w' ⟨rfl, rfl⟩; first | rw [Q1.out] | rw [Q2.out] | rw [Q3.out])
      go_meet
      exact ⟨by rw [TOP.out, Q1.out, Q2.out, Q3.out]; simp, rfl⟩
    | true =>
      have Q1 := Lib.hid q1
      have Q2 := Lib.hid q2
      have Q3 := Lib.hid q3
      clear q1 q2 q3
      go_wp2_with (go_at_call 39; refine (in_any _ _ _ _).mono ?_; rintro e w' ⟨rfl, rfl⟩; first | rw [Q1.out] | rw [Q2.out] | rw [Q3.out])
      go_meet
      exact ⟨by rw [TOP.out, Q1.out, Q2.out, Q3.out]; simp <;> omega, rfl⟩
  case rest =>
    obtain ⟨rfl, rfl⟩ := hcut
    obtain ⟨P0, hP0⟩ : ∃ b, topB V = b := ⟨_, rfl⟩
    rw [hP0]
    have HP0 := Lib.hid hP0.symm
    clear hP0 TOP
    have EA := Lib.hid (fun a W => (show Calls Try.prog 40 #[.agg #[.int .i64 now, .int .i64 next, .slice LA Ln Lc, .slice SA Sn Sc, .slice CA Cn Cc, .slice KA Kn Kc], .int .i64 a] W (fun e w' => e = .returned (.bool (endB Kn a)) ∧ Below W.heap.size W w') from end_any ⟨now, next, LA, Ln, Lc, L, SA, Sn, Sc, S, CA, Cn, Cc, C, KA, Kn, Kc, K⟩ a W))
    go_wp2_with fail
    go_loopg [3, 39] Kn (fun gg s3 s wr => ∃ (k : Nat) (b : Bool), k ≤ Kn ∧ Kn - k ≤ gg ∧ s3 = .bool b ∧ s = .int .i64 k ∧ W0 = wr ∧ Hid (b = (topB V && allTo (skewAt K) k)))
    case atStart => exact ⟨0, P0, Nat.zero_le _, by omega, rfl, rfl, rfl, Lib.hid (by rw [HP0.out, allTo_zero, Bool.and_true])⟩
    case round =>
      obtain ⟨k, b, hk, hgg, rfl, rfl, rfl, I1⟩ := hrel
      by_cases hlt : k < Kn
      · obtain ⟨bb, off, hkl, rfl, hbl, x0⟩ := int_at (HK.out.below B0.out) hlt
        have AT := Lib.hid (skewAt_at hkl)
        generalize K[k] = x at *
        cases b with
        | false =>
          have I2 := Lib.hid (show false = (topB V && allTo (skewAt K) (k + 1)) from by rw [allTo_succ, ← Bool.and_assoc, ← I1.out]; rfl)
          go_wp2_with fail
          go_roundg (Kn - (k + 1))
          case measure => omega
          case rel => exact ⟨k + 1, false, by omega, by omega, rfl, by go_num, rfl, I2⟩
        | true =>
          have I2 := Lib.hid (show inR x (-10) 10 = (topB V && allTo (skewAt K) (k + 1)) from by rw [allTo_succ, ← Bool.and_assoc, ← I1.out, AT.out]; rfl)
          go_wp2_with (go_at_call 39; refine (in_any _ _ _ _).mono ?_; rintro e w' ⟨rfl, rfl⟩)
          go_roundg (Kn - (k + 1))
          case measure => omega
          case rel => exact ⟨k + 1, _, by omega, by omega, rfl, by go_num, rfl, I2⟩
      · obtain rfl : Kn = k := by omega
        have IK := I1
        clear I1 hgg hk hlt HP0
        go_wp2_with fail
        go_loopg [3, 52] Sn (fun gg s3 s wr => ∃ (k : Nat) (b : Bool), k ≤ Sn ∧ Sn - k ≤ gg ∧ s3 = .bool b ∧ s = .int .i64 k ∧ Hid (Has wr w.heap.size #[.int .i64 now, .int .i64 next, .slice LA Ln Lc, .slice SA Sn Sc, .slice CA Cn Cc, .slice KA Kn Kc]) ∧ Hid (Below w.heap.size w wr) ∧ Hid (b = (topB V && allTo (skewAt K) Kn && allTo (slipAt S) k)))
        case atStart => exact ⟨0, b, Nat.zero_le _, by omega, rfl, rfl, N0, B0, Lib.hid (by rw [IK.out, allTo_zero, Bool.and_true])⟩
        case round =>
          clear IK
          obtain ⟨k, b, hk, hgg, rfl, rfl, N2, B2, I1⟩ := hrel
          clear c0 l0
          have c2 := N2.out.cell
          have l2 := N2.out.lt
          by_cases hlt : k < Sn
          · obtain ⟨bb, off, hkl, rfl, hbl, x0, x1, x2⟩ := sp_at (HS.out.below B2.out) hlt
            have AT := Lib.hid (slipAt_at hkl)
            generalize S[k] = x at *
            have OK := Lib.hid (okSlip_eq x)
            have N3 := Lib.hid (N2.out.alloc (.cells #[.int .i64 x.no, .int .i64 x.kind, .int .i64 x.amt] 54))
            have B3 := Lib.hid (B2.out.alloc B2.out.size (.cells #[.int .i64 x.no, .int .i64 x.kind, .int .i64 x.amt] 54))
            have X3 := Lib.hid (Has.newAt wr #[.int .i64 x.no, .int .i64 x.kind, .int .i64 x.amt] 54 (g := wr.heap.size) rfl)
            go_upto_region 11 with (fail)
            go_cut [3, 8] (fun s _ wx => s = .bool (b && okSlip x) ∧ wr.alloc (.cells #[.int .i64 x.no, .int .i64 x.kind, .int .i64 x.amt] 54) = wx)
            case first =>
              cases b with
              | false =>
                go_wp2_with fail
                go_meet
                exact ⟨by simp, rfl⟩
              | true =>
              cases q1 : inR x.no 0 1099511627776 with
              | false =>
                have Q1 := Lib.hid q1
                clear q1
                go_wp2_with (go_at_call 39; refine (in_any _ _ _ _).mono ?_; rintro e w' ⟨rfl, rfl⟩; first | rw [Q1.out])
                go_meet
                exact ⟨by rw [OK.out, Q1.out]; simp, rfl⟩
              | true =>
              cases q2 : inR x.kind 1 3 with
              | false =>
                have Q1 := Lib.hid q1
                have Q2 := Lib.hid q2
                clear q1 q2
                go_wp2_with (go_at_call 39; refine (in_any _ _ _ _).mono ?_; rintro e w' ⟨rfl, rfl⟩; first | rw [Q1.out] | rw [Q2.out])
                go_meet
                exact ⟨by rw [OK.out, Q1.out, Q2.out]; simp, rfl⟩
              | true =>
              have Q1 := Lib.hid q1
              have Q2 := Lib.hid q2
              clear q1 q2
              by_cases k3 : x.kind = 3
              · have d3 : (x.kind == 3) = true := by rw [beq_iff_eq]; exact k3
                have D3 := Lib.hid (decide_eq_true k3)
                clear k3
                cases q3 : inR x.amt 1 1099511627776 with
                | false =>
                  have Q3 := Lib.hid q3
                  clear q3
                  go_wp2_with (go_at_call 39; refine (in_any _ _ _ _).mono ?_; rintro e w' ⟨rfl, rfl⟩; first | rw [Q1.out] | rw [Q2.out] | rw [Q3.out])
                  go_meet
                  exact ⟨by rw [OK.out, Q1.out, Q2.out, Q3.out, D3.out]; simp, rfl⟩
                | true =>
                  have Q3 := Lib.hid q3
                  clear q3
                  go_wp2_with (go_at_call 39; refine (in_any _ _ _ _).mono ?_; rintro e w' ⟨rfl, rfl⟩; first | rw [Q1.out] | rw [Q2.out] | rw [Q3.out])
                  go_meet
                  exact ⟨by rw [OK.out, Q1.out, Q2.out, Q3.out, D3.out]; simp, rfl⟩
              · have d3 : (x.kind == 3) = false := by rw [beq_eq_false_iff_ne]; exact k3
                have D3 := Lib.hid (decide_eq_false k3)
                clear k3
                go_wp2_with (go_at_call 39; refine (in_any _ _ _ _).mono ?_; rintro e w' ⟨rfl, rfl⟩; first | rw [Q1.out] | rw [Q2.out])
                go_meet
                exact ⟨by rw [OK.out, Q1.out, Q2.out, D3.out]; by_cases h : x.amt = 0 <;> simp [h], rfl⟩
            case rest =>
              obtain ⟨rfl, rfl⟩ := hcut
              obtain ⟨c, hc⟩ : ∃ c, (b && okSlip x) = c := ⟨_, rfl⟩
              rw [hc]
              have HCC := Lib.hid hc.symm
              have n3c := N3.out.cell
              have n3l := N3.out.lt
              have k1 : (k : Int) ≤ (Sc : Int) := by omega
              clear hc
              go_wp2_with fail
              go_loopg [3, 93] k (fun gg s3 s wi => ∃ (j : Nat) (c' : Bool), j ≤ k ∧ k - j ≤ gg ∧ s3 = .bool c' ∧ s = .int .i64 j ∧ Hid (Has wi w.heap.size #[.int .i64 now, .int .i64 next, .slice LA Ln Lc, .slice (some ⟨bb, off, none⟩) Sn Sc, .slice CA Cn Cc, .slice KA Kn Kc]) ∧ Hid (Has wi wr.heap.size #[.int .i64 x.no, .int .i64 x.kind, .int .i64 x.amt]) ∧ Hid (Below w.heap.size w wi) ∧ Hid (c' = (c && !noIn x.no (S.take j))))
              case atStart => exact ⟨0, c, Nat.zero_le _, by omega, rfl, rfl, N3, X3, B3, Lib.hid (by simp [noIn])⟩
              case round =>
                obtain ⟨j, c', hj, hgj, rfl, rfl, N4, X4, B4, I2⟩ := hrel
                clear n3c n3l c2 l2 x0 x1 x2
                have n4c := N4.out.cell
                have n4l := N4.out.lt
                have x4c := X4.out.cell
                have x4l := X4.out.lt
                by_cases hlj : j < k
                · obtain ⟨b', off', hjl, e, hbj, y0, y1, y2⟩ := sp_at (HS.out.below B4.out) (show j < Sn by omega)
                  injection e with e; injection e with e1 e2
                  subst e1 e2
                  have TS := Lib.hid (show noIn x.no (S.take (j + 1)) = (noIn x.no (S.take j) || decide (S[j].no = x.no)) from by rw [List.take_succ_eq_append_getElem hjl, noIn_snoc])
                  generalize S[j] = y at *
                  have N5 := Lib.hid (N4.out.alloc (.cells #[.int .i64 y.no, .int .i64 y.kind, .int .i64 y.amt] 54))
                  have X5 := Lib.hid (X4.out.alloc (.cells #[.int .i64 y.no, .int .i64 y.kind, .int .i64 y.amt] 54))
                  have B5 := Lib.hid (B4.out.alloc B4.out.size (.cells #[.int .i64 y.no, .int .i64 y.kind, .int .i64 y.amt] 54))
                  cases c' with
                  | false =>
                    have I3 := Lib.hid (show false = (c && !noIn x.no (S.take (j + 1))) from by rw [TS.out, Bool.not_or, ← Bool.and_assoc, ← I2.out]; rfl)
                    go_wp2_with fail
                    go_roundg (k - (j + 1))
                    case measure => omega
                    case rel => exact ⟨j + 1, false, by omega, by omega, rfl, by go_num, N5, X5, B5, I3⟩
                  | true =>
                    have I3 := Lib.hid (show (y.no != x.no) = (c && !noIn x.no (S.take (j + 1))) from by rw [TS.out, Bool.not_or, ← Bool.and_assoc, ← I2.out]; by_cases h : y.no = x.no <;> simp [h])
                    go_wp2_with fail
                    go_roundg (k - (j + 1))
                    case measure => omega
                    case rel => exact ⟨j + 1, _, by omega, by omega, rfl, by go_num, N5, X5, B5, by first | exact I3 | (simpa using I3)⟩
                · obtain rfl : k = j := by omega
                  have I3 := Lib.hid (show c' = (topB V && allTo (skewAt K) Kn && allTo (slipAt S) (k + 1)) from by rw [allTo_succ, ← Bool.and_assoc, ← I1.out, AT.out, I2.out, HCC.out, Bool.and_assoc])
                  go_wp2_with fail
                  go_roundg (Sn - (k + 1))
                  case measure => omega
                  case rel => exact ⟨k + 1, c', by omega, by omega, rfl, by go_num, N4, B4, I3⟩
          · obtain rfl : Sn = k := by omega
            have IS := I1
            clear I1 hgg hk hlt
            go_wp2_with fail
            go_loopg [3, 110] Cn (fun gg s3 s wr => ∃ (k : Nat) (b : Bool), k ≤ Cn ∧ Cn - k ≤ gg ∧ s3 = .bool b ∧ s = .int .i64 k ∧ Hid (Has wr w.heap.size #[.int .i64 now, .int .i64 next, .slice LA Ln Lc, .slice SA Sn Sc, .slice CA Cn Cc, .slice KA Kn Kc]) ∧ Hid (Below w.heap.size w wr) ∧ Hid (b = (topB V && allTo (skewAt K) Kn && allTo (slipAt S) Sn && allTo (cutAt Kn C) k)))
            case atStart => exact ⟨0, b, Nat.zero_le _, by omega, rfl, rfl, N2, B2, Lib.hid (by rw [IS.out, allTo_zero, Bool.and_true])⟩
            case round =>
              clear IS c2 l2 N2 B2
              obtain ⟨k, b, hk, hgg, rfl, rfl, N3, B3, I1⟩ := hrel
              have c3 := N3.out.cell
              have l3 := N3.out.lt
              by_cases hlt : k < Cn
              · obtain ⟨bb, off, hkl, rfl, hbl, x0, x1⟩ := pr_at (HC.out.below B3.out) hlt
                have AT0 := Lib.hid (fun (h0 : k = 0) => (show cutAt Kn C k = (endB Kn C[k].a && endB Kn C[k].b && decide (C[k].a < C[k].b)) from by subst h0; exact cutAt_zero hkl))
                have AT1 := Lib.hid (fun j (h0 : k = j + 1) => (show cutAt Kn C k = (endB Kn C[k].a && endB Kn C[k].b && decide (C[k].a < C[k].b) && ltP (C[j]'(by omega)) C[k]) from by subst h0; exact cutAt_succ hkl (by omega)))
                generalize C[k] = x at *
                have N4 := Lib.hid (N3.out.alloc (.cells #[.int .i64 x.a, .int .i64 x.b] 63))
                have B4 := Lib.hid (B3.out.alloc B3.out.size (.cells #[.int .i64 x.a, .int .i64 x.b] 63))
                have X4 := Lib.hid (Has.newAt wr #[.int .i64 x.a, .int .i64 x.b] 63 (g := wr.heap.size) rfl)
                have n4c := N4.out.cell
                have n4l := N4.out.lt
                have x4c := X4.out.cell
                have x4l := X4.out.lt
                go_upto_region 21 with (fail)
                go_cut [3] (fun s wx => s = .bool (b && endB Kn x.a && endB Kn x.b && decide (x.a < x.b)) ∧ Hid (Has wx w.heap.size #[.int .i64 now, .int .i64 next, .slice LA Ln Lc, .slice SA Sn Sc, .slice (some ⟨bb, off, none⟩) Cn Cc, .slice KA Kn Kc]) ∧ Hid (Has wx wr.heap.size #[.int .i64 x.a, .int .i64 x.b]) ∧ Hid (Below w.heap.size w wx))
                case first =>
                  cases b with
                  | false =>
                    go_wp2_with fail
                    go_meet
                    exact ⟨by simp, N4, X4, B4⟩
                  | true =>
                  cases e1 : endB Kn x.a with
                  | false =>
                    have E1 := Lib.hid e1
                    clear e1
                    go_wp2_with (go_at_call 40; refine (EA.out _ _).mono ?_; rintro e w' ⟨rfl, hb⟩; (first | rw [E1.out]); replace B4 := Lib.hid (below_from hb B4.out B4.out.size); replace N4 := Lib.hid (N4.out.past hb); replace X4 := Lib.hid (X4.out.past hb); replace n4c := N4.out.cell; replace n4l := N4.out.lt; replace x4c := X4.out.cell; replace x4l := X4.out.lt; clear hb)
                    go_meet
                    exact ⟨by rw [E1.out]; simp, N4, X4, B4⟩
                  | true =>
                  cases e2 : endB Kn x.b with
                  | false =>
                    have E1 := Lib.hid e1
                    have E2 := Lib.hid e2
                    clear e1 e2
                    go_wp2_with (go_at_call 40; refine (EA.out _ _).mono ?_; rintro e w' ⟨rfl, hb⟩; (first | rw [E1.out] | rw [E2.out]); replace B4 := Lib.hid (below_from hb B4.out B4.out.size); replace N4 := Lib.hid (N4.out.past hb); replace X4 := Lib.hid (X4.out.past hb); replace n4c := N4.out.cell; replace n4l := N4.out.lt; replace x4c := X4.out.cell; replace x4l := X4.out.lt; clear hb)
                    go_meet
                    exact ⟨by rw [E1.out, E2.out]; simp, N4, X4, B4⟩
                  | true =>
                    have E1 := Lib.hid e1
                    have E2 := Lib.hid e2
                    clear e1 e2
                    go_wp2_with (go_at_call 40; refine (EA.out _ _).mono ?_; rintro e w' ⟨rfl, hb⟩; (first | rw [E1.out] | rw [E2.out]); replace B4 := Lib.hid (below_from hb B4.out B4.out.size); replace N4 := Lib.hid (N4.out.past hb); replace X4 := Lib.hid (X4.out.past hb); replace n4c := N4.out.cell; replace n4l := N4.out.lt; replace x4c := X4.out.cell; replace x4l := X4.out.lt; clear hb)
                    go_meet
                    exact ⟨by rw [E1.out, E2.out]; simp, N4, X4, B4⟩
                case rest =>
                  clear N4 B4 X4 n4c n4l x4c x4l c3 l3
                  obtain ⟨rfl, N4, X4, B4⟩ := hcut
                  have n4c := N4.out.cell
                  have n4l := N4.out.lt
                  have x4c := X4.out.cell
                  have x4l := X4.out.lt
                  by_cases h0 : k = 0
                  · have I3 := Lib.hid (show (b && endB Kn x.a && endB Kn x.b && decide (x.a < x.b)) = (topB V && allTo (skewAt K) Kn && allTo (slipAt S) Sn && allTo (cutAt Kn C) (k + 1)) from by rw [allTo_succ, ← Bool.and_assoc, ← I1.out, AT0.out h0]; simp only [Bool.and_assoc])
                    subst h0
                    go_wp2_with fail
                    go_roundg (Cn - (0 + 1))
                    case measure => omega
                    case rel => exact ⟨0 + 1, _, by omega, by omega, rfl, by go_num, N4, B4, I3⟩
                  · obtain ⟨j, rfl⟩ : ∃ j, k = j + 1 := ⟨k - 1, by omega⟩
                    have hjl : j < C.length := by omega
                    have I3 := Lib.hid (show (b && endB Kn x.a && endB Kn x.b && decide (x.a < x.b) && ltP C[j] x) = (topB V && allTo (skewAt K) Kn && allTo (slipAt S) Sn && allTo (cutAt Kn C) (j + 1 + 1)) from by rw [allTo_succ, ← Bool.and_assoc, ← I1.out, AT1.out j rfl]; simp only [Bool.and_assoc])
                    obtain ⟨c, hc⟩ : ∃ c, (b && endB Kn x.a && endB Kn x.b && decide (x.a < x.b)) = c := ⟨_, rfl⟩
                    rw [hc] at I3
                    rw [hc]
                    clear hc
                    obtain ⟨b2, off2, hkl2, e, hbl2, y0, y1⟩ := pr_at (HC.out.below B4.out) (show j < Cn by omega)
                    injection e with e; injection e with e1 e2
                    subst e1 e2
                    have dk : decide ((0 : Int) < (j : Int) + 1) = true := decide_eq_true (by omega)
                    have jk : (j : Int) < (Cn : Int) := by omega
                    generalize C[j] = y at *
                    have LT : Hid (ltP y x = (decide (y.a < x.a) || (decide (y.a = x.a) && decide (y.b < x.b)))) := Lib.hid rfl
                    have N5 := Lib.hid (N4.out.alloc (.cells #[.int .i64 y.a, .int .i64 y.b] 63))
                    have B5 := Lib.hid (B4.out.alloc B4.out.size (.cells #[.int .i64 y.a, .int .i64 y.b] 63))
                    cases c with
                    | false =>
                      have I4 := Lib.hid (show false = (topB V && allTo (skewAt K) Kn && allTo (slipAt S) Sn && allTo (cutAt Kn C) (j + 1 + 1)) from by rw [← I3.out]; rfl)
                      go_wp2_with fail
                      go_roundg (Cn - (j + 1 + 1))
                      case measure => omega
                      case rel => exact ⟨j + 1 + 1, _, by omega, by omega, rfl, by go_num, N5, B5, I4⟩
                    | true =>
                      by_cases h1 : y.a < x.a
                      · have d1 : decide (y.a < x.a) = true := decide_eq_true h1
                        have I4 := Lib.hid (show true = (topB V && allTo (skewAt K) Kn && allTo (slipAt S) Sn && allTo (cutAt Kn C) (j + 1 + 1)) from by rw [← I3.out, LT.out, d1]; rfl)
                        clear h1
                        go_wp2_with fail
                        go_roundg (Cn - (j + 1 + 1))
                        case measure => omega
                        case rel => exact ⟨j + 1 + 1, _, by omega, by omega, rfl, by go_num, N5, B5, I4⟩
                      · have d1 : decide (y.a < x.a) = false := decide_eq_false h1
                        by_cases h2 : y.a = x.a
                        · have d2 : (y.a == x.a) = true := by rw [beq_iff_eq]; exact h2
                          have I4 := Lib.hid (show decide (y.b < x.b) = (topB V && allTo (skewAt K) Kn && allTo (slipAt S) Sn && allTo (cutAt Kn C) (j + 1 + 1)) from by rw [← I3.out, LT.out, d1, decide_eq_true h2]; simp)
                          clear h1 h2
                          go_wp2_with fail
                          go_roundg (Cn - (j + 1 + 1))
                          case measure => omega
                          case rel => exact ⟨j + 1 + 1, _, by omega, by omega, rfl, by go_num, N5, B5, I4⟩
                        · have d2 : (y.a == x.a) = false := by rw [beq_eq_false_iff_ne]; exact h2
                          have I4 := Lib.hid (show false = (topB V && allTo (skewAt K) Kn && allTo (slipAt S) Sn && allTo (cutAt Kn C) (j + 1 + 1)) from by rw [← I3.out, LT.out, d1, decide_eq_false h2]; rfl)
                          clear h1 h2
                          go_wp2_with fail
                          go_roundg (Cn - (j + 1 + 1))
                          case measure => omega
                          case rel => exact ⟨j + 1 + 1, _, by omega, by omega, rfl, by go_num, N5, B5, I4⟩
              · obtain rfl : Cn = k := by omega
                have IC := I1
                clear I1 hgg hk hlt
                go_wp2_with fail
                go_loopg [3, 169] Ln (fun gg s3 s wr => ∃ (k : Nat) (b : Bool), k ≤ Ln ∧ Ln - k ≤ gg ∧ s3 = .bool b ∧ s = .int .i64 k ∧ Hid (Has wr w.heap.size #[.int .i64 now, .int .i64 next, .slice LA Ln Lc, .slice SA Sn Sc, .slice CA Cn Cc, .slice KA Kn Kc]) ∧ Hid (Below w.heap.size w wr) ∧ Hid (b = (topB V && allTo (skewAt K) Kn && allTo (slipAt S) Sn && allTo (cutAt Kn C) Cn && allTo (msgAt Kn now next (L.map Mg.val)) k)))
                case atStart => exact ⟨0, b, Nat.zero_le _, by omega, rfl, rfl, N3, B3, Lib.hid (by rw [IC.out, allTo_zero, Bool.and_true])⟩
                case round =>
                  clear IC c3 l3 N3 B3
                  obtain ⟨k, b, hk, hgg, rfl, rfl, N4, B4, I1⟩ := hrel
                  have c4 := N4.out.cell
                  have l4 := N4.out.lt
                  by_cases hlt : k < Ln
                  · obtain ⟨bb, off, hkl, rfl, hbl, x0, x1, x2, x3, x4⟩ := mg_at (HL.out.below B4.out) hlt
                    have bl : L[k].bs.length = L[k].n := (HL.out.each L[k] (List.getElem_mem hkl)).len
                    obtain ⟨lastB, AT, H0, H1⟩ := msgAt_last Kn now next L k hkl
                    have AT := Lib.hid AT
                    have H0 := Lib.hid H0
                    have H1 := Lib.hid H1
                    generalize L[k] = x at *
                    have B5 := Lib.hid (B4.out.alloc B4.out.size (.cells #[.int .i64 x.t, .int .i64 x.no, .int .i64 x.frm, .int .i64 x.dst, .slice x.A x.n x.c] 40))
                    have N5 := Lib.hid (N4.out.alloc (.cells #[.int .i64 x.t, .int .i64 x.no, .int .i64 x.frm, .int .i64 x.dst, .slice x.A x.n x.c] 40))
                    have X5 := Lib.hid (Has.newAt wr #[.int .i64 x.t, .int .i64 x.no, .int .i64 x.frm, .int .i64 x.dst, .slice x.A x.n x.c] 40 (g := wr.heap.size) rfl)
                    have FA := Lib.hid (fun w' (_ : Below (wr.alloc (.cells #[.int .i64 x.t, .int .i64 x.no, .int .i64 x.frm, .int .i64 x.dst, .slice x.A x.n x.c] 40)).heap.size (wr.alloc (.cells #[.int .i64 x.t, .int .i64 x.no, .int .i64 x.frm, .int .i64 x.dst, .slice x.A x.n x.c] 40)) w') => EA.out x.frm w')
                    have FB := Lib.hid (fun w' (_ : Below (wr.alloc (.cells #[.int .i64 x.t, .int .i64 x.no, .int .i64 x.frm, .int .i64 x.dst, .slice x.A x.n x.c] 40)).heap.size (wr.alloc (.cells #[.int .i64 x.t, .int .i64 x.no, .int .i64 x.frm, .int .i64 x.dst, .slice x.A x.n x.c] 40)) w') => EA.out x.dst w')
                    have FT := Lib.hid (fun w' (_ : Below (wr.alloc (.cells #[.int .i64 x.t, .int .i64 x.no, .int .i64 x.frm, .int .i64 x.dst, .slice x.A x.n x.c] 40)).heap.size (wr.alloc (.cells #[.int .i64 x.t, .int .i64 x.no, .int .i64 x.frm, .int .i64 x.dst, .slice x.A x.n x.c] 40)) w') => in_any x.t now 1099511627776 w')
                    have rn0 := at_regrown (N5.out.cell 0)
                    have rn1 := at_regrown (N5.out.cell 1)
                    have rn2 := at_regrown (N5.out.cell 2)
                    have rn3 := at_regrown (N5.out.cell 3)
                    have rn4 := at_regrown (N5.out.cell 4)
                    have rn5 := at_regrown (N5.out.cell 5)
                    have rx0 := at_regrown (X5.out.cell 0)
                    have rx1 := at_regrown (X5.out.cell 1)
                    have rx2 := at_regrown (X5.out.cell 2)
                    have rx3 := at_regrown (X5.out.cell 3)
                    have rx4 := at_regrown (X5.out.cell 4)
                    go_upto_region 29 with (fail)
                    refine region_below (by kernel_rfl) (by kernel_rfl) ?_
                    cases b with
                    | false =>
                      as_aux_lemma =>
                        have RR := Lib.hid (show _ = _ from (show false = (false && msgAt Kn now next (L.map Mg.val) k) from by simp))
                        iterate 6 (go_big_quiet_step (exact call_regrown FA.out))
                        iterate 6 (go_big_quiet_step (exact call_regrown FB.out))
                        iterate 7 (go_big_quiet_step (exact call_regrown_same FT.out))
                        repeat (go_big_quiet_step (fail))
                        refine wpQuiet_nil ?_
                        intro wz hbz
                        have BZ := Lib.hid (below_from hbz B5.out B5.out.size)
                        have NZ := Lib.hid (N5.out.past hbz)
                        clear hbz
                        go_wp2_with fail
                        go_roundg (Ln - (k + 1))
                        case measure => omega
                        case rel => exact ⟨k + 1, _, by omega, by omega, rfl, by go_num, NZ, BZ, Lib.hid (by rw [allTo_succ, ← Bool.and_assoc, ← I1.out]; exact RR.out)⟩
                    | true =>
                    cases e1 : endB Kn x.frm with
                    | false =>
                      rw [e1] at FA
                      as_aux_lemma =>
                        have RR := Lib.hid (show _ = _ from (show false = (true && msgAt Kn now next (L.map Mg.val) k) from by rw [AT.out, e1]; simp))
                        iterate 6 (go_big_quiet_step (exact call_regrown FA.out))
                        iterate 6 (go_big_quiet_step (exact call_regrown FB.out))
                        iterate 7 (go_big_quiet_step (exact call_regrown_same FT.out))
                        repeat (go_big_quiet_step (fail))
                        refine wpQuiet_nil ?_
                        intro wz hbz
                        have BZ := Lib.hid (below_from hbz B5.out B5.out.size)
                        have NZ := Lib.hid (N5.out.past hbz)
                        clear hbz
                        go_wp2_with fail
                        go_roundg (Ln - (k + 1))
                        case measure => omega
                        case rel => exact ⟨k + 1, _, by omega, by omega, rfl, by go_num, NZ, BZ, Lib.hid (by rw [allTo_succ, ← Bool.and_assoc, ← I1.out]; exact RR.out)⟩
                    | true =>
                    rw [e1] at FA
                    cases e2 : endB Kn x.dst with
                    | false =>
                      rw [e2] at FB
                      as_aux_lemma =>
                        have RR := Lib.hid (show _ = _ from (show false = (true && msgAt Kn now next (L.map Mg.val) k) from by rw [AT.out, e2]; simp))
                        iterate 6 (go_big_quiet_step (exact call_regrown FA.out))
                        iterate 6 (go_big_quiet_step (exact call_regrown FB.out))
                        iterate 7 (go_big_quiet_step (exact call_regrown_same FT.out))
                        repeat (go_big_quiet_step (fail))
                        refine wpQuiet_nil ?_
                        intro wz hbz
                        have BZ := Lib.hid (below_from hbz B5.out B5.out.size)
                        have NZ := Lib.hid (N5.out.past hbz)
                        clear hbz
                        go_wp2_with fail
                        go_roundg (Ln - (k + 1))
                        case measure => omega
                        case rel => exact ⟨k + 1, _, by omega, by omega, rfl, by go_num, NZ, BZ, Lib.hid (by rw [allTo_succ, ← Bool.and_assoc, ← I1.out]; exact RR.out)⟩
                    | true =>
                    rw [e2] at FB
                    cases e3 : inR x.t now 1099511627776 with
                    | false =>
                      rw [e3] at FT
                      as_aux_lemma =>
                        have RR := Lib.hid (show _ = _ from (show false = (true && msgAt Kn now next (L.map Mg.val) k) from by rw [AT.out, e3]; simp))
                        iterate 6 (go_big_quiet_step (exact call_regrown FA.out))
                        iterate 6 (go_big_quiet_step (exact call_regrown FB.out))
                        iterate 7 (go_big_quiet_step (exact call_regrown_same FT.out))
                        repeat (go_big_quiet_step (fail))
                        refine wpQuiet_nil ?_
                        intro wz hbz
                        have BZ := Lib.hid (below_from hbz B5.out B5.out.size)
                        have NZ := Lib.hid (N5.out.past hbz)
                        clear hbz
                        go_wp2_with fail
                        go_roundg (Ln - (k + 1))
                        case measure => omega
                        case rel => exact ⟨k + 1, _, by omega, by omega, rfl, by go_num, NZ, BZ, Lib.hid (by rw [allTo_succ, ← Bool.and_assoc, ← I1.out]; exact RR.out)⟩
                    | true =>
                    rw [e3] at FT
                    by_cases e4 : 0 ≤ x.no
                    · have d4 : decide (0 ≤ x.no) = true := decide_eq_true e4
                      by_cases e5 : x.no < next
                      · have d5 : decide (x.no < next) = true := decide_eq_true e5
                        by_cases e6 : x.bs.length ≤ 4096
                        · have d6 : decide ((x.n : Int) ≤ 4096) = true := decide_eq_true (by omega)
                          have d7 : decide (x.n ≤ 4096) = true := decide_eq_true (by omega)
                          by_cases h0 : k = 0
                          · have RZ : msgAt Kn now next (L.map Mg.val) k = true := by rw [AT.out, e1, e2, e3, d4, d5, decide_eq_true e6, H0.out h0]; rfl
                            have k0 : ((k : Int) == 0) = true := by rw [beq_iff_eq]; omega
                            have k1 : decide ((k : Int) = 0) = true := decide_eq_true (by omega)
                            have k2 : (k == 0) = true := by rw [beq_iff_eq]; omega
                            as_aux_lemma =>
                              have RR := Lib.hid (show _ = _ from (show true = (true && msgAt Kn now next (L.map Mg.val) k) from by rw [RZ]; rfl))
                              iterate 6 (go_big_quiet_step (exact call_regrown FA.out))
                              iterate 6 (go_big_quiet_step (exact call_regrown FB.out))
                              iterate 7 (go_big_quiet_step (exact call_regrown_same FT.out))
                              repeat (go_big_quiet_step (fail))
                              refine wpQuiet_nil ?_
                              intro wz hbz
                              have BZ := Lib.hid (below_from hbz B5.out B5.out.size)
                              have NZ := Lib.hid (N5.out.past hbz)
                              clear hbz
                              go_wp2_with fail
                              go_roundg (Ln - (k + 1))
                              case measure => omega
                              case rel => exact ⟨k + 1, _, by omega, by omega, rfl, by go_num, NZ, BZ, Lib.hid (by rw [allTo_succ, ← Bool.and_assoc, ← I1.out]; exact RR.out)⟩
                          · obtain ⟨j, rfl⟩ : ∃ j, k = j + 1 := ⟨k - 1, by omega⟩
                            obtain ⟨b2, off2, hkl2, e, hbl2, y0, y1, y2, y3, y4⟩ := mg_at (HL.out.below B5.out) (show j < Ln by omega)
                            injection e with e; injection e with ea eb
                            subst ea eb
                            have LB := Lib.hid (H1.out j rfl hkl2)
                            have dk : ((j : Int) + 1 == 0) = false := by rw [beq_eq_false_iff_ne]; omega
                            have dk2 : decide ((j : Int) + 1 = 0) = false := decide_eq_false (by omega)
                            have jk : (j : Int) < (Ln : Int) := by omega
                            generalize L[j] = y at *
                            have RZ : msgAt Kn now next (L.map Mg.val) (j + 1) = aheadB y.val x.val := by rw [AT.out, e1, e2, e3, d4, d5, decide_eq_true e6, LB.out]; simp
                            have ry0 := at_regrown y0
                            have ry1 := at_regrown y1
                            have ry2 := at_regrown y2
                            have ry3 := at_regrown y3
                            have ry4 := at_regrown y4
                            have FO := Lib.hid (fun w' (_ : Below (wr.alloc (.cells #[.int .i64 x.t, .int .i64 x.no, .int .i64 x.frm, .int .i64 x.dst, .slice x.A x.n x.c] 40)).heap.size (wr.alloc (.cells #[.int .i64 x.t, .int .i64 x.no, .int .i64 x.frm, .int .i64 x.dst, .slice x.A x.n x.c] 40)) w') => ahead_any y x w')
                            as_aux_lemma =>
                              have RR := Lib.hid (show _ = _ from (show aheadB y.val x.val = (true && msgAt Kn now next (L.map Mg.val) (j + 1)) from by rw [RZ]; rfl))
                              iterate 6 (go_big_quiet_step (exact call_regrown FA.out))
                              iterate 6 (go_big_quiet_step (exact call_regrown FB.out))
                              iterate 7 (go_big_quiet_step (exact call_regrown_same FT.out))
                              repeat (go_big_quiet_step (exact call_regrown FO.out))
                              refine wpQuiet_nil ?_
                              intro wz hbz
                              have BZ := Lib.hid (below_from hbz B5.out B5.out.size)
                              have NZ := Lib.hid (N5.out.past hbz)
                              clear hbz
                              go_wp2_with fail
                              go_roundg (Ln - ((j + 1) + 1))
                              case measure => omega
                              case rel => exact ⟨(j + 1) + 1, _, by omega, by omega, rfl, by go_num, NZ, BZ, Lib.hid (by rw [allTo_succ, ← Bool.and_assoc, ← I1.out]; exact RR.out)⟩
                        · have d6 : decide ((x.n : Int) ≤ 4096) = false := decide_eq_false (by omega)
                          have d7 : decide (x.n ≤ 4096) = false := decide_eq_false (by omega)
                          as_aux_lemma =>
                            have RR := Lib.hid (show _ = _ from (show false = (true && msgAt Kn now next (L.map Mg.val) k) from by rw [AT.out, decide_eq_false e6]; simp))
                            iterate 6 (go_big_quiet_step (exact call_regrown FA.out))
                            iterate 6 (go_big_quiet_step (exact call_regrown FB.out))
                            iterate 7 (go_big_quiet_step (exact call_regrown_same FT.out))
                            repeat (go_big_quiet_step (fail))
                            refine wpQuiet_nil ?_
                            intro wz hbz
                            have BZ := Lib.hid (below_from hbz B5.out B5.out.size)
                            have NZ := Lib.hid (N5.out.past hbz)
                            clear hbz
                            go_wp2_with fail
                            go_roundg (Ln - (k + 1))
                            case measure => omega
                            case rel => exact ⟨k + 1, _, by omega, by omega, rfl, by go_num, NZ, BZ, Lib.hid (by rw [allTo_succ, ← Bool.and_assoc, ← I1.out]; exact RR.out)⟩
                      · have d5 : decide (x.no < next) = false := decide_eq_false e5
                        as_aux_lemma =>
                          have RR := Lib.hid (show _ = _ from (show false = (true && msgAt Kn now next (L.map Mg.val) k) from by rw [AT.out, decide_eq_false e5]; simp))
                          iterate 6 (go_big_quiet_step (exact call_regrown FA.out))
                          iterate 6 (go_big_quiet_step (exact call_regrown FB.out))
                          iterate 7 (go_big_quiet_step (exact call_regrown_same FT.out))
                          repeat (go_big_quiet_step (fail))
                          refine wpQuiet_nil ?_
                          intro wz hbz
                          have BZ := Lib.hid (below_from hbz B5.out B5.out.size)
                          have NZ := Lib.hid (N5.out.past hbz)
                          clear hbz
                          go_wp2_with fail
                          go_roundg (Ln - (k + 1))
                          case measure => omega
                          case rel => exact ⟨k + 1, _, by omega, by omega, rfl, by go_num, NZ, BZ, Lib.hid (by rw [allTo_succ, ← Bool.and_assoc, ← I1.out]; exact RR.out)⟩
                    · have d4 : decide (0 ≤ x.no) = false := decide_eq_false e4
                      as_aux_lemma =>
                        have RR := Lib.hid (show _ = _ from (show false = (true && msgAt Kn now next (L.map Mg.val) k) from by rw [AT.out, decide_eq_false e4]; simp))
                        iterate 6 (go_big_quiet_step (exact call_regrown FA.out))
                        iterate 6 (go_big_quiet_step (exact call_regrown FB.out))
                        iterate 7 (go_big_quiet_step (exact call_regrown_same FT.out))
                        repeat (go_big_quiet_step (fail))
                        refine wpQuiet_nil ?_
                        intro wz hbz
                        have BZ := Lib.hid (below_from hbz B5.out B5.out.size)
                        have NZ := Lib.hid (N5.out.past hbz)
                        clear hbz
                        go_wp2_with fail
                        go_roundg (Ln - (k + 1))
                        case measure => omega
                        case rel => exact ⟨k + 1, _, by omega, by omega, rfl, by go_num, NZ, BZ, Lib.hid (by rw [allTo_succ, ← Bool.and_assoc, ← I1.out]; exact RR.out)⟩
                  · obtain rfl : Ln = k := by omega
                    have R := Lib.hid (CHK.out b I1.out)
                    clear I1 hgg hk hlt
                    cases b with
                    | false =>
                      go_wp2_with fail
                      go_ret
                      exact ⟨ret_int R.out.symm, B4.out⟩
                    | true =>
                      go_wp2_with fail
                      go_ret
                      exact ⟨ret_int R.out.symm, B4.out⟩

end Go.Proofs.Ytmlgahambecamaa
