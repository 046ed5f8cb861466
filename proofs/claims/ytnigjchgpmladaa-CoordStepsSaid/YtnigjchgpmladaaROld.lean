/- Who is old, of the document. -/
import Derived.Test.YtnigjchgpmladaaRLook
namespace Go.Proofs.Ytnigjchgpmladaa
open Go.RowKit Go.Shelf

set_option maxRecDepth 100000 in
set_option maxHeartbeats 16000000 in
theorem rold_any (o : Tc) (now most : Int) (w : World) (ho : Tc.At w o) (hf : FewV o.val) : Calls Try.prog 26 #[o.v, .int .i64 now, .int .i64 most] w fun e w' => StRes w (oldV o.val now most) e w' := by
  obtain ⟨i0, hi0, hz0, hs0, hb0⟩ := info_parts inf9
  have B0 := Lib.hid (below_alloc1 w (.cells #[.int .i64 o.next, .slice o.A o.n o.c] 24))
  have S0 := Lib.hid (Has.newAt w #[.int .i64 o.next, .slice o.A o.n o.c] 24 (g := w.heap.size) rfl)
  have HO := Lib.hid ho
  have HL := Lib.hid (show Sl txK w o.A o.n o.c o.L from ho)
  have nm := ho.few hf
  have NN := Lib.hid nm.1
  have CK := Lib.hid (fun W (h : Below w.heap.size w W) => rcheck_any o W (ho.below h) nm.1 nm.2)
  have hcap := ho.cap
  have hmax := ho.max
  clear ho hf nm
  obtain ⟨W0, hW0⟩ : ∃ W, W = w.alloc (.cells #[.int .i64 o.next, .slice o.A o.n o.c] 24) := ⟨_, rfl⟩
  rw [← hW0] at B0 S0
  have HW := Lib.hid hW0
  clear hW0
  have s0 := S0.out.cell
  have s1 := S0.out.lt
  by_cases hk : checkV o.val = 0
  · rw [hk] at CK
    have FN := Lib.hid (chk_iff.1 hk)
    have HK := Lib.hid hk
    clear hk
    cases h1 : inB now 1099511627776 with
    | false =>
      have I1 := Lib.hid h1
      have R := Lib.hid (show oldV o.val now most = [] from old_no (.inr (.inl h1)))
      clear h1
      go_enter Try.func26, Try.ntmps26
      go_upto_region 1 with (fail)
      rw [← HW.out]
      go_wp2_with (first
        | (go_at_call 19; refine (CK.out _ B0.out).mono ?_; rintro e w1 ⟨rfl, hb⟩; have B1 := Lib.hid (below_from hb B0.out B0.out.size); have S1 := Lib.hid (S0.out.past hb); clear hb s0 s1)
        | (go_at_call 49; refine (in_any now _).mono ?_; rintro e w' ⟨rfl, rfl⟩; rw [I1.out]))
      go_ret
      exact ⟨none, 0, 0, rfl, by rw [R.out]; exact Sl.nil _ _, B1.out⟩
    | true =>
    have I1 := Lib.hid h1
    cases h2 : inB most 1099511627776 with
    | false =>
      have I2 := Lib.hid h2
      have R := Lib.hid (show oldV o.val now most = [] from old_no (.inr (.inr h2)))
      clear h1 h2
      go_enter Try.func26, Try.ntmps26
      go_upto_region 1 with (fail)
      rw [← HW.out]
      go_wp2_with (first
        | (go_at_call 19; refine (CK.out _ B0.out).mono ?_; rintro e w1 ⟨rfl, hb⟩; have B1 := Lib.hid (below_from hb B0.out B0.out.size); have S1 := Lib.hid (S0.out.past hb); clear hb s0 s1)
        | (go_at_call 49; have := I1; refine (in_any now _).mono ?_; rintro e w' ⟨rfl, rfl⟩; rw [I1.out]; clear this; have I1d := I1; clear I1)
        | (go_at_call 49; refine (in_any most _).mono ?_; rintro e w' ⟨rfl, rfl⟩; rw [I2.out]))
      go_ret
      exact ⟨none, 0, 0, rfl, by rw [R.out]; exact Sl.nil _ _, B1.out⟩
    | true =>
      have I2 := Lib.hid h2
      have R := Lib.hid (old_yes HK.out h1 h2)
      have i1 := inB_iff.1 h1
      have i2 := inB_iff.1 h2
      have NR := Lib.hid i1
      have MR := Lib.hid i2
      clear h1 h2 i1 i2
      go_enter Try.func26, Try.ntmps26
      go_upto_region 1 with (fail)
      rw [← HW.out]
      go_upto_region 3 with (first
        | (go_at_call 19; refine (CK.out _ B0.out).mono ?_; rintro e w1 ⟨rfl, hb⟩; have B1 := Lib.hid (below_from hb B0.out B0.out.size); have S1 := Lib.hid (S0.out.past hb); clear hb s0 s1)
        | (go_at_call 49; have := I1; refine (in_any now _).mono ?_; rintro e w' ⟨rfl, rfl⟩; rw [I1.out]; clear this; have I1d := I1; clear I1)
        | (go_at_call 49; refine (in_any most _).mono ?_; rintro e w' ⟨rfl, rfl⟩; rw [I2.out]))
      obtain ⟨CA, hCA⟩ : ∃ A, o.A = A := ⟨_, rfl⟩
      rw [hCA] at HL S1
      clear hCA
      go_wp2_with fail
      go_loopg [7, 8] o.n (fun gg s7 s8 wr => ∃ (k : Nat) (A : Option Addr) (n c : Nat), k ≤ o.n ∧ o.n - k ≤ gg ∧ s7 = .slice A n c ∧ s8 = .int .i64 k ∧ n ≤ k ∧ Hid (Has wr w.heap.size #[.int .i64 o.next, .slice CA o.n o.c]) ∧ Hid (Below w.heap.size w wr) ∧ Hid (Own strK 9 wr (w.heap.size + 1) A n c (oldL now most (o.L.take k))))
      case atStart => exact ⟨0, none, 0, 0, Nat.zero_le _, by omega, rfl, rfl, Nat.le_refl _, S1, B1, Lib.hid ⟨rfl, World.ownsRow_nil _ _ _ _, fun a ha => by simp [oldL] at ha⟩⟩
      case round =>
        obtain ⟨k, A, n, c, hk, hgg, rfl, rfl, hn, S4, B4, O4⟩ := hrel
        have s4c := S4.out.cell
        have s4l := S4.out.lt
        by_cases hlt : k < o.n
        · obtain ⟨b, off, hkl, rfl, hbl, x0, x1, x2, x3, x4, x5, x6, x7⟩ := tx_at (HL.out.below B4.out) hlt
          have TS := Lib.hid (oldL_succ now most hkl)
          have XI := Lib.hid (show Tx.In w o.L[k] from Sl.each HO.out _ (List.getElem_mem hkl))
          have OK := (FN.out.ok (show o.L[k].val ∈ o.val.L from List.mem_map_of_mem (List.getElem_mem hkl))).at_
          generalize o.L[k] = x at *
          have AT : 0 ≤ x.at_ ∧ x.at_ ≤ 1099511627776 := OK
          have q0 : (0 : Int) ≤ (k : Int) := by omega
          have q1 : (k : Int) < (o.n : Int) := by omega
          have n1 := NR.out
          have n2 := MR.out
          have wr0 : IntKind.i64.wrap (now - x.at_) = now - x.at_ := IntWalk.i64_in _ (by omega)
          have bk2 := below_alloc1 wr (.cells #[.string x.id] 9)
          have B6 := Lib.hid (below_from bk2 B4.out B4.out.size)
          have O6 := Lib.hid (O4.out.kept bk2)
          have S6 := Lib.hid (S4.out.past bk2)
          have M6 := Lib.hid (Has.newAt wr #[.string x.id] 9 (g := wr.heap.size) rfl)
          have Z6 := Lib.hid (show w.heap.size + 1 ≤ (wr.alloc (.cells #[.string x.id] 9)).heap.size from Nat.le_trans s4l bk2.size)
          clear bk2 hkl OK
          have OB : oldB now most x.val = (decide (x.st = 1) && decide (x.at_ < now - most)) := rfl
          by_cases h1 : x.st = 1
          · have d1 : (x.st == 1) = true := by rw [beq_iff_eq]; exact h1
            by_cases h2 : x.at_ < now - most
            · have d2 : decide (most < now - x.at_) = true := decide_eq_true (by omega)
              have TS2 := Lib.hid (show _ = oldL now most (o.L.take k) ++ [x.id] from TS.out.trans (by rw [OB, decide_eq_true h1, decide_eq_true h2]; rfl))
              clear h1 h2 OB AT n1 n2
              go_wp2_with (at_builtin; refine wpList_app1 (K := strK) _ rfl _ _ 31 rfl (w.heap.size + 1) 9 i0 _ 16 Try.underlying31 hi0 hz0 hs0 hb0 rfl A n c _ rfl O6.out wr.heap.size rfl x.id ?qc1 ?qc2 (fun _ _ h => h) ?qc3 ?qc4 ?qc5 ?_)
              case qc1 => intro j hj; exact (M6.out.cell j).trans (by simp [strK])
              case qc2 => exact XI.out.id
              case qc3 => have := NN.out; unfold maxLen; omega
              case qc4 => have := NN.out; omega
              case qc5 => exact Z6.out
              intro A2 c2 w5 hown hgrow hat
              have GB := grown_below (B := w.heap.size + 1) hgrow Z6.out (fun j hj => (O6.out.2.1.lt j hj).1)
              have S7 := Lib.hid (S6.out.below GB (by omega))
              have B7 := Lib.hid (B6.out.trans (GB.mono (by omega)))
              have T1 := Lib.hid hown
              clear hown hgrow hat GB s4c s4l
              go_wp2_with fail
              go_roundg (o.n - (k + 1))
              case measure => omega
              case rel => exact ⟨k + 1, A2, n + 1, c2, by omega, by omega, rfl, by go_num, by omega, S7, B7, by rw [TS2.out]; exact T1⟩
            · have d2 : decide (most < now - x.at_) = false := decide_eq_false (by omega)
              have TS2 := Lib.hid (show _ = oldL now most (o.L.take k) from TS.out.trans (by rw [OB, decide_eq_false h2, Bool.and_false, if_neg (by simp), List.append_nil]))
              clear h1 h2 OB AT n1 n2
              go_wp2_with fail
              go_roundg (o.n - (k + 1))
              case measure => omega
              case rel => exact ⟨k + 1, A, n, c, by omega, by omega, rfl, by go_num, by omega, S4, B4, by rw [TS2.out]; exact O4⟩
          · have d1 : (x.st == 1) = false := by rw [beq_eq_false_iff_ne]; exact h1
            have TS2 := Lib.hid (show _ = oldL now most (o.L.take k) from TS.out.trans (by rw [OB, decide_eq_false h1, Bool.false_and, if_neg (by simp), List.append_nil]))
            clear h1 OB AT n1 n2
            go_wp2_with fail
            go_roundg (o.n - (k + 1))
            case measure => omega
            case rel => exact ⟨k + 1, A, n, c, by omega, by omega, rfl, by go_num, by omega, S4, B4, by rw [TS2.out]; exact O4⟩
        · obtain rfl : o.n = k := by omega
          have FIN := Lib.hid (show oldL now most (o.L.take o.n) = oldV o.val now most from by
            rw [R.out, List.take_of_length_le (by rw [HL.out.len]; exact Nat.le_refl _)]
            exact oldL_val now most o.L)
          go_wp2_with fail
          go_ret
          exact ⟨A, n, c, rfl, by rw [← FIN.out]; exact O4.out.sl, B4.out⟩
  · have R := Lib.hid (show oldV o.val now most = [] from old_no (.inl hk))
    obtain ⟨c, hc⟩ : ∃ c, checkV o.val = c := ⟨_, rfl⟩
    rw [hc] at CK hk
    have d1 : (c != 0) = true := by rw [bne_iff_ne]; exact hk
    have d2 : (c == 0) = false := by rw [beq_eq_false_iff_ne]; exact hk
    clear hc hk
    go_enter Try.func26, Try.ntmps26
    go_upto_region 1 with (fail)
    rw [← HW.out]
    go_wp2_with (first
      | (go_at_call 19; refine (CK.out _ B0.out).mono ?_; rintro e w1 ⟨rfl, hb⟩; have B1 := Lib.hid (below_from hb B0.out B0.out.size); have S1 := Lib.hid (S0.out.past hb); clear hb s0 s1))
    go_ret
    exact ⟨none, 0, 0, rfl, by rw [R.out]; exact Sl.nil _ _, B1.out⟩

end Go.Proofs.Ytnigjchgpmladaa
