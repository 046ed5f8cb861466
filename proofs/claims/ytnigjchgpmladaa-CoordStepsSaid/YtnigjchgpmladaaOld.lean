/- Who runs too long: Old. -/
import Derived.Test.YtnigjchgpmladaaLook
import Derived.Test.YtnigjchgpmladaaCheck
import Derived.Test.YtnigjchgpmladaaBas
import Derived.Deep.DeepCutAuto
namespace Go.Proofs.Ytnigjchgpmladaa
open Go.RowKit Go.Shelf

def oldL (now most : Int) (L : List Tx) : List ByteArray := (L.filter fun x => oldB now most x.val).map Tx.id
theorem oldL_val (now most : Int) (L : List Tx) : oldL now most L = ((L.map Tx.val).filter (oldB now most)).map Tv.id := by
  unfold oldL
  induction L with
  | nil => rfl
  | cons a L ih =>
    rw [List.map_cons, List.filter_cons, List.filter_cons]
    cases oldB now most a.val
    · simpa using ih
    · simp only [if_true, List.map_cons]; rw [ih]; rfl
theorem oldL_succ (now most : Int) {L : List Tx} {k : Nat} (hk : k < L.length) : oldL now most (L.take (k + 1)) = oldL now most (L.take k) ++ if oldB now most L[k].val = true then [L[k].id] else [] := by
  unfold oldL
  rw [List.take_succ_eq_append_getElem hk, List.filter_append, List.map_append]
  cases h : oldB now most L[k].val <;> simp [h]
theorem oldL_len (now most : Int) (L : List Tx) (k : Nat) : (oldL now most (L.take k)).length ≤ k := by
  unfold oldL
  rw [List.length_map]
  refine Nat.le_trans (List.length_filter_le _ _) ?_
  rw [List.length_take]
  omega
theorem old_no {c : Cv} {now most : Int} (h : checkV c ≠ 0 ∨ inB now 1099511627776 = false ∨ inB most 1099511627776 = false) : oldV c now most = [] := by
  unfold oldV
  rw [if_neg]
  rintro ⟨h1, h2, h3⟩
  rcases h with h | h | h
  · exact h h1
  · rw [h2] at h; cases h
  · rw [h3] at h; cases h
theorem old_yes {c : Cv} {now most : Int} (h1 : checkV c = 0) (h2 : inB now 1099511627776 = true) (h3 : inB most 1099511627776 = true) : oldV c now most = (c.L.filter (oldB now most)).map Tv.id := by
  unfold oldV
  rw [if_pos ⟨h1, h2, h3⟩]

set_option maxRecDepth 100000 in
set_option maxHeartbeats 16000000 in
theorem old_any (o : Tc) (now most : Int) (w : World) (ho : Tc.At w o) (hf : FewV o.val) : Calls Try.prog 25 #[o.v, .int .i64 now, .int .i64 most] w fun e w' => StRes w (oldV o.val now most) e w' := by
  obtain ⟨i0, hi0, hz0, hs0, hb0⟩ := info_parts inf9
  have B0 := Lib.hid (below_alloc1 w (.cells #[.int .i64 o.next, .slice o.A o.n o.c] 24))
  have S0 := Lib.hid (Has.newAt w #[.int .i64 o.next, .slice o.A o.n o.c] 24 (g := w.heap.size) rfl)
  have HO := Lib.hid ho
  have HL := Lib.hid (show Sl txK w o.A o.n o.c o.L from ho)
  have nm := ho.few hf
  have NN := Lib.hid nm.1
  have CK := Lib.hid (check_any o _ (ho.below B0.out) nm.1 nm.2)
  have hcap := ho.cap
  have hmax := ho.max
  clear ho hf nm
  have s0 := S0.out.cell
  have s1 := S0.out.lt
  by_cases hk : checkV o.val = 0
  · rw [hk] at CK
    have HK := Lib.hid hk
    clear hk
    obtain ⟨bad, hbad⟩ : ∃ b, (!inB now 1099511627776 || !inB most 1099511627776) = b := ⟨_, rfl⟩
    have AO := Lib.hid (show anyOut 1099511627776 [now, most] = bad from by rw [anyOut_two]; exact hbad)
    cases bad with
    | true =>
      have R := Lib.hid (show oldV o.val now most = [] from old_no (by
        simp only [Bool.or_eq_true, Bool.not_eq_true'] at hbad
        exact .inr hbad))
      clear hbad
      go_enter Try.func25, Try.ntmps25
      go_wp2_with (first
        | (go_at_call 42; refine (beyond_any 1099511627776 _ 2 2 [now, most] _ (num_row (Has.newAt w1 #[.int .i64 now, .int .i64 most] 3 rfl) rfl (by omega)) (by omega)).mono ?_; rintro e w' ⟨rfl, rfl⟩; rw [AO.out])
        | (go_at_call 18; refine CK.out.mono ?_; rintro e w1 ⟨rfl, hb⟩; have B1 := Lib.hid (below_from hb B0.out B0.out.size); clear hb s0 s1))
      go_ret
      exact ⟨none, 0, 0, rfl, by rw [R.out]; exact Sl.nil _ _, B1.out.alloc B1.out.size _⟩
    | false =>
      simp only [Bool.or_eq_false_iff, Bool.not_eq_false'] at hbad
      have R := Lib.hid (old_yes HK.out hbad.1 hbad.2)
      have i1 := inB_iff.1 hbad.1
      have i2 := inB_iff.1 hbad.2
      have wr0 : IntKind.i64.wrap (now - most) = now - most := IntWalk.i64_in _ (by omega)
      clear hbad i1 i2
      go_enter Try.func25, Try.ntmps25
      go_upto_region 3 with (first
        | (go_at_call 42; refine (beyond_any 1099511627776 _ 2 2 [now, most] _ (num_row (Has.newAt w1 #[.int .i64 now, .int .i64 most] 3 rfl) rfl (by omega)) (by omega)).mono ?_; rintro e w' ⟨rfl, rfl⟩; rw [AO.out]; have B2 := Lib.hid (B1.out.alloc B1.out.size (.cells #[.int .i64 now, .int .i64 most] 3)); have S2 := Lib.hid (S1.out.alloc (.cells #[.int .i64 now, .int .i64 most] 3)))
        | (go_at_call 18; refine CK.out.mono ?_; rintro e w1 ⟨rfl, hb⟩; have B1 := Lib.hid (below_from hb B0.out B0.out.size); have S1 := Lib.hid (S0.out.past hb); clear hb s0 s1))
      obtain ⟨w2, hw2⟩ : ∃ W, W = w1.alloc (.cells #[.int .i64 now, .int .i64 most] 3) := ⟨_, rfl⟩
      rw [← hw2] at B2 S2 ⊢
      clear hw2
      have s2c := S2.out.cell
      have s2l := S2.out.lt
      obtain ⟨CA, hCA⟩ : ∃ A, o.A = A := ⟨_, rfl⟩
      rw [hCA] at HL s2c ⊢
      clear hCA
      go_wp2_with fail
      clear s2c s2l
      go_loopg [7, 22] o.n (fun gg s7 s22 wr => ∃ (k : Nat) (A : Option Addr) (n c : Nat), k ≤ o.n ∧ o.n - k ≤ gg ∧ s7 = .slice A n c ∧ s22 = .int .i64 k ∧ n ≤ k ∧ Hid (Below w.heap.size w wr) ∧ Hid (Own strK 9 wr w.heap.size A n c (oldL now most (o.L.take k))))
      case atStart => exact ⟨0, none, 0, 0, Nat.zero_le _, by omega, rfl, rfl, Nat.le_refl _, B2, Lib.hid ⟨rfl, World.ownsRow_nil _ _ _ _, fun a ha => by simp [oldL] at ha⟩⟩
      case round =>
        obtain ⟨k, A, n, c, hk, hgg, rfl, rfl, hn, B4, O4⟩ := hrel
        by_cases hlt : k < o.n
        · obtain ⟨b, off, hkl, rfl, hbl, x0, x1, x2, x3, x4, x5, x6, x7⟩ := tx_at (HL.out.below B4.out) hlt
          have TS := Lib.hid (oldL_succ now most hkl)
          have XI := Lib.hid (show Tx.In w o.L[k] from Sl.each HO.out _ (List.getElem_mem hkl))
          generalize o.L[k] = x at *
          have q0 : (0 : Int) ≤ (k : Int) := by omega
          have q1 : (k : Int) < (o.n : Int) := by omega
          have bk1 := below_alloc1 wr (.cells #[.string x.id, .int .i64 x.pid, .int .i64 x.gen, .int .i64 x.no, .int .i64 x.st, .slice x.PA x.Pn x.Pc, .slice x.GA x.Gn x.Gc, .int .i64 x.at_] 33)
          have B5 := Lib.hid (below_from bk1 B4.out B4.out.size)
          have O5 := Lib.hid (O4.out.kept bk1)
          have bk2 := bk1.alloc bk1.size (.cells #[.string x.id] 9)
          have B6 := Lib.hid (below_from bk2 B4.out B4.out.size)
          have O6 := Lib.hid (O4.out.kept bk2)
          have M6 := Lib.hid (Has.newAt (wr.alloc (.cells #[.string x.id, .int .i64 x.pid, .int .i64 x.gen, .int .i64 x.no, .int .i64 x.st, .slice x.PA x.Pn x.Pc, .slice x.GA x.Gn x.Gc, .int .i64 x.at_] 33)) #[.string x.id] 9 (g := wr.heap.size + 1) (by simp))
          clear bk1 bk2 hkl
          have OB : oldB now most x.val = (decide (x.st = 1) && decide (x.at_ < now - most)) := rfl
          by_cases h1 : x.st = 1
          · have d1 : (x.st == 1) = true := by rw [beq_iff_eq]; exact h1
            by_cases h2 : x.at_ < now - most
            · have d2 : decide (x.at_ < now - most) = true := decide_eq_true h2
              have TS2 := Lib.hid (show _ = oldL now most (o.L.take k) ++ [x.id] from TS.out.trans (by rw [OB, decide_eq_true h1, d2]; rfl))
              clear h1 h2 OB
              go_wp2_with (at_builtin; refine wpList_app1 (K := strK) _ rfl _ _ 31 rfl w.heap.size 9 i0 _ 16 Try.underlying31 hi0 hz0 hs0 hb0 rfl A n c _ rfl O6.out (wr.heap.size + 1) rfl x.id ?qc1 ?qc2 (fun _ _ h => h) ?qc3 ?qc4 ?qc5 ?_)
              case qc1 => intro j hj; exact (M6.out.cell j).trans (by simp [strK])
              case qc2 => exact XI.out.id
              case qc3 => have := NN.out; unfold maxLen; omega
              case qc4 => have := NN.out; omega
              case qc5 => exact B6.out.size
              intro A2 c2 w5 hown hgrow hat
              have GB := Lib.hid (B6.out.trans (grown_below (B := w.heap.size) hgrow B6.out.size (fun j hj => (O6.out.2.1.lt j hj).1)))
              have T1 := Lib.hid hown
              clear hown hgrow hat
              go_wp2_with fail
              go_roundg (o.n - (k + 1))
              case measure => omega
              case rel => exact ⟨k + 1, A2, n + 1, c2, by omega, by omega, rfl, by go_num, by omega, GB, by rw [TS2.out]; exact T1⟩
            · have d2 : decide (x.at_ < now - most) = false := decide_eq_false h2
              have TS2 := Lib.hid (show _ = oldL now most (o.L.take k) from TS.out.trans (by rw [OB, d2, Bool.and_false, if_neg (by simp), List.append_nil]))
              clear h1 h2 OB
              go_wp2_with fail
              go_roundg (o.n - (k + 1))
              case measure => omega
              case rel => exact ⟨k + 1, A, n, c, by omega, by omega, rfl, by go_num, by omega, B5, by rw [TS2.out]; exact O5⟩
          · have d1 : (x.st == 1) = false := by rw [beq_eq_false_iff_ne]; exact h1
            have TS2 := Lib.hid (show _ = oldL now most (o.L.take k) from TS.out.trans (by rw [OB, decide_eq_false h1, Bool.false_and, if_neg (by simp), List.append_nil]))
            clear h1 OB
            go_wp2_with fail
            go_roundg (o.n - (k + 1))
            case measure => omega
            case rel => exact ⟨k + 1, A, n, c, by omega, by omega, rfl, by go_num, by omega, B5, by rw [TS2.out]; exact O5⟩
        · obtain rfl : o.n = k := by omega
          have FIN := Lib.hid (show oldL now most (o.L.take o.n) = oldV o.val now most from by
            rw [R.out, List.take_of_length_le (by rw [HL.out.len]; exact Nat.le_refl _)]
            exact oldL_val now most o.L)
          go_wp2_with fail
          go_ret
          exact ⟨A, n, c, rfl, by rw [← FIN.out]; exact O4.out.sl, B4.out⟩
  · have R := Lib.hid (show oldV o.val now most = [] from old_no (.inl hk))
    obtain ⟨c, hc⟩ : ∃ c, checkV o.val = c := ⟨_, rfl⟩
    rw [hc] at CK hk
    have d1 : (c != 0) = true := by rw [bne_iff_ne]; exact hk
    have d2 : (c == 0) = false := by rw [beq_eq_false_iff_ne]; exact hk
    clear hc hk
    go_enter Try.func25, Try.ntmps25
    go_wp2_with (go_at_call 18; refine CK.out.mono ?_; rintro e w1 ⟨rfl, hb⟩; have B1 := Lib.hid (below_from hb B0.out B0.out.size); clear hb s0 s1)
    go_ret
    exact ⟨none, 0, 0, rfl, by rw [R.out]; exact Sl.nil _ _, B1.out⟩

end Go.Proofs.Ytnigjchgpmladaa
