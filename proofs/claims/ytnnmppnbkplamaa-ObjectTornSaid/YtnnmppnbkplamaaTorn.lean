/- ObjectTorn of layer 14: the walk. -/
import Derived.Test.YtnnmppnbkplamaaLive
import Derived.Test.YtnnmppnbkplamaaTornP
namespace Go.Proofs.Ytnnmppnbkplamaa
open Go.RowKit Go.Shelf

set_option maxHeartbeats 8000000 in
set_option maxRecDepth 100000 in
theorem torn_any (A : Option Addr) (n c : Nat) (l : List Ob) (calls : Int) (A' : Option Addr) (n' c' : Nat) (fs : List Ft) (s : ByteArray) (w : World) (hl : Obs w A n c l) (hf : Fts w A' n' c' fs) :
    Calls Try.prog 10 #[stV A n c calls A' n' c', .string s] w fun e w' => e = .returned (.bool true) ∧ Below w.heap.size w w' := by
  obtain ⟨L, hL⟩ : ∃ L, l.map Ob.val = L := ⟨_, rfl⟩
  have V := Lib.hid hL
  have HC := torn_cases L calls fs s
  obtain ⟨r, hr⟩ : ∃ r, getR L calls fs s = r := ⟨_, rfl⟩
  obtain ⟨⟨L1, C1, fs1⟩, bg, E⟩ := r
  rw [hr] at HC
  obtain ⟨q, hq⟩ : ∃ q, byR L s = q := ⟨_, rfl⟩
  obtain ⟨bs, b⟩ := q
  rw [hq] at HC
  simp only at HC
  have R := Lib.hid hr
  have Q := Lib.hid hq
  have FL := Lib.hid hf.len
  clear hr hq hL
  have B0 := Lib.hid (below_alloc1 w (.cells #[.slice A n c, .int .i64 calls, .slice A' n' c'] 25))
  have S0 := Lib.hid (Has.newAt w #[.slice A n c, .int .i64 calls, .slice A' n' c'] 25 (g := w.heap.size) rfl)
  have O0 := Lib.hid (hl.alloc (.cells #[.slice A n c, .int .i64 calls, .slice A' n' c'] 25))
  have F0 := Lib.hid (hf.alloc (.cells #[.slice A n c, .int .i64 calls, .slice A' n' c'] 25))
  have LV := Lib.hid live_any
  have FW := Lib.hid few_any
  have PT := Lib.hid put_at
  have GT := Lib.hid get_at
  have LT := Lib.hid list_at
  have DT := Lib.hid del_at
  have BY := Lib.hid bytes_at
  clear hl hf
  go_enter Try.func10, Try.ntmps10
  go_wp2_with fail
  refine (LV.out _).mono ?_
  intro e w1 hx
  obtain ⟨rfl, hb⟩ := hx
  have B1 := Lib.hid (below_from hb B0.out B0.out.size)
  have S1 := Lib.hid (S0.out.past hb)
  have cS1 := S1.out.cell
  have lS1 := S1.out.lt
  have O1 := Lib.hid (O0.out.below hb)
  have F1 := Lib.hid (F0.out.below hb)
  clear hb
  go_wp2_with fail
  refine (FW.out A n c l calls A' n' c' s none 0 0 _ O1.out).mono ?_
  intro e w2 hx
  obtain ⟨⟨bf, rfl⟩, hb⟩ := hx
  have B2 := Lib.hid (below_from hb B1.out B1.out.size)
  have S2 := Lib.hid (S1.out.past hb)
  have cS2 := S2.out.cell
  have lS2 := S2.out.lt
  have O2 := Lib.hid (O1.out.below hb)
  have F2 := Lib.hid (F1.out.below hb)
  clear hb cS1 lS1
  cases bf with
  | false =>
    go_wp2_with fail
    go_ret
    exact ⟨rfl, B2.out⟩
  | true => ?_
  go_wp2_with fail
  refine (BY.out A n c l calls A' n' c' s _ O2.out V.out Q.out).mono ?_
  intro e w3 hx
  obtain ⟨rfl, hb⟩ := hx
  have B3 := Lib.hid (below_from hb B2.out B2.out.size)
  have S3 := Lib.hid (S2.out.past hb)
  have cS3 := S3.out.cell
  have lS3 := S3.out.lt
  have O3 := Lib.hid (O2.out.below hb)
  have F3 := Lib.hid (F2.out.below hb)
  clear cS2 lS2 hb
  go_wp2_with fail
  refine (GT.out A n c l calls A' n' c' fs s _ O3.out F3.out V.out R.out).mono ?_
  intro e w4 hx
  obtain ⟨A4, n4, c4, l4, A4', n4', c4', A4x, n4x, c4x, rfl, ho, hv, hf, hs, hm, hb⟩ := hx
  have bk4 := hb.alloc hb.size (.cells #[.slice A4 n4 c4, .int .i64 C1, .slice A4' n4' c4'] 25)
  have B4 := Lib.hid (below_from bk4 B3.out B3.out.size)
  have S4 := Lib.hid (S3.out.past bk4)
  have cS4 := S4.out.cell
  have lS4 := S4.out.lt
  have O4 := Lib.hid (O3.out.below bk4)
  have F4 := Lib.hid (F3.out.below bk4)
  have X4 := Lib.hid ((hs).alloc (.cells #[.slice A4 n4 c4, .int .i64 C1, .slice A4' n4' c4'] 25))
  have T4 := Lib.hid (Has.newAt w4 #[.slice A4 n4 c4, .int .i64 C1, .slice A4' n4' c4'] 25 (g := w4.heap.size) rfl)
  have cT4 := T4.out.cell
  have lT4 := T4.out.lt
  clear bk4
  clear cS3 lS3 hb ho hv hf hs hm
  have XL := Lib.hid X4.out.len
  have hxc := X4.out.cap
  have hxm := X4.out.max
  rcases HC with ⟨h0, rfl⟩ | ⟨rfl, rfl, h1, h2, h3⟩
  · have n0 : n4x = 0 := XL.out.symm
    subst n0
    have m0 : (E != 0) = true := by simpa using h0
    go_wp2_with fail
    go_ret
    exact ⟨ret_bool (by first | rfl | simp), B4.out⟩
  obtain ⟨Z, hZ⟩ : ∃ Z : ByteArray, (⟨bs.toArray⟩ : ByteArray) = Z := ⟨_, rfl⟩
  have zs : Z.size = n4x := by rw [← hZ, ← XL.out, h1]; simp [ByteArray.size]
  have HZ := Lib.hid hZ
  have H1 := Lib.hid h1
  have H2 := Lib.hid h2
  have H3 := Lib.hid h3
  rw [hZ]
  clear hZ h1 h2 h3
  obtain ⟨W7, hW7⟩ : ∃ W7, W7 = (w4.alloc (.cells #[.slice A4 n4 c4, .int .i64 C1, .slice A4' n4' c4'] 25)) := ⟨_, rfl⟩
  have X7 := Lib.hid (show Sl u8K W7 A4x n4x c4x bg from by rw [hW7]; exact X4.out)
  have S7 := Lib.hid (show Has W7 w.heap.size #[.slice A n c, .int .i64 calls, .slice A' n' c'] from by rw [hW7]; exact S4.out)
  have B7 := Lib.hid (show Below w.heap.size w W7 from by rw [hW7]; exact B4.out)
  go_wp2_with fail
  rw [← hW7]
  clear cS4 lS4 cT4 lT4 S4 T4 O4 F4 X4 B4 hW7
  go_loopg [11, 12] n4x (fun gg s11 s12 wr => ∃ k : Nat, k ≤ n4x ∧ n4x - k ≤ gg ∧ s11 = .int .i64 (cntD bg bs k : Nat) ∧ s12 = .int .i64 k ∧ Hid (Below W7.heap.size W7 wr))
  case atStart => exact ⟨0, Nat.zero_le _, by omega, rfl, rfl, Lib.hid (Below.refl _ _)⟩
  case round =>
    obtain ⟨k, hk, hgg, rfl, rfl, hb⟩ := hrel
    have CS := Lib.hid (cntD_succ bg bs k)
    by_cases hlt : k < n4x
    · obtain ⟨bk, off, hkl, rfl, hbl, x0⟩ := (X7.out.below hb.out).get hlt
      have x1 := x0 0 (by decide)
      have EG := Lib.hid (List.getElem?_eq_getElem hkl)
      have hkb : k < bs.length := by rw [← H1.out]; exact hkl
      have EB := Lib.hid (List.getElem?_eq_getElem hkb)
      have hzk : k < Z.size := by rw [zs]; exact hlt
      have ZK : Z[k]'hzk = bs[k] := by
        have := HZ.out
        subst this
        simp [ByteArray.getElem_eq_getElem_data]
      generalize bg[k] = x at *
      clear x0
      simp only [u8K, byteV, Nat.mul_one, Nat.add_zero, List.getElem?_cons_zero] at x1
      generalize hy : bs[k] = y at *
      have B2 := Lib.hid (fun m : Nat => below_drewN (w := wr) (Below.refl wr.heap.size wr) m)
      rw [EG.out, EB.out] at CS
      by_cases exy : x = y
      · subst exy
        go_wp2_with fail
        go_quiet (fail)
        go_wp2_with fail
        go_roundg (n4x - (k + 1))
        case measure => omega
        case rel =>
          have cs : cntD bg bs (k + 1) = cntD bg bs k := by have h := CS.out; simpa using h
          exact ⟨k + 1, by omega, by omega, by first | (rw [cs]; done) | (rw [cs]; rfl), by go_num, below_from (B2.out _) hb.out hb.out.size⟩
      · have hne : ((x.toNat : Int) != (y.toNat : Int)) = true := by
          rw [bne_iff_ne]
          intro e
          exact exy (UInt8.toNat_inj.1 (by omega))
        have hne2 : ¬ ((x.toNat : Int) = (y.toNat : Int)) := by simpa using hne
        have wc : IntKind.i64.wrap (((cntD bg bs k : Nat) : Int) + 1) = ((cntD bg bs k : Nat) : Int) + 1 := IntWalk.i64_in _ (by
          have : cntD bg bs k ≤ k := by unfold cntD; exact Nat.le_trans (List.length_filter_le _ _) (by simp)
          omega)
        go_wp2_with fail
        go_quiet (fail)
        go_wp2_with fail
        go_roundg (n4x - (k + 1))
        case measure => omega
        case rel =>
          have cs : cntD bg bs (k + 1) = cntD bg bs k + 1 := by have h := CS.out; simpa [exy] using h
          exact ⟨k + 1, by omega, by omega, by first | (rw [cs]; done) | (rw [cs]; rfl), by go_num, below_from (B2.out _) hb.out hb.out.size⟩
    · obtain rfl : k = n4x := by omega
      have hlen : bs.length = k := by rw [← H1.out]; exact XL.out
      have c1 : cntD bg bs k ≤ 1 := by have := H2.out; rw [hlen] at this; exact this
      have c2 : cntD bg bs k = 0 ∨ 0 < n' := by have := H3.out; rw [hlen, FL.out] at this; exact this
      have S8 := Lib.hid (S7.out.past hb.out)
      have s8c := S8.out.cell
      have s8l := S8.out.lt
      have B8 := Lib.hid (below_from hb.out B7.out B7.out.size)
      rcases (show cntD bg bs k = 0 ∨ cntD bg bs k = 1 by omega) with c0 | c0
      · rw [c0]
        go_wp2_with fail
        go_ret
        exact ⟨ret_bool (by first | rfl | simp), B8.out⟩
      · have hn' : 0 < n' := by omega
        have hn2 : (0 : Int) < (n' : Int) := by omega
        rw [c0]
        clear c2
        go_wp2_with fail
        go_ret
        exact ⟨ret_bool (by first | rfl | simp), B8.out⟩

end Go.Proofs.Ytnnmppnbkplamaa
