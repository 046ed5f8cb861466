/- A message's slip, of the document. -/
import Derived.Test.YtmlgahambecamaaSendP
import Derived.Test.YtmlgahambecamaaRset
namespace Go.Proofs.Ytmlgahambecamaa
open Go.RowKit Go.Shelf

set_option maxHeartbeats 8000000 in
set_option maxRecDepth 100000 in
theorem rslip_any (o : Nt) (no : Int) (w : World) (ho : Nt.At w o) : Calls Try.prog 49 #[o.v, .int .i64 no] w fun e w' => e = .returned (.agg #[.int .i64 (slipOf o.S no).no, .int .i64 (slipOf o.S no).kind, .int .i64 (slipOf o.S no).amt]) ∧ Below w.heap.size w w' := by
  have h1 := ho.s.cap
  have h2 := ho.s.max
  have HO := Lib.hid ho
  obtain ⟨W0, hW0⟩ : ∃ W0, W0 = (w.alloc (.cells #[.int .i64 o.now, .int .i64 o.next, .slice o.LA o.Ln o.Lc, .slice o.SA o.Sn o.Sc, .slice o.CA o.Cn o.Cc, .slice o.KA o.Kn o.Kc] 27)).alloc (.cells #[.int .i64 0, .int .i64 0, .int .i64 0] 54) := ⟨_, rfl⟩
  have B0 := Lib.hid (show Below w.heap.size w W0 from by rw [hW0]; exact ((Below.refl _ w).alloc (Nat.le_refl _) _).alloc (by simp) _)
  have N0 := Lib.hid (show Has W0 w.heap.size #[.int .i64 o.now, .int .i64 o.next, .slice o.LA o.Ln o.Lc, .slice o.SA o.Sn o.Sc, .slice o.CA o.Cn o.Cc, .slice o.KA o.Kn o.Kc] from by rw [hW0]; exact (Has.newAt w #[.int .i64 o.now, .int .i64 o.next, .slice o.LA o.Ln o.Lc, .slice o.SA o.Sn o.Sc, .slice o.CA o.Cn o.Cc, .slice o.KA o.Kn o.Kc] 27 rfl).alloc _)
  have X0 := Lib.hid (show Has W0 (w.heap.size + 1) #[.int .i64 0, .int .i64 0, .int .i64 0] from by rw [hW0]; exact Has.newAt _ #[.int .i64 0, .int .i64 0, .int .i64 0] 54 (by simp))
  have HW0 := Lib.hid hW0
  have n0c := N0.out.cell
  have n0l := N0.out.lt
  clear ho hW0
  go_enter Try.func49, Try.ntmps49
  go_upto_region 1 with (fail)
  rw [← HW0.out]
  go_wp2_with fail
  go_loopg [10] o.Sn (fun gg s wr => ∃ k : Nat, k ≤ o.Sn ∧ o.Sn - k ≤ gg ∧ s = .int .i64 k ∧ Hid (Below w.heap.size w wr) ∧ Hid (Has wr (w.heap.size + 1) #[.int .i64 0, .int .i64 0, .int .i64 0]) ∧ Hid (∀ j (hj : j < o.S.length), j < k → ¬ o.S[j].no = no))
  case atStart => exact ⟨0, Nat.zero_le _, by omega, rfl, B0, X0, Lib.hid (fun j _ h => absurd h (Nat.not_lt_zero _))⟩
  case round =>
    clear n0c n0l
    obtain ⟨k, hk, hgg, rfl, B1, X1, I⟩ := hrel
    have x1c := X1.out.cell
    have x1l := X1.out.lt
    have x1f := X1.out.free
    by_cases hlt : k < o.Sn
    · obtain ⟨bb, off, hkl, hSA, hbl, x0, x1, x2⟩ := sp_at (HO.out.s.below B1.out) hlt
      have YES := Lib.hid (fun h => slip_at (no := no) hkl h (fun j hj hjk => I.out j hj hjk))
      have NX := Lib.hid (show ¬ o.S[k].no = no → ∀ j (hj : j < o.S.length), j < k + 1 → ¬ o.S[j].no = no from fun h j hj hjk => by
        rcases Nat.lt_or_ge j k with h' | h'
        · exact I.out j hj h'
        · obtain rfl : j = k := by omega
          exact h)
      generalize o.S[k] = x at *
      have BN := Lib.hid (B1.out.alloc B1.out.size (.cells #[.int .i64 x.no, .int .i64 x.kind, .int .i64 x.amt] 54))
      have XN := Lib.hid (X1.out.alloc (.cells #[.int .i64 x.no, .int .i64 x.kind, .int .i64 x.amt] 54))
      by_cases he : x.no = no
      · have d1 : (x.no == no) = true := by rw [beq_iff_eq]; exact he
        have R := Lib.hid (YES.out he)
        clear he
        go_wp2_with fail
        rw [R.out]
        have ST := setCells_grown (w.heap.size + 1) [.int .i64 x.no, .int .i64 x.kind, .int .i64 x.amt] 0 wr
        refine bodyPost_ret (v := .agg #[.int .i64 x.no, .int .i64 x.kind, .int .i64 x.amt]) (by simp [results, Try.results49, go_sem, x1c, x1l]) rfl ?_
        have BS := B1.out.trans (grown_below ST B1.out.size (fun j hj => by injection hj with hj; omega))
        exact ⟨rfl, BS.alloc BS.size _⟩
      · have d1 : (x.no == no) = false := by rw [beq_eq_false_iff_ne]; exact he
        have N2 := Lib.hid (NX.out he)
        clear he
        go_wp2_with fail
        go_roundg (o.Sn - (k + 1))
        case measure => omega
        case rel => exact ⟨k + 1, by omega, by omega, by go_num, BN, XN, N2⟩
    · have R := Lib.hid (show slipOf o.S no = ⟨0, 0, 0⟩ from slip_no (fun j hj => I.out j hj (by have := HO.out.s.len; omega)))
      obtain rfl : o.Sn = k := by omega
      go_wp2_with fail
      have ST := setCells_grown (w.heap.size + 1) [.int .i64 0, .int .i64 0, .int .i64 0] 0 wr
      refine bodyPost_ret (v := .agg #[.int .i64 0, .int .i64 0, .int .i64 0]) (by simp [results, Try.results49, go_sem, x1c]) rfl ?_
      exact ⟨by rw [R.out], B1.out.trans (grown_below ST B1.out.size (fun j hj => by injection hj with hj; omega))⟩

end Go.Proofs.Ytmlgahambecamaa
