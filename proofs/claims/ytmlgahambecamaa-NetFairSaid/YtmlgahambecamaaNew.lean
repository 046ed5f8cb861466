/- New, of the program and of the document. -/
import Derived.Test.YtmlgahambecamaaRes
import Derived.Test.YtmlgahambecamaaCheck
import Derived.Test.YtmlgahambecamaaRCheck
namespace Go.Proofs.Ytmlgahambecamaa
open Go.RowKit Go.Shelf

set_option maxRecDepth 100000 in
set_option maxHeartbeats 8000000 in
theorem new_any (m : Int) (SA : Option Addr) (Sn Sc : Nat) (S : List Sp) (KA : Option Addr) (Kn Kc : Nat) (K : List Int) (w : World) (hs : Sl spK w SA Sn Sc S) (hk : Sl intK w KA Kn Kc K) (hS : Sn ≤ 60) (hK : Kn ≤ 40) :
    Calls Try.prog 13 #[.int .i64 m, .slice SA Sn Sc, .slice KA Kn Kc] w fun e w' => NetRes w.heap.size (newV m S K) e w' ∧ Below w.heap.size w w' := by
  have R0 := Lib.hid (Has.newAt w #[.int .i64 0, .int .i64 0, .slice none 0 0, .slice none 0 0, .slice none 0 0, .slice none 0 0] 27 (g := w.heap.size) rfl)
  have B0 := Lib.hid (below_alloc1 w (.cells #[.int .i64 0, .int .i64 0, .slice none 0 0, .slice none 0 0, .slice none 0 0, .slice none 0 0] 27))
  have hAt : Nt.At (w.alloc (.cells #[.int .i64 0, .int .i64 0, .slice none 0 0, .slice none 0 0, .slice none 0 0, .slice none 0 0] 27)) (⟨0, 0, none, 0, 0, [], SA, Sn, Sc, S, none, 0, 0, [], KA, Kn, Kc, K⟩ : Nt) := ⟨Sl.nil _ _, hs.alloc _, Sl.nil _ _, hk.alloc _⟩
  have OW := Lib.hid (show Calls Try.prog 33 #[.agg #[.int .i64 0, .int .i64 0, .slice none 0 0, .slice SA Sn Sc, .slice none 0 0, .slice KA Kn Kc]] (w.alloc (.cells #[.int .i64 0, .int .i64 0, .slice none 0 0, .slice none 0 0, .slice none 0 0, .slice none 0 0] 27)) (fun e w' => ∃ q : Nt, e = .returned q.v ∧ Nt.Like (⟨0, 0, none, 0, 0, [], SA, Sn, Sc, S, none, 0, 0, [], KA, Kn, Kc, K⟩ : Nt) q ∧ Nt.Own w' (w.alloc (.cells #[.int .i64 0, .int .i64 0, .slice none 0 0, .slice none 0 0, .slice none 0 0, .slice none 0 0] 27)).heap.size q ∧ Below (w.alloc (.cells #[.int .i64 0, .int .i64 0, .slice none 0 0, .slice none 0 0, .slice none 0 0, .slice none 0 0] 27)).heap.size (w.alloc (.cells #[.int .i64 0, .int .i64 0, .slice none 0 0, .slice none 0 0, .slice none 0 0, .slice none 0 0] 27)) w') from own_any (⟨0, 0, none, 0, 0, [], SA, Sn, Sc, S, none, 0, 0, [], KA, Kn, Kc, K⟩ : Nt) (w.alloc (.cells #[.int .i64 0, .int .i64 0, .slice none 0 0, .slice none 0 0, .slice none 0 0, .slice none 0 0] 27)) hAt ⟨by simp, by simp; omega, by simp, by simp; omega⟩)
  have HK : Hid ((K.length : Int) = Kn) := Lib.hid (by rw [hk.len])
  clear hs hk hAt
  by_cases hm : m = (Kn : Int)
  · subst hm
    have dm : ((Kn : Int) != (Kn : Int)) = false := by simp
    cases hc : checkB ⟨0, 0, [], S, [], K⟩ with
    | false =>
      have HC := Lib.hid hc
      clear hc
      go_enter Try.func13, Try.ntmps13
      go_wp2_with (go_at_call 33; refine OW.out.mono ?_; rintro e w1 ⟨q, rfl, hL, hO, hb⟩; have QL := Lib.hid hL; have QV := Lib.hid (show q.val = ⟨0, 0, [], S, [], K⟩ from hL.val); have QO := Lib.hid hO; have B1 := Lib.hid (below_from hb B0.out B0.out.size); have R1 := Lib.hid ((R0.out.past hb).alloc (.cells #[.int .i64 q.now, .int .i64 q.next, .slice q.LA q.Ln q.Lc, .slice q.SA q.Sn q.Sc, .slice q.CA q.Cn q.Cc, .slice q.KA q.Kn q.Kc] 27)); have X1 := Lib.hid (B1.out.alloc B1.out.size (.cells #[.int .i64 q.now, .int .i64 q.next, .slice q.LA q.Ln q.Lc, .slice q.SA q.Sn q.Sc, .slice q.CA q.Cn q.Cc, .slice q.KA q.Kn q.Kc] 27)); have T1 := Lib.hid (Has.newAt w1 #[.int .i64 q.now, .int .i64 q.next, .slice q.LA q.Ln q.Lc, .slice q.SA q.Sn q.Sc, .slice q.CA q.Cn q.Cc, .slice q.KA q.Kn q.Kc] 27 (g := w1.heap.size) rfl); clear hL hO hb)
      have CK := Lib.hid (check_any q (w1.alloc (.cells #[.int .i64 q.now, .int .i64 q.next, .slice q.LA q.Ln q.Lc, .slice q.SA q.Sn q.Sc, .slice q.CA q.Cn q.Cc, .slice q.KA q.Kn q.Kc] 27)) (QO.out.at_.alloc _) (by rw [QL.out.Sn]; show Sn ≤ 50000; omega))
      rw [QV.out, checkI_one HC.out] at CK
      go_wp2_with (go_at_call 15; refine CK.out.mono ?_; rintro e w2 ⟨rfl, hb⟩; have B2 := Lib.hid (below_from hb X1.out X1.out.size); have R2 := Lib.hid (R1.out.past hb); have r2c := R2.out.cell; have r2l := R2.out.lt; have r2f := R2.out.free; clear hb)
      refine bodyPost_ret (v := .tuple #[noN.v, .int .i64 1]) (by simp [results, Try.results13, go_sem, noN, r2c]) rfl ?_
      exact ⟨NetRes.no (newV_no (.inr HC.out)), B2.out.trans (grown_below (setCells_grown w.heap.size [.int .i64 0, .int .i64 0, .slice none 0 0, .slice none 0 0, .slice none 0 0, .slice none 0 0] 0 w2) B2.out.size (fun q hq => by injection hq with hq; omega))⟩
    | true =>
      have HC := Lib.hid hc
      clear hc
      go_enter Try.func13, Try.ntmps13
      go_wp2_with (go_at_call 33; refine OW.out.mono ?_; rintro e w1 ⟨q, rfl, hL, hO, hb⟩; have QL := Lib.hid hL; have QV := Lib.hid (show q.val = ⟨0, 0, [], S, [], K⟩ from hL.val); have QO := Lib.hid hO; have B1 := Lib.hid (below_from hb B0.out B0.out.size); have R1 := Lib.hid ((R0.out.past hb).alloc (.cells #[.int .i64 q.now, .int .i64 q.next, .slice q.LA q.Ln q.Lc, .slice q.SA q.Sn q.Sc, .slice q.CA q.Cn q.Cc, .slice q.KA q.Kn q.Kc] 27)); have X1 := Lib.hid (B1.out.alloc B1.out.size (.cells #[.int .i64 q.now, .int .i64 q.next, .slice q.LA q.Ln q.Lc, .slice q.SA q.Sn q.Sc, .slice q.CA q.Cn q.Cc, .slice q.KA q.Kn q.Kc] 27)); have T1 := Lib.hid (Has.newAt w1 #[.int .i64 q.now, .int .i64 q.next, .slice q.LA q.Ln q.Lc, .slice q.SA q.Sn q.Sc, .slice q.CA q.Cn q.Cc, .slice q.KA q.Kn q.Kc] 27 (g := w1.heap.size) rfl); clear hL hO hb)
      have CK := Lib.hid (check_any q (w1.alloc (.cells #[.int .i64 q.now, .int .i64 q.next, .slice q.LA q.Ln q.Lc, .slice q.SA q.Sn q.Sc, .slice q.CA q.Cn q.Cc, .slice q.KA q.Kn q.Kc] 27)) (QO.out.at_.alloc _) (by rw [QL.out.Sn]; show Sn ≤ 50000; omega))
      rw [QV.out, checkI_nil HC.out] at CK
      go_wp2_with (go_at_call 15; refine CK.out.mono ?_; rintro e w2 ⟨rfl, hb⟩; have B2 := Lib.hid (below_from hb X1.out X1.out.size); have R2 := Lib.hid (R1.out.past hb); have r2c := R2.out.cell; have r2l := R2.out.lt; have r2f := R2.out.free; have T2 := Lib.hid (T1.out.past hb); have t2c := T2.out.cell; have t2l := T2.out.lt; have O2 := Lib.hid ((QO.out.kept (below_alloc1 w1 (.cells #[.int .i64 q.now, .int .i64 q.next, .slice q.LA q.Ln q.Lc, .slice q.SA q.Sn q.Sc, .slice q.CA q.Cn q.Cc, .slice q.KA q.Kn q.Kc] 27))).kept hb); clear hb)
      refine bodyPost_ret (v := .tuple #[q.v, .int .i64 0]) (by simp [results, Try.results13, go_sem, r2c]) rfl ?_
      have G := setCells_grown w.heap.size [.int .i64 q.now, .int .i64 q.next, .slice q.LA q.Ln q.Lc, .slice q.SA q.Sn q.Sc, .slice q.CA q.Cn q.Cc, .slice q.KA q.Kn q.Kc] 0 w2
      exact ⟨NetRes.mk q (by rw [newV_yes HK.out HC.out, QV.out]) ((O2.out.grown G (by simp) (by rw [QL.out.L]; intro a ha; cases ha)).base (by simp)), B2.out.trans (grown_below G B2.out.size (fun q hq => by injection hq with hq; omega))⟩
  · have dm : (m != (Kn : Int)) = true := by rw [bne_iff_ne]; exact hm
    go_enter Try.func13, Try.ntmps13
    go_wp2_with (go_at_call 33; refine OW.out.mono ?_; rintro e w1 ⟨q, rfl, hL, hO, hb⟩; have QL := Lib.hid hL; have QV := Lib.hid (show q.val = ⟨0, 0, [], S, [], K⟩ from hL.val); have QO := Lib.hid hO; have B1 := Lib.hid (below_from hb B0.out B0.out.size); have R1 := Lib.hid ((R0.out.past hb).alloc (.cells #[.int .i64 q.now, .int .i64 q.next, .slice q.LA q.Ln q.Lc, .slice q.SA q.Sn q.Sc, .slice q.CA q.Cn q.Cc, .slice q.KA q.Kn q.Kc] 27)); have X1 := Lib.hid (B1.out.alloc B1.out.size (.cells #[.int .i64 q.now, .int .i64 q.next, .slice q.LA q.Ln q.Lc, .slice q.SA q.Sn q.Sc, .slice q.CA q.Cn q.Cc, .slice q.KA q.Kn q.Kc] 27)); have T1 := Lib.hid (Has.newAt w1 #[.int .i64 q.now, .int .i64 q.next, .slice q.LA q.Ln q.Lc, .slice q.SA q.Sn q.Sc, .slice q.CA q.Cn q.Cc, .slice q.KA q.Kn q.Kc] 27 (g := w1.heap.size) rfl); have r1c := R1.out.cell; have r1l := R1.out.lt; have r1f := R1.out.free; clear hL hO hb)
    refine bodyPost_ret (v := .tuple #[noN.v, .int .i64 1]) (by simp [results, Try.results13, go_sem, noN, r1c]) rfl ?_
    exact ⟨NetRes.no (newV_no (.inl (fun h => hm (by rw [← h, HK.out])))), X1.out.trans (grown_below (setCells_grown w.heap.size [.int .i64 0, .int .i64 0, .slice none 0 0, .slice none 0 0, .slice none 0 0, .slice none 0 0] 0 (w1.alloc (.cells #[.int .i64 q.now, .int .i64 q.next, .slice q.LA q.Ln q.Lc, .slice q.SA q.Sn q.Sc, .slice q.CA q.Cn q.Cc, .slice q.KA q.Kn q.Kc] 27))) X1.out.size (fun q hq => by injection hq with hq; omega))⟩

end Go.Proofs.Ytmlgahambecamaa
