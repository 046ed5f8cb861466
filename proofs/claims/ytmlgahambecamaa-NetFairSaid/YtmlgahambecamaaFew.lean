/- Whether a net is small enough to be played; of the document. -/
import Derived.Test.YtmlgahambecamaaPlain
import Derived.Shelf.Abstract
namespace Go.Proofs.Ytmlgahambecamaa
open Go.RowKit Go.Shelf

/-- What Few hands back: a yes or no; a yes bounds the lists. -/
def FewR (o : Nt) (e : Ending) : Prop := ∃ b : Bool, e = .returned (.bool b) ∧ (b = true → o.Ln ≤ 1100 ∧ o.Sn ≤ 60 ∧ o.Cn ≤ 200 ∧ o.Kn ≤ 40)
theorem fewR_mk {o : Nt} {b : Bool} (h : b = true → o.Ln ≤ 1100 ∧ o.Sn ≤ 60 ∧ o.Cn ≤ 200 ∧ o.Kn ≤ 40) : FewR o (.returned (.bool b)) := ⟨b, rfl, h⟩
set_option maxHeartbeats 8000000 in
set_option maxRecDepth 100000 in
theorem few_any (o : Nt) (w : World) (ho : Nt.At w o) : Calls Try.prog 12 #[o.v] w fun e w' => FewR o e ∧ Below w.heap.size w w' := by
  have hl1 := ho.l.cap
  have hl2 := ho.l.max
  have HL := Lib.hid ho.l
  clear ho
  obtain ⟨now, next, LA, Ln, Lc, L, SA, Sn, Sc, S, CA, Cn, Cc, C, KA, Kn, Kc, K⟩ := o
  dsimp only at *
  obtain ⟨W0, hW0⟩ : ∃ W0, W0 = w.alloc (.cells #[.int .i64 now, .int .i64 next, .slice LA Ln Lc, .slice SA Sn Sc, .slice CA Cn Cc, .slice KA Kn Kc] 27) := ⟨_, rfl⟩
  have B0 := Lib.hid (show Below w.heap.size w W0 from by rw [hW0]; exact below_alloc1 w _)
  have N0 := Lib.hid (show Has W0 w.heap.size #[.int .i64 now, .int .i64 next, .slice LA Ln Lc, .slice SA Sn Sc, .slice CA Cn Cc, .slice KA Kn Kc] from by rw [hW0]; exact Has.newAt w _ 27 rfl)
  have HW0 := Lib.hid hW0
  have c0 := N0.out.cell
  have l0 := N0.out.lt
  clear hW0
  show Calls Try.prog 12 #[.agg #[.int .i64 now, .int .i64 next, .slice LA Ln Lc, .slice SA Sn Sc, .slice CA Cn Cc, .slice KA Kn Kc]] w _
  go_enter Try.func12, Try.ntmps12
  go_wp2_with fail
  rw [← HW0.out]
  go_loopg [3, 9] Ln (fun gg s3 s wr => ∃ (k : Nat) (v : Int), k ≤ Ln ∧ Ln - k ≤ gg ∧ s3 = .int .i64 v ∧ s = .int .i64 k ∧ Hid (Has wr w.heap.size #[.int .i64 now, .int .i64 next, .slice LA Ln Lc, .slice SA Sn Sc, .slice CA Cn Cc, .slice KA Kn Kc]) ∧ Hid (Below w.heap.size w wr))
  case atStart => exact ⟨0, 0, Nat.zero_le _, by omega, rfl, rfl, N0, B0⟩
  case round =>
    clear c0 l0
    obtain ⟨k, v, hk, hgg, rfl, rfl, N2, B2⟩ := hrel
    have c2 := N2.out.cell
    have l2 := N2.out.lt
    by_cases hlt : k < Ln
    · obtain ⟨b, off, hkl, rfl, hbl, x0, x1, x2, x3, x4⟩ := mg_at (HL.out.below B2.out) hlt
      generalize L[k] = x at *
      have N3 := Lib.hid (N2.out.alloc (.cells #[.int .i64 x.t, .int .i64 x.no, .int .i64 x.frm, .int .i64 x.dst, .slice x.A x.n x.c] 40))
      have B3 := Lib.hid (B2.out.alloc B2.out.size (.cells #[.int .i64 x.t, .int .i64 x.no, .int .i64 x.frm, .int .i64 x.dst, .slice x.A x.n x.c] 40))
      go_wp2_with fail
      go_roundg (Ln - (k + 1))
      case measure => omega
      case rel => exact ⟨k + 1, _, by omega, by omega, rfl, by go_num, N3, B3⟩
    · obtain rfl : Ln = k := by omega
      by_cases h1 : Ln ≤ 1100
      · have d1 : decide ((Ln : Int) ≤ 1100) = true := decide_eq_true (by omega)
        have d1n : decide (Ln ≤ 1100) = true := decide_eq_true h1
        by_cases h2 : v ≤ 50000
        · have d2 : decide (v ≤ 50000) = true := decide_eq_true h2
          by_cases h3 : Sn ≤ 60
          · have d3 : decide ((Sn : Int) ≤ 60) = true := decide_eq_true (by omega)
            have d3n : decide (Sn ≤ 60) = true := decide_eq_true h3
            by_cases h4 : Cn ≤ 200
            · have d4 : decide ((Cn : Int) ≤ 200) = true := decide_eq_true (by omega)
              have d4n : decide (Cn ≤ 200) = true := decide_eq_true h4
              by_cases h5 : Kn ≤ 40
              · have d5 : decide ((Kn : Int) ≤ 40) = true := decide_eq_true (by omega)
                have d5n : decide (Kn ≤ 40) = true := decide_eq_true h5
                go_wp2_with fail
                go_ret
                exact ⟨fewR_mk (fun _ => ⟨h1, h3, h4, h5⟩), B2.out⟩
              · have d5 : decide ((Kn : Int) ≤ 40) = false := decide_eq_false (by omega)
                have d5n : decide (Kn ≤ 40) = false := decide_eq_false h5
                go_wp2_with fail
                go_ret
                exact ⟨fewR_mk (fun h => by simp_all), B2.out⟩
            · have d4 : decide ((Cn : Int) ≤ 200) = false := decide_eq_false (by omega)
              have d4n : decide (Cn ≤ 200) = false := decide_eq_false h4
              go_wp2_with fail
              go_ret
              exact ⟨fewR_mk (fun h => by cases h), B2.out⟩
          · have d3 : decide ((Sn : Int) ≤ 60) = false := decide_eq_false (by omega)
            have d3n : decide (Sn ≤ 60) = false := decide_eq_false h3
            go_wp2_with fail
            go_ret
            exact ⟨fewR_mk (fun h => by cases h), B2.out⟩
        · have d2 : decide (v ≤ 50000) = false := decide_eq_false h2
          go_wp2_with fail
          go_ret
          exact ⟨fewR_mk (fun h => by cases h), B2.out⟩
      · have d1 : decide ((Ln : Int) ≤ 1100) = false := decide_eq_false (by omega)
        have d1n : decide (Ln ≤ 1100) = false := decide_eq_false h1
        go_wp2_with fail
        go_ret
        exact ⟨fewR_mk (fun h => by cases h), B2.out⟩

end Go.Proofs.Ytmlgahambecamaa
