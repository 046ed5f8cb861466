/- Are there few producers, each with few partitions and groups. -/
import Derived.Test.YtnigjchgpmladaaLeaf2
import Derived.Test.YtnigjchgpmladaaCor
import Derived.Deep.DeepCutAuto
namespace Go.Proofs.Ytnigjchgpmladaa
open Go.RowKit Go.Shelf

def fewX (x : Tv) : Bool := decide (x.P.length ≤ 300) && decide (x.G.length ≤ 100)
def fewB (c : Cv) : Bool := decide (c.L.length ≤ 60) && c.L.all fewX
set_option maxRecDepth 100000 in
set_option maxHeartbeats 16000000 in
theorem few_any (o : Tc) (w : World) (ho : Tc.At w o) : Calls Try.prog 12 #[o.v] w fun e w' => e = .returned (.bool (fewB o.val)) ∧ Below w.heap.size w w' := by
  have B1 := Lib.hid (below_alloc1 w (.cells #[.int .i64 o.next, .slice o.A o.n o.c] 24))
  have N1 := Lib.hid (Has.newAt w #[.int .i64 o.next, .slice o.A o.n o.c] 24 (g := w.heap.size) rfl)
  have HL := Lib.hid (show Sl txK w o.A o.n o.c o.L from ho)
  have hcap := ho.cap
  have hmax := ho.max
  have LN := Lib.hid (show o.val.L.length = o.n from by rw [← ho.len]; simp [Tc.val])
  clear ho
  obtain ⟨W1, hW1⟩ : ∃ W, W = w.alloc (.cells #[.int .i64 o.next, .slice o.A o.n o.c] 24) := ⟨_, rfl⟩
  rw [← hW1] at B1 N1
  have HW1 := Lib.hid hW1
  clear hW1
  go_enter Try.func12, Try.ntmps12
  go_upto_region 1 with (fail)
  rw [← HW1.out]
  obtain ⟨CA, hCA⟩ : ∃ A, o.A = A := ⟨_, rfl⟩
  rw [hCA] at HL N1
  clear hCA
  go_wp2_with fail
  go_loopg [3] 300 (fun gg s3 wr => ∃ k : Nat, k ≤ o.n ∧ k ≤ 300 ∧ 300 - k ≤ gg ∧ s3 = .int .i64 k ∧ Hid (Has wr w.heap.size #[.int .i64 o.next, .slice CA o.n o.c]) ∧ Hid (Below w.heap.size w wr) ∧ Hid (∀ j (hj : j < o.L.length), j < k → fewX o.L[j].val = true))
  case atStart => exact ⟨0, Nat.zero_le _, by omega, by omega, rfl, N1, B1, Lib.hid (fun j _ h => absurd h (Nat.not_lt_zero _))⟩
  case round =>
    obtain ⟨k, hk, hk3, hgg, rfl, N2, B2, IN⟩ := hrel
    have c2 := N2.out.cell
    have l2 := N2.out.lt
    by_cases hlt : k < o.n
    · by_cases h3 : k < 300
      · have d8 : decide ((k : Int) < (300 : Int)) = true := decide_eq_true (by omega)
        obtain ⟨b, off, hkl, rfl, hbl, x0, x1, x2, x3, x4, x5, x6, x7⟩ := tx_at (HL.out.below B2.out) hlt
        have XI := Lib.hid (show Tx.In w o.L[k] from HL.out.each o.L[k] (List.getElem_mem hkl))
        have BAD := Lib.hid (show fewX o.L[k].val = false → fewB o.val = false from fun h => by
          unfold fewB
          rw [Bool.and_eq_false_iff]
          right
          rw [← Bool.not_eq_true, List.all_eq_true]
          intro g
          have := g o.L[k].val (List.mem_map_of_mem (List.getElem_mem hkl))
          rw [h] at this
          exact absurd this (by simp))
        have NX := Lib.hid (show fewX o.L[k].val = true → ∀ j (hj : j < o.L.length), j < k + 1 → fewX o.L[j].val = true from fun h j hj hjk => by
          rcases Nat.lt_or_ge j k with h' | h'
          · exact IN.out j hj h'
          · obtain rfl : j = k := by omega
            exact h)
        generalize o.L[k] = x at *
        have LP := Lib.hid (show x.val.P.length = x.Pn from XI.out.p.len)
        have LG := Lib.hid (show x.val.G.length = x.Gn from XI.out.g.len)
        have q0 : (0 : Int) ≤ (k : Int) := by omega
        have q1 : (k : Int) < (o.n : Int) := by omega
        clear x0 x1 x2 x3 x4 x7
        by_cases b1 : 300 < x.Pn
        · have d1 : decide ((300 : Int) < (x.Pn : Int)) = true := decide_eq_true (by omega)
          have d2 : decide (300 < x.Pn) = true := decide_eq_true b1
          have R := Lib.hid (BAD.out (by unfold fewX; rw [LP.out, decide_eq_false (by omega), Bool.false_and]))
          go_wp2_with fail
          go_ret
          exact ⟨ret_bool R.out.symm, B2.out⟩
        · have d1 : decide ((300 : Int) < (x.Pn : Int)) = false := decide_eq_false (by omega)
          have d2 : decide (300 < x.Pn) = false := decide_eq_false b1
          by_cases b2 : 100 < x.Gn
          · have d3 : decide ((100 : Int) < (x.Gn : Int)) = true := decide_eq_true (by omega)
            have d4 : decide (100 < x.Gn) = true := decide_eq_true b2
            have R := Lib.hid (BAD.out (by unfold fewX; rw [LG.out, show decide (x.Gn ≤ 100) = false from decide_eq_false (by omega), Bool.and_false]))
            go_wp2_with fail
            go_ret
            exact ⟨ret_bool R.out.symm, B2.out⟩
          · have d3 : decide ((100 : Int) < (x.Gn : Int)) = false := decide_eq_false (by omega)
            have d4 : decide (100 < x.Gn) = false := decide_eq_false b2
            have OK := Lib.hid (NX.out (by unfold fewX; rw [LP.out, LG.out, decide_eq_true (by omega), decide_eq_true (by omega)]; rfl))
            go_wp2_with fail
            go_roundg (300 - (k + 1))
            case measure => omega
            case rel => exact ⟨k + 1, by omega, by omega, by omega, by go_num, N2, B2, OK⟩
      · have d8 : decide ((k : Int) < (300 : Int)) = false := decide_eq_false (by omega)
        have d9 : decide ((o.n : Int) ≤ (60 : Int)) = false := decide_eq_false (by omega)
        have R := Lib.hid (show fewB o.val = false from by unfold fewB; rw [LN.out, decide_eq_false (by omega), Bool.false_and])
        go_wp2_with fail
        go_ret
        exact ⟨ret_bool R.out.symm, B2.out⟩
    · obtain rfl : o.n = k := by omega
      have ALL := Lib.hid (show o.val.L.all fewX = true from by
        rw [List.all_eq_true]
        intro v hv
        obtain ⟨x, hx, rfl⟩ := List.mem_map.1 hv
        obtain ⟨j, hj, rfl⟩ := List.mem_iff_getElem.1 hx
        exact IN.out j hj (by rw [← HL.out.len]; exact hj))
      have R := Lib.hid (show fewB o.val = decide ((o.n : Int) ≤ (60 : Int)) from by
        unfold fewB; rw [LN.out, ALL.out, Bool.and_true]; exact decide_eq_decide.2 (by omega))
      go_wp2_with fail
      go_ret
      exact ⟨ret_bool R.out.symm, B2.out⟩

end Go.Proofs.Ytnigjchgpmladaa
