/- The document's parts. The document's groups. The document's txn. -/
import Derived.Test.YtnigjchgpmladaaLeaf2
namespace Go.Proofs.Ytnigjchgpmladaa
open Go.RowKit Go.Shelf

set_option maxRecDepth 100000 in
set_option maxHeartbeats 8000000 in
theorem rparts_any (A : Option Addr) (n c : Nat) (l : List Tp) (w : World) (hl : Sl tpK w A n c l) : Calls Try.prog 86 #[.slice A n c] w fun e w' => e = .returned (.bool (keptB rightT ordT l)) ∧ Below w.heap.size w w' := by
  have hmax := hl.max
  have hcap := hl.cap
  have HL := Lib.hid hl
  have HN := Lib.hid hl.len
  clear hl
  go_enter Try.func86, Try.ntmps86
  go_wp2_with fail
  go_loopg [3] n (fun gg s3 wr => ∃ k : Nat, k ≤ n ∧ n - k ≤ gg ∧ s3 = .int .i64 k ∧ Hid (Below w.heap.size w wr) ∧ Hid (∀ j (hj : j < l.length), j < k → rightT l[j] = true ∧ ∀ (h0 : 0 < j), ordT (l[j - 1]'(by omega)) l[j] < 0))
  case atStart => exact ⟨0, Nat.zero_le _, by omega, rfl, Lib.hid (Below.refl _ _), Lib.hid (fun j _ hj => absurd hj (Nat.not_lt_zero _))⟩
  case round =>
    obtain ⟨k, hk, hgg, rfl, hb, hok⟩ := hrel
    by_cases hlt : k < n
    · obtain ⟨b, off, hkl, rfl, hbl, x0, x1, x2⟩ := tp_at (HL.out.below hb.out) hlt
      have XI := Lib.hid (HL.out.each (l[k]'hkl) (List.getElem_mem hkl))
      have NO : Hid ((rightT l[k] = false ∨ ∃ h0 : 0 < k, ¬ ordT (l[k - 1]'(by omega)) l[k] < 0) → keptB rightT ordT l = false) := Lib.hid (fun h => by
        cases hkp : keptB rightT ordT l with
        | false => rfl
        | true =>
          have := kept_at.1 hkp k hkl
          rcases h with h | ⟨h0, h⟩
          · rw [h] at this; cases this.1
          · exact absurd (this.2 h0) h)
      have YES : Hid ((rightT l[k] = true ∧ ∀ (h0 : 0 < k), ordT (l[k - 1]'(by omega)) l[k] < 0) → ∀ j (hj : j < l.length), j < k + 1 → rightT l[j] = true ∧ ∀ (h0 : 0 < j), ordT (l[j - 1]'(by omega)) l[j] < 0) := Lib.hid (fun h j hj hjk => by
        rcases Nat.lt_or_ge j k with h' | h'
        · exact hok.out j hj h'
        · obtain rfl : j = k := by omega
          exact h)
      have PV : Hid (∀ j, j + 1 = k → ∃ y : Tp, ∃ h0 : 0 < k, y = (l[k - 1]'(by omega)) ∧ wr.cell? ⟨b, off + j * 3, none⟩ = some (.string y.t) ∧ wr.cell? ⟨b, off + j * 3 + 1, none⟩ = some (.int .i64 y.p) ∧ wr.cell? ⟨b, off + j * 3 + 2, none⟩ = some (.int .i64 y.h)) := Lib.hid (fun j hj => by
        obtain ⟨b', off', hjl, e, _, c0, c1, c2⟩ := tp_at (HL.out.below hb.out) (show j < n by omega)
        injection e with e; injection e with e1 e2 e3
        subst e1 e2
        exact ⟨l[j], by omega, by congr 1; omega, c0, c1, c2⟩)
      obtain ⟨x, hx⟩ : ∃ x, l[k] = x := ⟨_, rfl⟩
      rw [hx] at x0 x1 x2 XI NO YES
      clear hx
      have rx0 := at_regrown x0
      have rx1 := at_regrown x1
      have rx2 := at_regrown x2
      have k0 : (0 : Int) ≤ (k : Int) := by omega
      have k1 : (k : Int) < (n : Int) := by omega
      obtain ⟨r, hr⟩ : ∃ r, rightT x = r := ⟨_, rfl⟩
      have RT := Lib.hid (fun w' (_ : Below wr.heap.size wr w') => rtpv_any x w' XI.out.1)
      rw [hr] at RT NO YES
      cases r with
      | false =>
        clear hr
        go_wp2_with fail
        refine region_below (by kernel_rfl) (by kernel_rfl) ?_
        repeat (go_big_quiet_step ((first | (go_at_call 67; exact call_regrown RT.out) | (go_at_call 69; exact call_regrown OD.out))))
        refine wpQuiet_nil ?_
        intro w1 hb1
        have B1 := Lib.hid (below_from hb1 hb.out hb.out.size)
        clear hb1
        go_wp2_with fail
        go_ret
        exact ⟨ret_bool (NO.out (by simp)).symm, B1.out⟩
      | true =>
        clear hr
        rcases (show k = 0 ∨ ∃ j, j + 1 = k by cases k with | zero => exact .inl rfl | succ j => exact .inr ⟨j, rfl⟩) with k00 | ⟨j, hjk⟩
        · have d0 : decide ((0 : Int) < (k : Int)) = false := decide_eq_false (by omega)
          have d0' : decide (0 < k) = false := decide_eq_false (by omega)
          have k0' := Lib.hid k00
          clear k00
          go_wp2_with fail
          refine region_below (by kernel_rfl) (by kernel_rfl) ?_
          repeat (go_big_quiet_step ((first | (go_at_call 67; exact call_regrown RT.out) | (go_at_call 69; exact call_regrown OD.out))))
          refine wpQuiet_nil ?_
          intro w1 hb1
          have B1 := Lib.hid (below_from hb1 hb.out hb.out.size)
          clear hb1
          go_wp2_with fail
          go_roundg (n - (k + 1))
          case measure => omega
          case rel => exact ⟨k + 1, by omega, by omega, by go_num, B1, Lib.hid (YES.out ⟨(by first | rfl | trivial), fun h0 => absurd k0'.out (by omega)⟩)⟩
        · have d0 : decide ((0 : Int) < (k : Int)) = true := decide_eq_true (by omega)
          have d0' : decide (0 < k) = true := decide_eq_true (by omega)
          obtain ⟨y, hk0, hy, y0, y1, y2⟩ := PV.out j hjk
          have wj : IntKind.i64.wrap ((k : Int) - 1) = (j : Int) := by rw [IntWalk.i64_in _ (by omega)]; omega
          have j0 : (0 : Int) ≤ (j : Int) := by omega
          have j1 : (j : Int) < (n : Int) := by omega
          have ry0 := at_regrown y0
          have ry1 := at_regrown y1
          have ry2 := at_regrown y2
          obtain ⟨q, hq⟩ : ∃ q, ordT y x = q := ⟨_, rfl⟩
          have NO2 : Hid (¬ q < 0 → keptB rightT ordT l = false) := Lib.hid (fun h => NO.out (.inr ⟨hk0, by rw [← hq, hy] at h; exact h⟩))
          have YES2 := Lib.hid (fun (h : q < 0) => YES.out ⟨by first | rfl | trivial, fun _ => by rw [← hq, hy] at h; exact h⟩)
          have OD := Lib.hid (fun w' (_ : Below wr.heap.size wr w') => rless_any y x w')
          rw [hq] at OD
          by_cases hq0 : q < 0
          · rw [decide_eq_true hq0] at OD
            have HQ := Lib.hid hq0
            clear hq hy PV NO YES hq0
            go_wp2_with fail
            refine region_below (by kernel_rfl) (by kernel_rfl) ?_
            repeat (go_big_quiet_step ((first | (go_at_call 67; exact call_regrown RT.out) | (go_at_call 69; exact call_regrown OD.out))))
            refine wpQuiet_nil ?_
            intro w1 hb1
            have B1 := Lib.hid (below_from hb1 hb.out hb.out.size)
            clear hb1
            go_wp2_with fail
            go_roundg (n - (k + 1))
            case measure => omega
            case rel => exact ⟨k + 1, by omega, by omega, by go_num, B1, Lib.hid (YES2.out HQ.out)⟩
          · rw [decide_eq_false hq0] at OD
            have HQ := Lib.hid hq0
            clear hq hy PV NO YES hq0
            go_wp2_with fail
            refine region_below (by kernel_rfl) (by kernel_rfl) ?_
            repeat (go_big_quiet_step ((first | (go_at_call 67; exact call_regrown RT.out) | (go_at_call 69; exact call_regrown OD.out))))
            refine wpQuiet_nil ?_
            intro w1 hb1
            have B1 := Lib.hid (below_from hb1 hb.out hb.out.size)
            clear hb1
            go_wp2_with fail
            go_ret
            exact ⟨ret_bool (NO2.out HQ.out).symm, B1.out⟩
    · obtain rfl : k = n := by omega
      have OK := Lib.hid (kept_at.2 fun i hi => hok.out i hi (by rw [← HN.out]; exact hi))
      go_wp2_with fail
      go_ret
      exact ⟨ret_bool OK.out.symm, hb.out⟩

end Go.Proofs.Ytnigjchgpmladaa

namespace Go.Proofs.Ytnigjchgpmladaa
open Go.RowKit Go.Shelf

set_option maxRecDepth 100000 in
set_option maxHeartbeats 8000000 in
theorem rgroups_any (A : Option Addr) (n c : Nat) (l : List ByteArray) (w : World) (hl : Sl strK w A n c l) : Calls Try.prog 87 #[.slice A n c] w fun e w' => e = .returned (.bool (keptB nameC cmpS l)) ∧ Below w.heap.size w w' := by
  have hmax := hl.max
  have hcap := hl.cap
  have HL := Lib.hid hl
  have HN := Lib.hid hl.len
  clear hl
  go_enter Try.func87, Try.ntmps87
  go_wp2_with fail
  go_loopg [3] n (fun gg s3 wr => ∃ k : Nat, k ≤ n ∧ n - k ≤ gg ∧ s3 = .int .i64 k ∧ Hid (Below w.heap.size w wr) ∧ Hid (∀ j (hj : j < l.length), j < k → nameC l[j] = true ∧ ∀ (h0 : 0 < j), cmpS (l[j - 1]'(by omega)) l[j] < 0))
  case atStart => exact ⟨0, Nat.zero_le _, by omega, rfl, Lib.hid (Below.refl _ _), Lib.hid (fun j _ hj => absurd hj (Nat.not_lt_zero _))⟩
  case round =>
    obtain ⟨k, hk, hgg, rfl, hb, hok⟩ := hrel
    by_cases hlt : k < n
    · obtain ⟨b, off, hkl, rfl, hbl, x0⟩ := str_at (HL.out.below hb.out) hlt
      have XI := Lib.hid (HL.out.each (l[k]'hkl) (List.getElem_mem hkl))
      have NO : Hid ((nameC l[k] = false ∨ ∃ h0 : 0 < k, ¬ cmpS (l[k - 1]'(by omega)) l[k] < 0) → keptB nameC cmpS l = false) := Lib.hid (fun h => by
        cases hkp : keptB nameC cmpS l with
        | false => rfl
        | true =>
          have := kept_at.1 hkp k hkl
          rcases h with h | ⟨h0, h⟩
          · rw [h] at this; cases this.1
          · exact absurd (this.2 h0) h)
      have YES : Hid ((nameC l[k] = true ∧ ∀ (h0 : 0 < k), cmpS (l[k - 1]'(by omega)) l[k] < 0) → ∀ j (hj : j < l.length), j < k + 1 → nameC l[j] = true ∧ ∀ (h0 : 0 < j), cmpS (l[j - 1]'(by omega)) l[j] < 0) := Lib.hid (fun h j hj hjk => by
        rcases Nat.lt_or_ge j k with h' | h'
        · exact hok.out j hj h'
        · obtain rfl : j = k := by omega
          exact h)
      have PV : Hid (∀ j, j + 1 = k → ∃ y : ByteArray, ∃ h0 : 0 < k, y = (l[k - 1]'(by omega)) ∧ wr.cell? ⟨b, off + j, none⟩ = some (.string y)) := Lib.hid (fun j hj => by
        obtain ⟨b', off', hjl, e, _, c0⟩ := str_at (HL.out.below hb.out) (show j < n by omega)
        injection e with e; injection e with e1 e2 e3
        subst e1 e2
        exact ⟨l[j], by omega, by congr 1; omega, c0⟩)
      obtain ⟨x, hx⟩ : ∃ x, l[k] = x := ⟨_, rfl⟩
      rw [hx] at x0 XI NO YES
      clear hx
      have rx0 := at_regrown x0
      have k0 : (0 : Int) ≤ (k : Int) := by omega
      have k1 : (k : Int) < (n : Int) := by omega
      obtain ⟨r, hr⟩ : ∃ r, nameC x = r := ⟨_, rfl⟩
      have RT := Lib.hid (fun w' (_ : Below wr.heap.size wr w') => rname_any x w' XI.out)
      rw [hr] at RT NO YES
      cases r with
      | false =>
        clear hr
        go_wp2_with fail
        refine region_below (by kernel_rfl) (by kernel_rfl) ?_
        repeat (go_big_quiet_step ((first | (go_at_call 50; exact call_regrown RT.out))))
        refine wpQuiet_nil ?_
        intro w1 hb1
        have B1 := Lib.hid (below_from hb1 hb.out hb.out.size)
        clear hb1
        go_wp2_with fail
        go_ret
        exact ⟨ret_bool (NO.out (by simp)).symm, B1.out⟩
      | true =>
        clear hr
        rcases (show k = 0 ∨ ∃ j, j + 1 = k by cases k with | zero => exact .inl rfl | succ j => exact .inr ⟨j, rfl⟩) with k00 | ⟨j, hjk⟩
        · have d0 : decide ((0 : Int) < (k : Int)) = false := decide_eq_false (by omega)
          have d0' : decide (0 < k) = false := decide_eq_false (by omega)
          have k0' := Lib.hid k00
          clear k00
          go_wp2_with fail
          refine region_below (by kernel_rfl) (by kernel_rfl) ?_
          repeat (go_big_quiet_step ((first | (go_at_call 50; exact call_regrown RT.out))))
          refine wpQuiet_nil ?_
          intro w1 hb1
          have B1 := Lib.hid (below_from hb1 hb.out hb.out.size)
          clear hb1
          go_wp2_with fail
          go_roundg (n - (k + 1))
          case measure => omega
          case rel => exact ⟨k + 1, by omega, by omega, by go_num, B1, Lib.hid (YES.out ⟨(by first | rfl | trivial), fun h0 => absurd k0'.out (by omega)⟩)⟩
        · have d0 : decide ((0 : Int) < (k : Int)) = true := decide_eq_true (by omega)
          have d0' : decide (0 < k) = true := decide_eq_true (by omega)
          obtain ⟨y, hk0, hy, y0⟩ := PV.out j hjk
          have wj : IntKind.i64.wrap ((k : Int) - 1) = (j : Int) := by rw [IntWalk.i64_in _ (by omega)]; omega
          have j0 : (0 : Int) ≤ (j : Int) := by omega
          have j1 : (j : Int) < (n : Int) := by omega
          have ry0 := at_regrown y0
          obtain ⟨q, hq⟩ : ∃ q, cmpS y x = q := ⟨_, rfl⟩
          have NO2 : Hid (¬ q < 0 → keptB nameC cmpS l = false) := Lib.hid (fun h => NO.out (.inr ⟨hk0, by rw [← hq, hy] at h; exact h⟩))
          have YES2 := Lib.hid (fun (h : q < 0) => YES.out ⟨by first | rfl | trivial, fun _ => by rw [← hq, hy] at h; exact h⟩)
          have gs := bl_eq y x
          rw [hq] at gs
          by_cases hq0 : q < 0
          · rw [decide_eq_true hq0] at gs
            have HQ := Lib.hid hq0
            clear hq hy PV NO YES hq0
            go_wp2_with fail
            refine region_below (by kernel_rfl) (by kernel_rfl) ?_
            repeat (go_big_quiet_step ((first | (go_at_call 50; exact call_regrown RT.out))))
            refine wpQuiet_nil ?_
            intro w1 hb1
            have B1 := Lib.hid (below_from hb1 hb.out hb.out.size)
            clear hb1
            go_wp2_with fail
            go_roundg (n - (k + 1))
            case measure => omega
            case rel => exact ⟨k + 1, by omega, by omega, by go_num, B1, Lib.hid (YES2.out HQ.out)⟩
          · rw [decide_eq_false hq0] at gs
            have HQ := Lib.hid hq0
            clear hq hy PV NO YES hq0
            go_wp2_with fail
            refine region_below (by kernel_rfl) (by kernel_rfl) ?_
            repeat (go_big_quiet_step ((first | (go_at_call 50; exact call_regrown RT.out))))
            refine wpQuiet_nil ?_
            intro w1 hb1
            have B1 := Lib.hid (below_from hb1 hb.out hb.out.size)
            clear hb1
            go_wp2_with fail
            go_ret
            exact ⟨ret_bool (NO2.out HQ.out).symm, B1.out⟩
    · obtain rfl : k = n := by omega
      have OK := Lib.hid (kept_at.2 fun i hi => hok.out i hi (by rw [← HN.out]; exact hi))
      go_wp2_with fail
      go_ret
      exact ⟨ret_bool OK.out.symm, hb.out⟩

end Go.Proofs.Ytnigjchgpmladaa

namespace Go.Proofs.Ytnigjchgpmladaa
open Go.RowKit Go.Shelf

theorem txB_parts (x : Tv) (next : Int) : txB x next = (nameC x.id && (decide (0 ≤ x.pid) && (decide (x.pid < next) && (decide (0 ≤ x.gen) && (decide (x.gen ≤ 1048576) && (decide (0 ≤ x.no) && (decide (x.no ≤ 1048576) && (decide (0 ≤ x.st) && (decide (x.st ≤ 3) && (inB x.at_ 1099511627776 && (keptB rightT ordT x.P && (keptB nameC cmpS x.G && (decide (x.st ≠ 0) || decide (x.P.length + x.G.length = 0)))))))))))))) := by
  unfold txB
  rw [show inB x.gen 1048576 = (decide (0 ≤ x.gen) && decide (x.gen ≤ 1048576)) from rfl, show inB x.no 1048576 = (decide (0 ≤ x.no) && decide (x.no ≤ 1048576)) from rfl, show inB x.st 3 = (decide (0 ≤ x.st) && decide (x.st ≤ 3)) from rfl]
  simp only [Bool.and_assoc]

set_option maxRecDepth 100000 in
set_option maxHeartbeats 16000000 in
theorem rtxn_any (x : Tx) (next : Int) (w : World) (hx : Tx.In w x) (hp : x.Pn ≤ 60000) (hg : x.Gn ≤ 60000) : Calls Try.prog 55 #[x.v, .int .i64 next] w fun e w' => e = .returned (.bool (txB x.val next)) ∧ Below w.heap.size w w' := by
  have TB := txB_parts x.val next
  have B0 := Lib.hid (below_alloc1 w (.cells #[.string x.id, .int .i64 x.pid, .int .i64 x.gen, .int .i64 x.no, .int .i64 x.st, .slice x.PA x.Pn x.Pc, .slice x.GA x.Gn x.Gc, .int .i64 x.at_] 33))
  have S0 := Lib.hid (Has.newAt w #[.string x.id, .int .i64 x.pid, .int .i64 x.gen, .int .i64 x.no, .int .i64 x.st, .slice x.PA x.Pn x.Pc, .slice x.GA x.Gn x.Gc, .int .i64 x.at_] 33 (g := w.heap.size) rfl)
  have NM := Lib.hid (fun W => rname_any x.id W hx.id)
  have XI := Lib.hid hx
  have LP := Lib.hid (show x.val.P.length = x.Pn from hx.p.len)
  have LG := Lib.hid (show x.val.G.length = x.Gn from hx.g.len)
  clear hx
  obtain ⟨nm, hnm⟩ : ∃ b, nameC x.id = b := ⟨_, rfl⟩
  have HN := Lib.hid hnm
  rw [show nameC x.val.id = nm from hnm] at TB
  clear hnm
  cases nm with
  | false =>
    have ANS := Lib.hid (show txB x.val next = false from by rw [TB]; rfl)
    clear TB
    go_enter Try.func55, Try.ntmps55
    go_wp2_with (first | (go_at_call 50; refine (NM.out _).mono ?_; rintro e w1 ⟨rfl, hb⟩; rw [HN.out]; have B1 := Lib.hid (below_from hb B0.out B0.out.size); have S1 := Lib.hid (S0.out.past hb); have sc := S1.out.cell; have sl := S1.out.lt; clear hb))
    go_ret
    exact ⟨ret_bool ANS.out.symm, B1.out⟩
  | true =>
  rw [Bool.true_and] at TB
  by_cases h0 : x.pid < 0
  · have d0 : decide (x.pid < 0) = true := decide_eq_true h0
    have ANS := Lib.hid (show txB x.val next = false from by rw [TB, decide_eq_false (show ¬ 0 ≤ x.val.pid from by show ¬ 0 ≤ x.pid; omega)]; rfl)
    clear TB
    clear h0
    go_enter Try.func55, Try.ntmps55
    go_wp2_with (first | (go_at_call 50; refine (NM.out _).mono ?_; rintro e w1 ⟨rfl, hb⟩; rw [HN.out]; have B1 := Lib.hid (below_from hb B0.out B0.out.size); have S1 := Lib.hid (S0.out.past hb); have sc := S1.out.cell; have sl := S1.out.lt; clear hb))
    go_ret
    exact ⟨ret_bool ANS.out.symm, B1.out⟩
  have d0 : decide (x.pid < 0) = false := decide_eq_false h0
  rw [decide_eq_true (show 0 ≤ x.val.pid from by show 0 ≤ x.pid; omega), Bool.true_and] at TB
  by_cases h1 : next ≤ x.pid
  · have d1 : decide (next ≤ x.pid) = true := decide_eq_true h1
    have ANS := Lib.hid (show txB x.val next = false from by rw [TB, decide_eq_false (show ¬ x.val.pid < next from by show ¬ x.pid < next; omega)]; rfl)
    clear TB
    clear h0 h1
    go_enter Try.func55, Try.ntmps55
    go_wp2_with (first | (go_at_call 50; refine (NM.out _).mono ?_; rintro e w1 ⟨rfl, hb⟩; rw [HN.out]; have B1 := Lib.hid (below_from hb B0.out B0.out.size); have S1 := Lib.hid (S0.out.past hb); have sc := S1.out.cell; have sl := S1.out.lt; clear hb))
    go_ret
    exact ⟨ret_bool ANS.out.symm, B1.out⟩
  have d1 : decide (next ≤ x.pid) = false := decide_eq_false h1
  rw [decide_eq_true (show x.val.pid < next from by show x.pid < next; omega), Bool.true_and] at TB
  by_cases h2 : x.gen < 0
  · have d2 : decide (x.gen < 0) = true := decide_eq_true h2
    have ANS := Lib.hid (show txB x.val next = false from by rw [TB, decide_eq_false (show ¬ 0 ≤ x.val.gen from by show ¬ 0 ≤ x.gen; omega)]; rfl)
    clear TB
    clear h0 h1 h2
    go_enter Try.func55, Try.ntmps55
    go_wp2_with (first | (go_at_call 50; refine (NM.out _).mono ?_; rintro e w1 ⟨rfl, hb⟩; rw [HN.out]; have B1 := Lib.hid (below_from hb B0.out B0.out.size); have S1 := Lib.hid (S0.out.past hb); have sc := S1.out.cell; have sl := S1.out.lt; clear hb))
    go_ret
    exact ⟨ret_bool ANS.out.symm, B1.out⟩
  have d2 : decide (x.gen < 0) = false := decide_eq_false h2
  rw [decide_eq_true (show 0 ≤ x.val.gen from by show 0 ≤ x.gen; omega), Bool.true_and] at TB
  by_cases h3 : 1048576 < x.gen
  · have d3 : decide (1048576 < x.gen) = true := decide_eq_true h3
    have ANS := Lib.hid (show txB x.val next = false from by rw [TB, decide_eq_false (show ¬ x.val.gen ≤ 1048576 from by show ¬ x.gen ≤ 1048576; omega)]; rfl)
    clear TB
    clear h0 h1 h2 h3
    go_enter Try.func55, Try.ntmps55
    go_wp2_with (first | (go_at_call 50; refine (NM.out _).mono ?_; rintro e w1 ⟨rfl, hb⟩; rw [HN.out]; have B1 := Lib.hid (below_from hb B0.out B0.out.size); have S1 := Lib.hid (S0.out.past hb); have sc := S1.out.cell; have sl := S1.out.lt; clear hb))
    go_ret
    exact ⟨ret_bool ANS.out.symm, B1.out⟩
  have d3 : decide (1048576 < x.gen) = false := decide_eq_false h3
  rw [decide_eq_true (show x.val.gen ≤ 1048576 from by show x.gen ≤ 1048576; omega), Bool.true_and] at TB
  by_cases h4 : x.no < 0
  · have d4 : decide (x.no < 0) = true := decide_eq_true h4
    have ANS := Lib.hid (show txB x.val next = false from by rw [TB, decide_eq_false (show ¬ 0 ≤ x.val.no from by show ¬ 0 ≤ x.no; omega)]; rfl)
    clear TB
    clear h0 h1 h2 h3 h4
    go_enter Try.func55, Try.ntmps55
    go_wp2_with (first | (go_at_call 50; refine (NM.out _).mono ?_; rintro e w1 ⟨rfl, hb⟩; rw [HN.out]; have B1 := Lib.hid (below_from hb B0.out B0.out.size); have S1 := Lib.hid (S0.out.past hb); have sc := S1.out.cell; have sl := S1.out.lt; clear hb))
    go_ret
    exact ⟨ret_bool ANS.out.symm, B1.out⟩
  have d4 : decide (x.no < 0) = false := decide_eq_false h4
  rw [decide_eq_true (show 0 ≤ x.val.no from by show 0 ≤ x.no; omega), Bool.true_and] at TB
  by_cases h5 : 1048576 < x.no
  · have d5 : decide (1048576 < x.no) = true := decide_eq_true h5
    have ANS := Lib.hid (show txB x.val next = false from by rw [TB, decide_eq_false (show ¬ x.val.no ≤ 1048576 from by show ¬ x.no ≤ 1048576; omega)]; rfl)
    clear TB
    clear h0 h1 h2 h3 h4 h5
    go_enter Try.func55, Try.ntmps55
    go_wp2_with (first | (go_at_call 50; refine (NM.out _).mono ?_; rintro e w1 ⟨rfl, hb⟩; rw [HN.out]; have B1 := Lib.hid (below_from hb B0.out B0.out.size); have S1 := Lib.hid (S0.out.past hb); have sc := S1.out.cell; have sl := S1.out.lt; clear hb))
    go_ret
    exact ⟨ret_bool ANS.out.symm, B1.out⟩
  have d5 : decide (1048576 < x.no) = false := decide_eq_false h5
  rw [decide_eq_true (show x.val.no ≤ 1048576 from by show x.no ≤ 1048576; omega), Bool.true_and] at TB
  by_cases h6 : x.st < 0
  · have d6 : decide (x.st < 0) = true := decide_eq_true h6
    have ANS := Lib.hid (show txB x.val next = false from by rw [TB, decide_eq_false (show ¬ 0 ≤ x.val.st from by show ¬ 0 ≤ x.st; omega)]; rfl)
    clear TB
    clear h0 h1 h2 h3 h4 h5 h6
    go_enter Try.func55, Try.ntmps55
    go_wp2_with (first | (go_at_call 50; refine (NM.out _).mono ?_; rintro e w1 ⟨rfl, hb⟩; rw [HN.out]; have B1 := Lib.hid (below_from hb B0.out B0.out.size); have S1 := Lib.hid (S0.out.past hb); have sc := S1.out.cell; have sl := S1.out.lt; clear hb))
    go_ret
    exact ⟨ret_bool ANS.out.symm, B1.out⟩
  have d6 : decide (x.st < 0) = false := decide_eq_false h6
  rw [decide_eq_true (show 0 ≤ x.val.st from by show 0 ≤ x.st; omega), Bool.true_and] at TB
  by_cases h7 : 3 < x.st
  · have d7 : decide (3 < x.st) = true := decide_eq_true h7
    have ANS := Lib.hid (show txB x.val next = false from by rw [TB, decide_eq_false (show ¬ x.val.st ≤ 3 from by show ¬ x.st ≤ 3; omega)]; rfl)
    clear TB
    clear h0 h1 h2 h3 h4 h5 h6 h7
    go_enter Try.func55, Try.ntmps55
    go_wp2_with (first | (go_at_call 50; refine (NM.out _).mono ?_; rintro e w1 ⟨rfl, hb⟩; rw [HN.out]; have B1 := Lib.hid (below_from hb B0.out B0.out.size); have S1 := Lib.hid (S0.out.past hb); have sc := S1.out.cell; have sl := S1.out.lt; clear hb))
    go_ret
    exact ⟨ret_bool ANS.out.symm, B1.out⟩
  have d7 : decide (3 < x.st) = false := decide_eq_false h7
  rw [decide_eq_true (show x.val.st ≤ 3 from by show x.st ≤ 3; omega), Bool.true_and] at TB
  clear h0 h1 h2 h3 h4 h5 h6 h7
  obtain ⟨qA, eA⟩ : ∃ b, inB x.at_ 1099511627776 = b := ⟨_, rfl⟩
  have QA := Lib.hid eA
  rw [show inB x.val.at_ 1099511627776 = qA from eA] at TB
  clear eA
  cases qA with
  | false =>
    have ANS := Lib.hid (show txB x.val next = false from by rw [TB]; rfl)
    clear TB
    go_enter Try.func55, Try.ntmps55
    go_wp2_with (first | (go_at_call 50; refine (NM.out _).mono ?_; rintro e w1 ⟨rfl, hb⟩; rw [HN.out]; have B1 := Lib.hid (below_from hb B0.out B0.out.size); have S1 := Lib.hid (S0.out.past hb); have sc := S1.out.cell; have sl := S1.out.lt; clear hb) | (go_at_call 49; refine (in_any _ _).mono ?_; rintro e w' ⟨rfl, rfl⟩; rw [QA.out]))
    go_ret
    exact ⟨ret_bool ANS.out.symm, B1.out⟩
  | true =>
  rw [Bool.true_and] at TB
  obtain ⟨q4, e4⟩ : ∃ b, keptB rightT ordT x.P = b := ⟨_, rfl⟩
  have Q4 := Lib.hid e4
  rw [show keptB rightT ordT x.val.P = q4 from e4] at TB
  clear e4
  cases q4 with
  | false =>
    have ANS := Lib.hid (show txB x.val next = false from by rw [TB]; rfl)
    clear TB
    go_enter Try.func55, Try.ntmps55
    go_wp2_with (first | (go_at_call 50; refine (NM.out _).mono ?_; rintro e w1 ⟨rfl, hb⟩; rw [HN.out]; have B1 := Lib.hid (below_from hb B0.out B0.out.size); have S1 := Lib.hid (S0.out.past hb); have sc := S1.out.cell; have sl := S1.out.lt; clear hb) | (go_at_call 49; refine (in_any _ _).mono ?_; rintro e w' ⟨rfl, rfl⟩; rw [QA.out]) | (go_at_call 86; refine (rparts_any x.PA x.Pn x.Pc x.P _ (XI.out.p.below B1.out)).mono ?_; rintro e w2 ⟨rfl, hb⟩; rw [Q4.out]; have B2 := Lib.hid (below_from hb B1.out B1.out.size); have S2 := Lib.hid (S1.out.past hb); have sc2 := S2.out.cell; have sl2 := S2.out.lt; clear hb))
    go_ret
    exact ⟨ret_bool ANS.out.symm, B2.out⟩
  | true =>
  rw [Bool.true_and] at TB
  obtain ⟨q5, e5⟩ : ∃ b, keptB nameC cmpS x.G = b := ⟨_, rfl⟩
  have Q5 := Lib.hid e5
  rw [show keptB nameC cmpS x.val.G = q5 from e5] at TB
  clear e5
  cases q5 with
  | false =>
    have ANS := Lib.hid (show txB x.val next = false from by rw [TB]; rfl)
    clear TB
    go_enter Try.func55, Try.ntmps55
    go_wp2_with (first | (go_at_call 50; refine (NM.out _).mono ?_; rintro e w1 ⟨rfl, hb⟩; rw [HN.out]; have B1 := Lib.hid (below_from hb B0.out B0.out.size); have S1 := Lib.hid (S0.out.past hb); have sc := S1.out.cell; have sl := S1.out.lt; clear hb) | (go_at_call 49; refine (in_any _ _).mono ?_; rintro e w' ⟨rfl, rfl⟩; rw [QA.out]) | (go_at_call 86; refine (rparts_any x.PA x.Pn x.Pc x.P _ (XI.out.p.below B1.out)).mono ?_; rintro e w2 ⟨rfl, hb⟩; rw [Q4.out]; have B2 := Lib.hid (below_from hb B1.out B1.out.size); have S2 := Lib.hid (S1.out.past hb); have sc2 := S2.out.cell; have sl2 := S2.out.lt; clear hb) | (go_at_call 87; refine (rgroups_any x.GA x.Gn x.Gc x.G _ (XI.out.g.below B2.out)).mono ?_; rintro e w3 ⟨rfl, hb⟩; rw [Q5.out]; have B3 := Lib.hid (below_from hb B2.out B2.out.size); have S3 := Lib.hid (S2.out.past hb); have sc3 := S3.out.cell; have sl3 := S3.out.lt; clear hb))
    go_ret
    exact ⟨ret_bool ANS.out.symm, B3.out⟩
  | true =>
  rw [Bool.true_and] at TB
  by_cases h3 : x.st = 0
  · have d3 : (x.st == 0) = true := by rw [beq_iff_eq]; exact h3
    have d3' : (x.st != 0) = false := by simp [h3]
    have wr : IntKind.i64.wrap ((x.Pn : Int) + (x.Gn : Int)) = (x.Pn : Int) + (x.Gn : Int) := IntWalk.i64_in _ (by omega)
    rw [decide_eq_false (show ¬ x.val.st ≠ 0 from fun h => h h3), Bool.false_or, LP.out, LG.out] at TB
    by_cases h4 : x.Pn + x.Gn = 0
    · have d4 : ((x.Pn : Int) + (x.Gn : Int) == 0) = true := by rw [beq_iff_eq]; omega
      have ANS := Lib.hid (show txB x.val next = true from by rw [TB, decide_eq_true h4])
      have d5 : decide ((x.Pn : Int) + (x.Gn : Int) = 0) = true := decide_eq_true (by omega)
      clear TB h3 h4
      go_enter Try.func55, Try.ntmps55
      go_wp2_with (first | (go_at_call 50; refine (NM.out _).mono ?_; rintro e w1 ⟨rfl, hb⟩; rw [HN.out]; have B1 := Lib.hid (below_from hb B0.out B0.out.size); have S1 := Lib.hid (S0.out.past hb); have sc := S1.out.cell; have sl := S1.out.lt; clear hb) | (go_at_call 49; refine (in_any _ _).mono ?_; rintro e w' ⟨rfl, rfl⟩; rw [QA.out]) | (go_at_call 86; refine (rparts_any x.PA x.Pn x.Pc x.P _ (XI.out.p.below B1.out)).mono ?_; rintro e w2 ⟨rfl, hb⟩; rw [Q4.out]; have B2 := Lib.hid (below_from hb B1.out B1.out.size); have S2 := Lib.hid (S1.out.past hb); have sc2 := S2.out.cell; have sl2 := S2.out.lt; clear hb) | (go_at_call 87; refine (rgroups_any x.GA x.Gn x.Gc x.G _ (XI.out.g.below B2.out)).mono ?_; rintro e w3 ⟨rfl, hb⟩; rw [Q5.out]; have B3 := Lib.hid (below_from hb B2.out B2.out.size); have S3 := Lib.hid (S2.out.past hb); have sc3 := S3.out.cell; have sl3 := S3.out.lt; clear hb))
      go_ret
      exact ⟨ret_bool ANS.out.symm, B3.out⟩
    · have d4 : ((x.Pn : Int) + (x.Gn : Int) == 0) = false := by rw [beq_eq_false_iff_ne]; omega
      have ANS := Lib.hid (show txB x.val next = false from by rw [TB, decide_eq_false h4])
      have d5 : decide ((x.Pn : Int) + (x.Gn : Int) = 0) = false := decide_eq_false (by omega)
      clear TB h3 h4
      go_enter Try.func55, Try.ntmps55
      go_wp2_with (first | (go_at_call 50; refine (NM.out _).mono ?_; rintro e w1 ⟨rfl, hb⟩; rw [HN.out]; have B1 := Lib.hid (below_from hb B0.out B0.out.size); have S1 := Lib.hid (S0.out.past hb); have sc := S1.out.cell; have sl := S1.out.lt; clear hb) | (go_at_call 49; refine (in_any _ _).mono ?_; rintro e w' ⟨rfl, rfl⟩; rw [QA.out]) | (go_at_call 86; refine (rparts_any x.PA x.Pn x.Pc x.P _ (XI.out.p.below B1.out)).mono ?_; rintro e w2 ⟨rfl, hb⟩; rw [Q4.out]; have B2 := Lib.hid (below_from hb B1.out B1.out.size); have S2 := Lib.hid (S1.out.past hb); have sc2 := S2.out.cell; have sl2 := S2.out.lt; clear hb) | (go_at_call 87; refine (rgroups_any x.GA x.Gn x.Gc x.G _ (XI.out.g.below B2.out)).mono ?_; rintro e w3 ⟨rfl, hb⟩; rw [Q5.out]; have B3 := Lib.hid (below_from hb B2.out B2.out.size); have S3 := Lib.hid (S2.out.past hb); have sc3 := S3.out.cell; have sl3 := S3.out.lt; clear hb))
      go_ret
      exact ⟨ret_bool ANS.out.symm, B3.out⟩
  · have d3 : (x.st == 0) = false := by rw [beq_eq_false_iff_ne]; exact h3
    have d3' : (x.st != 0) = true := by rw [bne_iff_ne]; exact h3
    have ANS := Lib.hid (show txB x.val next = true from by rw [TB, decide_eq_true (show x.val.st ≠ 0 from h3)]; rfl)
    clear TB h3
    go_enter Try.func55, Try.ntmps55
    go_wp2_with (first | (go_at_call 50; refine (NM.out _).mono ?_; rintro e w1 ⟨rfl, hb⟩; rw [HN.out]; have B1 := Lib.hid (below_from hb B0.out B0.out.size); have S1 := Lib.hid (S0.out.past hb); have sc := S1.out.cell; have sl := S1.out.lt; clear hb) | (go_at_call 49; refine (in_any _ _).mono ?_; rintro e w' ⟨rfl, rfl⟩; rw [QA.out]) | (go_at_call 86; refine (rparts_any x.PA x.Pn x.Pc x.P _ (XI.out.p.below B1.out)).mono ?_; rintro e w2 ⟨rfl, hb⟩; rw [Q4.out]; have B2 := Lib.hid (below_from hb B1.out B1.out.size); have S2 := Lib.hid (S1.out.past hb); have sc2 := S2.out.cell; have sl2 := S2.out.lt; clear hb) | (go_at_call 87; refine (rgroups_any x.GA x.Gn x.Gc x.G _ (XI.out.g.below B2.out)).mono ?_; rintro e w3 ⟨rfl, hb⟩; rw [Q5.out]; have B3 := Lib.hid (below_from hb B2.out B2.out.size); have S3 := Lib.hid (S2.out.past hb); have sc3 := S3.out.cell; have sl3 := S3.out.lt; clear hb))
    go_ret
    exact ⟨ret_bool ANS.out.symm, B3.out⟩

end Go.Proofs.Ytnigjchgpmladaa
