/- May a producer not be? -/
import Derived.Test.YtnigjchgpmladaaKeptT
import Derived.Test.YtnigjchgpmladaaKeptS
namespace Go.Proofs.Ytnigjchgpmladaa
open Go.RowKit Go.Shelf

/-- May a producer be: test by test. -/
theorem txB_split (x : Tv) (next : Int) : txB x next = (nameC x.id && (decide (0 ≤ x.pid) && (decide (x.pid < next) && (!anyOut 1048576 [x.gen, x.no] && (!anyOut 3 [x.st] && (!anyOut 1099511627776 [x.at_] && (keptB rightT ordT x.P && (keptB nameC cmpS x.G && (decide (x.st ≠ 0) || decide (x.P.length + x.G.length = 0)))))))))) := by
  unfold txB
  rw [anyOut_two, anyOut_one, anyOut_one]
  simp only [Bool.not_or, Bool.not_not, Bool.and_assoc]

set_option maxRecDepth 100000 in
set_option maxHeartbeats 8000000 in
theorem odd_any (x : Tx) (next : Int) (w : World) (hx : Tx.In w x) (hp : x.Pn ≤ 60000) (hg : x.Gn ≤ 60000) : Calls Try.prog 54 #[x.v, .int .i64 next] w fun e w' => e = .returned (.bool (!txB x.val next)) ∧ Below w.heap.size w w' := by
  have TB := txB_split x.val next
  have B0 := Lib.hid (below_alloc1 w (.cells #[.string x.id, .int .i64 x.pid, .int .i64 x.gen, .int .i64 x.no, .int .i64 x.st, .slice x.PA x.Pn x.Pc, .slice x.GA x.Gn x.Gc, .int .i64 x.at_] 33))
  have S0 := Lib.hid (Has.newAt w #[.string x.id, .int .i64 x.pid, .int .i64 x.gen, .int .i64 x.no, .int .i64 x.st, .slice x.PA x.Pn x.Pc, .slice x.GA x.Gn x.Gc, .int .i64 x.at_] 33 (g := w.heap.size) rfl)
  have NM := Lib.hid (fun W => name_any x.id W hx.id)
  have XI := Lib.hid hx
  have LP := Lib.hid (show x.val.P.length = x.Pn from hx.p.len)
  have LG := Lib.hid (show x.val.G.length = x.Gn from hx.g.len)
  clear hx
  obtain ⟨nm, hnm⟩ : ∃ b, nameC x.id = b := ⟨_, rfl⟩
  have HN := Lib.hid hnm
  rw [show nameC x.val.id = nm from hnm] at TB
  clear hnm
  cases nm with
  | false =>
    have ANS := Lib.hid (show (!txB x.val next) = true from by rw [TB]; rfl)
    clear TB
    go_enter Try.func54, Try.ntmps54
    go_wp2_with (go_at_call 43; refine (NM.out _).mono ?_; rintro e w1 ⟨rfl, hb⟩; rw [HN.out]; have B1 := Lib.hid (below_from hb B0.out B0.out.size); have S1 := Lib.hid (S0.out.past hb); have sc := S1.out.cell; have sl := S1.out.lt; have sl2 : w.heap.size < w1.heap.size + 1 := Nat.lt_succ_of_lt S1.out.lt; have sl3 : w.heap.size < w1.heap.size + 1 + 1 := Nat.lt_succ_of_lt (Nat.lt_succ_of_lt S1.out.lt); have sl4 : w.heap.size < w1.heap.size + 1 + 1 + 1 := Nat.lt_succ_of_lt (Nat.lt_succ_of_lt (Nat.lt_succ_of_lt S1.out.lt)); clear hb)
    go_ret
    exact ⟨ret_bool ANS.out.symm, B1.out⟩
  | true =>
  rw [Bool.true_and] at TB
  by_cases h1 : x.pid < 0
  · have d1 : decide (x.pid < 0) = true := decide_eq_true h1
    have ANS := Lib.hid (show (!txB x.val next) = true from by rw [TB, decide_eq_false (show ¬ 0 ≤ x.val.pid from by show ¬ 0 ≤ x.pid; omega)]; rfl)
    clear TB h1
    go_enter Try.func54, Try.ntmps54
    go_wp2_with (go_at_call 43; refine (NM.out _).mono ?_; rintro e w1 ⟨rfl, hb⟩; rw [HN.out]; have B1 := Lib.hid (below_from hb B0.out B0.out.size); have S1 := Lib.hid (S0.out.past hb); have sc := S1.out.cell; have sl := S1.out.lt; have sl2 : w.heap.size < w1.heap.size + 1 := Nat.lt_succ_of_lt S1.out.lt; have sl3 : w.heap.size < w1.heap.size + 1 + 1 := Nat.lt_succ_of_lt (Nat.lt_succ_of_lt S1.out.lt); have sl4 : w.heap.size < w1.heap.size + 1 + 1 + 1 := Nat.lt_succ_of_lt (Nat.lt_succ_of_lt (Nat.lt_succ_of_lt S1.out.lt)); clear hb)
    go_ret
    exact ⟨ret_bool ANS.out.symm, B1.out⟩
  have d1 : decide (x.pid < 0) = false := decide_eq_false h1
  rw [decide_eq_true (show 0 ≤ x.val.pid from by show 0 ≤ x.pid; omega), Bool.true_and] at TB
  by_cases h2 : next ≤ x.pid
  · have d2 : decide (next ≤ x.pid) = true := decide_eq_true h2
    have ANS := Lib.hid (show (!txB x.val next) = true from by rw [TB, decide_eq_false (show ¬ x.val.pid < next from by show ¬ x.pid < next; omega)]; rfl)
    clear TB h1 h2
    go_enter Try.func54, Try.ntmps54
    go_wp2_with (go_at_call 43; refine (NM.out _).mono ?_; rintro e w1 ⟨rfl, hb⟩; rw [HN.out]; have B1 := Lib.hid (below_from hb B0.out B0.out.size); have S1 := Lib.hid (S0.out.past hb); have sc := S1.out.cell; have sl := S1.out.lt; have sl2 : w.heap.size < w1.heap.size + 1 := Nat.lt_succ_of_lt S1.out.lt; have sl3 : w.heap.size < w1.heap.size + 1 + 1 := Nat.lt_succ_of_lt (Nat.lt_succ_of_lt S1.out.lt); have sl4 : w.heap.size < w1.heap.size + 1 + 1 + 1 := Nat.lt_succ_of_lt (Nat.lt_succ_of_lt (Nat.lt_succ_of_lt S1.out.lt)); clear hb)
    go_ret
    exact ⟨ret_bool ANS.out.symm, B1.out⟩
  have d2 : decide (next ≤ x.pid) = false := decide_eq_false h2
  rw [decide_eq_true (show x.val.pid < next from by show x.pid < next; omega), Bool.true_and] at TB
  clear h1 h2
  obtain ⟨q1, e1⟩ : ∃ b, anyOut 1048576 [x.gen, x.no] = b := ⟨_, rfl⟩
  have Q1 := Lib.hid e1
  rw [show anyOut 1048576 [x.val.gen, x.val.no] = q1 from e1] at TB
  clear e1
  cases q1 with
  | true =>
    have ANS := Lib.hid (show (!txB x.val next) = true from by rw [TB]; rfl)
    clear TB
    go_enter Try.func54, Try.ntmps54
    go_wp2_with (go_at_call 43; refine (NM.out _).mono ?_; rintro e w1 ⟨rfl, hb⟩; rw [HN.out]; have B1 := Lib.hid (below_from hb B0.out B0.out.size); have S1 := Lib.hid (S0.out.past hb); have sc := S1.out.cell; have sl := S1.out.lt; have sl2 : w.heap.size < w1.heap.size + 1 := Nat.lt_succ_of_lt S1.out.lt; have sl3 : w.heap.size < w1.heap.size + 1 + 1 := Nat.lt_succ_of_lt (Nat.lt_succ_of_lt S1.out.lt); have sl4 : w.heap.size < w1.heap.size + 1 + 1 + 1 := Nat.lt_succ_of_lt (Nat.lt_succ_of_lt (Nat.lt_succ_of_lt S1.out.lt)); clear hb)
    refine (beyond_any 1048576 _ 2 2 [x.gen, x.no] _ (num_row (Has.newAt w1 #[.int .i64 x.gen, .int .i64 x.no] 3 (g := w1.heap.size) (by simp)) rfl (by omega)) (by decide)).mono ?_
    rintro e w' ⟨rfl, rfl⟩
    rw [Q1.out]
    go_wp2_with fail
    go_ret
    exact ⟨ret_bool ANS.out.symm, (have bz := B1.out; bz.alloc bz.size _)⟩
  | false =>
  rw [Bool.not_false, Bool.true_and] at TB
  obtain ⟨q2, e2⟩ : ∃ b, anyOut 3 [x.st] = b := ⟨_, rfl⟩
  have Q2 := Lib.hid e2
  rw [show anyOut 3 [x.val.st] = q2 from e2] at TB
  clear e2
  cases q2 with
  | true =>
    have ANS := Lib.hid (show (!txB x.val next) = true from by rw [TB]; rfl)
    clear TB
    go_enter Try.func54, Try.ntmps54
    go_wp2_with (go_at_call 43; refine (NM.out _).mono ?_; rintro e w1 ⟨rfl, hb⟩; rw [HN.out]; have B1 := Lib.hid (below_from hb B0.out B0.out.size); have S1 := Lib.hid (S0.out.past hb); have sc := S1.out.cell; have sl := S1.out.lt; have sl2 : w.heap.size < w1.heap.size + 1 := Nat.lt_succ_of_lt S1.out.lt; have sl3 : w.heap.size < w1.heap.size + 1 + 1 := Nat.lt_succ_of_lt (Nat.lt_succ_of_lt S1.out.lt); have sl4 : w.heap.size < w1.heap.size + 1 + 1 + 1 := Nat.lt_succ_of_lt (Nat.lt_succ_of_lt (Nat.lt_succ_of_lt S1.out.lt)); clear hb)
    refine (beyond_any 1048576 _ 2 2 [x.gen, x.no] _ (num_row (Has.newAt w1 #[.int .i64 x.gen, .int .i64 x.no] 3 (g := w1.heap.size) (by simp)) rfl (by omega)) (by decide)).mono ?_
    rintro e w' ⟨rfl, rfl⟩
    rw [Q1.out]
    go_wp2_with fail
    refine (beyond_any 3 _ 1 1 [x.st] _ (num_row (Has.newAt (w1.alloc (.cells #[.int .i64 x.gen, .int .i64 x.no] 3)) #[.int .i64 x.st] 3 (g := w1.heap.size + 1) (by simp)) rfl (by omega)) (by decide)).mono ?_
    rintro e w' ⟨rfl, rfl⟩
    rw [Q2.out]
    go_wp2_with fail
    go_ret
    exact ⟨ret_bool ANS.out.symm, (have bz := (have bz := B1.out; bz.alloc bz.size _); bz.alloc bz.size _)⟩
  | false =>
  rw [Bool.not_false, Bool.true_and] at TB
  obtain ⟨q3, e3⟩ : ∃ b, anyOut 1099511627776 [x.at_] = b := ⟨_, rfl⟩
  have Q3 := Lib.hid e3
  rw [show anyOut 1099511627776 [x.val.at_] = q3 from e3] at TB
  clear e3
  cases q3 with
  | true =>
    have ANS := Lib.hid (show (!txB x.val next) = true from by rw [TB]; rfl)
    clear TB
    go_enter Try.func54, Try.ntmps54
    go_wp2_with (go_at_call 43; refine (NM.out _).mono ?_; rintro e w1 ⟨rfl, hb⟩; rw [HN.out]; have B1 := Lib.hid (below_from hb B0.out B0.out.size); have S1 := Lib.hid (S0.out.past hb); have sc := S1.out.cell; have sl := S1.out.lt; have sl2 : w.heap.size < w1.heap.size + 1 := Nat.lt_succ_of_lt S1.out.lt; have sl3 : w.heap.size < w1.heap.size + 1 + 1 := Nat.lt_succ_of_lt (Nat.lt_succ_of_lt S1.out.lt); have sl4 : w.heap.size < w1.heap.size + 1 + 1 + 1 := Nat.lt_succ_of_lt (Nat.lt_succ_of_lt (Nat.lt_succ_of_lt S1.out.lt)); clear hb)
    refine (beyond_any 1048576 _ 2 2 [x.gen, x.no] _ (num_row (Has.newAt w1 #[.int .i64 x.gen, .int .i64 x.no] 3 (g := w1.heap.size) (by simp)) rfl (by omega)) (by decide)).mono ?_
    rintro e w' ⟨rfl, rfl⟩
    rw [Q1.out]
    go_wp2_with fail
    refine (beyond_any 3 _ 1 1 [x.st] _ (num_row (Has.newAt (w1.alloc (.cells #[.int .i64 x.gen, .int .i64 x.no] 3)) #[.int .i64 x.st] 3 (g := w1.heap.size + 1) (by simp)) rfl (by omega)) (by decide)).mono ?_
    rintro e w' ⟨rfl, rfl⟩
    rw [Q2.out]
    go_wp2_with fail
    refine (beyond_any 1099511627776 _ 1 1 [x.at_] _ (num_row (Has.newAt ((w1.alloc (.cells #[.int .i64 x.gen, .int .i64 x.no] 3)).alloc (.cells #[.int .i64 x.st] 3)) #[.int .i64 x.at_] 3 (g := w1.heap.size + 1 + 1) (by simp)) rfl (by omega)) (by decide)).mono ?_
    rintro e w' ⟨rfl, rfl⟩
    rw [Q3.out]
    go_wp2_with fail
    go_ret
    exact ⟨ret_bool ANS.out.symm, (have bz := (have bz := (have bz := B1.out; bz.alloc bz.size _); bz.alloc bz.size _); bz.alloc bz.size _)⟩
  | false =>
  rw [Bool.not_false, Bool.true_and] at TB
  obtain ⟨q4, e4⟩ : ∃ b, keptB rightT ordT x.P = b := ⟨_, rfl⟩
  have Q4 := Lib.hid e4
  rw [show keptB rightT ordT x.val.P = q4 from e4] at TB
  clear e4
  cases q4 with
  | false =>
    have ANS := Lib.hid (show (!txB x.val next) = true from by rw [TB]; rfl)
    clear TB
    go_enter Try.func54, Try.ntmps54
    go_wp2_with (go_at_call 43; refine (NM.out _).mono ?_; rintro e w1 ⟨rfl, hb⟩; rw [HN.out]; have B1 := Lib.hid (below_from hb B0.out B0.out.size); have S1 := Lib.hid (S0.out.past hb); have sc := S1.out.cell; have sl := S1.out.lt; have sl2 : w.heap.size < w1.heap.size + 1 := Nat.lt_succ_of_lt S1.out.lt; have sl3 : w.heap.size < w1.heap.size + 1 + 1 := Nat.lt_succ_of_lt (Nat.lt_succ_of_lt S1.out.lt); have sl4 : w.heap.size < w1.heap.size + 1 + 1 + 1 := Nat.lt_succ_of_lt (Nat.lt_succ_of_lt (Nat.lt_succ_of_lt S1.out.lt)); clear hb)
    refine (beyond_any 1048576 _ 2 2 [x.gen, x.no] _ (num_row (Has.newAt w1 #[.int .i64 x.gen, .int .i64 x.no] 3 (g := w1.heap.size) (by simp)) rfl (by omega)) (by decide)).mono ?_
    rintro e w' ⟨rfl, rfl⟩
    rw [Q1.out]
    go_wp2_with fail
    refine (beyond_any 3 _ 1 1 [x.st] _ (num_row (Has.newAt (w1.alloc (.cells #[.int .i64 x.gen, .int .i64 x.no] 3)) #[.int .i64 x.st] 3 (g := w1.heap.size + 1) (by simp)) rfl (by omega)) (by decide)).mono ?_
    rintro e w' ⟨rfl, rfl⟩
    rw [Q2.out]
    go_wp2_with fail
    refine (beyond_any 1099511627776 _ 1 1 [x.at_] _ (num_row (Has.newAt ((w1.alloc (.cells #[.int .i64 x.gen, .int .i64 x.no] 3)).alloc (.cells #[.int .i64 x.st] 3)) #[.int .i64 x.at_] 3 (g := w1.heap.size + 1 + 1) (by simp)) rfl (by omega)) (by decide)).mono ?_
    rintro e w' ⟨rfl, rfl⟩
    rw [Q3.out]
    go_wp2_with fail
    have B3 := Lib.hid ((((B1.out.alloc B1.out.size (.cells #[.int .i64 x.gen, .int .i64 x.no] 3)).alloc (by have := B1.out.size; simp; omega) (.cells #[.int .i64 x.st] 3)).alloc (by have := B1.out.size; simp; omega) (.cells #[.int .i64 x.at_] 3)))
    refine (keptT_any x.PA x.Pn x.Pc x.P _ (XI.out.p.below B3.out)).mono ?_
    rintro e w5 ⟨rfl, hb⟩
    rw [Q4.out]
    have B5 := Lib.hid (below_from hb B3.out B3.out.size)
    have S5 := Lib.hid ((((S1.out.alloc (.cells #[.int .i64 x.gen, .int .i64 x.no] 3)).alloc (.cells #[.int .i64 x.st] 3)).alloc (.cells #[.int .i64 x.at_] 3)).past hb)
    have sc5 := S5.out.cell
    have sl5 := S5.out.lt
    clear hb
    go_wp2_with fail
    go_ret
    exact ⟨ret_bool ANS.out.symm, B5.out⟩
  | true =>
  rw [Bool.true_and] at TB
  obtain ⟨q5, e5⟩ : ∃ b, keptB nameC cmpS x.G = b := ⟨_, rfl⟩
  have Q5 := Lib.hid e5
  rw [show keptB nameC cmpS x.val.G = q5 from e5] at TB
  clear e5
  cases q5 with
  | false =>
    have ANS := Lib.hid (show (!txB x.val next) = true from by rw [TB]; rfl)
    clear TB
    go_enter Try.func54, Try.ntmps54
    go_wp2_with (go_at_call 43; refine (NM.out _).mono ?_; rintro e w1 ⟨rfl, hb⟩; rw [HN.out]; have B1 := Lib.hid (below_from hb B0.out B0.out.size); have S1 := Lib.hid (S0.out.past hb); have sc := S1.out.cell; have sl := S1.out.lt; have sl2 : w.heap.size < w1.heap.size + 1 := Nat.lt_succ_of_lt S1.out.lt; have sl3 : w.heap.size < w1.heap.size + 1 + 1 := Nat.lt_succ_of_lt (Nat.lt_succ_of_lt S1.out.lt); have sl4 : w.heap.size < w1.heap.size + 1 + 1 + 1 := Nat.lt_succ_of_lt (Nat.lt_succ_of_lt (Nat.lt_succ_of_lt S1.out.lt)); clear hb)
    refine (beyond_any 1048576 _ 2 2 [x.gen, x.no] _ (num_row (Has.newAt w1 #[.int .i64 x.gen, .int .i64 x.no] 3 (g := w1.heap.size) (by simp)) rfl (by omega)) (by decide)).mono ?_
    rintro e w' ⟨rfl, rfl⟩
    rw [Q1.out]
    go_wp2_with fail
    refine (beyond_any 3 _ 1 1 [x.st] _ (num_row (Has.newAt (w1.alloc (.cells #[.int .i64 x.gen, .int .i64 x.no] 3)) #[.int .i64 x.st] 3 (g := w1.heap.size + 1) (by simp)) rfl (by omega)) (by decide)).mono ?_
    rintro e w' ⟨rfl, rfl⟩
    rw [Q2.out]
    go_wp2_with fail
    refine (beyond_any 1099511627776 _ 1 1 [x.at_] _ (num_row (Has.newAt ((w1.alloc (.cells #[.int .i64 x.gen, .int .i64 x.no] 3)).alloc (.cells #[.int .i64 x.st] 3)) #[.int .i64 x.at_] 3 (g := w1.heap.size + 1 + 1) (by simp)) rfl (by omega)) (by decide)).mono ?_
    rintro e w' ⟨rfl, rfl⟩
    rw [Q3.out]
    go_wp2_with fail
    have B3 := Lib.hid ((((B1.out.alloc B1.out.size (.cells #[.int .i64 x.gen, .int .i64 x.no] 3)).alloc (by have := B1.out.size; simp; omega) (.cells #[.int .i64 x.st] 3)).alloc (by have := B1.out.size; simp; omega) (.cells #[.int .i64 x.at_] 3)))
    refine (keptT_any x.PA x.Pn x.Pc x.P _ (XI.out.p.below B3.out)).mono ?_
    rintro e w5 ⟨rfl, hb⟩
    rw [Q4.out]
    have B5 := Lib.hid (below_from hb B3.out B3.out.size)
    have S5 := Lib.hid ((((S1.out.alloc (.cells #[.int .i64 x.gen, .int .i64 x.no] 3)).alloc (.cells #[.int .i64 x.st] 3)).alloc (.cells #[.int .i64 x.at_] 3)).past hb)
    have sc5 := S5.out.cell
    have sl5 := S5.out.lt
    clear hb
    go_wp2_with fail
    refine (keptS_any x.GA x.Gn x.Gc x.G _ (XI.out.g.below B5.out)).mono ?_
    rintro e w6 ⟨rfl, hb⟩
    rw [Q5.out]
    have B6 := Lib.hid (below_from hb B5.out B5.out.size)
    have S6 := Lib.hid (S5.out.past hb)
    have sc6 := S6.out.cell
    have sl6 := S6.out.lt
    clear hb
    go_wp2_with fail
    go_ret
    exact ⟨ret_bool ANS.out.symm, B6.out⟩
  | true =>
  rw [Bool.true_and] at TB
  by_cases h3 : x.st = 0
  · have d3 : (x.st == 0) = true := by rw [beq_iff_eq]; exact h3
    have wr : IntKind.i64.wrap ((x.Pn : Int) + (x.Gn : Int)) = (x.Pn : Int) + (x.Gn : Int) := IntWalk.i64_in _ (by omega)
    rw [decide_eq_false (show ¬ x.val.st ≠ 0 from fun h => h h3), Bool.false_or, LP.out, LG.out] at TB
    by_cases h4 : x.Pn + x.Gn = 0
    · have d4 : decide ((0 : Int) < (x.Pn : Int) + (x.Gn : Int)) = false := decide_eq_false (by omega)
      have d5 : decide (0 < x.Pn + x.Gn) = false := decide_eq_false (by omega)
      have ANS := Lib.hid (show (!txB x.val next) = false from by rw [TB, decide_eq_true h4]; rfl)
      clear TB h3 h4
      go_enter Try.func54, Try.ntmps54
      go_wp2_with (go_at_call 43; refine (NM.out _).mono ?_; rintro e w1 ⟨rfl, hb⟩; rw [HN.out]; have B1 := Lib.hid (below_from hb B0.out B0.out.size); have S1 := Lib.hid (S0.out.past hb); have sc := S1.out.cell; have sl := S1.out.lt; have sl2 : w.heap.size < w1.heap.size + 1 := Nat.lt_succ_of_lt S1.out.lt; have sl3 : w.heap.size < w1.heap.size + 1 + 1 := Nat.lt_succ_of_lt (Nat.lt_succ_of_lt S1.out.lt); have sl4 : w.heap.size < w1.heap.size + 1 + 1 + 1 := Nat.lt_succ_of_lt (Nat.lt_succ_of_lt (Nat.lt_succ_of_lt S1.out.lt)); clear hb)
      refine (beyond_any 1048576 _ 2 2 [x.gen, x.no] _ (num_row (Has.newAt w1 #[.int .i64 x.gen, .int .i64 x.no] 3 (g := w1.heap.size) (by simp)) rfl (by omega)) (by decide)).mono ?_
      rintro e w' ⟨rfl, rfl⟩
      rw [Q1.out]
      go_wp2_with fail
      refine (beyond_any 3 _ 1 1 [x.st] _ (num_row (Has.newAt (w1.alloc (.cells #[.int .i64 x.gen, .int .i64 x.no] 3)) #[.int .i64 x.st] 3 (g := w1.heap.size + 1) (by simp)) rfl (by omega)) (by decide)).mono ?_
      rintro e w' ⟨rfl, rfl⟩
      rw [Q2.out]
      go_wp2_with fail
      refine (beyond_any 1099511627776 _ 1 1 [x.at_] _ (num_row (Has.newAt ((w1.alloc (.cells #[.int .i64 x.gen, .int .i64 x.no] 3)).alloc (.cells #[.int .i64 x.st] 3)) #[.int .i64 x.at_] 3 (g := w1.heap.size + 1 + 1) (by simp)) rfl (by omega)) (by decide)).mono ?_
      rintro e w' ⟨rfl, rfl⟩
      rw [Q3.out]
      go_wp2_with fail
      have B3 := Lib.hid ((((B1.out.alloc B1.out.size (.cells #[.int .i64 x.gen, .int .i64 x.no] 3)).alloc (by have := B1.out.size; simp; omega) (.cells #[.int .i64 x.st] 3)).alloc (by have := B1.out.size; simp; omega) (.cells #[.int .i64 x.at_] 3)))
      refine (keptT_any x.PA x.Pn x.Pc x.P _ (XI.out.p.below B3.out)).mono ?_
      rintro e w5 ⟨rfl, hb⟩
      rw [Q4.out]
      have B5 := Lib.hid (below_from hb B3.out B3.out.size)
      have S5 := Lib.hid ((((S1.out.alloc (.cells #[.int .i64 x.gen, .int .i64 x.no] 3)).alloc (.cells #[.int .i64 x.st] 3)).alloc (.cells #[.int .i64 x.at_] 3)).past hb)
      have sc5 := S5.out.cell
      have sl5 := S5.out.lt
      clear hb
      go_wp2_with fail
      refine (keptS_any x.GA x.Gn x.Gc x.G _ (XI.out.g.below B5.out)).mono ?_
      rintro e w6 ⟨rfl, hb⟩
      rw [Q5.out]
      have B6 := Lib.hid (below_from hb B5.out B5.out.size)
      have S6 := Lib.hid (S5.out.past hb)
      have sc6 := S6.out.cell
      have sl6 := S6.out.lt
      clear hb
      go_wp2_with fail
      go_ret
      exact ⟨ret_bool ANS.out.symm, B6.out⟩
    · have d4 : decide ((0 : Int) < (x.Pn : Int) + (x.Gn : Int)) = true := decide_eq_true (by omega)
      have d5 : decide (0 < x.Pn + x.Gn) = true := decide_eq_true (by omega)
      have ANS := Lib.hid (show (!txB x.val next) = true from by rw [TB, decide_eq_false h4]; rfl)
      clear TB h3 h4
      go_enter Try.func54, Try.ntmps54
      go_wp2_with (go_at_call 43; refine (NM.out _).mono ?_; rintro e w1 ⟨rfl, hb⟩; rw [HN.out]; have B1 := Lib.hid (below_from hb B0.out B0.out.size); have S1 := Lib.hid (S0.out.past hb); have sc := S1.out.cell; have sl := S1.out.lt; have sl2 : w.heap.size < w1.heap.size + 1 := Nat.lt_succ_of_lt S1.out.lt; have sl3 : w.heap.size < w1.heap.size + 1 + 1 := Nat.lt_succ_of_lt (Nat.lt_succ_of_lt S1.out.lt); have sl4 : w.heap.size < w1.heap.size + 1 + 1 + 1 := Nat.lt_succ_of_lt (Nat.lt_succ_of_lt (Nat.lt_succ_of_lt S1.out.lt)); clear hb)
      refine (beyond_any 1048576 _ 2 2 [x.gen, x.no] _ (num_row (Has.newAt w1 #[.int .i64 x.gen, .int .i64 x.no] 3 (g := w1.heap.size) (by simp)) rfl (by omega)) (by decide)).mono ?_
      rintro e w' ⟨rfl, rfl⟩
      rw [Q1.out]
      go_wp2_with fail
      refine (beyond_any 3 _ 1 1 [x.st] _ (num_row (Has.newAt (w1.alloc (.cells #[.int .i64 x.gen, .int .i64 x.no] 3)) #[.int .i64 x.st] 3 (g := w1.heap.size + 1) (by simp)) rfl (by omega)) (by decide)).mono ?_
      rintro e w' ⟨rfl, rfl⟩
      rw [Q2.out]
      go_wp2_with fail
      refine (beyond_any 1099511627776 _ 1 1 [x.at_] _ (num_row (Has.newAt ((w1.alloc (.cells #[.int .i64 x.gen, .int .i64 x.no] 3)).alloc (.cells #[.int .i64 x.st] 3)) #[.int .i64 x.at_] 3 (g := w1.heap.size + 1 + 1) (by simp)) rfl (by omega)) (by decide)).mono ?_
      rintro e w' ⟨rfl, rfl⟩
      rw [Q3.out]
      go_wp2_with fail
      have B3 := Lib.hid ((((B1.out.alloc B1.out.size (.cells #[.int .i64 x.gen, .int .i64 x.no] 3)).alloc (by have := B1.out.size; simp; omega) (.cells #[.int .i64 x.st] 3)).alloc (by have := B1.out.size; simp; omega) (.cells #[.int .i64 x.at_] 3)))
      refine (keptT_any x.PA x.Pn x.Pc x.P _ (XI.out.p.below B3.out)).mono ?_
      rintro e w5 ⟨rfl, hb⟩
      rw [Q4.out]
      have B5 := Lib.hid (below_from hb B3.out B3.out.size)
      have S5 := Lib.hid ((((S1.out.alloc (.cells #[.int .i64 x.gen, .int .i64 x.no] 3)).alloc (.cells #[.int .i64 x.st] 3)).alloc (.cells #[.int .i64 x.at_] 3)).past hb)
      have sc5 := S5.out.cell
      have sl5 := S5.out.lt
      clear hb
      go_wp2_with fail
      refine (keptS_any x.GA x.Gn x.Gc x.G _ (XI.out.g.below B5.out)).mono ?_
      rintro e w6 ⟨rfl, hb⟩
      rw [Q5.out]
      have B6 := Lib.hid (below_from hb B5.out B5.out.size)
      have S6 := Lib.hid (S5.out.past hb)
      have sc6 := S6.out.cell
      have sl6 := S6.out.lt
      clear hb
      go_wp2_with fail
      go_ret
      exact ⟨ret_bool ANS.out.symm, B6.out⟩
  · have d3 : (x.st == 0) = false := by rw [beq_eq_false_iff_ne]; exact h3
    have ANS := Lib.hid (show (!txB x.val next) = false from by rw [TB, decide_eq_true (show x.val.st ≠ 0 from h3)]; rfl)
    clear TB h3
    go_enter Try.func54, Try.ntmps54
    go_wp2_with (go_at_call 43; refine (NM.out _).mono ?_; rintro e w1 ⟨rfl, hb⟩; rw [HN.out]; have B1 := Lib.hid (below_from hb B0.out B0.out.size); have S1 := Lib.hid (S0.out.past hb); have sc := S1.out.cell; have sl := S1.out.lt; have sl2 : w.heap.size < w1.heap.size + 1 := Nat.lt_succ_of_lt S1.out.lt; have sl3 : w.heap.size < w1.heap.size + 1 + 1 := Nat.lt_succ_of_lt (Nat.lt_succ_of_lt S1.out.lt); have sl4 : w.heap.size < w1.heap.size + 1 + 1 + 1 := Nat.lt_succ_of_lt (Nat.lt_succ_of_lt (Nat.lt_succ_of_lt S1.out.lt)); clear hb)
    refine (beyond_any 1048576 _ 2 2 [x.gen, x.no] _ (num_row (Has.newAt w1 #[.int .i64 x.gen, .int .i64 x.no] 3 (g := w1.heap.size) (by simp)) rfl (by omega)) (by decide)).mono ?_
    rintro e w' ⟨rfl, rfl⟩
    rw [Q1.out]
    go_wp2_with fail
    refine (beyond_any 3 _ 1 1 [x.st] _ (num_row (Has.newAt (w1.alloc (.cells #[.int .i64 x.gen, .int .i64 x.no] 3)) #[.int .i64 x.st] 3 (g := w1.heap.size + 1) (by simp)) rfl (by omega)) (by decide)).mono ?_
    rintro e w' ⟨rfl, rfl⟩
    rw [Q2.out]
    go_wp2_with fail
    refine (beyond_any 1099511627776 _ 1 1 [x.at_] _ (num_row (Has.newAt ((w1.alloc (.cells #[.int .i64 x.gen, .int .i64 x.no] 3)).alloc (.cells #[.int .i64 x.st] 3)) #[.int .i64 x.at_] 3 (g := w1.heap.size + 1 + 1) (by simp)) rfl (by omega)) (by decide)).mono ?_
    rintro e w' ⟨rfl, rfl⟩
    rw [Q3.out]
    go_wp2_with fail
    have B3 := Lib.hid ((((B1.out.alloc B1.out.size (.cells #[.int .i64 x.gen, .int .i64 x.no] 3)).alloc (by have := B1.out.size; simp; omega) (.cells #[.int .i64 x.st] 3)).alloc (by have := B1.out.size; simp; omega) (.cells #[.int .i64 x.at_] 3)))
    refine (keptT_any x.PA x.Pn x.Pc x.P _ (XI.out.p.below B3.out)).mono ?_
    rintro e w5 ⟨rfl, hb⟩
    rw [Q4.out]
    have B5 := Lib.hid (below_from hb B3.out B3.out.size)
    have S5 := Lib.hid ((((S1.out.alloc (.cells #[.int .i64 x.gen, .int .i64 x.no] 3)).alloc (.cells #[.int .i64 x.st] 3)).alloc (.cells #[.int .i64 x.at_] 3)).past hb)
    have sc5 := S5.out.cell
    have sl5 := S5.out.lt
    clear hb
    go_wp2_with fail
    refine (keptS_any x.GA x.Gn x.Gc x.G _ (XI.out.g.below B5.out)).mono ?_
    rintro e w6 ⟨rfl, hb⟩
    rw [Q5.out]
    have B6 := Lib.hid (below_from hb B5.out B5.out.size)
    have S6 := Lib.hid (S5.out.past hb)
    have sc6 := S6.out.cell
    have sl6 := S6.out.lt
    clear hb
    go_wp2_with fail
    go_ret
    exact ⟨ret_bool ANS.out.symm, B6.out⟩

end Go.Proofs.Ytnigjchgpmladaa
