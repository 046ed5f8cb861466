/- New, Used, Few: of the program and of the document's answer. -/
import Derived.Test.YthjohjijcgiogaaCheckP
namespace Go.Proofs.Ythjohjijcgiogaa
open Go.RowKit

/-- Where the chunks that a call hands back lie: their row is new; their bytes are those of chunks that came in, or new. -/
def New (w : World) (l0 : List Hd) (A : Option Addr) (l' : List Hd) : Prop :=
  (∀ b off, A = some ⟨b, off, none⟩ → w.heap.size ≤ b) ∧ ∀ x ∈ l', x ∈ l0 ∨ ∀ b off, x.A = some ⟨b, off, none⟩ → w.heap.size ≤ b
/-- A call that hands back a cache: its room, what its chunks are; old memory is left alone. -/
def CRes (l0 : List Hd) (mk : Value → Value) (cap' : Int) (L' : List Ch) (w : World) (e : Ending) (w' : World) : Prop :=
  ∃ A n c l', e = .returned (mk (.agg #[.int .i64 cap', .slice A n c])) ∧ Hds w' A n c l' ∧ l'.map Hd.val = L' ∧ Below w.heap.size w w' ∧ New w l0 A l'
theorem CRes.nil {l0 : List Hd} {mk : Value → Value} {cap' : Int} {w w' : World} {e : Ending} (he : e = .returned (mk (.agg #[.int .i64 cap', .slice none 0 0]))) (hb : Below w.heap.size w w') : CRes l0 mk cap' [] w e w' :=
  ⟨none, 0, 0, [], he, Sl.nil _ _, rfl, hb, by simp, by simp⟩

theorem check_nil (most : Int) : checkC most [] = newE most := by
  unfold checkC newE
  have : goodI [] = 0 := by decide
  simp only [sz, List.map_nil, List.sum_nil, this]
  by_cases h : most < 0 ∨ 1099511627776 < most
  · rw [if_pos (by omega), if_pos h]
  · rw [if_neg (by omega), if_neg h]
theorem newE_cases (most : Int) : (newE most = 0 ∧ newCap most = most ∧ 0 ≤ most ∧ most ≤ 1099511627776) ∨ (newE most = 1 ∧ newCap most = 0 ∧ (most < 0 ∨ 1099511627776 < most)) := by
  unfold newE newCap
  by_cases h : most < 0 ∨ 1099511627776 < most
  · exact .inr ⟨if_pos h, if_pos h, h⟩
  · exact .inl ⟨if_neg h, if_neg h, by omega, by omega⟩

set_option maxHeartbeats 1000000 in
theorem new_any (most : Int) (w : World) : Calls Try.prog 13 #[.int .i64 most] w (CRes [] (fun v => .tuple #[v, .int .i64 (newE most)]) (newCap most) [] w) := by
  have ck := Lib.hid (fun w' => check_any most none 0 0 [] w' (Sl.nil _ _) (by omega))
  have B0 := Lib.hid (below_from (below_alloc1 (w.alloc (.cells #[.int .i64 0, .slice none 0 0] 24)) (.cells #[.int .i64 most, .slice none 0 0] 24)) (below_alloc1 w _) (by simp))
  have N2 := Lib.hid ((Has.newAt w #[.int .i64 0, .slice none 0 0] 24 (g := w.heap.size) rfl).alloc (.cells #[.int .i64 most, .slice none 0 0] 24))
  have N4 := Lib.hid (Has.newAt (w.alloc (.cells #[.int .i64 0, .slice none 0 0] 24)) #[.int .i64 most, .slice none 0 0] 24 (g := w.heap.size + 1) (by simp))
  rcases newE_cases most with ⟨h1, h2, h3, h4⟩ | ⟨h1, h2, h3⟩
  all_goals
    have he : checkC most ([].map Hd.val) = newE most := check_nil most
    rw [h1] at he
    rw [he] at ck
    have HE := Lib.hid (And.intro h1 h2)
    rw [h1, h2]
    clear he h1 h2 h3
    go_enter Try.func13, Try.ntmps13
    go_wp2_with (go_at_call 15; refine (ck.out _).mono ?_; rintro e w1 ⟨rfl, hb1⟩; have HB1 := Lib.hid hb1; have M2 := N2.out.past hb1; have M4 := N4.out.past hb1; have c2 := M2.cell; have f2 := M2.free; have l2 := M2.lt; have c4 := M4.cell; have l4 := M4.lt; have z1 := hb1.size; simp at z1; clear M2 M4 hb1)
  · refine bodyPost_ret (v := .tuple #[.agg #[.int .i64 most, .slice none 0 0], .int .i64 0]) (by simp [results, Try.results13, go_sem, c2]) rfl (CRes.nil rfl ?_)
    have B1 := below_from HB1.out B0.out B0.out.size
    repeat (first | with_reducible exact B1 | (refine Below.setCell ?_ (by simp <;> omega) _) | (refine Below.alloc ?_ (by simp <;> omega) _))
  · refine bodyPost_ret (v := .tuple #[.agg #[.int .i64 0, .slice none 0 0], .int .i64 1]) (by simp [results, Try.results13, go_sem, c2]) rfl (CRes.nil rfl ?_)
    have B1 := below_from HB1.out B0.out B0.out.size
    repeat (first | with_reducible exact B1 | (refine Below.setCell ?_ (by simp <;> omega) _) | (refine Below.alloc ?_ (by simp <;> omega) _))

set_option maxHeartbeats 1000000 in
theorem rnew_any (most : Int) (w : World) : Calls Try.prog 14 #[.int .i64 most] w (CRes [] (fun v => .tuple #[v, .int .i64 (newE most)]) (newCap most) [] w) := by
  rcases newE_cases most with ⟨h1, h2, h3, h4⟩ | ⟨h1, h2, h3⟩
  · rw [h1, h2]
    go_enter Try.func14, Try.ntmps14
    go_wp2
    refine bodyPost_ret (v := .tuple #[.agg #[.int .i64 most, .slice none 0 0], .int .i64 0]) (by simp [results, Try.results14, go_sem]) rfl (CRes.nil rfl ?_)
    repeat (first | with_reducible exact Below.refl _ _ | (refine Below.setCell ?_ (by simp <;> omega) _) | (refine Below.alloc ?_ (by simp <;> omega) _))
  · rw [h1, h2]
    clear h1 h2
    rcases h3 with h3 | h3
    · go_enter Try.func14, Try.ntmps14
      go_wp2
      refine bodyPost_ret (v := .tuple #[.agg #[.int .i64 0, .slice none 0 0], .int .i64 1]) (by simp [results, Try.results14, go_sem]) rfl (CRes.nil rfl ?_)
      repeat (first | with_reducible exact Below.refl _ _ | (refine Below.setCell ?_ (by simp <;> omega) _) | (refine Below.alloc ?_ (by simp <;> omega) _))
    · have h0 : 0 ≤ most := by omega
      go_enter Try.func14, Try.ntmps14
      go_wp2
      refine bodyPost_ret (v := .tuple #[.agg #[.int .i64 0, .slice none 0 0], .int .i64 1]) (by simp [results, Try.results14, go_sem]) rfl (CRes.nil rfl ?_)
      repeat (first | with_reducible exact Below.refl _ _ | (refine Below.setCell ?_ (by simp <;> omega) _) | (refine Below.alloc ?_ (by simp <;> omega) _))

set_option maxHeartbeats 1000000 in
theorem used_any (cap : Int) (A : Option Addr) (n c : Nat) (l : List Hd) (w : World) (hl : Hds w A n c l) (hn : n ≤ 60000) :
    Calls Try.prog 17 #[.agg #[.int .i64 cap, .slice A n c]] w fun e w' => e = .returned (.int .i64 (usedC cap (l.map Hd.val))) ∧ Below w.heap.size w w' := by
  have B0 := Lib.hid (below_alloc1 w (.cells #[.int .i64 cap, .slice A n c] 24))
  have N1 := Lib.hid (Has.newAt w #[.int .i64 cap, .slice A n c] 24 (g := w.heap.size) rfl)
  have ck := Lib.hid (check_any cap A n c l _ (hl.below B0.out) hn)
  have sz := Lib.hid (fun w' hb => size_any A n c l w' (hl.below (w' := w') hb) hn)
  have ht := Lib.hid (total_sz hl.each)
  clear hl
  unfold usedC
  rcases check_cases cap (l.map Hd.val) with h | h
  all_goals
    rw [h] at ck
    rw [h]
    clear h
    go_enter Try.func17, Try.ntmps17
    go_wp2_with (first | (go_at_call 15; refine ck.out.mono ?_; rintro e w1 ⟨rfl, hb1⟩; have HB1 := Lib.hid (below_from hb1 B0.out B0.out.size); have M1 := N1.out.past hb1; have c1 := M1.cell; have l1 := M1.lt; clear M1 hb1) | (go_at_call 32; refine (sz.out _ HB1.out).mono ?_; rintro e w2 ⟨rfl, hb2⟩; have HB2 := Lib.hid (below_from hb2 HB1.out HB1.out.size); clear hb2))
    go_ret
  · exact ⟨ret_int (by rw [ht.out]), HB2.out⟩
  · exact ⟨ret_int rfl, HB1.out⟩

set_option maxHeartbeats 1000000 in
theorem rused_any (cap : Int) (A : Option Addr) (n c : Nat) (l : List Hd) (w : World) (hl : Hds w A n c l) (hn : n ≤ 60000) :
    Calls Try.prog 18 #[.agg #[.int .i64 cap, .slice A n c]] w fun e w' => e = .returned (.int .i64 (usedC cap (l.map Hd.val))) ∧ Below w.heap.size w w' := by
  have B0 := Lib.hid (below_alloc1 w (.cells #[.int .i64 cap, .slice A n c] 24))
  have N1 := Lib.hid (Has.newAt w #[.int .i64 cap, .slice A n c] 24 (g := w.heap.size) rfl)
  have ck := Lib.hid (rcheck_any cap A n c l _ (hl.below B0.out) hn)
  have sz := Lib.hid (fun w' hb => bytes_any A n c l w' (hl.below (w' := w') hb) hn)
  have ht := Lib.hid (total_sz hl.each)
  clear hl
  unfold usedC
  rcases check_cases cap (l.map Hd.val) with h | h
  all_goals
    rw [h] at ck
    rw [h]
    clear h
    go_enter Try.func18, Try.ntmps18
    go_wp2_with (first | (go_at_call 16; refine ck.out.mono ?_; rintro e w1 ⟨rfl, hb1⟩; have HB1 := Lib.hid (below_from hb1 B0.out B0.out.size); have M1 := N1.out.past hb1; have c1 := M1.cell; have l1 := M1.lt; clear M1 hb1) | (go_at_call 31; refine (sz.out _ HB1.out).mono ?_; rintro e w2 ⟨rfl, hb2⟩; have HB2 := Lib.hid (below_from hb2 HB1.out HB1.out.size); clear hb2))
    go_ret
  · exact ⟨ret_int (by rw [ht.out]), HB2.out⟩
  · exact ⟨ret_int rfl, HB1.out⟩

def fewC (L : List Ch) : Bool := decide (L.length ≤ 60 ∧ sz L ≤ 20000)
set_option maxHeartbeats 1000000 in
theorem few_any (cap : Int) (A : Option Addr) (n c : Nat) (l : List Hd) (w : World) (hl : Hds w A n c l) :
    Calls Try.prog 12 #[.agg #[.int .i64 cap, .slice A n c]] w fun e w' => e = .returned (.bool (fewC (l.map Hd.val))) ∧ Below w.heap.size w w' := by
  have B0 := Lib.hid (below_alloc1 w (.cells #[.int .i64 cap, .slice A n c] 24))
  have ht := Lib.hid (total_sz hl.each)
  have hlen := Lib.hid hl.len
  have hmax := hl.max
  have hcap := hl.cap
  by_cases h : n ≤ 60
  · have sz := Lib.hid (fun w' hb => bytes_any A n c l w' (hl.below (w' := w') hb) (by omega))
    clear hl
    have hd : decide ((n : Int) ≤ 60) = true := by simp; omega
    have hz : total l ≤ 20000 ∨ 20000 < total l := by omega
    have walk : ∀ T : Nat, total l = T → Calls Try.prog 12 #[.agg #[.int .i64 cap, .slice A n c]] w fun e w' => e = .returned (.bool (decide (T ≤ 20000))) ∧ Below w.heap.size w w' := by
      intro T hT
      rw [hT] at sz
      clear hz hT
      go_enter Try.func12, Try.ntmps12
      go_wp2_with (go_at_call 31; refine (sz.out _ B0.out).mono ?_; rintro e w2 ⟨rfl, hb2⟩; have HB2 := Lib.hid (below_from hb2 B0.out B0.out.size); clear hb2)
      go_ret
      exact ⟨ret_bool (by rw [Bool.eq_iff_iff]; simp; omega), HB2.out⟩
    refine (walk _ rfl).mono fun e w' h => ⟨h.1.trans (ret_bool ?_), h.2⟩
    unfold fewC
    rw [List.length_map, hlen.out, ht.out, Bool.eq_iff_iff]
    simp
    omega
  · clear hl
    have HF := Lib.hid (show fewC (l.map Hd.val) = false by unfold fewC; rw [List.length_map, hlen.out, decide_eq_false_iff_not]; omega)
    have hd : decide ((n : Int) ≤ 60) = false := by simp; omega
    go_enter Try.func12, Try.ntmps12
    go_wp2_with fail
    go_ret
    exact ⟨ret_bool HF.out.symm, B0.out⟩

end Go.Proofs.Ythjohjijcgiogaa
