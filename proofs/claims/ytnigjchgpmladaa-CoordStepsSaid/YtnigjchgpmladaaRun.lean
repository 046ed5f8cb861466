/- A transaction runs, with something more: run; a producer's own box. -/
import Derived.Test.YtnigjchgpmladaaAsk
namespace Go.Proofs.Ytnigjchgpmladaa
open Go.RowKit Go.Shelf

/-- A producer's rows do not lie in a block. -/
def Tx.Off (g : Nat) (y : Tx) : Prop := (y.P ≠ [] → ∀ b off, y.PA = some ⟨b, off, none⟩ → b ≠ g) ∧ (y.G ≠ [] → ∀ b off, y.GA = some ⟨b, off, none⟩ → b ≠ g)
theorem Sl.off {α : Type} {K : RK α} {w w' : World} {g : Nat} {A : Option Addr} {n c : Nat} {l : List α} (h : Sl K w A n c l) (ho : l ≠ [] → ∀ b off, A = some ⟨b, off, none⟩ → b ≠ g) (hg : w.grownBy w' (some g)) (hin : ∀ a ∈ l, K.In w' a) : Sl K w' A n c l := by
  refine ⟨h.len, h.cap, h.max, h.adr, fun hn => ?_, hin⟩
  have hne : l ≠ [] := fun e => hn (by rw [e]; rfl)
  obtain ⟨b, off, rfl, hlt, hc⟩ := h.row hn
  exact ⟨b, off, rfl, Nat.lt_of_lt_of_le hlt hg.size, fun j hj => (hg.cell_far ⟨b, off + j, none⟩ hlt (by simpa using ho hne b off rfl)).trans (hc j hj)⟩
theorem Tx.In.off {w w' : World} {x : Tx} {g : Nat} (h : Tx.In w x) (ho : x.Off g) (hg : w.grownBy w' (some g)) : Tx.In w' x :=
  ⟨h.id, h.p.off ho.1 hg (fun a ha => h.p.each a ha), h.g.off ho.2 hg (fun a ha => h.g.each a ha)⟩
theorem Sl.old {α : Type} {K : RK α} {w : World} {g : Nat} {A : Option Addr} {n c : Nat} {l : List α} (h : Sl K w A n c l) (hg : w.heap.size ≤ g) : l ≠ [] → ∀ b off, A = some ⟨b, off, none⟩ → b ≠ g := by
  intro hne b off e
  have hfl := Proofs.Ytnigjchgpmladaa.flat_len K.cells K.size K.len l
  have hp := K.pos
  obtain ⟨b', off', e', hlt, _⟩ := h.row (fun e => by
    rw [e] at hfl
    have := List.length_pos_iff.2 hne
    have := Nat.mul_pos this hp
    simp only [List.length_nil] at hfl
    omega)
  rw [e] at e'
  injection e' with e'; injection e' with e1 _ _
  omega
theorem Tx.In.old {w : World} {x : Tx} {g : Nat} (h : Tx.In w x) (hg : w.heap.size ≤ g) : x.Off g := ⟨h.p.old hg, h.g.old hg⟩

/-- How a transaction that runs stands. -/
def runX (x : Tx) (now : Int) : Tx := { x with st := if x.st = 0 then 1 else x.st, at_ := if x.st = 0 then now else x.at_ }
theorem runX_val (x : Tx) (now : Int) : (runX x now).val = runT x.val now := by
  unfold runX runT Tx.val
  by_cases h : x.st = 0
  · simp only [h, if_true]
  · simp only [h, if_false]

abbrev Tx.row (y : Tx) : Array Value := #[.string y.id, .int .i64 y.pid, .int .i64 y.gen, .int .i64 y.no, .int .i64 y.st, .slice y.PA y.Pn y.Pc, .slice y.GA y.Gn y.Gc, .int .i64 y.at_]
/-- What is handed back by what takes something in. -/
def MoreRes (w : World) (g : Nat) (st : Int) (b : Bool) (v : Tv) (e : Ending) (w' : World) : Prop := ∃ y : Tx, e = .returned (.bool b) ∧ Has w' g y.row ∧ Tx.In w' y ∧ y.val = v ∧ y.Off g ∧ y.st = st ∧ w.grownBy w' (some g)
def RunRes (w : World) (g : Nat) (x : Tx) (now : Int) (mb : Bool) (v : Tv) (e : Ending) (w' : World) : Prop :=
  e = .returned (.int .i64 (if 1 < x.st then 211 else if mb then 0 else 2)) ∧ w.grownBy w' (some g) ∧ (¬ 1 < x.st → mb = true → ∃ z : Tx, Has w' g z.row ∧ Tx.In w' z ∧ z.val = runT v now)
set_option maxRecDepth 100000 in
set_option maxHeartbeats 16000000 in
theorem run_any (g : Nat) (x : Tx) (now : Int) (M : Nat) (lb : Array Value) (mb : Bool) (v : Tv) (w : World) (hx : Has w g #[.string x.id, .int .i64 x.pid, .int .i64 x.gen, .int .i64 x.no, .int .i64 x.st, .slice x.PA x.Pn x.Pc, .slice x.GA x.Gn x.Gc, .int .i64 x.at_])
    (eg : ∀ args w, (callFunc M args).run Try.prog w = .ok (.enter M args) w) (hst : 0 ≤ x.st ∧ x.st ≤ 3)
    (hm : Calls Try.prog M lb w fun e w' => MoreRes w g x.st mb v e w') :
    Calls Try.prog 63 #[.pointer (some ⟨g, 0, none⟩), .int .i64 now, .func (.func M) #[] lb] w fun e w' => RunRes w g x now mb v e w' := by
  have xc := hx.cell
  have xl := hx.lt
  have HM := Lib.hid hm
  clear hm hx
  by_cases h2 : x.st = 2
  · have d1 : (x.st == 2) = true := by rw [beq_iff_eq]; exact h2
    have R := Lib.hid (show 1 < x.st from by omega)
    clear h2 hst
    go_enter Try.func63, Try.ntmps63
    go_wp2_with fail
    go_ret
    exact ⟨by rw [if_pos R.out]; rfl, grown_refl _ _, fun h => absurd R.out h⟩
  · by_cases h3 : x.st = 3
    · have d1 : (x.st == 2) = false := by rw [beq_eq_false_iff_ne]; exact h2
      have d2 : (x.st == 3) = true := by rw [beq_iff_eq]; exact h3
      have R := Lib.hid (show 1 < x.st from by omega)
      clear h2 h3 hst
      go_enter Try.func63, Try.ntmps63
      go_wp2_with fail
      go_ret
      exact ⟨by rw [if_pos R.out]; rfl, grown_refl _ _, fun h => absurd R.out h⟩
    · have d1 : (x.st == 2) = false := by rw [beq_eq_false_iff_ne]; exact h2
      have d2 : (x.st == 3) = false := by rw [beq_eq_false_iff_ne]; exact h3
      have R := Lib.hid (show x.st ≤ 1 from by omega)
      cases mb with
      | false =>
        clear h2 h3 hst
        go_enter Try.func63, Try.ntmps63
        go_wp2_with (refine HM.out.mono ?_; rintro e w1 ⟨y, rfl, h1, hi, hv, ho, hs, hg⟩; have HG := Lib.hid hg; clear h1 hi hv ho hs hg)
        go_ret
        exact ⟨by rw [if_neg (Int.not_lt.2 R.out)]; rfl, HG.out, fun _ h => (by cases h)⟩
      | true =>
        by_cases h0 : x.st = 0
        · have Z0 := Lib.hid h0
          clear h2 h3 hst h0
          go_enter Try.func63, Try.ntmps63
          go_wp2_with (refine HM.out.mono ?_; rintro e w1 ⟨y, rfl, h1, hi, hv, ho, hs, hg⟩; have HG := Lib.hid hg; have H1 := Lib.hid h1; have HI := Lib.hid hi; have HV := Lib.hid hv; have HF := Lib.hid ho; have Y0 := Lib.hid (hs.trans Z0.out); have d3 : (y.st == 0) = true := by { rw [beq_iff_eq]; exact Y0.out }; have h1c := h1.cell; have h1f := h1.free; have h1l := h1.lt; clear h1 hi hv ho hs hg xc xl)
          go_ret
          have G1 := setCells_grown g [.int .i64 1] 4 w1
          have G2 := setCells_grown g [.int .i64 now] 7 (w1.setCells g 4 [.int .i64 1])
          refine ⟨by rw [if_neg (Int.not_lt.2 R.out)]; rfl, grown_trans HG.out (grown_trans G1 G2), fun _ _ => ⟨runX y now, ?_, (fun (h : Tx.In _ y) => (⟨h.id, h.p, h.g⟩ : Tx.In _ (runX y now))) (HI.out.off HF.out (grown_trans G1 G2)), by rw [runX_val, HV.out]⟩⟩
          have := (H1.out.setAt 4 (.int .i64 1) (by simp)).setAt 7 (.int .i64 now) (by simp)
          have e1 : (runX y now).st = 1 := by unfold runX; rw [if_pos Y0.out]
          have e2 : (runX y now).at_ = now := by show (if y.st = 0 then now else y.at_) = now; rw [if_pos Y0.out]
          show Has _ g #[.string y.id, .int .i64 y.pid, .int .i64 y.gen, .int .i64 y.no, .int .i64 (runX y now).st, .slice y.PA y.Pn y.Pc, .slice y.GA y.Gn y.Gc, .int .i64 (runX y now).at_]
          rw [e1, e2]
          simpa using this
        · have Z0 := Lib.hid h0
          clear h2 h3 hst h0
          go_enter Try.func63, Try.ntmps63
          go_wp2_with (refine HM.out.mono ?_; rintro e w1 ⟨y, rfl, h1, hi, hv, ho, hs, hg⟩; have HG := Lib.hid hg; have H1 := Lib.hid h1; have HI := Lib.hid hi; have HV := Lib.hid hv; have HF := Lib.hid ho; have Y0 := Lib.hid (show ¬ y.st = 0 from by rw [hs]; exact Z0.out); have d3 : (y.st == 0) = false := by { rw [beq_eq_false_iff_ne]; exact Y0.out }; have h1c := h1.cell; have h1f := h1.free; have h1l := h1.lt; clear h1 hi hv ho hs hg xc xl)
          go_ret
          have e1 : (runX y now).st = y.st := by unfold runX; rw [if_neg Y0.out]
          have e2 : (runX y now).at_ = y.at_ := by show (if y.st = 0 then now else y.at_) = y.at_; rw [if_neg Y0.out]
          refine ⟨by rw [if_neg (Int.not_lt.2 R.out)]; rfl, HG.out, fun _ _ => ⟨runX y now, ?_, ⟨HI.out.id, HI.out.p, HI.out.g⟩, by rw [runX_val, HV.out]⟩⟩
          show Has _ g #[.string y.id, .int .i64 y.pid, .int .i64 y.gen, .int .i64 y.no, .int .i64 (runX y now).st, .slice y.PA y.Pn y.Pc, .slice y.GA y.Gn y.Gc, .int .i64 (runX y now).at_]
          rw [e1, e2]
          exact H1.out

end Go.Proofs.Ytnigjchgpmladaa
