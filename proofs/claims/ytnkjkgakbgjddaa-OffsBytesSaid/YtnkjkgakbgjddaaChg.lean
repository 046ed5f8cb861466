/- What is left of a change: changed. -/
import Derived.Test.YtnkjkgakbgjddaaWithP
import Derived.Test.YtnkjkgakbgjddaaWithW
import Derived.Test.YtnkjkgakbgjddaaCheck
namespace Go.Proofs.Ytnkjkgakbgjddaa
open Go.RowKit

/-- Positions and those that wait, where they lie. -/
structure Of where
  A : Option Addr
  n : Nat
  c : Nat
  L : List Ps
  A' : Option Addr
  n' : Nat
  c' : Nat
  M : List Wt
abbrev Of.v (o : Of) : Value := .agg #[.slice o.A o.n o.c, .slice o.A' o.n' o.c']
abbrev Of.box (o : Of) : Array Value := #[.slice o.A o.n o.c, .slice o.A' o.n' o.c']
def Of.At (w : World) (o : Of) : Prop := Sl psK w o.A o.n o.c o.L ∧ Sl wtK w o.A' o.n' o.c' o.M
theorem Of.At.below {w w' : World} {o : Of} (h : Of.At w o) (hb : Below w.heap.size w w') : Of.At w' o := ⟨h.1.below hb, h.2.below hb⟩
def Of.no : Of := ⟨none, 0, 0, [], none, 0, 0, []⟩
theorem Of.no_at (w : World) : Of.At w Of.no := ⟨Sl.nil _ _, Sl.nil _ _⟩
/-- A slice that came of a call: it is an argument, or it lies beyond. -/
def Beyond (D : Nat) (A : Option Addr) : Prop := ∀ b off, A = some ⟨b, off, none⟩ → D ≤ b
def NewOr {α : Type} (D : Nat) (A0 : Option Addr) (n0 c0 : Nat) (l0 : List α) (A : Option Addr) (n c : Nat) (l : List α) : Prop := (A = A0 ∧ n = n0 ∧ c = c0 ∧ l = l0) ∨ Beyond D A
def Of.From (D : Nat) (o0 o : Of) : Prop := NewOr D o0.A o0.n o0.c o0.L o.A o.n o.c o.L ∧ NewOr D o0.A' o0.n' o0.c' o0.M o.A' o.n' o.c' o.M
theorem NewOr.mono {α : Type} {D D' : Nat} {A0 A : Option Addr} {n0 c0 n c : Nat} {l0 l : List α} (h : NewOr D A0 n0 c0 l0 A n c l) (hD : D' ≤ D) : NewOr D' A0 n0 c0 l0 A n c l :=
  h.elim .inl fun h => .inr fun b off e => Nat.le_trans hD (h b off e)
theorem Of.From.mono {D D' : Nat} {o0 o : Of} (h : Of.From D o0 o) (hD : D' ≤ D) : Of.From D' o0 o := ⟨h.1.mono hD, h.2.mono hD⟩
theorem Of.From.same {D : Nat} {o : Of} : Of.From D o o := ⟨.inl ⟨rfl, rfl, rfl, rfl⟩, .inl ⟨rfl, rfl, rfl, rfl⟩⟩
theorem Of.From.no {D : Nat} {o : Of} : Of.From D o Of.no := ⟨.inr fun _ _ h => (by cases h), .inr fun _ _ h => (by cases h)⟩
theorem NewOr.at_ {α : Type} {K : RK α} {D k : Nat} {A0 A : Option Addr} {n0 c0 n c : Nat} {l0 l : List α} {w0 w w' : World} (h : NewOr D A0 n0 c0 l0 A n c l) (h0 : Sl K w0 A0 n0 c0 l0) (hb : Below w0.heap.size w0 w') (hw : Sl K w A n c l)
    (hg : w.grownBy w' (some k)) (hk : k < D) (hin : ∀ w w' a, K.In w a → K.In w' a) : Sl K w' A n c l := by
  rcases h with ⟨rfl, rfl, rfl, rfl⟩ | h
  · exact h0.below hb
  · exact hw.apart hg (fun b off e he => by have := h b off e; injection he with he; omega) (fun a ha => hin _ _ _ (hw.each a ha))
/-- Stores to a box that lies ahead of them leave them. -/
theorem Of.At.kept {D k : Nat} {o0 o : Of} {w0 w w' : World} (h : Of.At w o) (hf : Of.From D o0 o) (h0 : Of.At w0 o0) (hb : Below w0.heap.size w0 w') (hg : w.grownBy w' (some k)) (hk : k < D) : Of.At w' o :=
  ⟨hf.1.at_ h0.1 hb h.1 hg hk (fun _ _ _ h => h), hf.2.at_ h0.2 hb h.2 hg hk (fun _ _ _ h => h)⟩
/-- What a step leaves: positions, those that wait, and a code. -/
def ChRes (o0 : Of) (r : List Ps × List Wt × Int) (w : World) (e : Ending) (w' : World) : Prop :=
  ∃ o : Of, e = .returned (.tuple #[o.v, .int .i64 r.2.2]) ∧ Of.At w' o ∧ o.L = r.1 ∧ o.M = r.2.1 ∧ Of.From w.heap.size o0 o ∧ Below w.heap.size w w'
def ChgF (o0 : Of) (L' : List Ps) (M' : List Wt) (w : World) (e : Ending) (w' : World) : Prop :=
  ∃ o : Of, e = .returned o.v ∧ Of.At w' o ∧ o.L = L' ∧ o.M = M' ∧ Of.From w.heap.size o0 o ∧ Below w.heap.size w w'
theorem chRes_no {o0 : Of} {r : List Ps × List Wt × Int} {w w' : World} {k : Int} (hr : r = ([], [], k)) (hb : Below w.heap.size w w') : ChRes o0 r w (.returned (.tuple #[ofV none 0 0 none 0 0, .int .i64 k])) w' := by
  subst hr
  exact ⟨Of.no, rfl, Of.no_at _, rfl, rfl, Of.From.no, hb⟩

set_option maxRecDepth 100000 in
set_option maxHeartbeats 4000000 in
theorem changed_any (o : Of) (may : Bool) (g : Nat) (cb : Array Value) (L' : List Ps) (M' : List Wt) (w : World) (ho : Of.At w o)
    (eg : ∀ args w, (callFunc g args).run Try.prog w = .ok (.enter g args) w)
    (hc : checkV o.L o.M = 0 → ∀ W, Below w.heap.size w W → Calls Try.prog g (#[o.v] ++ cb) W (ChgF o L' M' W)) :
    Calls Try.prog 34 #[o.v, .bool may, .func (.func g) #[] cb] w (ChRes o (chV o.L o.M may L' M') w) := by
  have S0 := Lib.hid ((Has.newAt w o.box 25 (g := w.heap.size) rfl).alloc (.cells #[.slice none 0 0, .slice none 0 0] 25))
  have R0 := Lib.hid (Has.newAt (w.alloc (.cells o.box 25)) #[.slice none 0 0, .slice none 0 0] 25 (g := w.heap.size + 1) (by simp))
  have B0 := Lib.hid ((below_alloc1 w (.cells o.box 25)).alloc (by simp) (.cells #[.slice none 0 0, .slice none 0 0] 25))
  have CH := Lib.hid (fun W (h : Below w.heap.size w W) => check_any o.A o.n o.c o.L o.A' o.n' o.c' o.M W (ho.1.below h) (ho.2.below h))
  have HO := Lib.hid ho
  have HC := Lib.hid hc
  clear ho hc
  obtain ⟨k, hk⟩ : ∃ k, checkV o.L o.M = k := ⟨_, rfl⟩
  rw [hk] at CH
  by_cases h0 : k = 0
  · subst h0
    have GO := Lib.hid (HC.out hk)
    cases may with
    | false =>
      have HR := Lib.hid (show chV o.L o.M false L' M' = ([], [], 1) from by unfold chV; rw [if_pos hk, if_neg (by decide)])
      clear hk HC
      go_enter Try.func34, Try.ntmps34
      go_wp2_with (go_at_call 20; refine (CH.out _ B0.out).mono ?_; rintro e w1 ⟨rfl, hb⟩; have B1 := Lib.hid (below_from hb B0.out B0.out.size); have R1 := Lib.hid (R0.out.past hb); have r1c := R1.out.cell; have r1l := R1.out.lt; have r1f := R1.out.free; clear hb)
      refine bodyPost_ret (v := .tuple #[ofV none 0 0 none 0 0, .int .i64 1]) (by simp [results, Try.results34, go_sem, r1c]) rfl ?_
      exact chRes_no HR.out (B1.out.trans (grown_below (setCells_grown (w.heap.size + 1) [.slice none 0 0, .slice none 0 0] 0 w1) B1.out.size (fun k hk => by injection hk with hk; omega)))
    | true =>
      have HV := Lib.hid (show chV o.L o.M true L' M' = capV L' M' from by unfold chV; rw [if_pos hk, if_pos rfl])
      clear hk HC
      by_cases h1 : 4096 < L'.length ∨ 4096 < M'.length
      · have HR := Lib.hid (show chV o.L o.M true L' M' = ([], [], 2) from by rw [HV.out]; unfold capV; rw [if_pos h1])
        have H1 := Lib.hid h1
        clear h1 HV
        go_enter Try.func34, Try.ntmps34
        go_wp2_with (first
          | (go_at_call 20; refine (CH.out _ B0.out).mono ?_; rintro e w1 ⟨rfl, hb⟩; have B1 := Lib.hid (below_from hb B0.out B0.out.size); have R1 := Lib.hid (R0.out.past hb); have z1 := Lib.hid (show w.heap.size + 2 ≤ w1.heap.size from Nat.le_trans (by simp) hb.size); have S1 := Lib.hid (S0.out.past hb); have s1c := S1.out.cell; have s1l := S1.out.lt; clear hb)
          | (refine (GO.out _ B1.out).mono ?_; rintro e w2 ⟨p, rfl, hP, hpL, hpM, hF, hb⟩; have B2 := Lib.hid (below_from hb B1.out B1.out.size); have R2 := Lib.hid (R1.out.past hb); have S2 := Lib.hid (S1.out.past hb); have s2c := S2.out.cell; have s2l := S2.out.lt; have s2f := S2.out.free; have r2c := R2.out.cell; have r2l := R2.out.lt; have r2f := R2.out.free
             have d : decide ((4096 : Int) < max (p.n : Int) (p.n' : Int)) = true := decide_eq_true (by have := H1.out; rw [← hpL, ← hpM, hP.1.len, hP.2.len] at this; omega)
             have l1 := hP.1.max
             have l2 := hP.1.cap
             have l3 := hP.2.max
             have l4 := hP.2.cap
             clear hb hP hpL hpM hF s1c s1l))
        have G2 := setCells_grown w.heap.size [.slice p.A p.n p.c, .slice p.A' p.n' p.c'] 0 w2
        have R3 := Lib.hid ((R2.out.grown G2 (by omega)).set [.slice none 0 0, .slice none 0 0] rfl)
        have r3c := R3.out.cell
        have G3 := setCells_grown (w.heap.size + 1) [.slice none 0 0, .slice none 0 0] 0 (w2.setCells w.heap.size 0 [.slice p.A p.n p.c, .slice p.A' p.n' p.c'])
        refine bodyPost_ret (v := .tuple #[ofV none 0 0 none 0 0, .int .i64 2]) (by simp [results, Try.results34, go_sem, r2c]) rfl ?_
        exact chRes_no HR.out ((B2.out.trans (grown_below G2 B2.out.size (fun k hk => by injection hk with hk; omega))).trans (grown_below G3 (Nat.le_trans B2.out.size G2.size) (fun k hk => by injection hk with hk; omega)))
      · have HR := Lib.hid (show chV o.L o.M true L' M' = (L', M', 0) from by rw [HV.out]; unfold capV; rw [if_neg h1])
        have H1 := Lib.hid h1
        clear h1 HV
        go_enter Try.func34, Try.ntmps34
        go_wp2_with (first
          | (go_at_call 20; refine (CH.out _ B0.out).mono ?_; rintro e w1 ⟨rfl, hb⟩; have B1 := Lib.hid (below_from hb B0.out B0.out.size); have R1 := Lib.hid (R0.out.past hb); have z1 := Lib.hid (show w.heap.size + 2 ≤ w1.heap.size from Nat.le_trans (by simp) hb.size); have S1 := Lib.hid (S0.out.past hb); have s1c := S1.out.cell; have s1l := S1.out.lt; clear hb)
          | (refine (GO.out _ B1.out).mono ?_; rintro e w2 ⟨p, rfl, hP, hpL, hpM, hF, hb⟩; have B2 := Lib.hid (below_from hb B1.out B1.out.size); have R2 := Lib.hid (R1.out.past hb); have S2 := Lib.hid (S1.out.past hb); have s2c := S2.out.cell; have s2l := S2.out.lt; have s2f := S2.out.free; have r2c := R2.out.cell; have r2l := R2.out.lt; have r2f := R2.out.free
             have d : decide ((4096 : Int) < max (p.n : Int) (p.n' : Int)) = false := decide_eq_false (by have := H1.out; rw [← hpL, ← hpM, hP.1.len, hP.2.len] at this; omega)
             have HP := Lib.hid hP
             have HPL := Lib.hid hpL
             have HPM := Lib.hid hpM
             have HF := Lib.hid hF
             have l1 := hP.1.max
             have l2 := hP.1.cap
             have l3 := hP.2.max
             have l4 := hP.2.cap
             clear hb hP hpL hpM hF s1c s1l))
        have G2 := setCells_grown w.heap.size [.slice p.A p.n p.c, .slice p.A' p.n' p.c'] 0 w2
        have G3 := setCells_grown (w.heap.size + 1) [.slice p.A p.n p.c, .slice p.A' p.n' p.c'] 0 (w2.setCells w.heap.size 0 [.slice p.A p.n p.c, .slice p.A' p.n' p.c'])
        refine bodyPost_ret (v := .tuple #[p.v, .int .i64 0]) (by simp [results, Try.results34, go_sem, r2c]) rfl ?_
        have b2 := B2.out.trans (grown_below G2 B2.out.size (fun k hk => by injection hk with hk; omega))
        have b3 := b2.trans (grown_below G3 (Nat.le_trans B2.out.size G2.size) (fun k hk => by injection hk with hk; omega))
        rw [HR.out]
        exact ⟨p, rfl, (HP.out.kept (HF.out.mono z1.out) HO.out b2 G2 (by omega)).kept (HF.out.mono z1.out) HO.out b3 G3 (by omega), HPL.out, HPM.out, HF.out.mono B1.out.size, b3⟩
  · have HR := Lib.hid (show chV o.L o.M may L' M' = ([], [], k) from by unfold chV; rw [if_neg (by rw [hk]; exact h0), hk])
    clear hk HC
    have d : decide (k = 0) = false := decide_eq_false h0
    go_enter Try.func34, Try.ntmps34
    go_wp2_with (go_at_call 20; refine (CH.out _ B0.out).mono ?_; rintro e w1 ⟨rfl, hb⟩; have B1 := Lib.hid (below_from hb B0.out B0.out.size); have R1 := Lib.hid (R0.out.past hb); have r1c := R1.out.cell; have r1l := R1.out.lt; have r1f := R1.out.free; clear hb)
    refine bodyPost_ret (v := .tuple #[ofV none 0 0 none 0 0, .int .i64 k]) (by simp [results, Try.results34, go_sem, r1c]) rfl ?_
    exact chRes_no HR.out (B1.out.trans (grown_below (setCells_grown (w.heap.size + 1) [.slice none 0 0, .slice none 0 0] 0 w1) B1.out.size (fun k hk => by injection hk with hk; omega)))

end Go.Proofs.Ytnkjkgakbgjddaa
