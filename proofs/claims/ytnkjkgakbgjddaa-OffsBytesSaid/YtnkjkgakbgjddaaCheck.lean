/- Check: whether positions may be. -/
import Derived.Test.YtnkjkgakbgjddaaKeptW
namespace Go.Proofs.Ytnkjkgakbgjddaa
open Go.RowKit

/-- Positions and those that wait, as a value. -/
abbrev ofV (A : Option Addr) (n c : Nat) (A' : Option Addr) (n' c' : Nat) : Value := .agg #[.slice A n c, .slice A' n' c']
abbrev ofC (A : Option Addr) (n c : Nat) (A' : Option Addr) (n' c' : Nat) : Array Value := #[.slice A n c, .slice A' n' c']

set_option maxHeartbeats 2000000 in
theorem check_any (A : Option Addr) (n c : Nat) (L : List Ps) (A' : Option Addr) (n' c' : Nat) (M : List Wt) (w : World) (hL : Sl psK w A n c L) (hM : Sl wtK w A' n' c' M) :
    Calls Try.prog 20 #[ofV A n c A' n' c'] w fun e w' => e = .returned (.int .i64 (checkV L M)) ∧ Below w.heap.size w w' := by
  have B0 := Lib.hid (below_alloc1 w (.cells (ofC A n c A' n' c') 25))
  have S0 := Lib.hid (Has.newAt w (ofC A n c A' n' c') 25 (g := w.heap.size) rfl)
  have KP := Lib.hid (kept_any A n c L _ (hL.alloc (.cells (ofC A n c A' n' c') 25)))
  have KW := Lib.hid (fun w1 (h : Below w.heap.size w w1) => keptW_any A' n' c' M w1 (hM.below h))
  have l1 := hL.max
  have l2 := hL.cap
  have l3 := hM.max
  have l4 := hM.cap
  have HV : Hid (checkV L M = if keptB rightP ordP L = true ∧ keptB rightW ordW M = true then (if 4096 < n ∨ 4096 < n' then 2 else 0) else 1) := Lib.hid (by unfold checkV; rw [hL.len, hM.len])
  clear hL hM
  cases k1 : keptB rightP ordP L with
  | false =>
    rw [k1] at KP HV
    go_enter Try.func20, Try.ntmps20
    go_wp2_with (go_at_call 47; refine KP.out.mono ?_; rintro e w1 ⟨rfl, hb⟩; have B1 := Lib.hid (below_from hb B0.out B0.out.size); clear hb)
    go_ret
    exact ⟨ret_int (by rw [HV.out]; rfl), B1.out⟩
  | true =>
    rw [k1] at KP HV
    cases k2 : keptB rightW ordW M with
    | false =>
      rw [k2] at KW HV
      go_enter Try.func20, Try.ntmps20
      go_wp2_with (first | (go_at_call 47; refine KP.out.mono ?_; rintro e w1 ⟨rfl, hb⟩; have B1 := Lib.hid (below_from hb B0.out B0.out.size); have S1 := Lib.hid (S0.out.past hb); have c1 := S1.out.cell; have z1 := S1.out.lt; clear hb) | (go_at_call 48; refine (KW.out _ B1.out).mono ?_; rintro e w2 ⟨rfl, hb⟩; have B2 := Lib.hid (below_from hb B1.out B1.out.size); clear hb))
      go_ret
      exact ⟨ret_int (by rw [HV.out]; rfl), B2.out⟩
    | true =>
      rw [k2] at KW HV
      by_cases h1 : 4096 < n ∨ 4096 < n'
      · have d : decide ((4096 : Int) < max (n : Int) (n' : Int)) = true := decide_eq_true (by omega)
        have H := Lib.hid h1
        clear h1
        go_enter Try.func20, Try.ntmps20
        go_wp2_with (first | (go_at_call 47; refine KP.out.mono ?_; rintro e w1 ⟨rfl, hb⟩; have B1 := Lib.hid (below_from hb B0.out B0.out.size); have S1 := Lib.hid (S0.out.past hb); have c1 := S1.out.cell; have z1 := S1.out.lt; clear hb) | (go_at_call 48; refine (KW.out _ B1.out).mono ?_; rintro e w2 ⟨rfl, hb⟩; have B2 := Lib.hid (below_from hb B1.out B1.out.size); have S2 := Lib.hid (S1.out.past hb); have c2 := S2.out.cell; have z2 := S2.out.lt; clear hb c1 z1))
        go_ret
        exact ⟨ret_int (by rw [HV.out, if_pos (by simp), if_pos H.out]), B2.out⟩
      · have d : decide ((4096 : Int) < max (n : Int) (n' : Int)) = false := decide_eq_false (by omega)
        have H := Lib.hid h1
        clear h1
        go_enter Try.func20, Try.ntmps20
        go_wp2_with (first | (go_at_call 47; refine KP.out.mono ?_; rintro e w1 ⟨rfl, hb⟩; have B1 := Lib.hid (below_from hb B0.out B0.out.size); have S1 := Lib.hid (S0.out.past hb); have c1 := S1.out.cell; have z1 := S1.out.lt; clear hb) | (go_at_call 48; refine (KW.out _ B1.out).mono ?_; rintro e w2 ⟨rfl, hb⟩; have B2 := Lib.hid (below_from hb B1.out B1.out.size); have S2 := Lib.hid (S1.out.past hb); have c2 := S2.out.cell; have z2 := S2.out.lt; clear hb c1 z1))
        go_ret
        exact ⟨ret_int (by rw [HV.out, if_pos (by simp), if_neg H.out]), B2.out⟩

end Go.Proofs.Ytnkjkgakbgjddaa
