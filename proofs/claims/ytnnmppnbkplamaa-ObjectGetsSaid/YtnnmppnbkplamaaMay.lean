/- Check of any store; may; what a store that may be is. -/
import Derived.Test.YtnnmppnbkplamaaCheck
namespace Go.Proofs.Ytnnmppnbkplamaa
open Go.RowKit Go.Shelf

/-- A store's value. -/
abbrev stV (A : Option Addr) (n c : Nat) (calls : Int) (A' : Option Addr) (n' c' : Nat) : Value := .agg #[.slice A n c, .int .i64 calls, .slice A' n' c']

set_option maxRecDepth 100000 in
set_option maxHeartbeats 2000000 in
theorem check_out (A : Option Addr) (n c : Nat) (calls : Int) (A' : Option Addr) (n' c' : Nat) (w : World) (h : 1024 < n ∨ 1024 < n') :
    Calls Try.prog 18 #[stV A n c calls A' n' c'] w fun e w' => e = .returned (.int .i64 2) ∧ Below w.heap.size w w' := by
  have B0 := Lib.hid (below_alloc1 w (.cells #[.slice A n c, .int .i64 calls, .slice A' n' c'] 25))
  by_cases h1 : 1024 < n
  · have d1 : decide ((1024 : Int) < (n : Int)) = true := decide_eq_true (by omega)
    clear h
    go_enter Try.func18, Try.ntmps18
    go_wp2
    go_ret
    exact ⟨rfl, B0.out⟩
  · have d1 : decide ((1024 : Int) < (n : Int)) = false := decide_eq_false (by omega)
    have d2 : decide ((1024 : Int) < (n' : Int)) = true := decide_eq_true (by omega)
    clear h
    go_enter Try.func18, Try.ntmps18
    go_wp2
    go_ret
    exact ⟨rfl, B0.out⟩

set_option maxRecDepth 100000 in
set_option maxHeartbeats 2000000 in
theorem check_arg (A : Option Addr) (n c : Nat) (calls : Int) (A' : Option Addr) (n' c' : Nat) (fs : List Ft) (w : World) (hf : Fts w A' n' c' fs) (h1 : ¬ 1024 < n) (h2 : ¬ 1024 < n') (h : calls < 0 ∨ 1099511627776 ≤ calls ∨ fs.any oddF = true) :
    Calls Try.prog 18 #[stV A n c calls A' n' c'] w fun e w' => e = .returned (.int .i64 1) ∧ Below w.heap.size w w' := by
  have B0 := Lib.hid (below_alloc1 w (.cells #[.slice A n c, .int .i64 calls, .slice A' n' c'] 25))
  have d1 : decide ((1024 : Int) < (n : Int)) = false := decide_eq_false (by omega)
  have d2 : decide ((1024 : Int) < (n' : Int)) = false := decide_eq_false (by omega)
  by_cases h3 : calls < 0
  · have d3 : decide (calls < 0) = true := decide_eq_true h3
    clear h hf
    go_enter Try.func18, Try.ntmps18
    go_wp2
    go_ret
    exact ⟨rfl, B0.out⟩
  · have d3 : decide (calls < 0) = false := decide_eq_false h3
    by_cases h4 : 1099511627776 ≤ calls
    · have d4 : decide (1099511627776 ≤ calls) = true := decide_eq_true h4
      clear h hf
      go_enter Try.func18, Try.ntmps18
      go_wp2
      go_ret
      exact ⟨rfl, B0.out⟩
    · have d4 : decide (1099511627776 ≤ calls) = false := decide_eq_false h4
      have h5 : fs.any oddF = true := by rcases h with h | h | h <;> first | omega | exact h
      have CF := Lib.hid (fun W (hW : Below w.heap.size w W) => (show Calls Try.prog 46 #[.slice A' n' c', .func (.func 45) #[] #[]] W _ from by have := containsFt A' n' c' fs W (hf.below hW) (by omega); rw [h5] at this; exact this))
      clear h hf h5
      go_enter Try.func18, Try.ntmps18
      go_wp2_with (go_at_call 46; refine (CF.out _ B0.out).mono ?_; rintro e w1 ⟨rfl, hb⟩; have HB1 := Lib.hid (below_from hb B0.out B0.out.size); clear hb)
      go_ret
      exact ⟨rfl, HB1.out⟩

theorem check_any (A : Option Addr) (n c : Nat) (l : List Ob) (calls : Int) (A' : Option Addr) (n' c' : Nat) (fs : List Ft) (w : World) (hl : Obs w A n c l) (hf : Fts w A' n' c' fs) :
    Calls Try.prog 18 #[stV A n c calls A' n' c'] w fun e w' => e = .returned (.int .i64 (checkO (l.map Ob.val) calls fs)) ∧ Below w.heap.size w w' := by
  unfold checkO
  rw [List.length_map, hl.len, hf.len]
  by_cases h : 1024 < n ∨ 1024 < n'
  · rw [if_pos h]; exact check_out A n c calls A' n' c' w h
  · rw [if_neg h]
    by_cases h2 : calls < 0 ∨ 1099511627776 ≤ calls ∨ fs.any oddF = true
    · rw [if_pos h2]; exact check_arg A n c calls A' n' c' fs w hf (by omega) (by omega) h2
    · rw [if_neg h2]
      exact check_in A n c l calls A' n' c' fs w hl hf (by omega) (by omega) (by omega) (by omega) (by cases hq : fs.any oddF; rfl; exact absurd (.inr (.inr hq)) h2)

/-- Whether a call may be made. -/
def mayE (ck : Int) (named : Bool) : Int := if ck = 0 then (if named = true then 0 else 1) else ck
theorem check_vals (L : List Oc) (calls : Int) (fs : List Ft) : checkO L calls fs = 0 ∨ checkO L calls fs = 1 ∨ checkO L calls fs = 2 := by
  unfold checkO objE
  split
  · exact .inr (.inr rfl)
  · split
    · exact .inr (.inl rfl)
    · split
      · exact .inr (.inl rfl)
      · exact .inl rfl
set_option maxHeartbeats 2000000 in
theorem may_any (A : Option Addr) (n c : Nat) (l : List Ob) (calls : Int) (A' : Option Addr) (n' c' : Nat) (fs : List Ft) (named : Bool) (w : World) (hl : Obs w A n c l) (hf : Fts w A' n' c' fs) :
    Calls Try.prog 28 #[stV A n c calls A' n' c', .bool named] w fun e w' => e = .returned (.int .i64 (mayE (checkO (l.map Ob.val) calls fs) named)) ∧ Below w.heap.size w w' := by
  have B0 := Lib.hid (below_alloc1 w (.cells #[.slice A n c, .int .i64 calls, .slice A' n' c'] 25))
  have CK := Lib.hid (check_any A n c l calls A' n' c' fs _ (hl.below B0.out) (hf.below B0.out))
  have hv := check_vals (l.map Ob.val) calls fs
  generalize checkO (l.map Ob.val) calls fs = ck at CK hv ⊢
  clear hl hf
  rcases hv with rfl | rfl | rfl
  · cases named
    all_goals (go_enter Try.func28, Try.ntmps28; go_wp2_with (go_at_call 18; refine CK.out.mono ?_; rintro e w1 ⟨rfl, hb⟩; have HB := Lib.hid (below_from hb B0.out B0.out.size); clear hb); go_ret; exact ⟨rfl, HB.out⟩)
  · go_enter Try.func28, Try.ntmps28
    go_wp2_with (go_at_call 18; refine CK.out.mono ?_; rintro e w1 ⟨rfl, hb⟩; have HB := Lib.hid (below_from hb B0.out B0.out.size); clear hb)
    go_ret
    exact ⟨rfl, HB.out⟩
  · go_enter Try.func28, Try.ntmps28
    go_wp2_with (go_at_call 18; refine CK.out.mono ?_; rintro e w1 ⟨rfl, hb⟩; have HB := Lib.hid (below_from hb B0.out B0.out.size); clear hb)
    go_ret
    exact ⟨rfl, HB.out⟩

end Go.Proofs.Ytnnmppnbkplamaa
