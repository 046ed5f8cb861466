/- May a position be: what 'right' answers. -/
import Derived.Test.YtnkjkgakbgjddaaLeaf
namespace Go.Proofs.Ytnkjkgakbgjddaa
open Go.RowKit

/-- A position, as a value. -/
def Ps.v (x : Ps) : Value := .agg #[.string x.g, .string x.t, .int .i64 x.p, .int .i64 x.h, .int .i64 x.o]
def Wt.v (x : Wt) : Value := .agg #[.int .i64 x.pid, .string x.pos.g, .string x.pos.t, .int .i64 x.pos.p, .int .i64 x.pos.h, .int .i64 x.pos.o]
def boxP (x : Ps) : Array Value := #[.string x.g, .string x.t, .int .i64 x.p, .int .i64 x.h, .int .i64 x.o]
def boxW (x : Wt) : Array Value := #[.int .i64 x.pid, .string x.pos.g, .string x.pos.t, .int .i64 x.pos.p, .int .i64 x.pos.h, .int .i64 x.pos.o]

set_option maxHeartbeats 2000000 in
theorem right_any (x : Ps) (w : World) (hg : x.g.size ≤ maxLen) (ht : x.t.size ≤ maxLen) : Calls Try.prog 35 #[x.v] w fun e w' => e = .returned (.bool (rightP x)) ∧ Below w.heap.size w w' := by
  obtain ⟨g, t, p, h, o⟩ := x
  have CN := Lib.hid name_any
  obtain ⟨a, ha⟩ : ∃ a, rightP ⟨g, t, p, h, o⟩ = a := ⟨_, rfl⟩
  rw [ha]
  have B := Lib.hid (below_alloc1 w (.cells (boxP ⟨g, t, p, h, o⟩) 29))
  have HA := Lib.hid (show (nameC g && nameC t && inB p 5 && inB h 3 && inB o 1099511627776) = a from ha)
  clear ha
  unfold Ps.v
  simp only at hg ht ⊢
  cases h0 : nameC g with
  | false =>
    rw [h0] at HA
    go_enter Try.func35, Try.ntmps35
    go_wp2_with (first | (go_at_call 61; refine (CN.out _ _ (by assumption)).mono ?_; rintro e w' ⟨rfl, rfl⟩) | (go_at_call 60; refine (in_any _ _ _).mono ?_; rintro e w' ⟨rfl, rfl⟩))
    go_ret
    exact ⟨ret_bool HA.out, B.out⟩
  | true =>
    rw [h0] at HA
    cases h1 : nameC t with
    | false =>
      rw [h1] at HA
      go_enter Try.func35, Try.ntmps35
      go_wp2_with (first | (go_at_call 61; refine (CN.out _ _ (by assumption)).mono ?_; rintro e w' ⟨rfl, rfl⟩) | (go_at_call 60; refine (in_any _ _ _).mono ?_; rintro e w' ⟨rfl, rfl⟩))
      go_ret
      exact ⟨ret_bool HA.out, B.out⟩
    | true =>
      rw [h1] at HA
      cases h2 : inB p 5 with
      | false =>
        rw [h2] at HA
        go_enter Try.func35, Try.ntmps35
        go_wp2_with (first | (go_at_call 61; refine (CN.out _ _ (by assumption)).mono ?_; rintro e w' ⟨rfl, rfl⟩) | (go_at_call 60; refine (in_any _ _ _).mono ?_; rintro e w' ⟨rfl, rfl⟩))
        go_ret
        exact ⟨ret_bool HA.out, B.out⟩
      | true =>
        rw [h2] at HA
        cases h3 : inB h 3 with
        | false =>
          rw [h3] at HA
          go_enter Try.func35, Try.ntmps35
          go_wp2_with (first | (go_at_call 61; refine (CN.out _ _ (by assumption)).mono ?_; rintro e w' ⟨rfl, rfl⟩) | (go_at_call 60; refine (in_any _ _ _).mono ?_; rintro e w' ⟨rfl, rfl⟩))
          go_ret
          exact ⟨ret_bool HA.out, B.out⟩
        | true =>
          rw [h3] at HA
          cases h4 : inB o 1099511627776 with
          | false =>
            rw [h4] at HA
            go_enter Try.func35, Try.ntmps35
            go_wp2_with (first | (go_at_call 61; refine (CN.out _ _ (by assumption)).mono ?_; rintro e w' ⟨rfl, rfl⟩) | (go_at_call 60; refine (in_any _ _ _).mono ?_; rintro e w' ⟨rfl, rfl⟩))
            go_ret
            exact ⟨ret_bool HA.out, B.out⟩
          | true =>
            rw [h4] at HA
            go_enter Try.func35, Try.ntmps35
            go_wp2_with (first | (go_at_call 61; refine (CN.out _ _ (by assumption)).mono ?_; rintro e w' ⟨rfl, rfl⟩) | (go_at_call 60; refine (in_any _ _ _).mono ?_; rintro e w' ⟨rfl, rfl⟩))
            go_ret
            exact ⟨ret_bool HA.out, B.out⟩

end Go.Proofs.Ytnkjkgakbgjddaa
