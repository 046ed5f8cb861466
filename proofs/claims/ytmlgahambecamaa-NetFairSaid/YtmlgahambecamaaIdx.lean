/- slices.IndexFunc at slips and at messages. -/
import Derived.Test.YtmlgahambecamaaPlain
namespace Go.Proofs.Ytmlgahambecamaa
open Go.RowKit


/-- What IndexFunc found: the first place at which p holds, or none; and what became of the world. -/
def Found (p : Nat → Bool) (n : Nat) (I : Nat → World → Prop) (r : Int) (w : World) : Prop :=
  (r = -1 ∧ (∀ j, j < n → p j = false) ∧ I n w) ∨ ∃ k : Nat, r = k ∧ k < n ∧ p k = true ∧ (∀ j, j < k → p j = false) ∧ I (k + 1) w

set_option maxHeartbeats 1000000 in
/-- slices.IndexFunc (func 43). -/
theorem indexS (A : Option Addr) (n c : Nat) (l : List Sp) (w : World) (g : Nat) (lb : Array Value) (I : Nat → World → Prop) (p : Nat → Bool)
    (eg : ∀ args w, (callFunc g args).run Try.prog w = .ok (.enter g args) w) (hmax : n ≤ 9223372036854775807)
    (h0 : I 0 w) (hrow : ∀ j W, I j W → Sl spK W A n c l)
    (hcall : ∀ j (hj : j < l.length) W, I j W → Calls Try.prog g (#[.agg #[.int .i64 l[j].no, .int .i64 l[j].kind, .int .i64 l[j].amt]] ++ lb) W fun e w' => e = .returned (.bool (p j)) ∧ I (j + 1) w') :
    Calls Try.prog 43 #[.slice A n c, .func (.func g) #[] lb] w fun e w' => ∃ r : Int, e = .returned (.int .i64 r) ∧ Found p n I r w' := by
  have HR := Lib.hid hrow
  have HC := Lib.hid hcall
  clear hrow hcall
  have h0' := Lib.hid h0
  clear h0
  go_enter Try.func43, Try.ntmps43
  go_wp2
  go_loopg [5, 8] n (fun gg _ s8 wr => ∃ k : Nat, k ≤ n ∧ n - k ≤ gg ∧ s8 = .int .i64 k ∧ Hid (I k wr) ∧ Hid (∀ j, j < k → p j = false))
  case atStart => exact ⟨0, Nat.zero_le _, by omega, rfl, h0', Lib.hid (fun j hj => absurd hj (Nat.not_lt_zero _))⟩
  case round =>
    obtain ⟨k, hk, hgg, rfl, hI, hp⟩ := hrel
    by_cases hlt : k < n
    · obtain ⟨b, off, hkl, rfl, hbl, x0, x1, x2⟩ := sp_at (HR.out k wr hI.out) hlt
      have hcall := HC.out k hkl wr hI.out
      generalize l[k] = x at *
      cases hq : p k with
      | true =>
        rw [hq] at hcall
        have HQ := Lib.hid hq
        clear hq
        go_wp2_with (refine hcall.mono ?_; rintro e w' ⟨rfl, hI'⟩; replace hI' := Lib.hid hI')
        go_ret
        exact ⟨k, rfl, .inr ⟨k, rfl, hlt, HQ.out, hp.out, hI'.out⟩⟩
      | false =>
        rw [hq] at hcall
        have HQ := Lib.hid hq
        clear hq
        go_wp2_with (refine hcall.mono ?_; rintro e w' ⟨rfl, hI'⟩; replace hI' := Lib.hid hI')
        go_roundg (n - (k + 1))
        case measure => omega
        case rel =>
          refine ⟨k + 1, by omega, by omega, by go_num, hI', Lib.hid (fun j hj => ?_)⟩
          by_cases e : j = k
          · subst e; exact HQ.out
          · exact hp.out j (by omega)
    · have hkn : k = n := by omega
      subst hkn
      go_wp2
      go_ret
      exact ⟨-1, rfl, .inl ⟨rfl, hp.out, hI.out⟩⟩

set_option maxHeartbeats 1000000 in
/-- slices.IndexFunc (func 53). -/
theorem indexM (A : Option Addr) (n c : Nat) (l : List Mg) (w : World) (g : Nat) (lb : Array Value) (I : Nat → World → Prop) (p : Nat → Bool)
    (eg : ∀ args w, (callFunc g args).run Try.prog w = .ok (.enter g args) w) (hmax : n ≤ 9223372036854775807)
    (h0 : I 0 w) (hrow : ∀ j W, I j W → Sl mgK W A n c l)
    (hcall : ∀ j (hj : j < l.length) W, I j W → Calls Try.prog g (#[.agg #[.int .i64 l[j].t, .int .i64 l[j].no, .int .i64 l[j].frm, .int .i64 l[j].dst, .slice l[j].A l[j].n l[j].c]] ++ lb) W fun e w' => e = .returned (.bool (p j)) ∧ I (j + 1) w') :
    Calls Try.prog 53 #[.slice A n c, .func (.func g) #[] lb] w fun e w' => ∃ r : Int, e = .returned (.int .i64 r) ∧ Found p n I r w' := by
  have HR := Lib.hid hrow
  have HC := Lib.hid hcall
  clear hrow hcall
  have h0' := Lib.hid h0
  clear h0
  go_enter Try.func53, Try.ntmps53
  go_wp2
  go_loopg [5, 8] n (fun gg _ s8 wr => ∃ k : Nat, k ≤ n ∧ n - k ≤ gg ∧ s8 = .int .i64 k ∧ Hid (I k wr) ∧ Hid (∀ j, j < k → p j = false))
  case atStart => exact ⟨0, Nat.zero_le _, by omega, rfl, h0', Lib.hid (fun j hj => absurd hj (Nat.not_lt_zero _))⟩
  case round =>
    obtain ⟨k, hk, hgg, rfl, hI, hp⟩ := hrel
    by_cases hlt : k < n
    · obtain ⟨b, off, hkl, rfl, hbl, x0, x1, x2, x3, x4⟩ := mg_at (HR.out k wr hI.out) hlt
      have hcall := HC.out k hkl wr hI.out
      generalize l[k] = x at *
      cases hq : p k with
      | true =>
        rw [hq] at hcall
        have HQ := Lib.hid hq
        clear hq
        go_wp2_with (refine hcall.mono ?_; rintro e w' ⟨rfl, hI'⟩; replace hI' := Lib.hid hI')
        go_ret
        exact ⟨k, rfl, .inr ⟨k, rfl, hlt, HQ.out, hp.out, hI'.out⟩⟩
      | false =>
        rw [hq] at hcall
        have HQ := Lib.hid hq
        clear hq
        go_wp2_with (refine hcall.mono ?_; rintro e w' ⟨rfl, hI'⟩; replace hI' := Lib.hid hI')
        go_roundg (n - (k + 1))
        case measure => omega
        case rel =>
          refine ⟨k + 1, by omega, by omega, by go_num, hI', Lib.hid (fun j hj => ?_)⟩
          by_cases e : j = k
          · subst e; exact HQ.out
          · exact hp.out j (by omega)
    · have hkn : k = n := by omega
      subst hkn
      go_wp2
      go_ret
      exact ⟨-1, rfl, .inl ⟨rfl, hp.out, hI.out⟩⟩
end Go.Proofs.Ytmlgahambecamaa
