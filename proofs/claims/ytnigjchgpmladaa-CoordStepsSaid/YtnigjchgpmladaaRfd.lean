/- Where an id stands; of the document. The rest of a slice; what a search by hand finds; of no function. -/
import Derived.Test.YtnigjchgpmladaaLeaf2
import Derived.Test.YtnigjchgpmladaaCor
import Derived.Deep.DeepCutAuto
import Derived.Test.YtnigjchgpmladaaBas
namespace Go.Proofs.Ytnigjchgpmladaa
open Go.RowKit Go.Shelf

def numOr (x : Option Nat) : Int := match x with | some i => i | none => -1
theorem idAt_at {L : List Tx} {id : ByteArray} {k : Nat} (hk : k < L.length) (h1 : ∀ j (hj : j < L.length), j < k → L[j].id ≠ id) (h2 : L[k].id = id) : idAt (L.map Tx.val) id = some k := by
  unfold idAt
  rw [List.findIdx?_eq_some_iff_getElem]
  refine ⟨by rw [List.length_map]; exact hk, by simp [Tx.val, h2], fun j hj => ?_⟩
  simpa [Tx.val] using h1 j (by omega) hj
theorem idAt_no {L : List Tx} {id : ByteArray} (h1 : ∀ j (hj : j < L.length), L[j].id ≠ id) : idAt (L.map Tx.val) id = none := by
  unfold idAt
  rw [List.findIdx?_eq_none_iff]
  intro v hv
  obtain ⟨x, hx, rfl⟩ := List.mem_map.1 hv
  obtain ⟨j, hj, rfl⟩ := List.mem_iff_getElem.1 hx
  exact decide_eq_false (h1 j hj)

set_option maxRecDepth 100000 in
set_option maxHeartbeats 16000000 in
theorem rfindid_any (o : Tc) (id : ByteArray) (w : World) (ho : Tc.At w o) : Calls Try.prog 51 #[o.v, .string id] w fun e w' => e = .returned (.int .i64 (numOr (idAt o.val.L id))) ∧ Below w.heap.size w w' := by
  have B1 := Lib.hid (below_alloc1 w (.cells #[.int .i64 o.next, .slice o.A o.n o.c] 24))
  have N1 := Lib.hid (Has.newAt w #[.int .i64 o.next, .slice o.A o.n o.c] 24 (g := w.heap.size) rfl)
  have HL := Lib.hid (show Sl txK w o.A o.n o.c o.L from ho)
  have hcap := ho.cap
  have hmax := ho.max
  clear ho
  obtain ⟨W1, hW1⟩ : ∃ W, W = w.alloc (.cells #[.int .i64 o.next, .slice o.A o.n o.c] 24) := ⟨_, rfl⟩
  rw [← hW1] at B1 N1
  have HW1 := Lib.hid hW1
  clear hW1
  obtain ⟨q, hq⟩ : ∃ q, numOr (idAt o.val.L id) = q := ⟨_, rfl⟩
  rw [hq]
  have HQ := Lib.hid hq
  clear hq
  go_enter Try.func51, Try.ntmps51
  go_upto_region 1 with (fail)
  rw [← HW1.out]
  obtain ⟨CA, hCA⟩ : ∃ A, o.A = A := ⟨_, rfl⟩
  rw [hCA] at HL N1
  clear hCA
  go_wp2_with fail
  go_loopg [5] o.n (fun gg s3 wr => ∃ k : Nat, k ≤ o.n ∧ o.n - k ≤ gg ∧ s3 = .int .i64 k ∧ Hid (Has wr w.heap.size #[.int .i64 o.next, .slice CA o.n o.c]) ∧ Hid (Below w.heap.size w wr) ∧ Hid (∀ j (hj : j < o.L.length), j < k → o.L[j].id ≠ id))
  case atStart => exact ⟨0, Nat.zero_le _, by omega, rfl, N1, B1, Lib.hid (fun j _ h => absurd h (Nat.not_lt_zero _))⟩
  case round =>
    obtain ⟨k, hk, hgg, rfl, N2, B2, IN⟩ := hrel
    have c2 := N2.out.cell
    have l2 := N2.out.lt
    by_cases hlt : k < o.n
    · obtain ⟨b, off, hkl, rfl, hbl, x0, x1, x2, x3, x4, x5, x6, x7⟩ := tx_at (HL.out.below B2.out) hlt
      have FD := Lib.hid (show o.L[k].id = id → q = k from fun h => by rw [← HQ.out, show idAt o.val.L id = some k from idAt_at hkl (fun j hj hjk => IN.out j hj hjk) h]; rfl)
      have NX := Lib.hid (show o.L[k].id ≠ id → ∀ j (hj : j < o.L.length), j < k + 1 → o.L[j].id ≠ id from fun h j hj hjk => by
        rcases Nat.lt_or_ge j k with h' | h'
        · exact IN.out j hj h'
        · obtain rfl : j = k := by omega
          exact h)
      generalize o.L[k] = x at *
      have q0 : (0 : Int) ≤ (k : Int) := by omega
      have q1 : (k : Int) < (o.n : Int) := by omega
      clear x1 x2 x3 x4 x5 x6 x7
      by_cases e : x.id = id
      · have R := Lib.hid (FD.out e)
        have d2 : (x.id.toList == id.toList) = true := by rw [e]; simp
        have d3 : decide (x.id.toList = id.toList) = true := decide_eq_true (by rw [e])
        clear e
        go_wp2_with fail
        go_ret
        exact ⟨ret_int R.out.symm, B2.out⟩
      · have OK := Lib.hid (NX.out e)
        obtain ⟨d1, d2, d3⟩ := str_nes e
        clear e
        go_wp2_with fail
        go_roundg (o.n - (k + 1))
        case measure => omega
        case rel => exact ⟨k + 1, by omega, by omega, by go_num, N2, B2, OK⟩
    · obtain rfl : o.n = k := by omega
      have R := Lib.hid (show q = -1 from by rw [← HQ.out, show idAt o.val.L id = none from idAt_no (fun j hj => IN.out j hj (by rw [← HL.out.len]; exact hj))]; rfl)
      go_wp2_with fail
      go_ret
      exact ⟨ret_int R.out.symm, B2.out⟩

end Go.Proofs.Ytnigjchgpmladaa

namespace Go.Proofs.Ytnigjchgpmladaa
open Go.RowKit

theorem sl_zeroA {α : Type} {K : RK α} {w : World} {a : Addr} {c : Nat} {l : List α} (hc : c ≤ maxLen) (hl : l = []) : Sl K w (some a) 0 c l := by
  subst hl
  exact ⟨rfl, Nat.zero_le _, hc, fun e => (by cases e), Row.nil _ _, fun a ha => by simp at ha⟩
theorem sl_dropA {α : Type} {K : RK α} {w : World} {a : Addr} {n c : Nat} {l : List α} (h : Sl K w (some a) n c l) (m : Nat) (hm : m ≤ n) : Sl K w (some (if c = m then a else a.add (m * K.size))) (n - m) (c - m) (l.drop m) := by
  have hcap := h.cap
  have hmax := h.max
  rcases Nat.lt_or_ge m n with hlt | hge
  · obtain ⟨b, off, hl0, e, hbl, _⟩ := h.get (k := m) hlt
    injection e with e
    subst e
    rw [if_neg (by omega), Addr.add_lit]
    refine ⟨by rw [List.length_drop, h.len], by omega, by omega, fun e => (by cases e), fun hne => ?_, fun x hx => h.each x (List.mem_of_mem_drop hx)⟩
    obtain ⟨b', off', e, hlt', hc⟩ := h.row (fun e => by
      have h1 := h.flat_len
      rw [e] at h1
      have h2 := Nat.mul_pos (show 0 < n by omega) K.pos
      simp only [List.length_nil] at h1
      omega)
    injection e with e; injection e with e1 e2; subst e1; subst e2
    refine ⟨b, off + m * K.size, rfl, hlt', fun j hj => ?_⟩
    rw [Nat.add_assoc, hc (m * K.size + j) (by
      rw [flat_len K.cells K.size K.len, List.length_drop, Nat.sub_mul] at hj
      rw [flat_len K.cells K.size K.len]
      omega)]
    have := flat_drop K.cells K.size K.len l m
    rw [← List.getElem?_drop]
    exact congrArg (·[j]?) this
  · obtain rfl : m = n := by omega
    rw [Nat.sub_self]
    exact sl_zeroA (Nat.le_trans (Nat.sub_le _ _) hmax) (List.drop_eq_nil_of_le (by rw [h.len]; exact Nat.le_refl _))
theorem srch_of {α : Type} {c : α → α → Int} (hc : LawC c) {x : α} {l : List α} (hu : Up c l) {k : Nat} (hk : k ≤ l.length) (h1 : ∀ j (h : j < l.length), j < k → c l[j] x < 0) (h2 : ∀ h : k < l.length, ¬ c l[k] x < 0) (b : Bool)
    (hb : b = true ↔ ∃ h : k < l.length, ¬ c x l[k] < 0) : SrchG (fun y => c y x) l k b := by
  refine ⟨hk, h1, fun j h hj => ?_, hb.trans ⟨fun ⟨h, e⟩ => ⟨h, ?_⟩, fun ⟨h, e⟩ => ⟨h, ?_⟩⟩⟩
  · show 0 ≤ c l[j] x
    apply Int.not_lt.1
    intro hn
    rcases Nat.lt_or_ge k j with h' | h'
    · exact h2 (by omega) (hc.trans _ _ _ (up_at hu h h') hn)
    · obtain rfl : j = k := by omega
      exact h2 h hn
  · have := h2 h; have := hc.swap l[k] x; show c l[k] x = 0; omega
  · have e' : c l[k] x = 0 := e
    have := hc.swap l[k] x; omega

end Go.Proofs.Ytnigjchgpmladaa
