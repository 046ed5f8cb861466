/- Numbers that are beyond; partitions and names compared; a number in its range. -/
import Derived.Test.YtnigjchgpmladaaName
namespace Go.Proofs.Ytnigjchgpmladaa
open Go.RowKit Go.Shelf

/-- A number, whatever it is. -/
def numK : RK Int := ⟨1, by decide, fun x => [.int .i64 x], fun _ => rfl, fun _ v h => by simp at h; subst h; rfl, fun _ _ => True, fun _ _ => trivial⟩
theorem flat_num (l : List Int) : l.flatMap numK.cells = l.map (Value.int .i64) := by
  induction l with
  | nil => rfl
  | cons a l ih => rw [List.flatMap_cons, ih]; rfl
theorem num_row {w : World} {g n : Nat} {l : List Int} (h : Has w g (l.map (Value.int .i64)).toArray) (hn : l.length = n) (hm : n ≤ 9223372036854775807) : Sl numK w (some ⟨g, 0, none⟩) n n l :=
  ⟨hn, Nat.le_refl _, hm, fun e => (by cases e), by rw [flat_num]; simpa using Row.of_has h, fun _ _ => trivial⟩

set_option maxHeartbeats 1000000 in
/-- slices.Min (func 76). -/
theorem min_any (A : Option Addr) (n c : Nat) (l : List Int) (w : World) (hl : Sl numK w A n c l) (hn : 0 < n) : Calls Try.prog 76 #[.slice A n c] w fun e w' => ∃ r : Int, e = .returned (.int .i64 r) ∧ (∀ k : Int, r < k ↔ ∃ x ∈ l, x < k) ∧ w = w' := by
  have hmax := hl.max
  have hcap := hl.cap
  have HL := Lib.hid hl
  have HN := Lib.hid hl.len
  obtain ⟨b0, off0, hk0, rfl, hb0, hc0⟩ := hl.get hn
  obtain ⟨y, hy⟩ : ∃ y, l[0]'hk0 = y := ⟨_, rfl⟩
  have x00 : w.cell? ⟨b0, off0, none⟩ = some (.int .i64 y) := by rw [← hy]; have := hc0 0 (by decide); simpa [numK] using this
  have d0 : decide ((n : Int) < 1) = false := decide_eq_false (by omega)
  have d00 : decide (n < 1) = false := decide_eq_false (by omega)
  have d01 : (n = 0) = False := eq_false (by omega)
  have H0 := Lib.hid hk0
  have HY := Lib.hid hy
  clear hc0 hl hy
  go_enter Try.func76, Try.ntmps76
  go_wp2_with fail
  go_loopg [3, 4] n (fun gg s3 s4 wr => ∃ (r : Int) (i : Nat), s3 = .int .i64 r ∧ s4 = .int .i64 i ∧ 1 ≤ i ∧ i ≤ n ∧ n - i ≤ gg ∧ wr = w ∧ Hid (∀ k : Int, r < k ↔ ∃ j, ∃ hj : j < l.length, j < i ∧ l[j] < k))
  case atStart =>
    refine ⟨y, 1, rfl, rfl, Nat.le_refl _, hn, by omega, rfl, Lib.hid (fun k => ⟨fun h => ⟨0, H0.out, Nat.one_pos, by rw [HY.out]; exact h⟩, fun h => ?_⟩)⟩
    obtain ⟨j, hj, hj1, h⟩ := h
    obtain rfl : j = 0 := by omega
    rw [HY.out] at h
    exact h
  case round =>
    obtain ⟨r, i, rfl, rfl, hi1, hin, hgg, rfl, I⟩ := hrel
    by_cases hlt : i < n
    · obtain ⟨b, off, hkl, hA, hbl, hc⟩ := HL.out.get hlt
      injection hA with hA
      injection hA with hA1 hA2 _
      subst hA1 hA2
      have x0 : wr.cell? ⟨b0, off0 + i, none⟩ = some (.int .i64 l[i]) := by have := hc 0 (by decide); simpa [numK] using this
      have NX := Lib.hid (show ∀ k : Int, (min r l[i]) < k ↔ ∃ j, ∃ hj : j < l.length, j < i + 1 ∧ l[j] < k from fun k => by
        constructor
        · intro h
          by_cases h2 : r < k
          · obtain ⟨j, hj, h3, h4⟩ := (I.out k).1 h2
            exact ⟨j, hj, by omega, h4⟩
          · exact ⟨i, hkl, by omega, by omega⟩
        · rintro ⟨j, hj, h3, h4⟩
          rcases Nat.lt_or_ge j i with h5 | h5
          · have := (I.out k).2 ⟨j, hj, h5, h4⟩
            omega
          · obtain rfl : j = i := by omega
            omega)
      generalize l[i] = x at *
      clear hc
      go_wp2_with fail
      go_roundg (n - (i + 1))
      case measure => omega
      case rel => exact ⟨_, i + 1, rfl, by go_num, by omega, by omega, by omega, rfl, NX⟩
    · obtain rfl : n = i := by omega
      have R := Lib.hid (show ∀ k : Int, r < k ↔ ∃ x ∈ l, x < k from fun k => by
        rw [I.out k]
        constructor
        · rintro ⟨j, hj, _, h⟩
          exact ⟨_, List.getElem_mem hj, h⟩
        · rintro ⟨x, hx, h⟩
          obtain ⟨j, hj, rfl⟩ := List.getElem_of_mem hx
          exact ⟨j, hj, by have := HN.out; omega, h⟩)
      go_wp2_with fail
      go_ret
      exact ⟨r, rfl, R.out, rfl⟩

set_option maxHeartbeats 1000000 in
/-- slices.Max (func 77). -/
theorem max_any (A : Option Addr) (n c : Nat) (l : List Int) (w : World) (hl : Sl numK w A n c l) (hn : 0 < n) : Calls Try.prog 77 #[.slice A n c] w fun e w' => ∃ r : Int, e = .returned (.int .i64 r) ∧ (∀ k : Int, k < r ↔ ∃ x ∈ l, k < x) ∧ w = w' := by
  have hmax := hl.max
  have hcap := hl.cap
  have HL := Lib.hid hl
  have HN := Lib.hid hl.len
  obtain ⟨b0, off0, hk0, rfl, hb0, hc0⟩ := hl.get hn
  obtain ⟨y, hy⟩ : ∃ y, l[0]'hk0 = y := ⟨_, rfl⟩
  have x00 : w.cell? ⟨b0, off0, none⟩ = some (.int .i64 y) := by rw [← hy]; have := hc0 0 (by decide); simpa [numK] using this
  have d0 : decide ((n : Int) < 1) = false := decide_eq_false (by omega)
  have d00 : decide (n < 1) = false := decide_eq_false (by omega)
  have d01 : (n = 0) = False := eq_false (by omega)
  have H0 := Lib.hid hk0
  have HY := Lib.hid hy
  clear hc0 hl hy
  go_enter Try.func77, Try.ntmps77
  go_wp2_with fail
  go_loopg [3, 4] n (fun gg s3 s4 wr => ∃ (r : Int) (i : Nat), s3 = .int .i64 r ∧ s4 = .int .i64 i ∧ 1 ≤ i ∧ i ≤ n ∧ n - i ≤ gg ∧ wr = w ∧ Hid (∀ k : Int, k < r ↔ ∃ j, ∃ hj : j < l.length, j < i ∧ k < l[j]))
  case atStart =>
    refine ⟨y, 1, rfl, rfl, Nat.le_refl _, hn, by omega, rfl, Lib.hid (fun k => ⟨fun h => ⟨0, H0.out, Nat.one_pos, by rw [HY.out]; exact h⟩, fun h => ?_⟩)⟩
    obtain ⟨j, hj, hj1, h⟩ := h
    obtain rfl : j = 0 := by omega
    rw [HY.out] at h
    exact h
  case round =>
    obtain ⟨r, i, rfl, rfl, hi1, hin, hgg, rfl, I⟩ := hrel
    by_cases hlt : i < n
    · obtain ⟨b, off, hkl, hA, hbl, hc⟩ := HL.out.get hlt
      injection hA with hA
      injection hA with hA1 hA2 _
      subst hA1 hA2
      have x0 : wr.cell? ⟨b0, off0 + i, none⟩ = some (.int .i64 l[i]) := by have := hc 0 (by decide); simpa [numK] using this
      have NX := Lib.hid (show ∀ k : Int, k < (max r l[i]) ↔ ∃ j, ∃ hj : j < l.length, j < i + 1 ∧ k < l[j] from fun k => by
        constructor
        · intro h
          by_cases h2 : k < r
          · obtain ⟨j, hj, h3, h4⟩ := (I.out k).1 h2
            exact ⟨j, hj, by omega, h4⟩
          · exact ⟨i, hkl, by omega, by omega⟩
        · rintro ⟨j, hj, h3, h4⟩
          rcases Nat.lt_or_ge j i with h5 | h5
          · have := (I.out k).2 ⟨j, hj, h5, h4⟩
            omega
          · obtain rfl : j = i := by omega
            omega)
      generalize l[i] = x at *
      clear hc
      go_wp2_with fail
      go_roundg (n - (i + 1))
      case measure => omega
      case rel => exact ⟨_, i + 1, rfl, by go_num, by omega, by omega, by omega, rfl, NX⟩
    · obtain rfl : n = i := by omega
      have R := Lib.hid (show ∀ k : Int, k < r ↔ ∃ x ∈ l, k < x from fun k => by
        rw [I.out k]
        constructor
        · rintro ⟨j, hj, _, h⟩
          exact ⟨_, List.getElem_mem hj, h⟩
        · rintro ⟨x, hx, h⟩
          obtain ⟨j, hj, rfl⟩ := List.getElem_of_mem hx
          exact ⟨j, hj, by have := HN.out; omega, h⟩)
      go_wp2_with fail
      go_ret
      exact ⟨r, rfl, R.out, rfl⟩

/-- Whether one of some numbers is below nought or above another one. -/
def anyOut (m : Int) (l : List Int) : Bool := l.any fun x => !inB x m
theorem beyond_any (m : Int) (A : Option Addr) (n c : Nat) (l : List Int) (w : World) (hl : Sl numK w A n c l) (hn : 0 < n) : Calls Try.prog 42 #[.int .i64 m, .slice A n c] w fun e w' => e = .returned (.bool (anyOut m l)) ∧ w = w' := by
  have MI := Lib.hid (min_any A n c l w hl hn)
  have MA := Lib.hid (max_any A n c l w hl hn)
  clear hl
  have KEY : anyOut m l = true ↔ (∃ x ∈ l, x < 0) ∨ ∃ x ∈ l, m < x := by
    unfold anyOut inB
    rw [List.any_eq_true]
    constructor
    · rintro ⟨x, hx, h⟩
      simp only [Bool.not_eq_true', Bool.and_eq_false_iff, decide_eq_false_iff_not] at h
      rcases h with h | h
      · exact .inl ⟨x, hx, by omega⟩
      · exact .inr ⟨x, hx, by omega⟩
    · rintro (⟨x, hx, h⟩ | ⟨x, hx, h⟩)
      · exact ⟨x, hx, by simp only [Bool.not_eq_true', Bool.and_eq_false_iff, decide_eq_false_iff_not]; left; omega⟩
      · exact ⟨x, hx, by simp only [Bool.not_eq_true', Bool.and_eq_false_iff, decide_eq_false_iff_not]; right; omega⟩
  have HK := Lib.hid KEY
  clear KEY
  obtain ⟨P0, hP0⟩ : ∃ P : Prop, P = ∃ x ∈ l, x < 0 := ⟨_, rfl⟩
  obtain ⟨P1, hP1⟩ : ∃ P : Prop, P = ∃ x ∈ l, m < x := ⟨_, rfl⟩
  rw [← hP0, ← hP1] at HK
  have Q0 := Lib.hid hP0
  have Q1 := Lib.hid hP1
  clear hP0 hP1
  by_cases h0 : P0
  · have R := Lib.hid (HK.out.2 (.inl h0))
    have H0 := Lib.hid h0
    clear h0
    go_enter Try.func42, Try.ntmps42
    go_wp2_with (go_at_call 76; refine MI.out.mono ?_; rintro e w' ⟨r, rfl, hr, rfl⟩; have d := decide_eq_true ((hr 0).2 (by rw [← Q0.out]; exact H0.out)); clear hr)
    go_ret
    exact ⟨ret_bool R.out.symm, rfl⟩
  · by_cases h1 : P1
    · have R := Lib.hid (HK.out.2 (.inr h1))
      have H0 := Lib.hid h0
      have H1 := Lib.hid h1
      clear h0 h1
      go_enter Try.func42, Try.ntmps42
      go_wp2_with (first | (go_at_call 76; refine MI.out.mono ?_; rintro e w' ⟨r, rfl, hr, rfl⟩; have d := decide_eq_false (fun h => H0.out (by rw [Q0.out]; exact (hr 0).1 h)); clear hr) | (go_at_call 77; refine MA.out.mono ?_; rintro e w' ⟨s, rfl, hr, rfl⟩; have d2 := decide_eq_true ((hr m).2 (by rw [← Q1.out]; exact H1.out)); clear hr))
      go_ret
      exact ⟨ret_bool (by rw [R.out]), rfl⟩
    · have R := Lib.hid (show anyOut m l = false from by
        cases e : anyOut m l with
        | false => rfl
        | true => rcases HK.out.1 e with h | h; exact absurd h h0; exact absurd h h1)
      have H0 := Lib.hid h0
      have H1 := Lib.hid h1
      clear h0 h1
      go_enter Try.func42, Try.ntmps42
      go_wp2_with (first | (go_at_call 76; refine MI.out.mono ?_; rintro e w' ⟨r, rfl, hr, rfl⟩; have d := decide_eq_false (fun h => H0.out (by rw [Q0.out]; exact (hr 0).1 h)); clear hr) | (go_at_call 77; refine MA.out.mono ?_; rintro e w' ⟨s, rfl, hr, rfl⟩; have d2 := decide_eq_false (fun h => H1.out (by rw [Q1.out]; exact (hr m).1 h)); clear hr))
      go_ret
      exact ⟨ret_bool (by rw [R.out]), rfl⟩

end Go.Proofs.Ytnigjchgpmladaa
