/- Chunks, of the document. -/
import Derived.Test.YthjohjijcgiogaaChunks
import Derived.Test.YthjohjijcgiogaaInp
namespace Go.Proofs.Ythjohjijcgiogaa
open Go.RowKit

/-- What holds between two rounds: a row of the call's own, of slices of bytes that lie beside it. -/
structure RP (w0 wr : World) (A : Option Addr) (n c : Nat) (l : List Bsl) : Prop where
  PL : l.length = n
  PO : wr.ownsRow w0.heap.size 34 1 (.slice A n c) n (l.flatMap Bsl.cells)
  PI : ∀ x ∈ l, Bsl.In wr x
  AP : ∀ q off, A = some ⟨q, off, none⟩ → ∀ x ∈ l, x.n ≠ 0 → ∀ b o, x.A = some ⟨b, o, none⟩ → b ≠ q
  HB : Below w0.heap.size w0 wr
section
variable {w0 wr wr' : World} {A : Option Addr} {n c : Nat} {l : List Bsl}
theorem RP.own (h : RP w0 wr A n c l) : Own bslK 34 wr w0.heap.size A n c l := ⟨h.PL, h.PO, h.PI⟩
theorem RP.past (h : RP w0 wr A n c l) (hb : Below wr.heap.size wr wr') : RP w0 wr' A n c l := ⟨h.PL, (h.own.kept hb).2.1, (h.own.kept hb).2.2, h.AP, below_from hb h.HB h.HB.size⟩
theorem RP.more {w5 : World} {v' : Value} {x : Bsl} {m : Nat} (hm : wr.heap.size ≤ m) (h : RP w0 wr A n c l) (hx : Bsl.In wr x) (hxa : ∀ q off, A = some ⟨q, off, none⟩ → x.n ≠ 0 → ∀ b o, x.A = some ⟨b, o, none⟩ → b ≠ q)
    (ho : w5.ownsRow w0.heap.size 34 1 v' (n + 1) (l.flatMap Bsl.cells ++ x.cells)) (hg : wr.grownBy w5 (Value.slice A n c).ownBlock) (hat : v'.ownBlock = (Value.slice A n c).ownBlock ∨ v'.ownBlock = some m) :
    ∃ A' c', v' = .slice A' (n + 1) c' ∧ RP w0 w5 A' (n + 1) c' (l ++ [x]) := by
  obtain ⟨A', c', rfl⟩ := owns_form ho
  have hall : ∀ y ∈ l ++ [x], Bsl.In wr y := fun y hy => by
    rcases List.mem_append.1 hy with hy | hy
    · exact h.PI y hy
    · rw [List.mem_singleton.1 hy]; exact hx
  have hfar : ∀ q, (Value.slice A n c).ownBlock = some q → ∀ y ∈ l ++ [x], y.n ≠ 0 → ∀ b o, y.A = some ⟨b, o, none⟩ → b ≠ q := fun q hq => by
    cases A with
    | none => cases hq
    | some a =>
      obtain ⟨b, off, spot⟩ := a
      injection hq with hq
      have hq' : b = q := hq
      subst hq'
      rcases h.PO.2 with ⟨e, _⟩ | ⟨g', cap', cur', e, _⟩
      · cases e
      · injection e with e _ _
        injection e with e
        injection e with e1 e2 e3
        subst e3
        intro y hy
        rcases List.mem_append.1 hy with hy | hy
        · exact h.AP b off rfl y hy
        · rw [List.mem_singleton.1 hy]; exact hxa b off rfl
  refine ⟨A', c', rfl, by rw [List.length_append, h.PL]; rfl, by rw [List.flatMap_append]; simpa using ho, fun y hy => ⟨(hall y hy).sl.over fun h0 b off e hb => ?_, (hall y hy).max⟩, fun q off e y hy h0 b o e2 => ?_, h.HB.grown hg h.HB.size (fun q hq => (h.PO.lt q hq).1)⟩
  · cases hv : (Value.slice A n c).ownBlock with
    | none => rw [hv] at hg; exact ⟨Nat.lt_of_lt_of_le hb hg.size, fun i => hg.cell_far ⟨b, i, none⟩ hb (by simp)⟩
    | some q =>
      have := hfar q hv y hy h0 b off e
      rw [hv] at hg
      exact ⟨Nat.lt_of_lt_of_le hb hg.size, fun i => hg.cell_far ⟨b, i, none⟩ hb (by simpa using this)⟩
  · subst e
    rcases hat with e | e
    · exact hfar q e.symm y hy h0 b o e2
    · injection e with e
      have e' : q = m := e
      have := (hall y hy).sl.inside h0 b o e2
      omega
end

theorem part_eq {bs : List UInt8} {m k : Nat} : (bs.drop (k * m)).take m = (bs.drop (k * m)).take (partN bs.length m k) := by
  unfold partN
  rw [← List.length_drop, Nat.min_def]
  split
  · rfl
  · rw [List.take_of_length_le (Nat.le_refl _), List.take_of_length_le (by omega)]

set_option maxRecDepth 100000 in
set_option maxHeartbeats 2000000 in
theorem rchunks_none (A : Option Addr) (n c : Nat) (size : Int) (w : World) (hz : size < 1) : Calls Try.prog 28 #[.slice A n c, .int .i64 size] w (PRes [] w) := by
  have d : decide (1 ≤ size) = false := decide_eq_false (by omega)
  have d2 : (1 ≤ size) = False := eq_false (by omega)
  have d3 : decide (size ≥ 1) = false := decide_eq_false (by omega)
  clear hz
  go_enter Try.func28, Try.ntmps28
  go_wp2_with fail
  go_loopg [5, 6] 1 (fun gg s5 s6 wr => s5 = .slice none 0 0 ∧ s6 = .int .i64 0 ∧ wr = w)
  case atStart => exact ⟨rfl, rfl, rfl⟩
  case round =>
    obtain ⟨rfl, rfl, rfl⟩ := hrel
    go_wp2_with fail
    go_ret
    exact ⟨none, 0, 0, [], rfl, Sl.nil _ _, rfl, Below.refl _ _⟩

set_option maxRecDepth 100000 in
set_option maxHeartbeats 4000000 in
theorem rchunks_in (A : Option Addr) (n c m : Nat) (bs : List UInt8) (w : World) (hs : Sl u8K w A n c bs) (hn : n ≤ 60000) (hm : 1 ≤ m) (hm2 : (m : Int) ≤ 9223372036854775807) :
    Calls Try.prog 28 #[.slice A n c, .int .i64 m] w (PRes (parts bs m) w) := by
  have d : decide (1 ≤ (m : Int)) = true := decide_eq_true (by omega)
  have d2 : (1 ≤ (m : Int)) = True := eq_true (by omega)
  have SS := Lib.hid hs
  have hlen := hs.len
  have hcap := hs.cap
  have hmax := hs.max
  have hcnt := cnt_le (len := n) hm
  have HM := Lib.hid hm
  have HLEN := Lib.hid hlen
  obtain ⟨i0, hi, hz0, hz1, hz2⟩ := info_parts inf34
  have hi' := Lib.hid (And.intro hi (And.intro hz0 (And.intro hz1 hz2)))
  clear hs hi hz0 hz1 hz2 hlen
  go_enter Try.func28, Try.ntmps28
  go_wp2_with fail
  obtain ⟨hi, hz0, hz1, hz2⟩ := hi'.out
  go_loopg [5, 6] (cnt n m) (fun gg s5 s6 wr => ∃ (k t : Nat) (A5 : Option Addr) (c5 : Nat) (l5 : List Bsl), k ≤ cnt n m ∧ cnt n m - k ≤ gg ∧ t ≤ n ∧ Hid (t = min (k * m) n) ∧ s5 = .slice A5 k c5 ∧ s6 = .int .i64 t ∧ Hid (RP w wr A5 k c5 l5) ∧ Hid (l5.map Bsl.bs = (parts bs m).take k))
  case atStart => exact ⟨0, 0, none, 0, [], Nat.zero_le _, by omega, Nat.zero_le _, Lib.hid (by simp), rfl, rfl, ⟨rfl, World.ownsRow_nil _ _ _ _, by simp, (fun _ _ e => by cases e), Below.refl _ _⟩, rfl⟩
  case round =>
    obtain ⟨k, t, A5, c5, l5, hk, hgg, htn, ht, rfl, rfl, F, HV⟩ := hrel
    by_cases hlt : t < n
    · have hkm : Hid (t = k * m) := Lib.hid (by have := ht.out; revert this; generalize k * m = z; intro this; omega)
      have hkc : k < cnt n m := by rw [cnt_lt hm, ← hkm.out]; exact hlt
      obtain ⟨e, he⟩ : ∃ e, e = partN n m k := ⟨_, rfl⟩
      have he1 : e = min m (n - t) := by rw [he, hkm.out]; rfl
      have e0 : 0 < e := by omega
      have e0' : ¬ e = 0 := by omega
      have we : IntKind.i64.wrap ((n : Int) - (t : Int)) = ((n - t : Nat) : Int) := by rw [show ((n : Int) - (t : Int)) = ((n - t : Nat) : Int) by omega]; exact IntWalk.i64_in _ (by omega)
      have hmin : min (m : Int) ((n - t : Nat) : Int) = (e : Int) := by omega
      have wa : IntKind.i64.wrap ((t : Int) + (e : Int)) = ((t + e : Nat) : Int) := by rw [show ((t : Int) + (e : Int)) = ((t + e : Nat) : Int) by omega]; exact IntWalk.i64_in _ (by omega)
      have c0 : ¬ c - t = 0 := by omega
      have c1 : t ≤ c := by omega
      have c3 : t + e ≤ c := by omega
      have c4 : t ≤ t + e := by omega
      have HE := Lib.hid he
      obtain ⟨b, off, _, rfl, _, _⟩ := SS.out.get (k := t) hlt
      have SP := Lib.hid (show Sl u8K wr (some ⟨b, off + t, none⟩) e (c - t) ((bs.drop t).take e) from (SS.out.below F.out.HB).part (by omega) (by omega) (by omega) e0)
      clear he he1
      go_wp2_with fail
      refine (copyBs _ _ _ _ _ SP.out (by omega)).mono ?_
      intro x w2 hx
      obtain ⟨A9, c9, rfl, hO9, hb9⟩ := hx
      have F2 := Lib.hid (F.out.past hb9)
      have X2 := Lib.hid (show Bsl.In w2 ⟨A9, e, c9, (bs.drop t).take e⟩ from ⟨hO9.sl, by show e ≤ _; omega⟩)
      have XA := Lib.hid (show ∀ q off', A5 = some ⟨q, off', none⟩ → e ≠ 0 → ∀ b' o, A9 = some ⟨b', o, none⟩ → b' ≠ q from fun q off' h1 _ b' o h2 => by
        have h3 := (hO9.lt h2).1
        subst h1
        have h4 := (F.out.PO.lt q rfl).2
        omega)
      have z9 := hb9.size
      clear hO9 hb9
      have F3 := Lib.hid (F2.out.past (below_alloc1 w2 (.cells #[.slice A9 e c9] 34)))
      have X3 := Lib.hid (bslK.below X2.out (below_alloc1 w2 (.cells #[.slice A9 e c9] 34)))
      have XZ := Lib.hid (Has.newAt w2 #[.slice A9 e c9] 34 (g := w2.heap.size) rfl)
      have q2 := Lib.hid (Has.news (cs := [.slice A9 e c9]) XZ.out)
      have q3 := Lib.hid (bslK.one ⟨A9, e, c9, (bs.drop t).take e⟩)
      have q4 : k + 1 ≤ maxLen := by unfold maxLen; omega
      have q5 : (k + 1) * 24 ≤ 140737488355328 := by omega
      have q6 := Lib.hid F3.out.HB.size
      go_wp2_with (at_builtin; refine wpList_append_own_at _ rfl _ _ 48 rfl w.heap.size 34 i0 _ 1 24 Try.underlying48 hi hz0 hz1 hz2 rfl (by decide) _ _ _ rfl F3.out.PO ⟨w2.heap.size, 0, none⟩ 1 1 [.slice A9 e c9] rfl rfl q2.out q3.out q4 q5 q6.out ?_)
      intro v' V hown hgrow _ hat
      obtain ⟨A6, c6, rfl, hFV⟩ := RP.more (x := ⟨A9, e, c9, (bs.drop t).take e⟩) (by simp) F3.out X3.out XA.out hown hgrow hat
      have FV := Lib.hid hFV
      clear hown hgrow hat hFV
      go_wp2_with fail
      go_roundg (cnt n m - (k + 1))
      case measure => omega
      case rel =>
        refine ⟨k + 1, t + e, A6, c6, l5 ++ [⟨A9, e, c9, (bs.drop t).take e⟩], hkc, by omega, by omega, Lib.hid ?_, rfl, by go_num, FV, Lib.hid ?_⟩
        · have h1 := hkm.out
          have h2 := HE.out
          unfold partN at h2
          rw [← h1] at h2
          rw [Nat.succ_mul, ← h1]
          omega
        · have hp := parts_at (bs := bs) (m := m) (k := k) (by rw [HLEN.out]; exact hkc)
          rw [List.map_append, HV.out, List.take_add_one, hp, part_eq, HLEN.out, ← hkm.out, ← HE.out]
          rfl
    · have hkc : k = cnt n m := by
        have : ¬ k < cnt n m := by
          rw [cnt_lt HM.out]
          have := ht.out
          revert this
          generalize k * m = z
          intro this
          omega
        omega
      go_wp2_with fail
      go_ret
      exact ⟨A5, k, c5, l5, rfl, F.out.own.sl, by rw [HV.out, List.take_of_length_le (by rw [parts_len, HLEN.out]; omega)], F.out.HB⟩

end Go.Proofs.Ythjohjijcgiogaa
