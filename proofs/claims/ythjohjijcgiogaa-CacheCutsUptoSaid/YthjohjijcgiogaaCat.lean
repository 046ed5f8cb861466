/- Bytes put together: Whole of the program (slices.Concat), and of the document. -/
import Derived.Test.YthjohjijcgiogaaRChunks
import Derived.Laws.OwnMore
import Derived.Lib.AppendZeros
namespace Go.Proofs.Ythjohjijcgiogaa
open Go.RowKit

/-- A call that hands back bytes; old memory is left alone. -/
def BRes (L : List UInt8) (w : World) (e : Ending) (w' : World) : Prop :=
  ∃ A n c, e = .returned (.slice A n c) ∧ Sl u8K w' A n c L ∧ Below w.heap.size w w'
/-- The bytes of the first k. -/
def firsts (l : List Bsl) (k : Nat) : List UInt8 := ((l.take k).map Bsl.bs).flatten
theorem firsts_succ {l : List Bsl} {k : Nat} (hk : k < l.length) : firsts l (k + 1) = firsts l k ++ l[k].bs := by
  unfold firsts
  rw [List.take_succ_eq_append_getElem hk, List.map_append, List.flatten_append]
  simp
theorem firsts_le (l : List Bsl) (k : Nat) : (firsts l k).length ≤ (l.map Bsl.bs).flatten.length := by
  have h : (l.map Bsl.bs).flatten = firsts l k ++ ((l.drop k).map Bsl.bs).flatten := by
    unfold firsts
    rw [← List.flatten_append, ← List.map_append, List.take_append_drop]
  rw [h, List.length_append]
  omega
theorem firsts_all {l : List Bsl} {n : Nat} (h : l.length = n) : firsts l n = (l.map Bsl.bs).flatten := by
  unfold firsts
  rw [List.take_of_length_le (by omega)]

/-- One more slice of bytes behind a row of the call's own. -/
theorem own_more {wr w5 : World} {B : Nat} {A : Option Addr} {n c m : Nat} {L M : List UInt8} {v' : Value} (h : Own u8K 5 wr B A n c L) (hM : M.length = m) (ho : w5.ownsRow B 5 1 v' (n + m) (L.flatMap u8K.cells ++ M.flatMap u8K.cells)) :
    ∃ A' c', v' = .slice A' (n + m) c' ∧ Own u8K 5 w5 B A' (n + m) c' (L ++ M) := by
  obtain ⟨A', c', rfl⟩ := owns_form ho
  exact ⟨A', c', rfl, by rw [List.length_append, h.1, hM], by rw [List.flatMap_append]; exact ho, fun _ _ => trivial⟩

set_option maxRecDepth 100000 in
set_option maxHeartbeats 4000000 in
/-- Whole, of the document. -/
theorem rwhole_any (A : Option Addr) (n c : Nat) (l : List Bsl) (w : World) (hl : Bsls w A n c l) (hT : (l.map Bsl.bs).flatten.length ≤ 1099511627776) :
    Calls Try.prog 30 #[.slice A n c] w (BRes (l.map Bsl.bs).flatten w) := by
  have HL := Lib.hid hl
  have hcap := hl.cap
  have hmax := hl.max
  have HT := Lib.hid hT
  obtain ⟨i0, hi, hz0, hz1, hz2⟩ := info_parts inf5
  have hi' := Lib.hid (And.intro hi (And.intro hz0 (And.intro hz1 hz2)))
  clear hl hT hi hz0 hz1 hz2
  go_enter Try.func30, Try.ntmps30
  go_wp2_with fail
  obtain ⟨hi, hz0, hz1, hz2⟩ := hi'.out
  go_loopg [3, 8] n (fun gg s3 s8 wr => ∃ (k : Nat) (A3 : Option Addr) (n3 c3 : Nat), k ≤ n ∧ n - k ≤ gg ∧ s3 = .slice A3 n3 c3 ∧ s8 = .int .i64 k ∧ Hid (Own u8K 5 wr w.heap.size A3 n3 c3 (firsts l k)) ∧ Hid (Below w.heap.size w wr))
  case atStart => exact ⟨0, none, 0, 0, Nat.zero_le _, by omega, rfl, rfl, ⟨rfl, World.ownsRow_nil _ _ _ _, fun _ _ => trivial⟩, Below.refl _ _⟩
  case round =>
    obtain ⟨k, A3, n3, c3, hk, hgg, rfl, rfl, O, hb⟩ := hrel
    by_cases hlt : k < n
    · obtain ⟨b, off, hkl, rfl, hbl, x0⟩ := Bsls.at_ (HL.out.below hb.out) hlt
      have XI := Lib.hid ((HL.out.below hb.out).each l[k] (List.getElem_mem hkl))
      have FS := Lib.hid (firsts_succ hkl)
      have FL := firsts_le l (k + 1)
      rw [FS.out, List.length_append, O.out.1] at FL
      have FL2 := Nat.le_trans FL HT.out
      clear FL
      obtain ⟨x, hx⟩ : ∃ x, l[k] = x := ⟨_, rfl⟩
      rw [hx] at x0 XI FS FL2
      clear hx hkl
      obtain ⟨xA, xn, xc, xb⟩ := x
      have hxl : xb.length = xn := XI.out.sl.len
      simp only at x0 FS FL2
      rw [hxl] at FL2
      have XS := Lib.hid (show Sl u8K wr xA xn xc xb from XI.out.sl)
      have HX := Lib.hid hxl
      clear hxl
      rcases xA with _ | ad
      · obtain ⟨rfl, rfl⟩ := XS.out.adr rfl
        have hap : ∀ ty, (Builtin.append_ #[34, 34] ty #[.slice A3 n3 c3, .slice none 0 0]).run Try.prog wr = .ok (.slice A3 n3 c3) wr := fun ty => run_append_owned_none wr w.heap.size 34 ty 5 i0 1 Try.underlying34 hi _ n3 _ O.out.2.1
        have e0 : xb = [] := List.length_eq_zero_iff.1 HX.out
        subst e0
        go_wp2_with (at_builtin; refine Lib.wpList_append_run _ rfl _ _ 34 34 rfl _ _ rfl rfl _ _ (hap _) ?_)
        go_roundg (n - (k + 1))
        case measure => omega
        case rel => exact ⟨k + 1, A3, n3, c3, by omega, by omega, rfl, by go_num, Lib.hid (by rw [FS.out, List.append_nil]; exact O.out), hb⟩
      · have q2 := Lib.hid XS.out.news
        have q1 := Lib.hid XS.out.flat_len
        have q3 := Lib.hid (RK.flat_one u8K xb)
        have q4 : n3 + xn ≤ maxLen := by unfold maxLen; omega
        have q5 : (n3 + xn) * 1 ≤ 140737488355328 := by omega
        go_wp2_with (at_builtin; refine wpList_append_own _ rfl _ _ 34 rfl w.heap.size 5 i0 _ 1 1 Try.underlying34 hi hz0 hz1 hz2 rfl (by decide) _ _ _ rfl O.out.2.1 ad xn xc (xb.flatMap u8K.cells) rfl q1.out q2.out q3.out q4 q5 hb.out.size ?_)
        intro v' w5 hown hgrow _
        have B5 := Lib.hid (hb.out.trans (owns_below O.out.2.1 hgrow hb.out.size))
        obtain ⟨A6, c6, rfl, hO6⟩ := own_more O.out HX.out hown
        have O6 := Lib.hid hO6
        clear hown hgrow hO6
        go_wp2_with fail
        go_roundg (n - (k + 1))
        case measure => omega
        case rel => exact ⟨k + 1, A6, n3 + xn, c6, by omega, by omega, rfl, by go_num, Lib.hid (by rw [FS.out]; exact O6.out), B5⟩
    · obtain rfl : k = n := by omega
      go_wp2_with fail
      go_ret
      exact ⟨A3, n3, c3, rfl, by have := O.out.sl; rw [firsts_all HL.out.len] at this; exact this, hb.out⟩

set_option maxRecDepth 100000 in
set_option maxHeartbeats 4000000 in
/-- slices.Grow, of nil. -/
theorem grow_nil (T : Nat) (hT : T ≤ 1099511627776) (w : World) : Calls Try.prog 53 #[.slice none 0 0, .int .i64 T] w fun e w' => ∃ A c, e = .returned (.slice A 0 c) ∧ w'.ownsRow w.heap.size 5 1 (.slice A 0 c) 0 [] ∧ Below w.heap.size w w' := by
  obtain ⟨i0, hi, hz0, hz1, hz2⟩ := info_parts inf5
  rcases Nat.eq_zero_or_pos T with h0 | h0
  · subst h0
    go_enter Try.func53, Try.ntmps53
    go_wp2_with fail
    go_ret
    exact ⟨none, 0, rfl, World.ownsRow_nil _ _ _ _, Below.refl _ _⟩
  · have hrz : ∀ ty, (Builtin.append_ #[34, 3] ty #[.slice none 0 0, .int .i64 T]).run Try.prog w = .ok (.slice (some ⟨w.heap.size, 0, none⟩) T (grownCap w T 0 5)) (w.drew.alloc (.cells (Builtin.zeroCells (Value.cells (.int .u8 0)) T ++ Builtin.zeroCells (Value.cells (.int .u8 0)) (grownCap w T 0 5 - T)) 5)) := fun ty =>
      Lib.run_append_nil_zeros w 34 3 ty 5 i0 _ .i64 .i64 Try.underlying34 Try.underlying3 hi hz0 T h0 (by omega) (by omega) (by rw [hz2]; omega)
    obtain ⟨G, hG⟩ : ∃ G, G = grownCap w T 0 5 := ⟨_, rfl⟩
    obtain ⟨ROW, hROW⟩ : ∃ ROW : Array Value, ROW = Builtin.zeroCells (Value.cells (.int .u8 0)) T ++ Builtin.zeroCells (Value.cells (.int .u8 0)) (G - T) := ⟨_, rfl⟩
    rw [← hG, ← hROW] at hrz
    have hGn : T ≤ G := by rw [hG]; exact grownCap_ge w _ _ _
    have hG63 : G ≤ maxLen := by rw [hG]; exact grownCap_le_maxLen w T 0 5 (by unfold maxLen; omega)
    have hG64 : G ≤ 9223372036854775807 := by simpa [maxLen] using hG63
    have hRl : ROW.size = G * 1 := by
      rw [hROW, Array.size_append, size_zeroCells, size_zeroCells]
      show T * 1 + (G - T) * 1 = _
      omega
    have HR := Lib.hid hRl
    have HG := Lib.hid hG63
    have pos : decide ((0 : Int) < (T : Int)) = true := decide_eq_true (by omega)
    have pos2 : ((0 : Int) < (T : Int)) = True := eq_true (by omega)
    have wT : IntKind.i64.wrap (T : Int) = T := IntWalk.i64_in _ (by omega)
    have hT0 : ¬ T = 0 := by omega
    clear hRl hROW hG hG63
    go_enter Try.func53, Try.ntmps53
    go_wp2_with (at_builtin; refine Lib.wpList_append_run _ rfl _ _ 34 3 rfl _ _ rfl rfl _ _ (hrz _) ?_)
    go_ret
    refine ⟨some ⟨w.heap.size, 0, none⟩, G, rfl, owns_mk (Nat.le_refl _) (heap_alloc_new w.drew _) (Nat.zero_le _) HG.out HR.out (by simp), (Below.refl w.heap.size w).drew.alloc (Nat.le_refl _) _⟩

theorem firsts_len {w : World} {A : Option Addr} {n c : Nat} {l : List Bsl} (hl : Bsls w A n c l) {k : Nat} (hk : k < l.length) : (firsts l (k + 1)).length = (firsts l k).length + l[k].n := by
  rw [firsts_succ hk, List.length_append, (hl.each l[k] (List.getElem_mem hk)).sl.len]

set_option maxRecDepth 100000 in
set_option maxHeartbeats 4000000 in
/-- slices.Concat. -/
theorem concat_any (A : Option Addr) (n c : Nat) (l : List Bsl) (w : World) (hl : Bsls w A n c l) (hT : (l.map Bsl.bs).flatten.length ≤ 1099511627776) :
    Calls Try.prog 47 #[.slice A n c] w (BRes (l.map Bsl.bs).flatten w) := by
  have HL := Lib.hid hl
  have hcap := hl.cap
  have hmax := hl.max
  have HT := Lib.hid hT
  obtain ⟨i0, hi, hz0, hz1, hz2⟩ := info_parts inf5
  have hi' := Lib.hid (And.intro hi (And.intro hz0 (And.intro hz1 hz2)))
  clear hl hT hi hz0 hz1 hz2
  go_enter Try.func47, Try.ntmps47
  go_wp2_with fail
  go_loopg [3, 11] n (fun gg s3 s11 wr => ∃ k t : Nat, k ≤ n ∧ n - k ≤ gg ∧ t ≤ 1099511627776 ∧ s3 = .int .i64 t ∧ s11 = .int .i64 k ∧ Hid (t = (firsts l k).length) ∧ Hid (wr = w))
  case atStart => exact ⟨0, 0, Nat.zero_le _, by omega, by omega, rfl, rfl, rfl, rfl⟩
  case round =>
    obtain ⟨k, t, hk, hgg, ht2, rfl, rfl, ht, hw⟩ := hrel
    by_cases hlt : k < n
    · obtain ⟨b, off, hkl, rfl, hbl, x0⟩ := Bsls.at_ HL.out hlt
      rw [← hw.out] at x0
      have FL := Lib.hid (firsts_len HL.out hkl)
      have FB := Nat.le_trans (firsts_le l (k + 1)) HT.out
      rw [FL.out, ← ht.out] at FB
      obtain ⟨x, hx⟩ : ∃ x, l[k] = x := ⟨_, rfl⟩
      rw [hx] at x0 FL FB
      clear hx hkl
      obtain ⟨xA, xn, xc, xb⟩ := x
      simp only at x0 FL FB
      have wa : IntKind.i64.wrap ((t : Int) + (xn : Int)) = ((t + xn : Nat) : Int) := by rw [show ((t : Int) + (xn : Int)) = ((t + xn : Nat) : Int) by omega]; exact IntWalk.i64_in _ (by omega)
      have d1 : decide (((t + xn : Nat) : Int) < 0) = false := decide_eq_false (by omega)
      have d2 : (((t + xn : Nat) : Int) < 0) = False := eq_false (by omega)
      go_wp2_with fail
      go_roundg (n - (k + 1))
      case measure => omega
      case rel => exact ⟨k + 1, t + xn, by omega, by omega, by omega, by go_num, by go_num, Lib.hid (by rw [FL.out, ← ht.out]), hw⟩
    · have hkn : n = k := by omega
      subst hkn
      have hTl : t = (l.map Bsl.bs).flatten.length := by rw [ht.out, firsts_all HL.out.len]
      have HTl := Lib.hid hTl
      clear hTl
      have hww := hw.out.symm
      subst hww
      go_wp2_with fail
      refine (grow_nil t ht2 _).mono ?_
      intro e w2 hx
      obtain ⟨A2, c2, rfl, hO, hb2⟩ := hx
      have O2 := Lib.hid (show Own u8K 5 w2 w.heap.size A2 0 c2 (firsts l 0) from ⟨rfl, hO, fun _ _ => trivial⟩)
      have B2 := Lib.hid hb2
      clear hO hb2
      go_wp2_with fail
      obtain ⟨hi, hz0, hz1, hz2⟩ := hi'.out
      go_loopg [6, 27] n (fun gg s6 s27 wr => ∃ (k : Nat) (A3 : Option Addr) (n3 c3 : Nat), k ≤ n ∧ n - k ≤ gg ∧ s6 = .slice A3 n3 c3 ∧ s27 = .int .i64 k ∧ Hid (Own u8K 5 wr w.heap.size A3 n3 c3 (firsts l k)) ∧ Hid (Below w.heap.size w wr))
      case atStart => exact ⟨0, A2, 0, c2, Nat.zero_le _, by omega, rfl, rfl, O2, B2⟩
      case round =>
        obtain ⟨k, A3, n3, c3, hk, hgg, rfl, rfl, O, hb⟩ := hrel
        by_cases hlt : k < n
        · obtain ⟨b, off, hkl, rfl, hbl, x0⟩ := Bsls.at_ (HL.out.below hb.out) hlt
          have XI := Lib.hid ((HL.out.below hb.out).each l[k] (List.getElem_mem hkl))
          have FS := Lib.hid (firsts_succ hkl)
          have FL := firsts_le l (k + 1)
          rw [FS.out, List.length_append, O.out.1] at FL
          have FL2 := Nat.le_trans FL HT.out
          clear FL
          obtain ⟨x, hx⟩ : ∃ x, l[k] = x := ⟨_, rfl⟩
          rw [hx] at x0 XI FS FL2
          clear hx hkl
          obtain ⟨xA, xn, xc, xb⟩ := x
          have hxl : xb.length = xn := XI.out.sl.len
          simp only at x0 FS FL2
          rw [hxl] at FL2
          have XS := Lib.hid (show Sl u8K wr xA xn xc xb from XI.out.sl)
          have HX := Lib.hid hxl
          clear hxl
          rcases xA with _ | ad
          · obtain ⟨rfl, rfl⟩ := XS.out.adr rfl
            have hap : ∀ ty, (Builtin.append_ #[34, 34] ty #[.slice A3 n3 c3, .slice none 0 0]).run Try.prog wr = .ok (.slice A3 n3 c3) wr := fun ty => run_append_owned_none wr w.heap.size 34 ty 5 i0 1 Try.underlying34 hi _ n3 _ O.out.2.1
            have e0 : xb = [] := List.length_eq_zero_iff.1 HX.out
            subst e0
            go_wp2_with (at_builtin; refine Lib.wpList_append_run _ rfl _ _ 34 34 rfl _ _ rfl rfl _ _ (hap _) ?_)
            go_roundg (n - (k + 1))
            case measure => omega
            case rel => exact ⟨k + 1, A3, n3, c3, by omega, by omega, rfl, by go_num, Lib.hid (by rw [FS.out, List.append_nil]; exact O.out), hb⟩
          · have q2 := Lib.hid XS.out.news
            have q1 := Lib.hid XS.out.flat_len
            have q3 := Lib.hid (RK.flat_one u8K xb)
            have q4 : n3 + xn ≤ maxLen := by unfold maxLen; omega
            have q5 : (n3 + xn) * 1 ≤ 140737488355328 := by omega
            go_wp2_with (at_builtin; refine wpList_append_own _ rfl _ _ 34 rfl w.heap.size 5 i0 _ 1 1 Try.underlying34 hi hz0 hz1 hz2 rfl (by decide) _ _ _ rfl O.out.2.1 ad xn xc (xb.flatMap u8K.cells) rfl q1.out q2.out q3.out q4 q5 hb.out.size ?_)
            intro v' w5 hown hgrow _
            have B5 := Lib.hid (hb.out.trans (owns_below O.out.2.1 hgrow hb.out.size))
            obtain ⟨A6, c6, rfl, hO6⟩ := own_more O.out HX.out hown
            have O6 := Lib.hid hO6
            clear hown hgrow hO6
            go_wp2_with fail
            go_roundg (n - (k + 1))
            case measure => omega
            case rel => exact ⟨k + 1, A6, n3 + xn, c6, by omega, by omega, rfl, by go_num, Lib.hid (by rw [FS.out]; exact O6.out), B5⟩
        · obtain rfl : k = n := by omega
          go_wp2_with fail
          go_ret
          exact ⟨A3, n3, c3, rfl, by have := O.out.sl; rw [firsts_all HL.out.len] at this; exact this, hb.out⟩

set_option maxRecDepth 100000 in
set_option maxHeartbeats 1000000 in
/-- Whole, of the program. -/
theorem whole_any (A : Option Addr) (n c : Nat) (l : List Bsl) (w : World) (hl : Bsls w A n c l) (hT : (l.map Bsl.bs).flatten.length ≤ 1099511627776) :
    Calls Try.prog 29 #[.slice A n c] w (BRes (l.map Bsl.bs).flatten w) := by
  have CC := Lib.hid (concat_any A n c l w hl hT)
  clear hl hT
  go_enter Try.func29, Try.ntmps29
  go_wp2_with fail
  refine CC.out.mono ?_
  intro e w2 hx
  obtain ⟨A2, n2, c2, rfl, h1, h2⟩ := hx
  have H1 := Lib.hid h1
  have H2 := Lib.hid h2
  clear h1 h2
  go_wp2_with fail
  go_ret
  exact ⟨A2, n2, c2, rfl, H1.out, H2.out⟩

/-- Chunks, of the program and of the document. -/
def cutC (bs : List UInt8) (size : Int) : List (List UInt8) := if size < 1 then [] else parts bs size.toNat
theorem rchunks_any (A : Option Addr) (n c : Nat) (bs : List UInt8) (size : Int) (w : World) (hs : Sl u8K w A n c bs) (hn : n ≤ 60000) (hz : (Lit.int .i64 size).wf = true) : Calls Try.prog 28 #[.slice A n c, .int .i64 size] w (PRes (cutC bs size) w) := by
  unfold cutC
  by_cases h : size < 1
  · rw [if_pos h]; exact rchunks_none A n c size w h
  · rw [if_neg h]
    obtain ⟨m, rfl⟩ : ∃ m : Nat, size = (m : Int) := ⟨size.toNat, by omega⟩
    rw [Int.toNat_natCast]
    refine rchunks_in A n c m bs w hs hn (by omega) ?_
    simp [Lit.wf, IntKind.min, IntKind.max, IntKind.bits, IntKind.signed] at hz
    omega
set_option maxRecDepth 100000 in
set_option maxHeartbeats 1000000 in
theorem chunks_none (A : Option Addr) (n c : Nat) (size : Int) (w : World) (hz : size < 1) : Calls Try.prog 27 #[.slice A n c, .int .i64 size] w (PRes [] w) := by
  refine (callsIn_wide (n := 8)).1 ?_
  refine callsIn_of_wp_marks Try.func27 rfl trivial ?_ rfl
  have d : decide (size < 1) = true := decide_eq_true hz
  simp only [Try.ntmps27, List.size_toArray, List.length_cons, List.length_nil, Nat.reduceAdd, Nat.reduceSub, Array.replicate_succ, Array.replicate_zero, List.push_toArray, List.append_toArray, List.nil_append, List.cons_append]
  gi_wp2
  exact ⟨_, results_tmp rfl _ _ _, none, 0, 0, [], rfl, Sl.nil _ _, rfl, Below.refl _ _⟩
theorem chunks_any (A : Option Addr) (n c : Nat) (bs : List UInt8) (size : Int) (w : World) (hs : Sl u8K w A n c bs) (hn : n ≤ 60000) (hz : (Lit.int .i64 size).wf = true) : Calls Try.prog 27 #[.slice A n c, .int .i64 size] w (PRes (cutC bs size) w) := by
  unfold cutC
  by_cases h : size < 1
  · rw [if_pos h]; exact chunks_none A n c size w h
  · rw [if_neg h]
    obtain ⟨m, rfl⟩ : ∃ m : Nat, size = (m : Int) := ⟨size.toNat, by omega⟩
    rw [Int.toNat_natCast]
    refine chunks_in A n c m bs w hs hn (by omega) ?_
    simp [Lit.wf, IntKind.min, IntKind.max, IntKind.bits, IntKind.signed] at hz
    omega

end Go.Proofs.Ythjohjijcgiogaa
