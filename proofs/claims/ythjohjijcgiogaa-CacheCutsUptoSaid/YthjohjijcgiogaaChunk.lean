/- Chunks, of the program: a range over the library's iterator. -/
import Derived.RangeFuncBox
import Derived.RangeFuncLeaves
import Derived.Shelf.Abstract
import Derived.WalkKit
import Derived.OwnWalkIn
import Derived.TacticsInMore
import Derived.LoopNIn
import Derived.LoopIn
import Derived.Maps.AppendAt
import Derived.Lib.QuietBelowIn
import Derived.Test.YthjohjijcgiogaaChP
import Derived.Test.YthjohjijcgiogaaInp
namespace Go.Proofs.Ythjohjijcgiogaa
open Go.RowKit Go.Shelf

attribute [local go_sem] Oper.semAt_some

/-- The two boxes of the iterator lie as they lay. -/
def KB (p q : Nat) (A B : World) : Prop := (∀ i, B.cell? ⟨p, i, none⟩ = A.cell? ⟨p, i, none⟩) ∧ ∀ i, B.cell? ⟨q, i, none⟩ = A.cell? ⟨q, i, none⟩
theorem KB.refl (p q : Nat) (A : World) : KB p q A A := ⟨fun _ => rfl, fun _ => rfl⟩
theorem KB.trans {p q : Nat} {A B C : World} (h : KB p q A B) (k : KB p q B C) : KB p q A C := ⟨fun i => (k.1 i).trans (h.1 i), fun i => (k.2 i).trans (h.2 i)⟩
theorem KB.drew {p q : Nat} {A B : World} (h : KB p q A B) : KB p q A B.drew := h

set_option maxRecDepth 100000 in
set_option maxHeartbeats 4000000 in
theorem chunk1_in (n : Nat) (hn : 1 ≤ n) (l p q b off len cap m : Nat) (hm : 1 ≤ m) (hm2 : (m : Int) ≤ 9223372036854775807) (hlen : len ≤ 60000) (hlc : len ≤ cap) (hcm : cap ≤ 9223372036854775807) (J Jx : List Nat → World → Prop)
    (hY : ∀ pre x W, J pre W → pre.length < cnt len m → YieldAt Fence.wide (n - 1) Try.prog l #[.slice (some ⟨b, off + x * m, none⟩) (partN len m x) (partN len m x)] W fun e W' =>
      (e = .returned (.bool true) ∧ J (pre ++ [x]) W' ∧ KB p q W W') ∨ (e = .returned (.bool false) ∧ Jx (pre ++ [x]) W'))
    (W : World) (B0 : Nat) (hJ : AbidesFrom B0 J) (hp : W.cell? ⟨p, 0, none⟩ = some (.slice (some ⟨b, off, none⟩) len cap)) (hq : W.cell? ⟨q, 0, none⟩ = some (.int .i64 m)) (h0 : J [] W) :
    CallsIn Fence.wide n Try.prog 52 #[.func (.yield l) #[] #[], .pointer (some ⟨p, 0, none⟩), .pointer (some ⟨q, 0, none⟩)] W fun e W' => (∃ v, e = .returned v) ∧
      ((∃ ys, ys = List.range (cnt len m) ∧ J ys W') ∨ (∃ pre, (∃ k, k ≤ cnt len m ∧ pre = List.range k) ∧ Jx pre W')) := by
  refine callsIn_of_wp Try.func52 rfl trivial ?_ rfl
  simp only [Try.ntmps52, List.size_toArray, List.length_cons, List.length_nil, Nat.reduceAdd, Nat.reduceSub, Array.replicate_succ, Array.replicate_zero, List.push_toArray, List.append_toArray, List.nil_append, List.cons_append]
  gi_wp2
  gi_loopw [4] (fun i wr => ∃ k t : Nat, k ≤ cnt len m ∧ Hid (t = k * m) ∧ i = .int .i64 (t : Int) ∧ J (List.range k) wr ∧ KB p q W wr)
    (fun i _ => len + m - (intOf i).toNat)
  case atStart => exact ⟨0, 0, Nat.zero_le _, Lib.hid (by simp), rfl, h0, KB.refl _ _ _⟩
  case round =>
    obtain ⟨k, t, hk, ht, rfl, hJs, hnx⟩ := hrel
    have hpx := (hnx.1 0).trans hp
    have hqx := (hnx.2 0).trans hq
    by_cases hlt : t < len
    · have hkc : k < cnt len m := by rw [cnt_lt hm, ← ht.out]; exact hlt
      have htm : t = 0 ∨ m ≤ t := by
        have := ht.out
        rcases Nat.eq_zero_or_pos k with h | h
        · subst h; left; simpa using this
        · right; rw [this]; exact Nat.le_mul_of_pos_left m h
      obtain ⟨e, he⟩ : ∃ e, e = partN len m k := ⟨_, rfl⟩
      have he1 : e = min m (len - t) := by rw [he, ht.out]; rfl
      have e0 : 0 < e := by omega
      have e0' : ¬ e = 0 := by omega
      have hmin : min (m : Int) ((len - t : Nat) : Int) = (e : Int) := by omega
      have wa : IntKind.i64.wrap ((t : Int) + (e : Int)) = ((t + e : Nat) : Int) := by rw [show ((t : Int) + (e : Int)) = ((t + e : Nat) : Int) by omega]; exact IntWalk.i64_in _ (by omega)
      have wb : IntKind.i64.wrap ((t : Int) + (m : Int)) = ((t + m : Nat) : Int) := by rw [show ((t : Int) + (m : Int)) = ((t + m : Nat) : Int) by omega]; exact IntWalk.i64_in _ (by omega)
      have c0 : ¬ cap - t = 0 := by omega
      have c1 : t ≤ cap := by omega
      have c2 : t ≤ len := by omega
      have c3 : t + e ≤ cap := by omega
      have c4 : t ≤ t + e := by omega
      have HYK : Hid (∀ d, YieldAt Fence.wide (n - 1) Try.prog l #[.slice (some ⟨b, off + t, none⟩) e e] (wr.drewN d) fun e W' =>
          (e = .returned (.bool true) ∧ J (List.range k ++ [k]) W' ∧ KB p q wr W') ∨ (e = .returned (.bool false) ∧ Jx (List.range k ++ [k]) W')) := Lib.hid (fun d => by
        have := hY _ k (wr.drewN d) (hJ _ _ _ none hJs ⟨rfl, rfl, rfl, Nat.le_refl _, fun _ _ _ => rfl⟩ (by simp)) (by rw [List.length_range]; exact hkc)
        rw [← ht.out, ← he] at this
        exact this)
      have HE := Lib.hid he
      clear he he1
      gi_wp2
      gi_quiet_th (fail)
      obtain ⟨fn, tmps, assign, body, hy, hR⟩ := HYK.out nq
      gi_wp2
      refine hR.mono ?_
      rintro x W3 (⟨rfl, hJ3, hk3⟩ | ⟨rfl, hJx3⟩)
      · have hq3 := ((hnx.trans hk3).2 0).trans hq
        gi_wp2
        go_roundw
        case rel => exact ⟨k + 1, t + m, hkc, Lib.hid (by rw [ht.out, Nat.succ_mul]), by go_num, by rw [List.range_succ]; exact hJ3, hnx.trans hk3⟩
        case measure => simp [intOf]; omega
      · gi_wp2
        refine bodyPost_ret (results_none rfl _ _ _) rfl ?_
        exact ⟨⟨_, rfl⟩, .inr ⟨List.range (k + 1), ⟨k + 1, hkc, rfl⟩, by rw [List.range_succ]; exact hJx3⟩⟩
    · have hkc : k = cnt len m := by
        have : ¬ k < cnt len m := by rw [cnt_lt hm, ← ht.out]; exact hlt
        omega
      gi_wp2
      go_end0
      exact ⟨⟨_, rfl⟩, .inl ⟨_, rfl, by rw [← hkc]; exact hJs⟩⟩

set_option maxRecDepth 100000 in
set_option maxHeartbeats 2000000 in
/-- .. of no bytes: no round. -/
theorem chunk0_in (n : Nat) (l p q cap m : Nat) (A : Option Addr) (J : List Nat → World → Prop) (W : World) (hp : W.cell? ⟨p, 0, none⟩ = some (.slice A 0 cap)) (h0 : J [] W) :
    CallsIn Fence.wide n Try.prog 52 #[.func (.yield l) #[] #[], .pointer (some ⟨p, 0, none⟩), .pointer (some ⟨q, 0, none⟩)] W fun e W' => (∃ v, e = .returned v) ∧ J [] W' := by
  refine callsIn_of_wp Try.func52 rfl trivial ?_ rfl
  simp only [Try.ntmps52, List.size_toArray, List.length_cons, List.length_nil, Nat.reduceAdd, Nat.reduceSub, Array.replicate_succ, Array.replicate_zero, List.push_toArray, List.append_toArray, List.nil_append, List.cons_append]
  gi_wp2
  gi_loopw [4] (fun i wr => i = .int .i64 0 ∧ wr = W) (fun _ _ => 0)
  case atStart => exact ⟨rfl, rfl⟩
  case round =>
    obtain ⟨rfl, rfl⟩ := hrel
    gi_wp2
    go_end0
    exact ⟨⟨_, rfl⟩, h0⟩

set_option maxRecDepth 100000 in
set_option maxHeartbeats 1000000 in
/-- The iterator: what is cut, and how, is boxed. -/
theorem chunk_make (n : Nat) (A : Option Addr) (len cap m : Nat) (hm : 1 ≤ m) (w : World) :
    CallsIn Fence.wide n Try.prog 46 #[.slice A len cap, .int .i64 m] w fun e w' => e = .returned (.func (.func 52) #[] #[.pointer (some ⟨w.heap.size, 0, none⟩), .pointer (some ⟨w.heap.size + 1, 0, none⟩)]) ∧
      w' = (w.alloc (.cells #[.slice A len cap] 34)).alloc (.cells #[.int .i64 m] 3) := by
  have d : decide ((m : Int) < 1) = false := decide_eq_false (by omega)
  have d2 : ((m : Int) < 1) = False := eq_false (by omega)
  refine callsIn_of_wp Try.func46 rfl trivial ?_ rfl
  simp only [Try.ntmps46, List.size_toArray, List.length_cons, List.length_nil, Nat.reduceAdd, Nat.reduceSub, Array.replicate_succ, Array.replicate_zero, List.push_toArray, List.append_toArray, List.nil_append, List.cons_append]
  gi_wp2
  go_ret
  exact ⟨rfl, rfl⟩

/-- **The iterator hands out the parts, one by one.** -/
theorem chunk_stops (n : Nat) (hn : 1 ≤ n) (p q : Nat) (A : Option Addr) (len cap m : Nat) (bs : List UInt8) (hm : 1 ≤ m) (hm2 : (m : Int) ≤ 9223372036854775807) (hlen : len ≤ 60000) (w : World) (hp0 : p < w.heap.size) (hq0 : q < w.heap.size)
    (hp : w.cell? ⟨p, 0, none⟩ = some (.slice A len cap)) (hq : w.cell? ⟨q, 0, none⟩ = some (.int .i64 m)) (hs : Sl u8K w A len cap bs) :
    SeqStopsK Fence.wide n Try.prog 52 #[.pointer (some ⟨p, 0, none⟩), .pointer (some ⟨q, 0, none⟩)] (fun x : Nat => #[Value.slice (onA A (x * m)) (partN len m x) (partN len m x)]) (KB p q) (fun ys => ys = List.range (cnt len m))
      (fun pre => ∃ k, k ≤ cnt len m ∧ pre = List.range k) (cnt len m) w := fun l J Jx W hW hJ _ hY h0 => by
  have hp' := (hW.cell (p := ⟨p, 0, none⟩) hp0).trans hp
  have hq' := (hW.cell (p := ⟨q, 0, none⟩) hq0).trans hq
  rcases Nat.eq_zero_or_pos len with e | e
  · subst e
    exact (chunk0_in n l p q cap m A J W hp' h0).mono fun e W' ⟨he, hj⟩ => ⟨he, .inl ⟨[], by rw [cnt_zero m hm]; rfl, hj⟩⟩
  · obtain ⟨b, off, _, rfl, _, _⟩ := hs.get (k := 0) e
    exact chunk1_in n hn l p q b off len cap m hm hm2 hlen hs.cap hs.max J Jx hY W _ hJ hp' hq' h0

end Go.Proofs.Ythjohjijcgiogaa
