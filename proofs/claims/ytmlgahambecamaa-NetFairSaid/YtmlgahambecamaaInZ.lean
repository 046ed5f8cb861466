/- slices.Insert of nothing; and of some messages that lie in a row of their own. -/
import Derived.Test.YtmlgahambecamaaSendQ
import Derived.Test.YtmlgahambecamaaInM
namespace Go.Proofs.Ytmlgahambecamaa
open Go.RowKit Go.Shelf

theorem insM_zero (A : Option Addr) (n c i b : Nat) (l : List Mg) (w : World) (hl : Sl mgK w A n c l) (hi : i ≤ n) : Calls Try.prog 47 #[.slice A n c, .int .i64 i, .slice (some ⟨b, 0, none⟩) 0 0] w fun e w' => e = .returned (.slice A n c) ∧ w = w' := by
  have h1 := hl.cap
  have h2 := hl.max
  have e1 : (i : Int) ≤ (n : Int) := by omega
  have e2 : (0 : Int) ≤ (i : Int) := by omega
  have e3 : (n : Int) ≤ (c : Int) := by omega
  clear hl
  by_cases hc : c = i
  · have hc2 : (c = i) = True := eq_true hc
    clear hc
    go_enter Try.func47, Try.ntmps47
    go_wp2_with fail
    go_ret
    exact ⟨rfl, rfl⟩
  · go_enter Try.func47, Try.ntmps47
    go_wp2_with fail
    go_ret
    exact ⟨rfl, rfl⟩
theorem flat_ins (l : List Mg) (i m : Nat) (x : Mg) : (l.flatMap mgK.cells).take (i * 5) ++ (List.replicate m x).flatMap mgK.cells ++ (l.flatMap mgK.cells).drop (i * 5) = (l.take i ++ List.replicate m x ++ l.drop i).flatMap mgK.cells := by
  rw [List.flatMap_append, List.flatMap_append, ← flat_take mgK.cells 5 mgK.len, ← flat_drop mgK.cells 5 mgK.len]
/-- Some messages of one kind put in their place. -/
theorem insM_some (B : Nat) (A : Option Addr) (n c m i b : Nat) (cv : Array Value) (l : List Mg) (x : Mg) (w : World) (ho : Own mgK 40 w B A n c l) (hB : B ≤ w.heap.size) (hm : 0 < m) (hbig : (n + m) * 56 ≤ 140737488355328)
    (hv : w.heap[b]? = some (.cells cv 40 (0, 0))) (hvt : cv.toList.take (m * 5) = (List.replicate m x).flatMap mgK.cells) (hvb : (Value.slice A n c).ownBlock ≠ some b) (hi : i ≤ n) :
    Calls Try.prog 47 #[.slice A n c, .int .i64 i, .slice (some ⟨b, 0, none⟩) m m] w fun e w' => ∃ A' c', e = .returned (.slice A' (n + m) c') ∧ ROwn mgK 40 w' B A' (n + m) c' (l.take i ++ List.replicate m x ++ l.drop i) ∧ w.grownBy w' (Value.slice A n c).ownBlock := by
  refine (insertM_any B A n c m i b m cv (l.flatMap mgK.cells) ((List.replicate m x).flatMap mgK.cells) w ho.2.1 (RK.flat_one mgK l) hB hm hbig hv hvt (by rw [flat_len mgK.cells 5 mgK.len, List.length_replicate]) (RK.flat_one mgK _) hvb hi).mono ?_
  rintro e w' ⟨A', c', h1, h2, h3⟩
  refine ⟨A', c', h1, ⟨?_, by rw [← flat_ins]; exact h2⟩, h3⟩
  have hl := ho.1
  rw [List.length_append, List.length_append, List.length_take, List.length_replicate, List.length_drop]
  omega

end Go.Proofs.Ytmlgahambecamaa
