/- Put, of the program. -/
import Derived.Test.YthjohjijcgiogaaSmall
import Derived.Test.YthjohjijcgiogaaTake
import Derived.Test.YthjohjijcgiogaaIng
import Derived.Outline
namespace Go.Proofs.Ythjohjijcgiogaa
open Go.RowKit

set_option maxHeartbeats 1000000 in
/-- What Put asks at each chunk: is there room left? -/
theorem put1_any (x : Hd) (left : Int) (b : Nat) (w : World) (hk : Has w b #[.int .i64 left]) (h1 : -9000000000000000000 ≤ left) (h2 : left ≤ 1099511627776) (h3 : x.n ≤ 140737488355328) :
    Calls Try.prog 40 #[.agg #[.string x.name, .int .i64 x.no, .slice x.A x.n x.c], .pointer (some ⟨b, 0, none⟩)] w fun e w' => e = .returned (.bool (decide (left - x.n < 0))) ∧ Has w' b #[.int .i64 (left - x.n)] ∧ w.grownBy w' (some b) := by
  have c0 := hk.cell 0
  have f0 := hk.free 0
  have l0 := hk.lt
  have HK := Lib.hid hk
  clear hk
  simp only [List.getElem?_toArray, List.getElem?_cons_zero] at c0
  go_enter Try.func40, Try.ntmps40
  go_wp2
  go_ret
  refine ⟨ret_bool rfl, ?_, ?_⟩
  · exact (HK.out.set [.int .i64 (left - x.n)] rfl).alloc _
  · exact grown_trans (setCells_grown b [.int .i64 (left - x.n)] 0 _) (World.grownBy_alloc _ _ _)


theorem putE_cases (cap : Int) (L : List Ch) (name : ByteArray) (no : Int) : (checkC cap L = 1 ∧ putE cap L name no = 1) ∨ (checkC cap L = 0 ∧ mayK name no = false ∧ putE cap L name no = 1) ∨ (checkC cap L = 0 ∧ mayK name no = true ∧ putE cap L name no = 0) := by
  unfold putE
  rcases check_cases cap L with h | h
  · cases hm : mayK name no
    · exact .inr (.inl ⟨h, rfl, by simp⟩)
    · exact .inr (.inr ⟨h, rfl, by simp [h]⟩)
  · exact .inl ⟨h, by simp [h]⟩

set_option maxHeartbeats 2000000 in
set_option maxRecDepth 100000 in
theorem put_err (cap : Int) (A : Option Addr) (n c : Nat) (l : List Hd) (name : ByteArray) (no : Int) (A' : Option Addr) (n' c' : Nat) (w : World) (hl : Hds w A n c l) (hn : n ≤ 60000)
    (he : checkC cap (l.map Hd.val) = 1 ∨ checkC cap (l.map Hd.val) = 0 ∧ mayK name no = false) :
    Calls Try.prog 20 #[.agg #[.int .i64 cap, .slice A n c], .string name, .int .i64 no, .slice A' n' c'] w (CRes l (fun v => .tuple #[v, .int .i64 1]) 0 [] w) := by
  obtain ⟨W0, hW0⟩ : ∃ W0, W0 = (((w.alloc (.cells #[.int .i64 cap, .slice A n c] 24)).alloc (.cells #[.int .i64 0, .slice none 0 0] 24)).alloc (.cells #[.string name, .int .i64 no] 57)) := ⟨_, rfl⟩
  have hb0 : Below w.heap.size w W0 := by rw [hW0]; exact below_from (below_alloc1 _ _) (below_from (below_alloc1 _ _) (below_alloc1 w _) (by simp)) (by simp <;> omega)
  have N8 := Lib.hid (show Has W0 (w.heap.size + 1) #[.int .i64 0, .slice none 0 0] by rw [hW0]; exact (Has.newAt (w.alloc (.cells #[.int .i64 cap, .slice A n c] 24)) _ 24 (by simp)).alloc _)
  have N10 := Lib.hid (show Has W0 (w.heap.size + 1 + 1) #[.string name, .int .i64 no] by rw [hW0]; exact Has.newAt _ _ 57 (by simp))
  have ck := Lib.hid (check_any cap A n c l W0 (hl.below hb0) hn)
  have B0 := Lib.hid hb0
  clear hl hb0
  subst hW0
  rcases he with h | ⟨h, hm⟩
  · rw [h] at ck
    clear h
    go_enter Try.func20, Try.ntmps20
    go_wp2_with (go_at_call 15; refine ck.out.mono ?_; rintro e w1 ⟨rfl, hb1⟩; have HB1 := Lib.hid (below_from hb1 B0.out B0.out.size); have M8 := N8.out.past hb1; have c8 := M8.cell; have f8 := M8.free; have l8 := M8.lt; clear M8 hb1)
    refine bodyPost_ret (v := .tuple #[.agg #[.int .i64 0, .slice none 0 0], .int .i64 1]) (by simp [results, Try.results20, go_sem, c8, l8]) rfl (CRes.nil rfl ?_)
    have B1 := HB1.out
    repeat (first | with_reducible exact B1 | (refine Below.setCell ?_ (by simp <;> omega) _) | (refine Below.alloc ?_ (by simp <;> omega) _))
  · rw [h] at ck
    have HM := Lib.hid hm
    have may := Lib.hid (fun w' => by have := may_any name no w'; rwa [hm] at this)
    clear h hm
    go_enter Try.func20, Try.ntmps20
    go_wp2_with (first | (go_at_call 15; refine ck.out.mono ?_; rintro e w1 ⟨rfl, hb1⟩; have HB1 := Lib.hid (below_from hb1 B0.out B0.out.size); have M8 := N8.out.past hb1; have c8 := M8.cell; have f8 := M8.free; have l8 := M8.lt; have M10 := N10.out.past hb1; have c10 := M10.cell; have l10 := M10.lt; clear M8 M10 hb1) | (go_at_call 34; refine (may.out _).mono ?_; rintro e w2 ⟨rfl, rfl⟩))
    refine bodyPost_ret (v := .tuple #[.agg #[.int .i64 0, .slice none 0 0], .int .i64 1]) (by simp [results, Try.results20, go_sem, c8, l8]) rfl (CRes.nil rfl ?_)
    have B1 := HB1.out
    have z1 := B1.size
    repeat (first | with_reducible exact B1 | (refine Below.setCell ?_ (by simp <;> omega) _) | (refine Below.alloc ?_ (by simp <;> omega) _))

end Go.Proofs.Ythjohjijcgiogaa
