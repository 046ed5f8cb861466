/- Put, of the document's answer. -/
import Derived.Test.YthjohjijcgiogaaPut
import Derived.Test.YthjohjijcgiogaaWithout
import Derived.Test.YthjohjijcgiogaaTake
namespace Go.Proofs.Ythjohjijcgiogaa
open Go.RowKit

/-- What without leaves, by what chunks are. -/
theorem without_vals {w w' : World} {l : List Hd} {name : ByteArray} {no : Int} {e : Ending} (hg : good (l.map Hd.val) = true) (h : WithoutRes w l name no e w') :
    ∃ A' n' c' x m l', e = .returned (.tuple #[.slice A' n' c', .agg #[.string x.name, .int .i64 x.no, .slice x.A x.n x.c], .bool m]) ∧ Own hdK 37 w' w.heap.size A' n' c' l' ∧ Below w.heap.size w w' ∧ l'.map Hd.val = dropC name no (l.map Hd.val) ∧ n' ≤ l.length ∧ (∀ a ∈ l', a ∈ l) ∧
      ((m = false ∧ x = zeroHd ∧ findC name no (l.map Hd.val) = none) ∨ (m = true ∧ x ∈ l ∧ findC name no (l.map Hd.val) = some x.val)) := by
  obtain ⟨A', n', c', x, m, h1, h2, h3, h4⟩ := h
  refine ⟨A', n', c', x, m, _, h1, h2, h3, ?_, ?_, fun a ha => (List.mem_filter.1 ha).1, ?_⟩
  · unfold dropC; rw [List.filter_map]; rfl
  · rw [← h2.1]; exact List.length_filter_le _ _
  · rcases h4 with ⟨rfl, rfl, h⟩ | ⟨rfl, hx, hk⟩
    · exact .inl ⟨rfl, rfl, (findC_none (fun j hj => by rw [List.getElem_map]; exact h _ (List.getElem_mem _))).1⟩
    · refine .inr ⟨rfl, hx, ?_⟩
      obtain ⟨i, hi, rfl⟩ := List.getElem_of_mem hx
      have hi' : i < (l.map Hd.val).length := by simpa using hi
      rw [findC_at hi' (by rw [List.getElem_map]; exact hk) (fun j hj hji => ?_), List.getElem_map]
      cases hq : isK name no (l.map Hd.val)[j]
      · rfl
      · exfalso
        rw [List.getElem_map] at hq
        have q1 : l[j].val.name = name ∧ l[j].val.no = no := by simpa [isK] using hq
        have q2 : l[i].val.name = name ∧ l[i].val.no = no := by simpa [isK] using hk
        have := good_once hg hj hi' (by rw [List.getElem_map, List.getElem_map]; exact q1.1.trans q2.1.symm) (by rw [List.getElem_map, List.getElem_map]; exact q1.2.trans q2.2.symm)
        omega

set_option maxHeartbeats 2000000 in
set_option maxRecDepth 100000 in
theorem rput_err (cap : Int) (A : Option Addr) (n c : Nat) (l : List Hd) (name : ByteArray) (no : Int) (A' : Option Addr) (n' c' : Nat) (w : World) (hl : Hds w A n c l) (hn : n ≤ 60000)
    (he : checkC cap (l.map Hd.val) = 1 ∨ checkC cap (l.map Hd.val) = 0 ∧ mayK name no = false) :
    Calls Try.prog 24 #[.agg #[.int .i64 cap, .slice A n c], .string name, .int .i64 no, .slice A' n' c'] w (CRes l (fun v => .tuple #[v, .int .i64 1]) 0 [] w) := by
  obtain ⟨W0, hW0⟩ : ∃ W0, W0 = ((w.alloc (.cells #[.int .i64 cap, .slice A n c] 24)).alloc (.cells #[.int .i64 0, .slice none 0 0] 24)) := ⟨_, rfl⟩
  have hb0 : Below w.heap.size w W0 := by rw [hW0]; exact below_from (below_alloc1 _ _) (below_alloc1 w _) (by simp)
  have N8 := Lib.hid (show Has W0 (w.heap.size + 1) #[.int .i64 0, .slice none 0 0] by rw [hW0]; exact (Has.newAt (w.alloc (.cells #[.int .i64 cap, .slice A n c] 24)) _ 24 (by simp)))
  have ck := Lib.hid (rcheck_any cap A n c l W0 (hl.below hb0) hn)
  have B0 := Lib.hid hb0
  clear hl hb0
  subst hW0
  rcases he with h | ⟨h, hm⟩
  · rw [h] at ck
    clear h
    go_enter Try.func24, Try.ntmps24
    go_wp2_with (go_at_call 16; refine ck.out.mono ?_; rintro e w1 ⟨rfl, hb1⟩; have HB1 := Lib.hid (below_from hb1 B0.out B0.out.size); have M8 := N8.out.past hb1; have c8 := M8.cell; have f8 := M8.free; have l8 := M8.lt; clear M8 hb1)
    refine bodyPost_ret (v := .tuple #[.agg #[.int .i64 0, .slice none 0 0], .int .i64 1]) (by simp [results, Try.results24, go_sem, c8, l8]) rfl (CRes.nil rfl ?_)
    have B1 := HB1.out
    repeat (first | with_reducible exact B1 | (refine Below.setCell ?_ (by simp <;> omega) _) | (refine Below.alloc ?_ (by simp <;> omega) _))
  · rw [h] at ck
    have HM := Lib.hid hm
    have may := Lib.hid (fun w' => by have := named_any name no w'; rwa [hm] at this)
    clear h hm
    go_enter Try.func24, Try.ntmps24
    go_wp2_with (first | (go_at_call 16; refine ck.out.mono ?_; rintro e w1 ⟨rfl, hb1⟩; have HB1 := Lib.hid (below_from hb1 B0.out B0.out.size); have M8 := N8.out.past hb1; have c8 := M8.cell; have f8 := M8.free; have l8 := M8.lt; clear M8 hb1) | (go_at_call 35; refine (may.out _).mono ?_; rintro e w2 ⟨rfl, rfl⟩))
    refine bodyPost_ret (v := .tuple #[.agg #[.int .i64 0, .slice none 0 0], .int .i64 1]) (by simp [results, Try.results24, go_sem, c8, l8]) rfl (CRes.nil rfl ?_)
    have B1 := HB1.out
    have z1 := B1.size
    repeat (first | with_reducible exact B1 | (refine Below.setCell ?_ (by simp <;> omega) _) | (refine Below.alloc ?_ (by simp <;> omega) _))

set_option maxHeartbeats 4000000 in
set_option maxRecDepth 100000 in
theorem rput_big (cap : Int) (A : Option Addr) (n c : Nat) (l : List Hd) (name : ByteArray) (no : Int) (A' : Option Addr) (n' c' : Nat) (w : World) (hl : Hds w A n c l) (hn : n ≤ 60000)
    (h0 : checkC cap (l.map Hd.val) = 0) (hm : mayK name no = true) (hbig : cap < n') :
    Calls Try.prog 24 #[.agg #[.int .i64 cap, .slice A n c], .string name, .int .i64 no, .slice A' n' c'] w (CRes l (fun v => .tuple #[v, .int .i64 0]) cap (dropC name no (l.map Hd.val)) w) := by
  obtain ⟨W0, hW0⟩ : ∃ W0, W0 = ((w.alloc (.cells #[.int .i64 cap, .slice A n c] 24)).alloc (.cells #[.int .i64 0, .slice none 0 0] 24)) := ⟨_, rfl⟩
  have hb0 : Below w.heap.size w W0 := by rw [hW0]; exact below_from (below_alloc1 _ _) (below_alloc1 w _) (by simp)
  have N4 := Lib.hid (show Has W0 w.heap.size #[.int .i64 cap, .slice A n c] by rw [hW0]; exact ((Has.newAt w _ 24 rfl).alloc _))
  have N8 := Lib.hid (show Has W0 (w.heap.size + 1) #[.int .i64 0, .slice none 0 0] by rw [hW0]; exact (Has.newAt (w.alloc (.cells #[.int .i64 cap, .slice A n c] 24)) _ 24 (by simp)))
  have ck := Lib.hid (rcheck_any cap A n c l W0 (hl.below hb0) hn)
  rw [h0] at ck
  have GD := Lib.hid (good_of_check h0).1
  have HLN := Lib.hid hl.len
  have B0 := Lib.hid hb0
  have HL := Lib.hid hl
  have may := Lib.hid (fun w' => by have := named_any name no w'; rwa [hm] at this)
  have tk := Lib.hid (fun w' (hb : Below w.heap.size w w') => without_any A n c l name no w' (hl.below hb) hn)
  clear hl hb0 h0 hm
  subst hW0
  have z0 := B0.out.size
  go_enter Try.func24, Try.ntmps24
  go_wp2_with (first | (go_at_call 16; refine ck.out.mono ?_; rintro e w1 ⟨rfl, hb1⟩; have HB1 := Lib.hid (below_from hb1 B0.out B0.out.size); have M8 := Lib.hid (N8.out.past hb1); have M4 := Lib.hid (N4.out.past hb1); have c4 := M4.out.cell; have l4 := M4.out.lt; have l8 := M8.out.lt; clear hb1) | (go_at_call 35; refine (may.out _).mono ?_; rintro e w2 ⟨rfl, rfl⟩) | (go_at_call 41; refine (tk.out _ HB1.out).mono ?_; intro e w3 ht; obtain ⟨At, nt, ct, x, m, lt, rfl, hO, hb3, hv, hnt, hmem, _⟩ := without_vals GD.out ht; have HO := Lib.hid hO; have B3 := Lib.hid (below_from hb3 HB1.out HB1.out.size); have Q8 := M8.out.past hb3; have c8 := Q8.cell; have f8 := Q8.free; have m8 := Q8.lt; have Q4 := M4.out.past hb3; have e4 := Q4.cell; have f4 := Q4.lt; have HV := Lib.hid hv; have HMEM := Lib.hid hmem; have S3 := hb3.size; clear ht hO hb3 hv hmem Q4 Q8 c4 l4))
  refine bodyPost_ret (v := .tuple #[.agg #[.int .i64 cap, .slice At nt ct], .int .i64 0]) (by simp [results, Try.results24, go_sem, c8, m8, f4]) rfl ⟨At, nt, ct, lt, rfl, ?_, HV.out, ?_, fun b off e => Nat.le_trans HB1.out.size (HO.out.lt e).1, fun a ha => .inl (HMEM.out a ha)⟩
  · have gs := setCells_grown (w.heap.size + 1) [.int .i64 cap, .slice At nt ct] 0 w3
    have bs : Below w.heap.size w (w3.setCells (w.heap.size + 1) 0 [.int .i64 cap, .slice At nt ct]) := B3.out.grown gs B3.out.size (fun q hq => by injection hq; omega)
    exact ((HO.out.grown gs l8 (fun a ha => hdK.below (HL.out.each a (HMEM.out a ha)) bs)).sl.alloc _).alloc _
  · have B1 := B3.out
    have z1 := B1.size
    repeat (first | with_reducible exact B1 | (refine Below.setCell ?_ (by simp <;> omega) _) | (refine Below.alloc ?_ (by simp <;> omega) _))

end Go.Proofs.Ythjohjijcgiogaa
