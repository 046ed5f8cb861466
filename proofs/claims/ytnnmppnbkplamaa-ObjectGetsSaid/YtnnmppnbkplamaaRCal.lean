/- The document's called: a store, a call later. -/
import Derived.Test.YtnnmppnbkplamaaRChk
import Derived.Test.YtnnmppnbkplamaaFork
import Derived.Test.YtnnmppnbkplamaaApp
namespace Go.Proofs.Ytnnmppnbkplamaa
open Go.RowKit Go.Shelf

set_option maxRecDepth 100000 in
set_option maxHeartbeats 8000000 in
theorem rcalled_any (A : Option Addr) (n c : Nat) (l : List Ob) (calls : Int) (A' : Option Addr) (n' c' : Nat) (fs : List Ft) (w : World) (hl : Obs w A n c l) (hf : Fts w A' n' c' fs) (h1 : n ≤ 1024) (h2 : n' ≤ 1024) (h3 : 0 ≤ calls) (h4 : calls < 1099511627776) :
    Calls Try.prog 40 #[stV A n c calls A' n' c'] w fun e w' => ∃ A2 c2 A3 c3, e = .returned (stV A2 n c2 (calls + 1) A3 n' c3) ∧ Own obK 59 w' w.heap.size A2 n c2 l ∧ Own ftK 48 w' w.heap.size A3 n' c3 fs ∧ Below w.heap.size w w' := by
  obtain ⟨W1, hW1⟩ : ∃ W1, W1 = (w.alloc (.cells #[.slice A n c, .int .i64 calls, .slice A' n' c'] 25)).alloc (.cells #[.slice none 0 0, .int .i64 0, .slice none 0 0] 25) := ⟨_, rfl⟩
  have B1 := Lib.hid (show Below w.heap.size w W1 from by rw [hW1]; exact ((Below.refl _ w).alloc (Nat.le_refl _) _).alloc (by simp) _)
  have z1 : w.heap.size + 2 ≤ W1.heap.size := by rw [hW1]; simp
  have S1 := Lib.hid (show Has W1 w.heap.size #[.slice A n c, .int .i64 calls, .slice A' n' c'] from by rw [hW1]; exact (Has.newAt w _ 25 rfl).alloc _)
  have R1 := Lib.hid (show Has W1 (w.heap.size + 1) #[.slice none 0 0, .int .i64 0, .slice none 0 0] from by rw [hW1]; exact Has.newAt _ _ 25 (by simp))
  have HL := Lib.hid hl
  have HF := Lib.hid hf
  have HW := Lib.hid hW1
  obtain ⟨i0, hi, hz0, hz1, hz2⟩ := info_parts inf59
  obtain ⟨j0, hj, hy0, hy1, hy2⟩ := info_parts inf48
  have wc : IntKind.i64.wrap (calls + 1) = calls + 1 := IntWalk.i64_in _ (by omega)
  have s1c := S1.out.cell
  clear hl hf hW1
  go_enter Try.func40, Try.ntmps40
  go_wp2_with fail
  rw [← HW.out]
  refine region_tr (fun w' => w'.cell? ⟨w.heap.size, 0, none⟩ = some (.slice A n c) ∧ w'.cell? ⟨w.heap.size, 1, none⟩ = some (.int .i64 calls) ∧ w'.cell? ⟨w.heap.size, 2, none⟩ = some (.slice A' n' c')) 12 (.take 1 (.take 2 (.take 4 (.take 5 (.take 6 (.take 8 (.take 9 (.fork 0 (.fork 3 (.op 7 (.op 10 (.take 11 .tail))) 7 (.op 3 (.op 10 (.take 11 .tail)))) 7 (.op 0 (.op 3 (.op 10 (.take 11 .tail))))))))))))  (by kernel_rfl) (by kernel_rfl) (by simp [go_sem, *]) (fun hHeld => ?_)
  iterate 7
    refine tr_take (v := ?_) (by simp only [List.getElem?_toArray, List.getElem?_cons_succ, List.getElem?_cons_zero]; rfl) (Or.inl ⟨by rfl, ?_⟩) ?_
    rotate_left 1
    · intro w hSw
      try dsimp only at hSw
      go_simp
      try with_reducible rfl
    try simp only [Act.put, List.setIfInBounds_toArray, List.set_cons_zero, List.set_cons_succ]
  refine tr_fork (by simp only [List.getElem?_toArray, List.getElem?_cons_zero]; rfl) (by simp only [List.getElem?_toArray, List.getElem?_cons_succ, List.getElem?_cons_zero]; rfl) (fun K hK => ?_) (fun K hK => ?_)
  · go_wp2_with fail
    clear hHeld
    obtain ⟨Va1, hV⟩ : ∃ V, V = (W1.alloc (.cells #[] 59)).drew := ⟨_, rfl⟩
    rw [← hV]
    have Sa1 := Lib.hid (show Has Va1 w.heap.size #[.slice A n c, .int .i64 calls, .slice A' n' c'] from by rw [hV]; exact (S1.out.alloc _).drew)
    have Ra1 := Lib.hid (show Has Va1 (w.heap.size + 1) #[.slice none 0 0, .int .i64 0, .slice none 0 0] from by rw [hV]; exact (R1.out.alloc _).drew)
    have Ba1 := Lib.hid (show Below w.heap.size w Va1 from by rw [hV]; exact (B1.out.alloc B1.out.size _).drew)
    have za1 : w.heap.size + 2 ≤ Va1.heap.size := Nat.le_trans z1 (by rw [hV]; exact (below_alloc1 _ _).drew.size)
    have XOa1 := Lib.hid (show Va1.ownsRow (w.heap.size + 2) 59 2 (.slice (some ⟨W1.heap.size, 0, none⟩) 0 0) 0 [] from by rw [hV]; exact World.ownsRow_made W1 #[] 0 z1 (Nat.zero_le _) (by simp))
    clear hV
    refine hK.out _ _ ⟨Sa1.out.cell 0, Sa1.out.cell 1, Sa1.out.cell 2⟩ (fun hHeld => ?_)
    clear hK K
    try simp only [Act.put, List.setIfInBounds_toArray, List.set_cons_zero, List.set_cons_succ]
    refine tr_fork (by simp only [List.getElem?_toArray, List.getElem?_cons_succ, List.getElem?_cons_zero]; rfl) (by simp only [List.getElem?_toArray, List.getElem?_cons_succ, List.getElem?_cons_zero]; rfl) (fun K hK => ?_) (fun K hK => ?_)
    · go_wp2_with (at_builtin; refine wpList_append_sl (K := obK) _ rfl _ _ 22 rfl (w.heap.size + 2) 59 i0 _ 40 Try.underlying22 hi hz0 hz1 hz2 rfl _ _ _ _ rfl XOa1.out A n c l rfl (HL.out.below Ba1.out) (by unfold maxLen; omega) (by omega) za1 ?_)
      intro Aoaa2 coaa2 Vaa2 ho hg _
      clear hHeld
      try simp only [Nat.zero_add, List.nil_append] at ho
      have Saa2 := Lib.hid (Sa1.out.beside hg (fun e => by have := XOa1.out.lt _ e.symm; omega))
      have Raa2 := Lib.hid (Ra1.out.beside hg (fun e => by have := XOa1.out.lt _ e.symm; omega))
      have Baa2 := Lib.hid (Ba1.out.grown hg Ba1.out.size (fun q hq => by have := XOa1.out.lt q hq; omega))
      have zaa2 : w.heap.size + 2 ≤ Vaa2.heap.size := Nat.le_trans za1 hg.size
      have XOaa2 := Lib.hid (show Vaa2.ownsRow (w.heap.size + 2) 59 2 (.slice Aoaa2 n coaa2) n (l.flatMap obK.cells) from ho)
      clear ho hg
      go_wp2_with fail
      refine hK.out _ _ ⟨Saa2.out.cell 0, Saa2.out.cell 1, Saa2.out.cell 2⟩ (fun hHeld => ?_)
      clear hK K
      try simp only [Act.put, List.setIfInBounds_toArray, List.set_cons_zero, List.set_cons_succ]
      refine tr_op (by simp only [List.getElem?_toArray, List.getElem?_cons_succ, List.getElem?_cons_zero]; rfl) (fun K hK => ?_)
      go_wp2_with fail
      clear hHeld
      obtain ⟨Vaa3, hV⟩ : ∃ V, V = Vaa2.alloc (.cells #[] 48) := ⟨_, rfl⟩
      rw [← hV]
      have Saa3 := Lib.hid (show Has Vaa3 w.heap.size #[.slice A n c, .int .i64 calls, .slice A' n' c'] from by rw [hV]; exact (Saa2.out.alloc _))
      have Raa3 := Lib.hid (show Has Vaa3 (w.heap.size + 1) #[.slice none 0 0, .int .i64 0, .slice none 0 0] from by rw [hV]; exact (Raa2.out.alloc _))
      have Baa3 := Lib.hid (show Below w.heap.size w Vaa3 from by rw [hV]; exact (Baa2.out.alloc Baa2.out.size _))
      have zaa3 : w.heap.size + 2 ≤ Vaa3.heap.size := Nat.le_trans zaa2 (by rw [hV]; exact (below_alloc1 _ _).size)
      have XOaa3 := Lib.hid (show Vaa3.ownsRow (w.heap.size + 2) 59 2 (.slice Aoaa2 n coaa2) (n) (l.flatMap obK.cells) from by rw [hV]; exact XOaa2.out.kept (row := none) (grown_of_below (below_alloc1 _ _) none) (by cases hv : (Value.ownBlock (.slice Aoaa2 n coaa2)) <;> simp))
      have XFaa3 := Lib.hid (show Vaa3.ownsRow (w.heap.size + 2) 48 2 (.slice (some ⟨Vaa2.heap.size, 0, none⟩) 0 0) 0 [] from by rw [hV]; exact World.ownsRow_made Vaa2 #[] 0 zaa2 (Nat.zero_le _) (by simp))
      clear hV
      refine hK.out _ _ ⟨Saa3.out.cell 0, Saa3.out.cell 1, Saa3.out.cell 2⟩ (fun hHeld => ?_)
      clear hK K
      try simp only [Act.put, List.setIfInBounds_toArray, List.set_cons_zero, List.set_cons_succ]
      refine tr_op (by simp only [List.getElem?_toArray, List.getElem?_cons_succ, List.getElem?_cons_zero]; rfl) (fun K hK => ?_)
      go_wp2_with (at_builtin; refine wpList_append_sl (K := ftK) _ rfl _ _ 23 rfl (w.heap.size + 2) 48 j0 _ 16 Try.underlying23 hj hy0 hy1 hy2 rfl _ _ _ _ rfl XFaa3.out A' n' c' fs rfl (HF.out.below Baa3.out) (by unfold maxLen; omega) (by omega) zaa3 ?_)
      intro Afaa4 cfaa4 Vaa4 ho hg _
      clear hHeld
      try simp only [Nat.zero_add, List.nil_append] at ho
      have Saa4 := Lib.hid (Saa3.out.beside hg (fun e => by have := XFaa3.out.lt _ e.symm; omega))
      have Raa4 := Lib.hid (Raa3.out.beside hg (fun e => by have := XFaa3.out.lt _ e.symm; omega))
      have Baa4 := Lib.hid (Baa3.out.grown hg Baa3.out.size (fun q hq => by have := XFaa3.out.lt q hq; omega))
      have zaa4 : w.heap.size + 2 ≤ Vaa4.heap.size := Nat.le_trans zaa3 hg.size
      have XOaa4 := Lib.hid (show Vaa4.ownsRow (w.heap.size + 2) 59 2 (.slice Aoaa2 n coaa2) (n) (l.flatMap obK.cells) from XOaa3.out.kept hg (by cases hv : (Value.ownBlock (.slice Aoaa2 n coaa2)) with | none => exact .inl rfl | some q => exact .inr (fun e => owns_apart XOaa3.out XFaa3.out (by decide) hv e.symm)))
      have XFaa4 := Lib.hid (show Vaa4.ownsRow (w.heap.size + 2) 48 2 (.slice Afaa4 n' cfaa4) n' (fs.flatMap ftK.cells) from ho)
      clear ho hg
      go_wp2_with fail
      refine hK.out _ _ ⟨Saa4.out.cell 0, Saa4.out.cell 1, Saa4.out.cell 2⟩ (fun hHeld => ?_)
      clear hK K
      try simp only [Act.put, List.setIfInBounds_toArray, List.set_cons_zero, List.set_cons_succ]
      iterate 1
        refine tr_take (v := ?_) (by simp only [List.getElem?_toArray, List.getElem?_cons_succ, List.getElem?_cons_zero]; rfl) (Or.inl ⟨by rfl, ?_⟩) ?_
        rotate_left 1
        · intro w hSw
          try dsimp only at hSw
          go_simp
          try with_reducible rfl
        try simp only [Act.put, List.setIfInBounds_toArray, List.set_cons_zero, List.set_cons_succ]
      refine tr_tail rfl ?_
      clear hHeld
      have rc := Raa4.out.cell
      have rf := Raa4.out.free
      have rl := Raa4.out.lt
      go_wp2_with fail
      have gs := setCells_grown (w.heap.size + 1) [.slice Aoaa2 n coaa2, .int .i64 (calls + 1), .slice Afaa4 n' cfaa4] 0 Vaa4
      have bw := Baa4.out.grown gs Baa4.out.size (fun q hq => by injection hq with hq; omega)
      refine bodyPost_ret (v := stV Aoaa2 n coaa2 (calls + 1) Afaa4 n' cfaa4) (by simp [results, Try.results40, go_sem, rc]) rfl ?_
      exact ⟨Aoaa2, coaa2, Afaa4, cfaa4, rfl, ⟨HL.out.len, owns_base (XOaa4.out.kept gs (by cases hv : (Value.ownBlock (.slice Aoaa2 n coaa2)) with | none => exact .inl rfl | some q => exact .inr (fun e => by injection e with e; have := (XOaa4.out.lt q hv).1; omega))) (by omega), fun a ha => (HL.out.each a ha).below bw⟩, ⟨HF.out.len, owns_base (XFaa4.out.kept gs (by cases hv : (Value.ownBlock (.slice Afaa4 n' cfaa4)) with | none => exact .inl rfl | some q => exact .inr (fun e => by injection e with e; have := (XFaa4.out.lt q hv).1; omega))) (by omega), fun a ha => HF.out.each a ha⟩, bw⟩
    · go_wp2_with fail
      clear hHeld
      obtain ⟨Vab2, hV⟩ : ∃ V, V = Va1.alloc (.cells #[] 48) := ⟨_, rfl⟩
      rw [← hV]
      have Sab2 := Lib.hid (show Has Vab2 w.heap.size #[.slice A n c, .int .i64 calls, .slice A' n' c'] from by rw [hV]; exact (Sa1.out.alloc _))
      have Rab2 := Lib.hid (show Has Vab2 (w.heap.size + 1) #[.slice none 0 0, .int .i64 0, .slice none 0 0] from by rw [hV]; exact (Ra1.out.alloc _))
      have Bab2 := Lib.hid (show Below w.heap.size w Vab2 from by rw [hV]; exact (Ba1.out.alloc Ba1.out.size _))
      have zab2 : w.heap.size + 2 ≤ Vab2.heap.size := Nat.le_trans za1 (by rw [hV]; exact (below_alloc1 _ _).size)
      have XOab2 := Lib.hid (show Vab2.ownsRow (w.heap.size + 2) 59 2 (.slice (some ⟨W1.heap.size, 0, none⟩) 0 0) (0) ([]) from by rw [hV]; exact XOa1.out.kept (row := none) (grown_of_below (below_alloc1 _ _) none) (by cases hv : (Value.ownBlock (.slice (some ⟨W1.heap.size, 0, none⟩) 0 0)) <;> simp))
      have XFab2 := Lib.hid (show Vab2.ownsRow (w.heap.size + 2) 48 2 (.slice (some ⟨Va1.heap.size, 0, none⟩) 0 0) 0 [] from by rw [hV]; exact World.ownsRow_made Va1 #[] 0 za1 (Nat.zero_le _) (by simp))
      clear hV
      refine hK.out _ _ ⟨Sab2.out.cell 0, Sab2.out.cell 1, Sab2.out.cell 2⟩ (fun hHeld => ?_)
      clear hK K
      try simp only [Act.put, List.setIfInBounds_toArray, List.set_cons_zero, List.set_cons_succ]
      refine tr_op (by simp only [List.getElem?_toArray, List.getElem?_cons_succ, List.getElem?_cons_zero]; rfl) (fun K hK => ?_)
      go_wp2_with (at_builtin; refine wpList_append_sl (K := obK) _ rfl _ _ 22 rfl (w.heap.size + 2) 59 i0 _ 40 Try.underlying22 hi hz0 hz1 hz2 rfl _ _ _ _ rfl XOab2.out A n c l rfl (HL.out.below Bab2.out) (by unfold maxLen; omega) (by omega) zab2 ?_)
      intro Aoab3 coab3 Vab3 ho hg _
      clear hHeld
      try simp only [Nat.zero_add, List.nil_append] at ho
      have Sab3 := Lib.hid (Sab2.out.beside hg (fun e => by have := XOab2.out.lt _ e.symm; omega))
      have Rab3 := Lib.hid (Rab2.out.beside hg (fun e => by have := XOab2.out.lt _ e.symm; omega))
      have Bab3 := Lib.hid (Bab2.out.grown hg Bab2.out.size (fun q hq => by have := XOab2.out.lt q hq; omega))
      have zab3 : w.heap.size + 2 ≤ Vab3.heap.size := Nat.le_trans zab2 hg.size
      have XFab3 := Lib.hid (show Vab3.ownsRow (w.heap.size + 2) 48 2 (.slice (some ⟨Va1.heap.size, 0, none⟩) 0 0) (0) ([]) from XFab2.out.kept hg (by cases hv : (Value.ownBlock (.slice (some ⟨Va1.heap.size, 0, none⟩) 0 0)) with | none => exact .inl rfl | some q => exact .inr (fun e => owns_apart XFab2.out XOab2.out (by decide) hv e.symm)))
      have XOab3 := Lib.hid (show Vab3.ownsRow (w.heap.size + 2) 59 2 (.slice Aoab3 n coab3) n (l.flatMap obK.cells) from ho)
      clear ho hg
      go_wp2_with fail
      refine hK.out _ _ ⟨Sab3.out.cell 0, Sab3.out.cell 1, Sab3.out.cell 2⟩ (fun hHeld => ?_)
      clear hK K
      try simp only [Act.put, List.setIfInBounds_toArray, List.set_cons_zero, List.set_cons_succ]
      refine tr_op (by simp only [List.getElem?_toArray, List.getElem?_cons_succ, List.getElem?_cons_zero]; rfl) (fun K hK => ?_)
      go_wp2_with (at_builtin; refine wpList_append_sl (K := ftK) _ rfl _ _ 23 rfl (w.heap.size + 2) 48 j0 _ 16 Try.underlying23 hj hy0 hy1 hy2 rfl _ _ _ _ rfl XFab3.out A' n' c' fs rfl (HF.out.below Bab3.out) (by unfold maxLen; omega) (by omega) zab3 ?_)
      intro Afab4 cfab4 Vab4 ho hg _
      clear hHeld
      try simp only [Nat.zero_add, List.nil_append] at ho
      have Sab4 := Lib.hid (Sab3.out.beside hg (fun e => by have := XFab3.out.lt _ e.symm; omega))
      have Rab4 := Lib.hid (Rab3.out.beside hg (fun e => by have := XFab3.out.lt _ e.symm; omega))
      have Bab4 := Lib.hid (Bab3.out.grown hg Bab3.out.size (fun q hq => by have := XFab3.out.lt q hq; omega))
      have zab4 : w.heap.size + 2 ≤ Vab4.heap.size := Nat.le_trans zab3 hg.size
      have XOab4 := Lib.hid (show Vab4.ownsRow (w.heap.size + 2) 59 2 (.slice Aoab3 n coab3) (n) (l.flatMap obK.cells) from XOab3.out.kept hg (by cases hv : (Value.ownBlock (.slice Aoab3 n coab3)) with | none => exact .inl rfl | some q => exact .inr (fun e => owns_apart XOab3.out XFab3.out (by decide) hv e.symm)))
      have XFab4 := Lib.hid (show Vab4.ownsRow (w.heap.size + 2) 48 2 (.slice Afab4 n' cfab4) n' (fs.flatMap ftK.cells) from ho)
      clear ho hg
      go_wp2_with fail
      refine hK.out _ _ ⟨Sab4.out.cell 0, Sab4.out.cell 1, Sab4.out.cell 2⟩ (fun hHeld => ?_)
      clear hK K
      try simp only [Act.put, List.setIfInBounds_toArray, List.set_cons_zero, List.set_cons_succ]
      iterate 1
        refine tr_take (v := ?_) (by simp only [List.getElem?_toArray, List.getElem?_cons_succ, List.getElem?_cons_zero]; rfl) (Or.inl ⟨by rfl, ?_⟩) ?_
        rotate_left 1
        · intro w hSw
          try dsimp only at hSw
          go_simp
          try with_reducible rfl
        try simp only [Act.put, List.setIfInBounds_toArray, List.set_cons_zero, List.set_cons_succ]
      refine tr_tail rfl ?_
      clear hHeld
      have rc := Rab4.out.cell
      have rf := Rab4.out.free
      have rl := Rab4.out.lt
      go_wp2_with fail
      have gs := setCells_grown (w.heap.size + 1) [.slice Aoab3 n coab3, .int .i64 (calls + 1), .slice Afab4 n' cfab4] 0 Vab4
      have bw := Bab4.out.grown gs Bab4.out.size (fun q hq => by injection hq with hq; omega)
      refine bodyPost_ret (v := stV Aoab3 n coab3 (calls + 1) Afab4 n' cfab4) (by simp [results, Try.results40, go_sem, rc]) rfl ?_
      exact ⟨Aoab3, coab3, Afab4, cfab4, rfl, ⟨HL.out.len, owns_base (XOab4.out.kept gs (by cases hv : (Value.ownBlock (.slice Aoab3 n coab3)) with | none => exact .inl rfl | some q => exact .inr (fun e => by injection e with e; have := (XOab4.out.lt q hv).1; omega))) (by omega), fun a ha => (HL.out.each a ha).below bw⟩, ⟨HF.out.len, owns_base (XFab4.out.kept gs (by cases hv : (Value.ownBlock (.slice Afab4 n' cfab4)) with | none => exact .inl rfl | some q => exact .inr (fun e => by injection e with e; have := (XFab4.out.lt q hv).1; omega))) (by omega), fun a ha => HF.out.each a ha⟩, bw⟩
  · go_wp2_with fail
    clear hHeld
    obtain ⟨Vb1, hV⟩ : ∃ V, V = (W1.alloc (.cells #[] 48)).drew := ⟨_, rfl⟩
    rw [← hV]
    have Sb1 := Lib.hid (show Has Vb1 w.heap.size #[.slice A n c, .int .i64 calls, .slice A' n' c'] from by rw [hV]; exact (S1.out.alloc _).drew)
    have Rb1 := Lib.hid (show Has Vb1 (w.heap.size + 1) #[.slice none 0 0, .int .i64 0, .slice none 0 0] from by rw [hV]; exact (R1.out.alloc _).drew)
    have Bb1 := Lib.hid (show Below w.heap.size w Vb1 from by rw [hV]; exact (B1.out.alloc B1.out.size _).drew)
    have zb1 : w.heap.size + 2 ≤ Vb1.heap.size := Nat.le_trans z1 (by rw [hV]; exact (below_alloc1 _ _).drew.size)
    have XFb1 := Lib.hid (show Vb1.ownsRow (w.heap.size + 2) 48 2 (.slice (some ⟨W1.heap.size, 0, none⟩) 0 0) 0 [] from by rw [hV]; exact World.ownsRow_made W1 #[] 0 z1 (Nat.zero_le _) (by simp))
    clear hV
    refine hK.out _ _ ⟨Sb1.out.cell 0, Sb1.out.cell 1, Sb1.out.cell 2⟩ (fun hHeld => ?_)
    clear hK K
    try simp only [Act.put, List.setIfInBounds_toArray, List.set_cons_zero, List.set_cons_succ]
    refine tr_op (by simp only [List.getElem?_toArray, List.getElem?_cons_zero]; rfl) (fun K hK => ?_)
    go_wp2_with fail
    clear hHeld
    obtain ⟨Vb2, hV⟩ : ∃ V, V = Vb1.alloc (.cells #[] 59) := ⟨_, rfl⟩
    rw [← hV]
    have Sb2 := Lib.hid (show Has Vb2 w.heap.size #[.slice A n c, .int .i64 calls, .slice A' n' c'] from by rw [hV]; exact (Sb1.out.alloc _))
    have Rb2 := Lib.hid (show Has Vb2 (w.heap.size + 1) #[.slice none 0 0, .int .i64 0, .slice none 0 0] from by rw [hV]; exact (Rb1.out.alloc _))
    have Bb2 := Lib.hid (show Below w.heap.size w Vb2 from by rw [hV]; exact (Bb1.out.alloc Bb1.out.size _))
    have zb2 : w.heap.size + 2 ≤ Vb2.heap.size := Nat.le_trans zb1 (by rw [hV]; exact (below_alloc1 _ _).size)
    have XFb2 := Lib.hid (show Vb2.ownsRow (w.heap.size + 2) 48 2 (.slice (some ⟨W1.heap.size, 0, none⟩) 0 0) (0) ([]) from by rw [hV]; exact XFb1.out.kept (row := none) (grown_of_below (below_alloc1 _ _) none) (by cases hv : (Value.ownBlock (.slice (some ⟨W1.heap.size, 0, none⟩) 0 0)) <;> simp))
    have XOb2 := Lib.hid (show Vb2.ownsRow (w.heap.size + 2) 59 2 (.slice (some ⟨Vb1.heap.size, 0, none⟩) 0 0) 0 [] from by rw [hV]; exact World.ownsRow_made Vb1 #[] 0 zb1 (Nat.zero_le _) (by simp))
    clear hV
    refine hK.out _ _ ⟨Sb2.out.cell 0, Sb2.out.cell 1, Sb2.out.cell 2⟩ (fun hHeld => ?_)
    clear hK K
    try simp only [Act.put, List.setIfInBounds_toArray, List.set_cons_zero, List.set_cons_succ]
    refine tr_op (by simp only [List.getElem?_toArray, List.getElem?_cons_succ, List.getElem?_cons_zero]; rfl) (fun K hK => ?_)
    go_wp2_with (at_builtin; refine wpList_append_sl (K := obK) _ rfl _ _ 22 rfl (w.heap.size + 2) 59 i0 _ 40 Try.underlying22 hi hz0 hz1 hz2 rfl _ _ _ _ rfl XOb2.out A n c l rfl (HL.out.below Bb2.out) (by unfold maxLen; omega) (by omega) zb2 ?_)
    intro Aob3 cob3 Vb3 ho hg _
    clear hHeld
    try simp only [Nat.zero_add, List.nil_append] at ho
    have Sb3 := Lib.hid (Sb2.out.beside hg (fun e => by have := XOb2.out.lt _ e.symm; omega))
    have Rb3 := Lib.hid (Rb2.out.beside hg (fun e => by have := XOb2.out.lt _ e.symm; omega))
    have Bb3 := Lib.hid (Bb2.out.grown hg Bb2.out.size (fun q hq => by have := XOb2.out.lt q hq; omega))
    have zb3 : w.heap.size + 2 ≤ Vb3.heap.size := Nat.le_trans zb2 hg.size
    have XFb3 := Lib.hid (show Vb3.ownsRow (w.heap.size + 2) 48 2 (.slice (some ⟨W1.heap.size, 0, none⟩) 0 0) (0) ([]) from XFb2.out.kept hg (by cases hv : (Value.ownBlock (.slice (some ⟨W1.heap.size, 0, none⟩) 0 0)) with | none => exact .inl rfl | some q => exact .inr (fun e => owns_apart XFb2.out XOb2.out (by decide) hv e.symm)))
    have XOb3 := Lib.hid (show Vb3.ownsRow (w.heap.size + 2) 59 2 (.slice Aob3 n cob3) n (l.flatMap obK.cells) from ho)
    clear ho hg
    go_wp2_with fail
    refine hK.out _ _ ⟨Sb3.out.cell 0, Sb3.out.cell 1, Sb3.out.cell 2⟩ (fun hHeld => ?_)
    clear hK K
    try simp only [Act.put, List.setIfInBounds_toArray, List.set_cons_zero, List.set_cons_succ]
    refine tr_op (by simp only [List.getElem?_toArray, List.getElem?_cons_succ, List.getElem?_cons_zero]; rfl) (fun K hK => ?_)
    go_wp2_with (at_builtin; refine wpList_append_sl (K := ftK) _ rfl _ _ 23 rfl (w.heap.size + 2) 48 j0 _ 16 Try.underlying23 hj hy0 hy1 hy2 rfl _ _ _ _ rfl XFb3.out A' n' c' fs rfl (HF.out.below Bb3.out) (by unfold maxLen; omega) (by omega) zb3 ?_)
    intro Afb4 cfb4 Vb4 ho hg _
    clear hHeld
    try simp only [Nat.zero_add, List.nil_append] at ho
    have Sb4 := Lib.hid (Sb3.out.beside hg (fun e => by have := XFb3.out.lt _ e.symm; omega))
    have Rb4 := Lib.hid (Rb3.out.beside hg (fun e => by have := XFb3.out.lt _ e.symm; omega))
    have Bb4 := Lib.hid (Bb3.out.grown hg Bb3.out.size (fun q hq => by have := XFb3.out.lt q hq; omega))
    have zb4 : w.heap.size + 2 ≤ Vb4.heap.size := Nat.le_trans zb3 hg.size
    have XOb4 := Lib.hid (show Vb4.ownsRow (w.heap.size + 2) 59 2 (.slice Aob3 n cob3) (n) (l.flatMap obK.cells) from XOb3.out.kept hg (by cases hv : (Value.ownBlock (.slice Aob3 n cob3)) with | none => exact .inl rfl | some q => exact .inr (fun e => owns_apart XOb3.out XFb3.out (by decide) hv e.symm)))
    have XFb4 := Lib.hid (show Vb4.ownsRow (w.heap.size + 2) 48 2 (.slice Afb4 n' cfb4) n' (fs.flatMap ftK.cells) from ho)
    clear ho hg
    go_wp2_with fail
    refine hK.out _ _ ⟨Sb4.out.cell 0, Sb4.out.cell 1, Sb4.out.cell 2⟩ (fun hHeld => ?_)
    clear hK K
    try simp only [Act.put, List.setIfInBounds_toArray, List.set_cons_zero, List.set_cons_succ]
    iterate 1
      refine tr_take (v := ?_) (by simp only [List.getElem?_toArray, List.getElem?_cons_succ, List.getElem?_cons_zero]; rfl) (Or.inl ⟨by rfl, ?_⟩) ?_
      rotate_left 1
      · intro w hSw
        try dsimp only at hSw
        go_simp
        try with_reducible rfl
      try simp only [Act.put, List.setIfInBounds_toArray, List.set_cons_zero, List.set_cons_succ]
    refine tr_tail rfl ?_
    clear hHeld
    have rc := Rb4.out.cell
    have rf := Rb4.out.free
    have rl := Rb4.out.lt
    go_wp2_with fail
    have gs := setCells_grown (w.heap.size + 1) [.slice Aob3 n cob3, .int .i64 (calls + 1), .slice Afb4 n' cfb4] 0 Vb4
    have bw := Bb4.out.grown gs Bb4.out.size (fun q hq => by injection hq with hq; omega)
    refine bodyPost_ret (v := stV Aob3 n cob3 (calls + 1) Afb4 n' cfb4) (by simp [results, Try.results40, go_sem, rc]) rfl ?_
    exact ⟨Aob3, cob3, Afb4, cfb4, rfl, ⟨HL.out.len, owns_base (XOb4.out.kept gs (by cases hv : (Value.ownBlock (.slice Aob3 n cob3)) with | none => exact .inl rfl | some q => exact .inr (fun e => by injection e with e; have := (XOb4.out.lt q hv).1; omega))) (by omega), fun a ha => (HL.out.each a ha).below bw⟩, ⟨HF.out.len, owns_base (XFb4.out.kept gs (by cases hv : (Value.ownBlock (.slice Afb4 n' cfb4)) with | none => exact .inl rfl | some q => exact .inr (fun e => by injection e with e; have := (XFb4.out.lt q hv).1; omega))) (by omega), fun a ha => HF.out.each a ha⟩, bw⟩

end Go.Proofs.Ytnnmppnbkplamaa
