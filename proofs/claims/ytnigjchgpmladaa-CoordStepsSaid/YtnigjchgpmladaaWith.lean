/- A list with one more, in order, once: with. -/
import Derived.Test.YtnigjchgpmladaaInT
import Derived.Test.YtnigjchgpmladaaInS
import Derived.Test.YtnigjchgpmladaaLbs
import Derived.Test.YtnigjchgpmladaaBas
import Derived.Test.YtnigjchgpmladaaLeaf2
import Derived.Test.YtnigjchgpmladaaCor
namespace Go.Proofs.Ytnigjchgpmladaa
open Go.RowKit

set_option maxRecDepth 100000 in
set_option maxHeartbeats 4000000 in
theorem withT_any (A : Option Addr) (n c : Nat) (l : List Tp) (x : Tp) (w : World) (hl : Sl tpK w A n c l) (hu : Up ordT l) (hn : n ≤ 60000) (hx : x.wf) :
    Calls Try.prog 65 #[.slice A n c, x.v, .func (.func 66) #[] #[]] w fun e w' => ∃ A' n' c', e = .returned (.slice A' n' c') ∧ Sl tpK w' A' n' c' (insC ordT x l) ∧ ((A' = A ∧ n' = n ∧ c' = c ∧ insC ordT x l = l) ∨ ∀ b off, A' = some ⟨b, off, none⟩ → w.heap.size ≤ b) ∧ Below w.heap.size w w' := by
  have S0 := Lib.hid (Has.newAt w #[.string x.t, .int .i64 x.p, .int .i64 x.h] 45 (g := w.heap.size) rfl)
  have B0 := Lib.hid (below_alloc1 w (.cells #[.string x.t, .int .i64 x.p, .int .i64 x.h] 45))
  have c0 := S0.out.cell
  have z0 := S0.out.lt
  have SR := Lib.hid (fun W (h : Below w.heap.size w W) => searchT A n c l x W 66 (fun y => ordT y x) (hl.below h) (by omega) (enters_of Try.func66 (by kernel_rfl) rfl)
    (fun j k hk hj h => lawT.trans _ _ _ (up_at hu hk hj) h) (fun y _ W _ => order_any y x W))
  have CL := Lib.hid (fun W (h : Below w.heap.size w W) => cloneT A n c l W (hl.below h) (by omega))
  have IN : Hid (∀ A2 c2 i g W W', Below w.heap.size w W → Own tpK 45 W W.heap.size A2 n c2 l ∨ Own tpK 45 W w.heap.size A2 n c2 l → i ≤ n → W.heap[g]? = some (.cells #[.string x.t, .int .i64 x.p, .int .i64 x.h] 45 (0, 0)) → (Value.slice A2 n c2).ownBlock ≠ some g → W' = W → Calls Try.prog 89 #[.slice A2 n c2, .int .i64 (i : Nat), .slice (some ⟨g, 0, none⟩) 1 1] W' fun e w3 =>
      ∃ A' n' c', e = .returned (.slice A' n' c') ∧ (Sl tpK w3 A' n' c' (l.take i ++ x :: l.drop i) ∧ ∀ b off, A' = some ⟨b, off, none⟩ → w.heap.size ≤ b) ∧ Below w.heap.size w w3) := by
    refine Lib.hid fun A2 c2 i g W W' h ho hi hg hne hW => ?_
    subst hW
    have ho : Own tpK 45 W' w.heap.size A2 n c2 l := ho.elim (fun h' => h'.base h.size) id
    refine (insertT_any w.heap.size A2 n c2 1 i g 1 #[.string x.t, .int .i64 x.p, .int .i64 x.h] (l.flatMap tpK.cells) [.string x.t, .int .i64 x.p, .int .i64 x.h] W' ho.2.1 (RK.flat_one tpK l) h.size (by omega) (by omega) hg rfl rfl (tpK.one x) hne hi).mono ?_
    rintro e w3 ⟨A3, c3, rfl, ho3, hg3⟩
    exact ⟨A3, n + 1, c3, rfl, ⟨(own_ins ho hi x hx (fun _ _ h => h) ho3).sl, fun b off e => ((own_ins ho hi x hx (fun _ _ h => h) ho3).lt e).1⟩, h.trans (grown_below hg3 h.size (fun k hk => (ho.2.1.lt k hk).1))⟩
  have HL := Lib.hid hl
  clear hl hu hx hn
  go_enter Try.func65, Try.ntmps65
  go_wp2_with (first
    | (go_at_call 89; go_loud (obtain ⟨hl0, _⟩ := HS.out; refine (IN.out _ _ _ _ (w2.alloc (.cells #[.string x.t, .int .i64 x.p, .int .i64 x.h] 45)) _ (B2.out.alloc B2.out.size _) (.inr (HO.out.kept (below_alloc1 w2 _))) (by rw [← HL.out.len]; exact hl0) (heap_alloc_new w2 _) (fun e => by have := (HO.out.2.1.lt _ e).2; omega) rfl).mono ?_; rintro e w3 ⟨A3, n3, c3, rfl, hO3, hb3⟩; have B3 := Lib.hid hb3; have HO3 := Lib.hid hO3; clear hb3 hO3))
    | (go_at_call 88; refine (SR.out _ B0.out).mono ?_; rintro e w1 ⟨i, b, rfl, hS, hb1⟩; have B1 := Lib.hid (below_from hb1 B0.out B0.out.size); have S1 := Lib.hid (S0.out.past hb1); have c1c := S1.out.cell; have z1 := S1.out.lt; have HS := Lib.hid hS; clear hb1 hS c0 z0; cases b)
    | (go_at_call 90; refine (CL.out _ B1.out).mono ?_; rintro e w2 ⟨A2, c2, rfl, hO, hb2⟩; have B2 := Lib.hid (below_from hb2 B1.out B1.out.size); have S2 := Lib.hid (S1.out.past hb2); have c2c := S2.out.cell; have z2 := S2.out.lt; have HO := Lib.hid (hO.base B1.out.size); clear hb2 hO c1c z1))
  · have D1 := Lib.hid (show Below w1.heap.size w1 w1.drew from (Below.refl _ w1).drew)
    refine region_tr (fun w' => w'.cell? ⟨w.heap.size, 0, none⟩ = some (.string x.t) ∧ w'.cell? ⟨w.heap.size, 1, none⟩ = some (.int .i64 x.p) ∧ w'.cell? ⟨w.heap.size, 2, none⟩ = some (.int .i64 x.h)) 5 (.take 0 (.take 2 (.take 3 (.fork 1 (.op 4 .tail) 4 (.op 1 .tail))))) (by kernel_rfl) (by kernel_rfl) ⟨c1c 0, c1c 1, c1c 2⟩ (fun hHeld => ?_)
    iterate 3
      refine tr_take (v := ?_) (by simp only [List.getElem?_toArray, List.getElem?_cons_succ, List.getElem?_cons_zero]; rfl) (Or.inl ⟨by rfl, ?_⟩) ?_
      rotate_left 1
      · intro w hSw
        try dsimp only at hSw
        go_simp
        try with_reducible rfl
      try simp only [Act.put, List.setIfInBounds_toArray, List.set_cons_zero, List.set_cons_succ]
    refine tr_fork (by simp only [List.getElem?_toArray, List.getElem?_cons_succ, List.getElem?_cons_zero]; rfl) (by simp only [List.getElem?_toArray, List.getElem?_cons_succ, List.getElem?_cons_zero]; rfl) (fun K hK => ?_) (fun K hK => ?_)
    · go_wp2_with (go_at_call 90; refine (CL.out _ (B1.out.trans (D1.out.mono B1.out.size))).mono ?_; rintro e w2 ⟨A2, c2, rfl, hO, hb2⟩)
      clear hHeld
      have F2 := Lib.hid (below_from hb2 D1.out D1.out.size)
      have F2s := Lib.hid (show w.heap.size ≤ w1.drew.heap.size from B1.out.size)
      have HO := Lib.hid hO
      refine hK.out _ _ ⟨(S1.out.past F2.out).cell 0, (S1.out.past F2.out).cell 1, (S1.out.past F2.out).cell 2⟩ (fun hHeld => ?_)
      clear hK K
      try simp only [Act.put, List.setIfInBounds_toArray, List.set_cons_zero, List.set_cons_succ]
      refine tr_op (by simp only [List.getElem?_toArray, List.getElem?_cons_succ, List.getElem?_cons_zero]; rfl) (fun K hK => ?_)
      go_wp2_with fail
      clear hHeld
      have IXX := IN.out A2 c2 i w2.heap.size (w2.alloc (.cells #[.string x.t, .int .i64 x.p, .int .i64 x.h] 45)) _ (B1.out.trans ((F2.out.alloc F2.out.size _).mono B1.out.size)) (.inr ((hO.base F2s.out).kept (below_alloc1 w2 _))) (by rw [← HL.out.len]; exact HS.out.1) (heap_alloc_new w2 _) (fun e => by have := (hO.2.1.lt _ e).2; omega) rfl
      refine hK.out _ _ ⟨(S1.out.past (F2.out.alloc F2.out.size _)).cell 0, (S1.out.past (F2.out.alloc F2.out.size _)).cell 1, (S1.out.past (F2.out.alloc F2.out.size _)).cell 2⟩ (fun hHeld => ?_)
      clear hK K
      try simp only [Act.put, List.setIfInBounds_toArray, List.set_cons_zero, List.set_cons_succ]
      refine tr_tail rfl ?_
      clear hHeld
      have IX := Lib.hid IXX
      clear IXX
      go_wp2_with (
        go_at_call 89; refine IX.out.mono ?_; rintro e w3 ⟨A3, n3, c3, rfl, hO3, hb3⟩; have B3 := Lib.hid hb3; have HO3 := Lib.hid hO3; clear hb3 hO3)
      go_ret
      rw [ins_srch HS.out]
      exact ⟨_, _, _, rfl, HO3.out.1, .inr HO3.out.2, B3.out⟩
    · go_wp2_with fail
      clear hHeld
      have F1 := Lib.hid (show Below w1.heap.size w1 (w1.drew.alloc (.cells #[.string x.t, .int .i64 x.p, .int .i64 x.h] 45)) from D1.out.alloc D1.out.size _)
      refine hK.out _ _ ⟨(S1.out.past F1.out).cell 0, (S1.out.past F1.out).cell 1, (S1.out.past F1.out).cell 2⟩ (fun hHeld => ?_)
      clear hK K
      try simp only [Act.put, List.setIfInBounds_toArray, List.set_cons_zero, List.set_cons_succ]
      refine tr_op (by simp only [List.getElem?_toArray, List.getElem?_cons_succ, List.getElem?_cons_zero]; rfl) (fun K hK => ?_)
      go_wp2_with (go_at_call 90; refine (CL.out _ (B1.out.trans (F1.out.mono B1.out.size))).mono ?_; rintro e w2 ⟨A2, c2, rfl, hO, hb2⟩)
      clear hHeld
      have F2 := Lib.hid (below_from hb2 F1.out F1.out.size)
      have F2s := Lib.hid (Nat.le_trans B1.out.size F1.out.size)
      have IXX := IN.out A2 c2 i w1.heap.size w2 _ (B1.out.trans (F2.out.mono B1.out.size)) (.inr (hO.base F2s.out)) (by rw [← HL.out.len]; exact HS.out.1) ((hb2.block w1.heap.size (by simp)).trans (heap_alloc_new w1.drew _)) (fun e => by have := (hO.2.1.lt _ e).1; have h8 : w1.drew.heap.size = w1.heap.size := rfl; simp at this; omega) rfl
      refine hK.out _ _ ⟨(S1.out.past F2.out).cell 0, (S1.out.past F2.out).cell 1, (S1.out.past F2.out).cell 2⟩ (fun hHeld => ?_)
      clear hK K
      try simp only [Act.put, List.setIfInBounds_toArray, List.set_cons_zero, List.set_cons_succ]
      refine tr_tail rfl ?_
      clear hHeld
      have IX := Lib.hid IXX
      clear IXX
      go_wp2_with (
        go_at_call 89; refine IX.out.mono ?_; rintro e w3 ⟨A3, n3, c3, rfl, hO3, hb3⟩; have B3 := Lib.hid hb3; have HO3 := Lib.hid hO3; clear hb3 hO3)
      go_ret
      rw [ins_srch HS.out]
      exact ⟨_, _, _, rfl, HO3.out.1, .inr HO3.out.2, B3.out⟩
  · go_ret
    rw [ins_srch HS.out]
    obtain ⟨hi, h0⟩ := HS.out.2.2.2.1 rfl
    have e : l.take i ++ x :: l.drop (if (true = true) then i + 1 else i) = l := by
      rw [if_pos rfl, ← ordT_eq.1 h0, List.getElem_cons_drop, List.take_append_drop]
    rw [e]
    exact ⟨_, _, _, rfl, HL.out.below B1.out, .inl ⟨rfl, rfl, rfl, rfl⟩, B1.out⟩

set_option maxRecDepth 100000 in
set_option maxHeartbeats 4000000 in
theorem withS_any (A : Option Addr) (n c : Nat) (l : List ByteArray) (x : ByteArray) (w : World) (hl : Sl strK w A n c l) (hu : Up cmpS l) (hn : n ≤ 60000) (hx : x.size ≤ maxLen) :
    Calls Try.prog 73 #[.slice A n c, .string x, .func (.func 74) #[] #[]] w fun e w' => ∃ A' n' c', e = .returned (.slice A' n' c') ∧ Sl strK w' A' n' c' (insC cmpS x l) ∧ ((A' = A ∧ n' = n ∧ c' = c ∧ insC cmpS x l = l) ∨ ∀ b off, A' = some ⟨b, off, none⟩ → w.heap.size ≤ b) ∧ Below w.heap.size w w' := by
  have B0 := Lib.hid (Below.refl w.heap.size w)
  have SR := Lib.hid (fun W (h : Below w.heap.size w W) => searchS A n c l x W 74 #[] (fun y => cmpS y x) (hl.below h) (by omega) (enters_of Try.func74 (by kernel_rfl) rfl)
    (fun j k hk hj h => lawS.trans _ _ _ (up_at hu hk hj) h) (fun y _ W _ => (compare_any y x W).mono fun _ _ h => ⟨h.1, by rw [← h.2]; exact Below.refl _ _⟩))
  have CL := Lib.hid (fun W (h : Below w.heap.size w W) => cloneS A n c l W (hl.below h) (by omega))
  have IN : Hid (∀ A2 c2 i g W W', Below w.heap.size w W → Own strK 9 W W.heap.size A2 n c2 l ∨ Own strK 9 W w.heap.size A2 n c2 l → i ≤ n → W.heap[g]? = some (.cells #[.string x] 9 (0, 0)) → (Value.slice A2 n c2).ownBlock ≠ some g → W' = W → Calls Try.prog 94 #[.slice A2 n c2, .int .i64 (i : Nat), .slice (some ⟨g, 0, none⟩) 1 1] W' fun e w3 =>
      ∃ A' n' c', e = .returned (.slice A' n' c') ∧ (Sl strK w3 A' n' c' (l.take i ++ x :: l.drop i) ∧ ∀ b off, A' = some ⟨b, off, none⟩ → w.heap.size ≤ b) ∧ Below w.heap.size w w3) := by
    refine Lib.hid fun A2 c2 i g W W' h ho hi hg hne hW => ?_
    subst hW
    have ho : Own strK 9 W' w.heap.size A2 n c2 l := ho.elim (fun h' => h'.base h.size) id
    refine (insertS_any w.heap.size A2 n c2 1 i g 1 #[.string x] (l.flatMap strK.cells) [.string x] W' ho.2.1 (RK.flat_one strK l) h.size (by omega) (by omega) hg rfl rfl (strK.one x) hne hi).mono ?_
    rintro e w3 ⟨A3, c3, rfl, ho3, hg3⟩
    exact ⟨A3, n + 1, c3, rfl, ⟨(own_ins ho hi x hx (fun _ _ h => h) ho3).sl, fun b off e => ((own_ins ho hi x hx (fun _ _ h => h) ho3).lt e).1⟩, h.trans (grown_below hg3 h.size (fun k hk => (ho.2.1.lt k hk).1))⟩
  have HL := Lib.hid hl
  clear hl hu hx hn
  go_enter Try.func73, Try.ntmps73
  go_wp2_with (first
    | (go_at_call 94; go_loud (obtain ⟨hl0, _⟩ := HS.out; refine (IN.out _ _ _ _ (w2.alloc (.cells #[.string x] 9)) _ (B2.out.alloc B2.out.size _) (.inr (HO.out.kept (below_alloc1 w2 _))) (by rw [← HL.out.len]; exact hl0) (heap_alloc_new w2 _) (fun e => by have := (HO.out.2.1.lt _ e).2; omega) rfl).mono ?_; rintro e w3 ⟨A3, n3, c3, rfl, hO3, hb3⟩; have B3 := Lib.hid hb3; have HO3 := Lib.hid hO3; clear hb3 hO3))
    | (go_at_call 93; refine (SR.out _ B0.out).mono ?_; rintro e w1 ⟨i, b, rfl, hS, hb1⟩; have B1 := Lib.hid (below_from hb1 B0.out B0.out.size); have HS := Lib.hid hS; clear hb1 hS ; cases b)
    | (go_at_call 95; refine (CL.out _ B1.out).mono ?_; rintro e w2 ⟨A2, c2, rfl, hO, hb2⟩; have B2 := Lib.hid (below_from hb2 B1.out B1.out.size); have HO := Lib.hid (hO.base B1.out.size); clear hb2 hO ))
  · go_ret
    rw [ins_srch HS.out]
    exact ⟨_, _, _, rfl, HO3.out.1, .inr HO3.out.2, B3.out⟩
  · go_ret
    rw [ins_srch HS.out]
    obtain ⟨hi, h0⟩ := HS.out.2.2.2.1 rfl
    have e : l.take i ++ x :: l.drop (if (true = true) then i + 1 else i) = l := by
      rw [if_pos rfl, ← cmpS_eq.1 h0, List.getElem_cons_drop, List.take_append_drop]
    rw [e]
    exact ⟨_, _, _, rfl, HL.out.below B1.out, .inl ⟨rfl, rfl, rfl, rfl⟩, B1.out⟩
end Go.Proofs.Ytnigjchgpmladaa
