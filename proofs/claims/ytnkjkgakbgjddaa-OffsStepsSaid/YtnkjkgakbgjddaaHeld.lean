/- held: positions with others, held one by one. -/
import Derived.Test.YtnkjkgakbgjddaaKeptL
import Derived.Test.YtnkjkgakbgjddaaFork
namespace Go.Proofs.Ytnkjkgakbgjddaa
open Go.RowKit

theorem NewOr.trans {α : Type} {D : Nat} {A0 A1 A2 : Option Addr} {n0 c0 n1 c1 n2 c2 : Nat} {l0 l1 l2 : List α} (h : NewOr D A0 n0 c0 l0 A1 n1 c1 l1) (k : NewOr D A1 n1 c1 l1 A2 n2 c2 l2) : NewOr D A0 n0 c0 l0 A2 n2 c2 l2 := by
  rcases k with ⟨rfl, rfl, rfl, rfl⟩ | k
  · exact h
  · exact .inr k
theorem Of.From.trans {D : Nat} {a b c : Of} (h : Of.From D a b) (k : Of.From D b c) : Of.From D a c := ⟨NewOr.trans h.1 k.1, NewOr.trans h.2 k.2⟩
theorem Of.At.kept5 {w5 V6 : World} {q : Of} {vs : List Value} (h : Of.At V6 q) (h5 : Of.At w5 q) (G : V6.grownBy (V6.setCells w5.heap.size 0 vs) (some w5.heap.size)) (e : V6 = w5.alloc (.cells #[.slice none 0 0, .slice none 0 0] 25)) : Of.At (V6.setCells w5.heap.size 0 vs) q := by
  subst e
  exact h5.below ((below_alloc1 w5 _).trans (grown_below G (below_alloc1 w5 _).size (fun j hj => by injection hj with hj; omega)))
/-- What is held so far. -/
structure HI (o : Of) (pid : Int) (l : List Ps) (w : World) (k : Nat) (p : Of) (wr : World) : Prop where
  a : Of.At wr p
  f : Of.From (w.heap.size + 2) o p
  v : heldV o.L o.M pid l = heldV p.L p.M pid (l.drop k)
set_option maxRecDepth 100000 in
set_option maxHeartbeats 16000000 in
theorem held_any (o : Of) (pid : Int) (A : Option Addr) (n c : Nat) (l : List Ps) (w : World) (ho : Of.At w o) (hl : Sl psK w A n c l) (hi : (Lit.int .i64 pid).wf = true) :
    Calls Try.prog 31 #[o.v, .int .i64 pid, .slice A n c] w fun e w' => ∃ q : Of, e = .returned (.tuple #[q.v, .bool (heldV o.L o.M pid l).2.2]) ∧ (Of.At w' q ∧ q.L = (heldV o.L o.M pid l).1 ∧ q.M = (heldV o.L o.M pid l).2.1) ∧ Below w.heap.size w w' := by
  obtain ⟨W0, hW0⟩ : ∃ W0, W0 = (w.alloc (.cells #[.slice o.A o.n o.c, .slice o.A' o.n' o.c'] 25)).alloc (.cells #[.slice none 0 0, .slice none 0 0] 25) := ⟨_, rfl⟩
  have B0 := Lib.hid (show Below w.heap.size w W0 from by rw [hW0]; exact (below_alloc1 w _).alloc (by simp) _)
  have S0 := Lib.hid (show Has W0 w.heap.size #[.slice o.A o.n o.c, .slice o.A' o.n' o.c'] from by rw [hW0]; exact (Has.newAt w _ 25 rfl).alloc _)
  have R0 := Lib.hid (show Has W0 (w.heap.size + 1) #[.slice none 0 0, .slice none 0 0] from by rw [hW0]; exact Has.newAt _ _ 25 (by simp))
  have z0 := Lib.hid (show w.heap.size + 2 ≤ W0.heap.size from by rw [hW0]; exact Nat.le_of_eq (by simp))
  have HW0 := Lib.hid hW0
  have HO := Lib.hid ho
  have HL := Lib.hid hl
  have LN := Lib.hid hl.len
  have I0 := Lib.hid (show HI o pid l w 0 o W0 from ⟨ho.below B0.out, Of.From.same, by rw [List.drop_zero]⟩)
  have m1 := hl.max
  have m2 := hl.cap
  have PW := Lib.hid hi
  obtain ⟨R, hR⟩ : ∃ R, heldV o.L o.M pid l = R := ⟨_, rfl⟩
  have HR := Lib.hid hR
  simp only [hR]
  clear ho hl hW0 hR hi
  go_enter Try.func31, Try.ntmps31
  go_wp2_with fail
  rw [← HW0.out]
  go_loopg [8] n (fun gg s8 wr => ∃ (k : Nat) (p : Of), k ≤ n ∧ n - k ≤ gg ∧ s8 = .int .i64 k ∧ Hid (Below w.heap.size w wr) ∧ Hid (Has wr w.heap.size #[.slice p.A p.n p.c, .slice p.A' p.n' p.c']) ∧ Hid (Has wr (w.heap.size + 1) #[.slice none 0 0, .slice none 0 0]) ∧ Hid (HI o pid l w k p wr))
  case atStart => exact ⟨0, o, Nat.zero_le _, by omega, rfl, B0, S0, R0, I0⟩
  case round =>
    obtain ⟨k, p, hk, hgg, rfl, hb, S1, R1, I⟩ := hrel
    have sc := S1.out.cell
    have sl := S1.out.lt
    have tc := R1.out.cell
    have tl := R1.out.lt
    by_cases hlt : k < n
    · obtain ⟨bb, off, hkl, rfl, hbl, u0, u1, u2, u3, u4⟩ := Pss.at_ (HL.out.below hb.out) hlt
      obtain ⟨x, hx⟩ : ∃ x, l[k] = x := ⟨_, rfl⟩
      rw [hx] at u0 u1 u2 u3 u4
      have XW := Lib.hid (show x.wf from by have := HL.out.each _ (List.getElem_mem hkl); rw [hx] at this; exact this)
      have VS := Lib.hid (show heldV p.L p.M pid (l.drop k) = if (holdV p.L p.M pid x).2.2 = 0 then heldV (holdV p.L p.M pid x).1 (holdV p.L p.M pid x).2.1 pid (l.drop (k + 1)) else ([], [], false) from by rw [List.drop_eq_getElem_cons hkl, hx]; rfl)
      have SX := Lib.hid (fun W (h : Below wr.heap.size wr W) => (show W.cell? ⟨w.heap.size, 0, none⟩ = some (.slice p.A p.n p.c) ∧ W.cell? ⟨w.heap.size, 1, none⟩ = some (.slice p.A' p.n' p.c') ∧ W.cell? ⟨bb, off + k * 5, none⟩ = some (.string x.g) ∧ W.cell? ⟨bb, off + k * 5 + 1, none⟩ = some (.string x.t) ∧ W.cell? ⟨bb, off + k * 5 + 2, none⟩ = some (.int .i64 x.p) ∧ W.cell? ⟨bb, off + k * 5 + 3, none⟩ = some (.int .i64 x.h) ∧ W.cell? ⟨bb, off + k * 5 + 4, none⟩ = some (.int .i64 x.o) from ⟨(S1.out.past h).cell 0, (S1.out.past h).cell 1, (h.cell hbl).trans u0, (h.cell hbl).trans u1, (h.cell hbl).trans u2, (h.cell hbl).trans u3, (h.cell hbl).trans u4⟩))
      have HD := Lib.hid (fun W (h : Below wr.heap.size wr W) => hold_any p pid x W (I.out.a.below h) XW.out PW.out)
      obtain ⟨V, hV⟩ : ∃ V, holdV p.L p.M pid x = V := ⟨_, rfl⟩
      obtain ⟨L1, M1, e0⟩ := V
      rw [hV] at HD VS
      simp only at HD VS
      have k0 : (0 : Int) ≤ (k : Int) := by omega
      have k1 : (k : Int) < (n : Int) := by omega
      have hw2 := Lib.hid (show w.heap.size + 2 ≤ wr.heap.size from tl)
      have D1 := Lib.hid (show Below wr.heap.size wr wr.drew from (Below.refl _ wr).drew)
      clear hx hkl hV
      unfold Ps.v at HD
      go_wp2_with fail
      refine region_tr (fun w' => w'.cell? ⟨w.heap.size, 0, none⟩ = some (.slice p.A p.n p.c) ∧ w'.cell? ⟨w.heap.size, 1, none⟩ = some (.slice p.A' p.n' p.c') ∧ w'.cell? ⟨bb, off + k * 5, none⟩ = some (.string x.g) ∧ w'.cell? ⟨bb, off + k * 5 + 1, none⟩ = some (.string x.t) ∧ w'.cell? ⟨bb, off + k * 5 + 2, none⟩ = some (.int .i64 x.p) ∧ w'.cell? ⟨bb, off + k * 5 + 3, none⟩ = some (.int .i64 x.h) ∧ w'.cell? ⟨bb, off + k * 5 + 4, none⟩ = some (.int .i64 x.o)) 12 (.take 0 (.take 1 (.take 2 (.take 3 (.take 4 (.take 5 (.fork 6 (.take 7 (.take 8 (.take 9 (.op 10 (.op 11 .tail))))) 10 (.op 6 (.take 7 (.take 8 (.take 9 (.op 11 .tail)))))))))))) (by kernel_rfl) (by kernel_rfl) (SX.out _ D1.out) (fun hHeld => ?_)
      iterate 6
        refine tr_take (v := ?_) (by simp only [List.getElem?_toArray, List.getElem?_cons_succ, List.getElem?_cons_zero]; rfl) (Or.inl ⟨by rfl, ?_⟩) ?_
        rotate_left 1
        · intro w hSw
          try dsimp only at hSw
          go_simp
          try with_reducible rfl
        try simp only [Act.put, List.setIfInBounds_toArray, List.set_cons_zero, List.set_cons_succ]
      refine tr_fork (by simp only [List.getElem?_toArray, List.getElem?_cons_succ, List.getElem?_cons_zero]; rfl) (by simp only [List.getElem?_toArray, List.getElem?_cons_succ, List.getElem?_cons_zero]; rfl) (fun K hK => ?_) (fun K hK => ?_)
      · go_wp2_with (go_at_call 16; refine (HD.out _ D1.out).mono ?_; rintro e w5 ⟨q, rfl, hA, hQL, hQM, hFr, hb5⟩)
        have F5 := Lib.hid (below_from hb5 D1.out D1.out.size)
        have QL := Lib.hid hQL
        have QM := Lib.hid hQM
        clear hHeld
        refine hK.out _ _ (SX.out _ F5.out) (fun hHeld => ?_)
        clear hK K
        try simp only [Act.put, List.setIfInBounds_toArray, List.set_cons_zero, List.set_cons_succ]
        iterate 3
          refine tr_take (v := ?_) (by simp only [List.getElem?_toArray, List.getElem?_cons_succ, List.getElem?_cons_zero]; rfl) (Or.inl ⟨by rfl, ?_⟩) ?_
          rotate_left 1
          · intro w hSw
            try dsimp only at hSw
            go_simp
            try with_reducible rfl
          try simp only [Act.put, List.setIfInBounds_toArray, List.set_cons_zero, List.set_cons_succ]
        refine tr_op (by simp only [List.getElem?_toArray, List.getElem?_cons_succ, List.getElem?_cons_zero]; rfl) (fun K hK => ?_)
        go_wp2_with fail
        clear hHeld
        obtain ⟨V6, hV6⟩ : ∃ V6, V6 = w5.alloc (.cells #[.slice none 0 0, .slice none 0 0] 25) := ⟨_, rfl⟩
        have F6 := Lib.hid (show Below wr.heap.size wr V6 from by rw [hV6]; exact F5.out.alloc F5.out.size _)
        have X6 := Lib.hid (show Has V6 w5.heap.size #[.slice none 0 0, .slice none 0 0] from by rw [hV6]; exact Has.newAt w5 _ 25 rfl)
        have A6 := Lib.hid (show Of.At V6 q from by rw [hV6]; exact hA.below (below_alloc1 _ _))
        have Z6 := Lib.hid (show wr.heap.size ≤ w5.heap.size from F5.out.size)
        have Z5 := Lib.hid (show Of.From (w5.heap.size + 1) p q ∨ True from .inr trivial)
        rw [← hV6]
        refine hK.out _ _ (SX.out _ F6.out) (fun hHeld => ?_)
        have HV6 := Lib.hid hV6
        clear hK K hV6
        try simp only [Act.put, List.setIfInBounds_toArray, List.set_cons_zero, List.set_cons_succ]
        refine tr_op (by simp only [List.getElem?_toArray, List.getElem?_cons_succ, List.getElem?_cons_zero]; rfl) (fun K hK => ?_)
        have x6c := X6.out.cell
        have x6l := X6.out.lt
        have x6f := X6.out.free
        go_wp2_with fail
        clear hHeld
        have G := setCells_grown w5.heap.size [.slice q.A q.n q.c, .slice q.A' q.n' q.c'] 0 V6
        obtain ⟨w7, hw7⟩ : ∃ w7, w7 = V6.setCells w5.heap.size 0 [.slice q.A q.n q.c, .slice q.A' q.n' q.c'] := ⟨_, rfl⟩
        have F7 := Lib.hid (show Below wr.heap.size wr w7 from by rw [hw7]; exact F6.out.trans (grown_below G F6.out.size (fun j hj => by injection hj with hj; have := Z6.out; omega)))
        have hA7 : Of.At w7 q := by
          rw [hw7]
          exact A6.out.kept5 hA G HV6.out
        have hFr7 : Of.From wr.heap.size p q := hFr
        have hX7 : Has w7 w5.heap.size #[.slice q.A q.n q.c, .slice q.A' q.n' q.c'] := by rw [hw7]; exact X6.out.set [.slice q.A q.n q.c, .slice q.A' q.n' q.c'] rfl
        have e7 : (V6.setCell ⟨w5.heap.size, 0, none⟩ (.slice q.A q.n q.c)).setCell ⟨w5.heap.size, 1, none⟩ (.slice q.A' q.n' q.c') = w7 := by rw [hw7]; rfl
        rw [e7]
        refine hK.out _ _ (SX.out _ F7.out) (fun hHeld => ?_)
        clear hK K hw7 e7 G x6c x6l x6f
        try simp only [Act.put, List.setIfInBounds_toArray, List.set_cons_zero, List.set_cons_succ]
        refine tr_tail rfl ?_
        clear hHeld
        have BX := Lib.hid (hb.out.trans (F7.out.mono hb.out.size))
        have S7 := Lib.hid (S1.out.past F7.out)
        have R7 := Lib.hid (R1.out.past F7.out)
        have AT7 := Lib.hid hA7
        have FR7 := Lib.hid (show Of.From wr.heap.size p q from hFr7)
        have XB := Lib.hid hX7
        have xc := XB.out.cell
        have xl := XB.out.lt
        have sc7 := S7.out.cell
        have sl7 := S7.out.lt
        have sf7 := S7.out.free
        have rc7 := R7.out.cell
        have rl7 := R7.out.lt
        have rf7 := R7.out.free
        clear hA7 hFr7 hX7 sc sl tc tl u0 u1 u2 u3 u4
        by_cases he : e0 = 0
        · subst he
          go_wp2_with fail
          go_roundg (n - (k + 1))
          case measure => omega
          case rel =>
            have G := setCells_grown w.heap.size [.slice q.A q.n q.c, .slice q.A' q.n' q.c'] 0 w7
            have b8 := BX.out.trans (grown_below G BX.out.size (fun j hj => by injection hj with hj; omega))
            refine ⟨k + 1, q, by omega, by omega, by go_num, Lib.hid b8, Lib.hid (S7.out.set [.slice q.A q.n q.c, .slice q.A' q.n' q.c'] rfl), Lib.hid (R7.out.grown G (by omega)), Lib.hid ⟨?_, ?_, ?_⟩⟩
            · exact AT7.out.kept ((I.out.f.trans (FR7.out.mono (by have := hw2.out; omega)))) HO.out b8 G (by omega)
            · exact I.out.f.trans (FR7.out.mono (by have := hw2.out; omega))
            · rw [I.out.v, VS.out, QL.out, QM.out]; simp
        · have d1 : (e0 == 0) = false := by rw [beq_eq_false_iff_ne]; exact he
          have d2 : decide (e0 = 0) = false := decide_eq_false he
          have RV := Lib.hid (show R = ([], [], false) from by rw [← HR.out, I.out.v, VS.out, if_neg he])
          clear he
          go_wp2_with fail
          have G := setCells_grown (w.heap.size + 1) [.slice none 0 0, .slice none 0 0] 0 w7
          refine bodyPost_ret (v := .tuple #[Of.no.v, .bool false]) (by simp [results, Try.results31, go_sem, rc7, Of.no]) rfl ?_
          exact ⟨Of.no, by rw [RV.out], ⟨Of.no_at _, by rw [RV.out]; rfl, by rw [RV.out]; rfl⟩, BX.out.trans (grown_below G BX.out.size (fun j hj => by injection hj with hj; omega))⟩
      · go_wp2_with fail
        clear hHeld
        obtain ⟨V5, hV5⟩ : ∃ V5, V5 = wr.drew.alloc (.cells #[.slice none 0 0, .slice none 0 0] 25) := ⟨_, rfl⟩
        have F5 := Lib.hid (show Below wr.heap.size wr V5 from by rw [hV5]; exact D1.out.alloc D1.out.size _)
        have X5 := Lib.hid (show Has V5 wr.heap.size #[.slice none 0 0, .slice none 0 0] from by rw [hV5]; exact Has.newAt wr.drew _ 25 rfl)
        have Z5 := Lib.hid (show V5.heap.size = wr.heap.size + 1 from by rw [hV5]; simp)
        have HV5 := Lib.hid hV5
        have e5 : (wr.alloc (.cells #[.slice none 0 0, .slice none 0 0] 25)).drew = V5 := by rw [hV5]; rfl
        try rw [e5]
        try rw [← hV5]
        refine hK.out _ _ (SX.out _ F5.out) (fun hHeld => ?_)
        clear hK K hV5 e5
        try simp only [Act.put, List.setIfInBounds_toArray, List.set_cons_zero, List.set_cons_succ]
        refine tr_op (by simp only [List.getElem?_toArray, List.getElem?_cons_succ, List.getElem?_cons_zero]; rfl) (fun K hK => ?_)
        go_wp2_with (go_at_call 16; refine (HD.out _ F5.out).mono ?_; rintro e w5 ⟨q, rfl, hA, hQL, hQM, hFr, hb5⟩)
        have F6 := Lib.hid (below_from hb5 F5.out F5.out.size)
        have QL := Lib.hid hQL
        have QM := Lib.hid hQM
        have X6 := Lib.hid (X5.out.past hb5)
        clear hHeld
        refine hK.out _ _ (SX.out _ F6.out) (fun hHeld => ?_)
        clear hK K
        try simp only [Act.put, List.setIfInBounds_toArray, List.set_cons_zero, List.set_cons_succ]
        iterate 3
          refine tr_take (v := ?_) (by simp only [List.getElem?_toArray, List.getElem?_cons_succ, List.getElem?_cons_zero]; rfl) (Or.inl ⟨by rfl, ?_⟩) ?_
          rotate_left 1
          · intro w hSw
            try dsimp only at hSw
            go_simp
            try with_reducible rfl
          try simp only [Act.put, List.setIfInBounds_toArray, List.set_cons_zero, List.set_cons_succ]
        refine tr_op (by simp only [List.getElem?_toArray, List.getElem?_cons_succ, List.getElem?_cons_zero]; rfl) (fun K hK => ?_)
        have x6c := X6.out.cell
        have x6l := X6.out.lt
        have x6f := X6.out.free
        go_wp2_with fail
        clear hHeld
        have G := setCells_grown wr.heap.size [.slice q.A q.n q.c, .slice q.A' q.n' q.c'] 0 w5
        obtain ⟨w7, hw7⟩ : ∃ w7, w7 = w5.setCells wr.heap.size 0 [.slice q.A q.n q.c, .slice q.A' q.n' q.c'] := ⟨_, rfl⟩
        have F7 := Lib.hid (show Below wr.heap.size wr w7 from by rw [hw7]; exact F6.out.trans (grown_below G F6.out.size (fun j hj => by injection hj with hj; omega)))
        have hA7 : Of.At w7 q := by
          have b7 := F7.out
          rw [hw7] at b7 ⊢
          exact hA.kept hFr I.out.a b7 G (by have := Z5.out; omega)
        have hFr7 : Of.From wr.heap.size p q := hFr.mono (by have := Z5.out; omega)
        have hX7 : Has w7 wr.heap.size #[.slice q.A q.n q.c, .slice q.A' q.n' q.c'] := by rw [hw7]; exact X6.out.set [.slice q.A q.n q.c, .slice q.A' q.n' q.c'] rfl
        have e7 : (w5.setCell ⟨wr.heap.size, 0, none⟩ (.slice q.A q.n q.c)).setCell ⟨wr.heap.size, 1, none⟩ (.slice q.A' q.n' q.c') = w7 := by rw [hw7]; rfl
        rw [e7]
        refine hK.out _ _ (SX.out _ F7.out) (fun hHeld => ?_)
        clear hK K hw7 e7 G x6c x6l x6f
        try simp only [Act.put, List.setIfInBounds_toArray, List.set_cons_zero, List.set_cons_succ]
        refine tr_tail rfl ?_
        clear hHeld
        have BX := Lib.hid (hb.out.trans (F7.out.mono hb.out.size))
        have S7 := Lib.hid (S1.out.past F7.out)
        have R7 := Lib.hid (R1.out.past F7.out)
        have AT7 := Lib.hid hA7
        have FR7 := Lib.hid (show Of.From wr.heap.size p q from hFr7)
        have XB := Lib.hid hX7
        have xc := XB.out.cell
        have xl := XB.out.lt
        have sc7 := S7.out.cell
        have sl7 := S7.out.lt
        have sf7 := S7.out.free
        have rc7 := R7.out.cell
        have rl7 := R7.out.lt
        have rf7 := R7.out.free
        clear hA7 hFr7 hX7 sc sl tc tl u0 u1 u2 u3 u4
        by_cases he : e0 = 0
        · subst he
          go_wp2_with fail
          go_roundg (n - (k + 1))
          case measure => omega
          case rel =>
            have G := setCells_grown w.heap.size [.slice q.A q.n q.c, .slice q.A' q.n' q.c'] 0 w7
            have b8 := BX.out.trans (grown_below G BX.out.size (fun j hj => by injection hj with hj; omega))
            refine ⟨k + 1, q, by omega, by omega, by go_num, Lib.hid b8, Lib.hid (S7.out.set [.slice q.A q.n q.c, .slice q.A' q.n' q.c'] rfl), Lib.hid (R7.out.grown G (by omega)), Lib.hid ⟨?_, ?_, ?_⟩⟩
            · exact AT7.out.kept ((I.out.f.trans (FR7.out.mono (by have := hw2.out; omega)))) HO.out b8 G (by omega)
            · exact I.out.f.trans (FR7.out.mono (by have := hw2.out; omega))
            · rw [I.out.v, VS.out, QL.out, QM.out]; simp
        · have d1 : (e0 == 0) = false := by rw [beq_eq_false_iff_ne]; exact he
          have d2 : decide (e0 = 0) = false := decide_eq_false he
          have RV := Lib.hid (show R = ([], [], false) from by rw [← HR.out, I.out.v, VS.out, if_neg he])
          clear he
          go_wp2_with fail
          have G := setCells_grown (w.heap.size + 1) [.slice none 0 0, .slice none 0 0] 0 w7
          refine bodyPost_ret (v := .tuple #[Of.no.v, .bool false]) (by simp [results, Try.results31, go_sem, rc7, Of.no]) rfl ?_
          exact ⟨Of.no, by rw [RV.out], ⟨Of.no_at _, by rw [RV.out]; rfl, by rw [RV.out]; rfl⟩, BX.out.trans (grown_below G BX.out.size (fun j hj => by injection hj with hj; omega))⟩
    · obtain rfl : k = n := by omega
      have RV := Lib.hid (show R = (p.L, p.M, true) from by rw [← HR.out, I.out.v, List.drop_eq_nil_of_le (Nat.le_of_eq LN.out)]; rfl)
      have sf := S1.out.free
      have rf := R1.out.free
      go_wp2_with fail
      have G := setCells_grown (w.heap.size + 1) [.slice p.A p.n p.c, .slice p.A' p.n' p.c'] 0 wr
      refine bodyPost_ret (v := .tuple #[p.v, .bool true]) (by simp [results, Try.results31, go_sem, tc]) rfl ?_
      have b8 := hb.out.trans (grown_below G hb.out.size (fun j hj => by injection hj with hj; omega))
      exact ⟨p, by rw [RV.out], ⟨I.out.a.kept I.out.f HO.out b8 G (by omega), by rw [RV.out], by rw [RV.out]⟩, b8⟩

end Go.Proofs.Ytnkjkgakbgjddaa
