/- The document's put. -/
import Derived.Test.YtmlgahambecamaaSendP
import Derived.Test.YtmlgahambecamaaAppR
import Derived.Test.YtmlgahambecamaaFork3
import Derived.Test.YtmlgahambecamaaRset
import Derived.Test.YtmlgahambecamaaBld
namespace Go.Proofs.Ytmlgahambecamaa
open Go.RowKit Go.Shelf

theorem sl_dropI {α : Type} {K : RK α} {w : World} {a : Addr} {n c : Nat} {l : List α} (h : Sl K w (some a) n c l) (m : Nat) (hm : m ≤ n) : Sl K w (if c = m then some a else some (a.add (m * K.size))) (n - m) (c - m) (l.drop m) := by
  have := sl_dropA h m hm
  split
  · rename_i e; rw [if_pos e] at this; exact this
  · rename_i e; rw [if_neg e] at this; exact this
/-- A list with a message put in its place. -/
def PutM (l : List Mg) (m : Mg) (w : World) (e : Ending) (w' : World) : Prop := ∃ (A' : Option Addr) (n' c' : Nat) (l' : List Mg), e = .returned (.slice A' n' c') ∧ ROwn mgK 40 w' w.heap.size A' n' c' l' ∧ l'.map Mg.val = putL (l.map Mg.val) m.val ∧ (∀ a ∈ l', a = m ∨ a ∈ l) ∧ Below w.heap.size w w'

set_option maxHeartbeats 16000000 in
set_option maxRecDepth 100000 in
theorem rput_any (A : Option Addr) (n c : Nat) (l : List Mg) (m : Mg) (w : World) (hl : Sl mgK w A n c l) (hn : n ≤ 60000) : Calls Try.prog 52 #[.slice A n c, m.v] w (PutM l m w) := by
  obtain ⟨i0, hi, hz0, hz1, hz2⟩ := info_parts inf40
  obtain ⟨W0, hW0⟩ : ∃ W0, W0 = w.alloc (.cells #[.int .i64 m.t, .int .i64 m.no, .int .i64 m.frm, .int .i64 m.dst, .slice m.A m.n m.c] 40) := ⟨_, rfl⟩
  have B0 := Lib.hid (show Below w.heap.size w W0 from by rw [hW0]; exact below_alloc1 w _)
  have P0 := Lib.hid (show Has W0 w.heap.size #[.int .i64 m.t, .int .i64 m.no, .int .i64 m.frm, .int .i64 m.dst, .slice m.A m.n m.c] from by rw [hW0]; exact Has.newAt w _ 40 rfl)
  have HW0 := Lib.hid hW0
  have HL := Lib.hid hl
  have LN := Lib.hid (show l.length = n from hl.len)
  have l1 : c ≤ _ := hl.max
  have l2 : n ≤ c := hl.cap
  have NIL := Lib.hid (show A = none → n = 0 ∧ c = 0 from hl.adr)
  clear hl hW0
  go_enter Try.func52, Try.ntmps52
  go_wp2_with fail
  rw [← HW0.out]
  go_loopg [5] n (fun gg s5 wr => ∃ k : Nat, k ≤ n ∧ n - k ≤ gg ∧ s5 = .int .i64 k ∧ Hid (Below w.heap.size w wr) ∧ Hid (Has wr w.heap.size #[.int .i64 m.t, .int .i64 m.no, .int .i64 m.frm, .int .i64 m.dst, .slice m.A m.n m.c]) ∧ Hid (∀ j (h : j < l.length), j < k → aheadB l[j].val m.val = true))
  case atStart => exact ⟨0, Nat.zero_le _, by omega, rfl, B0, P0, Lib.hid (fun i _ hi => absurd hi (Nat.not_lt_zero _))⟩
  case round =>
    obtain ⟨k, hk, hgg, rfl, B1, P1, hok⟩ := hrel
    go_upto_region 2 with (fail)
    go_cut [17] (fun s17 wx => ∃ q : Bool, s17 = .bool q ∧ Hid (Below w.heap.size w wx) ∧ Hid (Has wx w.heap.size #[.int .i64 m.t, .int .i64 m.no, .int .i64 m.frm, .int .i64 m.dst, .slice m.A m.n m.c]) ∧ ((q = true ∧ k < n ∧ Hid (∀ j (h : j < l.length), j < k + 1 → aheadB l[j].val m.val = true)) ∨ (q = false ∧ Hid (∀ h : k < l.length, aheadB l[k].val m.val = false))))
    case first =>
      by_cases hlt : k < n
      · obtain ⟨b, off, hkl, hA, hbl, x0, x1, x2, x3, x4⟩ := mg_at (HL.out.below B1.out) hlt
        subst hA
        obtain ⟨x, hx⟩ : ∃ x, l[k] = x := ⟨_, rfl⟩
        rw [hx] at x0 x1 x2 x3 x4
        have k0 : (0 : Int) ≤ (k : Int) := by omega
        have k1 : (k : Int) < (n : Int) := by omega
        have dk : decide ((k : Int) < (n : Int)) = true := decide_eq_true k1
        have dk' : decide (k < n) = true := decide_eq_true hlt
        obtain ⟨q, hq⟩ : ∃ q, aheadB x.val m.val = q := ⟨_, rfl⟩
        have OD := Lib.hid (fun W' (_ : Below wr.heap.size wr W') => ahead_any x m W')
        rw [hq] at OD
        have ANS := Lib.hid (show (q = true ∧ k < n ∧ Hid (∀ j (h : j < l.length), j < k + 1 → aheadB l[j].val m.val = true)) ∨ (q = false ∧ Hid (∀ h : k < l.length, aheadB l[k].val m.val = false)) from by
          cases q with
          | true =>
            refine .inl ⟨rfl, hlt, Lib.hid (fun j hj hjk => ?_)⟩
            rcases Nat.lt_or_ge j k with h' | h'
            · exact hok.out j hj h'
            · obtain rfl : j = k := by omega
              rw [hx]; exact hq
          | false => exact .inr ⟨rfl, Lib.hid (fun h => by rw [hx]; exact hq)⟩)
        clear hq hx
        have rx0 := at_regrown x0
        have rx1 := at_regrown x1
        have rx2 := at_regrown x2
        have rx3 := at_regrown x3
        have rx4 := at_regrown x4
        have rp0 := at_regrown (P1.out.cell 0)
        have rp1 := at_regrown (P1.out.cell 1)
        have rp2 := at_regrown (P1.out.cell 2)
        have rp3 := at_regrown (P1.out.cell 3)
        have rp4 := at_regrown (P1.out.cell 4)
        have pl := P1.out.lt
        go_wp2_with fail
        refine region_below (by kernel_rfl) (by kernel_rfl) ?_
        repeat (go_big_quiet_step (exact call_regrown OD.out))
        refine wpQuiet_nil ?_
        intro wz hbz
        have B2 := Lib.hid (below_from hbz B1.out B1.out.size)
        have P2 := Lib.hid (P1.out.past hbz)
        clear hbz
        go_wp2_with fail
        go_meet
        exact ⟨q, rfl, B2, P2, ANS.out⟩
      · have dk : decide ((k : Int) < (n : Int)) = false := decide_eq_false (by omega)
        have dk' : decide (k < n) = false := decide_eq_false hlt
        go_wp2_with fail
        refine region_below (by kernel_rfl) (by kernel_rfl) ?_
        repeat (go_big_quiet_step (fail))
        refine wpQuiet_nil ?_
        intro wz hbz
        have B2 := Lib.hid (below_from hbz B1.out B1.out.size)
        have P2 := Lib.hid (P1.out.past hbz)
        clear hbz
        go_wp2_with fail
        go_meet
        exact ⟨false, rfl, B2, P2, .inr ⟨rfl, Lib.hid (fun h => by have := LN.out; omega)⟩⟩
    case rest =>
      obtain ⟨q, rfl, B2, P2, hcases⟩ := hcut
      rcases hcases with ⟨rfl, hlt, hok2⟩ | ⟨rfl, hno⟩
      · go_wp2_with fail
        go_roundg (n - (k + 1))
        case measure => omega
        case rel => exact ⟨k + 1, by omega, by omega, by go_num, B2, P2, hok2⟩
      · have pc := P2.out.cell
        have pl := P2.out.lt
        go_wp2_with fail
        have PV := Lib.hid (show (l.take k ++ [m] ++ l.drop k).map Mg.val = putL (l.map Mg.val) m.val from by
          rw [put_at (L := l.map Mg.val) (m := m.val) (i := k) (by rw [List.length_map, LN.out]; exact hk) (fun j h hj => by rw [List.getElem_map]; exact hok.out j (by simpa using h) hj) (fun h => by rw [List.getElem_map]; exact hno.out (by simpa using h))]
          simp)
        have ME := Lib.hid (show ∀ a ∈ l.take k ++ [m] ++ l.drop k, a = m ∨ a ∈ l from fun a ha => by
          rcases List.mem_append.1 ha with ha | ha
          · rcases List.mem_append.1 ha with ha | ha
            · exact .inr (List.mem_of_mem_take ha)
            · exact .inl (List.mem_singleton.1 ha)
          · exact .inr (List.mem_of_mem_drop ha))
        rcases A with _ | a0
        · skip
          obtain ⟨rfl, rfl⟩ := NIL.out rfl
          obtain rfl : k = 0 := by omega
          refine region_tr3 (fun w' => ∀ i, w'.cell? ⟨w.heap.size, i, none⟩ = (#[.int .i64 m.t, .int .i64 m.no, .int .i64 m.frm, .int .i64 m.dst, .slice m.A m.n m.c] : Array Value)[i]?) 11 (.take 0 (.take 1 (.take 2 (.take 4 (.take 7 (.take 8 (.take 9 (.fork 3 (.op 5 (.op 6 (.op 10 .tail))) 5 (.op 3 (.op 6 (.op 10 .tail))))))))))) (by kernel_rfl) (by kernel_rfl) P2.out.drew.cell (fun hHeld => ?_)
          clear pc pl
          have zb : w.heap.size + 1 ≤ wc.drew.heap.size := P2.out.lt
          have BY := Lib.hid B2.out.drew
          have PY := Lib.hid P2.out.drew
          have CB0 := Lib.hid (Below.refl (w.heap.size + 1) wc.drew)
          iterate 7
            refine tr_take3 (v := ?_) (by simp only [List.getElem?_toArray, List.getElem?_cons_succ, List.getElem?_cons_zero]; rfl) (Or.inl ⟨by rfl, ?_⟩) ?_
            rotate_left 1
            · intro w hSw
              try dsimp only at hSw
              go_simp
              try with_reducible rfl
            try simp only [Act.put, List.setIfInBounds_toArray, List.set_cons_zero, List.set_cons_succ]
          refine tr_fork3 (by simp only [List.getElem?_toArray, List.getElem?_cons_succ, List.getElem?_cons_zero]; rfl) (by simp only [List.getElem?_toArray, List.getElem?_cons_succ, List.getElem?_cons_zero]; rfl) (fun K hK => ?_) (fun K hK => ?_)
          · skip
            refine wpList_append_sl (K := mgK) _ rfl _ _ 22 rfl (w.heap.size + 1) 40 i0 _ 56 Try.underlying22 hi hz0 hz1 hz2 rfl none 0 0 [] rfl (World.ownsRow_nil _ _ _ _) none 0 0 (l.take 0) rfl ((HL.out.below (BY.out.trans (CB0.out.mono (Nat.le_succ _)))).take 0 (by omega)) (by unfold maxLen; omega) (by omega) (Nat.le_trans zb CB0.out.size) ?_
            intro A1 c1 W1
            rw [Nat.zero_add, List.nil_append]
            intro ho hg _
            refine wpList_nil ?_
            have CB1 := Lib.hid (CB0.out.trans (grown_below hg (Nat.le_trans zb CB0.out.size) (fun q hq => by cases hq)))
            have O1 := Lib.hid (show ROwn mgK 40 W1 (w.heap.size + 1) A1 0 c1 (l.take 0) from ⟨by rw [List.length_take, LN.out]; omega, ho⟩)
            clear ho hg
            clear hHeld
            refine hK.out _ _ (PY.out.below CB1.out (Nat.lt_succ_self _)).cell (fun hHeld => ?_)
            clear hK K
            try simp only [Act.put, List.setIfInBounds_toArray, List.set_cons_zero, List.set_cons_succ]
            refine tr_op3 (by simp only [List.getElem?_toArray, List.getElem?_cons_succ, List.getElem?_cons_zero]; rfl) (fun K hK => ?_)
            refine wpList_build1 _ rfl 22 40 _ rfl i0 _ Try.underlying22 hi hz0 #[.int .i64 m.t, .int .i64 m.no, .int .i64 m.frm, .int .i64 m.dst, .slice m.A m.n m.c] rfl 5 hz1 rfl (by decide) (by decide) (some 25) rfl (W1).heap.size rfl ?_
            refine wpList_nil ?_
            have gm := Has.newAt (W1) #[.int .i64 m.t, .int .i64 m.no, .int .i64 m.frm, .int .i64 m.dst, .slice m.A m.n m.c] 40 (g := (W1).heap.size) rfl
            have cb := CB1.out.alloc (Nat.le_trans zb CB1.out.size) (.cells #[.int .i64 m.t, .int .i64 m.no, .int .i64 m.frm, .int .i64 m.dst, .slice m.A m.n m.c] 40)
            have k2 := O1.out.kept (below_alloc1 W1 (.cells #[.int .i64 m.t, .int .i64 m.no, .int .i64 m.frm, .int .i64 m.dst, .slice m.A m.n m.c] 40))
            obtain ⟨G, hG⟩ : ∃ G, G = W1.heap.size := ⟨_, rfl⟩
            obtain ⟨W2, hW⟩ : ∃ W2, W2 = W1.alloc (.cells #[.int .i64 m.t, .int .i64 m.no, .int .i64 m.frm, .int .i64 m.dst, .slice m.A m.n m.c] 40) := ⟨_, rfl⟩
            rw [← hG] at gm ⊢
            rw [← hW] at gm cb k2 ⊢
            clear hW hG O1
            have CB2 := Lib.hid cb
            have GM := Lib.hid gm
            have O1 := Lib.hid k2
            clear cb gm k2
            clear hHeld
            refine hK.out _ _ (PY.out.below CB2.out (Nat.lt_succ_self _)).cell (fun hHeld => ?_)
            clear hK K
            try simp only [Act.put, List.setIfInBounds_toArray, List.set_cons_zero, List.set_cons_succ]
            refine tr_op3 (by simp only [List.getElem?_toArray, List.getElem?_cons_succ, List.getElem?_cons_zero]; rfl) (fun K hK => ?_)
            refine wpList_app1R (K := mgK) _ rfl _ _ 22 rfl (w.heap.size + 1) 40 i0 _ 56 Try.underlying22 hi hz0 hz1 hz2 rfl A1 0 c1 _ rfl O1.out G rfl m (fun j _ => (GM.out.cell j).trans (by simp [mgK, Mg.cells])) (by unfold maxLen; omega) (by omega) (Nat.le_trans zb CB2.out.size) ?_
            intro A2 c2 W3 ho hg _
            refine wpList_nil ?_
            have CB3 := Lib.hid (CB2.out.trans (grown_below hg (Nat.le_trans zb CB2.out.size) (fun q hq => (O1.out.2.lt q hq).1)))
            have O2 := Lib.hid ho
            clear ho hg
            clear hHeld
            refine hK.out _ _ (PY.out.below CB3.out (Nat.lt_succ_self _)).cell (fun hHeld => ?_)
            clear hK K
            try simp only [Act.put, List.setIfInBounds_toArray, List.set_cons_zero, List.set_cons_succ]
            refine tr_op3 (by simp only [List.getElem?_toArray, List.getElem?_cons_succ, List.getElem?_cons_zero]; rfl) (fun K hK => ?_)
            refine wpList_append_sl (K := mgK) _ rfl _ _ 22 rfl (w.heap.size + 1) 40 i0 _ 56 Try.underlying22 hi hz0 hz1 hz2 rfl A2 (0 + 1) c2 _ rfl O2.out.2 none 0 0 (l.drop 0) rfl (show Sl mgK W3 none 0 0 (l.drop 0) from by rw [List.drop_zero]; exact HL.out.below (BY.out.trans (CB3.out.mono (Nat.le_succ _)))) (by unfold maxLen; omega) (by omega) (Nat.le_trans zb CB3.out.size) ?_
            intro A4 c4 W4 ho hg _
            refine wpList_nil ?_
            have CB4 := Lib.hid (CB3.out.trans (grown_below hg (Nat.le_trans zb CB3.out.size) (fun q hq => (O2.out.2.lt q hq).1)))
            have O4 := Lib.hid (show ROwn mgK 40 W4 (w.heap.size + 1) A4 (0 + 1 + 0) c4 (l.take 0 ++ [m] ++ l.drop 0) from ⟨by rw [List.length_append, O2.out.1, List.length_drop, LN.out], by simpa only [List.flatMap_append] using ho⟩)
            clear ho hg
            clear hHeld
            refine hK.out _ _ (PY.out.below CB4.out (Nat.lt_succ_self _)).cell (fun hHeld => ?_)
            clear hK K
            try simp only [Act.put, List.setIfInBounds_toArray, List.set_cons_zero, List.set_cons_succ]
            refine tr_tail3 rfl ?_
            go_wp2_with fail
            all_goals go_ret
            all_goals exact ⟨A4, _, c4, _, rfl, O4.out.base (Nat.le_succ _), PV.out, ME.out, BY.out.trans (CB4.out.mono (Nat.le_succ _))⟩
          · skip
            refine wpList_build1 _ rfl 22 40 _ rfl i0 _ Try.underlying22 hi hz0 #[.int .i64 m.t, .int .i64 m.no, .int .i64 m.frm, .int .i64 m.dst, .slice m.A m.n m.c] rfl 5 hz1 rfl (by decide) (by decide) (some 25) rfl (wc.drew).heap.size rfl ?_
            refine wpList_nil ?_
            have gm := Has.newAt (wc.drew) #[.int .i64 m.t, .int .i64 m.no, .int .i64 m.frm, .int .i64 m.dst, .slice m.A m.n m.c] 40 (g := (wc.drew).heap.size) rfl
            have cb := CB0.out.alloc (Nat.le_trans zb CB0.out.size) (.cells #[.int .i64 m.t, .int .i64 m.no, .int .i64 m.frm, .int .i64 m.dst, .slice m.A m.n m.c] 40)
            obtain ⟨G, hG⟩ : ∃ G, G = wc.drew.heap.size := ⟨_, rfl⟩
            obtain ⟨W1, hW⟩ : ∃ W1, W1 = wc.drew.alloc (.cells #[.int .i64 m.t, .int .i64 m.no, .int .i64 m.frm, .int .i64 m.dst, .slice m.A m.n m.c] 40) := ⟨_, rfl⟩
            rw [← hG] at gm ⊢
            rw [← hW] at gm cb ⊢
            clear hW hG
            have CB1 := Lib.hid cb
            have GM0 := Lib.hid gm
            clear cb gm
            clear hHeld
            refine hK.out _ _ (PY.out.below CB1.out (Nat.lt_succ_self _)).cell (fun hHeld => ?_)
            clear hK K
            try simp only [Act.put, List.setIfInBounds_toArray, List.set_cons_zero, List.set_cons_succ]
            refine tr_op3 (by simp only [List.getElem?_toArray, List.getElem?_cons_succ, List.getElem?_cons_zero]; rfl) (fun K hK => ?_)
            refine wpList_append_sl (K := mgK) _ rfl _ _ 22 rfl (w.heap.size + 1) 40 i0 _ 56 Try.underlying22 hi hz0 hz1 hz2 rfl none 0 0 [] rfl (World.ownsRow_nil _ _ _ _) none 0 0 (l.take 0) rfl ((HL.out.below (BY.out.trans (CB1.out.mono (Nat.le_succ _)))).take 0 (by omega)) (by unfold maxLen; omega) (by omega) (Nat.le_trans zb CB1.out.size) ?_
            intro A1 c1 W2
            rw [Nat.zero_add, List.nil_append]
            intro ho hg _
            refine wpList_nil ?_
            have CB2 := Lib.hid (CB1.out.trans (grown_below hg (Nat.le_trans zb CB1.out.size) (fun q hq => by cases hq)))
            have O1 := Lib.hid (show ROwn mgK 40 W2 (w.heap.size + 1) A1 0 c1 (l.take 0) from ⟨by rw [List.length_take, LN.out]; omega, ho⟩)
            have GM := Lib.hid (GM0.out.beside hg (fun e => by cases e))
            clear ho hg
            clear hHeld
            refine hK.out _ _ (PY.out.below CB2.out (Nat.lt_succ_self _)).cell (fun hHeld => ?_)
            clear hK K
            try simp only [Act.put, List.setIfInBounds_toArray, List.set_cons_zero, List.set_cons_succ]
            refine tr_op3 (by simp only [List.getElem?_toArray, List.getElem?_cons_succ, List.getElem?_cons_zero]; rfl) (fun K hK => ?_)
            refine wpList_app1R (K := mgK) _ rfl _ _ 22 rfl (w.heap.size + 1) 40 i0 _ 56 Try.underlying22 hi hz0 hz1 hz2 rfl A1 0 c1 _ rfl O1.out G rfl m (fun j _ => (GM.out.cell j).trans (by simp [mgK, Mg.cells])) (by unfold maxLen; omega) (by omega) (Nat.le_trans zb CB2.out.size) ?_
            intro A2 c2 W3 ho hg _
            refine wpList_nil ?_
            have CB3 := Lib.hid (CB2.out.trans (grown_below hg (Nat.le_trans zb CB2.out.size) (fun q hq => (O1.out.2.lt q hq).1)))
            have O2 := Lib.hid ho
            clear ho hg
            clear hHeld
            refine hK.out _ _ (PY.out.below CB3.out (Nat.lt_succ_self _)).cell (fun hHeld => ?_)
            clear hK K
            try simp only [Act.put, List.setIfInBounds_toArray, List.set_cons_zero, List.set_cons_succ]
            refine tr_op3 (by simp only [List.getElem?_toArray, List.getElem?_cons_succ, List.getElem?_cons_zero]; rfl) (fun K hK => ?_)
            refine wpList_append_sl (K := mgK) _ rfl _ _ 22 rfl (w.heap.size + 1) 40 i0 _ 56 Try.underlying22 hi hz0 hz1 hz2 rfl A2 (0 + 1) c2 _ rfl O2.out.2 none 0 0 (l.drop 0) rfl (show Sl mgK W3 none 0 0 (l.drop 0) from by rw [List.drop_zero]; exact HL.out.below (BY.out.trans (CB3.out.mono (Nat.le_succ _)))) (by unfold maxLen; omega) (by omega) (Nat.le_trans zb CB3.out.size) ?_
            intro A4 c4 W4 ho hg _
            refine wpList_nil ?_
            have CB4 := Lib.hid (CB3.out.trans (grown_below hg (Nat.le_trans zb CB3.out.size) (fun q hq => (O2.out.2.lt q hq).1)))
            have O4 := Lib.hid (show ROwn mgK 40 W4 (w.heap.size + 1) A4 (0 + 1 + 0) c4 (l.take 0 ++ [m] ++ l.drop 0) from ⟨by rw [List.length_append, O2.out.1, List.length_drop, LN.out], by simpa only [List.flatMap_append] using ho⟩)
            clear ho hg
            clear hHeld
            refine hK.out _ _ (PY.out.below CB4.out (Nat.lt_succ_self _)).cell (fun hHeld => ?_)
            clear hK K
            try simp only [Act.put, List.setIfInBounds_toArray, List.set_cons_zero, List.set_cons_succ]
            refine tr_tail3 rfl ?_
            go_wp2_with fail
            all_goals go_ret
            all_goals exact ⟨A4, _, c4, _, rfl, O4.out.base (Nat.le_succ _), PV.out, ME.out, BY.out.trans (CB4.out.mono (Nat.le_succ _))⟩
        · skip
          have kc : k ≤ c := by omega
          refine region_tr3 (fun w' => ∀ i, w'.cell? ⟨w.heap.size, i, none⟩ = (#[.int .i64 m.t, .int .i64 m.no, .int .i64 m.frm, .int .i64 m.dst, .slice m.A m.n m.c] : Array Value)[i]?) 11 (.take 0 (.take 1 (.take 2 (.take 4 (.take 7 (.take 8 (.take 9 (.fork 3 (.op 5 (.op 6 (.op 10 .tail))) 5 (.op 3 (.op 6 (.op 10 .tail))))))))))) (by kernel_rfl) (by kernel_rfl) P2.out.drew.cell (fun hHeld => ?_)
          clear pc pl
          have zb : w.heap.size + 1 ≤ wc.drew.heap.size := P2.out.lt
          have BY := Lib.hid B2.out.drew
          have PY := Lib.hid P2.out.drew
          have CB0 := Lib.hid (Below.refl (w.heap.size + 1) wc.drew)
          iterate 7
            refine tr_take3 (v := ?_) (by simp only [List.getElem?_toArray, List.getElem?_cons_succ, List.getElem?_cons_zero]; rfl) (Or.inl ⟨by rfl, ?_⟩) ?_
            rotate_left 1
            · intro w hSw
              try dsimp only at hSw
              go_simp
              try with_reducible rfl
            try simp only [Act.put, List.setIfInBounds_toArray, List.set_cons_zero, List.set_cons_succ]
          refine tr_fork3 (by simp only [List.getElem?_toArray, List.getElem?_cons_succ, List.getElem?_cons_zero]; rfl) (by simp only [List.getElem?_toArray, List.getElem?_cons_succ, List.getElem?_cons_zero]; rfl) (fun K hK => ?_) (fun K hK => ?_)
          · skip
            refine wpList_append_sl (K := mgK) _ rfl _ _ 22 rfl (w.heap.size + 1) 40 i0 _ 56 Try.underlying22 hi hz0 hz1 hz2 rfl none 0 0 [] rfl (World.ownsRow_nil _ _ _ _) (some a0) k c (l.take k) rfl ((HL.out.below (BY.out.trans (CB0.out.mono (Nat.le_succ _)))).take k (by omega)) (by unfold maxLen; omega) (by omega) (Nat.le_trans zb CB0.out.size) ?_
            intro A1 c1 W1
            rw [Nat.zero_add, List.nil_append]
            intro ho hg _
            refine wpList_nil ?_
            have CB1 := Lib.hid (CB0.out.trans (grown_below hg (Nat.le_trans zb CB0.out.size) (fun q hq => by cases hq)))
            have O1 := Lib.hid (show ROwn mgK 40 W1 (w.heap.size + 1) A1 k c1 (l.take k) from ⟨by rw [List.length_take, LN.out]; omega, ho⟩)
            clear ho hg
            clear hHeld
            refine hK.out _ _ (PY.out.below CB1.out (Nat.lt_succ_self _)).cell (fun hHeld => ?_)
            clear hK K
            try simp only [Act.put, List.setIfInBounds_toArray, List.set_cons_zero, List.set_cons_succ]
            refine tr_op3 (by simp only [List.getElem?_toArray, List.getElem?_cons_succ, List.getElem?_cons_zero]; rfl) (fun K hK => ?_)
            refine wpList_build1 _ rfl 22 40 _ rfl i0 _ Try.underlying22 hi hz0 #[.int .i64 m.t, .int .i64 m.no, .int .i64 m.frm, .int .i64 m.dst, .slice m.A m.n m.c] rfl 5 hz1 rfl (by decide) (by decide) (some 25) rfl (W1).heap.size rfl ?_
            refine wpList_nil ?_
            have gm := Has.newAt (W1) #[.int .i64 m.t, .int .i64 m.no, .int .i64 m.frm, .int .i64 m.dst, .slice m.A m.n m.c] 40 (g := (W1).heap.size) rfl
            have cb := CB1.out.alloc (Nat.le_trans zb CB1.out.size) (.cells #[.int .i64 m.t, .int .i64 m.no, .int .i64 m.frm, .int .i64 m.dst, .slice m.A m.n m.c] 40)
            have k2 := O1.out.kept (below_alloc1 W1 (.cells #[.int .i64 m.t, .int .i64 m.no, .int .i64 m.frm, .int .i64 m.dst, .slice m.A m.n m.c] 40))
            obtain ⟨G, hG⟩ : ∃ G, G = W1.heap.size := ⟨_, rfl⟩
            obtain ⟨W2, hW⟩ : ∃ W2, W2 = W1.alloc (.cells #[.int .i64 m.t, .int .i64 m.no, .int .i64 m.frm, .int .i64 m.dst, .slice m.A m.n m.c] 40) := ⟨_, rfl⟩
            rw [← hG] at gm ⊢
            rw [← hW] at gm cb k2 ⊢
            clear hW hG O1
            have CB2 := Lib.hid cb
            have GM := Lib.hid gm
            have O1 := Lib.hid k2
            clear cb gm k2
            clear hHeld
            refine hK.out _ _ (PY.out.below CB2.out (Nat.lt_succ_self _)).cell (fun hHeld => ?_)
            clear hK K
            try simp only [Act.put, List.setIfInBounds_toArray, List.set_cons_zero, List.set_cons_succ]
            refine tr_op3 (by simp only [List.getElem?_toArray, List.getElem?_cons_succ, List.getElem?_cons_zero]; rfl) (fun K hK => ?_)
            refine wpList_app1R (K := mgK) _ rfl _ _ 22 rfl (w.heap.size + 1) 40 i0 _ 56 Try.underlying22 hi hz0 hz1 hz2 rfl A1 k c1 _ rfl O1.out G rfl m (fun j _ => (GM.out.cell j).trans (by simp [mgK, Mg.cells])) (by unfold maxLen; omega) (by omega) (Nat.le_trans zb CB2.out.size) ?_
            intro A2 c2 W3 ho hg _
            refine wpList_nil ?_
            have CB3 := Lib.hid (CB2.out.trans (grown_below hg (Nat.le_trans zb CB2.out.size) (fun q hq => (O1.out.2.lt q hq).1)))
            have O2 := Lib.hid ho
            clear ho hg
            clear hHeld
            refine hK.out _ _ (PY.out.below CB3.out (Nat.lt_succ_self _)).cell (fun hHeld => ?_)
            clear hK K
            try simp only [Act.put, List.setIfInBounds_toArray, List.set_cons_zero, List.set_cons_succ]
            refine tr_op3 (by simp only [List.getElem?_toArray, List.getElem?_cons_succ, List.getElem?_cons_zero]; rfl) (fun K hK => ?_)
            refine wpList_append_sl (K := mgK) _ rfl _ _ 22 rfl (w.heap.size + 1) 40 i0 _ 56 Try.underlying22 hi hz0 hz1 hz2 rfl A2 (k + 1) c2 _ rfl O2.out.2 _ (n - k) _ (l.drop k) rfl (sl_dropI (HL.out.below (BY.out.trans (CB3.out.mono (Nat.le_succ _)))) k hk) (by unfold maxLen; omega) (by omega) (Nat.le_trans zb CB3.out.size) ?_
            intro A4 c4 W4 ho hg _
            refine wpList_nil ?_
            have CB4 := Lib.hid (CB3.out.trans (grown_below hg (Nat.le_trans zb CB3.out.size) (fun q hq => (O2.out.2.lt q hq).1)))
            have O4 := Lib.hid (show ROwn mgK 40 W4 (w.heap.size + 1) A4 (k + 1 + (n - k)) c4 (l.take k ++ [m] ++ l.drop k) from ⟨by rw [List.length_append, O2.out.1, List.length_drop, LN.out], by simpa only [List.flatMap_append] using ho⟩)
            clear ho hg
            clear hHeld
            refine hK.out _ _ (PY.out.below CB4.out (Nat.lt_succ_self _)).cell (fun hHeld => ?_)
            clear hK K
            try simp only [Act.put, List.setIfInBounds_toArray, List.set_cons_zero, List.set_cons_succ]
            refine tr_tail3 rfl ?_
            go_wp2_with fail
            all_goals go_ret
            all_goals exact ⟨A4, _, c4, _, rfl, O4.out.base (Nat.le_succ _), PV.out, ME.out, BY.out.trans (CB4.out.mono (Nat.le_succ _))⟩
          · skip
            refine wpList_build1 _ rfl 22 40 _ rfl i0 _ Try.underlying22 hi hz0 #[.int .i64 m.t, .int .i64 m.no, .int .i64 m.frm, .int .i64 m.dst, .slice m.A m.n m.c] rfl 5 hz1 rfl (by decide) (by decide) (some 25) rfl (wc.drew).heap.size rfl ?_
            refine wpList_nil ?_
            have gm := Has.newAt (wc.drew) #[.int .i64 m.t, .int .i64 m.no, .int .i64 m.frm, .int .i64 m.dst, .slice m.A m.n m.c] 40 (g := (wc.drew).heap.size) rfl
            have cb := CB0.out.alloc (Nat.le_trans zb CB0.out.size) (.cells #[.int .i64 m.t, .int .i64 m.no, .int .i64 m.frm, .int .i64 m.dst, .slice m.A m.n m.c] 40)
            obtain ⟨G, hG⟩ : ∃ G, G = wc.drew.heap.size := ⟨_, rfl⟩
            obtain ⟨W1, hW⟩ : ∃ W1, W1 = wc.drew.alloc (.cells #[.int .i64 m.t, .int .i64 m.no, .int .i64 m.frm, .int .i64 m.dst, .slice m.A m.n m.c] 40) := ⟨_, rfl⟩
            rw [← hG] at gm ⊢
            rw [← hW] at gm cb ⊢
            clear hW hG
            have CB1 := Lib.hid cb
            have GM0 := Lib.hid gm
            clear cb gm
            clear hHeld
            refine hK.out _ _ (PY.out.below CB1.out (Nat.lt_succ_self _)).cell (fun hHeld => ?_)
            clear hK K
            try simp only [Act.put, List.setIfInBounds_toArray, List.set_cons_zero, List.set_cons_succ]
            refine tr_op3 (by simp only [List.getElem?_toArray, List.getElem?_cons_succ, List.getElem?_cons_zero]; rfl) (fun K hK => ?_)
            refine wpList_append_sl (K := mgK) _ rfl _ _ 22 rfl (w.heap.size + 1) 40 i0 _ 56 Try.underlying22 hi hz0 hz1 hz2 rfl none 0 0 [] rfl (World.ownsRow_nil _ _ _ _) (some a0) k c (l.take k) rfl ((HL.out.below (BY.out.trans (CB1.out.mono (Nat.le_succ _)))).take k (by omega)) (by unfold maxLen; omega) (by omega) (Nat.le_trans zb CB1.out.size) ?_
            intro A1 c1 W2
            rw [Nat.zero_add, List.nil_append]
            intro ho hg _
            refine wpList_nil ?_
            have CB2 := Lib.hid (CB1.out.trans (grown_below hg (Nat.le_trans zb CB1.out.size) (fun q hq => by cases hq)))
            have O1 := Lib.hid (show ROwn mgK 40 W2 (w.heap.size + 1) A1 k c1 (l.take k) from ⟨by rw [List.length_take, LN.out]; omega, ho⟩)
            have GM := Lib.hid (GM0.out.beside hg (fun e => by cases e))
            clear ho hg
            clear hHeld
            refine hK.out _ _ (PY.out.below CB2.out (Nat.lt_succ_self _)).cell (fun hHeld => ?_)
            clear hK K
            try simp only [Act.put, List.setIfInBounds_toArray, List.set_cons_zero, List.set_cons_succ]
            refine tr_op3 (by simp only [List.getElem?_toArray, List.getElem?_cons_succ, List.getElem?_cons_zero]; rfl) (fun K hK => ?_)
            refine wpList_app1R (K := mgK) _ rfl _ _ 22 rfl (w.heap.size + 1) 40 i0 _ 56 Try.underlying22 hi hz0 hz1 hz2 rfl A1 k c1 _ rfl O1.out G rfl m (fun j _ => (GM.out.cell j).trans (by simp [mgK, Mg.cells])) (by unfold maxLen; omega) (by omega) (Nat.le_trans zb CB2.out.size) ?_
            intro A2 c2 W3 ho hg _
            refine wpList_nil ?_
            have CB3 := Lib.hid (CB2.out.trans (grown_below hg (Nat.le_trans zb CB2.out.size) (fun q hq => (O1.out.2.lt q hq).1)))
            have O2 := Lib.hid ho
            clear ho hg
            clear hHeld
            refine hK.out _ _ (PY.out.below CB3.out (Nat.lt_succ_self _)).cell (fun hHeld => ?_)
            clear hK K
            try simp only [Act.put, List.setIfInBounds_toArray, List.set_cons_zero, List.set_cons_succ]
            refine tr_op3 (by simp only [List.getElem?_toArray, List.getElem?_cons_succ, List.getElem?_cons_zero]; rfl) (fun K hK => ?_)
            refine wpList_append_sl (K := mgK) _ rfl _ _ 22 rfl (w.heap.size + 1) 40 i0 _ 56 Try.underlying22 hi hz0 hz1 hz2 rfl A2 (k + 1) c2 _ rfl O2.out.2 _ (n - k) _ (l.drop k) rfl (sl_dropI (HL.out.below (BY.out.trans (CB3.out.mono (Nat.le_succ _)))) k hk) (by unfold maxLen; omega) (by omega) (Nat.le_trans zb CB3.out.size) ?_
            intro A4 c4 W4 ho hg _
            refine wpList_nil ?_
            have CB4 := Lib.hid (CB3.out.trans (grown_below hg (Nat.le_trans zb CB3.out.size) (fun q hq => (O2.out.2.lt q hq).1)))
            have O4 := Lib.hid (show ROwn mgK 40 W4 (w.heap.size + 1) A4 (k + 1 + (n - k)) c4 (l.take k ++ [m] ++ l.drop k) from ⟨by rw [List.length_append, O2.out.1, List.length_drop, LN.out], by simpa only [List.flatMap_append] using ho⟩)
            clear ho hg
            clear hHeld
            refine hK.out _ _ (PY.out.below CB4.out (Nat.lt_succ_self _)).cell (fun hHeld => ?_)
            clear hK K
            try simp only [Act.put, List.setIfInBounds_toArray, List.set_cons_zero, List.set_cons_succ]
            refine tr_tail3 rfl ?_
            go_wp2_with fail
            all_goals go_ret
            all_goals exact ⟨A4, _, c4, _, rfl, O4.out.base (Nat.le_succ _), PV.out, ME.out, BY.out.trans (CB4.out.mono (Nat.le_succ _))⟩

end Go.Proofs.Ytmlgahambecamaa
