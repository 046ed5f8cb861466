/- Del, of the program. -/
import Derived.Test.YtnnmppnbkplamaaDelC
namespace Go.Proofs.Ytnnmppnbkplamaa
open Go.RowKit Go.Shelf

/-- A call that hands back a store; old memory is left alone. -/
def SRes (L' : List Oc) (calls' : Int) (fs' : List Ft) (mk : Value → Value) (w : World) (e : Ending) (w' : World) : Prop :=
  ∃ A n c l' A' n' c', e = .returned (mk (stV A n c calls' A' n' c')) ∧ Obs w' A n c l' ∧ l'.map Ob.val = L' ∧ Fts w' A' n' c' fs' ∧ Below w.heap.size w w'
/-- What a store that may be is. -/
theorem check_ok {l : List Ob} {calls : Int} {fs : List Ft} (h : checkO (l.map Ob.val) calls fs = 0) : l.length ≤ 1024 ∧ fs.length ≤ 1024 ∧ 0 ≤ calls ∧ calls < 1099511627776 ∧ Rises l ∧ (∀ x ∈ l, nameC x.name = true ∧ x.bs.length ≤ 8192) ∧ fs.any oddF = false := by
  unfold checkO at h
  rw [List.length_map] at h
  split at h
  · omega
  · split at h
    · omega
    · rename_i h1 h2
      have hb : ∀ k, k < l.length → badO (l.map Ob.val) k = false := by
        intro k hk
        cases hq : badO (l.map Ob.val) k with
        | false => rfl
        | true => rw [objE_bad (by rw [List.length_map]; exact hk) hq] at h; cases h
      have at_ : ∀ k (hk : k < l.length), nameC l[k].name = true ∧ leS l[k].name (preS (l.map Ob.val) k) = false ∧ l[k].bs.length ≤ 8192 := by
        intro k hk
        have := hb k hk
        unfold badO at this
        rw [List.getElem?_map, List.getElem?_eq_getElem hk] at this
        simp only [Option.map_some, Option.getD_some, Bool.or_eq_false_iff, decide_eq_false_iff_not, Bool.not_eq_false'] at this
        exact ⟨this.1, this.2.1, by have := this.2.2; show l[k].bs.length ≤ 8192; have h8 : (Ob.val l[k]).bs = l[k].bs := rfl; rw [h8] at this; omega⟩
      have step : ∀ k (hk : k + 1 < l.length), cmpS (l[k]'(by omega)).name l[k + 1].name < 0 := by
        intro k hk
        have h3 := (at_ (k + 1) hk).2.1
        rw [preS_succ (o := (l[k]'(by omega)).val) (by rw [List.getElem?_map, List.getElem?_eq_getElem (by omega)]; rfl), leS_eq] at h3
        have h4 := of_decide_eq_false h3
        exact Classical.byContradiction fun h5 => h4 h5
      have rise : Rises l := by
        have key : ∀ d j (hk : j + d + 1 < l.length), cmpS (l[j]'(by omega)).name (l[j + d + 1]).name < 0 := by
          intro d
          induction d with
          | zero => intro j hk; exact step j hk
          | succ d ih => intro j hk; exact cmpS_trans (ih j (by omega)) (step (j + d + 1) hk)
        intro j k hk hj
        have := key (k - j - 1) j (by omega)
        simpa [show j + (k - j - 1) + 1 = k by omega] using this
      refine ⟨by omega, by omega, by omega, by omega, rise, fun x hx => ?_, by cases hq : fs.any oddF; rfl; exact absurd (.inr (.inr hq)) h2⟩
      obtain ⟨k, hk, rfl⟩ := List.getElem_of_mem hx
      exact ⟨(at_ k hk).1, (at_ k hk).2.2⟩
theorem may_ok {ck : Int} {b : Bool} (h : mayE ck b = 0) : ck = 0 ∧ b = true := by
  unfold mayE at h
  split at h
  · rename_i h0
    refine ⟨h0, ?_⟩
    cases b
    · rw [if_neg (by decide)] at h; cases h
    · rfl
  · contradiction

/-- What Del makes of a store's objects. -/
def delL (l : List Oc) (s : ByteArray) (ft : Int) : List Oc := if ft = 1 ∨ ft = 3 then l else l.filter fun x => !decide (x.name = s)
theorem without_val (s : ByteArray) (l : List Ob) : (without s l).map Ob.val = (l.map Ob.val).filter fun x => !decide (x.name = s) := by
  unfold without
  rw [List.filter_map]
  rfl
def delE (L : List Oc) (calls : Int) (fs : List Ft) (s : ByteArray) : Int := if mayE (checkO L calls fs) (nameC s) = 0 then doneE (faultC calls fs) else mayE (checkO L calls fs) (nameC s)

set_option maxRecDepth 100000 in
set_option maxHeartbeats 4000000 in
theorem del_out (A : Option Addr) (n c : Nat) (l : List Ob) (calls : Int) (A' : Option Addr) (n' c' : Nat) (fs : List Ft) (s : ByteArray) (w : World) (hl : Obs w A n c l) (hf : Fts w A' n' c' fs) (he : mayE (checkO (l.map Ob.val) calls fs) (nameC s) ≠ 0) :
    Calls Try.prog 15 #[stV A n c calls A' n' c', .string s] w (SRes [] 0 [] (fun v => .tuple #[v, .int .i64 (mayE (checkO (l.map Ob.val) calls fs) (nameC s))]) w) := by
  obtain ⟨W3, hW3⟩ : ∃ W3, W3 = ((w.alloc (.cells #[.slice A n c, .int .i64 calls, .slice A' n' c'] 25)).alloc (.cells #[.string s] 9)).alloc (.cells #[.slice none 0 0, .int .i64 0, .slice none 0 0] 25) := ⟨_, rfl⟩
  have B3 := Lib.hid (show Below w.heap.size w W3 from by rw [hW3]; exact (((Below.refl _ w).alloc (Nat.le_refl _) _).alloc (by simp) _).alloc (by simp <;> omega) _)
  have S3 := Lib.hid (show Has W3 w.heap.size #[.slice A n c, .int .i64 calls, .slice A' n' c'] from by rw [hW3]; exact ((Has.newAt w _ 25 rfl).alloc _).alloc _)
  have N3 := Lib.hid (show Has W3 (w.heap.size + 1) #[.string s] from by rw [hW3]; exact (Has.newAt _ _ 9 (by simp)).alloc _)
  have R3 := Lib.hid (show Has W3 (w.heap.size + 2) #[.slice none 0 0, .int .i64 0, .slice none 0 0] from by rw [hW3]; exact Has.newAt _ _ 25 (by simp))
  have NM := Lib.hid (fun w' (_ : Below W3.heap.size W3 w') => name_any s w')
  have MY := Lib.hid (fun w' (hb : Below W3.heap.size W3 w') => may_any A n c l calls A' n' c' fs (nameC s) w' (hl.below (below_from hb B3.out B3.out.size)) (hf.below (below_from hb B3.out B3.out.size)))
  have r0 := at_regrown (a := ⟨w.heap.size, 0, none⟩) (v := .slice A n c) (S3.out.cell 0)
  have r1 := at_regrown (a := ⟨w.heap.size, 1, none⟩) (v := .int .i64 calls) (S3.out.cell 1)
  have r2 := at_regrown (a := ⟨w.heap.size, 2, none⟩) (v := .slice A' n' c') (S3.out.cell 2)
  have r3 := at_regrown (a := ⟨w.heap.size + 1, 0, none⟩) (v := .string s) (N3.out.cell 0)
  generalize mayE (checkO (l.map Ob.val) calls fs) (nameC s) = E at MY he ⊢
  have HW3 := Lib.hid hW3
  clear hl hf hW3
  have n0 : (E == 0) = false := by rw [beq_eq_false_iff_ne]; exact he
  have m0 : decide (E = 0) = false := decide_eq_false he
  go_enter Try.func15, Try.ntmps15
  go_wp2_with fail
  rw [← HW3.out]
  refine region_below (by kernel_rfl) (by kernel_rfl) ?_
  repeat (go_big_quiet_step (first | (go_at_call 29; exact call_regrown NM.out) | (go_at_call 28; exact call_regrown MY.out)))
  refine wpQuiet_nil ?_
  intro w4 hb4
  have B4 := Lib.hid (below_from hb4 B3.out B3.out.size)
  have R4 := Lib.hid (R3.out.past hb4)
  have r4c := R4.out.cell
  have r4f := R4.out.free
  have r4l := R4.out.lt
  clear hb4 r0 r1 r2 r3
  go_wp2_with fail
  have gs := setCells_grown (w.heap.size + 2) [.slice none 0 0, .int .i64 0, .slice none 0 0] 0 w4
  refine bodyPost_ret (v := .tuple #[stV none 0 0 0 none 0 0, .int .i64 E]) (by simp [results, Try.results15, go_sem, r4c]) rfl ?_
  exact ⟨none, 0, 0, [], none, 0, 0, rfl, Sl.nil _ _, rfl, Sl.nil _ _, B4.out.grown gs B4.out.size (fun q hq => by injection hq with hq; omega)⟩

theorem owns_same {w w' : World} {B : Nat} {E : TypeId} {s : Nat} {v : Value} {n : Nat} {xs : List Value} (h : w.ownsRow B E s v n xs) (hb : ∀ q, v.ownBlock = some q → w'.heap[q]? = w.heap[q]?) : w'.ownsRow B E s v n xs := by
  refine ⟨h.1, ?_⟩
  rcases h.2 with h | ⟨g, cap, cur, e, hB, hg, r⟩
  · exact .inl h
  · exact .inr ⟨g, cap, cur, e, hB, by rw [hb g (by rw [e]; rfl)]; exact hg, r⟩
theorem owns_apart {w : World} {B B' : Nat} {E E' : TypeId} {s s' : Nat} {v v' : Value} {n n' : Nat} {xs xs' : List Value} (h : w.ownsRow B E s v n xs) (h' : w.ownsRow B' E' s' v' n' xs') (hE : E ≠ E') {q : Nat} (hq : v.ownBlock = some q) : v'.ownBlock ≠ some q := by
  intro hq'
  rcases h.2 with ⟨rfl, _⟩ | ⟨g, cap, cur, e, hB, hg, _⟩
  · cases hq
  · rcases h'.2 with ⟨rfl, _⟩ | ⟨g', cap', cur', e', hB', hg', _⟩
    · cases hq'
    · rw [e] at hq
      rw [e'] at hq'
      have e1 : g = q := by injection hq
      have e2 : g' = q := by injection hq'
      subst e1 e2
      rw [hg] at hg'
      injection hg' with hg'
      injection hg' with _ h2 _
      exact hE h2

/-- What becomes of a call's store: the objects l5 of it, the faults, in the world behind done; what lay below g lies as it lay. -/
theorem after_done {w : World} {W6 W W' w7 : World} {g : Nat} {A2 A3 A5 : Option Addr} {c2 c3 n5 c5 : Nat} {l l5 : List Ob} {fs : List Ft}
    (hO : Own obK 59 W6 (g + 1) A2 l.length c2 l) (hF : Own ftK 48 W6 (g + 1) A3 fs.length c3 fs) (hg6 : g < W6.heap.size) (hb6 : Below w.heap.size w W6) (hwg : w.heap.size ≤ g) (hbW : Below W6.heap.size W6 W)
    (hN : Now g l5 (.slice A2 l.length c2) A5 n5 c5 W W') (hgr : W'.grownBy w7 (some W6.heap.size)) (hl5 : ∀ x ∈ l5, Ob.In w x) (hR : Has W' W6.heap.size #[.slice none 0 0, .int .i64 0, .slice none 0 0] ∨ W'.heap.size ≤ W6.heap.size) :
    Obs w7 A5 n5 c5 l5 ∧ Fts w7 A3 fs.length c3 fs ∧ Below g W6 w7 ∧ Below w.heap.size w w7 ∧ (∀ b off, A5 = some ⟨b, off, none⟩ → g < b) ∧ (∀ b off, A3 = some ⟨b, off, none⟩ → g < b) := by
  obtain ⟨h1, h2, h3, h4⟩ := hN
  have hbg : Below g W6 w7 := (hbW.mono (by omega)).trans (h3.trans (grown_below hgr (by have := h3.size; have := hbW.size; omega) (fun q hq => by injection hq with hq; omega)))
  have hbw : Below w.heap.size w w7 := hb6.trans (hbg.mono hwg)
  have hFW := hF.kept hbW
  refine ⟨?_, ?_, hbg, hbw, fun b off e => by subst e; exact (h1.lt b rfl).1, fun b off e => by subst e; exact (hFW.2.1.lt b rfl).1⟩
  · by_cases h0 : n5 = 0
    · subst h0
      obtain rfl : l5 = [] := List.length_eq_zero_iff.1 h2
      rcases h1.2 with ⟨e, _⟩ | ⟨q, cap, cur, e, _, _, h6, h7, _, _⟩
      · injection e with e1 e2 e3
        subst e1 e3
        exact Sl.nil _ _
      · injection e with e1 e2 e3
        subst e1 e3
        exact ⟨rfl, h6, by simpa [maxLen] using h7, (fun e => by cases e), fun hn => absurd rfl hn, by simp⟩
    · have r7 : w7.ownsRow (g + 1) 59 2 (.slice A5 n5 c5) n5 (l5.flatMap Ob.cells) := by
        refine h1.kept hgr ?_
        cases hv : (Value.slice A5 n5 c5).ownBlock with
        | none => exact .inl rfl
        | some q =>
          refine .inr (fun e => ?_)
          injection e with e
          subst e
          rcases hR with hR | hR
          · obtain ⟨q', cur, e1, _, _, h5, _, _, _, h9⟩ := owns_open h1 (by omega)
            have e2 : q' = W6.heap.size := by rw [e1] at hv; injection hv
            subst e2
            have c0 := hR.cell 0
            rw [row_cell h5] at c0
            have hx : ∃ x r, l5 = x :: r := by
              cases l5 with
              | nil => exact absurd h2.symm h0
              | cons x r => exact ⟨x, r, rfl⟩
            obtain ⟨x, r, rfl⟩ := hx
            have h10 : (cur.toList.take (n5 * 2))[0]? = some (.string x.name) := by rw [h9]; rfl
            rw [List.getElem?_take, if_pos (by omega), Array.getElem?_toList, c0] at h10
            cases h10
          · have := (h1.lt _ hv).2
            omega
      exact (show Own obK 59 w7 (g + 1) A5 n5 c5 l5 from ⟨h2, r7, fun x hx => (hl5 x hx).below hbw⟩).sl
  · refine Own.sl (K := ftK) (E := 48) (B := g + 1) ⟨hFW.1, owns_same hFW.2.1 (fun q hq => ?_), hFW.2.2⟩
    have hq2 := hFW.2.1.lt q hq
    have hq3 := (hF.2.1.lt q hq).2
    refine (hgr.block q (Nat.lt_of_lt_of_le hq2.2 h3.size) (fun e => by injection e with e; omega)).trans (h4 q hq2.2 (by omega) ?_)
    exact owns_apart hFW.2.1 (hO.kept hbW).2.1 (by decide) hq

/-- Where the closure does nothing. -/
theorem now_same {g : Nat} {l : List Ob} {A : Option Addr} {c : Nat} {W : World} (h : Own obK 59 W (g + 1) A l.length c l) : Now g l (.slice A l.length c) A l.length c W W := ⟨h.2.1, rfl, Below.refl _ _, fun _ _ _ _ => rfl⟩
theorem without_mem {s : ByteArray} {l : List Ob} {x : Ob} (h : x ∈ without s l) : x ∈ l := (List.mem_filter.1 h).1

set_option maxRecDepth 100000 in
set_option maxHeartbeats 8000000 in
theorem del_ok (A : Option Addr) (n c : Nat) (l : List Ob) (calls : Int) (A' : Option Addr) (n' c' : Nat) (fs : List Ft) (s : ByteArray) (w : World) (hl : Obs w A n c l) (hf : Fts w A' n' c' fs) (he : mayE (checkO (l.map Ob.val) calls fs) (nameC s) = 0) :
    Calls Try.prog 15 #[stV A n c calls A' n' c', .string s] w (SRes (delL (l.map Ob.val) s (faultC calls fs)) (calls + 1) fs (fun v => .tuple #[v, .int .i64 (doneE (faultC calls fs))]) w) := by
  obtain ⟨h1, h2, h3, h4, h5, _, _⟩ := check_ok (may_ok he).1
  rw [hl.len] at h1
  rw [hf.len] at h2
  obtain ⟨W3, hW3⟩ : ∃ W3, W3 = ((w.alloc (.cells #[.slice A n c, .int .i64 calls, .slice A' n' c'] 25)).alloc (.cells #[.string s] 9)).alloc (.cells #[.slice none 0 0, .int .i64 0, .slice none 0 0] 25) := ⟨_, rfl⟩
  have B3 := Lib.hid (show Below w.heap.size w W3 from by rw [hW3]; exact (((Below.refl _ w).alloc (Nat.le_refl _) _).alloc (by simp) _).alloc (by simp <;> omega) _)
  have z3 : W3.heap.size = w.heap.size + 3 := by rw [hW3]; simp
  have S3 := Lib.hid (show Has W3 w.heap.size #[.slice A n c, .int .i64 calls, .slice A' n' c'] from by rw [hW3]; exact ((Has.newAt w _ 25 rfl).alloc _).alloc _)
  have N3 := Lib.hid (show Has W3 (w.heap.size + 1) #[.string s] from by rw [hW3]; exact (Has.newAt _ _ 9 (by simp)).alloc _)
  have R3 := Lib.hid (show Has W3 (w.heap.size + 2) #[.slice none 0 0, .int .i64 0, .slice none 0 0] from by rw [hW3]; exact Has.newAt _ _ 25 (by simp))
  have NM := Lib.hid (fun w' (_ : Below W3.heap.size W3 w') => name_any s w')
  have MY := Lib.hid (fun w' (hb : Below W3.heap.size W3 w') => (show Calls Try.prog 28 #[stV A n c calls A' n' c', .bool (nameC s)] w' fun e w'' => e = .returned (.int .i64 0) ∧ Below w'.heap.size w' w'' from by
    have := may_any A n c l calls A' n' c' fs (nameC s) w' (hl.below (below_from hb B3.out B3.out.size)) (hf.below (below_from hb B3.out B3.out.size))
    rw [he] at this
    exact this))
  have BG := Lib.hid (fun w' (hb : Below w.heap.size w w') => begin_any A n c l calls A' n' c' fs w' (hl.below hb) (hf.below hb) h1 h2 h3 h4)
  have r0 := at_regrown (a := ⟨w.heap.size, 0, none⟩) (v := .slice A n c) (S3.out.cell 0)
  have r1 := at_regrown (a := ⟨w.heap.size, 1, none⟩) (v := .int .i64 calls) (S3.out.cell 1)
  have r2 := at_regrown (a := ⟨w.heap.size, 2, none⟩) (v := .slice A' n' c') (S3.out.cell 2)
  have r3 := at_regrown (a := ⟨w.heap.size + 1, 0, none⟩) (v := .string s) (N3.out.cell 0)
  obtain ⟨ft, hft⟩ : ∃ ft, ft = faultC calls fs := ⟨_, rfl⟩
  rw [← hft] at BG ⊢
  have HW3 := Lib.hid hW3
  have RI := Lib.hid h5
  have HL := Lib.hid hl
  have L6 : Hid (l.length ≤ 60000) := Lib.hid (by rw [hl.len]; omega)
  clear hl hf hW3 he hft h1 h2 h3 h4 h5
  go_enter Try.func15, Try.ntmps15
  go_wp2_with fail
  rw [← HW3.out]
  refine region_below (by kernel_rfl) (by kernel_rfl) ?_
  repeat (go_big_quiet_step (first | (go_at_call 29; exact call_regrown NM.out) | (go_at_call 28; exact call_regrown MY.out)))
  refine wpQuiet_nil ?_
  intro w4 hb4
  have B4 := Lib.hid (below_from hb4 B3.out B3.out.size)
  have z4 := hb4.size
  have S4 := Lib.hid (S3.out.past hb4)
  have N4 := Lib.hid (N3.out.past hb4)
  have R4 := Lib.hid (R3.out.past hb4)
  have s4c := S4.out.cell
  have s4l := S4.out.lt
  clear hb4 r0 r1 r2 r3
  go_wp2_with (go_at_call 30; refine (BG.out _ B4.out).mono ?_; intro e w5 hx; obtain ⟨g, A2, c2, A3, c3, rfl, hge, hG, hO, hF, hb5⟩ := hx; have B5 := Lib.hid (below_from hb5 B4.out B4.out.size); have z5 := hb5.size; have N5 := Lib.hid (N4.out.past hb5); have R5 := Lib.hid (R4.out.past hb5); have G5 := Lib.hid hG; have O5 := Lib.hid hO; have F5 := Lib.hid hF; have g5l := hG.lt; clear hb5 hG hO hF s4c s4l)
  obtain ⟨W6, hW6⟩ : ∃ W6, W6 = w5.alloc (.cells #[.pointer (some ⟨g, 0, none⟩)] 53) := ⟨_, rfl⟩
  have b6 : Below w5.heap.size w5 W6 := by rw [hW6]; exact below_alloc1 _ _
  have z6 : W6.heap.size = w5.heap.size + 1 := by rw [hW6]; simp
  have P6 := Lib.hid (show Has W6 w5.heap.size #[.pointer (some ⟨g, 0, none⟩)] from by rw [hW6]; exact Has.newAt w5 _ 53 rfl)
  have N6 := Lib.hid (N5.out.past b6)
  have R6 := Lib.hid (show Has W6 (w.heap.size + 1 + 1) #[.slice none 0 0, .int .i64 0, .slice none 0 0] from R5.out.past b6)
  have G6 := Lib.hid (G5.out.past b6)
  have O6 := Lib.hid (O5.out.kept b6)
  have F6 := Lib.hid (F5.out.kept b6)
  have B6 := Lib.hid (below_from b6 B5.out B5.out.size)
  have DN := Lib.hid (done_any g A2 l.length c2 (calls + 1) A3 fs.length c3 ft 42 44 #[.pointer (some ⟨w5.heap.size, 0, none⟩), .pointer (some ⟨w.heap.size + 1, 0, none⟩)] #[] (Now g (without s l) (.slice A2 l.length c2)) (Now g l (.slice A2 l.length c2)) W6 G6.out
    (enters_of Try.func42 (by kernel_rfl) rfl) (enters_of Try.func44 (by kernel_rfl) rfl)
    (fun W hW => del1_any W6 g w5.heap.size (w.heap.size + 1) A2 l.length c2 l (calls + 1) A3 fs.length c3 ft s G6.out P6.out N6.out O6.out RI.out L6.out (by omega) (fun q hq => by have := (O5.out.2.1.lt q hq).2; omega) W hW)
    (fun W hW => (nothing_any W).mono fun e w' ⟨he, hw⟩ => by
      subst hw
      exact ⟨⟨_, he⟩, A2, l.length, c2, G6.out.past hW, now_same (O6.out.kept hW), fun _ _ _ h => h⟩))
  rw [← hW6]
  clear hW6 b6
  refine DN.out.mono ?_
  intro e w7 hx
  obtain ⟨A5, n5, c5, W, W', rfl, hbW, _, hif, hgr, hRR, _⟩ := hx
  have KEY : ∃ l5, Now g l5 (.slice A2 l.length c2) A5 n5 c5 W W' ∧ l5.map Ob.val = delL (l.map Ob.val) s ft ∧ ∀ x ∈ l5, x ∈ l := by
    unfold delL
    by_cases f1 : ft = 1
    · rw [if_pos f1] at hif
      obtain ⟨rfl, rfl, rfl, rfl⟩ := hif
      exact ⟨l, now_same (O6.out.kept hbW), by rw [if_pos (.inl f1)], fun x hx => hx⟩
    · rw [if_neg f1] at hif
      by_cases f3 : ft = 3
      · rw [if_pos f3] at hif
        exact ⟨l, hif, by rw [if_pos (.inr f3)], fun x hx => hx⟩
      · rw [if_neg f3] at hif
        exact ⟨without s l, hif, by rw [if_neg (by omega), without_val], fun x hx => without_mem hx⟩
  obtain ⟨l5, hN, hv5, hm5⟩ := KEY
  obtain ⟨q1, q2, q3, q4, q5, q6⟩ := after_done O6.out F6.out (by omega) B6.out (by omega) hbW hN hgr (fun x hx => HL.out.each x (hm5 x hx)) hRR
  have Q1 := Lib.hid q1
  have Q2 := Lib.hid q2
  have Q4 := Lib.hid q4
  have V5 := Lib.hid hv5
  have M5 := Lib.hid hm5
  have Q5 := Lib.hid q5
  have Q6 := Lib.hid q6
  have R7 := Lib.hid (R6.out.below q3 (by omega))
  have r7c := R7.out.cell
  have r7f := R7.out.free
  have r7l := R7.out.lt
  clear hbW hif hgr hRR hN hv5 hm5 q1 q2 q3 q4 q5 q6
  go_wp2_with fail
  have gs := setCells_grown (w.heap.size + 1 + 1) [.slice A5 n5 c5, .int .i64 (calls + 1), .slice A3 fs.length c3] 0 w7
  refine bodyPost_ret (v := .tuple #[stV A5 n5 c5 (calls + 1) A3 fs.length c3, .int .i64 (doneE ft)]) (by simp [results, Try.results15, go_sem, r7c]) rfl ?_
  have bw8 := Q4.out.grown gs Q4.out.size (fun q hq => by injection hq with hq; omega)
  exact ⟨A5, n5, c5, l5, A3, fs.length, c3, rfl, Q1.out.apart gs (fun b off e e2 => by injection e2 with e2; have := Q5.out b off e; omega) (fun x hx => (HL.out.each x (M5.out x hx)).below bw8), V5.out,
    Q2.out.apart gs (fun b off e e2 => by injection e2 with e2; have := Q6.out b off e; omega) (fun x hx => Q2.out.each x hx), bw8⟩

/-- Del, of any store and name. -/
theorem del_any (A : Option Addr) (n c : Nat) (l : List Ob) (calls : Int) (A' : Option Addr) (n' c' : Nat) (fs : List Ft) (s : ByteArray) (w : World) (hl : Obs w A n c l) (hf : Fts w A' n' c' fs) :
    Calls Try.prog 15 #[stV A n c calls A' n' c', .string s] w fun e w' =>
      (mayE (checkO (l.map Ob.val) calls fs) (nameC s) ≠ 0 ∧ SRes [] 0 [] (fun v => .tuple #[v, .int .i64 (mayE (checkO (l.map Ob.val) calls fs) (nameC s))]) w e w') ∨
      (mayE (checkO (l.map Ob.val) calls fs) (nameC s) = 0 ∧ SRes (delL (l.map Ob.val) s (faultC calls fs)) (calls + 1) fs (fun v => .tuple #[v, .int .i64 (doneE (faultC calls fs))]) w e w') := by
  by_cases he : mayE (checkO (l.map Ob.val) calls fs) (nameC s) = 0
  · exact (del_ok A n c l calls A' n' c' fs s w hl hf he).mono fun e w' h => .inr ⟨he, h⟩
  · exact (del_out A n c l calls A' n' c' fs s w hl hf he).mono fun e w' h => .inl ⟨he, h⟩

end Go.Proofs.Ytnnmppnbkplamaa
