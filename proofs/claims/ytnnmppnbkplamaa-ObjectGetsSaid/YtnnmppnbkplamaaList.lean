/- List, of the program. -/
import Derived.Test.YtnnmppnbkplamaaPre
namespace Go.Proofs.Ytnnmppnbkplamaa
open Go.RowKit Go.Shelf

def listN (l : List Ob) (s : ByteArray) (ft : Int) : List ByteArray := if doneE ft = 0 then namesL l s else []
theorem flat_str (l : List ByteArray) : l.flatMap strK.cells = l.map Value.string := by
  induction l with
  | nil => rfl
  | cons a l ih => rw [List.flatMap_cons, ih]; rfl
/-- A call that hands back a store and names. -/
def SLRes (L' : List Oc) (calls' : Int) (fs' : List Ft) (nms : List ByteArray) (E : Int) (w : World) (e : Ending) (w' : World) : Prop :=
  ∃ A n c l' A' n' c' A8 n8 c8, e = .returned (.tuple #[stV A n c calls' A' n' c', .slice A8 n8 c8, .int .i64 E]) ∧ Obs w' A n c l' ∧ l'.map Ob.val = L' ∧ Fts w' A' n' c' fs' ∧ Sl strK w' A8 n8 c8 nms ∧ Below w.heap.size w w'

set_option maxRecDepth 100000 in
set_option maxHeartbeats 4000000 in
theorem list_out (A : Option Addr) (n c : Nat) (l : List Ob) (calls : Int) (A' : Option Addr) (n' c' : Nat) (fs : List Ft) (s : ByteArray) (w : World) (hl : Obs w A n c l) (hf : Fts w A' n' c' fs) (he : mayE (checkO (l.map Ob.val) calls fs) (decide (s.size ≤ 64)) ≠ 0) :
    Calls Try.prog 22 #[stV A n c calls A' n' c', .string s] w (SLRes [] 0 [] [] (mayE (checkO (l.map Ob.val) calls fs) (decide (s.size ≤ 64))) w) := by
  obtain ⟨W3, hW3⟩ : ∃ W3, W3 = ((w.alloc (.cells #[.slice A n c, .int .i64 calls, .slice A' n' c'] 25)).alloc (.cells #[.string s] 9)).alloc (.cells #[.slice none 0 0, .int .i64 0, .slice none 0 0] 25) := ⟨_, rfl⟩
  have B3 := Lib.hid (show Below w.heap.size w W3 from by rw [hW3]; exact (((Below.refl _ w).alloc (Nat.le_refl _) _).alloc (by simp) _).alloc (by simp <;> omega) _)
  have S3 := Lib.hid (show Has W3 w.heap.size #[.slice A n c, .int .i64 calls, .slice A' n' c'] from by rw [hW3]; exact ((Has.newAt w _ 25 rfl).alloc _).alloc _)
  have N3 := Lib.hid (show Has W3 (w.heap.size + 1) #[.string s] from by rw [hW3]; exact (Has.newAt _ _ 9 (by simp)).alloc _)
  have R3 := Lib.hid (show Has W3 (w.heap.size + 2) #[.slice none 0 0, .int .i64 0, .slice none 0 0] from by rw [hW3]; exact Has.newAt _ _ 25 (by simp))
  have MY := Lib.hid (fun w' (hb : Below W3.heap.size W3 w') => may_any A n c l calls A' n' c' fs (decide (s.size ≤ 64)) w' (hl.below (below_from hb B3.out B3.out.size)) (hf.below (below_from hb B3.out B3.out.size)))
  generalize mayE (checkO (l.map Ob.val) calls fs) (decide (s.size ≤ 64)) = E at MY he ⊢
  clear hl hf
  have n0 : (E == 0) = false := by rw [beq_eq_false_iff_ne]; exact he
  have m0 : decide (E = 0) = false := decide_eq_false he
  have dsz : decide ((s.size : Int) ≤ 64) = decide (s.size ≤ 64) := by rw [Bool.eq_iff_iff, decide_eq_true_iff, decide_eq_true_iff]; omega
  subst hW3
  go_enter Try.func22, Try.ntmps22
  go_wp2_with (go_at_call 28; refine (MY.out _ (Below.refl _ _)).mono ?_; rintro e w4 ⟨rfl, hb4⟩; have B4 := Lib.hid (below_from hb4 B3.out B3.out.size); have R4 := Lib.hid (R3.out.past hb4); have r4c := R4.out.cell; have r4f := R4.out.free; have r4l := R4.out.lt; clear hb4)
  have gs := setCells_grown (w.heap.size + 2) [.slice none 0 0, .int .i64 0, .slice none 0 0] 0 w4
  refine bodyPost_ret (v := .tuple #[stV none 0 0 0 none 0 0, .slice none 0 0, .int .i64 E]) (by simp [results, Try.results22, go_sem, r4c]) rfl ?_
  exact ⟨none, 0, 0, [], none, 0, 0, none, 0, 0, rfl, Sl.nil _ _, rfl, Sl.nil _ _, Sl.nil _ _, B4.out.grown gs B4.out.size (fun q hq => by injection hq with hq; omega)⟩


set_option maxRecDepth 100000 in
set_option maxHeartbeats 8000000 in
theorem list_ok (A : Option Addr) (n c : Nat) (l : List Ob) (calls : Int) (A' : Option Addr) (n' c' : Nat) (fs : List Ft) (s : ByteArray) (w : World) (hl : Obs w A n c l) (hf : Fts w A' n' c' fs) (he : mayE (checkO (l.map Ob.val) calls fs) (decide (s.size ≤ 64)) = 0) :
    Calls Try.prog 22 #[stV A n c calls A' n' c', .string s] w (SLRes (l.map Ob.val) (calls + 1) fs (listN l s (faultC calls fs)) (doneE (faultC calls fs)) w) := by
  obtain ⟨h1, h2, h3, h4, h5, h6, _⟩ := check_ok (may_ok he).1
  rw [hl.len] at h1
  rw [hf.len] at h2
  obtain ⟨W3, hW3⟩ : ∃ W3, W3 = ((w.alloc (.cells #[.slice A n c, .int .i64 calls, .slice A' n' c'] 25)).alloc (.cells #[.string s] 9)).alloc (.cells #[.slice none 0 0, .int .i64 0, .slice none 0 0] 25) := ⟨_, rfl⟩
  have B3 := Lib.hid (show Below w.heap.size w W3 from by rw [hW3]; exact (((Below.refl _ w).alloc (Nat.le_refl _) _).alloc (by simp) _).alloc (by simp <;> omega) _)
  have z3 : W3.heap.size = w.heap.size + 3 := by rw [hW3]; simp
  have S3 := Lib.hid (show Has W3 w.heap.size #[.slice A n c, .int .i64 calls, .slice A' n' c'] from by rw [hW3]; exact ((Has.newAt w _ 25 rfl).alloc _).alloc _)
  have N3 := Lib.hid (show Has W3 (w.heap.size + 1) #[.string s] from by rw [hW3]; exact (Has.newAt _ _ 9 (by simp)).alloc _)
  have R3 := Lib.hid (show Has W3 (w.heap.size + 2) #[.slice none 0 0, .int .i64 0, .slice none 0 0] from by rw [hW3]; exact Has.newAt _ _ 25 (by simp))
  have MY := Lib.hid (fun w' (hb : Below W3.heap.size W3 w') => (show Calls Try.prog 28 #[stV A n c calls A' n' c', .bool (decide (s.size ≤ 64))] w' fun e w'' => e = .returned (.int .i64 0) ∧ Below w'.heap.size w' w'' from by
    have := may_any A n c l calls A' n' c' fs (decide (s.size ≤ 64)) w' (hl.below (below_from hb B3.out B3.out.size)) (hf.below (below_from hb B3.out B3.out.size))
    rw [he] at this
    exact this))
  have BG := Lib.hid (fun w' (hb : Below w.heap.size w w') => begin_any A n c l calls A' n' c' fs w' (hl.below hb) (hf.below hb) h1 h2 h3 h4)
  have hs64 : s.size ≤ 64 := of_decide_eq_true (may_ok he).2
  obtain ⟨ft, hft⟩ : ∃ ft, ft = faultC calls fs := ⟨_, rfl⟩
  rw [← hft] at BG ⊢
  have RI := Lib.hid h5
  have HL := Lib.hid hl
  have NMX := Lib.hid (show ∀ x ∈ l, x.name.size ≤ maxLen from fun x hx => (hl.each x hx).nm)
  have SM : Hid (s.size ≤ maxLen) := Lib.hid (by unfold maxLen; omega)
  have L6 : Hid (l.length ≤ 60000) := Lib.hid (by rw [hl.len]; omega)
  have dsz : decide ((s.size : Int) ≤ 64) = decide (s.size ≤ 64) := by rw [Bool.eq_iff_iff, decide_eq_true_iff, decide_eq_true_iff]; omega
  have dsz2 : decide (s.size ≤ 64) = true := decide_eq_true hs64
  clear hl hf he hft h1 h2 h3 h4 h5 h6
  subst hW3
  go_enter Try.func22, Try.ntmps22
  rw [dsz2] at MY dsz
  go_wp2_with (first | (go_at_call 28; refine (MY.out _ (Below.refl _ _)).mono ?_; rintro e w4 ⟨rfl, hb4⟩; have B4 := Lib.hid (below_from hb4 B3.out B3.out.size); have z4 := hb4.size; have S4 := Lib.hid (S3.out.past hb4); have N4 := Lib.hid (N3.out.past hb4); have R4 := Lib.hid (R3.out.past hb4); have s4c := S4.out.cell; have s4l := S4.out.lt; clear hb4) | (go_at_call 30; refine (BG.out _ B4.out).mono ?_; intro e w5 hx; obtain ⟨g, A2, c2, A3, c3, rfl, hge, hG, hO, hF, hb5⟩ := hx; have B5 := Lib.hid (below_from hb5 B4.out B4.out.size); have z5 := hb5.size; have N5 := Lib.hid (N4.out.past hb5); have R5 := Lib.hid (R4.out.past hb5); have G5 := Lib.hid hG; have O5 := Lib.hid hO; have F5 := Lib.hid hF; have g5l := hG.lt; clear hb5 hG hO hF s4c s4l))
  obtain ⟨W6, hW6⟩ : ∃ W6, W6 = (w5.alloc (.cells #[.pointer (some ⟨g, 0, none⟩)] 53)).alloc (.cells #[.slice none 0 0] 37) := ⟨_, rfl⟩
  have b6 : Below w5.heap.size w5 W6 := by rw [hW6]; exact (below_alloc1 _ _).alloc (by simp) _
  have z6 : W6.heap.size = w5.heap.size + 2 := by rw [hW6]; simp
  have P6 := Lib.hid (show Has W6 w5.heap.size #[.pointer (some ⟨g, 0, none⟩)] from by rw [hW6]; exact (Has.newAt w5 _ 53 rfl).alloc _)
  have LB6 := Lib.hid (show Has W6 (w5.heap.size + 1) #[.slice none 0 0] from by rw [hW6]; exact Has.newAt _ _ 37 (by simp))
  have N6 := Lib.hid (N5.out.past b6)
  have R6 := Lib.hid (show Has W6 (w.heap.size + 1 + 1) #[.slice none 0 0, .int .i64 0, .slice none 0 0] from R5.out.past b6)
  have G6 := Lib.hid (G5.out.past b6)
  have O6 := Lib.hid (O5.out.kept b6)
  have F6 := Lib.hid (F5.out.kept b6)
  have B6 := Lib.hid (below_from b6 B5.out B5.out.size)
  have z3 : w.heap.size + 3 ≤ w4.heap.size := by simp at z4; omega
  have DN := Lib.hid (done_any g A2 l.length c2 (calls + 1) A3 fs.length c3 ft 48 44 #[.pointer (some ⟨w5.heap.size, 0, none⟩), .pointer (some ⟨w.heap.size + 1, 0, none⟩), .pointer (some ⟨w5.heap.size + 1, 0, none⟩)] #[] (Lists g (w5.heap.size + 1) A2 l.length c2 (namesL l s)) (fun A5 n5 c5 W W' => A5 = A2 ∧ n5 = l.length ∧ c5 = c2 ∧ W' = W) W6 G6.out
    (enters_of Try.func48 (by kernel_rfl) rfl) (enters_of Try.func44 (by kernel_rfl) rfl)
    (fun W hW => list1_any W6 g w5.heap.size (w.heap.size + 1) (w5.heap.size + 1) A2 l.length c2 l (calls + 1) A3 fs.length c3 ft s G6.out P6.out N6.out LB6.out O6.out L6.out (by omega) (by omega) (by omega) (fun q hq => by have := (O5.out.2.1.lt q hq).2; omega) SM.out NMX.out W hW)
    (fun W hW => (nothing_any W).mono fun e w' ⟨he, hw⟩ => by
      subst hw
      exact ⟨⟨_, he⟩, A2, l.length, c2, G6.out.past hW, ⟨rfl, rfl, rfl, rfl⟩, fun _ _ _ h => h⟩))
  rw [← hW6]
  clear hW6 b6
  refine DN.out.mono ?_
  intro e w7 hx
  obtain ⟨A5, n5, c5, W, W', rfl, hbW, _, hif, hgr, _, hsz⟩ := hx
  have NAMES : doneE ft = 0 → ft ≠ 1 ∧ ∃ A8 n8 c8, Has W' (w5.heap.size + 1) #[.slice A8 n8 c8] ∧ W'.ownsRow W.heap.size 9 1 (.slice A8 n8 c8) n8 ((namesL l s).map Value.string) ∧ (namesL l s).length = n8 := by
    intro hE
    have hft : ¬ ft = 1 ∧ ¬ ft = 2 ∧ ¬ ft = 3 := by
      unfold doneE at hE
      split at hE
      · cases hE
      · rename_i h
        exact ⟨fun e => h (.inl e), fun e => h (.inr (.inl e)), fun e => h (.inr (.inr e))⟩
    rw [if_neg hft.1, if_neg hft.2.2] at hif
    obtain ⟨_, _, _, A8, n8, c8, hLB, hRW, hNL, _⟩ := hif
    exact ⟨hft.1, A8, n8, c8, hLB, hRW, hNL⟩
  have KEEP : A5 = A2 ∧ n5 = l.length ∧ c5 = c2 ∧ Below (w5.heap.size + 1) W W' := by
    have same : ∀ {X Y : World}, Y = X → Below (w5.heap.size + 1) X Y := fun h => by rw [h]; exact Below.refl _ _
    by_cases f1 : ft = 1
    · rw [if_pos f1] at hif
      exact ⟨hif.1, hif.2.1, hif.2.2.1, same hif.2.2.2⟩
    · rw [if_neg f1] at hif
      by_cases f3 : ft = 3
      · rw [if_pos f3] at hif
        exact ⟨hif.1, hif.2.1, hif.2.2.1, same hif.2.2.2⟩
      · rw [if_neg f3] at hif
        obtain ⟨e1, e2, e3, A8, n8, c8, _, _, _, h5, h6, h7, h8, h9⟩ := hif
        exact ⟨e1, e2, e3, ⟨h7, h8, h9, h5, fun k hk => h6 k (by have := hbW.size; omega) (by omega)⟩⟩
  obtain ⟨rfl, rfl, rfl, hbK⟩ := KEEP
  have q3 : Below (w5.heap.size + 1) W6 w7 := (hbW.mono (by omega)).trans (hbK.trans (grown_below hgr (by have := hbK.size; have := hbW.size; omega) (fun q hq => by injection hq with hq; omega)))
  have Q4 := Lib.hid (B6.out.trans (q3.mono (by omega)))
  have O7 := Lib.hid (show Own obK 59 w7 (g + 1) A5 l.length c5 l from ⟨rfl, owns_same O6.out.2.1 (fun q hq => q3.block q (by have := (O5.out.2.1.lt q hq).2; omega)), fun x hx => (HL.out.each x hx).below Q4.out⟩)
  have F7 := Lib.hid (show Own ftK 48 w7 (g + 1) A3 fs.length c3 fs from ⟨rfl, owns_same F6.out.2.1 (fun q hq => q3.block q (by have := (F5.out.2.1.lt q hq).2; omega)), F6.out.2.2⟩)
  have R7 := Lib.hid (R6.out.below q3 (by omega))
  have r7c := R7.out.cell
  have r7f := R7.out.free
  have r7l := R7.out.lt
  have z7 := q3.size
  by_cases hE : doneE ft = 0
  · obtain ⟨hft, A8, n8, c8, hLB, hRW, hNL⟩ := NAMES hE
    have hWl : W6.heap.size < W.heap.size := by rcases hsz with h | h; exact absurd h hft; exact h
    have RW7 := Lib.hid (show w7.ownsRow W.heap.size 9 1 (.slice A8 n8 c8) n8 ((namesL l s).map Value.string) from hRW.kept hgr (by
      cases hv : (Value.slice A8 n8 c8).ownBlock with
      | none => exact .inl rfl
      | some q => exact .inr (fun e => by injection e with e; have := (hRW.lt q hv).1; omega)))
    have LB7 := Lib.hid (hLB.grown hgr (by omega))
    have NL7 := Lib.hid hNL
    have LN := Lib.hid (show listN l s ft = namesL l s from if_pos hE)
    rw [hE]
    clear hbW hgr hbK q3 hsz hLB hRW hNL hft NAMES
    obtain ⟨W8, hW8⟩ : ∃ W8, W8 = w7.alloc (.cells #[.slice A5 l.length c5, .int .i64 (calls + 1), .slice A3 fs.length c3] 25) := ⟨_, rfl⟩
    have b8 : Below w7.heap.size w7 W8 := by rw [hW8]; exact below_alloc1 _ _
    have R8 := Lib.hid (R7.out.past b8)
    have LB8 := Lib.hid (LB7.out.past b8)
    have X8 := Lib.hid (show Has W8 w7.heap.size #[.slice A5 l.length c5, .int .i64 (calls + 1), .slice A3 fs.length c3] from by rw [hW8]; exact Has.newAt w7 _ 25 rfl)
    have O8 := Lib.hid (O7.out.kept b8)
    have F8 := Lib.hid (F7.out.kept b8)
    have RW8 := Lib.hid (RW7.out.kept (row := none) ⟨b8.os, b8.tape, b8.output, b8.size, fun k hk _ => b8.block k hk⟩ (by cases hv : (Value.slice A8 n8 c8).ownBlock <;> simp))
    have B8 := Lib.hid (below_from b8 Q4.out Q4.out.size)
    have z8 := b8.size
    have z7' := LB7.out.lt
    have SKH : Hid (∀ W', Below W8.heap.size W8 W' → W'.cell? ⟨w7.heap.size, 0, none⟩ = some (.slice A5 l.length c5) ∧ W'.cell? ⟨w7.heap.size, 1, none⟩ = some (.int .i64 (calls + 1)) ∧ W'.cell? ⟨w7.heap.size, 2, none⟩ = some (.slice A3 fs.length c3) ∧ W'.cell? ⟨w5.heap.size + 1, 0, none⟩ = some (.slice A8 n8 c8)) := fun W' h => ⟨(X8.out.past h).cell 0, (X8.out.past h).cell 1, (X8.out.past h).cell 2, (LB8.out.past h).cell 0⟩
    have SKG : Hid (∀ W' W'', Below W8.heap.size W8 W' → W'.grownBy W'' (some (w.heap.size + 1 + 1)) → W''.cell? ⟨w7.heap.size, 0, none⟩ = some (.slice A5 l.length c5) ∧ W''.cell? ⟨w7.heap.size, 1, none⟩ = some (.int .i64 (calls + 1)) ∧ W''.cell? ⟨w7.heap.size, 2, none⟩ = some (.slice A3 fs.length c3) ∧ W''.cell? ⟨w5.heap.size + 1, 0, none⟩ = some (.slice A8 n8 c8)) := fun W' W'' h hg => ⟨((X8.out.past h).grown hg (by omega)).cell 0, ((X8.out.past h).grown hg (by omega)).cell 1, ((X8.out.past h).grown hg (by omega)).cell 2, ((LB8.out.past h).grown hg (by omega)).cell 0⟩
    have r8c := R8.out.cell
    have r8f := R8.out.free
    have r8l := R8.out.lt
    have HW8 := Lib.hid hW8
    clear b8 hW8 r7c r7f r7l
    go_wp2_with fail
    rw [← HW8.out]
    clear HW8
    go_region_held3 (fun w' => w'.cell? ⟨w7.heap.size, 0, none⟩ = some (.slice A5 l.length c5) ∧ w'.cell? ⟨w7.heap.size, 1, none⟩ = some (.int .i64 (calls + 1)) ∧ w'.cell? ⟨w7.heap.size, 2, none⟩ = some (.slice A3 fs.length c3) ∧ w'.cell? ⟨w5.heap.size + 1, 0, none⟩ = some (.slice A8 n8 c8))
      ((first | (exact SKG.out _ _ (Below.refl _ _) (grown_drew (setCells_grown (w.heap.size + 1 + 1) [_, _, _] 0 W8))) | (refine SKH.out _ ?_; (repeat (first | with_reducible assumption | with_reducible exact Below.refl _ _ | refine Below.drew ?_ | (refine Below.alloc ?_ (by first | omega | (simp <;> omega)) _))); done) | (refine SKG.out _ _ ?_ (setCells_grown (w.heap.size + 1 + 1) [_, _, _] 0 _); (repeat (first | with_reducible assumption | with_reducible exact Below.refl _ _ | refine Below.drew ?_ | (refine Below.alloc ?_ (by first | omega | (simp <;> omega)) _))); done)))
      (fail)
    all_goals go_wp2_with fail
    all_goals
      have gd := grown_drew (setCells_grown (w.heap.size + 1 + 1) [.slice A5 l.length c5, .int .i64 (calls + 1), .slice A3 fs.length c3] 0 W8)
      have bw8 := B8.out.grown gd B8.out.size (fun q hq => by injection hq with hq; omega)
      refine bodyPost_ret (v := .tuple #[stV A5 l.length c5 (calls + 1) A3 fs.length c3, .slice A8 n8 c8, .int .i64 0]) (by simp [results, Try.results22, go_sem, r8c]) rfl ?_
      rw [LN.out, hE]
      have OS : Own strK 9 W8 W.heap.size A8 n8 c8 (namesL l s) := ⟨NL7.out, by rw [show (namesL l s).flatMap strK.cells = (namesL l s).map Value.string from flat_str _]; exact RW8.out, fun x hx => by obtain ⟨y, hy, rfl⟩ := List.mem_map.1 hx; exact NMX.out y (List.mem_filter.1 hy).1⟩
      exact ⟨A5, l.length, c5, l, A3, fs.length, c3, A8, n8, c8, rfl, (O8.out.grown gd (by omega) (fun x hx => (HL.out.each x hx).below bw8)).sl, rfl, (F8.out.grown gd (by omega) (fun x hx => F8.out.2.2 x hx)).sl, (OS.grown gd (by omega) (fun x hx => OS.2.2 x hx)).sl, bw8⟩
  · have n0 : (doneE ft == 0) = false := by rw [beq_eq_false_iff_ne]; exact hE
    have m0 : decide (doneE ft = 0) = false := decide_eq_false hE
    clear hbW hgr hbK q3 hsz NAMES
    have R8 := Lib.hid (R7.out.alloc (.cells #[.slice A5 l.length c5, .int .i64 (calls + 1), .slice A3 fs.length c3] 25))
    have r8c := R8.out.cell
    have r8f := R8.out.free
    have r8l := R8.out.lt
    have LN := Lib.hid (show listN l s ft = [] from if_neg hE)
    clear hE
    go_wp2_with fail
    have gs := setCells_grown (w.heap.size + 1 + 1) [.slice A5 l.length c5, .int .i64 (calls + 1), .slice A3 fs.length c3] 0 w7
    have bw8 := Q4.out.grown gs Q4.out.size (fun q hq => by injection hq with hq; omega)
    refine bodyPost_ret (v := .tuple #[stV A5 l.length c5 (calls + 1) A3 fs.length c3, .slice none 0 0, .int .i64 (doneE ft)]) (by simp [results, Try.results22, go_sem, r7c, r7l]) rfl ?_
    rw [LN.out]
    exact ⟨A5, l.length, c5, l, A3, fs.length, c3, none, 0, 0, rfl, (O7.out.grown gs (by omega) (fun x hx => (HL.out.each x hx).below bw8)).sl.alloc _, rfl, (F7.out.grown gs (by omega) (fun x hx => F7.out.2.2 x hx)).sl.alloc _, Sl.nil _ _, bw8.alloc bw8.size _⟩

end Go.Proofs.Ytnnmppnbkplamaa
