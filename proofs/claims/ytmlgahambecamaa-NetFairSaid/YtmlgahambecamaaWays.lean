/- Ways that are cut and healed, of the program. -/
import Derived.Test.YtmlgahambecamaaWaysP
import Derived.Test.YtmlgahambecamaaSendQ
import Derived.Test.YtmlgahambecamaaRetN
import Derived.Test.YtmlgahambecamaaInP
import Derived.Deep.DeepCutAuto
namespace Go.Proofs.Ytmlgahambecamaa
open Go.RowKit Go.Shelf

theorem below_grown {w w1 w2 : World} {r : Option Nat} (hb : Below w.heap.size w w1) (hg : w1.grownBy w2 r) : w.grownBy w2 r :=
  ⟨hg.os.trans hb.os, hg.tape.trans hb.tape, hg.output.trans hb.output, Nat.le_trans hb.size hg.size, fun k hk hr => (hg.block k (Nat.lt_of_lt_of_le hk hb.size) hr).trans (hb.block k hk)⟩
theorem grown_self (w : World) (r : Option Nat) : w.grownBy w r := ⟨rfl, rfl, rfl, Nat.le_refl _, fun _ _ _ => rfl⟩
/-- What is done to a list of ways. -/
def DoRes (B : Nat) (A : Option Addr) (n c : Nat) (L : List Pr) (w : World) (e : Ending) (w' : World) : Prop := ∃ (A' : Option Addr) (n' c' : Nat), e = .returned (.slice A' n' c') ∧ ROwn prK 63 w' B A' n' c' L ∧ w.grownBy w' (Value.slice A n c).ownBlock

set_option maxHeartbeats 4000000 in
set_option maxRecDepth 100000 in
theorem healdo_any (p : Pr) (A : Option Addr) (n c i : Nat) (l : List Pr) (m : Bool) (B : Nat) (w : World) (ho : Own prK 63 w B A n c l) (hn : n ≤ 60000) (hi : m = true → i < n) :
    Calls Try.prog 61 #[.slice A n c, .int .i64 i, .bool m] w (DoRes B A n c (doC p false l i m) w) := by
  cases m with
  | false =>
    go_enter Try.func61, Try.ntmps61
    go_wp2_with fail
    go_ret
    exact ⟨A, n, c, rfl, ho.rown, grown_self _ _⟩
  | true =>
    have h := hi rfl
    have wi : IntKind.i64.wrap ((i : Int) + 1) = (i : Int) + 1 := IntWalk.i64_in _ (by omega)
    have DEL := Lib.hid (deleteP B A n c i (i + 1) _ w ho.2.1 (RK.flat_one prK l) (Nat.lt_succ_self _) h)
    have HL := Lib.hid ho.1
    clear ho hi
    go_enter Try.func61, Try.ntmps61
    go_wp2_with (go_at_call 62; refine DEL.out.mono ?_; rintro e w1 ⟨rfl, h1, h2⟩; rw [show i + 1 - i = 1 by omega] at h1; have R := Lib.hid h1; have GR := Lib.hid h2; clear h1 h2)
    go_ret
    refine ⟨A, _, c, rfl, ⟨?_, ?_⟩, GR.out⟩
    · have := HL.out
      show (l.take i ++ l.drop (i + 1)).length = _
      rw [List.length_append, List.length_take, List.length_drop]; omega
    · show World.ownsRow _ B 63 2 _ _ ((l.take i ++ l.drop (i + 1)).flatMap prK.cells)
      rw [List.flatMap_append, ← flat_take prK.cells 2 prK.len, ← flat_drop prK.cells 2 prK.len]
      exact R.out

set_option maxHeartbeats 4000000 in
set_option maxRecDepth 100000 in
theorem cutdo_any (a b : Int) (ga gb : Nat) (A : Option Addr) (n c i : Nat) (l : List Pr) (m : Bool) (B : Nat) (w : World) (ha : Has w ga #[.int .i64 a]) (hb : Has w gb #[.int .i64 b]) (ho : Own prK 63 w B A n c l) (hB : B ≤ w.heap.size) (hn : n ≤ 60000) (hi : i ≤ n) :
    Calls Try.prog 59 #[.slice A n c, .int .i64 i, .bool m, .pointer (some ⟨ga, 0, none⟩), .pointer (some ⟨gb, 0, none⟩)] w (DoRes B A n c (doC (pairP a b) true l i m) w) := by
  cases m with
  | true =>
    go_enter Try.func59, Try.ntmps59
    go_wp2_with fail
    go_ret
    exact ⟨A, n, c, rfl, ho.rown, grown_self _ _⟩
  | false =>
    have ac := ha.cell
    have al := ha.lt
    have bc := hb.cell
    have bl := hb.lt
    have HO := Lib.hid ho
    have HL := Lib.hid ho.1
    clear ho
    go_enter Try.func59, Try.ntmps59
    go_wp2_with (first
      | (go_at_call 57; refine (pair_any a b _).mono ?_; rintro e w1 ⟨rfl, hb⟩; have B1 := Lib.hid hb; clear hb)
      | (go_at_call 60; refine (insertP_any B A n c 1 i w1.heap.size 1 #[.int .i64 (pairP a b).a, .int .i64 (pairP a b).b] _ (prK.cells (pairP a b)) _ ((HO.out.kept B1.out).kept (below_alloc1 w1 _)).2.1 (RK.flat_one prK l) (Nat.le_trans hB (Nat.le_trans B1.out.size (by simp))) Nat.one_pos (by omega) (heap_alloc_new w1 _) rfl rfl (prK.one _) (fun e => by have h1 := ((HO.out.kept B1.out).2.1.lt _ e).2; exact Nat.lt_irrefl _ h1) hi).mono ?_; rintro e w2 ⟨A', c', rfl, h1, h2⟩; have R := Lib.hid h1; have GR := Lib.hid (below_grown B1.out (below_grown (below_alloc1 w1 _) h2)); clear h1 h2))
    go_ret
    refine ⟨A', n + 1, c', rfl, ⟨?_, ?_⟩, GR.out⟩
    · have := HL.out
      show (l.take i ++ [pairP a b] ++ l.drop i).length = _
      rw [List.length_append, List.length_append, List.length_take, List.length_drop, List.length_singleton]; omega
    · show World.ownsRow _ B 63 2 _ _ ((l.take i ++ [pairP a b] ++ l.drop i).flatMap prK.cells)
      rw [List.flatMap_append, List.flatMap_append, List.flatMap_cons, List.flatMap_nil, List.append_nil, ← flat_take prK.cells 2 prK.len, ← flat_drop prK.cells 2 prK.len]
      exact R.out

/-- A search's answer is one. -/
theorem srch_one {α : Type} {f : α → Int} {l : List α} {i j : Nat} {b d : Bool} (h : SrchG f l i b) (k : SrchG f l j d) : i = j ∧ b = d := by
  have e : i = j := by
    rcases Nat.lt_trichotomy i j with h1 | h1 | h1
    · have hl : i < l.length := Nat.lt_of_lt_of_le h1 k.1
      have x1 := h.2.2.1 i hl (Nat.le_refl _)
      have x2 := k.2.1 i hl h1
      omega
    · exact h1
    · have hl : j < l.length := Nat.lt_of_lt_of_le h1 h.1
      have x1 := k.2.2.1 j hl (Nat.le_refl _)
      have x2 := h.2.1 j hl h1
      omega
  subst e
  refine ⟨rfl, ?_⟩
  have := h.2.2.2.trans k.2.2.2.symm
  cases b <;> cases d <;> simp at this <;> rfl
theorem srch_ex {α : Type} {f : α → Int} {l : List α} (hm : ∀ j k (hk : k < l.length) (hj : j < k), f l[k] < 0 → f (l[j]'(Nat.lt_trans hj hk)) < 0) : ∃ i b, SrchG f l i b := by
  have key : ∀ k, k ≤ l.length → (∀ j (h : j < l.length), j < k → f l[j] < 0) → ∃ i, i ≤ l.length ∧ (∀ j (h : j < l.length), j < i → f l[j] < 0) ∧ (∀ j (h : j < l.length), i ≤ j → 0 ≤ f l[j]) := by
    intro k
    induction hd : l.length - k generalizing k with
    | zero => intro h1 h2; exact ⟨k, h1, h2, fun j h h3 => by omega⟩
    | succ d ih =>
      intro h1 h2
      have hk : k < l.length := by omega
      by_cases hn : f l[k] < 0
      · refine ih (k + 1) (by omega) (by omega) (fun j h hj => ?_)
        rcases Nat.lt_or_ge j k with h3 | h3
        · exact h2 j h h3
        · obtain rfl : j = k := by omega
          exact hn
      · refine ⟨k, h1, h2, fun j h h3 => ?_⟩
        rcases Nat.lt_or_ge k j with h4 | h4
        · apply Int.not_lt.1
          intro h5
          exact hn (hm k j h h4 h5)
        · obtain rfl : j = k := by omega
          exact Int.not_lt.1 hn
  obtain ⟨i, h1, h2, h3⟩ := key 0 (Nat.zero_le _) (fun j _ h => absurd h (Nat.not_lt_zero _))
  by_cases h : ∃ h : i < l.length, f l[i] = 0
  · exact ⟨i, true, h1, h2, h3, ⟨fun _ => h, fun _ => rfl⟩⟩
  · exact ⟨i, false, h1, h2, h3, ⟨fun e => (by cases e), fun e => absurd e h⟩⟩

/-- A net's copy in a box. -/
structure WS (o : Nt) (w wx : World) (gx : Nat) (q : Nt) : Prop where
  below : Below w.heap.size w wx
  rb : Has wx (w.heap.size + 1) zeroN
  xb : Has wx gx #[.int .i64 q.now, .int .i64 q.next, .slice q.LA q.Ln q.Lc, .slice q.SA q.Sn q.Sc, .slice q.CA q.Cn q.Cc, .slice q.KA q.Kn q.Kc]
  xt : HasT wx gx 27
  l2 : w.heap.size + 2 ≤ gx
  own : Nt.Own wx (w.heap.size + 2) q
  ap : Nt.Apart q
  btw : Nt.Btw q 0 gx
section
variable {o : Nt} {w wx wy : World} {gx : Nat} {q : Nt} {A' : Option Addr} {n' c' : Nat} {L : List Pr}
theorem WS.past (h : WS o w wx gx q) (hb : Below wx.heap.size wx wy) : WS o w wy gx q :=
  ⟨below_from hb h.below h.below.size, h.rb.past hb, h.xb.past hb, h.xt.past hb, h.l2, h.own.kept hb, h.ap, h.btw⟩
theorem WS.set (h : WS o w wx gx q) (hO : ∀ a ∈ q.L, Mg.In w a) (hg : wx.grownBy wy (Value.slice q.CA q.Cn q.Cc).ownBlock) (hr : ROwn prK 63 wy (w.heap.size + 2) A' n' c' L) (hin : ∀ p ∈ L, p.wf) :
    Has wy gx #[.int .i64 q.now, .int .i64 q.next, .slice q.LA q.Ln q.Lc, .slice q.SA q.Sn q.Sc, .slice q.CA q.Cn q.Cc, .slice q.KA q.Kn q.Kc] ∧ Has (wy.setCell ⟨gx, 4, none⟩ (.slice A' n' c')) gx #[.int .i64 q.now, .int .i64 q.next, .slice q.LA q.Ln q.Lc, .slice q.SA q.Sn q.Sc, .slice A' n' c', .slice q.KA q.Kn q.Kc] ∧ Has (wy.setCell ⟨gx, 4, none⟩ (.slice A' n' c')) (w.heap.size + 1) zeroN ∧ Below w.heap.size w (wy.setCell ⟨gx, 4, none⟩ (.slice A' n' c')) ∧
      Nt.Own (wy.setCell ⟨gx, 4, none⟩ (.slice A' n' c')) (w.heap.size + 2) (⟨q.now, q.next, q.LA, q.Ln, q.Lc, q.L, q.SA, q.Sn, q.Sc, q.S, A', n', c', L, q.KA, q.Kn, q.Kc, q.K⟩ : Nt) := by
  have cn : ∀ g, g < w.heap.size + 2 ∨ gx ≤ g → some g ≠ (Value.slice q.CA q.Cn q.Cc).ownBlock := fun g hgg e => by
    have h1 := (h.own.c.2.1.lt g e.symm).1
    have h2 := (h.btw.2.2.1 g e.symm).2
    have h3 := h.l2
    omega
  have X := h.xb.beside hg (cn gx (.inr (Nat.le_refl _)))
  have XT := h.xt.grown hg (fun e => cn gx (.inr (Nat.le_refl _)) e.symm)
  have R := h.rb.beside hg (cn _ (.inl (by omega)))
  have B := h.below.trans (grown_below hg h.below.size (fun k hk => by have := (h.own.c.2.1.lt k hk).1; omega))
  have G := setCells_grown gx [.slice A' n' c'] 4 wy
  have hl := h.l2
  have B2 := B.trans (grown_below G B.size (fun k hk => by injection hk with hk; omega))
  refine ⟨X, X.setAt 4 (.slice A' n' c') (by simp), R.grown G (by omega), B2, ?_, ?_, ?_, ?_⟩
  · exact ((h.own.l.rown.apart hg (fun b hb e => (h.ap.1 b hb).2.1 e)).apart G (fun b hb e => by injection e with e; have := (h.btw.1 b hb).2; omega)).own (fun a ha => mgK.below (hO a ha) B2)
  · exact ((h.own.s.rown.apart hg (fun b hb e => (h.ap.2 b e).1 hb)).apart G (fun b hb e => by injection e with e; have := (h.btw.2.1 b hb).2; omega)).own (fun a ha => h.own.s.2.2 a ha)
  · exact (hr.apart G (fun b hb e => by injection e with e; exact row_not hr.2 XT (by decide) b hb e.symm)).own hin
  · exact ((h.own.k.rown.apart hg (fun b hb e => (h.ap.2 b e).2 hb)).apart G (fun b hb e => by injection e with e; have := (h.btw.2.2.2 b hb).2; omega)).own (fun a ha => h.own.k.2.2 a ha)
end

theorem doC_wf {p : Pr} {yes : Bool} {l : List Pr} {i : Nat} {m : Bool} (hp : p.wf) (hl : ∀ x ∈ l, x.wf) : ∀ x ∈ doC p yes l i m, x.wf := by
  intro x hx
  unfold doC at hx
  cases yes <;> cases m
  · exact hl x hx
  · rcases List.mem_append.1 hx with h | h
    · exact hl x (List.mem_of_mem_take h)
    · exact hl x (List.mem_of_mem_drop h)
  · rcases List.mem_append.1 hx with h | h
    · rcases List.mem_append.1 h with h | h
      · exact hl x (List.mem_of_mem_take h)
      · rw [List.mem_singleton.1 h]; exact hp
    · exact hl x (List.mem_of_mem_drop h)
  · exact hl x hx
theorem int_wf {a : Int} (h1 : -9223372036854775808 ≤ a) (h2 : a ≤ 9223372036854775807) : (Lit.int .i64 a).wf = true := by
  unfold Lit.wf
  rw [Bool.and_eq_true, decide_eq_true_eq, decide_eq_true_eq]
  exact ⟨h1, h2⟩

set_option maxHeartbeats 16000000 in
set_option maxRecDepth 100000 in
theorem ways_any (o : Nt) (a b : Int) (yes : Bool) (g : Nat) (lb : Array Value) (w : World) (ho : Nt.At w o) (hf : o.Few) (eg : ∀ args w, (callFunc g args).run Try.prog w = .ok (.enter g args) w)
    (hdo : ∀ (A : Option Addr) (n c i : Nat) (l : List Pr) (m : Bool) (B : Nat) (W : World), Below w.heap.size w W → Own prK 63 W B A n c l → B ≤ W.heap.size → n ≤ 60000 → i ≤ n → (m = true → i < n) → Calls Try.prog g (#[.slice A n c, .int .i64 i, .bool m] ++ lb) W (DoRes B A n c (doC (pairP a b) yes l i m) W)) :
    Calls Try.prog 58 #[o.v, .int .i64 a, .int .i64 b, .func (.func g) #[] lb] w fun e w' => NetRes w.heap.size (waysV o.val a b yes) e w' ∧ Below w.heap.size w w' := by
  have HO := Lib.hid ho
  have HF := Lib.hid hf
  have DO := Lib.hid hdo
  have hk := Nat.le_trans ho.k.cap ho.k.max
  have KL : o.val.K.length = o.Kn := ho.k.len
  obtain ⟨W0, hW0⟩ : ∃ W0, W0 = (w.alloc (.cells #[.int .i64 o.now, .int .i64 o.next, .slice o.LA o.Ln o.Lc, .slice o.SA o.Sn o.Sc, .slice o.CA o.Cn o.Cc, .slice o.KA o.Kn o.Kc] 27)).alloc (.cells #[.int .i64 0, .int .i64 0, .slice none 0 0, .slice none 0 0, .slice none 0 0, .slice none 0 0] 27) := ⟨_, rfl⟩
  have B0 := Lib.hid (show Below w.heap.size w W0 from by rw [hW0]; exact ((Below.refl _ w).alloc (Nat.le_refl _) _).alloc (by simp) _)
  have N0 := Lib.hid (show Has W0 w.heap.size #[.int .i64 o.now, .int .i64 o.next, .slice o.LA o.Ln o.Lc, .slice o.SA o.Sn o.Sc, .slice o.CA o.Cn o.Cc, .slice o.KA o.Kn o.Kc] from by rw [hW0]; exact (Has.newAt w #[.int .i64 o.now, .int .i64 o.next, .slice o.LA o.Ln o.Lc, .slice o.SA o.Sn o.Sc, .slice o.CA o.Cn o.Cc, .slice o.KA o.Kn o.Kc] 27 rfl).alloc _)
  have X0 := Lib.hid (show Has W0 (w.heap.size + 1) #[.int .i64 0, .int .i64 0, .slice none 0 0, .slice none 0 0, .slice none 0 0, .slice none 0 0] from by rw [hW0]; exact Has.newAt _ #[.int .i64 0, .int .i64 0, .slice none 0 0, .slice none 0 0, .slice none 0 0, .slice none 0 0] 27 (by simp))
  have CK := Lib.hid (check_any o W0 (ho.below B0.out) (by have := hf.s; omega))
  have HW0 := Lib.hid hW0
  have n0c := N0.out.cell
  have n0l := N0.out.lt
  clear ho hf hW0 hdo
  cases hc : checkB o.val with
  | false =>
    rw [checkI_no hc] at CK
    have TV := Lib.hid (waysV_no (n := o.val) (a := a) (b := b) (yes := yes) (fun h => by rw [h.1] at hc; cases hc))
    clear hc KL
    go_enter Try.func58, Try.ntmps58
    go_upto_region 1 with (fail)
    rw [← HW0.out]
    go_wp2_with (go_at_call 15; refine CK.out.mono ?_; rintro e w1 ⟨rfl, hb⟩; have B1 := Lib.hid (below_from hb B0.out B0.out.size); have N1 := Lib.hid (N0.out.past hb); have X1 := Lib.hid (X0.out.past hb); have c1 := N1.out.cell; have l1 := N1.out.lt; have x1c := X1.out.cell; have x1l := X1.out.lt; have x1f := X1.out.free; clear hb)
    refine bodyPost_ret (v := .tuple #[noN.v, .int .i64 1]) (results_cell_tmp Try.results58 (g := w.heap.size + 1) rfl rfl (load27 (X1.out.set [.int .i64 0, .int .i64 0, .slice none 0 0, .slice none 0 0, .slice none 0 0, .slice none 0 0] rfl))) rfl ?_
    exact ⟨NetRes.no TV.out, B1.out.trans (grown_below (setCells_grown (w.heap.size + 1) [.int .i64 0, .int .i64 0, .slice none 0 0, .slice none 0 0, .slice none 0 0, .slice none 0 0] 0 _) B1.out.size (fun q hq => by injection hq with hq; omega))⟩
  | true =>
  rw [checkI_yes hc] at CK
  by_cases hab : a = b
  · have d0 : (a == b) = true := by rw [beq_iff_eq]; exact hab
    have TV := Lib.hid (waysV_no (n := o.val) (a := a) (b := b) (yes := yes) (fun h => by exact h.2.2.2 hab))
    clear hc KL hab
    go_enter Try.func58, Try.ntmps58
    go_upto_region 1 with (fail)
    rw [← HW0.out]
    go_wp2_with (go_at_call 15; refine CK.out.mono ?_; rintro e w1 ⟨rfl, hb⟩; have B1 := Lib.hid (below_from hb B0.out B0.out.size); have N1 := Lib.hid (N0.out.past hb); have X1 := Lib.hid (X0.out.past hb); have c1 := N1.out.cell; have l1 := N1.out.lt; have x1c := X1.out.cell; have x1l := X1.out.lt; have x1f := X1.out.free; clear hb)
    refine bodyPost_ret (v := .tuple #[noN.v, .int .i64 1]) (results_cell_tmp Try.results58 (g := w.heap.size + 1) rfl rfl (load27 (X1.out.set [.int .i64 0, .int .i64 0, .slice none 0 0, .slice none 0 0, .slice none 0 0, .slice none 0 0] rfl))) rfl ?_
    exact ⟨NetRes.no TV.out, B1.out.trans (grown_below (setCells_grown (w.heap.size + 1) [.int .i64 0, .int .i64 0, .slice none 0 0, .slice none 0 0, .slice none 0 0, .slice none 0 0] 0 _) B1.out.size (fun q hq => by injection hq with hq; omega))⟩
  have d0 : (a == b) = false := by rw [beq_eq_false_iff_ne]; exact hab
  by_cases h1 : min a b < 0
  · have d1 : decide (min a b < 0) = true := decide_eq_true h1
    have TV := Lib.hid (waysV_no (n := o.val) (a := a) (b := b) (yes := yes) (fun h => by have e := ends_min (m := o.Kn) (a := a) (b := b) (by omega); have h2 := h.2.1; have h3 := h.2.2.1; rw [KL] at h2 h3; rw [h2, h3] at e; cases e))
    clear hc KL hab h1
    go_enter Try.func58, Try.ntmps58
    go_upto_region 1 with (fail)
    rw [← HW0.out]
    go_wp2_with (go_at_call 15; refine CK.out.mono ?_; rintro e w1 ⟨rfl, hb⟩; have B1 := Lib.hid (below_from hb B0.out B0.out.size); have N1 := Lib.hid (N0.out.past hb); have X1 := Lib.hid (X0.out.past hb); have c1 := N1.out.cell; have l1 := N1.out.lt; have x1c := X1.out.cell; have x1l := X1.out.lt; have x1f := X1.out.free; clear hb)
    refine bodyPost_ret (v := .tuple #[noN.v, .int .i64 1]) (results_cell_tmp Try.results58 (g := w.heap.size + 1) rfl rfl (load27 (X1.out.set [.int .i64 0, .int .i64 0, .slice none 0 0, .slice none 0 0, .slice none 0 0, .slice none 0 0] rfl))) rfl ?_
    exact ⟨NetRes.no TV.out, B1.out.trans (grown_below (setCells_grown (w.heap.size + 1) [.int .i64 0, .int .i64 0, .slice none 0 0, .slice none 0 0, .slice none 0 0, .slice none 0 0] 0 _) B1.out.size (fun q hq => by injection hq with hq; omega))⟩
  have d1 : decide (min a b < 0) = false := decide_eq_false h1
  by_cases h2 : (o.Kn : Int) ≤ max a b
  · have d2 : decide ((o.Kn : Int) ≤ max a b) = true := decide_eq_true h2
    have TV := Lib.hid (waysV_no (n := o.val) (a := a) (b := b) (yes := yes) (fun h => by have e := ends_max (m := o.Kn) (a := a) (b := b) h2; have h3 := h.2.1; have h4 := h.2.2.1; rw [KL] at h3 h4; rw [h3, h4] at e; cases e))
    clear hc KL hab h1 h2
    go_enter Try.func58, Try.ntmps58
    go_upto_region 1 with (fail)
    rw [← HW0.out]
    go_wp2_with (go_at_call 15; refine CK.out.mono ?_; rintro e w1 ⟨rfl, hb⟩; have B1 := Lib.hid (below_from hb B0.out B0.out.size); have N1 := Lib.hid (N0.out.past hb); have X1 := Lib.hid (X0.out.past hb); have c1 := N1.out.cell; have l1 := N1.out.lt; have x1c := X1.out.cell; have x1l := X1.out.lt; have x1f := X1.out.free; clear hb)
    refine bodyPost_ret (v := .tuple #[noN.v, .int .i64 1]) (results_cell_tmp Try.results58 (g := w.heap.size + 1) rfl rfl (load27 (X1.out.set [.int .i64 0, .int .i64 0, .slice none 0 0, .slice none 0 0, .slice none 0 0, .slice none 0 0] rfl))) rfl ?_
    exact ⟨NetRes.no TV.out, B1.out.trans (grown_below (setCells_grown (w.heap.size + 1) [.int .i64 0, .int .i64 0, .slice none 0 0, .slice none 0 0, .slice none 0 0, .slice none 0 0] 0 _) B1.out.size (fun q hq => by injection hq with hq; omega))⟩
  have d2 : decide ((o.Kn : Int) ≤ max a b) = false := decide_eq_false h2
  have EE := ends_yes (m := o.Kn) (a := a) (b := b) (by omega) (by omega)
  have PW : (pairP a b).wf := ⟨int_wf (by show _ ≤ min a b; omega) (by show min a b ≤ _; omega), int_wf (by show _ ≤ max a b; omega) (by show max a b ≤ _; omega)⟩
  have RISE := chk_rise hc
  obtain ⟨i, m, hS⟩ := srch_ex (f := fun y => ordPr y (pairP a b)) (l := o.val.C) (mono_ord RISE (pairP a b))
  have TV := Lib.hid (waysV_yes (n := o.val) (a := a) (b := b) (yes := yes) ⟨hc, by rw [KL]; exact (Bool.and_eq_true_iff.1 EE).1, by rw [KL]; exact (Bool.and_eq_true_iff.1 EE).2, hab⟩ hS)
  have HS := Lib.hid hS
  have MO := Lib.hid (mono_ord RISE (pairP a b))
  have PWF := Lib.hid PW
  have iC : i ≤ o.Cn := by have := hS.1; rw [show o.val.C.length = o.Cn from HO.out.c.len] at this; exact this
  have mC : Hid (m = true → i < o.Cn) := Lib.hid (fun e => by obtain ⟨h, _⟩ := hS.2.2.2.1 e; rw [show o.val.C.length = o.Cn from HO.out.c.len] at h; exact h)
  have LF := HF.out.c
  clear hc KL hab h1 h2 EE PW RISE hS
  go_enter Try.func58, Try.ntmps58
  go_upto_region 1 with (fail)
  rw [← HW0.out]
  go_upto_region 4 with (first | (go_at_call 15; refine CK.out.mono ?_; rintro e w1 ⟨rfl, hb⟩; have B1 := Lib.hid (below_from hb B0.out B0.out.size); have N1 := Lib.hid (N0.out.past hb); have X1 := Lib.hid (X0.out.past hb); have c1 := N1.out.cell; have l1 := N1.out.lt; have x1c := X1.out.cell; have x1l := X1.out.lt; have x1f := X1.out.free; clear hb) | (go_at_call 33; refine (own_apart o _ (HO.out.below B1.out) HF.out).mono ?_; rintro e w2 ⟨q, rfl, hL, hO, hA, hb⟩; have QL := Lib.hid hL; have QO := Lib.hid hO; have QA := Lib.hid hA; have Z1 := Lib.hid X1.out.lt; have Z2 := Lib.hid hb.size; have B2 := Lib.hid (below_from hb B1.out B1.out.size); have N2 := Lib.hid (N1.out.past hb); have X2 := Lib.hid (X1.out.past hb); have n2c := (N1.out.past hb).cell; have n2l := (N1.out.past hb).lt; clear hL hO hA hb))
  have bk := below_alloc1 w2 (.cells #[.int .i64 q.now, .int .i64 q.next, .slice q.LA q.Ln q.Lc, .slice q.SA q.Sn q.Sc, .slice q.CA q.Cn q.Cc, .slice q.KA q.Kn q.Kc] 27)
  obtain ⟨W3, hW3⟩ : ∃ W, W = w2.alloc (.cells #[.int .i64 q.now, .int .i64 q.next, .slice q.LA q.Ln q.Lc, .slice q.SA q.Sn q.Sc, .slice q.CA q.Cn q.Cc, .slice q.KA q.Kn q.Kc] 27) := ⟨_, rfl⟩
  obtain ⟨gx, hgx⟩ : ∃ g, g = w2.heap.size := ⟨_, rfl⟩
  have z1 := Z1.out
  have z2 := Z2.out
  have S3 := Lib.hid (show WS o w W3 gx q from by
    subst hgx
    rw [hW3]
    have O3 := (QO.out.kept bk).base (show w.heap.size + 2 ≤ w1.heap.size by omega)
    exact ⟨B2.out.alloc B2.out.size _, X2.out.alloc _, Has.newAt w2 #[.int .i64 q.now, .int .i64 q.next, .slice q.LA q.Ln q.Lc, .slice q.SA q.Sn q.Sc, .slice q.CA q.Cn q.Cc, .slice q.KA q.Kn q.Kc] 27 rfl, HasT.newAt w2 #[.int .i64 q.now, .int .i64 q.next, .slice q.LA q.Ln q.Lc, .slice q.SA q.Sn q.Sc, .slice q.CA q.Cn q.Cc, .slice q.KA q.Kn q.Kc] 27 rfl, by omega, O3, QA.out,
      ⟨fun b hb => ⟨Nat.zero_le _, (QO.out.l.2.1.lt b hb).2⟩, fun b hb => ⟨Nat.zero_le _, (QO.out.s.2.1.lt b hb).2⟩, fun b hb => ⟨Nat.zero_le _, (QO.out.c.2.1.lt b hb).2⟩, fun b hb => ⟨Nat.zero_le _, (QO.out.k.2.1.lt b hb).2⟩⟩⟩)
  rw [← hW3, ← hgx]
  clear bk hW3 hgx z1 z2 Z1 Z2 X2 B2 N2 n2c n2l N1 X1 B1 c1 l1 x1c x1l x1f N0 X0 B0 n0c n0l CK
  have xc := S3.out.xb.cell
  have xl := S3.out.xb.lt
  have rx4 := at_regrown (v := .slice q.CA q.Cn q.Cc) (S3.out.xb.cell 4)
  have PA := Lib.hid (fun W (_ : Below W3.heap.size W3 W) => pair_any a b W)
  have CW := Lib.hid S3.out.own.c.sl
  have QCE := Lib.hid (show q.C = o.C from QL.out.C)
  have cq1 : q.Cn ≤ o.Cn := Nat.le_of_eq QL.out.Cn
  have cq2 : o.Cn ≤ q.Cn := Nat.le_of_eq QL.out.Cn.symm
  have SE := Lib.hid (fun W (h : Below W3.heap.size W3 W) => (show Calls Try.prog 74 #[.slice q.CA q.Cn q.Cc, .agg #[.int .i64 (pairP a b).a, .int .i64 (pairP a b).b], .func (.func 37) #[] #[]] W fun e w' => e = .returned (.tuple #[.int .i64 i, .bool m]) ∧ Below W.heap.size W w' from by
    refine (searchP q.CA q.Cn q.Cc q.C (pairP a b) W 37 (fun y => ordPr y (pairP a b)) (CW.out.below h) (by omega) (enters_of Try.func37 (by kernel_rfl) rfl) (by rw [QCE.out]; exact MO.out) (fun x hx W' hW' => pairs_any x (pairP a b) (CW.out.each x hx) PWF.out W')).mono ?_
    rintro e w' ⟨i2, m2, rfl, h1, h2⟩
    rw [QCE.out] at h1
    obtain ⟨rfl, rfl⟩ := srch_one h1 HS.out
    exact ⟨rfl, h2⟩))
  go_wp2_with fail
  refine region_below (by kernel_rfl) (by kernel_rfl) ?_
  repeat (go_big_quiet_step (first | (go_at_call 57; exact call_regrown PA.out) | (go_at_call 74; exact call_regrown SE.out)))
  refine wpQuiet_nil ?_
  intro w4 hb4
  have S4 := Lib.hid (S3.out.past hb4)
  clear hb4 xc xl rx4
  have xc := S4.out.xb.cell
  have xl := S4.out.xb.lt
  have DW := Lib.hid (DO.out q.CA q.Cn q.Cc i q.C m (w.heap.size + 2) w4 S4.out.below S4.out.own.c (by have := S4.out.l2; have := S4.out.xb.lt; omega) (by omega) (by omega) (fun e => by have := mC.out e; omega))
  go_upto_region 6 with (refine DW.out.mono ?_; rintro e w5 ⟨A', n', c', rfl, hr, hg⟩; have DN := Lib.hid (S4.out.set (fun x hx => HO.out.l.each x (by rw [← QL.out.L]; exact hx)) hg hr (doC_wf PWF.out (fun x hx => S4.out.own.c.2.2 x hx))); have x5c := DN.out.1.cell; have x5l := DN.out.1.lt; have x5f := DN.out.1.free; clear hr hg)
  obtain ⟨W6, hW6⟩ : ∃ W, W = w5.setCell ⟨gx, 4, none⟩ (.slice A' n' c') := ⟨_, rfl⟩
  have D2 := Lib.hid DN.out.2
  rw [← hW6] at D2
  rw [← hW6]
  clear hW6 x5c x5l x5f DN xc xl
  have xc := D2.out.1.cell
  have xl := D2.out.1.lt
  have rc := D2.out.2.1.cell
  have rl := D2.out.2.1.lt
  have rf := D2.out.2.1.free
  go_wp2_with fail
  refine bodyPost_ret (v := .tuple #[(⟨q.now, q.next, q.LA, q.Ln, q.Lc, q.L, q.SA, q.Sn, q.Sc, q.S, A', n', c', doC (pairP a b) yes q.C i m, q.KA, q.Kn, q.Kc, q.K⟩ : Nt).v, .int .i64 0]) (results_cell_tmp Try.results58 (g := w.heap.size + 1) rfl rfl (load27 (D2.out.2.1.set [.int .i64 q.now, .int .i64 q.next, .slice q.LA q.Ln q.Lc, .slice q.SA q.Sn q.Sc, .slice A' n' c', .slice q.KA q.Kn q.Kc] rfl))) rfl ?_
  have SG := setCells_grown (w.heap.size + 1) [.int .i64 q.now, .int .i64 q.next, .slice q.LA q.Ln q.Lc, .slice q.SA q.Sn q.Sc, .slice A' n' c', .slice q.KA q.Kn q.Kc] 0 W6
  have BE := D2.out.2.2.1.trans (grown_below SG D2.out.2.2.1.size (fun k hk => by injection hk with hk; omega))
  refine ⟨NetRes.mk _ ?_ ((D2.out.2.2.2.grown SG (by omega) (fun x hx => mgK.below (HO.out.l.each x (by rw [← QL.out.L]; exact hx)) BE)).base (by omega)), BE⟩
  rw [TV.out]
  unfold Nt.val
  simp only [QL.out.now, QL.out.next, QL.out.L, QL.out.S, QL.out.C, QL.out.K]

end Go.Proofs.Ytmlgahambecamaa
