/- Ways that are cut and healed, of the document. -/
import Derived.Test.YtmlgahambecamaaWays
import Derived.Test.YtmlgahambecamaaRCopy
import Derived.Test.YtmlgahambecamaaRCheck
import Derived.Deep.DeepCutAuto
namespace Go.Proofs.Ytmlgahambecamaa
open Go.RowKit Go.Shelf

/-- A net's copy in a box, as the document makes it: the ways are laid anew. -/
structure WR (o : Nt) (w wx : World) (gh gx : Nat) (q : Nt) (A : Option Addr) (n c : Nat) (l : List Pr) (p : Pr) : Prop where
  below : Below w.heap.size w wx
  nb : Has wx w.heap.size o.c
  rb : Has wx (w.heap.size + 1) zeroN
  hb : Has wx gh #[.int .i64 p.a, .int .i64 p.b]
  xb : Has wx gx #[.int .i64 q.now, .int .i64 q.next, .slice q.LA q.Ln q.Lc, .slice q.SA q.Sn q.Sc, .slice A n c, .slice q.KA q.Kn q.Kc]
  ll : w.heap.size + 2 ≤ gh
  lx : gh < gx
  row : ROwn prK 63 wx (gx + 1) A n c l
  own : Nt.Own wx (w.heap.size + 2) ⟨q.now, q.next, q.LA, q.Ln, q.Lc, q.L, q.SA, q.Sn, q.Sc, q.S, none, 0, 0, [], q.KA, q.Kn, q.Kc, q.K⟩
  btw : Nt.Btw ⟨q.now, q.next, q.LA, q.Ln, q.Lc, q.L, q.SA, q.Sn, q.Sc, q.S, none, 0, 0, [], q.KA, q.Kn, q.Kc, q.K⟩ 0 gx
theorem Nt.Own.farO {w w' : World} {B lo hi : Nat} {q : Nt} {r : Option Nat} (h : Nt.Own w B q) (hg : w.grownBy w' r) (hb : Nt.Btw q lo hi) (hne : ∀ g, r = some g → g < lo ∨ hi ≤ g) (hin : ∀ a ∈ q.L, Mg.In w' a) : Nt.Own w' B q :=
  ⟨(h.l.rown.apart hg (fun b hb2 e => by have := hb.1 b hb2; have := hne b e; omega)).own hin, (h.s.rown.apart hg (fun b hb2 e => by have := hb.2.1 b hb2; have := hne b e; omega)).own (fun a ha => h.s.2.2 a ha),
    (h.c.rown.apart hg (fun b hb2 e => by have := hb.2.2.1 b hb2; have := hne b e; omega)).own (fun a ha => h.c.2.2 a ha), (h.k.rown.apart hg (fun b hb2 e => by have := hb.2.2.2 b hb2; have := hne b e; omega)).own (fun a ha => h.k.2.2 a ha)⟩
section
variable {o : Nt} {w wx wy wz : World} {gh gx : Nat} {q : Nt} {A A2 : Option Addr} {n c n2 c2 : Nat} {l l2 : List Pr} {p : Pr}
theorem WR.past (h : WR o w wx gh gx q A n c l p) (hb : Below wx.heap.size wx wy) : WR o w wy gh gx q A n c l p :=
  ⟨below_from hb h.below h.below.size, h.nb.past hb, h.rb.past hb, h.hb.past hb, h.xb.past hb, h.ll, h.lx, h.row.kept hb, h.own.kept hb, h.btw⟩
theorem WR.put (h : WR o w wx gh gx q A n c l p) (hO : ∀ a ∈ q.L, Mg.In w a) (hb : Below wx.heap.size wx wy) (hg : wy.grownBy wz (Value.slice A n c).ownBlock) (hr : ROwn prK 63 wz (gx + 1) A2 n2 c2 l2) :
    WR o w (wz.setCell ⟨gx, 4, none⟩ (.slice A2 n2 c2)) gh gx q A2 n2 c2 l2 p := by
  have P := h.past hb
  have cn : ∀ g, (Value.slice A n c).ownBlock = some g → gx + 1 ≤ g := fun g e => (h.row.2.lt g e).1
  have G := setCells_grown gx [.slice A2 n2 c2] 4 wz
  have h1 := h.ll
  have h2 := h.lx
  have B1 := P.below.trans (grown_below hg P.below.size (fun k hk => by have := cn k hk; omega))
  have B2 := B1.trans (grown_below G B1.size (fun k hk => by injection hk with hk; omega))
  have far : ∀ {g : Nat} {cs : Array Value}, Has wy g cs → g < gx → Has (wz.setCell ⟨gx, 4, none⟩ (.slice A2 n2 c2)) g cs := fun k hlt => (k.beside hg (fun e => by have := cn _ e.symm; omega)).grown G (by omega)
  refine ⟨B2, far P.nb (by omega), far P.rb (by omega), far P.hb (by omega), (P.xb.beside hg (fun e => by have := cn _ e.symm; omega)).setAt 4 (.slice A2 n2 c2) (by simp), h1, h2, hr.grown G (by omega), ?_, h.btw⟩
  have O1 := P.own.farO hg h.btw (fun g e => .inr (by have := cn g e; omega)) (fun a ha => mgK.below (hO a ha) B1)
  exact O1.farO G h.btw (fun g e => .inr (by injection e with e; omega)) (fun a ha => mgK.below (hO a ha) B2)
theorem WR.done (h : WR o w wx gh gx q A n c l p) (hO : ∀ a ∈ q.L, Mg.In w a) (hg : wx.grownBy wy (some (w.heap.size + 1))) (hin : ∀ x ∈ l, x.wf) : Nt.Own wy w.heap.size ⟨q.now, q.next, q.LA, q.Ln, q.Lc, q.L, q.SA, q.Sn, q.Sc, q.S, A, n, c, l, q.KA, q.Kn, q.Kc, q.K⟩ ∧ Below w.heap.size w wy := by
  have hb := h.below.trans (grown_below hg h.below.size (fun k hk => by injection hk with hk; omega))
  have h1 := h.ll
  have h2 := h.lx
  have ho := (h.own.grown hg (by omega) (fun a ha => mgK.below (hO a ha) hb)).base (show w.heap.size ≤ w.heap.size + 2 by omega)
  exact ⟨⟨ho.l, ho.s, ((h.row.grown hg (by omega)).own hin).base (by omega), ho.k⟩, hb⟩
end
theorem waysV_do {n : Nv} {a b : Int} {yes : Bool} (h : checkB n = true ∧ endB n.K.length a = true ∧ endB n.K.length b = true ∧ a ≠ b) :
    waysV n a b yes = ({ n with C := n.C.filter (fun c => ltP c (pairP a b)) ++ (if yes = true then [pairP a b] else []) ++ n.C.filter (fun c => ltP (pairP a b) c) }, 0) := by
  unfold waysV
  rw [if_pos h]

set_option maxHeartbeats 16000000 in
set_option maxRecDepth 100000 in
theorem rways_any (o : Nt) (a b : Int) (yes : Bool) (w : World) (ho : Nt.At w o) (hf : o.Few) :
    Calls Try.prog 63 #[o.v, .int .i64 a, .int .i64 b, .bool yes] w fun e w' => NetRes w.heap.size (waysV o.val a b yes) e w' ∧ Below w.heap.size w w' := by
  obtain ⟨i0, hi0, hz0, hs0, hb0⟩ := info_parts inf63
  have HO := Lib.hid ho
  have HF := Lib.hid hf
  have hl1 := ho.c.cap
  have hl2 := ho.c.max
  have KL : o.val.K.length = o.Kn := ho.k.len
  have hk := Nat.le_trans ho.k.cap ho.k.max
  obtain ⟨W0, hW0⟩ : ∃ W0, W0 = (w.alloc (.cells #[.int .i64 o.now, .int .i64 o.next, .slice o.LA o.Ln o.Lc, .slice o.SA o.Sn o.Sc, .slice o.CA o.Cn o.Cc, .slice o.KA o.Kn o.Kc] 27)).alloc (.cells #[.int .i64 0, .int .i64 0, .slice none 0 0, .slice none 0 0, .slice none 0 0, .slice none 0 0] 27) := ⟨_, rfl⟩
  have B0 := Lib.hid (show Below w.heap.size w W0 from by rw [hW0]; exact ((Below.refl _ w).alloc (Nat.le_refl _) _).alloc (by simp) _)
  have N0 := Lib.hid (show Has W0 w.heap.size #[.int .i64 o.now, .int .i64 o.next, .slice o.LA o.Ln o.Lc, .slice o.SA o.Sn o.Sc, .slice o.CA o.Cn o.Cc, .slice o.KA o.Kn o.Kc] from by rw [hW0]; exact (Has.newAt w #[.int .i64 o.now, .int .i64 o.next, .slice o.LA o.Ln o.Lc, .slice o.SA o.Sn o.Sc, .slice o.CA o.Cn o.Cc, .slice o.KA o.Kn o.Kc] 27 rfl).alloc _)
  have X0 := Lib.hid (show Has W0 (w.heap.size + 1) #[.int .i64 0, .int .i64 0, .slice none 0 0, .slice none 0 0, .slice none 0 0, .slice none 0 0] from by rw [hW0]; exact Has.newAt _ #[.int .i64 0, .int .i64 0, .slice none 0 0, .slice none 0 0, .slice none 0 0, .slice none 0 0] 27 (by simp))
  have CK := Lib.hid (rcheck_any o W0 (ho.below B0.out))
  have HW0 := Lib.hid hW0
  have n0c := N0.out.cell
  have n0l := N0.out.lt
  clear ho hf hW0
  cases hc : checkB o.val with
  | false =>
    rw [checkI_no hc] at CK
    have TV := Lib.hid (waysV_no (n := o.val) (a := a) (b := b) (yes := yes) (fun h => by rw [h.1] at hc; cases hc))
    clear hc KL
    go_enter Try.func63, Try.ntmps63
    go_upto_region 1 with (fail)
    rw [← HW0.out]
    go_wp2_with (first | (go_at_call 16; refine CK.out.mono ?_; rintro e w1 ⟨rfl, hb⟩; have B1 := Lib.hid (below_from hb B0.out B0.out.size); have N1 := Lib.hid (N0.out.past hb); have X1 := Lib.hid (X0.out.past hb); have c1 := N1.out.cell; have l1 := N1.out.lt; have x1c := X1.out.cell; have x1l := X1.out.lt; have x1f := X1.out.free; clear hb))
    refine bodyPost_ret (v := .tuple #[noN.v, .int .i64 1]) (results_cell_tmp Try.results63 (g := w.heap.size + 1) rfl rfl (load27 (X1.out.set [.int .i64 0, .int .i64 0, .slice none 0 0, .slice none 0 0, .slice none 0 0, .slice none 0 0] rfl))) rfl ?_
    exact ⟨NetRes.no TV.out, B1.out.trans (grown_below (setCells_grown (w.heap.size + 1) [.int .i64 0, .int .i64 0, .slice none 0 0, .slice none 0 0, .slice none 0 0, .slice none 0 0] 0 _) B1.out.size (fun q hq => by injection hq with hq; omega))⟩
  | true =>
  rw [checkI_yes hc] at CK
  cases hF : endB o.Kn a with
  | false =>
    have EF := Lib.hid hF
    have TV := Lib.hid (waysV_no (n := o.val) (a := a) (b := b) (yes := yes) (fun h => by have h2 := h.2.1; rw [KL, hF] at h2; cases h2))
    clear hc KL hF
    go_enter Try.func63, Try.ntmps63
    go_upto_region 1 with (fail)
    rw [← HW0.out]
    go_wp2_with (first | (go_at_call 16; refine CK.out.mono ?_; rintro e w1 ⟨rfl, hb⟩; have B1 := Lib.hid (below_from hb B0.out B0.out.size); have N1 := Lib.hid (N0.out.past hb); have X1 := Lib.hid (X0.out.past hb); have c1 := N1.out.cell; have l1 := N1.out.lt; have x1c := X1.out.cell; have x1l := X1.out.lt; have x1f := X1.out.free; clear hb) | (go_at_call 40; refine (end_any o _ _).mono ?_; rintro e w1 ⟨rfl, hb⟩; rw [EF.out]; have B1 := Lib.hid (below_from hb B1.out B1.out.size); have N1 := Lib.hid (N1.out.past hb); have X1 := Lib.hid (X1.out.past hb); have c1 := N1.out.cell; have l1 := N1.out.lt; have x1c := X1.out.cell; have x1l := X1.out.lt; have x1f := X1.out.free; clear hb))
    refine bodyPost_ret (v := .tuple #[noN.v, .int .i64 1]) (results_cell_tmp Try.results63 (g := w.heap.size + 1) rfl rfl (load27 (X1.out.set [.int .i64 0, .int .i64 0, .slice none 0 0, .slice none 0 0, .slice none 0 0, .slice none 0 0] rfl))) rfl ?_
    exact ⟨NetRes.no TV.out, B1.out.trans (grown_below (setCells_grown (w.heap.size + 1) [.int .i64 0, .int .i64 0, .slice none 0 0, .slice none 0 0, .slice none 0 0, .slice none 0 0] 0 _) B1.out.size (fun q hq => by injection hq with hq; omega))⟩
  | true =>
  have EF := Lib.hid hF
  cases hD : endB o.Kn b with
  | false =>
    have ED := Lib.hid hD
    have TV := Lib.hid (waysV_no (n := o.val) (a := a) (b := b) (yes := yes) (fun h => by have h2 := h.2.2.1; rw [KL, hD] at h2; cases h2))
    clear hc KL hF hD
    go_enter Try.func63, Try.ntmps63
    go_upto_region 1 with (fail)
    rw [← HW0.out]
    go_wp2_with (first | (go_at_call 16; refine CK.out.mono ?_; rintro e w1 ⟨rfl, hb⟩; have B1 := Lib.hid (below_from hb B0.out B0.out.size); have N1 := Lib.hid (N0.out.past hb); have X1 := Lib.hid (X0.out.past hb); have c1 := N1.out.cell; have l1 := N1.out.lt; have x1c := X1.out.cell; have x1l := X1.out.lt; have x1f := X1.out.free; clear hb) | (go_at_call 40; refine (end_any o _ _).mono ?_; rintro e w1 ⟨rfl, hb⟩; rw [EF.out]; have B1 := Lib.hid (below_from hb B1.out B1.out.size); have N1 := Lib.hid (N1.out.past hb); have X1 := Lib.hid (X1.out.past hb); have c1 := N1.out.cell; have l1 := N1.out.lt; have x1c := X1.out.cell; have x1l := X1.out.lt; have x1f := X1.out.free; clear hb) | (go_at_call 40; refine (end_any o _ _).mono ?_; rintro e w1 ⟨rfl, hb⟩; rw [ED.out]; have B1 := Lib.hid (below_from hb B1.out B1.out.size); have N1 := Lib.hid (N1.out.past hb); have X1 := Lib.hid (X1.out.past hb); have c1 := N1.out.cell; have l1 := N1.out.lt; have x1c := X1.out.cell; have x1l := X1.out.lt; have x1f := X1.out.free; clear hb))
    refine bodyPost_ret (v := .tuple #[noN.v, .int .i64 1]) (results_cell_tmp Try.results63 (g := w.heap.size + 1) rfl rfl (load27 (X1.out.set [.int .i64 0, .int .i64 0, .slice none 0 0, .slice none 0 0, .slice none 0 0, .slice none 0 0] rfl))) rfl ?_
    exact ⟨NetRes.no TV.out, B1.out.trans (grown_below (setCells_grown (w.heap.size + 1) [.int .i64 0, .int .i64 0, .slice none 0 0, .slice none 0 0, .slice none 0 0, .slice none 0 0] 0 _) B1.out.size (fun q hq => by injection hq with hq; omega))⟩
  | true =>
  have ED := Lib.hid hD
  by_cases hab : a = b
  · have d0 : (a == b) = true := by rw [beq_iff_eq]; exact hab
    have TV := Lib.hid (waysV_no (n := o.val) (a := a) (b := b) (yes := yes) (fun h => by exact h.2.2.2 hab))
    clear hc KL hF hD hab
    go_enter Try.func63, Try.ntmps63
    go_upto_region 1 with (fail)
    rw [← HW0.out]
    go_wp2_with (first | (go_at_call 16; refine CK.out.mono ?_; rintro e w1 ⟨rfl, hb⟩; have B1 := Lib.hid (below_from hb B0.out B0.out.size); have N1 := Lib.hid (N0.out.past hb); have X1 := Lib.hid (X0.out.past hb); have c1 := N1.out.cell; have l1 := N1.out.lt; have x1c := X1.out.cell; have x1l := X1.out.lt; have x1f := X1.out.free; clear hb) | (go_at_call 40; refine (end_any o _ _).mono ?_; rintro e w1 ⟨rfl, hb⟩; rw [EF.out]; have B1 := Lib.hid (below_from hb B1.out B1.out.size); have N1 := Lib.hid (N1.out.past hb); have X1 := Lib.hid (X1.out.past hb); have c1 := N1.out.cell; have l1 := N1.out.lt; have x1c := X1.out.cell; have x1l := X1.out.lt; have x1f := X1.out.free; clear hb) | (go_at_call 40; refine (end_any o _ _).mono ?_; rintro e w1 ⟨rfl, hb⟩; rw [ED.out]; have B1 := Lib.hid (below_from hb B1.out B1.out.size); have N1 := Lib.hid (N1.out.past hb); have X1 := Lib.hid (X1.out.past hb); have c1 := N1.out.cell; have l1 := N1.out.lt; have x1c := X1.out.cell; have x1l := X1.out.lt; have x1f := X1.out.free; clear hb))
    refine bodyPost_ret (v := .tuple #[noN.v, .int .i64 1]) (results_cell_tmp Try.results63 (g := w.heap.size + 1) rfl rfl (load27 (X1.out.set [.int .i64 0, .int .i64 0, .slice none 0 0, .slice none 0 0, .slice none 0 0, .slice none 0 0] rfl))) rfl ?_
    exact ⟨NetRes.no TV.out, B1.out.trans (grown_below (setCells_grown (w.heap.size + 1) [.int .i64 0, .int .i64 0, .slice none 0 0, .slice none 0 0, .slice none 0 0, .slice none 0 0] 0 _) B1.out.size (fun q hq => by injection hq with hq; omega))⟩
  have d0 : (a == b) = false := by rw [beq_eq_false_iff_ne]; exact hab
  have TV := Lib.hid (waysV_do (n := o.val) (a := a) (b := b) (yes := yes) ⟨hc, by rw [KL]; exact hF, by rw [KL]; exact hD, hab⟩)
  have AR : 0 ≤ a ∧ a < (o.Kn : Int) := by unfold endB at hF; simpa using hF
  have BR : 0 ≤ b ∧ b < (o.Kn : Int) := by unfold endB at hD; simpa using hD
  have PW : (pairP a b).wf := ⟨int_wf (by show _ ≤ min a b; omega) (by show min a b ≤ _; omega), int_wf (by show _ ≤ max a b; omega) (by show max a b ≤ _; omega)⟩
  have PWF := Lib.hid PW
  have LF := HF.out.c
  clear hc KL hF hD hab AR BR PW
  go_enter Try.func63, Try.ntmps63
  go_upto_region 1 with (fail)
  rw [← HW0.out]
  go_upto_region 6 with (first | (go_at_call 16; refine CK.out.mono ?_; rintro e w1 ⟨rfl, hb⟩; have B1 := Lib.hid (below_from hb B0.out B0.out.size); have N1 := Lib.hid (N0.out.past hb); have X1 := Lib.hid (X0.out.past hb); have c1 := N1.out.cell; have l1 := N1.out.lt; have x1c := X1.out.cell; have x1l := X1.out.lt; have x1f := X1.out.free; clear hb) | (go_at_call 40; refine (end_any o _ _).mono ?_; rintro e w1 ⟨rfl, hb⟩; rw [EF.out]; have B1 := Lib.hid (below_from hb B1.out B1.out.size); have N1 := Lib.hid (N1.out.past hb); have X1 := Lib.hid (X1.out.past hb); have c1 := N1.out.cell; have l1 := N1.out.lt; have x1c := X1.out.cell; have x1l := X1.out.lt; have x1f := X1.out.free; clear hb) | (go_at_call 40; refine (end_any o _ _).mono ?_; rintro e w1 ⟨rfl, hb⟩; rw [ED.out]; have B1 := Lib.hid (below_from hb B1.out B1.out.size); have N1 := Lib.hid (N1.out.past hb); have X1 := Lib.hid (X1.out.past hb); have c1 := N1.out.cell; have l1 := N1.out.lt; have x1c := X1.out.cell; have x1l := X1.out.lt; have x1f := X1.out.free; clear hb) | (go_at_call 18; refine (copy_any o _ (HO.out.below (B1.out.alloc B1.out.size _)) HF.out).mono ?_; rintro e w2 ⟨q, rfl, hL, hO, hb⟩; have QL := Lib.hid hL; have QO := Lib.hid hO; have Z1 := Lib.hid X1.out.lt; have Z2 := Lib.hid hb.size; have BK := Lib.hid hb; have B2 := Lib.hid (below_from hb (B1.out.alloc B1.out.size _) (B1.out.alloc B1.out.size _).size); have N2 := Lib.hid ((N1.out.alloc _).past hb); have X2 := Lib.hid ((X1.out.alloc _).past hb); have H2 := Lib.hid ((Has.newAt w1 #[.int .i64 (min a b), .int .i64 (max a b)] 63 (g := w1.heap.size) rfl).past hb); have n2c := N2.out.cell; have n2l := N2.out.lt; clear hL hO hb))
  obtain ⟨gh, hgh⟩ : ∃ g, g = w1.heap.size := ⟨_, rfl⟩
  obtain ⟨gx, hgx⟩ : ∃ g, g = w2.heap.size := ⟨_, rfl⟩
  obtain ⟨p, hp⟩ : ∃ p, p = pairP a b := ⟨_, rfl⟩
  obtain ⟨W3, hW3⟩ : ∃ W, W = w2.alloc (.cells #[.int .i64 q.now, .int .i64 q.next, .slice q.LA q.Ln q.Lc, .slice q.SA q.Sn q.Sc, .slice none 0 0, .slice q.KA q.Kn q.Kc] 27) := ⟨_, rfl⟩
  have bk := below_alloc1 w2 (.cells #[.int .i64 q.now, .int .i64 q.next, .slice q.LA q.Ln q.Lc, .slice q.SA q.Sn q.Sc, .slice none 0 0, .slice q.KA q.Kn q.Kc] 27)
  have z1 := Z1.out
  have z2 : w1.heap.size + 1 ≤ w2.heap.size := by have := Z2.out; simpa using this
  have S3 := Lib.hid (show WR o w W3 gh gx q none 0 0 [] p from by
    subst hgh hgx hp
    rw [hW3]
    have O3 := (QO.out.kept bk).base (show w.heap.size + 2 ≤ (w1.alloc (.cells #[.int .i64 (min a b), .int .i64 (max a b)] 63)).heap.size by simp; omega)
    refine ⟨B2.out.alloc B2.out.size _, N2.out.alloc _, X2.out.alloc _, H2.out.alloc _, Has.newAt w2 #[.int .i64 q.now, .int .i64 q.next, .slice q.LA q.Ln q.Lc, .slice q.SA q.Sn q.Sc, .slice none 0 0, .slice q.KA q.Kn q.Kc] 27 rfl, by omega, by omega, ROwn.nil _ _ _ _, ⟨O3.l, O3.s, (noN_own _ _).c, O3.k⟩, ?_⟩
    exact ⟨fun b hb => ⟨Nat.zero_le _, (QO.out.l.2.1.lt b hb).2⟩, fun b hb => ⟨Nat.zero_le _, (QO.out.s.2.1.lt b hb).2⟩, fun b hb => by simp [Value.ownBlock] at hb, fun b hb => ⟨Nat.zero_le _, (QO.out.k.2.1.lt b hb).2⟩⟩)
  rw [← hp] at TV PWF
  rw [← hW3, ← hgx, ← hgh]
  clear bk hW3 hgx hgh hp z1 z2 Z1 Z2 BK H2 X2 B2 N2 n2c n2l N1 X1 B1 c1 l1 x1c x1l x1f N0 X0 B0 n0c n0l CK
  have n3c := S3.out.nb.cell
  have n3l := S3.out.nb.lt
  have HC := Lib.hid HO.out.c
  obtain ⟨CA, hCA⟩ : ∃ A, o.CA = A := ⟨_, rfl⟩
  have n3c2 := n3c 4
  go_wp2_with fail
  rw [hCA] at HC ⊢
  clear n3c n3l n3c2
  go_loopg [50] o.Cn (fun gg s wr => ∃ (k : Nat) (A : Option Addr) (n c : Nat), k ≤ o.Cn ∧ o.Cn - k ≤ gg ∧ s = .int .i64 k ∧ n ≤ 0 + k ∧ Hid (WR o w wr gh gx q A n c ([] ++ (o.C.take k).filter fun c => ltP c p) p))
  case atStart => exact ⟨0, none, 0, 0, Nat.zero_le _, by omega, rfl, Nat.le_refl _, S3⟩
  case round =>
    obtain ⟨k, A, n, c, hk, hgg, rfl, hn, SR⟩ := hrel
    have SRx := SR.out.xb.cell
    have SRxl := SR.out.xb.lt
    have SRxf := SR.out.xb.free
    have SRh := SR.out.hb.cell
    have SRhl := SR.out.hb.lt
    have SRn := SR.out.nb.cell
    have SRnl := SR.out.nb.lt
    by_cases hlt : k < o.Cn
    · obtain ⟨bb, off, hkl, hCA, hbl, x0, x1⟩ := pr_at (HC.out.below SR.out.below) hlt
      have TS := Lib.hid (show [] ++ (o.C.take (k + 1)).filter (fun c => ltP c p) = [] ++ (o.C.take k).filter (fun c => ltP c p) ++ if ltP o.C[k] p = true then [o.C[k]] else [] from by
        rw [List.take_succ_eq_append_getElem hkl, List.filter_append, List.append_assoc]
        cases h : ltP o.C[k] p <;> simp [h])
      subst hCA
      obtain ⟨l0, hl0⟩ : ∃ l0, l0 = ([] ++ (o.C.take k).filter fun c => ltP c p) := ⟨_, rfl⟩
      rw [← hl0] at SR TS
      clear hl0
      generalize o.C[k] = x at *
      have BB := Lib.hid ((below_alloc1 wr (.cells #[.int .i64 x.a, .int .i64 x.b] 63)).alloc (below_alloc1 wr (.cells #[.int .i64 x.a, .int .i64 x.b] 63)).size (.cells #[.int .i64 x.a, .int .i64 x.b] 63))
      have B1 := Lib.hid (below_alloc1 wr (.cells #[.int .i64 x.a, .int .i64 x.b] 63))
      have MC := Lib.hid (Has.newAt (wr.alloc (.cells #[.int .i64 x.a, .int .i64 x.b] 63)) #[.int .i64 x.a, .int .i64 x.b] 63 (g := wr.heap.size + 1) (by simp)).cell
      have hcs : (x.a < p.a) ∨ ((x.a = p.a) ∧ (x.b < p.b)) ∨ ((x.a = p.a) ∧ ¬ (x.b < p.b)) ∨ (¬ (x.a < p.a) ∧ ¬ (x.a = p.a)) := by omega
      rcases hcs with hcs | hcs | hcs | hcs
      · skip
        have d1 : decide (x.a < p.a) = true := decide_eq_true (by omega)
        have LT : ltP x p = true := by
          unfold ltP
          simp only [Bool.or_eq_true, Bool.and_eq_true, decide_eq_true_eq]; omega
        rw [LT] at TS
        rw [if_pos rfl] at TS
        clear LT hcs
        go_wp2_with (at_builtin; refine wpList_app1R (K := prK) _ rfl _ _ 24 rfl (gx + 1) 63 i0 _ 16 Try.underlying24 hi0 hz0 hs0 hb0 rfl A n c _ rfl (SR.out.row.kept BB.out) (wr.heap.size + 1) rfl x ?qc1 ?qc2 ?qc3 ?qc4 ?_)
        case qc1 => first | (intro j _; simp [prK, Pr.cells]; done) | (intro j _; exact (MC.out j).trans (by simp [prK, Pr.cells]))
        case qc2 => unfold maxLen; omega
        case qc3 => omega
        case qc4 => first | exact Nat.le_of_lt SR.out.xb.lt | exact Nat.le_trans SR.out.xb.lt BB.out.size
        intro A2 c2 w5 hown hgrow hat
        have S6 := Lib.hid (SR.out.put (fun y hy => HO.out.l.each y (by rw [← QL.out.L]; exact hy)) BB.out hgrow hown)
        have x6 := (SR.out.xb.past BB.out).beside hgrow (fun e => by have := (SR.out.row.2.lt gx e.symm).1; omega)
        have x6c := x6.cell
        have x6l := x6.lt
        have x6f := x6.free
        clear hown hgrow hat x6

        clear SRx SRxl SRxf SRh SRhl SRn SRnl
        go_wp2_with fail
        go_roundg (o.Cn - (k + 1))
        case measure => omega
        case rel => exact ⟨k + 1, A2, n + 1, c2, by omega, by omega, by go_num, by omega, by rw [TS.out]; exact S6⟩
      · skip
        have d1 : decide (x.a < p.a) = false := decide_eq_false (by omega)
        have e1 : (x.a == p.a) = true := by rw [beq_iff_eq]; omega
        have d2 : decide (x.b < p.b) = true := decide_eq_true (by omega)
        have LT : ltP x p = true := by
          unfold ltP
          simp only [Bool.or_eq_true, Bool.and_eq_true, decide_eq_true_eq]; omega
        rw [LT] at TS
        rw [if_pos rfl] at TS
        clear LT hcs
        go_wp2_with (at_builtin; refine wpList_app1R (K := prK) _ rfl _ _ 24 rfl (gx + 1) 63 i0 _ 16 Try.underlying24 hi0 hz0 hs0 hb0 rfl A n c _ rfl (SR.out.row.kept BB.out) (wr.heap.size + 1) rfl x ?qc1 ?qc2 ?qc3 ?qc4 ?_)
        case qc1 => first | (intro j _; simp [prK, Pr.cells]; done) | (intro j _; exact (MC.out j).trans (by simp [prK, Pr.cells]))
        case qc2 => unfold maxLen; omega
        case qc3 => omega
        case qc4 => first | exact Nat.le_of_lt SR.out.xb.lt | exact Nat.le_trans SR.out.xb.lt BB.out.size
        intro A2 c2 w5 hown hgrow hat
        have S6 := Lib.hid (SR.out.put (fun y hy => HO.out.l.each y (by rw [← QL.out.L]; exact hy)) BB.out hgrow hown)
        have x6 := (SR.out.xb.past BB.out).beside hgrow (fun e => by have := (SR.out.row.2.lt gx e.symm).1; omega)
        have x6c := x6.cell
        have x6l := x6.lt
        have x6f := x6.free
        clear hown hgrow hat x6

        clear SRx SRxl SRxf SRh SRhl SRn SRnl
        go_wp2_with fail
        go_roundg (o.Cn - (k + 1))
        case measure => omega
        case rel => exact ⟨k + 1, A2, n + 1, c2, by omega, by omega, by go_num, by omega, by rw [TS.out]; exact S6⟩
      · skip
        have d1 : decide (x.a < p.a) = false := decide_eq_false (by omega)
        have e1 : (x.a == p.a) = true := by rw [beq_iff_eq]; omega
        have d2 : decide (x.b < p.b) = false := decide_eq_false (by omega)
        have LT : ltP x p = false := by
          unfold ltP
          simp only [Bool.or_eq_false_iff, Bool.and_eq_false_iff, decide_eq_false_iff_not]; omega
        rw [LT] at TS
        rw [if_neg (by simp)] at TS
        clear LT hcs
        have S6 := Lib.hid (SR.out.past B1.out)
        go_wp2_with fail
        go_roundg (o.Cn - (k + 1))
        case measure => omega
        case rel => exact ⟨k + 1, A, n, c, by omega, by omega, by go_num, by omega, by rw [TS.out, List.append_nil]; exact S6⟩
      · skip
        have d1 : decide (x.a < p.a) = false := decide_eq_false (by omega)
        have e1 : (x.a == p.a) = false := by rw [beq_eq_false_iff_ne]; omega
        have LT : ltP x p = false := by
          unfold ltP
          simp only [Bool.or_eq_false_iff, Bool.and_eq_false_iff, decide_eq_false_iff_not]; omega
        rw [LT] at TS
        rw [if_neg (by simp)] at TS
        clear LT hcs
        have S6 := Lib.hid (SR.out.past B1.out)
        go_wp2_with fail
        go_roundg (o.Cn - (k + 1))
        case measure => omega
        case rel => exact ⟨k + 1, A, n, c, by omega, by omega, by go_num, by omega, by rw [TS.out, List.append_nil]; exact S6⟩
    · have kn : k = o.Cn := by omega
      have TK : o.C.take k = o.C := List.take_of_length_le (by rw [HO.out.c.len]; omega)
      rw [TK] at SR
      clear TK hlt hgg
      obtain rfl : o.Cn = k := kn.symm
      cases yes with
      | true =>
        obtain ⟨l0, hl0⟩ : ∃ l0, l0 = [] ++ o.C.filter (fun c => ltP c p) := ⟨_, rfl⟩
        rw [← hl0] at SR
        have HL0 := Lib.hid hl0
        clear hl0
        have BB := Lib.hid (below_alloc1 wr (.cells #[.int .i64 p.a, .int .i64 p.b] 63))
        have MC := Lib.hid (Has.newAt wr #[.int .i64 p.a, .int .i64 p.b] 63 (g := wr.heap.size) rfl).cell
        go_wp2_with (at_builtin; refine wpList_app1R (K := prK) _ rfl _ _ 24 rfl (gx + 1) 63 i0 _ 16 Try.underlying24 hi0 hz0 hs0 hb0 rfl A n c _ rfl (SR.out.row.kept BB.out) (wr.heap.size) rfl p ?qc1 ?qc2 ?qc3 ?qc4 ?_)
        case qc1 => first | (intro j _; simp [prK, Pr.cells]; done) | (intro j _; exact (MC.out j).trans (by simp [prK, Pr.cells]))
        case qc2 => unfold maxLen; omega
        case qc3 => omega
        case qc4 => first | exact Nat.le_of_lt SR.out.xb.lt | exact Nat.le_trans SR.out.xb.lt BB.out.size
        intro A2 c2 w5 hown hgrow hat
        have S6 := Lib.hid (SR.out.put (fun y hy => HO.out.l.each y (by rw [← QL.out.L]; exact hy)) BB.out hgrow hown)
        have x6 := (SR.out.xb.past BB.out).beside hgrow (fun e => by have := (SR.out.row.2.lt gx e.symm).1; omega)
        have x6c := x6.cell
        have x6l := x6.lt
        have x6f := x6.free
        clear hown hgrow hat x6
        clear SRx SRxl SRxf SRh SRhl SRn SRnl
        go_upto_region 14 with (fail)
        obtain ⟨W7, hW7⟩ : ∃ W, W = w5.setCell ⟨gx, 4, none⟩ (.slice A2 (n + 1) c2) := ⟨_, rfl⟩
        have S7 := Lib.hid (show WR o w W7 gh gx q A2 (n + 1) c2 (o.C.filter (fun c => ltP c p) ++ [p]) p from by rw [hW7, ← show l0 = o.C.filter (fun c => ltP c p) from HL0.out]; exact S6.out)
        rw [← hW7]
        clear hW7 S6 x6c x6l x6f
        have n7 := S7.out.nb.cell
        have n7l := S7.out.nb.lt
        go_wp2_with fail
        clear n7 n7l
        go_loopg [90] o.Cn (fun gg s wr => ∃ (k : Nat) (A : Option Addr) (n c : Nat), k ≤ o.Cn ∧ o.Cn - k ≤ gg ∧ s = .int .i64 k ∧ n ≤ (o.Cn + 1) + k ∧ Hid (WR o w wr gh gx q A n c ((o.C.filter (fun c => ltP c p) ++ [p]) ++ (o.C.take k).filter fun c => ltP p c) p))
        case atStart => exact ⟨0, A2, n + 1, c2, Nat.zero_le _, by omega, rfl, by omega, by rw [List.take_zero, List.filter_nil, List.append_nil]; exact S7⟩
        case round =>
          obtain ⟨k, A, n, c, hk, hgg, rfl, hn, SR⟩ := hrel
          have SRx := SR.out.xb.cell
          have SRxl := SR.out.xb.lt
          have SRxf := SR.out.xb.free
          have SRh := SR.out.hb.cell
          have SRhl := SR.out.hb.lt
          have SRn := SR.out.nb.cell
          have SRnl := SR.out.nb.lt
          by_cases hlt : k < o.Cn
          · obtain ⟨bb, off, hkl, hCA, hbl, x0, x1⟩ := pr_at (HC.out.below SR.out.below) hlt
            have TS := Lib.hid (show (o.C.filter (fun c => ltP c p) ++ [p]) ++ (o.C.take (k + 1)).filter (fun c => ltP p c) = (o.C.filter (fun c => ltP c p) ++ [p]) ++ (o.C.take k).filter (fun c => ltP p c) ++ if ltP p o.C[k] = true then [o.C[k]] else [] from by
              rw [List.take_succ_eq_append_getElem hkl, List.filter_append, List.append_assoc]
              cases h : ltP p o.C[k] <;> simp [h])
            subst hCA
            obtain ⟨l0, hl0⟩ : ∃ l0, l0 = ((o.C.filter (fun c => ltP c p) ++ [p]) ++ (o.C.take k).filter fun c => ltP p c) := ⟨_, rfl⟩
            rw [← hl0] at SR TS
            clear hl0
            generalize o.C[k] = x at *
            have BB := Lib.hid ((below_alloc1 wr (.cells #[.int .i64 x.a, .int .i64 x.b] 63)).alloc (below_alloc1 wr (.cells #[.int .i64 x.a, .int .i64 x.b] 63)).size (.cells #[.int .i64 x.a, .int .i64 x.b] 63))
            have B1 := Lib.hid (below_alloc1 wr (.cells #[.int .i64 x.a, .int .i64 x.b] 63))
            have MC := Lib.hid (Has.newAt (wr.alloc (.cells #[.int .i64 x.a, .int .i64 x.b] 63)) #[.int .i64 x.a, .int .i64 x.b] 63 (g := wr.heap.size + 1) (by simp)).cell
            have hcs : (p.a < x.a) ∨ ((x.a = p.a) ∧ (p.b < x.b)) ∨ ((x.a = p.a) ∧ ¬ (p.b < x.b)) ∨ (¬ (p.a < x.a) ∧ ¬ (x.a = p.a)) := by omega
            rcases hcs with hcs | hcs | hcs | hcs
            · skip
              have d1 : decide (p.a < x.a) = true := decide_eq_true (by omega)
              have LT : ltP p x = true := by
                unfold ltP
                simp only [Bool.or_eq_true, Bool.and_eq_true, decide_eq_true_eq]; omega
              rw [LT] at TS
              rw [if_pos rfl] at TS
              clear LT hcs
              go_wp2_with (at_builtin; refine wpList_app1R (K := prK) _ rfl _ _ 24 rfl (gx + 1) 63 i0 _ 16 Try.underlying24 hi0 hz0 hs0 hb0 rfl A n c _ rfl (SR.out.row.kept BB.out) (wr.heap.size + 1) rfl x ?qc1 ?qc2 ?qc3 ?qc4 ?_)
              case qc1 => first | (intro j _; simp [prK, Pr.cells]; done) | (intro j _; exact (MC.out j).trans (by simp [prK, Pr.cells]))
              case qc2 => unfold maxLen; omega
              case qc3 => omega
              case qc4 => first | exact Nat.le_of_lt SR.out.xb.lt | exact Nat.le_trans SR.out.xb.lt BB.out.size
              intro A2 c2 w5 hown hgrow hat
              have S6 := Lib.hid (SR.out.put (fun y hy => HO.out.l.each y (by rw [← QL.out.L]; exact hy)) BB.out hgrow hown)
              have x6 := (SR.out.xb.past BB.out).beside hgrow (fun e => by have := (SR.out.row.2.lt gx e.symm).1; omega)
              have x6c := x6.cell
              have x6l := x6.lt
              have x6f := x6.free
              clear hown hgrow hat x6

              clear SRx SRxl SRxf SRh SRhl SRn SRnl
              go_wp2_with fail
              go_roundg (o.Cn - (k + 1))
              case measure => omega
              case rel => exact ⟨k + 1, A2, n + 1, c2, by omega, by omega, by go_num, by omega, by rw [TS.out]; exact S6⟩
            · skip
              have d1 : decide (p.a < x.a) = false := decide_eq_false (by omega)
              have e1 : (x.a == p.a) = true := by rw [beq_iff_eq]; omega
              have d2 : decide (p.b < x.b) = true := decide_eq_true (by omega)
              have LT : ltP p x = true := by
                unfold ltP
                simp only [Bool.or_eq_true, Bool.and_eq_true, decide_eq_true_eq]; omega
              rw [LT] at TS
              rw [if_pos rfl] at TS
              clear LT hcs
              go_wp2_with (at_builtin; refine wpList_app1R (K := prK) _ rfl _ _ 24 rfl (gx + 1) 63 i0 _ 16 Try.underlying24 hi0 hz0 hs0 hb0 rfl A n c _ rfl (SR.out.row.kept BB.out) (wr.heap.size + 1) rfl x ?qc1 ?qc2 ?qc3 ?qc4 ?_)
              case qc1 => first | (intro j _; simp [prK, Pr.cells]; done) | (intro j _; exact (MC.out j).trans (by simp [prK, Pr.cells]))
              case qc2 => unfold maxLen; omega
              case qc3 => omega
              case qc4 => first | exact Nat.le_of_lt SR.out.xb.lt | exact Nat.le_trans SR.out.xb.lt BB.out.size
              intro A2 c2 w5 hown hgrow hat
              have S6 := Lib.hid (SR.out.put (fun y hy => HO.out.l.each y (by rw [← QL.out.L]; exact hy)) BB.out hgrow hown)
              have x6 := (SR.out.xb.past BB.out).beside hgrow (fun e => by have := (SR.out.row.2.lt gx e.symm).1; omega)
              have x6c := x6.cell
              have x6l := x6.lt
              have x6f := x6.free
              clear hown hgrow hat x6

              clear SRx SRxl SRxf SRh SRhl SRn SRnl
              go_wp2_with fail
              go_roundg (o.Cn - (k + 1))
              case measure => omega
              case rel => exact ⟨k + 1, A2, n + 1, c2, by omega, by omega, by go_num, by omega, by rw [TS.out]; exact S6⟩
            · skip
              have d1 : decide (p.a < x.a) = false := decide_eq_false (by omega)
              have e1 : (x.a == p.a) = true := by rw [beq_iff_eq]; omega
              have d2 : decide (p.b < x.b) = false := decide_eq_false (by omega)
              have LT : ltP p x = false := by
                unfold ltP
                simp only [Bool.or_eq_false_iff, Bool.and_eq_false_iff, decide_eq_false_iff_not]; omega
              rw [LT] at TS
              rw [if_neg (by simp)] at TS
              clear LT hcs
              have S6 := Lib.hid (SR.out.past B1.out)
              go_wp2_with fail
              go_roundg (o.Cn - (k + 1))
              case measure => omega
              case rel => exact ⟨k + 1, A, n, c, by omega, by omega, by go_num, by omega, by rw [TS.out, List.append_nil]; exact S6⟩
            · skip
              have d1 : decide (p.a < x.a) = false := decide_eq_false (by omega)
              have e1 : (x.a == p.a) = false := by rw [beq_eq_false_iff_ne]; omega
              have LT : ltP p x = false := by
                unfold ltP
                simp only [Bool.or_eq_false_iff, Bool.and_eq_false_iff, decide_eq_false_iff_not]; omega
              rw [LT] at TS
              rw [if_neg (by simp)] at TS
              clear LT hcs
              have S6 := Lib.hid (SR.out.past B1.out)
              go_wp2_with fail
              go_roundg (o.Cn - (k + 1))
              case measure => omega
              case rel => exact ⟨k + 1, A, n, c, by omega, by omega, by go_num, by omega, by rw [TS.out, List.append_nil]; exact S6⟩
          · have kn : k = o.Cn := by omega
            have TK : o.C.take k = o.C := List.take_of_length_le (by rw [HO.out.c.len]; omega)
            rw [TK] at SR
            clear TK hlt hgg
            obtain rfl : o.Cn = k := kn.symm
            have rc := SR.out.rb.cell
            have rl := SR.out.rb.lt
            have rf := SR.out.rb.free
            go_wp2_with fail
            refine bodyPost_ret (v := .tuple #[(⟨q.now, q.next, q.LA, q.Ln, q.Lc, q.L, q.SA, q.Sn, q.Sc, q.S, A, n, c, ((o.C.filter (fun c => ltP c p) ++ [p]) ++ o.C.filter fun c => ltP p c), q.KA, q.Kn, q.Kc, q.K⟩ : Nt).v, .int .i64 0]) (results_cell_tmp Try.results63 (g := w.heap.size + 1) rfl rfl (load27 (SR.out.rb.set [.int .i64 q.now, .int .i64 q.next, .slice q.LA q.Ln q.Lc, .slice q.SA q.Sn q.Sc, .slice A n c, .slice q.KA q.Kn q.Kc] rfl))) rfl ?_
            have SG := setCells_grown (w.heap.size + 1) [.int .i64 q.now, .int .i64 q.next, .slice q.LA q.Ln q.Lc, .slice q.SA q.Sn q.Sc, .slice A n c, .slice q.KA q.Kn q.Kc] 0 wr
            obtain ⟨D1, D2⟩ := SR.out.done (fun y hy => HO.out.l.each y (by rw [← QL.out.L]; exact hy)) SG (fun y hy => by
              rcases List.mem_append.1 hy with h | h
              · rcases List.mem_append.1 h with h | h
                · exact HO.out.c.each y (List.mem_filter.1 h).1
                · rw [List.mem_singleton.1 h]; exact PWF.out
              · exact HO.out.c.each y (List.mem_filter.1 h).1)
            refine ⟨NetRes.mk _ ?_ D1, D2⟩
            rw [TV.out]
            unfold Nt.val
            simp only [QL.out.now, QL.out.next, QL.out.L, QL.out.S, QL.out.K]
            first | rfl | simp [Nt.val]
      | false =>
        have S7 := Lib.hid (show WR o w wr gh gx q A n c (o.C.filter (fun c => ltP c p) ++ []) p from by rw [List.append_nil]; exact SR.out)
        go_wp2_with fail
        clear SRx SRxl SRxf SRh SRhl SRn SRnl
        go_loopg [90] o.Cn (fun gg s wr => ∃ (k : Nat) (A : Option Addr) (n c : Nat), k ≤ o.Cn ∧ o.Cn - k ≤ gg ∧ s = .int .i64 k ∧ n ≤ o.Cn + k ∧ Hid (WR o w wr gh gx q A n c ((o.C.filter (fun c => ltP c p) ++ []) ++ (o.C.take k).filter fun c => ltP p c) p))
        case atStart => exact ⟨0, A, n, c, Nat.zero_le _, by omega, rfl, by omega, by rw [List.take_zero, List.filter_nil, List.append_nil]; exact S7⟩
        case round =>
          obtain ⟨k, A, n, c, hk, hgg, rfl, hn, SR⟩ := hrel
          have SRx := SR.out.xb.cell
          have SRxl := SR.out.xb.lt
          have SRxf := SR.out.xb.free
          have SRh := SR.out.hb.cell
          have SRhl := SR.out.hb.lt
          have SRn := SR.out.nb.cell
          have SRnl := SR.out.nb.lt
          by_cases hlt : k < o.Cn
          · obtain ⟨bb, off, hkl, hCA, hbl, x0, x1⟩ := pr_at (HC.out.below SR.out.below) hlt
            have TS := Lib.hid (show (o.C.filter (fun c => ltP c p) ++ []) ++ (o.C.take (k + 1)).filter (fun c => ltP p c) = (o.C.filter (fun c => ltP c p) ++ []) ++ (o.C.take k).filter (fun c => ltP p c) ++ if ltP p o.C[k] = true then [o.C[k]] else [] from by
              rw [List.take_succ_eq_append_getElem hkl, List.filter_append, List.append_assoc]
              cases h : ltP p o.C[k] <;> simp [h])
            subst hCA
            obtain ⟨l0, hl0⟩ : ∃ l0, l0 = ((o.C.filter (fun c => ltP c p) ++ []) ++ (o.C.take k).filter fun c => ltP p c) := ⟨_, rfl⟩
            rw [← hl0] at SR TS
            clear hl0
            generalize o.C[k] = x at *
            have BB := Lib.hid ((below_alloc1 wr (.cells #[.int .i64 x.a, .int .i64 x.b] 63)).alloc (below_alloc1 wr (.cells #[.int .i64 x.a, .int .i64 x.b] 63)).size (.cells #[.int .i64 x.a, .int .i64 x.b] 63))
            have B1 := Lib.hid (below_alloc1 wr (.cells #[.int .i64 x.a, .int .i64 x.b] 63))
            have MC := Lib.hid (Has.newAt (wr.alloc (.cells #[.int .i64 x.a, .int .i64 x.b] 63)) #[.int .i64 x.a, .int .i64 x.b] 63 (g := wr.heap.size + 1) (by simp)).cell
            have hcs : (p.a < x.a) ∨ ((x.a = p.a) ∧ (p.b < x.b)) ∨ ((x.a = p.a) ∧ ¬ (p.b < x.b)) ∨ (¬ (p.a < x.a) ∧ ¬ (x.a = p.a)) := by omega
            rcases hcs with hcs | hcs | hcs | hcs
            · skip
              have d1 : decide (p.a < x.a) = true := decide_eq_true (by omega)
              have LT : ltP p x = true := by
                unfold ltP
                simp only [Bool.or_eq_true, Bool.and_eq_true, decide_eq_true_eq]; omega
              rw [LT] at TS
              rw [if_pos rfl] at TS
              clear LT hcs
              go_wp2_with (at_builtin; refine wpList_app1R (K := prK) _ rfl _ _ 24 rfl (gx + 1) 63 i0 _ 16 Try.underlying24 hi0 hz0 hs0 hb0 rfl A n c _ rfl (SR.out.row.kept BB.out) (wr.heap.size + 1) rfl x ?qc1 ?qc2 ?qc3 ?qc4 ?_)
              case qc1 => first | (intro j _; simp [prK, Pr.cells]; done) | (intro j _; exact (MC.out j).trans (by simp [prK, Pr.cells]))
              case qc2 => unfold maxLen; omega
              case qc3 => omega
              case qc4 => first | exact Nat.le_of_lt SR.out.xb.lt | exact Nat.le_trans SR.out.xb.lt BB.out.size
              intro A2 c2 w5 hown hgrow hat
              have S6 := Lib.hid (SR.out.put (fun y hy => HO.out.l.each y (by rw [← QL.out.L]; exact hy)) BB.out hgrow hown)
              have x6 := (SR.out.xb.past BB.out).beside hgrow (fun e => by have := (SR.out.row.2.lt gx e.symm).1; omega)
              have x6c := x6.cell
              have x6l := x6.lt
              have x6f := x6.free
              clear hown hgrow hat x6

              clear SRx SRxl SRxf SRh SRhl SRn SRnl
              go_wp2_with fail
              go_roundg (o.Cn - (k + 1))
              case measure => omega
              case rel => exact ⟨k + 1, A2, n + 1, c2, by omega, by omega, by go_num, by omega, by rw [TS.out]; exact S6⟩
            · skip
              have d1 : decide (p.a < x.a) = false := decide_eq_false (by omega)
              have e1 : (x.a == p.a) = true := by rw [beq_iff_eq]; omega
              have d2 : decide (p.b < x.b) = true := decide_eq_true (by omega)
              have LT : ltP p x = true := by
                unfold ltP
                simp only [Bool.or_eq_true, Bool.and_eq_true, decide_eq_true_eq]; omega
              rw [LT] at TS
              rw [if_pos rfl] at TS
              clear LT hcs
              go_wp2_with (at_builtin; refine wpList_app1R (K := prK) _ rfl _ _ 24 rfl (gx + 1) 63 i0 _ 16 Try.underlying24 hi0 hz0 hs0 hb0 rfl A n c _ rfl (SR.out.row.kept BB.out) (wr.heap.size + 1) rfl x ?qc1 ?qc2 ?qc3 ?qc4 ?_)
              case qc1 => first | (intro j _; simp [prK, Pr.cells]; done) | (intro j _; exact (MC.out j).trans (by simp [prK, Pr.cells]))
              case qc2 => unfold maxLen; omega
              case qc3 => omega
              case qc4 => first | exact Nat.le_of_lt SR.out.xb.lt | exact Nat.le_trans SR.out.xb.lt BB.out.size
              intro A2 c2 w5 hown hgrow hat
              have S6 := Lib.hid (SR.out.put (fun y hy => HO.out.l.each y (by rw [← QL.out.L]; exact hy)) BB.out hgrow hown)
              have x6 := (SR.out.xb.past BB.out).beside hgrow (fun e => by have := (SR.out.row.2.lt gx e.symm).1; omega)
              have x6c := x6.cell
              have x6l := x6.lt
              have x6f := x6.free
              clear hown hgrow hat x6

              clear SRx SRxl SRxf SRh SRhl SRn SRnl
              go_wp2_with fail
              go_roundg (o.Cn - (k + 1))
              case measure => omega
              case rel => exact ⟨k + 1, A2, n + 1, c2, by omega, by omega, by go_num, by omega, by rw [TS.out]; exact S6⟩
            · skip
              have d1 : decide (p.a < x.a) = false := decide_eq_false (by omega)
              have e1 : (x.a == p.a) = true := by rw [beq_iff_eq]; omega
              have d2 : decide (p.b < x.b) = false := decide_eq_false (by omega)
              have LT : ltP p x = false := by
                unfold ltP
                simp only [Bool.or_eq_false_iff, Bool.and_eq_false_iff, decide_eq_false_iff_not]; omega
              rw [LT] at TS
              rw [if_neg (by simp)] at TS
              clear LT hcs
              have S6 := Lib.hid (SR.out.past B1.out)
              go_wp2_with fail
              go_roundg (o.Cn - (k + 1))
              case measure => omega
              case rel => exact ⟨k + 1, A, n, c, by omega, by omega, by go_num, by omega, by rw [TS.out, List.append_nil]; exact S6⟩
            · skip
              have d1 : decide (p.a < x.a) = false := decide_eq_false (by omega)
              have e1 : (x.a == p.a) = false := by rw [beq_eq_false_iff_ne]; omega
              have LT : ltP p x = false := by
                unfold ltP
                simp only [Bool.or_eq_false_iff, Bool.and_eq_false_iff, decide_eq_false_iff_not]; omega
              rw [LT] at TS
              rw [if_neg (by simp)] at TS
              clear LT hcs
              have S6 := Lib.hid (SR.out.past B1.out)
              go_wp2_with fail
              go_roundg (o.Cn - (k + 1))
              case measure => omega
              case rel => exact ⟨k + 1, A, n, c, by omega, by omega, by go_num, by omega, by rw [TS.out, List.append_nil]; exact S6⟩
          · have kn : k = o.Cn := by omega
            have TK : o.C.take k = o.C := List.take_of_length_le (by rw [HO.out.c.len]; omega)
            rw [TK] at SR
            clear TK hlt hgg
            obtain rfl : o.Cn = k := kn.symm
            have rc := SR.out.rb.cell
            have rl := SR.out.rb.lt
            have rf := SR.out.rb.free
            go_wp2_with fail
            refine bodyPost_ret (v := .tuple #[(⟨q.now, q.next, q.LA, q.Ln, q.Lc, q.L, q.SA, q.Sn, q.Sc, q.S, A, n, c, ((o.C.filter (fun c => ltP c p) ++ []) ++ o.C.filter fun c => ltP p c), q.KA, q.Kn, q.Kc, q.K⟩ : Nt).v, .int .i64 0]) (results_cell_tmp Try.results63 (g := w.heap.size + 1) rfl rfl (load27 (SR.out.rb.set [.int .i64 q.now, .int .i64 q.next, .slice q.LA q.Ln q.Lc, .slice q.SA q.Sn q.Sc, .slice A n c, .slice q.KA q.Kn q.Kc] rfl))) rfl ?_
            have SG := setCells_grown (w.heap.size + 1) [.int .i64 q.now, .int .i64 q.next, .slice q.LA q.Ln q.Lc, .slice q.SA q.Sn q.Sc, .slice A n c, .slice q.KA q.Kn q.Kc] 0 wr
            obtain ⟨D1, D2⟩ := SR.out.done (fun y hy => HO.out.l.each y (by rw [← QL.out.L]; exact hy)) SG (fun y hy => by
              rcases List.mem_append.1 hy with h | h
              · rcases List.mem_append.1 h with h | h
                · exact HO.out.c.each y (List.mem_filter.1 h).1
                · simp at h
              · exact HO.out.c.each y (List.mem_filter.1 h).1)
            refine ⟨NetRes.mk _ ?_ D1, D2⟩
            rw [TV.out]
            unfold Nt.val
            simp only [QL.out.now, QL.out.next, QL.out.L, QL.out.S, QL.out.K]
            first | rfl | simp [Nt.val]

end Go.Proofs.Ytmlgahambecamaa
