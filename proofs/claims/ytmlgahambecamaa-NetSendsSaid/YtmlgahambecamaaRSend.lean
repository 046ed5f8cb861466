/- Send, of the document. -/
import Derived.Test.YtmlgahambecamaaSlip
import Derived.Test.YtmlgahambecamaaRPut
import Derived.Test.YtmlgahambecamaaRetN
import Derived.Test.YtmlgahambecamaaSendQ
import Derived.Deep.DeepCutAuto
namespace Go.Proofs.Ytmlgahambecamaa
open Go.RowKit Go.Shelf

theorem amt_ok {n : Nv} (h : checkB n = true) (no : Int) : 0 ≤ (slipOf n.S no).amt ∧ (slipOf n.S no).amt ≤ 1099511627776 := by
  unfold slipOf
  cases hf : n.S.find? (fun s => decide (s.no = no)) with
  | none => exact ⟨by decide, by decide⟩
  | some s =>
    rcases ok_kinds (chk_slips h s (List.mem_of_find?_eq_some hf)) with ⟨_, h1, h2⟩ | ⟨_, h1⟩
    · exact ⟨by show 0 ≤ s.amt; omega, h2⟩
    · exact ⟨by show 0 ≤ s.amt; omega, by show s.amt ≤ _; omega⟩
theorem sendV_gone {n : Nv} {frm dst takes : Int} {bs : List UInt8} (h : sendable n frm dst takes bs) (h1 : ¬ n.next = 1099511627776) (h2 : (slipOf n.S n.next).kind = 1 ∨ cutB n.C frm dst = true) : sendV n frm dst takes bs = ({ n with next := n.next + 1 }, 0) := by
  unfold sendV
  rw [if_pos h, if_neg (show ¬ n.next = maxO from h1), if_pos h2]
theorem sendV_late {n : Nv} {frm dst takes : Int} {bs : List UInt8} (h : sendable n frm dst takes bs) (h1 : ¬ n.next = 1099511627776) (h2 : ¬ ((slipOf n.S n.next).kind = 1 ∨ cutB n.C frm dst = true)) (h3 : 1099511627776 < n.now + takes + (slipOf n.S n.next).amt) : sendV n frm dst takes bs = (noV, 2) := by
  unfold sendV
  rw [if_pos h, if_neg (show ¬ n.next = maxO from h1), if_neg h2, if_pos (show maxO < _ from h3)]
theorem sendV_last {n : Nv} {frm dst takes : Int} {bs : List UInt8} (h : sendable n frm dst takes bs) (h1 : ¬ n.next = 1099511627776) (h2 : ¬ ((slipOf n.S n.next).kind = 1 ∨ cutB n.C frm dst = true)) (h3 : ¬ 1099511627776 < n.now + takes + (slipOf n.S n.next).amt) {L : List Mv}
    (hL : L = if (slipOf n.S n.next).kind = 2 then putL (putL n.L ⟨n.now + takes + (slipOf n.S n.next).amt, n.next, frm, dst, bs⟩) ⟨n.now + takes + (slipOf n.S n.next).amt, n.next, frm, dst, bs⟩ else putL n.L ⟨n.now + takes + (slipOf n.S n.next).amt, n.next, frm, dst, bs⟩) :
    sendV n frm dst takes bs = if 1024 < L.length then (noV, 2) else ({ n with next := n.next + 1, L := L }, 0) := by
  have e : L.length = n.L.length + (if (slipOf n.S n.next).kind = 2 then 2 else 1) := by
    rw [hL]
    by_cases k : (slipOf n.S n.next).kind = 2
    · rw [if_pos k, if_pos k, put_len, put_len]
    · rw [if_neg k, if_neg k, put_len]
  rw [e]
  unfold sendV
  rw [if_pos h, if_neg (show ¬ n.next = maxO from h1), if_neg h2, if_neg (show ¬ maxO < _ from h3), hL]

/-- A message is made up, as the document has it: the copy in a box, and the slip. -/
structure RS (o : Nt) (w wx : World) (gx gs : Nat) (q : Nt) (A : Option Addr) (n c : Nat) (l : List Mg) (sp : Sp) : Prop where
  below : Below w.heap.size w wx
  nb : Has wx w.heap.size o.c
  rb : Has wx (w.heap.size + 1) zeroN
  xb : Has wx gx #[.int .i64 q.now, .int .i64 (q.next + 1), .slice A n c, .slice q.SA q.Sn q.Sc, .slice q.CA q.Cn q.Cc, .slice q.KA q.Kn q.Kc]
  sb : Has wx gs #[.int .i64 sp.no, .int .i64 sp.kind, .int .i64 sp.amt]
  l2 : w.heap.size + 2 ≤ gx
  ls : gx < gs
  row : ROwn mgK 40 wx (w.heap.size + 2) A n c l
  lne : ∀ b, (Value.slice A n c).ownBlock = some b → b ≠ gx
  own : Nt.Own wx (w.heap.size + 2) ⟨0, 0, none, 0, 0, [], q.SA, q.Sn, q.Sc, q.S, q.CA, q.Cn, q.Cc, q.C, q.KA, q.Kn, q.Kc, q.K⟩
  oth : Nt.Btw ⟨0, 0, none, 0, 0, [], q.SA, q.Sn, q.Sc, q.S, q.CA, q.Cn, q.Cc, q.C, q.KA, q.Kn, q.Kc, q.K⟩ 0 gx
/-- The message, too. -/
structure RKM (o : Nt) (w wx : World) (gx gs gm : Nat) (q : Nt) (A : Option Addr) (n c : Nat) (l : List Mg) (sp : Sp) (m : Mg) : Prop where
  rs : RS o w wx gx gs q A n c l sp
  mb : Has wx gm #[.int .i64 m.t, .int .i64 m.no, .int .i64 m.frm, .int .i64 m.dst, .slice m.A m.n m.c]
  lm : gs < gm
  body : ROwn u8K 5 wx (gx + 1) m.A m.n m.c m.bs
section
variable {o : Nt} {w wx wy : World} {gx gs gm : Nat} {q : Nt} {A A2 : Option Addr} {n c n2 c2 : Nat} {l l2 : List Mg} {sp : Sp} {m : Mg}
theorem RS.past (h : RS o w wx gx gs q A n c l sp) (hb : Below wx.heap.size wx wy) : RS o w wy gx gs q A n c l sp :=
  ⟨below_from hb h.below h.below.size, h.nb.past hb, h.rb.past hb, h.xb.past hb, h.sb.past hb, h.l2, h.ls, h.row.kept hb, h.lne, h.own.kept hb, h.oth⟩
/-- A store past the slip's box, to no row of the net's. -/
theorem RS.far {g : Nat} (h : RS o w wx gx gs q A n c l sp) (hg : wx.grownBy wy (some g)) (hw : w.heap.size + 2 ≤ g) (hs : gs < g) (hr : ∀ b, (Value.slice A n c).ownBlock = some b → b ≠ g) : RS o w wy gx gs q A n c l sp := by
  have hl := h.ls
  refine ⟨h.below.trans (grown_below hg h.below.size (fun k hk => by injection hk with hk; omega)), h.nb.grown hg (by omega), h.rb.grown hg (by omega), h.xb.grown hg (by omega), h.sb.grown hg (by omega), h.l2, h.ls, h.row.apart hg (fun b hb e => by injection e with e; exact hr b hb e.symm), h.lne, ?_, h.oth⟩
  exact h.own.far hg h.oth (.inr (by omega)) (fun a ha => by simp at ha)
theorem RKM.mg (h : RKM o w wx gx gs gm q A n c l sp m) : Mg.In wx m := (h.body.own (fun _ _ => trivial)).sl
theorem RKM.sl (h : RKM o w wx gx gs gm q A n c l sp m) (hO : ∀ a ∈ o.L, Mg.In w a) (he : ∀ a ∈ l, a = m ∨ a ∈ o.L) : Sl mgK wx A n c l :=
  (h.rs.row.own (fun a ha => by rcases he a ha with rfl | h1; exact h.mg; exact mgK.below (hO a h1) h.rs.below)).sl
/-- A list put in the place of the copy's. -/
theorem RKM.put (h : RKM o w wx gx gs gm q A n c l sp m) (hb : Below wx.heap.size wx wy) (hr : ROwn mgK 40 wy wx.heap.size A2 n2 c2 l2) : RKM o w (wy.setCell ⟨gx, 2, none⟩ (.slice A2 n2 c2)) gx gs gm q A2 n2 c2 l2 sp m := by
  have P := h.rs.past hb
  have G := setCells_grown gx [.slice A2 n2 c2] 2 wy
  have hl := h.rs.ls
  have h2 := h.rs.l2
  have hx := h.rs.xb.lt
  have hm := h.lm
  refine ⟨⟨P.below.trans (grown_below G P.below.size (fun k hk => by injection hk with hk; omega)), P.nb.grown G (by omega), P.rb.grown G (by omega), P.xb.setAt 2 (.slice A2 n2 c2) (by simp), P.sb.grown G (by omega), h2, hl, (hr.grown G hx).base (by omega), fun b hb e => ?_, ?_, P.oth⟩, (h.mb.past hb).grown G (by omega), hm, (h.body.kept hb).grown G (by omega)⟩
  · have := (hr.2.lt b hb).1
    omega
  · exact P.own.far G P.oth (.inr (Nat.le_refl _)) (fun a ha => by simp at ha)
theorem RS.done (h : RS o w wx gx gs q A n c l sp) (hg : wx.grownBy wy (some (w.heap.size + 1))) (hin : Below w.heap.size w wy → ∀ a ∈ l, Mg.In wy a) : Nt.Own wy w.heap.size ⟨q.now, q.next + 1, A, n, c, l, q.SA, q.Sn, q.Sc, q.S, q.CA, q.Cn, q.Cc, q.C, q.KA, q.Kn, q.Kc, q.K⟩ ∧ Below w.heap.size w wy := by
  have hb := h.below.trans (grown_below hg h.below.size (fun k hk => by injection hk with hk; omega))
  have ho := (h.own.grown hg (by omega) (fun a ha => by simp at ha)).base (show w.heap.size ≤ w.heap.size + 2 by omega)
  exact ⟨⟨((h.row.grown hg (by omega)).own (hin hb)).base (by omega), ho.s, ho.c, ho.k⟩, hb⟩
theorem RKM.bytes (h : RKM o w wx gx gs gm q A n c l sp m) (hg : wx.grownBy wy (some (w.heap.size + 1))) : Mg.In wy m := ((h.body.grown hg (by have := h.rs.l2; omega)).own (fun _ _ => trivial)).sl
theorem put_size {m : Mv} (h1 : l2.length = n2) (h2 : l2.map Mg.val = putL (l.map Mg.val) m) (h3 : l.length = n) : n2 = n + 1 := by
  have := congrArg List.length h2
  rw [put_len, List.length_map, List.length_map] at this
  omega
theorem mem_next (h1 : ∀ a ∈ l, a = m ∨ a ∈ o.L) (h2 : ∀ a ∈ l2, a = m ∨ a ∈ l) : ∀ a ∈ l2, a = m ∨ a ∈ o.L := fun a ha => by
  rcases h2 a ha with h | h
  · exact .inl h
  · exact h1 a h
end

set_option maxHeartbeats 16000000 in
set_option maxRecDepth 100000 in
theorem rsend_any (o : Nt) (frm dst d : Int) (A : Option Addr) (n c : Nat) (bs : List UInt8) (w : World) (ho : Nt.At w o) (hf : o.Few) (hbs : Sl u8K w A n c bs) :
    Calls Try.prog 20 #[o.v, .int .i64 frm, .int .i64 dst, .int .i64 d, .slice A n c] w fun e w' => NetRes w.heap.size (sendV o.val frm dst d bs) e w' ∧ Below w.heap.size w w' := by
  obtain ⟨i0, hi0, hz0, hs0, hb0⟩ := info_parts inf40
  have HO := Lib.hid ho
  have HF := Lib.hid hf
  have HB := Lib.hid hbs
  have hn := Nat.le_trans hbs.cap hbs.max
  have KL : o.val.K.length = o.Kn := ho.k.len
  have BL : bs.length = n := hbs.len
  obtain ⟨sp, hsp⟩ : ∃ sp, slipOf o.S o.next = sp := ⟨_, rfl⟩
  have HSP := Lib.hid hsp
  have HSPV := Lib.hid (show slipOf o.val.S o.val.next = sp from hsp)
  clear hsp
  obtain ⟨W0, hW0⟩ : ∃ W0, W0 = (w.alloc (.cells #[.int .i64 o.now, .int .i64 o.next, .slice o.LA o.Ln o.Lc, .slice o.SA o.Sn o.Sc, .slice o.CA o.Cn o.Cc, .slice o.KA o.Kn o.Kc] 27)).alloc (.cells #[.int .i64 0, .int .i64 0, .slice none 0 0, .slice none 0 0, .slice none 0 0, .slice none 0 0] 27) := ⟨_, rfl⟩
  have B0 := Lib.hid (show Below w.heap.size w W0 from by rw [hW0]; exact ((Below.refl _ w).alloc (Nat.le_refl _) _).alloc (by simp) _)
  have N0 := Lib.hid (show Has W0 w.heap.size #[.int .i64 o.now, .int .i64 o.next, .slice o.LA o.Ln o.Lc, .slice o.SA o.Sn o.Sc, .slice o.CA o.Cn o.Cc, .slice o.KA o.Kn o.Kc] from by rw [hW0]; exact (Has.newAt w #[.int .i64 o.now, .int .i64 o.next, .slice o.LA o.Ln o.Lc, .slice o.SA o.Sn o.Sc, .slice o.CA o.Cn o.Cc, .slice o.KA o.Kn o.Kc] 27 rfl).alloc _)
  have X0 := Lib.hid (show Has W0 (w.heap.size + 1) #[.int .i64 0, .int .i64 0, .slice none 0 0, .slice none 0 0, .slice none 0 0, .slice none 0 0] from by rw [hW0]; exact Has.newAt _ #[.int .i64 0, .int .i64 0, .slice none 0 0, .slice none 0 0, .slice none 0 0, .slice none 0 0] 27 (by simp))
  have CK := Lib.hid (rcheck_any o W0 (ho.below B0.out))
  have HW0 := Lib.hid hW0
  have n0c := N0.out.cell
  have n0l := N0.out.lt
  clear ho hf hW0 hbs
  cases hc : checkB o.val with
  | false =>
    rw [checkI_no hc] at CK
    have TV := Lib.hid (sendV_arg (frm := frm) (dst := dst) (takes := d) (bs := bs) (n := o.val) (fun h => by rw [h.1] at hc; cases hc))
    clear hc KL BL
    go_enter Try.func20, Try.ntmps20
    go_upto_region 1 with (fail)
    rw [← HW0.out]
    go_wp2_with (first | (go_at_call 16; refine CK.out.mono ?_; rintro e w1 ⟨rfl, hb⟩; have B1 := Lib.hid (below_from hb B0.out B0.out.size); have N1 := Lib.hid (N0.out.past hb); have X1 := Lib.hid (X0.out.past hb); have c1 := N1.out.cell; have l1 := N1.out.lt; have x1c := X1.out.cell; have x1l := X1.out.lt; have x1f := X1.out.free; clear hb))
    refine bodyPost_ret (v := .tuple #[noN.v, .int .i64 1]) (results_cell_tmp Try.results20 (g := w.heap.size + 1) rfl rfl (load27 (X1.out.set [.int .i64 0, .int .i64 0, .slice none 0 0, .slice none 0 0, .slice none 0 0, .slice none 0 0] rfl))) rfl ?_
    exact ⟨NetRes.no (TV.out), B1.out.trans (grown_below (setCells_grown (w.heap.size + 1) [.int .i64 0, .int .i64 0, .slice none 0 0, .slice none 0 0, .slice none 0 0, .slice none 0 0] 0 _) B1.out.size (fun q hq => by injection hq with hq; omega))⟩
  | true =>
  rw [checkI_yes hc] at CK
  cases hF : endB o.Kn frm with
  | false =>
    have EF := Lib.hid hF
    have TV := Lib.hid (sendV_arg (frm := frm) (dst := dst) (takes := d) (bs := bs) (n := o.val) (fun h => by have h2 := h.2.1; rw [KL, hF] at h2; cases h2))
    clear hF hc KL BL
    go_enter Try.func20, Try.ntmps20
    go_upto_region 1 with (fail)
    rw [← HW0.out]
    go_wp2_with (first | (go_at_call 16; refine CK.out.mono ?_; rintro e w1 ⟨rfl, hb⟩; have B1 := Lib.hid (below_from hb B0.out B0.out.size); have N1 := Lib.hid (N0.out.past hb); have X1 := Lib.hid (X0.out.past hb); have c1 := N1.out.cell; have l1 := N1.out.lt; have x1c := X1.out.cell; have x1l := X1.out.lt; have x1f := X1.out.free; clear hb) | (go_at_call 40; refine (end_any o _ _).mono ?_; rintro e w1 ⟨rfl, hb⟩; rw [EF.out]; have B1 := Lib.hid (below_from hb B1.out B1.out.size); have N1 := Lib.hid (N1.out.past hb); have X1 := Lib.hid (X1.out.past hb); have c1 := N1.out.cell; have l1 := N1.out.lt; have x1c := X1.out.cell; have x1l := X1.out.lt; have x1f := X1.out.free; clear hb))
    refine bodyPost_ret (v := .tuple #[noN.v, .int .i64 1]) (results_cell_tmp Try.results20 (g := w.heap.size + 1) rfl rfl (load27 (X1.out.set [.int .i64 0, .int .i64 0, .slice none 0 0, .slice none 0 0, .slice none 0 0, .slice none 0 0] rfl))) rfl ?_
    exact ⟨NetRes.no (TV.out), B1.out.trans (grown_below (setCells_grown (w.heap.size + 1) [.int .i64 0, .int .i64 0, .slice none 0 0, .slice none 0 0, .slice none 0 0, .slice none 0 0] 0 _) B1.out.size (fun q hq => by injection hq with hq; omega))⟩
  | true =>
  have EF := Lib.hid hF
  cases hD : endB o.Kn dst with
  | false =>
    have ED := Lib.hid hD
    have TV := Lib.hid (sendV_arg (frm := frm) (dst := dst) (takes := d) (bs := bs) (n := o.val) (fun h => by have h2 := h.2.2.1; rw [KL, hD] at h2; cases h2))
    clear hF hD hc KL BL
    go_enter Try.func20, Try.ntmps20
    go_upto_region 1 with (fail)
    rw [← HW0.out]
    go_wp2_with (first | (go_at_call 16; refine CK.out.mono ?_; rintro e w1 ⟨rfl, hb⟩; have B1 := Lib.hid (below_from hb B0.out B0.out.size); have N1 := Lib.hid (N0.out.past hb); have X1 := Lib.hid (X0.out.past hb); have c1 := N1.out.cell; have l1 := N1.out.lt; have x1c := X1.out.cell; have x1l := X1.out.lt; have x1f := X1.out.free; clear hb) | (go_at_call 40; refine (end_any o _ _).mono ?_; rintro e w1 ⟨rfl, hb⟩; rw [EF.out]; have B1 := Lib.hid (below_from hb B1.out B1.out.size); have N1 := Lib.hid (N1.out.past hb); have X1 := Lib.hid (X1.out.past hb); have c1 := N1.out.cell; have l1 := N1.out.lt; have x1c := X1.out.cell; have x1l := X1.out.lt; have x1f := X1.out.free; clear hb) | (go_at_call 40; refine (end_any o _ _).mono ?_; rintro e w1 ⟨rfl, hb⟩; rw [ED.out]; have B1 := Lib.hid (below_from hb B1.out B1.out.size); have N1 := Lib.hid (N1.out.past hb); have X1 := Lib.hid (X1.out.past hb); have c1 := N1.out.cell; have l1 := N1.out.lt; have x1c := X1.out.cell; have x1l := X1.out.lt; have x1f := X1.out.free; clear hb))
    refine bodyPost_ret (v := .tuple #[noN.v, .int .i64 1]) (results_cell_tmp Try.results20 (g := w.heap.size + 1) rfl rfl (load27 (X1.out.set [.int .i64 0, .int .i64 0, .slice none 0 0, .slice none 0 0, .slice none 0 0, .slice none 0 0] rfl))) rfl ?_
    exact ⟨NetRes.no (TV.out), B1.out.trans (grown_below (setCells_grown (w.heap.size + 1) [.int .i64 0, .int .i64 0, .slice none 0 0, .slice none 0 0, .slice none 0 0, .slice none 0 0] 0 _) B1.out.size (fun q hq => by injection hq with hq; omega))⟩
  | true =>
  have ED := Lib.hid hD
  cases h3 : inR d 0 1099511627776 with
  | false =>
    have E1 := Lib.hid h3
    have TV := Lib.hid (sendV_arg (frm := frm) (dst := dst) (takes := d) (bs := bs) (n := o.val) (fun h => by have h4 := h.2.2.2.1; rw [show maxO = 1099511627776 from rfl, h3] at h4; cases h4))
    clear h3 hF hD hc KL BL
    go_enter Try.func20, Try.ntmps20
    go_upto_region 1 with (fail)
    rw [← HW0.out]
    go_wp2_with (first | (go_at_call 16; refine CK.out.mono ?_; rintro e w1 ⟨rfl, hb⟩; have B1 := Lib.hid (below_from hb B0.out B0.out.size); have N1 := Lib.hid (N0.out.past hb); have X1 := Lib.hid (X0.out.past hb); have c1 := N1.out.cell; have l1 := N1.out.lt; have x1c := X1.out.cell; have x1l := X1.out.lt; have x1f := X1.out.free; clear hb) | (go_at_call 40; refine (end_any o _ _).mono ?_; rintro e w1 ⟨rfl, hb⟩; rw [EF.out]; have B1 := Lib.hid (below_from hb B1.out B1.out.size); have N1 := Lib.hid (N1.out.past hb); have X1 := Lib.hid (X1.out.past hb); have c1 := N1.out.cell; have l1 := N1.out.lt; have x1c := X1.out.cell; have x1l := X1.out.lt; have x1f := X1.out.free; clear hb) | (go_at_call 40; refine (end_any o _ _).mono ?_; rintro e w1 ⟨rfl, hb⟩; rw [ED.out]; have B1 := Lib.hid (below_from hb B1.out B1.out.size); have N1 := Lib.hid (N1.out.past hb); have X1 := Lib.hid (X1.out.past hb); have c1 := N1.out.cell; have l1 := N1.out.lt; have x1c := X1.out.cell; have x1l := X1.out.lt; have x1f := X1.out.free; clear hb) | (go_at_call 39; refine (in_any _ _ _ _).mono ?_; rintro e w' ⟨rfl, rfl⟩; rw [E1.out]))
    refine bodyPost_ret (v := .tuple #[noN.v, .int .i64 1]) (results_cell_tmp Try.results20 (g := w.heap.size + 1) rfl rfl (load27 (X1.out.set [.int .i64 0, .int .i64 0, .slice none 0 0, .slice none 0 0, .slice none 0 0, .slice none 0 0] rfl))) rfl ?_
    exact ⟨NetRes.no (TV.out), B1.out.trans (grown_below (setCells_grown (w.heap.size + 1) [.int .i64 0, .int .i64 0, .slice none 0 0, .slice none 0 0, .slice none 0 0, .slice none 0 0] 0 _) B1.out.size (fun q hq => by injection hq with hq; omega))⟩
  | true =>
  have E1 := Lib.hid h3
  by_cases h4 : 4096 < n
  · have d4 : decide ((4096 : Int) < (n : Int)) = true := decide_eq_true (by omega)
    have d4n : decide (4096 < n) = true := decide_eq_true h4
    have TV := Lib.hid (sendV_arg (frm := frm) (dst := dst) (takes := d) (bs := bs) (n := o.val) (fun h => by have h5 := h.2.2.2.2; omega))
    clear h3 h4 hF hD hc KL BL
    go_enter Try.func20, Try.ntmps20
    go_upto_region 1 with (fail)
    rw [← HW0.out]
    go_wp2_with (first | (go_at_call 16; refine CK.out.mono ?_; rintro e w1 ⟨rfl, hb⟩; have B1 := Lib.hid (below_from hb B0.out B0.out.size); have N1 := Lib.hid (N0.out.past hb); have X1 := Lib.hid (X0.out.past hb); have c1 := N1.out.cell; have l1 := N1.out.lt; have x1c := X1.out.cell; have x1l := X1.out.lt; have x1f := X1.out.free; clear hb) | (go_at_call 40; refine (end_any o _ _).mono ?_; rintro e w1 ⟨rfl, hb⟩; rw [EF.out]; have B1 := Lib.hid (below_from hb B1.out B1.out.size); have N1 := Lib.hid (N1.out.past hb); have X1 := Lib.hid (X1.out.past hb); have c1 := N1.out.cell; have l1 := N1.out.lt; have x1c := X1.out.cell; have x1l := X1.out.lt; have x1f := X1.out.free; clear hb) | (go_at_call 40; refine (end_any o _ _).mono ?_; rintro e w1 ⟨rfl, hb⟩; rw [ED.out]; have B1 := Lib.hid (below_from hb B1.out B1.out.size); have N1 := Lib.hid (N1.out.past hb); have X1 := Lib.hid (X1.out.past hb); have c1 := N1.out.cell; have l1 := N1.out.lt; have x1c := X1.out.cell; have x1l := X1.out.lt; have x1f := X1.out.free; clear hb) | (go_at_call 39; refine (in_any _ _ _ _).mono ?_; rintro e w' ⟨rfl, rfl⟩; rw [E1.out]))
    refine bodyPost_ret (v := .tuple #[noN.v, .int .i64 1]) (results_cell_tmp Try.results20 (g := w.heap.size + 1) rfl rfl (load27 (X1.out.set [.int .i64 0, .int .i64 0, .slice none 0 0, .slice none 0 0, .slice none 0 0, .slice none 0 0] rfl))) rfl ?_
    exact ⟨NetRes.no (TV.out), B1.out.trans (grown_below (setCells_grown (w.heap.size + 1) [.int .i64 0, .int .i64 0, .slice none 0 0, .slice none 0 0, .slice none 0 0, .slice none 0 0] 0 _) B1.out.size (fun q hq => by injection hq with hq; omega))⟩
  have d4 : decide ((4096 : Int) < (n : Int)) = false := decide_eq_false (by omega)
  have d4n : decide (4096 < n) = false := decide_eq_false h4
  have SB := Lib.hid (show sendable o.val frm dst d bs from ⟨hc, by rw [KL]; exact hF, by rw [KL]; exact hD, h3, by omega⟩)
  have NW : 0 ≤ o.now ∧ o.now ≤ 1099511627776 := chk_now hc
  have DR : 0 ≤ d ∧ d ≤ 1099511627776 := by unfold inR at h3; simpa using h3
  have NX : 0 ≤ o.next ∧ o.next ≤ 1099511627776 := chk_next hc
  have AM : 0 ≤ sp.amt ∧ sp.amt ≤ 1099511627776 := by have := amt_ok hc o.val.next; rwa [HSPV.out] at this
  have h4' : n ≤ 4096 := by omega
  clear h3 h4 hF hD KL
  by_cases h5 : o.next = 1099511627776
  · have d5 : (o.next == 1099511627776) = true := by rw [beq_iff_eq]; exact h5
    have TV := Lib.hid (sendV_next SB.out h5)
    clear hc BL h5
    go_enter Try.func20, Try.ntmps20
    go_upto_region 1 with (fail)
    rw [← HW0.out]
    go_wp2_with (first | (go_at_call 16; refine CK.out.mono ?_; rintro e w1 ⟨rfl, hb⟩; have B1 := Lib.hid (below_from hb B0.out B0.out.size); have N1 := Lib.hid (N0.out.past hb); have X1 := Lib.hid (X0.out.past hb); have c1 := N1.out.cell; have l1 := N1.out.lt; have x1c := X1.out.cell; have x1l := X1.out.lt; have x1f := X1.out.free; clear hb) | (go_at_call 40; refine (end_any o _ _).mono ?_; rintro e w1 ⟨rfl, hb⟩; rw [EF.out]; have B1 := Lib.hid (below_from hb B1.out B1.out.size); have N1 := Lib.hid (N1.out.past hb); have X1 := Lib.hid (X1.out.past hb); have c1 := N1.out.cell; have l1 := N1.out.lt; have x1c := X1.out.cell; have x1l := X1.out.lt; have x1f := X1.out.free; clear hb) | (go_at_call 40; refine (end_any o _ _).mono ?_; rintro e w1 ⟨rfl, hb⟩; rw [ED.out]; have B1 := Lib.hid (below_from hb B1.out B1.out.size); have N1 := Lib.hid (N1.out.past hb); have X1 := Lib.hid (X1.out.past hb); have c1 := N1.out.cell; have l1 := N1.out.lt; have x1c := X1.out.cell; have x1l := X1.out.lt; have x1f := X1.out.free; clear hb) | (go_at_call 39; refine (in_any _ _ _ _).mono ?_; rintro e w' ⟨rfl, rfl⟩; rw [E1.out]))
    refine bodyPost_ret (v := .tuple #[noN.v, .int .i64 2]) (results_cell_tmp Try.results20 (g := w.heap.size + 1) rfl rfl (load27 (X1.out.set [.int .i64 0, .int .i64 0, .slice none 0 0, .slice none 0 0, .slice none 0 0, .slice none 0 0] rfl))) rfl ?_
    exact ⟨NetRes.no (TV.out), B1.out.trans (grown_below (setCells_grown (w.heap.size + 1) [.int .i64 0, .int .i64 0, .slice none 0 0, .slice none 0 0, .slice none 0 0, .slice none 0 0] 0 _) B1.out.size (fun q hq => by injection hq with hq; omega))⟩
  have d5 : (o.next == 1099511627776) = false := by rw [beq_eq_false_iff_ne]; exact h5
  have H5 := Lib.hid h5
  have HC := Lib.hid hc
  have wr0 : IntKind.i64.wrap (o.now + d) = o.now + d := IntWalk.i64_in _ (by omega)
  have wr1 : IntKind.i64.wrap (o.now + d + sp.amt) = o.now + d + sp.amt := IntWalk.i64_in _ (by omega)
  have LF := HF.out.l
  clear hc h5 BL
  go_enter Try.func20, Try.ntmps20
  go_upto_region 1 with (fail)
  rw [← HW0.out]
  go_upto_region 8 with (first | (go_at_call 16; refine CK.out.mono ?_; rintro e w1 ⟨rfl, hb⟩; have B1 := Lib.hid (below_from hb B0.out B0.out.size); have N1 := Lib.hid (N0.out.past hb); have X1 := Lib.hid (X0.out.past hb); have c1 := N1.out.cell; have l1 := N1.out.lt; have x1c := X1.out.cell; have x1l := X1.out.lt; have x1f := X1.out.free; clear hb) | (go_at_call 40; refine (end_any o _ _).mono ?_; rintro e w1 ⟨rfl, hb⟩; rw [EF.out]; have B1 := Lib.hid (below_from hb B1.out B1.out.size); have N1 := Lib.hid (N1.out.past hb); have X1 := Lib.hid (X1.out.past hb); have c1 := N1.out.cell; have l1 := N1.out.lt; have x1c := X1.out.cell; have x1l := X1.out.lt; have x1f := X1.out.free; clear hb) | (go_at_call 40; refine (end_any o _ _).mono ?_; rintro e w1 ⟨rfl, hb⟩; rw [ED.out]; have B1 := Lib.hid (below_from hb B1.out B1.out.size); have N1 := Lib.hid (N1.out.past hb); have X1 := Lib.hid (X1.out.past hb); have c1 := N1.out.cell; have l1 := N1.out.lt; have x1c := X1.out.cell; have x1l := X1.out.lt; have x1f := X1.out.free; clear hb) | (go_at_call 39; refine (in_any _ _ _ _).mono ?_; rintro e w' ⟨rfl, rfl⟩; rw [E1.out]) | (go_at_call 18; refine (copy_any o _ (HO.out.below B1.out) HF.out).mono ?_; rintro e w2 ⟨q, rfl, hL, hO, hb⟩; have QL := Lib.hid hL; have QO := Lib.hid hO; have Z1 := Lib.hid X1.out.lt; have Z2 := Lib.hid hb.size; have B2 := Lib.hid (below_from hb B1.out B1.out.size); have N2 := Lib.hid (N1.out.past hb); have X2 := Lib.hid (X1.out.past hb); have qn := hL.next; have wr : IntKind.i64.wrap (q.next + 1) = q.next + 1 := (by rw [hL.next]; exact IntWalk.i64_in _ (by omega)); clear qn; have n2c := (N1.out.past hb).cell; have n2l := (N1.out.past hb).lt; clear hL hO hb) | (go_at_call 49; refine (rslip_any o _ _ (HO.out.below (B2.out.alloc B2.out.size _))).mono ?_; rintro e w3 ⟨rfl, hb⟩; rw [HSP.out]; have B3 := Lib.hid (below_from hb (B2.out.alloc B2.out.size _) (B2.out.alloc B2.out.size _).size); have BQ := Lib.hid (below_from hb (below_alloc1 w2 _) (below_alloc1 w2 _).size); have N3 := Lib.hid ((N2.out.alloc _).past hb); have X3 := Lib.hid ((X2.out.alloc _).past hb); have Y3 := Lib.hid ((Has.newAt w2 #[.int .i64 q.now, .int .i64 (q.next + 1), .slice q.LA q.Ln q.Lc, .slice q.SA q.Sn q.Sc, .slice q.CA q.Cn q.Cc, .slice q.KA q.Kn q.Kc] 27 (g := w2.heap.size) rfl).past hb); clear hb))
  have bk := below_alloc1 w3 (.cells #[.int .i64 sp.no, .int .i64 sp.kind, .int .i64 sp.amt] 54)
  obtain ⟨W4, hW4⟩ : ∃ W, W = w3.alloc (.cells #[.int .i64 sp.no, .int .i64 sp.kind, .int .i64 sp.amt] 54) := ⟨_, rfl⟩
  obtain ⟨gx, hgx⟩ : ∃ g, g = w2.heap.size := ⟨_, rfl⟩
  obtain ⟨gs, hgs⟩ : ∃ g, g = w3.heap.size := ⟨_, rfl⟩
  have z1 := Z1.out
  have z2 := Z2.out
  have z3 := Y3.out.lt
  have BB := BQ.out
  have RSA := Lib.hid (show RS o w W4 gx gs q q.LA q.Ln q.Lc q.L sp from by
    subst hgx hgs
    rw [hW4]
    have O3 := (QO.out.kept BB).kept bk
    exact ⟨B3.out.alloc B3.out.size _, N3.out.alloc _, X3.out.alloc _, Y3.out.alloc _, Has.newAt w3 #[.int .i64 sp.no, .int .i64 sp.kind, .int .i64 sp.amt] 54 rfl, by omega, z3, O3.l.rown.base (by omega), fun b hb e => (by have := (QO.out.l.2.1.lt b hb).2; omega),
      ⟨(noN_own _ _).l, O3.s.base (by omega), O3.c.base (by omega), O3.k.base (by omega)⟩, ⟨fun b hb => by simp [Value.ownBlock] at hb, fun b hb => ⟨Nat.zero_le _, (QO.out.s.2.1.lt b hb).2⟩, fun b hb => ⟨Nat.zero_le _, (QO.out.c.2.1.lt b hb).2⟩, fun b hb => ⟨Nat.zero_le _, (QO.out.k.2.1.lt b hb).2⟩⟩⟩)
  have QLB := Lib.hid (show ∀ b, (Value.slice q.LA q.Ln q.Lc).ownBlock = some b → b < gx from fun b hb => by rw [hgx]; exact (QO.out.l.2.1.lt b hb).2)
  rw [← hW4, ← hgx, ← hgs]
  clear bk hW4 hgx hgs z1 z2 z3 BB Z1 Z2 N3 X3 Y3 B3 BQ N2 X2 B2 n2c n2l
  clear N1 X1 B1 c1 l1 x1c x1l x1f N0 X0 B0
  have lq : q.Ln ≤ 2000 := by rw [QL.out.Ln]; exact LF
  by_cases k1 : sp.kind = 1
  · have e1 : (sp.kind == 1) = true := by rw [beq_iff_eq]; exact k1
    have TV := Lib.hid (sendV_gone SB.out H5.out (.inl (by rw [HSPV.out]; exact k1)))
    clear k1
    have xc := RSA.out.xb.cell
    have xl := RSA.out.xb.lt
    have sc := RSA.out.sb.cell
    have sl := RSA.out.sb.lt
    have nc := RSA.out.nb.cell
    have nl := RSA.out.nb.lt
    have rc := RSA.out.rb.cell
    have rl := RSA.out.rb.lt
    have rf := RSA.out.rb.free
    go_wp2_with fail
    refine bodyPost_ret (v := .tuple #[(⟨q.now, q.next + 1, q.LA, q.Ln, q.Lc, q.L, q.SA, q.Sn, q.Sc, q.S, q.CA, q.Cn, q.Cc, q.C, q.KA, q.Kn, q.Kc, q.K⟩ : Nt).v, .int .i64 0]) (results_cell_tmp Try.results20 (g := w.heap.size + 1) rfl rfl (load27 (RSA.out.rb.set [.int .i64 q.now, .int .i64 (q.next + 1), .slice q.LA q.Ln q.Lc, .slice q.SA q.Sn q.Sc, .slice q.CA q.Cn q.Cc, .slice q.KA q.Kn q.Kc] rfl))) rfl ?_
    have SG := setCells_grown (w.heap.size + 1) [.int .i64 q.now, .int .i64 (q.next + 1), .slice q.LA q.Ln q.Lc, .slice q.SA q.Sn q.Sc, .slice q.CA q.Cn q.Cc, .slice q.KA q.Kn q.Kc] 0 W4
    obtain ⟨D1, D2⟩ := RSA.out.done SG (fun hb a ha => mgK.below (HO.out.l.each a (by rw [← QL.out.L]; exact ha)) hb)
    exact ⟨NetRes.mk _ (by rw [TV.out]; unfold Nt.val; simp only [QL.out.now, QL.out.next, QL.out.S, QL.out.C, QL.out.K, QL.out.L]) D1, D2⟩
  have e1 : (sp.kind == 1) = false := by rw [beq_eq_false_iff_ne]; exact k1
  have xc := RSA.out.xb.cell
  have xl := RSA.out.xb.lt
  have sc := RSA.out.sb.cell
  have sl := RSA.out.sb.lt
  have nc := RSA.out.nb.cell
  have nl := RSA.out.nb.lt
  have rc := RSA.out.rb.cell
  have rl := RSA.out.rb.lt
  have rf := RSA.out.rb.free
  cases hcu : hasP o.C (pairP frm dst) with
  | true =>
    have HCU := Lib.hid hcu
    have TV := Lib.hid (sendV_gone SB.out H5.out (.inr hcu))
    clear k1 hcu
    go_wp2_with (go_at_call 50; refine (rcut_any o frm dst _ (HO.out.below RSA.out.below)).mono ?_; rintro e wk ⟨rfl, hb⟩; rw [HCU.out]; have RSK := Lib.hid (RSA.out.past hb); clear xc xl sc sl nc nl rc rl rf; have xc := RSK.out.xb.cell; have xl := RSK.out.xb.lt; have sc := RSK.out.sb.cell; have sl := RSK.out.sb.lt; have nc := RSK.out.nb.cell; have nl := RSK.out.nb.lt; have rc := RSK.out.rb.cell; have rl := RSK.out.rb.lt; have rf := RSK.out.rb.free; clear hb)
    refine bodyPost_ret (v := .tuple #[(⟨q.now, q.next + 1, q.LA, q.Ln, q.Lc, q.L, q.SA, q.Sn, q.Sc, q.S, q.CA, q.Cn, q.Cc, q.C, q.KA, q.Kn, q.Kc, q.K⟩ : Nt).v, .int .i64 0]) (results_cell_tmp Try.results20 (g := w.heap.size + 1) rfl rfl (load27 (RSK.out.rb.set [.int .i64 q.now, .int .i64 (q.next + 1), .slice q.LA q.Ln q.Lc, .slice q.SA q.Sn q.Sc, .slice q.CA q.Cn q.Cc, .slice q.KA q.Kn q.Kc] rfl))) rfl ?_
    have SG := setCells_grown (w.heap.size + 1) [.int .i64 q.now, .int .i64 (q.next + 1), .slice q.LA q.Ln q.Lc, .slice q.SA q.Sn q.Sc, .slice q.CA q.Cn q.Cc, .slice q.KA q.Kn q.Kc] 0 wk
    obtain ⟨D1, D2⟩ := RSK.out.done SG (fun hb a ha => mgK.below (HO.out.l.each a (by rw [← QL.out.L]; exact ha)) hb)
    exact ⟨NetRes.mk _ (by rw [TV.out]; unfold Nt.val; simp only [QL.out.now, QL.out.next, QL.out.S, QL.out.C, QL.out.K, QL.out.L]) D1, D2⟩
  | false =>
  have HCU := Lib.hid hcu
  have NG := Lib.hid (show ¬ ((slipOf o.val.S o.val.next).kind = 1 ∨ cutB o.val.C frm dst = true) from by
    rintro (h | h)
    · rw [HSPV.out] at h; exact k1 h
    · rw [show cutB o.val.C frm dst = hasP o.C (pairP frm dst) from rfl, hcu] at h; cases h)
  clear k1 hcu
  go_upto_region 10 with (go_at_call 50; refine (rcut_any o frm dst _ (HO.out.below RSA.out.below)).mono ?_; rintro e wk ⟨rfl, hb⟩; rw [HCU.out]; have RSK := Lib.hid (RSA.out.past hb); clear xc xl sc sl nc nl rc rl rf; have xc := RSK.out.xb.cell; have xl := RSK.out.xb.lt; have sc := RSK.out.sb.cell; have sl := RSK.out.sb.lt; have nc := RSK.out.nb.cell; have nl := RSK.out.nb.lt; have rc := RSK.out.rb.cell; have rl := RSK.out.rb.lt; have rf := RSK.out.rb.free; clear hb)
  go_cut [14] (fun s14 wx => ∃ (gm : Nat) (m : Mg), s14 = .pointer (some ⟨gm, 0, none⟩) ∧ Hid (m.val = (⟨o.now + d + sp.amt, o.next, frm, dst, bs⟩ : Mv)) ∧ Hid (RKM o w wx gx gs gm q q.LA q.Ln q.Lc q.L sp m))
  case first =>
    clear xc xl sc sl nc nl rc rl rf
    refine region_tr3 (fun w' => (∀ i, w'.cell? ⟨w.heap.size, i, none⟩ = (#[.int .i64 o.now, .int .i64 o.next, .slice o.LA o.Ln o.Lc, .slice o.SA o.Sn o.Sc, .slice o.CA o.Cn o.Cc, .slice o.KA o.Kn o.Kc] : Array Value)[i]?) ∧ (∀ i, w'.cell? ⟨gs, i, none⟩ = (#[.int .i64 sp.no, .int .i64 sp.kind, .int .i64 sp.amt] : Array Value)[i]?)) 15 (.take 0 (.take 1 (.take 2 (.take 3 (.take 4 (.take 5 (.take 6 (.take 7 (.take 8 (.take 9 (.take 10 (.take 11 (.fork 12 (.take 13 (.op 14 .tail)) 14 (.op 12 (.take 13 .tail))))))))))))))) (by kernel_rfl) (by kernel_rfl) ⟨RSK.out.nb.drew.cell, RSK.out.sb.drew.cell⟩ (fun hHeld => ?_)
    obtain ⟨v0, hv⟩ : ∃ v, v = wk.drew := ⟨_, rfl⟩
    have RS0 := Lib.hid (show RS o w v0 gx gs q q.LA q.Ln q.Lc q.L sp from by rw [hv]; exact RSK.out.past (Below.refl _ _).drew)
    rw [← hv] at hHeld
    rw [← hv]
    clear hv RSK
    iterate 12
      refine tr_take3 (v := ?_) (by simp only [List.getElem?_toArray, List.getElem?_cons_succ, List.getElem?_cons_zero]; rfl) (Or.inl ⟨by rfl, ?_⟩) ?_
      rotate_left 1
      · intro w hSw
        have hSa := hSw.1
        have hSb := hSw.2
        clear hSw
        go_simp
        try with_reducible rfl
      try simp only [Act.put, List.setIfInBounds_toArray, List.set_cons_zero, List.set_cons_succ]
    refine tr_fork3 (by simp only [List.getElem?_toArray, List.getElem?_cons_succ, List.getElem?_cons_zero]; rfl) (by simp only [List.getElem?_toArray, List.getElem?_cons_succ, List.getElem?_cons_zero]; rfl) (fun K hK => ?_) (fun K hK => ?_)
    · skip
      go_wp2_with (go_at_call 51; refine (rcopy_any A n c bs _ (HB.out.below RS0.out.below) (by omega)).mono ?_; rintro e v1 ⟨A1, c1, rfl, hO, hb⟩; have RS1 := Lib.hid (RS0.out.past hb); have BO := Lib.hid (hO.rown.base (show gx + 1 ≤ v0.heap.size from RS0.out.xb.lt)); clear hO hb)
      clear hHeld
      refine hK.out _ _ ⟨RS1.out.nb.cell, RS1.out.sb.cell⟩ (fun hHeld => ?_)
      clear hK K
      try simp only [Act.put, List.setIfInBounds_toArray, List.set_cons_zero, List.set_cons_succ]
      refine tr_take3 (v := ?_) (by simp only [List.getElem?_toArray, List.getElem?_cons_succ, List.getElem?_cons_zero]; rfl) (Or.inl ⟨by rfl, ?_⟩) ?_
      rotate_left 1
      · intro w hSw
        have hSa := hSw.1
        have hSb := hSw.2
        clear hSw
        go_simp
        try with_reducible rfl
      try simp only [Act.put, List.setIfInBounds_toArray, List.set_cons_zero, List.set_cons_succ]
      refine tr_op3 (by simp only [List.getElem?_toArray, List.getElem?_cons_succ, List.getElem?_cons_zero]; rfl) (fun K hK => ?_)
      go_wp2_with fail
      have hb := below_alloc1 v1 (.cells #[.int .i64 0, .int .i64 0, .int .i64 0, .int .i64 0, .slice none 0 0] 40)
      have hM := Has.newAt v1 #[.int .i64 0, .int .i64 0, .int .i64 0, .int .i64 0, .slice none 0 0] 40 (g := v1.heap.size) rfl
      have LM2 := Lib.hid (show gs < v1.heap.size from RS1.out.sb.lt)
      have RS2 := Lib.hid (RS1.out.past hb)
      obtain ⟨gm, hg⟩ : ∃ gm, gm = v1.heap.size := ⟨_, rfl⟩
      obtain ⟨v2, hv⟩ : ∃ v, v = v1.alloc (.cells #[.int .i64 0, .int .i64 0, .int .i64 0, .int .i64 0, .slice none 0 0] 40) := ⟨_, rfl⟩
      rw [← hg] at hM LM2 ⊢
      rw [← hv] at hM hb RS2 ⊢
      have hg2 := hg
      clear hg
      have MB2 := Lib.hid hM
      have BM := Lib.hid (show ∀ b, (Value.slice A1 n c1).ownBlock = some b → b ≠ gm from fun b hb2 e => by have h1 := (BO.out.2.lt b hb2).2; rw [e, hg2] at h1; exact Nat.lt_irrefl _ h1)
      clear hg2
      have BO := Lib.hid (BO.out.kept hb)
      clear hv hM hb
      clear hHeld
      refine hK.out _ _ ⟨RS2.out.nb.cell, RS2.out.sb.cell⟩ (fun hHeld => ?_)
      clear hK K
      try simp only [Act.put, List.setIfInBounds_toArray, List.set_cons_zero, List.set_cons_succ]
      have mc := MB2.out.cell
      have ml := MB2.out.lt
      have mf := MB2.out.free
      refine tr_tail3 rfl ?_
      clear hHeld
      go_wp2_with fail
      go_meet
      have SM := setCells_grown gm [.int .i64 (o.now + d + sp.amt), .int .i64 o.next, .int .i64 frm, .int .i64 dst, .slice A1 n c1] 0 v2
      have lm := LM2.out
      have h2 := RS2.out.l2
      have hs := RS2.out.ls
      exact ⟨gm, (⟨(o.now + d + sp.amt), o.next, frm, dst, A1, n, c1, bs⟩ : Mg), rfl, Lib.hid rfl, Lib.hid ⟨RS2.out.far SM (by omega) lm (fun b hb e => by have := QLB.out b hb; omega), MB2.out.set [.int .i64 (o.now + d + sp.amt), .int .i64 o.next, .int .i64 frm, .int .i64 dst, .slice A1 n c1] rfl, lm, BO.out.apart SM (fun b hb e => by injection e with e; exact BM.out b hb e.symm)⟩⟩
    · skip
      go_wp2_with fail
      have hb := below_alloc1 v0 (.cells #[.int .i64 0, .int .i64 0, .int .i64 0, .int .i64 0, .slice none 0 0] 40)
      have hM := Has.newAt v0 #[.int .i64 0, .int .i64 0, .int .i64 0, .int .i64 0, .slice none 0 0] 40 (g := v0.heap.size) rfl
      have LM1 := Lib.hid (show gs < v0.heap.size from RS0.out.sb.lt)
      have RS1 := Lib.hid (RS0.out.past hb)
      obtain ⟨gm, hg⟩ : ∃ gm, gm = v0.heap.size := ⟨_, rfl⟩
      obtain ⟨v1, hv⟩ : ∃ v, v = v0.alloc (.cells #[.int .i64 0, .int .i64 0, .int .i64 0, .int .i64 0, .slice none 0 0] 40) := ⟨_, rfl⟩
      rw [← hg] at hM LM1 ⊢
      rw [← hv] at hM hb RS1 ⊢
      clear hg
      have MB1 := Lib.hid hM
      clear hv hM hb
      clear hHeld
      refine hK.out _ _ ⟨RS1.out.nb.cell, RS1.out.sb.cell⟩ (fun hHeld => ?_)
      clear hK K
      try simp only [Act.put, List.setIfInBounds_toArray, List.set_cons_zero, List.set_cons_succ]
      refine tr_op3 (by simp only [List.getElem?_toArray, List.getElem?_cons_succ, List.getElem?_cons_zero]; rfl) (fun K hK => ?_)
      go_wp2_with (go_at_call 51; refine (rcopy_any A n c bs _ (HB.out.below RS1.out.below) (by omega)).mono ?_; rintro e v2 ⟨A1, c1, rfl, hO, hb⟩; have RS2 := Lib.hid (RS1.out.past hb); have BM := Lib.hid (show ∀ b, (Value.slice A1 n c1).ownBlock = some b → b ≠ gm from (fun b hb2 e => (by have h1 := (hO.2.1.lt b hb2).1; have h2 := MB1.out.lt; rw [e] at h1; exact absurd h2 (Nat.not_lt.2 h1)))); have BO := Lib.hid (hO.rown.base (show gx + 1 ≤ v1.heap.size from RS1.out.xb.lt)); have MB2 := Lib.hid (MB1.out.past hb); have LM2 := LM1; clear hO hb)
      clear hHeld
      refine hK.out _ _ ⟨RS2.out.nb.cell, RS2.out.sb.cell⟩ (fun hHeld => ?_)
      clear hK K
      try simp only [Act.put, List.setIfInBounds_toArray, List.set_cons_zero, List.set_cons_succ]
      refine tr_take3 (v := ?_) (by simp only [List.getElem?_toArray, List.getElem?_cons_succ, List.getElem?_cons_zero]; rfl) (Or.inl ⟨by rfl, ?_⟩) ?_
      rotate_left 1
      · intro w hSw
        have hSa := hSw.1
        have hSb := hSw.2
        clear hSw
        go_simp
        try with_reducible rfl
      try simp only [Act.put, List.setIfInBounds_toArray, List.set_cons_zero, List.set_cons_succ]
      have mc := MB2.out.cell
      have ml := MB2.out.lt
      have mf := MB2.out.free
      refine tr_tail3 rfl ?_
      clear hHeld
      go_wp2_with fail
      go_meet
      have SM := setCells_grown gm [.int .i64 (o.now + d + sp.amt), .int .i64 o.next, .int .i64 frm, .int .i64 dst, .slice A1 n c1] 0 v2
      have lm := LM2.out
      have h2 := RS2.out.l2
      have hs := RS2.out.ls
      exact ⟨gm, (⟨(o.now + d + sp.amt), o.next, frm, dst, A1, n, c1, bs⟩ : Mg), rfl, Lib.hid rfl, Lib.hid ⟨RS2.out.far SM (by omega) lm (fun b hb e => by have := QLB.out b hb; omega), MB2.out.set [.int .i64 (o.now + d + sp.amt), .int .i64 o.next, .int .i64 frm, .int .i64 dst, .slice A1 n c1] rfl, lm, BO.out.apart SM (fun b hb e => by injection e with e; exact BM.out b hb e.symm)⟩⟩
  case rest =>
    obtain ⟨gm, m, rfl, MV, RK0⟩ := hcut
    have MT : m.t = o.now + d + sp.amt := congrArg Mv.t MV.out
    have ME0 := Lib.hid (show ∀ a ∈ q.L, a = m ∨ a ∈ o.L from fun a ha => .inr (by rw [← QL.out.L]; exact ha))
    clear xc xl sc sl nc nl rc rl rf
    have mc := RK0.out.mb.cell
    have ml := RK0.out.mb.lt
    have xc := RK0.out.rs.xb.cell
    have xl := RK0.out.rs.xb.lt
    have sc := RK0.out.rs.sb.cell
    have sl := RK0.out.rs.sb.lt
    have nc := RK0.out.rs.nb.cell
    have nl := RK0.out.rs.nb.lt
    have rc := RK0.out.rs.rb.cell
    have rl := RK0.out.rs.rb.lt
    have rf := RK0.out.rs.rb.free
    by_cases ht : 1099511627776 < o.now + d + sp.amt
    · have dt : decide (1099511627776 < m.t) = true := decide_eq_true (by rw [MT]; exact ht)
      have TV := Lib.hid (sendV_late SB.out H5.out NG.out (by rw [HSPV.out]; exact ht))
      clear MT
      go_wp2_with fail
      refine bodyPost_ret (v := .tuple #[noN.v, .int .i64 2]) (results_cell_tmp Try.results20 (g := w.heap.size + 1) rfl rfl (load27 (RK0.out.rs.rb.set [.int .i64 0, .int .i64 0, .slice none 0 0, .slice none 0 0, .slice none 0 0, .slice none 0 0] rfl))) rfl ?_
      exact ⟨NetRes.no TV.out, RK0.out.rs.below.trans (grown_below (setCells_grown (w.heap.size + 1) [.int .i64 0, .int .i64 0, .slice none 0 0, .slice none 0 0, .slice none 0 0, .slice none 0 0] 0 _) RK0.out.rs.below.size (fun q hq => by injection hq with hq; omega))⟩
    have dt : decide (1099511627776 < m.t) = false := decide_eq_false (by rw [MT]; exact ht)
    clear MT
    go_upto_region 14 with (go_at_call 52; refine (rput_any q.LA q.Ln q.Lc q.L m _ (RK0.out.sl HO.out.l.each ME0.out) (by omega)).mono ?_; rintro e wp ⟨P1, j, u1, L1, rfl, hR, hV, hM, hb⟩; obtain rfl : j = q.Ln + 1 := put_size hR.1 hV RK0.out.rs.row.1; have RK1 := Lib.hid (RK0.out.put hb hR); have VV1 := Lib.hid hV; have ME1 := Lib.hid (mem_next ME0.out hM); have xc := (RK0.out.rs.xb.past hb).cell; have xl := (RK0.out.rs.xb.past hb).lt; have xf := (RK0.out.rs.xb.past hb).free; clear hR hV hM hb)
    clear rc rl rf sc sl mc ml nc nl
    obtain ⟨V1, hV⟩ : ∃ V, V = wp.setCell ⟨gx, 2, none⟩ (.slice P1 (q.Ln + 1) u1) := ⟨_, rfl⟩
    rw [← hV] at RK1
    rw [← hV]
    clear hV xc xl xf
    have xc := RK1.out.rs.xb.cell
    have xl := RK1.out.rs.xb.lt
    have sc := RK1.out.rs.sb.cell
    have sl := RK1.out.rs.sb.lt
    by_cases k2 : sp.kind = 2
    · have e2 : (sp.kind == 2) = true := by rw [beq_iff_eq]; exact k2
      have mc := RK1.out.mb.cell
      have ml := RK1.out.mb.lt
      go_upto_region 16 with (go_at_call 52; refine (rput_any P1 (q.Ln + 1) u1 L1 m _ (RK1.out.sl HO.out.l.each ME1.out) (by omega)).mono ?_; rintro e wp ⟨P2, j, u2, L2, rfl, hR, hV, hM, hb⟩; obtain rfl : j = (q.Ln + 1) + 1 := put_size hR.1 hV RK1.out.rs.row.1; have RK2 := Lib.hid (RK1.out.put hb hR); have VV2 := Lib.hid hV; have ME2 := Lib.hid (mem_next ME1.out hM); have xc := (RK1.out.rs.xb.past hb).cell; have xl := (RK1.out.rs.xb.past hb).lt; have xf := (RK1.out.rs.xb.past hb).free; clear hR hV hM hb)
      clear sc sl mc ml
      obtain ⟨V2, hV⟩ : ∃ V, V = wp.setCell ⟨gx, 2, none⟩ (.slice P2 (q.Ln + 1 + 1) u2) := ⟨_, rfl⟩
      rw [← hV] at RK2
      rw [← hV]
      clear hV xc xl xf
      have xc := RK2.out.rs.xb.cell
      have xl := RK2.out.rs.xb.lt
      have sc := RK2.out.rs.sb.cell
      have sl := RK2.out.rs.sb.lt
      have SL := Lib.hid (sendV_last SB.out H5.out NG.out (by rw [HSPV.out]; exact Int.not_lt.2 ht) (L := L2.map Mg.val) (by
        rw [HSPV.out, VV2.out, VV1.out]
        rw [MV.out]
        simp only [QL.out.L]
        first | rw [if_pos k2] | rw [if_neg k2]
        rfl))
      have rc := RK2.out.rs.rb.cell
      have rl := RK2.out.rs.rb.lt
      have rf := RK2.out.rs.rb.free
      by_cases hL : 1024 < (q.Ln + 1 + 1)
      · have dl : decide ((1024 : Int) < (((q.Ln + 1 + 1) : Nat) : Int)) = true := decide_eq_true (by omega)
        have dl2 : decide ((1024 : Int) < ((q.Ln : Int) + 1 + 1)) = true := decide_eq_true (by omega)
        have dln : decide (1024 < (q.Ln + 1 + 1)) = true := decide_eq_true hL
        have TV := Lib.hid (show sendV o.val frm dst d bs = (noV, 2) from by rw [SL.out, if_pos (by rw [List.length_map, RK2.out.rs.row.1]; exact hL)])
        as_aux_lemma =>
          go_wp2_with fail
          refine bodyPost_ret (v := .tuple #[noN.v, .int .i64 2]) (results_cell_tmp Try.results20 (g := w.heap.size + 1) rfl rfl (load27 (RK2.out.rs.rb.set [.int .i64 0, .int .i64 0, .slice none 0 0, .slice none 0 0, .slice none 0 0, .slice none 0 0] rfl))) rfl ?_
          exact ⟨NetRes.no TV.out, RK2.out.rs.below.trans (grown_below (setCells_grown (w.heap.size + 1) [.int .i64 0, .int .i64 0, .slice none 0 0, .slice none 0 0, .slice none 0 0, .slice none 0 0] 0 _) RK2.out.rs.below.size (fun q hq => by injection hq with hq; omega))⟩
      · have dl : decide ((1024 : Int) < (((q.Ln + 1 + 1) : Nat) : Int)) = false := decide_eq_false (by omega)
        have dl2 : decide ((1024 : Int) < ((q.Ln : Int) + 1 + 1)) = false := decide_eq_false (by omega)
        have dln : decide (1024 < (q.Ln + 1 + 1)) = false := decide_eq_false hL
        have TV := Lib.hid (show sendV o.val frm dst d bs = ({ o.val with next := o.next + 1, L := L2.map Mg.val }, 0) from by rw [SL.out, if_neg (by rw [List.length_map, RK2.out.rs.row.1]; exact hL)]; rfl)
        as_aux_lemma =>
          go_wp2_with fail
          refine bodyPost_ret (v := .tuple #[(⟨q.now, q.next + 1, P2, (q.Ln + 1 + 1), u2, L2, q.SA, q.Sn, q.Sc, q.S, q.CA, q.Cn, q.Cc, q.C, q.KA, q.Kn, q.Kc, q.K⟩ : Nt).v, .int .i64 0]) (results_cell_tmp Try.results20 (g := w.heap.size + 1) rfl rfl (load27 (RK2.out.rs.rb.set [.int .i64 q.now, .int .i64 (q.next + 1), .slice P2 (q.Ln + 1 + 1) u2, .slice q.SA q.Sn q.Sc, .slice q.CA q.Cn q.Cc, .slice q.KA q.Kn q.Kc] rfl))) rfl ?_
          have SG := setCells_grown (w.heap.size + 1) [.int .i64 q.now, .int .i64 (q.next + 1), .slice P2 (q.Ln + 1 + 1) u2, .slice q.SA q.Sn q.Sc, .slice q.CA q.Cn q.Cc, .slice q.KA q.Kn q.Kc] 0 V2
          obtain ⟨D1, D2⟩ := RK2.out.rs.done SG (fun hb a ha => by rcases ME2.out a ha with rfl | h1; exact RK2.out.bytes SG; exact mgK.below (HO.out.l.each a h1) hb)
          exact ⟨NetRes.mk _ (by rw [TV.out]; unfold Nt.val; simp only [QL.out.now, QL.out.next, QL.out.S, QL.out.C, QL.out.K]) D1, D2⟩
    · have e2 : (sp.kind == 2) = false := by rw [beq_eq_false_iff_ne]; exact k2
      have SL := Lib.hid (sendV_last SB.out H5.out NG.out (by rw [HSPV.out]; exact Int.not_lt.2 ht) (L := L1.map Mg.val) (by
        rw [HSPV.out, VV1.out]
        rw [MV.out]
        simp only [QL.out.L]
        first | rw [if_pos k2] | rw [if_neg k2]
        rfl))
      have rc := RK1.out.rs.rb.cell
      have rl := RK1.out.rs.rb.lt
      have rf := RK1.out.rs.rb.free
      by_cases hL : 1024 < (q.Ln + 1)
      · have dl : decide ((1024 : Int) < (((q.Ln + 1) : Nat) : Int)) = true := decide_eq_true (by omega)
        have dl2 : decide ((1024 : Int) < ((q.Ln : Int) + 1)) = true := decide_eq_true (by omega)
        have dln : decide (1024 < (q.Ln + 1)) = true := decide_eq_true hL
        have TV := Lib.hid (show sendV o.val frm dst d bs = (noV, 2) from by rw [SL.out, if_pos (by rw [List.length_map, RK1.out.rs.row.1]; exact hL)])
        as_aux_lemma =>
          go_wp2_with fail
          refine bodyPost_ret (v := .tuple #[noN.v, .int .i64 2]) (results_cell_tmp Try.results20 (g := w.heap.size + 1) rfl rfl (load27 (RK1.out.rs.rb.set [.int .i64 0, .int .i64 0, .slice none 0 0, .slice none 0 0, .slice none 0 0, .slice none 0 0] rfl))) rfl ?_
          exact ⟨NetRes.no TV.out, RK1.out.rs.below.trans (grown_below (setCells_grown (w.heap.size + 1) [.int .i64 0, .int .i64 0, .slice none 0 0, .slice none 0 0, .slice none 0 0, .slice none 0 0] 0 _) RK1.out.rs.below.size (fun q hq => by injection hq with hq; omega))⟩
      · have dl : decide ((1024 : Int) < (((q.Ln + 1) : Nat) : Int)) = false := decide_eq_false (by omega)
        have dl2 : decide ((1024 : Int) < ((q.Ln : Int) + 1)) = false := decide_eq_false (by omega)
        have dln : decide (1024 < (q.Ln + 1)) = false := decide_eq_false hL
        have TV := Lib.hid (show sendV o.val frm dst d bs = ({ o.val with next := o.next + 1, L := L1.map Mg.val }, 0) from by rw [SL.out, if_neg (by rw [List.length_map, RK1.out.rs.row.1]; exact hL)]; rfl)
        as_aux_lemma =>
          go_wp2_with fail
          refine bodyPost_ret (v := .tuple #[(⟨q.now, q.next + 1, P1, (q.Ln + 1), u1, L1, q.SA, q.Sn, q.Sc, q.S, q.CA, q.Cn, q.Cc, q.C, q.KA, q.Kn, q.Kc, q.K⟩ : Nt).v, .int .i64 0]) (results_cell_tmp Try.results20 (g := w.heap.size + 1) rfl rfl (load27 (RK1.out.rs.rb.set [.int .i64 q.now, .int .i64 (q.next + 1), .slice P1 (q.Ln + 1) u1, .slice q.SA q.Sn q.Sc, .slice q.CA q.Cn q.Cc, .slice q.KA q.Kn q.Kc] rfl))) rfl ?_
          have SG := setCells_grown (w.heap.size + 1) [.int .i64 q.now, .int .i64 (q.next + 1), .slice P1 (q.Ln + 1) u1, .slice q.SA q.Sn q.Sc, .slice q.CA q.Cn q.Cc, .slice q.KA q.Kn q.Kc] 0 V1
          obtain ⟨D1, D2⟩ := RK1.out.rs.done SG (fun hb a ha => by rcases ME1.out a ha with rfl | h1; exact RK1.out.bytes SG; exact mgK.below (HO.out.l.each a h1) hb)
          exact ⟨NetRes.mk _ (by rw [TV.out]; unfold Nt.val; simp only [QL.out.now, QL.out.next, QL.out.S, QL.out.C, QL.out.K]) D1, D2⟩

end Go.Proofs.Ytmlgahambecamaa
