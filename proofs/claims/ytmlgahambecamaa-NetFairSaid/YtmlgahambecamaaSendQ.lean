/- What lies where when a message is made up; of no function. -/
import Derived.Test.YtmlgahambecamaaSendP
import Derived.Test.YtmlgahambecamaaAppR
import Derived.Test.YtmlgahambecamaaRset
namespace Go.Proofs.Ytmlgahambecamaa
open Go.RowKit

theorem Nt.Own.away {w w' : World} {B g : Nat} {q : Nt} (h : Nt.Own w B q) (hg : w.grownBy w' (some g)) (a1 : ∀ b, (Value.slice q.LA q.Ln q.Lc).ownBlock = some b → b ≠ g) (a2 : ∀ b, (Value.slice q.SA q.Sn q.Sc).ownBlock = some b → b ≠ g)
    (a3 : ∀ b, (Value.slice q.CA q.Cn q.Cc).ownBlock = some b → b ≠ g) (a4 : ∀ b, (Value.slice q.KA q.Kn q.Kc).ownBlock = some b → b ≠ g) (hin : ∀ a ∈ q.L, Mg.In w' a) : Nt.Own w' B q :=
  ⟨(h.l.rown.apart hg (fun b hb e => by injection e with e; exact a1 b hb e.symm)).own hin, (h.s.rown.apart hg (fun b hb e => by injection e with e; exact a2 b hb e.symm)).own (fun a ha => h.s.2.2 a ha),
    (h.c.rown.apart hg (fun b hb e => by injection e with e; exact a3 b hb e.symm)).own (fun a ha => h.c.2.2 a ha), (h.k.rown.apart hg (fun b hb e => by injection e with e; exact a4 b hb e.symm)).own (fun a ha => h.k.2.2 a ha)⟩
/-- Where a net's rows lie. -/
def Nt.Btw (q : Nt) (lo hi : Nat) : Prop := (∀ b, (Value.slice q.LA q.Ln q.Lc).ownBlock = some b → lo ≤ b ∧ b < hi) ∧ (∀ b, (Value.slice q.SA q.Sn q.Sc).ownBlock = some b → lo ≤ b ∧ b < hi) ∧
  (∀ b, (Value.slice q.CA q.Cn q.Cc).ownBlock = some b → lo ≤ b ∧ b < hi) ∧ (∀ b, (Value.slice q.KA q.Kn q.Kc).ownBlock = some b → lo ≤ b ∧ b < hi)
theorem Nt.Own.btw {w : World} {B : Nat} {q : Nt} (h : Nt.Own w B q) : Nt.Btw q B w.heap.size := ⟨h.l.2.1.lt, h.s.2.1.lt, h.c.2.1.lt, h.k.2.1.lt⟩
theorem Nt.Own.far {w w' : World} {B g lo hi : Nat} {q : Nt} (h : Nt.Own w B q) (hg : w.grownBy w' (some g)) (hb : Nt.Btw q lo hi) (hne : g < lo ∨ hi ≤ g) (hin : ∀ a ∈ q.L, Mg.In w' a) : Nt.Own w' B q :=
  h.away hg (fun b h1 => by have := hb.1 b h1; omega) (fun b h1 => by have := hb.2.1 b h1; omega) (fun b h1 => by have := hb.2.2.1 b h1; omega) (fun b h1 => by have := hb.2.2.2 b h1; omega) hin

/-- A box, and of what type it is. -/
def HasT (w : World) (g : Nat) (t : TypeId) : Prop := ∃ cs : Array Value, w.heap[g]? = some (.cells cs t (0, 0))
theorem HasT.lt {w : World} {g : Nat} {t : TypeId} (h : HasT w g t) : g < w.heap.size := by
  obtain ⟨cs, h⟩ := h
  exact (Array.getElem?_eq_some_iff.1 h).1
theorem HasT.newAt (w : World) (cs : Array Value) (t : TypeId) {g : Nat} (hg : w.heap.size = g) : HasT (w.alloc (.cells cs t)) g t := ⟨cs, by subst hg; exact heap_alloc_new w _⟩
theorem HasT.past {w w' : World} {g : Nat} {t : TypeId} (h : HasT w g t) (hb : Below w.heap.size w w') : HasT w' g t := by
  have hl := h.lt
  obtain ⟨cs, h⟩ := h
  exact ⟨cs, by rw [hb.block g hl]; exact h⟩
theorem HasT.drew {w : World} {g : Nat} {t : TypeId} (h : HasT w g t) : HasT w.drew g t := h
theorem HasT.grown {w w' : World} {g : Nat} {t : TypeId} {r : Option Nat} (h : HasT w g t) (hg : w.grownBy w' r) (hne : r ≠ some g) : HasT w' g t := by
  have hl := h.lt
  obtain ⟨cs, h⟩ := h
  exact ⟨cs, by rw [hg.block g hl (fun e => hne e.symm)]; exact h⟩
theorem HasT.set {w : World} {g : Nat} {t : TypeId} (h : HasT w g t) {X : Array Value} (hx : Has w g X) (o : Nat) (vs : List Value) (ho : o + vs.length ≤ X.size) : HasT (w.setCells g o vs) g t := by
  obtain ⟨cs, h⟩ := h
  have hs : X.size ≤ cs.size := by
    apply Nat.le_of_not_lt
    intro hlt
    have h1 := hx.cell cs.size
    rw [row_cell h, Array.getElem?_eq_none (Nat.le_refl _), Array.getElem?_eq_getElem hlt] at h1
    cases h1
  exact ⟨_, setCells_heap vs o w cs h (by omega)⟩
theorem row_not {w : World} {B : Nat} {E : TypeId} {s n c : Nat} {A : Option Addr} {xs : List Value} (h : w.ownsRow B E s (.slice A n c) n xs) {g : Nat} {t : TypeId} (hg : HasT w g t) (hne : t ≠ E) : ∀ b, (Value.slice A n c).ownBlock = some b → b ≠ g := by
  intro b hb e
  subst e
  obtain ⟨cs, hg⟩ := hg
  rcases h.2 with ⟨e1, _⟩ | ⟨g', cap, cur, e1, _, h2, _⟩
  · injection e1 with e1 _ _
    subst e1
    cases hb
  · injection e1 with e1 _ _
    subst e1
    simp [Value.ownBlock] at hb
    subst hb
    rw [h2] at hg
    injection hg with hg
    injection hg with _ e3
    exact hne e3.symm

/-- A message is made up: the net's copy in a box, the message in another one. -/
structure SC (o : Nt) (w wx : World) (gx gm : Nat) (q : Nt) (X : Array Value) (A1 : Option Addr) (n c1 : Nat) (bs : List UInt8) (t no frm dst : Int) : Prop where
  below : Below w.heap.size w wx
  nb : Has wx w.heap.size o.c
  rb : Has wx (w.heap.size + 1) zeroN
  xb : Has wx gx X
  mb : Has wx gm #[.int .i64 t, .int .i64 no, .int .i64 frm, .int .i64 dst, .slice A1 n c1]
  lx : w.heap.size + 2 ≤ gx
  lm : w.heap.size + 2 ≤ gm
  ne : gx ≠ gm
  like : Nt.Like o q
  ap : Nt.Apart q
  tx : HasT wx gx 27
  tr : HasT wx (w.heap.size + 1) 27
  own : Nt.Own wx (w.heap.size + 2) q
  body : Go.Proofs.Ytmlgahambecamaa.Own u8K 5 wx (w.heap.size + 2) A1 n c1 bs
  rows : ∃ lo hi, Nt.Btw q lo hi ∧ (gx < lo ∨ hi ≤ gx) ∧ (gm < lo ∨ hi ≤ gm) ∧ ∀ b, (Value.slice A1 n c1).ownBlock = some b → b ≠ gx ∧ b ≠ gm ∧ (b < lo ∨ hi ≤ b)

section
variable {o : Nt} {w wx : World} {gx gm : Nat} {q : Nt} {X : Array Value} {A1 : Option Addr} {n c1 : Nat} {bs : List UInt8} {t no frm dst : Int}
theorem SC.past {wy : World} (h : SC o w wx gx gm q X A1 n c1 bs t no frm dst) (hb : Below wx.heap.size wx wy) : SC o w wy gx gm q X A1 n c1 bs t no frm dst :=
  ⟨below_from hb h.below h.below.size, h.nb.past hb, h.rb.past hb, h.xb.past hb, h.mb.past hb, h.lx, h.lm, h.ne, h.like, h.ap, h.tx.past hb, h.tr.past hb, h.own.kept hb, h.body.kept hb, h.rows⟩
theorem SC.inL (h : SC o w wx gx gm q X A1 n c1 bs t no frm dst) (hO : ∀ a ∈ o.L, Mg.In w a) {wy : World} (hb : Below w.heap.size w wy) : ∀ a ∈ q.L, Mg.In wy a := fun a ha => mgK.below (hO a (by rw [← h.like.L]; exact ha)) hb
theorem SC.sett (h : SC o w wx gx gm q X A1 n c1 bs t no frm dst) (hO : ∀ a ∈ o.L, Mg.In w a) (t' : Int) : SC o w (wx.setCell ⟨gm, 0, none⟩ (.int .i64 t')) gx gm q X A1 n c1 bs t' no frm dst := by
  have G := setCells_grown gm [.int .i64 t'] 0 wx
  have B := h.below.trans (grown_below G h.below.size (fun j hj => by injection hj with hj; have := h.lm; omega))
  obtain ⟨lo, hi, r1, r2, r3, r4⟩ := h.rows
  exact ⟨B, h.nb.grown G (by have := h.lm; omega), h.rb.grown G (by have := h.lm; omega), h.xb.grown G (by have := h.ne; omega), h.mb.setAt 0 (.int .i64 t') (by simp), h.lx, h.lm, h.ne, h.like, h.ap, h.tx.grown G (fun e => by injection e with e; exact h.ne e.symm), h.tr.grown G (fun e => by injection e with e; have := h.lm; omega), h.own.far G r1 r3 (h.inL hO B),
    (h.body.rown.apart G (fun b hb e => by injection e with e; have := r4 b hb; omega)).own (fun _ _ => trivial), h.rows⟩
theorem SC.setx (h : SC o w wx gx gm q X A1 n c1 bs t no frm dst) (hO : ∀ a ∈ o.L, Mg.In w a) (i : Nat) (v : Value) (hi : i < X.size) : SC o w (wx.setCell ⟨gx, i, none⟩ v) gx gm q (X.setIfInBounds i v) A1 n c1 bs t no frm dst := by
  have G := setCells_grown gx [v] i wx
  have B := h.below.trans (grown_below G h.below.size (fun j hj => by injection hj with hj; have := h.lx; omega))
  obtain ⟨lo, hi', r1, r2, r3, r4⟩ := h.rows
  exact ⟨B, h.nb.grown G (by have := h.lx; omega), h.rb.grown G (by have := h.lx; omega), h.xb.setAt i v hi, h.mb.grown G (by have := h.ne; omega), h.lx, h.lm, h.ne, h.like, h.ap, h.tx.set h.xb i [v] (by simp; omega), h.tr.grown G (fun e => by injection e with e; have := h.lx; omega), h.own.far G r1 r2 (h.inL hO B),
    (h.body.rown.apart G (fun b hb e => by injection e with e; have := r4 b hb; omega)).own (fun _ _ => trivial), h.rows⟩
end

/-- Messages that stand in order, all of them. -/
theorem chk_order {n : Nv} (h : checkB n = true) : ∀ j k (hk : k < n.L.length) (hj : j < k), aheadB (n.L[j]'(Nat.lt_trans hj hk)) n.L[k] = true := by
  have H := allTo_lt (chk_parts h).2.2.2.2
  intro j k
  induction k with
  | zero => intro _ hj; omega
  | succ k ih =>
    intro hk hj
    have st := msg_step hk (H (k + 1) hk)
    rcases Nat.lt_or_ge j k with h1 | h1
    · exact ahead_trans (ih (by omega) h1) st
    · obtain rfl : j = k := by omega
      exact st
theorem chk_next {n : Nv} (h : checkB n = true) : 0 ≤ n.next ∧ n.next ≤ 1099511627776 := by
  have := (chk_parts h).1
  unfold topB inR maxO at this
  simp only [Bool.and_eq_true, decide_eq_true_eq] at this
  omega
theorem chk_len {n : Nv} (h : checkB n = true) : n.L.length ≤ 1024 := by
  have := (chk_parts h).1
  unfold topB at this
  simp only [Bool.and_eq_true, decide_eq_true_eq] at this
  omega

end Go.Proofs.Ytmlgahambecamaa
