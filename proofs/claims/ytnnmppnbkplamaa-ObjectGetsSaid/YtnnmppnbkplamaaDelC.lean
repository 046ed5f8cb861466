/- What Del does to a call's store. -/
import Derived.Test.YtnnmppnbkplamaaDone
import Derived.Test.YtnnmppnbkplamaaDel
namespace Go.Proofs.Ytnnmppnbkplamaa
open Go.RowKit Go.Shelf

/-- The objects of a call's store at g are now these (they were at v); nothing below g was turned, nor any block but g and v's. -/
def Now (g : Nat) (l5 : List Ob) (v : Value) (A5 : Option Addr) (n5 c5 : Nat) (W W' : World) : Prop :=
  W'.ownsRow (g + 1) 59 2 (.slice A5 n5 c5) n5 (l5.flatMap Ob.cells) ∧ l5.length = n5 ∧ Below g W W' ∧ ∀ b, b < W.heap.size → b ≠ g → v.ownBlock ≠ some b → W'.heap[b]? = W.heap[b]?
theorem Has.beside {w w' : World} {b : Nat} {cs : Array Value} {r : Option Nat} (h : Has w b cs) (hg : w.grownBy w' r) (hne : some b ≠ r) : Has w' b cs :=
  ⟨fun i => (hg.cell_far ⟨b, i, none⟩ h.lt hne).trans (h.cell i), fun i => (hg.frozen_far ⟨b, i, none⟩ h.lt hne).trans (h.free i), Nat.lt_of_lt_of_le h.lt hg.size⟩
/-- A list without the object of a name. -/
def without (s : ByteArray) (l : List Ob) : List Ob := l.filter fun x => !decide (x.name = s)
theorem without_at {l : List Ob} {s : ByteArray} {i : Nat} {b : Bool} (hr : Rises l) (h : AtR l s i b) : without s l = if b = true then l.take i ++ l.drop (i + 1) else l := by
  obtain ⟨h1, h2, h3, h4⟩ := h
  replace h2 : ∀ j (h : j < l.length), j < i → cmpS l[j].name s < 0 := h2
  replace h3 : ∀ j (h : j < l.length), i ≤ j → 0 ≤ cmpS l[j].name s := h3
  replace h4 : b = true ↔ ∃ h : i < l.length, cmpS l[i].name s = 0 := h4
  have key : ∀ j (hj : j < l.length), l[j].name = s → b = true ∧ j = i := by
    intro j hj e
    have c0 : cmpS l[j].name s = 0 := cmpS_eq.2 e
    have hij : i ≤ j := by
      apply Nat.le_of_not_lt
      intro hlt
      have := h2 j hj hlt
      omega
    have hji : j = i := by
      rcases Nat.lt_or_ge i j with hlt | hge
      · exfalso
        have h5 := hr i j hj hlt
        rw [e] at h5
        have h6 := h3 i (Nat.lt_trans hlt hj) (Nat.le_refl _)
        omega
      · omega
    subst hji
    exact ⟨h4.2 ⟨hj, c0⟩, rfl⟩
  unfold without
  cases hb : b with
  | false =>
    rw [if_neg (by decide), List.filter_eq_self]
    intro x hx
    obtain ⟨j, hj, rfl⟩ := List.getElem_of_mem hx
    have : ¬ l[j].name = s := fun e => by have := (key j hj e).1; rw [hb] at this; cases this
    rw [decide_eq_false this]; rfl
  | true =>
    obtain ⟨hi, h0⟩ := h4.1 hb
    rw [if_pos rfl]
    have e : l = l.take i ++ (l[i] :: l.drop (i + 1)) := by rw [List.getElem_cons_drop, List.take_append_drop]
    have f1 : (l.take i).filter (fun x => !decide (x.name = s)) = l.take i := by
      rw [List.filter_eq_self]
      intro x hx
      obtain ⟨j, hj, rfl⟩ := List.getElem_of_mem hx
      rw [List.length_take] at hj
      rw [List.getElem_take]
      have : ¬ l[j].name = s := fun e => by have := (key j (by omega) e).2; omega
      rw [decide_eq_false this]; rfl
    have f2 : (l.drop (i + 1)).filter (fun x => !decide (x.name = s)) = l.drop (i + 1) := by
      rw [List.filter_eq_self]
      intro x hx
      obtain ⟨j, hj, rfl⟩ := List.getElem_of_mem hx
      rw [List.length_drop] at hj
      rw [List.getElem_drop]
      have : ¬ l[i + 1 + j].name = s := fun e => by have := (key (i + 1 + j) (by omega) e).2; omega
      rw [decide_eq_false this]; rfl
    conv => lhs; rw [e]
    rw [List.filter_append, List.filter_cons, f1, f2, decide_eq_true (cmpS_eq.1 h0)]
    rfl

set_option maxRecDepth 100000 in
set_option maxHeartbeats 4000000 in
theorem del1_any (wd : World) (g pb nb : Nat) (A : Option Addr) (n c : Nat) (l : List Ob) (calls : Int) (A' : Option Addr) (n' c' : Nat) (ft : Int) (s : ByteArray)
    (hg : Has wd g #[.slice A n c, .int .i64 calls, .slice A' n' c', .int .i64 ft]) (hp : Has wd pb #[.pointer (some ⟨g, 0, none⟩)]) (hn : Has wd nb #[.string s]) (ho : Own obK 59 wd (g + 1) A n c l) (hr : Rises l) (hn6 : n ≤ 60000) (_hpg : pb ≠ g)
    (hpq : ∀ q, (Value.slice A n c).ownBlock = some q → q ≠ pb) (W : World) (hW : Below wd.heap.size wd W) :
    Calls Try.prog 42 #[.pointer (some ⟨pb, 0, none⟩), .pointer (some ⟨nb, 0, none⟩)] W (Does wd g calls A' n' c' ft (Now g (without s l) (.slice A n c)) W) := by
  have hgl := hg.lt
  have QL := Lib.hid (fun q (hq : (Value.slice A n c).ownBlock = some q) => (ho.2.1.lt q hq).2)
  have G0 := Lib.hid (hg.past hW)
  have P0 := Lib.hid (hp.past hW)
  have N0 := Lib.hid (hn.past hW)
  have O0 := Lib.hid (ho.kept hW)
  have AT := Lib.hid (at_any A n c l calls A' n' c' ft g s W G0.out O0.out.sl hn6 hr)
  have HR := Lib.hid hr
  have z0 := hW.size
  have p0c := P0.out.cell
  have p0l := P0.out.lt
  have n0c := N0.out.cell
  have n0l := N0.out.lt
  have hlen := ho.1
  clear hg hp hn ho hW hr
  have HLEN := Lib.hid hlen
  clear hlen
  go_enter Try.func42, Try.ntmps42
  go_wp2_with (go_at_call 31; refine AT.out.mono ?_; rintro e w1 ⟨i, b, rfl, hs, hb1⟩; have HS := Lib.hid hs; have B1 := Lib.hid hb1; have G1 := Lib.hid (G0.out.past hb1); have P1 := Lib.hid (P0.out.past hb1); have O1 := Lib.hid (O0.out.kept hb1); have z1 := hb1.size; clear hs hb1 p0c p0l n0c n0l)
  · have hbt : b = true := by assumption
    subst hbt
    have WA := Lib.hid (show without s l = l.take i ++ l.drop (i + 1) from (without_at HR.out HS.out).trans (if_pos rfl))
    have hil := (HS.out.2.2.2.1 rfl).1
    have hin : i < n := by rw [← HLEN.out]; exact hil
    have wi : IntKind.i64.wrap ((i : Int) + 1) = (i : Int) + 1 := IntWalk.i64_in _ (by omega)
    have OWW : Hid (∀ W', Below w1.heap.size w1 W' → W'.ownsRow (g + 1) 59 2 (.slice A n c) n (l.flatMap obK.cells)) := fun W' h => (O1.out.kept h).2.1
    have GWW : Hid (∀ W', Below w1.heap.size w1 W' → Has W' g #[.slice A n c, .int .i64 calls, .slice A' n' c', .int .i64 ft]) := fun W' h => G1.out.past h
    have PWW : Hid (∀ W', Below w1.heap.size w1 W' → Has W' pb #[.pointer (some ⟨g, 0, none⟩)]) := fun W' h => P1.out.past h
    have g1c := G1.out.cell
    have g1l := G1.out.lt
    have p1l := P1.out.lt
    have PNE : Hid (some pb ≠ (Value.slice A n c).ownBlock) := Lib.hid (fun e => hpq _ e.symm rfl)
    have GNE : Hid (some g ≠ (Value.slice A n c).ownBlock) := Lib.hid (fun e => by have := (O1.out.2.1.lt g e.symm).1; omega)
    clear hil
    have p1c := P1.out.cell
    go_region_with (go_at_call 43; refine (deleteOb (g + 1) A n c i (i + 1) (l.flatMap obK.cells) _ (OWW.out _ (by (repeat (first | with_reducible assumption | with_reducible exact Below.refl _ _ | refine Below.drew ?_ | (refine Below.alloc ?_ (by first | omega | (simp <;> omega)) _))))) (RK.flat_one obK l) (by omega) (by omega)).mono ?_; intro e w2 hx; obtain ⟨rfl, ho2, hg2⟩ := hx; rw [show n - (i + 1 - i) = n - 1 by omega] at ho2; have G2 := Lib.hid (Has.beside (GWW.out _ (by (repeat (first | with_reducible assumption | with_reducible exact Below.refl _ _ | refine Below.drew ?_ | (refine Below.alloc ?_ (by first | omega | (simp <;> omega)) _))))) hg2 GNE.out); have P2 := Lib.hid (Has.beside (PWW.out _ (by (repeat (first | with_reducible assumption | with_reducible exact Below.refl _ _ | refine Below.drew ?_ | (refine Below.alloc ?_ (by first | omega | (simp <;> omega)) _))))) hg2 PNE.out); have O2 := Lib.hid ho2; have GR2 := Lib.hid hg2; have g2c := G2.out.cell; have g2f := G2.out.free; have g2l := G2.out.lt; clear ho2 hg2; have p2c := P2.out.cell)
    all_goals
      go_end0
      have GS := setCells_grown g [.slice A (n - 1) c] 0 w2
      have xl : ((l.take i ++ l.drop (i + 1)).flatMap Ob.cells) = (l.flatMap obK.cells).take (i * 2) ++ (l.flatMap obK.cells).drop ((i + 1) * 2) := by
        rw [List.flatMap_append, show (2 : Nat) = obK.size from rfl, flat_take obK.cells obK.size obK.len, flat_drop obK.cells obK.size obK.len]
        rfl
      refine ⟨⟨_, rfl⟩, A, n - 1, c, G2.out.setAt 0 (.slice A (n - 1) c) (by show 0 < 4; omega), ⟨?_, ?_, ?_, fun b hb hbg hv => ?_⟩, fun b cs hb hh => ?_⟩
      · rw [WA.out, xl]
        refine O2.out.kept GS ?_
        cases hv : (Value.slice A (n - 1) c).ownBlock with
        | none => exact .inl rfl
        | some q => exact .inr (fun e => by injection e with e; have := (O2.out.lt q hv).1; omega)
      · rw [WA.out, List.length_append, List.length_take, List.length_drop, HLEN.out]
        omega
      · have b1 : Below g W w1 := B1.out.mono (by omega)
        have b2 : Below g w1.drew w2 := grown_below GR2.out (by show g ≤ w1.heap.size; omega) (fun q hq => by have := (O1.out.2.1.lt q hq).1; omega)
        exact ((b1.trans ((Below.refl g w1).drew)).trans b2).trans (grown_below GS (by have := b2.size; have : w1.drew.heap.size = w1.heap.size := rfl; omega) (fun q hq => by injection hq with hq; omega))
      · have hw1 : b < w1.drew.heap.size := Nat.lt_of_lt_of_le hb B1.out.size
        refine (GS.block b (Nat.lt_of_lt_of_le hw1 GR2.out.size) (fun e => hbg (by injection e))).trans ((GR2.out.block b hw1 (fun e => hv e.symm)).trans ?_)
        exact B1.out.block b hb
      · have h1 : Has w1.drew b cs := (hh.past B1.out).drew
        exact (h1.beside GR2.out (fun e => by have := QL.out b e.symm; omega)).beside GS (by intro e; injection e with e; omega)
  · have hbf : b = false := by
      cases b
      · rfl
      · exfalso; simp_all
    subst hbf
    have WA := Lib.hid (show without s l = l from (without_at HR.out HS.out).trans (if_neg (by decide)))
    go_end0
    refine ⟨⟨_, rfl⟩, A, n, c, G1.out, ⟨?_, ?_, B1.out.mono (by omega), fun b hb _ _ => B1.out.block b hb⟩, fun b cs hb hh => hh.past B1.out⟩
    · rw [WA.out]
      exact O1.out.2.1
    · rw [WA.out]
      exact HLEN.out

end Go.Proofs.Ytnnmppnbkplamaa
