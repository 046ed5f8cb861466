/- CacheFaith of layer 16: steps, and what was put last, in plain Lean. -/
import Derived.Test.YthjohjijcgiogaaPlain2
import Derived.Test.YthjohjijcgiogaaFrame
import Derived.Test.YthjohjijcgiogaaLive
namespace Go.Proofs.Ythjohjijcgiogaa
open Go.ChangeShapes Go.WideShapes Go.ChangeAt Go.RowKit

/-- A step: what is done, its number, its name, and its bytes: where they lie, how many, how much room, and what they are. -/
structure St where
  kind : Int
  no : Int
  name : ByteArray
  A : Option Addr
  n : Nat
  c : Nat
  bs : List UInt8
def St.cells (s : St) : List Value := [.int .i64 s.kind, .int .i64 s.no, .string s.name, .slice s.A s.n s.c]
structure St.In (w : World) (s : St) : Prop where
  sl : Sl u8K w s.A s.n s.c s.bs
  max : s.n ≤ 140737488355328
  nm : s.name.size ≤ maxLen
  kwf : (Lit.int .i64 s.kind).wf = true
  wf : (Lit.int .i64 s.no).wf = true
theorem St.In.below {w w' : World} {s : St} (h : St.In w s) (hb : Below w.heap.size w w') : St.In w' s := ⟨h.sl.below hb, h.max, h.nm, h.kwf, h.wf⟩
def stK : RK St := ⟨4, by decide, St.cells, fun _ => rfl, fun _ v h => by simp [St.cells] at h; rcases h with rfl | rfl | rfl | rfl <;> rfl, St.In, fun h hb => h.below hb⟩
/-- The four cells of the k-th step. -/
theorem Sts.at_ {w : World} {A : Option Addr} {n c k : Nat} {l : List St} (i : Sl stK w A n c l) (hk : k < n) :
    ∃ b off, ∃ hl : k < l.length, A = some ⟨b, off, none⟩ ∧ b < w.heap.size ∧ w.cell? ⟨b, off + k * 4, none⟩ = some (.int .i64 l[k].kind) ∧ w.cell? ⟨b, off + k * 4 + 1, none⟩ = some (.int .i64 l[k].no) ∧
      w.cell? ⟨b, off + k * 4 + 2, none⟩ = some (.string l[k].name) ∧ w.cell? ⟨b, off + k * 4 + 3, none⟩ = some (.slice l[k].A l[k].n l[k].c) := by
  obtain ⟨b, off, hl, rfl, hlt, hc⟩ := i.get hk
  exact ⟨b, off, hl, rfl, hlt, hc 0 (by decide), hc 1 (by decide), hc 2 (by decide), hc 3 (by decide)⟩

section
variable {H : Type} {enc : TypeId × Value → H}
theorem opens_st : Opens enc Try.prog stK 45 := by
  intro w base spare held fuel cs d ps h hw
  obtain ⟨hlen, n, hf⟩ := open_field Try.underlying45 h hw
  have hl : cs.length = 4 := hlen.trans (by kernel_rfl)
  match cs, hl with
  | [a, b, c, e], _ =>
    have c9 : Try.prog.cellsOf 9 = 1 := by kernel_rfl
    have c3 : Try.prog.cellsOf 3 = 1 := by kernel_rfl
    have c34 : Try.prog.cellsOf 34 = 1 := by kernel_rfl
    have c5 : Try.prog.cellsOf 5 = 1 := by kernel_rfl
    have b5 : Try.prog.bytesOf 5 = 1 := by kernel_rfl
    obtain ⟨d0, p0, g0, w0⟩ := hf 0 _ rfl
    obtain ⟨d1, p1, g1, w1⟩ := hf 1 _ rfl
    obtain ⟨d2, p2, g2, w2⟩ := hf 2 _ rfl
    obtain ⟨d3, p3, g3, w3⟩ := hf 3 _ rfl
    replace g0 : DataW.trod enc Try.prog w base spare held n 3 (List.take (Try.prog.cellsOf 3) [a, b, c, e]) = some (d0, p0) := g0
    replace g1 : DataW.trod enc Try.prog w base spare held n 3 (List.take (Try.prog.cellsOf 3) [b, c, e]) = some (d1, p1) := g1
    replace g2 : DataW.trod enc Try.prog w base spare held n 9 (List.take (Try.prog.cellsOf 9) [c, e]) = some (d2, p2) := g2
    replace g3 : DataW.trod enc Try.prog w base spare held n 34 (List.take (Try.prog.cellsOf 34) [e]) = some (d3, p3) := g3
    rw [c3] at g0 g1
    rw [c9] at g2
    rw [c34] at g3
    obtain ⟨kind, k0, _, hk⟩ := DataW.trod_int Try.underlying3 g0
    obtain ⟨no, k1, _, hno⟩ := DataW.trod_int Try.underlying3 g1
    obtain ⟨name, k2, _, hs⟩ := DataW.trod_string Try.underlying9 g2
    obtain ⟨A, m, c', bs, rfl, hsl, hm⟩ := opens_slice (opens_u8 Try.underlying5) Try.underlying34 c5 g3 w3
    rw [b5] at hm
    simp at k0 k1 k2
    exact ⟨⟨kind, no, name, A, m, c', bs⟩, by rw [k0, k1, k2]; rfl, hsl, by show m ≤ _; simp only [reachBytes] at hm; omega, hs, hk, hno⟩
variable {w : World} {base : Nat} {spare : Nat → Bool} {held : Bool} {r : Reach} {b0 : Nat} {v : Value} {d : DataW H} {p : List MemPlace}
/-- Steps that came in. -/
theorem open_steps (hv : Value.okWide Try.prog w r b0 43 v) (h : DataW.Trod enc Try.prog w base spare held 43 v d p) (hw : ∀ n ∈ d.weights Try.prog 43, n ≤ reachBytes) : ∃ A n c ss, v = .slice A n c ∧ Sl stK w A n c ss := by
  obtain ⟨A, n, c, rfl⟩ := okWide_slice Try.underlying43 hv
  obtain ⟨fuel, hf⟩ := h
  have c45 : Try.prog.cellsOf 45 = 4 := by kernel_rfl
  obtain ⟨A', n', c', l, e, hsl, hm⟩ := opens_slice opens_st Try.underlying43 c45 hf hw
  injection e with e1 e2 e3
  subst e1 e2 e3
  exact ⟨A, n, c, l, rfl, hsl⟩
end

/-- What was put last of a name and number, from the end on; none where it was dropped since. -/
def lastOf (name : ByteArray) (no : Int) : List St → Option St
  | [] => none
  | p :: r => if p.name = name ∧ p.no = no then some p else if p.kind = 2 ∧ p.name = name then none else lastOf name no r
def Last (put : List St) (x : Ch) : Prop := ∃ p, lastOf x.name x.no put.reverse = some p ∧ p.kind = 0 ∧ p.bs = x.bs
def Faith (put : List St) (L : List Ch) : Prop := ∀ x ∈ L, Last put x

theorem Faith.sub {put : List St} {L L' : List Ch} (h : Faith put L) (hs : ∀ x ∈ L', x ∈ L) : Faith put L' := fun x hx => h x (hs x hx)
theorem put_mem {cap : Int} {L : List Ch} {name : ByteArray} {no : Int} {b : List UInt8} (h : putE cap L name no = 0) {x : Ch} (hx : x ∈ putL cap L name no b) : x = ⟨name, no, b⟩ ∨ x ∈ L ∧ ¬ (x.name = name ∧ x.no = no) := by
  unfold putL at hx
  rw [if_pos h] at hx
  have hd : ∀ y ∈ dropC name no L, y ∈ L ∧ ¬ (y.name = name ∧ y.no = no) := fun y hy => ⟨(drop_sub name no L).subset hy, by simpa [isK] using drop_not name no L y hy⟩
  split at hx
  · exact .inr (hd x hx)
  · rcases List.mem_cons.1 ((fit_sub _ _).subset hx) with h | h
    · exact .inl h
    · exact .inr (hd x h)
theorem faith_put {cap : Int} {L : List Ch} {put : List St} {s : St} (hf : Faith put L) (hk : s.kind = 0) (h : putE cap L s.name s.no = 0) : Faith (put ++ [s]) (putL cap L s.name s.no s.bs) := by
  intro x hx
  unfold Last
  rw [List.reverse_append]
  simp only [List.reverse_cons, List.reverse_nil, List.nil_append, List.singleton_append]
  rcases put_mem h hx with rfl | ⟨hm, hne⟩
  · exact ⟨s, by rw [lastOf, if_pos ⟨rfl, rfl⟩], hk, rfl⟩
  · obtain ⟨p, h1, h2⟩ := hf x hm
    exact ⟨p, by rw [lastOf, if_neg (fun e => hne ⟨e.1.symm, e.2.symm⟩), if_neg (by rw [hk]; omega)]; exact h1, h2⟩
theorem faith_drop {cap : Int} {L : List Ch} {put : List St} {name : ByteArray} (hf : Faith put L) {p : St} (hn : p.name = name) : Faith (put ++ [p]) (dropL cap L name) := by
  intro x hx
  unfold dropL at hx
  split at hx
  · have hx' := List.mem_filter.1 hx
    have hne : x.name ≠ name := by simpa using hx'.2
    unfold Last
    rw [List.reverse_append]
    simp only [List.reverse_cons, List.reverse_nil, List.nil_append, List.singleton_append]
    obtain ⟨q, h1, h2⟩ := hf x hx'.1
    exact ⟨q, by rw [lastOf, if_neg (fun e => hne (e.1.symm.trans hn)), if_neg (fun e => hne (e.2.symm.trans hn))]; exact h1, h2⟩
  · cases hx
theorem get_mem {cap : Int} {L : List Ch} {name : ByteArray} {no : Int} {x : Ch} (hx : x ∈ getL cap L name no) : x ∈ L := by
  unfold getL at hx
  split at hx
  · rcases List.mem_append.1 hx with h | h
    · have := Option.mem_toList.1 h
      exact List.mem_of_find?_eq_some this
    · exact (drop_sub name no L).subset h
  · cases hx
theorem faith_get {cap : Int} {L : List Ch} {put : List St} {name : ByteArray} {no : Int} (hf : Faith put L) (h : getOk cap L name no = true) : ∃ p, lastOf name no put.reverse = some p ∧ p.kind = 0 ∧ p.bs = getB cap L name no := by
  unfold getOk at h
  rw [Bool.and_eq_true, decide_eq_true_eq] at h
  obtain ⟨x, hx⟩ := Option.isSome_iff_exists.1 h.2
  have hk : x.name = name ∧ x.no = no := by simpa [isK] using List.find?_some hx
  obtain ⟨p, h1, h2, h3⟩ := hf x (List.mem_of_find?_eq_some hx)
  rw [hk.1, hk.2] at h1
  exact ⟨p, h1, h2, by rw [h3]; unfold getB; rw [if_pos h.1, hx]; rfl⟩
theorem put_len {cap : Int} {L : List Ch} {name : ByteArray} {no : Int} {b : List UInt8} : (putL cap L name no b).length ≤ L.length + 1 := by
  unfold putL
  have := (drop_sub name no L).length_le
  split
  · split
    · omega
    · have h := (fit_sub (⟨name, no, b⟩ :: dropC name no L) cap).length_le
      rw [List.length_cons] at h
      omega
  · simp
theorem drop_check {cap : Int} {L : List Ch} {name : ByteArray} (h : checkC cap L = 0) : checkC cap (dropL cap L name) = 0 ∧ (dropL cap L name).length ≤ L.length := by
  unfold dropL
  rw [if_pos h]
  exact ⟨check_sub h List.filter_sublist, List.length_filter_le ..⟩

/-- No chunk lies in block g; bytes that are none aside. -/
def Apart (g : Nat) (A : Option Addr) (l : List Hd) : Prop := (l ≠ [] → ∀ b off, A = some ⟨b, off, none⟩ → b ≠ g) ∧ ∀ x ∈ l, x.n ≠ 0 → ∀ b off, x.A = some ⟨b, off, none⟩ → b ≠ g
theorem New.apart {w : World} {l0 l' : List Hd} {A A' : Option Addr} {g : Nat} (h : New w l0 A' l') (ha : Apart g A l0) (hg : g < w.heap.size) : Apart g A' l' := by
  refine ⟨fun _ b off e => by have := h.1 b off e; omega, fun x hx hn b off e => ?_⟩
  rcases h.2 x hx with h | h
  · exact ha.2 x h hn b off e
  · have := h b off e; omega
theorem Sl.beside {α : Type} {K : RK α} {w w' : World} {g : Nat} {A : Option Addr} {n c : Nat} {l : List α} (h : Sl K w A n c l) (hg : w.grownBy w' (some g)) (hne : n ≠ 0 → ∀ b off, A = some ⟨b, off, none⟩ → b ≠ g) (hin : ∀ a ∈ l, K.In w' a) : Sl K w' A n c l :=
  ⟨h.len, h.cap, h.max, h.adr, fun hn => by
    obtain ⟨b, off, rfl, hlt, hc⟩ := h.row hn
    have h0 : n ≠ 0 := fun e => hn (by rw [List.length_eq_zero_iff.1 (h.len.trans e)]; rfl)
    exact ⟨b, off, rfl, Nat.lt_of_lt_of_le hlt hg.size, fun j hj => (hg.cell_far ⟨b, off + j, none⟩ hlt (fun e2 => hne h0 b off rfl (by injection e2))).trans (hc j hj)⟩, hin⟩
theorem Hds.beside {w w' : World} {g : Nat} {A : Option Addr} {n c : Nat} {l : List Hd} (h : Hds w A n c l) (hg : w.grownBy w' (some g)) (ha : Apart g A l) : Hds w' A n c l :=
  Sl.beside h hg (fun hn => ha.1 (fun e => hn (by rw [← h.len, e]; rfl))) (fun x hx => ⟨Sl.beside (h.each x hx).sl hg (fun hn => ha.2 x hx hn) (fun _ _ => trivial), (h.each x hx).max, (h.each x hx).nm, (h.each x hx).wf⟩)
/-- What lies there lies in no later block. -/
theorem Hds.apart {w : World} {g : Nat} {A : Option Addr} {n c : Nat} {l : List Hd} (h : Hds w A n c l) (hg : w.heap.size ≤ g) : Apart g A l := by
  have key : ∀ {α : Type} {K : RK α} {A : Option Addr} {n c : Nat} {l : List α}, Sl K w A n c l → n ≠ 0 → ∀ b off, A = some ⟨b, off, none⟩ → b ≠ g := by
    intro α K A n c l h hn b off e
    obtain ⟨b', off', hl, e', hlt, _⟩ := h.get (k := 0) (by omega)
    rw [e] at e'
    injection e' with e'
    injection e' with e1
    omega
  exact ⟨fun hl => key h (fun e => hl (List.length_eq_zero_iff.1 (h.len.trans e))), fun x hx hn => key (h.each x hx).sl hn⟩

/-- What holds between two steps: the box of the cache, the cache, what was put; and where they lie. -/
structure FI (most : Int) (w0 : World) (g B : Nat) (wr : World) (A : Option Addr) (n c : Nat) (l : List Hd) (Ap : Option Addr) (np cp : Nat) (put : List St) : Prop where
  C : Has wr g #[.int .i64 most, .slice A n c]
  HL : Hds wr A n c l
  CH : checkC most (l.map Hd.val) = 0
  PL : put.length = np
  PO : wr.ownsRow B 45 4 (.slice Ap np cp) np (put.flatMap St.cells)
  PI : ∀ s ∈ put, St.In w0 s
  GB : w0.heap.size ≤ g ∧ g < B ∧ B ≤ wr.heap.size
  AG : Apart g A l
  AP : ∀ q off, Ap = some ⟨q, off, none⟩ → Apart q A l
  HB : Below w0.heap.size w0 wr
section
variable {most : Int} {w0 : World} {g B : Nat} {wr wr' : World} {A A' : Option Addr} {n c n' c' : Nat} {l l' : List Hd} {Ap : Option Addr} {np cp : Nat} {put : List St}
theorem FI.own (h : FI most w0 g B wr A n c l Ap np cp put) : Own stK 45 wr B Ap np cp put := ⟨h.PL, h.PO, fun s hs => (h.PI s hs).below h.HB⟩
theorem FI.past (h : FI most w0 g B wr A n c l Ap np cp put) (hb : Below wr.heap.size wr wr') : FI most w0 g B wr' A n c l Ap np cp put :=
  ⟨h.C.past hb, h.HL.below hb, h.CH, h.PL, (h.own.kept hb).2.1, h.PI, ⟨h.GB.1, h.GB.2.1, Nat.le_trans h.GB.2.2 hb.size⟩, h.AG, h.AP, below_from hb h.HB h.HB.size⟩
/-- The cache is changed: w1 is the world of the call that handed the new one back. -/
theorem FI.set {w1 : World} (h : FI most w0 g B wr A n c l Ap np cp put) (h1 : FI most w0 g B w1 A n c l Ap np cp put) (hN : New w1 l A' l') (hL : Hds wr A' n' c' l') (hC : checkC most (l'.map Hd.val) = 0) :
    FI most w0 g B (wr.setCells g 0 [.int .i64 most, .slice A' n' c']) A' n' c' l' Ap np cp put := by
  have gs := setCells_grown g [.int .i64 most, .slice A' n' c'] 0 wr
  have ha := hN.apart h1.AG h1.C.lt
  refine ⟨h.C.set [.int .i64 most, .slice A' n' c'] rfl, hL.beside gs ha, hC, h.PL, h.PO.kept gs ?_, h.PI, ⟨h.GB.1, h.GB.2.1, Nat.le_trans h.GB.2.2 gs.size⟩, ha, fun q off e => hN.apart (h1.AP q off e) ?_, h.HB.grown gs h.HB.size (fun q hq => by injection hq with hq; have := h.GB.1; omega)⟩
  · cases hv : (Value.slice Ap np cp).ownBlock with
    | none => exact .inl rfl
    | some q => exact .inr (fun e => by injection e with e; have h1 := (h.PO.lt q hv).1; have h2 := h.GB.2.1; omega)
  · subst e
    exact (h1.PO.lt q rfl).2
/-- One more was put. -/
theorem FI.more {w5 : World} {v' : Value} {s : St} {m : Nat} (hm : wr.heap.size ≤ m) (h : FI most w0 g B wr A n c l Ap np cp put) (hs : St.In w0 s) (ho : w5.ownsRow B 45 4 v' (np + 1) (put.flatMap St.cells ++ s.cells)) (hg : wr.grownBy w5 (Value.slice Ap np cp).ownBlock)
    (hat : v'.ownBlock = (Value.slice Ap np cp).ownBlock ∨ v'.ownBlock = some m) : ∃ Ap' cp', v' = .slice Ap' (np + 1) cp' ∧ FI most w0 g B w5 A n c l Ap' (np + 1) cp' (put ++ [s]) := by
  obtain ⟨Ap', cp', rfl⟩ := owns_form ho
  have hB0 : ∀ q, (Value.slice Ap np cp).ownBlock = some q → B ≤ q := fun q hq => (h.PO.lt q hq).1
  have hC : Has w5 g #[.int .i64 most, .slice A n c] := by
    cases hv : (Value.slice Ap np cp).ownBlock with
    | none => rw [hv] at hg; exact h.C.past ⟨hg.os, hg.tape, hg.output, hg.size, fun k hk => hg.block k hk (by simp)⟩
    | some q => rw [hv] at hg; exact h.C.grown hg (by have := hB0 q hv; have := h.GB.2.1; omega)
  have hA : ∀ q, (Value.slice Ap np cp).ownBlock = some q → Apart q A l := fun q hq => by
    cases Ap with
    | none => cases hq
    | some a =>
      obtain ⟨b, off, spot⟩ := a
      injection hq with hq
      have hq' : b = q := hq
      subst hq'
      rcases h.PO.2 with ⟨e, _⟩ | ⟨g', cap', cur', e, _⟩
      · cases e
      · injection e with e _ _
        injection e with e
        injection e with e1 e2 e3
        subst e3
        exact h.AP b off rfl
  have hH : Hds w5 A n c l := by
    cases hv : (Value.slice Ap np cp).ownBlock with
    | none => rw [hv] at hg; exact h.HL.below ⟨hg.os, hg.tape, hg.output, hg.size, fun k hk => hg.block k hk (by simp)⟩
    | some q => rw [hv] at hg; exact h.HL.beside hg (hA q hv)
  refine ⟨Ap', cp', rfl, hC, hH, h.CH, by rw [List.length_append, h.PL]; rfl, by rw [List.flatMap_append]; simpa using ho, fun x hx => ?_, ⟨h.GB.1, h.GB.2.1, Nat.le_trans h.GB.2.2 hg.size⟩, h.AG, fun q off e => ?_, h.HB.grown hg h.HB.size (fun q hq => by have := hB0 q hq; have := h.GB; omega)⟩
  · rcases List.mem_append.1 hx with hx | hx
    · exact h.PI x hx
    · rw [List.mem_singleton.1 hx]; exact hs
  · subst e
    rcases hat with e | e
    · exact hA q e.symm
    · injection e with e
      have e' : q = m := e
      subst e'
      exact h.HL.apart hm
end

/-- Bytes lie in no box that holds a number and a slice. -/
theorem bytes_off {w : World} {g : Nat} {most : Int} {A : Option Addr} {n c : Nat} (hC : Has w g #[.int .i64 most, .slice A n c]) {A2 : Option Addr} {n2 c2 : Nat} {bs : List UInt8} (h : Sl u8K w A2 n2 c2 bs) : n2 ≠ 0 → ∀ b off, A2 = some ⟨b, off, none⟩ → b ≠ g := by
  intro hn b off e hbg
  obtain ⟨b', off', hl, e', _, hc⟩ := h.get (k := 0) (by omega)
  rw [e] at e'
  injection e' with e'
  injection e' with e1 e2
  subst e1 e2 hbg
  have h0 := hc 0 (by decide)
  rw [hC.cell] at h0
  rcases off with _ | _ | off
  · cases h0
  · cases h0
  · cases h0
theorem getB_none {cap : Int} {L : List Ch} {name : ByteArray} {no : Int} (h : getOk cap L name no = false) : getB cap L name no = [] := by
  unfold getB
  unfold getOk at h
  split
  · rename_i hc
    rw [hc] at h
    cases hf : findC name no L with
    | none => rfl
    | some x => rw [hf] at h; cases h
  · rfl
theorem last_key {name : ByteArray} {no : Int} {p : St} {r : List St} (h1 : p.name = name) (h2 : p.no = no) : lastOf name no (p :: r) = some p := by rw [lastOf, if_pos ⟨h1, h2⟩]
theorem last_gone {name : ByteArray} {no : Int} {p : St} {r : List St} (h1 : p.name = name) (h2 : ¬ p.no = no) (h3 : p.kind = 2) : lastOf name no (p :: r) = none := by rw [lastOf, if_neg (fun e => h2 e.2), if_pos ⟨h3, h1⟩]
theorem last_next {name : ByteArray} {no : Int} {p : St} {r : List St} (h1 : ¬ (p.name = name ∧ p.no = no)) (h2 : ¬ (p.kind = 2 ∧ p.name = name)) : lastOf name no (p :: r) = lastOf name no r := by rw [lastOf, if_neg h1, if_neg h2]

/-- What stands at a place from the end. -/
theorem rev_drop {put : List St} {np i j : Nat} (h : put.length = np) (he : np = i + 1 + j) (hj : j < put.length) : put.reverse.drop i = put[j] :: put.reverse.drop (i + 1) := by
  rw [List.drop_eq_getElem_cons (by rw [List.length_reverse]; omega), List.getElem_reverse]
  congr 2
  omega

end Go.Proofs.Ythjohjijcgiogaa
