/- A net: its messages, slips, cut ways, and how far the clocks are ahead: their cells, and what they are. -/
import Derived.Test.YtmlgahambecamaaKnd
namespace Go.Proofs.Ytmlgahambecamaa
open Go.RowKit

/-- A slip: the message that it strikes, its kind, and by how much. -/
structure Sp where
  no : Int
  kind : Int
  amt : Int
deriving DecidableEq
def Sp.cells (x : Sp) : List Value := [.int .i64 x.no, .int .i64 x.kind, .int .i64 x.amt]
def Sp.wf (x : Sp) : Prop := (Lit.int .i64 x.no).wf = true ∧ (Lit.int .i64 x.kind).wf = true ∧ (Lit.int .i64 x.amt).wf = true
def spK : RK Sp := ⟨3, by decide, Sp.cells, fun _ => rfl, fun _ v h => by simp [Sp.cells] at h; rcases h with rfl | rfl | rfl <;> rfl, fun _ h => h.wf, fun h _ => h⟩
theorem sp_at {w : World} {A : Option Addr} {n c k : Nat} {l : List Sp} (i : Sl spK w A n c l) (hk : k < n) :
    ∃ b off, ∃ hl : k < l.length, A = some ⟨b, off, none⟩ ∧ b < w.heap.size ∧ w.cell? ⟨b, off + k * 3, none⟩ = some (.int .i64 l[k].no) ∧ w.cell? ⟨b, off + k * 3 + 1, none⟩ = some (.int .i64 l[k].kind) ∧ w.cell? ⟨b, off + k * 3 + 2, none⟩ = some (.int .i64 l[k].amt) := by
  obtain ⟨b, off, hl, rfl, hlt, hc⟩ := i.get hk
  exact ⟨b, off, hl, rfl, hlt, hc 0 (by decide), hc 1 (by decide), hc 2 (by decide)⟩
/-- A cut way: its two ends. -/
structure Pr where
  a : Int
  b : Int
deriving DecidableEq
def Pr.cells (x : Pr) : List Value := [.int .i64 x.a, .int .i64 x.b]
def Pr.wf (x : Pr) : Prop := (Lit.int .i64 x.a).wf = true ∧ (Lit.int .i64 x.b).wf = true
def prK : RK Pr := ⟨2, by decide, Pr.cells, fun _ => rfl, fun _ v h => by simp [Pr.cells] at h; rcases h with rfl | rfl <;> rfl, fun _ h => h.wf, fun h _ => h⟩
theorem pr_at {w : World} {A : Option Addr} {n c k : Nat} {l : List Pr} (i : Sl prK w A n c l) (hk : k < n) :
    ∃ b off, ∃ hl : k < l.length, A = some ⟨b, off, none⟩ ∧ b < w.heap.size ∧ w.cell? ⟨b, off + k * 2, none⟩ = some (.int .i64 l[k].a) ∧ w.cell? ⟨b, off + k * 2 + 1, none⟩ = some (.int .i64 l[k].b) := by
  obtain ⟨b, off, hl, rfl, hlt, hc⟩ := i.get hk
  exact ⟨b, off, hl, rfl, hlt, hc 0 (by decide), hc 1 (by decide)⟩
theorem int_at {w : World} {A : Option Addr} {n c k : Nat} {l : List Int} (i : Sl intK w A n c l) (hk : k < n) :
    ∃ b off, ∃ hl : k < l.length, A = some ⟨b, off, none⟩ ∧ b < w.heap.size ∧ w.cell? ⟨b, off + k, none⟩ = some (.int .i64 l[k]) := by
  obtain ⟨b, off, hl, rfl, hlt, hc⟩ := i.get hk
  exact ⟨b, off, hl, rfl, hlt, by have := hc 0 (by decide); simpa [intK] using this⟩
/-- A message: when it comes, its number, from where, to where, and its bytes: where they lie, and what they are. -/
structure Mg where
  t : Int
  no : Int
  frm : Int
  dst : Int
  A : Option Addr
  n : Nat
  c : Nat
  bs : List UInt8
def Mg.cells (x : Mg) : List Value := [.int .i64 x.t, .int .i64 x.no, .int .i64 x.frm, .int .i64 x.dst, .slice x.A x.n x.c]
abbrev Mg.v (x : Mg) : Value := .agg #[.int .i64 x.t, .int .i64 x.no, .int .i64 x.frm, .int .i64 x.dst, .slice x.A x.n x.c]
def Mg.In (w : World) (x : Mg) : Prop := Sl u8K w x.A x.n x.c x.bs
def mgK : RK Mg := ⟨5, by decide, Mg.cells, fun _ => rfl, fun _ v h => by simp [Mg.cells] at h; rcases h with rfl | rfl | rfl | rfl | rfl <;> rfl, Mg.In, fun {_ _ _} h hb => Sl.below h hb⟩
theorem mg_at {w : World} {A : Option Addr} {n c k : Nat} {l : List Mg} (i : Sl mgK w A n c l) (hk : k < n) :
    ∃ b off, ∃ hl : k < l.length, A = some ⟨b, off, none⟩ ∧ b < w.heap.size ∧ w.cell? ⟨b, off + k * 5, none⟩ = some (.int .i64 l[k].t) ∧ w.cell? ⟨b, off + k * 5 + 1, none⟩ = some (.int .i64 l[k].no) ∧
      w.cell? ⟨b, off + k * 5 + 2, none⟩ = some (.int .i64 l[k].frm) ∧ w.cell? ⟨b, off + k * 5 + 3, none⟩ = some (.int .i64 l[k].dst) ∧ w.cell? ⟨b, off + k * 5 + 4, none⟩ = some (.slice l[k].A l[k].n l[k].c) := by
  obtain ⟨b, off, hl, rfl, hlt, hc⟩ := i.get hk
  exact ⟨b, off, hl, rfl, hlt, hc 0 (by decide), hc 1 (by decide), hc 2 (by decide), hc 3 (by decide), hc 4 (by decide)⟩
/-- What a message is, its place aside. -/
structure Mv where
  t : Int
  no : Int
  frm : Int
  dst : Int
  bs : List UInt8
deriving DecidableEq
def Mg.val (x : Mg) : Mv := ⟨x.t, x.no, x.frm, x.dst, x.bs⟩

/-- A net: its time, the next number, and where its four lists lie. -/
structure Nt where
  now : Int
  next : Int
  LA : Option Addr
  Ln : Nat
  Lc : Nat
  L : List Mg
  SA : Option Addr
  Sn : Nat
  Sc : Nat
  S : List Sp
  CA : Option Addr
  Cn : Nat
  Cc : Nat
  C : List Pr
  KA : Option Addr
  Kn : Nat
  Kc : Nat
  K : List Int
abbrev Nt.c (o : Nt) : Array Value := #[.int .i64 o.now, .int .i64 o.next, .slice o.LA o.Ln o.Lc, .slice o.SA o.Sn o.Sc, .slice o.CA o.Cn o.Cc, .slice o.KA o.Kn o.Kc]
abbrev Nt.v (o : Nt) : Value := .agg #[.int .i64 o.now, .int .i64 o.next, .slice o.LA o.Ln o.Lc, .slice o.SA o.Sn o.Sc, .slice o.CA o.Cn o.Cc, .slice o.KA o.Kn o.Kc]
structure Nt.At (w : World) (o : Nt) : Prop where
  l : Sl mgK w o.LA o.Ln o.Lc o.L
  s : Sl spK w o.SA o.Sn o.Sc o.S
  c : Sl prK w o.CA o.Cn o.Cc o.C
  k : Sl intK w o.KA o.Kn o.Kc o.K
theorem Nt.At.below {w w' : World} {o : Nt} (h : Nt.At w o) (hb : Below w.heap.size w w') : Nt.At w' o := ⟨h.l.below hb, h.s.below hb, h.c.below hb, h.k.below hb⟩
theorem Nt.At.alloc {w : World} {o : Nt} (h : Nt.At w o) (x : Obj) : Nt.At (w.alloc x) o := h.below (below_alloc1 w x)
/-- Few enough: as many as are looked at. -/
structure Nt.Few (o : Nt) : Prop where
  l : o.Ln ≤ 2000
  s : o.Sn ≤ 100
  c : o.Cn ≤ 400
  k : o.Kn ≤ 100
/-- Its four lists are the call's own. -/
structure Nt.Own (w : World) (B : Nat) (o : Nt) : Prop where
  l : Go.Proofs.Ytmlgahambecamaa.Own mgK 40 w B o.LA o.Ln o.Lc o.L
  s : Go.Proofs.Ytmlgahambecamaa.Own spK 54 w B o.SA o.Sn o.Sc o.S
  c : Go.Proofs.Ytmlgahambecamaa.Own prK 63 w B o.CA o.Cn o.Cc o.C
  k : Go.Proofs.Ytmlgahambecamaa.Own intK 3 w B o.KA o.Kn o.Kc o.K
theorem Nt.Own.at_ {w : World} {B : Nat} {o : Nt} (h : Nt.Own w B o) : Nt.At w o := ⟨h.l.sl, h.s.sl, h.c.sl, h.k.sl⟩
theorem Nt.Own.kept {w w' : World} {B : Nat} {o : Nt} (h : Nt.Own w B o) (hb : Below w.heap.size w w') : Nt.Own w' B o := ⟨h.l.kept hb, h.s.kept hb, h.c.kept hb, h.k.kept hb⟩

/-- What a net is, its places aside. -/
structure Nv where
  now : Int
  next : Int
  L : List Mv
  S : List Sp
  C : List Pr
  K : List Int
deriving DecidableEq
def Nt.val (o : Nt) : Nv := ⟨o.now, o.next, o.L.map Mg.val, o.S, o.C, o.K⟩
def noV : Nv := ⟨0, 0, [], [], [], []⟩
def noN : Nt := ⟨0, 0, none, 0, 0, [], none, 0, 0, [], none, 0, 0, [], none, 0, 0, []⟩
theorem noN_own (w : World) (B : Nat) : Nt.Own w B noN := ⟨⟨rfl, World.ownsRow_nil _ _ _ _, by simp [noN]⟩, ⟨rfl, World.ownsRow_nil _ _ _ _, by simp [noN]⟩, ⟨rfl, World.ownsRow_nil _ _ _ _, by simp [noN]⟩, ⟨rfl, World.ownsRow_nil _ _ _ _, by simp [noN]⟩⟩
theorem noN_at (w : World) : Nt.At w noN := (noN_own w 0).at_
theorem noN_val : noN.val = noV := rfl

end Go.Proofs.Ytmlgahambecamaa
