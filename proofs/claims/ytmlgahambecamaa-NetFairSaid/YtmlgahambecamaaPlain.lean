/- What a net does, in plain words: whether it may be, what is sent, what comes, what is cut and healed. -/
import Derived.Test.YtmlgahambecamaaNt
namespace Go.Proofs.Ytmlgahambecamaa

def maxO : Int := 1099511627776
/-- Is a number of a range? -/
def inR (n a b : Int) : Bool := decide (a ≤ n) && decide (n ≤ b)
/-- All numbers ahead of k are good. -/
def allTo (f : Nat → Bool) (k : Nat) : Bool := (List.range k).all f
theorem allTo_zero (f : Nat → Bool) : allTo f 0 = true := rfl
theorem allTo_succ (f : Nat → Bool) (k : Nat) : allTo f (k + 1) = (allTo f k && f k) := by unfold allTo; rw [List.range_succ, List.all_append]; simp
theorem allTo_no {f : Nat → Bool} {k n : Nat} (hk : k < n) (h : f k = false) : allTo f n = false := by
  unfold allTo
  rw [List.all_eq_false]
  exact ⟨k, List.mem_range.2 hk, by rw [h]; simp⟩
theorem allTo_at {f : Nat → Bool} {k n : Nat} (h : allTo f n = true) (hk : k < n) : f k = true := List.all_eq_true.1 h k (List.mem_range.2 hk)
theorem allTo_of {f : Nat → Bool} {n : Nat} (h : ∀ k, k < n → f k = true) : allTo f n = true := List.all_eq_true.2 fun k hk => h k (List.mem_range.1 hk)

def okSlip (s : Sp) : Bool := inR s.no 0 maxO && (if s.kind = 3 then inR s.amt 1 maxO else if s.kind = 1 ∨ s.kind = 2 then decide (s.amt = 0) else false)
def skewAt (K : List Int) (k : Nat) : Bool := match K[k]? with | some x => inR x (-10) 10 | none => true
def noIn (x : Int) (S : List Sp) : Bool := S.any fun s => decide (s.no = x)
def slipAt (S : List Sp) (k : Nat) : Bool := match S[k]? with | some s => okSlip s && !noIn s.no (S.take k) | none => true
/-- Is a number one of an end? -/
def endB (m : Nat) (a : Int) : Bool := decide (0 ≤ a) && decide (a < (m : Int))
def ltP (x y : Pr) : Bool := decide (x.a < y.a) || (decide (x.a = y.a) && decide (x.b < y.b))
def cutAt (m : Nat) (C : List Pr) (k : Nat) : Bool := match C[k]? with
  | some c => endB m c.a && endB m c.b && decide (c.a < c.b) && (match k with | 0 => true | j + 1 => match C[j]? with | some b => ltP b c | none => true)
  | none => true
/-- Does a message stand ahead of another one, or beside it? -/
def aheadB (x y : Mv) : Bool := decide (x.t < y.t) || (decide (x.t = y.t) && decide (x.no ≤ y.no))
def msgAt (m : Nat) (now next : Int) (L : List Mv) (k : Nat) : Bool := match L[k]? with
  | some x => endB m x.frm && endB m x.dst && inR x.t now maxO && inR x.no 0 (next - 1) && decide (x.bs.length ≤ 4096) && (match k with | 0 => true | j + 1 => match L[j]? with | some y => aheadB y x | none => true)
  | none => true
def topB (n : Nv) : Bool := inR (n.K.length : Int) 1 20 && inR n.now 0 maxO && inR n.next 0 maxO && decide (n.L.length ≤ 1024)
def checkB (n : Nv) : Bool := topB n && allTo (skewAt n.K) n.K.length && allTo (slipAt n.S) n.S.length && allTo (cutAt n.K.length n.C) n.C.length && allTo (msgAt n.K.length n.now n.next n.L) n.L.length
def checkI (n : Nv) : Int := if checkB n = true then 0 else 1

def pairP (a b : Int) : Pr := ⟨min a b, max a b⟩
def cutB (C : List Pr) (a b : Int) : Bool := C.any fun c => decide (c = pairP a b)
def openB (n : Nv) (a b : Int) : Bool := checkB n && endB n.K.length a && endB n.K.length b && (decide (a = b) || !cutB n.C a b)
def newV (m : Int) (S : List Sp) (K : List Int) : Nv × Int := if (K.length : Int) = m ∧ checkB ⟨0, 0, [], S, [], K⟩ = true then (⟨0, 0, [], S, [], K⟩, 0) else (noV, 1)
/-- A message put in its place. -/
def putL : List Mv → Mv → List Mv
  | [], m => [m]
  | x :: l, m => if aheadB x m = true then x :: putL l m else m :: x :: l
def slipOf (S : List Sp) (no : Int) : Sp := (S.find? fun s => decide (s.no = no)).getD ⟨0, 0, 0⟩
def sendV (n : Nv) (frm dst takes : Int) (bs : List UInt8) : Nv × Int :=
  if checkB n = true ∧ endB n.K.length frm = true ∧ endB n.K.length dst = true ∧ inR takes 0 maxO = true ∧ bs.length ≤ 4096 then
    if n.next = maxO then (noV, 2)
    else if (slipOf n.S n.next).kind = 1 ∨ cutB n.C frm dst = true then ({ n with next := n.next + 1 }, 0)
    else if maxO < n.now + takes + (slipOf n.S n.next).amt then (noV, 2)
    else if 1024 < n.L.length + (if (slipOf n.S n.next).kind = 2 then 2 else 1) then (noV, 2)
    else ({ n with next := n.next + 1, L := (if (slipOf n.S n.next).kind = 2 then putL (putL n.L ⟨n.now + takes + (slipOf n.S n.next).amt, n.next, frm, dst, bs⟩) ⟨n.now + takes + (slipOf n.S n.next).amt, n.next, frm, dst, bs⟩ else putL n.L ⟨n.now + takes + (slipOf n.S n.next).amt, n.next, frm, dst, bs⟩) }, 0)
  else (noV, 1)
def tickV (n : Nv) (d : Int) : Nv × List Mv × Int :=
  if checkB n = true ∧ inR d 0 maxO = true then
    if maxO < n.now + d then (noV, [], 2)
    else ({ n with now := n.now + d, L := n.L.filter fun m => !decide (m.t ≤ n.now + d) }, n.L.filter fun m => decide (m.t ≤ n.now + d), 0)
  else (noV, [], 1)
def waysV (n : Nv) (a b : Int) (yes : Bool) : Nv × Int :=
  if checkB n = true ∧ endB n.K.length a = true ∧ endB n.K.length b = true ∧ a ≠ b then
    ({ n with C := n.C.filter (fun c => ltP c (pairP a b)) ++ (if yes then [pairP a b] else []) ++ n.C.filter (fun c => ltP (pairP a b) c) }, 0)
  else (noV, 1)
def clockV (n : Nv) (a : Int) : Int × Int :=
  if checkB n = true ∧ endB n.K.length a = true then (max 0 (n.now + (n.K[a.toNat]?).getD 0), 0) else (0, 1)

end Go.Proofs.Ytmlgahambecamaa
