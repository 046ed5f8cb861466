/- What the chapter's functions answer, in plain lists. -/
import Derived.Test.YtnkjkgakbgjddaaPlain
import Derived.Test.YtnkjkgakbgjddaaVarP
namespace Go.Proofs.Ytnkjkgakbgjddaa
open Go.RowKit

/-- A byte that may stand in a name; a name. -/
def fineB (b : UInt8) : Bool := decide (33 ≤ b.toNat ∧ b.toNat ≤ 126)
def fineS (s : ByteArray) : Bool := s.data.toList.all fineB
def nameC (s : ByteArray) : Bool := decide (0 < s.size ∧ s.size ≤ 64) && fineS s
theorem fine_at {s : ByteArray} (h : fineS s = true) {i : Nat} (hi : i < s.size) : fineB s[i] = true := by
  unfold fineS at h
  rw [List.all_eq_true] at h
  refine h _ ?_
  rw [Array.mem_toList_iff]
  exact Array.getElem_mem _
theorem fine_of {s : ByteArray} (h : ∀ i (hi : i < s.size), fineB s[i] = true) : fineS s = true := by
  unfold fineS
  rw [List.all_eq_true]
  intro b hb
  obtain ⟨i, hi, rfl⟩ := List.getElem_of_mem hb
  have hi' : i < s.size := by simpa using hi
  have := h i hi'
  rw [Array.getElem_toList]
  exact this
/-- May a position be; one that waits. -/
def rightP (x : Ps) : Bool := nameC x.g && nameC x.t && decide (0 ≤ x.p ∧ x.p ≤ 5) && decide (0 ≤ x.h ∧ x.h ≤ 3) && decide (0 ≤ x.o ∧ x.o ≤ 1099511627776)
def rightW (x : Wt) : Bool := decide (0 ≤ x.pid ∧ x.pid ≤ 1099511627776) && rightP x.pos
def checkV (L : List Ps) (M : List Wt) : Int := if keptB rightP ordP L = true ∧ keptB rightW ordW M = true then (if 4096 < L.length ∨ 4096 < M.length then 2 else 0) else 1
/-- What a change leaves: positions, those that wait, code. -/
def capV (L : List Ps) (M : List Wt) : List Ps × List Wt × Int := if 4096 < L.length ∨ 4096 < M.length then ([], [], 2) else (L, M, 0)
def chV (L : List Ps) (M : List Wt) (may : Bool) (L' : List Ps) (M' : List Wt) : List Ps × List Wt × Int :=
  if checkV L M = 0 then (if may = true then capV L' M' else ([], [], 1)) else ([], [], checkV L M)
def putV (L : List Ps) (M : List Wt) (p : Ps) : List Ps × List Wt × Int := chV L M (rightP p) (insC ordP p L) M
def holdV (L : List Ps) (M : List Wt) (pid : Int) (p : Ps) : List Ps × List Wt × Int := chV L M (rightW ⟨pid, p⟩) L (insC ordW ⟨pid, p⟩ M)
def stepL (pid : Int) (yes : Bool) (L : List Ps) (x : Wt) : List Ps := if x.pid = pid ∧ yes = true then insC ordP x.pos L else L
def markL (pid : Int) (yes : Bool) (L : List Ps) (M : List Wt) : List Ps := M.foldl (stepL pid yes) L
def leftM (pid : Int) (M : List Wt) : List Wt := M.filter fun x => !decide (x.pid = pid)
def markV (L : List Ps) (M : List Wt) (pid : Int) (yes : Bool) : List Ps × List Wt × Int := chV L M true (markL pid yes L M) (leftM pid M)
/-- Is a position of a place, of a partition. -/
def ofTp (t : ByteArray) (p h : Int) (x : Ps) : Bool := decide (x.t = t ∧ x.p = p ∧ x.h = h)
def ofPl (g t : ByteArray) (p h : Int) (x : Ps) : Bool := decide (x.g = g) && ofTp t p h x
def fstV : Option Ps → Int × Bool
  | some x => (x.o, true)
  | none => (0, false)
def getV (L : List Ps) (g t : ByteArray) (p h : Int) : Int × Bool := fstV (L.find? (ofPl g t p h))
def minV : List Int → Int × Bool
  | [] => (0, false)
  | a :: l => (l.foldl min a, true)
def leastL (L : List Ps) (M : List Wt) (t : ByteArray) (p h : Int) : List Int := (L.filter (ofTp t p h)).map Ps.o ++ ((M.map Wt.pos).filter (ofTp t p h)).map Ps.o
def leastV (L : List Ps) (M : List Wt) (t : ByteArray) (p h : Int) : Int × Bool := minV (leastL L M t p h)
def amongV (l : List Ps) (x : Ps) : Bool := l.any fun y => ofPl x.g x.t x.p x.h y
def keptV (L X : List Ps) (l : List Ps) : Bool :=
  L.all (fun y => amongV l y || decide (getV X y.g y.t y.p y.h = (y.o, true))) && X.all (fun y => (getV L y.g y.t y.p y.h).2 || amongV l y)
/-- The bytes of a text, of a position. -/
def putT (s : ByteArray) : List UInt8 := varZ (2 * s.size) ++ s.data.toList
def saveB (x : Ps) : List UInt8 := putT x.g ++ putT x.t ++ varZ (2 * x.p.toNat) ++ varZ (2 * x.h.toNat) ++ varZ (2 * x.o.toNat)
def saveV (x : Ps) : List UInt8 × Int := if rightP x = true then (saveB x, 0) else ([], 1)
/-- A number read, a text read, a position read: (it, where it ends, code). -/
def unV (at_ : Int) : Nat × Nat × Int → Int × Int × Int
  | (z, k, e) => if e = 0 then (unzig z, at_ + k, 0) else (0, 0, e)
def varV (bs : List UInt8) (at_ : Int) : Int × Int × Int := if at_ < 0 then (0, 0, 1) else unV at_ (getZ (bs.drop at_.toNat) 0 0)
def cutV (bs : List UInt8) (i n : Nat) : ByteArray := ⟨((bs.drop i).take n).toArray⟩
def textV (bs : List UInt8) (at_ : Int) : ByteArray × Int × Int :=
  if (varV bs at_).2.2 = 0 then
    (if (varV bs at_).1 < 0 then (⟨#[]⟩, 0, 11) else if 64 < (varV bs at_).1 then (⟨#[]⟩, 0, 2) else if (bs.length : Int) - (varV bs at_).2.1 < (varV bs at_).1 then (⟨#[]⟩, 0, 10)
     else (cutV bs (varV bs at_).2.1.toNat (varV bs at_).1.toNat, (varV bs at_).2.1 + (varV bs at_).1, 0))
  else (⟨#[]⟩, 0, (varV bs at_).2.2)
def noP : Ps := ⟨⟨#[]⟩, ⟨#[]⟩, 0, 0, 0⟩
def loadV (bs : List UInt8) (at_ : Int) : Ps × Int × Int :=
  if at_ < 0 ∨ (bs.length : Int) < at_ then (noP, 0, 1) else
  let a := textV bs at_
  if a.2.2 ≠ 0 then (noP, 0, a.2.2) else
  let b := textV bs a.2.1
  if b.2.2 ≠ 0 then (noP, 0, b.2.2) else
  let c := varV bs b.2.1
  if c.2.2 ≠ 0 then (noP, 0, c.2.2) else
  let d := varV bs c.2.1
  if d.2.2 ≠ 0 then (noP, 0, d.2.2) else
  let e := varV bs d.2.1
  if e.2.2 ≠ 0 then (noP, 0, e.2.2) else
  if rightP ⟨a.1, b.1, c.1, d.1, e.1⟩ = true then (⟨a.1, b.1, c.1, d.1, e.1⟩, e.2.1, 0) else (noP, 0, 11)

end Go.Proofs.Ytnkjkgakbgjddaa
