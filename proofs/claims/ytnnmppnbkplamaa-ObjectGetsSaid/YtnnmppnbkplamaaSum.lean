/- What the program's calls answer, each by one plain function. -/
import Derived.Test.YtnnmppnbkplamaaPutOk
import Derived.Test.YtnnmppnbkplamaaList
namespace Go.Proofs.Ytnnmppnbkplamaa
open Go.RowKit Go.Shelf

/-- A store, its places aside. -/
structure Sx where
  L : List Oc
  c : Int
  fs : List Ft
deriving DecidableEq

def mayR (L : List Oc) (calls : Int) (fs : List Ft) (s : ByteArray) : Int := mayE (checkO L calls fs) (nameC s)
def boundR (L : List Oc) (s : ByteArray) (b : List UInt8) : Bool := decide (8192 < b.length) || ((findO s L).isNone && decide (1024 ≤ L.length))
def putR (L : List Oc) (calls : Int) (fs : List Ft) (s : ByteArray) (b : List UInt8) : Sx × Int :=
  if mayR L calls fs s ≠ 0 then (⟨[], 0, []⟩, mayR L calls fs s) else if boundR L s b = true then (⟨[], 0, []⟩, 2) else (⟨putL L s b (faultC calls fs), calls + 1, fs⟩, doneE (faultC calls fs))
def delR (L : List Oc) (calls : Int) (fs : List Ft) (s : ByteArray) : Sx × Int :=
  if mayR L calls fs s ≠ 0 then (⟨[], 0, []⟩, mayR L calls fs s) else (⟨delL L s (faultC calls fs), calls + 1, fs⟩, doneE (faultC calls fs))
def getR (L : List Oc) (calls : Int) (fs : List Ft) (s : ByteArray) : Sx × List UInt8 × Int :=
  if mayR L calls fs s ≠ 0 then (⟨[], 0, []⟩, [], mayR L calls fs s) else (⟨L, calls + 1, fs⟩, getBs L s (faultC calls fs), getE L s (faultC calls fs))
def namesO (L : List Oc) (p : ByteArray) : List ByteArray := (L.filter fun x => begP x.name p).map (·.name)
def listR (L : List Oc) (calls : Int) (fs : List Ft) (p : ByteArray) : Sx × List ByteArray × Int :=
  let m := mayE (checkO L calls fs) (decide (p.size ≤ 64))
  if m ≠ 0 then (⟨[], 0, []⟩, [], m) else (⟨L, calls + 1, fs⟩, if doneE (faultC calls fs) = 0 then namesO L p else [], doneE (faultC calls fs))

/-- A call that hands back a store and a number. -/
def StR (L' : List Oc) (C : Int) (fs' : List Ft) (E : Int) (w : World) (e : Ending) (w' : World) : Prop :=
  ∃ A n c l' A' n' c', e = .returned (.tuple #[stV A n c C A' n' c', .int .i64 E]) ∧ Obs w' A n c l' ∧ l'.map Ob.val = L' ∧ Fts w' A' n' c' fs' ∧ Below w.heap.size w w'

theorem find_dec (s : ByteArray) (L : List Oc) (n : Nat) (h : L.length = n) (b : List UInt8) (m : Nat) (hm : b.length = m) : boundR L s b = true ↔ (8192 < m ∨ (findO s L = none ∧ 1024 ≤ n)) := by
  subst h hm
  unfold boundR
  rw [Bool.or_eq_true, Bool.and_eq_true, decide_eq_true_iff, decide_eq_true_iff, Option.isNone_iff_eq_none]

theorem put_at (A : Option Addr) (n c : Nat) (l : List Ob) (calls : Int) (A' : Option Addr) (n' c' : Nat) (fs : List Ft) (s : ByteArray) (Ab : Option Addr) (mb kb : Nat) (bl : List UInt8) (w : World) {L L' : List Oc} {C E : Int} {fs' : List Ft}
    (hl : Obs w A n c l) (hf : Fts w A' n' c' fs) (hbl : Sl u8K w Ab mb kb bl) (hsz : s.size ≤ maxLen) (hm : mb ≤ 140737488355328) (hv : l.map Ob.val = L) (hp : putR L calls fs s bl = (⟨L', C, fs'⟩, E)) :
    Calls Try.prog 13 #[stV A n c calls A' n' c', .string s, .slice Ab mb kb] w (StR L' C fs' E w) := by
  have hlen : L.length = n := by rw [← hv, List.length_map, hl.len]
  by_cases he : mayR L calls fs s = 0
  · by_cases hb : boundR L s bl = true
    · have hb' := (find_dec s L n hlen bl mb hbl.len).1 hb
      unfold putR at hp
      rw [if_neg (fun h => h he), if_pos hb] at hp
      injection hp with hp1 hp2
      injection hp1 with h1 h2 h3
      subst h1 h2 h3 hp2 hv
      exact put_bound A n c l calls A' n' c' fs s Ab mb kb w hl hf he hm hb'
    · have hb' := fun h => hb ((find_dec s L n hlen bl mb hbl.len).2 h)
      unfold putR at hp
      rw [if_neg (fun h => h he), if_neg hb] at hp
      injection hp with hp1 hp2
      injection hp1 with h1 h2 h3
      subst h1 h2 h3 hp2 hv
      exact put_ok A n c l calls A' n' c' fs s Ab mb kb w bl hl hf hbl hsz he hm hb'
  · unfold putR at hp
    rw [if_pos he] at hp
    injection hp with hp1 hp2
    injection hp1 with h1 h2 h3
    subst h1 h2 h3 hp2 hv
    exact put_out A n c l calls A' n' c' fs s Ab mb kb w hl hf he
theorem del_at (A : Option Addr) (n c : Nat) (l : List Ob) (calls : Int) (A' : Option Addr) (n' c' : Nat) (fs : List Ft) (s : ByteArray) (w : World) {L L' : List Oc} {C E : Int} {fs' : List Ft}
    (hl : Obs w A n c l) (hf : Fts w A' n' c' fs) (hv : l.map Ob.val = L) (hp : delR L calls fs s = (⟨L', C, fs'⟩, E)) :
    Calls Try.prog 15 #[stV A n c calls A' n' c', .string s] w (StR L' C fs' E w) := by
  by_cases he : mayR L calls fs s = 0
  · unfold delR at hp
    rw [if_neg (fun h => h he)] at hp
    injection hp with hp1 hp2
    injection hp1 with h1 h2 h3
    subst h1 h2 h3 hp2 hv
    exact del_ok A n c l calls A' n' c' fs s w hl hf he
  · unfold delR at hp
    rw [if_pos he] at hp
    injection hp with hp1 hp2
    injection hp1 with h1 h2 h3
    subst h1 h2 h3 hp2 hv
    exact del_out A n c l calls A' n' c' fs s w hl hf he
theorem get_at (A : Option Addr) (n c : Nat) (l : List Ob) (calls : Int) (A' : Option Addr) (n' c' : Nat) (fs : List Ft) (s : ByteArray) (w : World) {L L' : List Oc} {C E : Int} {fs' : List Ft} {bs : List UInt8}
    (hl : Obs w A n c l) (hf : Fts w A' n' c' fs) (hv : l.map Ob.val = L) (hp : getR L calls fs s = (⟨L', C, fs'⟩, bs, E)) :
    Calls Try.prog 20 #[stV A n c calls A' n' c', .string s] w (S3Res L' C fs' bs E w) := by
  by_cases he : mayR L calls fs s = 0
  · unfold getR at hp
    rw [if_neg (fun h => h he)] at hp
    injection hp with hp1 hp2
    injection hp1 with h1 h2 h3
    injection hp2 with hp2 hp3
    subst h1 h2 h3 hp2 hp3 hv
    exact get_ok A n c l calls A' n' c' fs s w hl hf he
  · unfold getR at hp
    rw [if_pos he] at hp
    injection hp with hp1 hp2
    injection hp1 with h1 h2 h3
    injection hp2 with hp2 hp3
    subst h1 h2 h3 hp2 hp3 hv
    exact get_out A n c l calls A' n' c' fs s w hl hf he
theorem list_at (A : Option Addr) (n c : Nat) (l : List Ob) (calls : Int) (A' : Option Addr) (n' c' : Nat) (fs : List Ft) (s : ByteArray) (w : World) {L L' : List Oc} {C E : Int} {fs' : List Ft} {nms : List ByteArray}
    (hl : Obs w A n c l) (hf : Fts w A' n' c' fs) (_hsz : s.size ≤ maxLen) (hv : l.map Ob.val = L) (hp : listR L calls fs s = (⟨L', C, fs'⟩, nms, E)) :
    Calls Try.prog 22 #[stV A n c calls A' n' c', .string s] w (SLRes L' C fs' nms E w) := by
  have hn : namesL l s = namesO L s := by
    rw [← hv]
    unfold namesL namesO
    rw [List.filter_map, List.map_map]
    rfl
  by_cases he : mayE (checkO L calls fs) (decide (s.size ≤ 64)) = 0
  · unfold listR at hp
    simp only [he] at hp
    rw [if_neg (fun h => h rfl)] at hp
    injection hp with hp1 hp2
    injection hp1 with h1 h2 h3
    injection hp2 with hp2 hp3
    subst h1 h2 h3 hp3
    rw [← hn] at hp2
    subst hp2 hv
    exact list_ok A n c l calls A' n' c' fs s w hl hf he
  · unfold listR at hp
    simp only at hp
    rw [if_pos he] at hp
    injection hp with hp1 hp2
    injection hp1 with h1 h2 h3
    injection hp2 with hp2 hp3
    subst h1 h2 h3 hp2 hp3 hv
    exact list_out A n c l calls A' n' c' fs s w hl hf he

end Go.Proofs.Ytnnmppnbkplamaa
