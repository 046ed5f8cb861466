/- Plain: what Check says of a cache, and what the other functions make of it; of no program. -/
import Derived.Test.YthjohjijcgiogaaHd
import Derived.Test.YthjohjijcgiogaaKey
namespace Go.Proofs.Ythjohjijcgiogaa

/-- The k-th chunk may not stand where it stands: its key may not be, or it has stood before. -/
def badAt (L : List Ch) (k : Nat) : Bool :=
  match L[k]? with
  | some h => !mayK h.name h.no || (L.take k).any fun x => decide (x.name = h.name ∧ x.no = h.no)
  | none => false
def good (L : List Ch) : Bool := !(List.range L.length).any (badAt L)
/-- What Check says of chunks that are not too many. -/
def goodI (L : List Ch) : Int := if good L then 0 else 1
/-- What Check says. -/
def checkC (cap : Int) (L : List Ch) : Int :=
  if cap < 0 ∨ 1099511627776 < cap ∨ cap < sz L then 1 else goodI L

theorem good_of {L : List Ch} (h : ∀ k, k < L.length → badAt L k = false) : good L = true := by
  unfold good
  rw [Bool.not_eq_true', List.any_eq_false]
  intro k hk
  rw [h k (List.mem_range.1 hk)]
  simp
theorem not_good_of {L : List Ch} {k : Nat} (hk : k < L.length) (h : badAt L k = true) : good L = false := by
  unfold good
  rw [Bool.not_eq_false', List.any_eq_true]
  exact ⟨k, List.mem_range.2 hk, h⟩
theorem check_out {cap : Int} {L : List Ch} (h : cap < 0 ∨ 1099511627776 < cap ∨ cap < sz L) : checkC cap L = 1 := by unfold checkC; rw [if_pos h]
theorem check_in {cap : Int} {L : List Ch} (h1 : 0 ≤ cap) (h2 : cap ≤ 1099511627776) (h3 : sz L ≤ cap) : checkC cap L = goodI L := by
  unfold checkC; rw [if_neg (by omega)]
theorem goodI_bad {L : List Ch} {k : Nat} (hk : k < L.length) (h : badAt L k = true) : goodI L = 1 := by unfold goodI; rw [not_good_of hk h]; rfl
theorem goodI_ok {L : List Ch} (h : ∀ k, k < L.length → badAt L k = false) : goodI L = 0 := by unfold goodI; rw [good_of h]; rfl


/-- A chunk's key stands among some. -/
def keyIn (name : ByteArray) (no : Int) (L : List Ch) : Bool := L.any fun x => decide (x.name = name ∧ x.no = no)
theorem bad_at {L : List Ch} {k : Nat} {h : Ch} (hk : L[k]? = some h) : badAt L k = (!mayK h.name h.no || keyIn h.name h.no (L.take k)) := by
  unfold badAt; rw [hk]; rfl
theorem key_snoc (name : ByteArray) (no : Int) {L : List Ch} {j : Nat} {x : Ch} (hj : L[j]? = some x) : keyIn name no (L.take (j + 1)) = (keyIn name no (L.take j) || decide (x.name = name ∧ x.no = no)) := by
  unfold keyIn
  obtain ⟨h1, h2⟩ := List.getElem?_eq_some_iff.1 hj
  rw [List.take_succ_eq_append_getElem h1, List.any_append, h2]
  simp
theorem key_mono (name : ByteArray) (no : Int) (L : List Ch) {j k : Nat} (hjk : j ≤ k) (h : keyIn name no (L.take j) = true) : keyIn name no (L.take k) = true := by
  unfold keyIn at h ⊢
  rw [List.any_eq_true] at h ⊢
  obtain ⟨x, h1, h2⟩ := h
  exact ⟨x, (List.take_sublist_take_left hjk).subset h1, h2⟩

/-! What the functions make of a cache: the room, the chunks, the error. -/
def isK (name : ByteArray) (no : Int) (x : Ch) : Bool := decide (x.name = name ∧ x.no = no)
def findC (name : ByteArray) (no : Int) (L : List Ch) : Option Ch := L.find? (isK name no)
def dropC (name : ByteArray) (no : Int) (L : List Ch) : List Ch := L.filter fun x => !isK name no x
/-- The longest beginning for which there is room. -/
def fit : Int → List Ch → List Ch
  | _, [] => []
  | left, h :: t => if left - h.bs.length < 0 then [] else h :: fit (left - h.bs.length) t
def newE (most : Int) : Int := if most < 0 ∨ 1099511627776 < most then 1 else 0
def newCap (most : Int) : Int := if most < 0 ∨ 1099511627776 < most then 0 else most
def usedC (cap : Int) (L : List Ch) : Int := if checkC cap L = 0 then (sz L : Int) else 0
def capC (cap : Int) (L : List Ch) : Int := if checkC cap L = 0 then cap else 0
def getL (cap : Int) (L : List Ch) (name : ByteArray) (no : Int) : List Ch := if checkC cap L = 0 then (findC name no L).toList ++ dropC name no L else []
def getB (cap : Int) (L : List Ch) (name : ByteArray) (no : Int) : List UInt8 := if checkC cap L = 0 then ((findC name no L).map (·.bs)).getD [] else []
def getOk (cap : Int) (L : List Ch) (name : ByteArray) (no : Int) : Bool := decide (checkC cap L = 0) && (findC name no L).isSome
def putE (cap : Int) (L : List Ch) (name : ByteArray) (no : Int) : Int := if checkC cap L = 0 ∧ mayK name no = true then 0 else 1
def putCap (cap : Int) (L : List Ch) (name : ByteArray) (no : Int) : Int := if putE cap L name no = 0 then cap else 0
def putL (cap : Int) (L : List Ch) (name : ByteArray) (no : Int) (b : List UInt8) : List Ch :=
  if putE cap L name no = 0 then (if cap < b.length then dropC name no L else fit cap (⟨name, no, b⟩ :: dropC name no L)) else []
def dropL (cap : Int) (L : List Ch) (name : ByteArray) : List Ch := if checkC cap L = 0 then L.filter (fun x => !decide (x.name = name)) else []

theorem check_cases (cap : Int) (L : List Ch) : checkC cap L = 0 ∨ checkC cap L = 1 := by
  unfold checkC goodI
  split
  · exact .inr rfl
  · split
    · exact .inl rfl
    · exact .inr rfl
theorem good_of_check {cap : Int} {L : List Ch} (h : checkC cap L = 0) : good L = true ∧ 0 ≤ cap ∧ cap ≤ 1099511627776 ∧ (sz L : Int) ≤ cap := by
  unfold checkC goodI at h
  split at h
  · omega
  · split at h
    · rename_i h1 h2; exact ⟨h2, by omega, by omega, by omega⟩
    · omega
theorem good_at {L : List Ch} (h : good L = true) {k : Nat} (hk : k < L.length) : badAt L k = false := by
  cases hb : badAt L k
  · rfl
  · rw [not_good_of hk hb] at h; cases h
/-- In a good cache a key stands once. -/
theorem good_once {L : List Ch} (h : good L = true) {i j : Nat} (hi : i < L.length) (hj : j < L.length) (e1 : L[i].name = L[j].name) (e2 : L[i].no = L[j].no) : i = j := by
  have key : ∀ {i j : Nat} (hi : i < L.length) (hj : j < L.length), i < j → L[i].name = L[j].name → L[i].no = L[j].no → False := by
    intro i j hi hj hij e1 e2
    have := good_at h hj
    rw [bad_at (List.getElem?_eq_getElem hj), Bool.or_eq_false_iff] at this
    have h2 := this.2
    unfold keyIn at h2
    rw [List.any_eq_false] at h2
    refine h2 L[i] ?_ (by simp [e1, e2])
    rw [List.mem_iff_getElem]
    exact ⟨i, by rw [List.length_take]; omega, by simp⟩
  rcases Nat.lt_trichotomy i j with hlt | rfl | hgt
  · exact (key hi hj hlt e1 e2).elim
  · rfl
  · exact (key hj hi hgt e1.symm e2.symm).elim
theorem dropC_erase {L : List Ch} (h : good L = true) {name : ByteArray} {no : Int} {i : Nat} (hi : i < L.length) (hk : isK name no L[i] = true) : dropC name no L = L.take i ++ L.drop (i + 1) := by
  have e : L = L.take i ++ (L[i] :: L.drop (i + 1)) := by rw [List.getElem_cons_drop, List.take_append_drop]
  have hk' : L[i].name = name ∧ L[i].no = no := by simpa [isK] using hk
  have f1 : (L.take i).filter (fun x => !isK name no x) = L.take i := by
    rw [List.filter_eq_self]
    intro x hx
    obtain ⟨j, hj, rfl⟩ := List.getElem_of_mem hx
    rw [List.length_take] at hj
    cases hq : isK name no (L.take i)[j]
    · rfl
    · exfalso
      rw [List.getElem_take] at hq
      have hq' : L[j].name = name ∧ L[j].no = no := by simpa [isK] using hq
      have := good_once h (show j < L.length by omega) hi (hq'.1.trans hk'.1.symm) (hq'.2.trans hk'.2.symm)
      omega
  have f2 : (L.drop (i + 1)).filter (fun x => !isK name no x) = L.drop (i + 1) := by
    rw [List.filter_eq_self]
    intro x hx
    obtain ⟨j, hj, rfl⟩ := List.getElem_of_mem hx
    rw [List.length_drop] at hj
    cases hq : isK name no (L.drop (i + 1))[j]
    · rfl
    · exfalso
      rw [List.getElem_drop] at hq
      have hq' : L[i + 1 + j].name = name ∧ L[i + 1 + j].no = no := by simpa [isK] using hq
      have := good_once h (show i + 1 + j < L.length by omega) hi (hq'.1.trans hk'.1.symm) (hq'.2.trans hk'.2.symm)
      omega
  unfold dropC
  conv => lhs; rw [e]
  rw [List.filter_append, List.filter_cons, hk, f1, f2]
  simp
theorem findC_at {L : List Ch} {name : ByteArray} {no : Int} {i : Nat} (hi : i < L.length) (hk : isK name no L[i] = true) (hb : ∀ j (h : j < L.length), j < i → isK name no L[j] = false) : findC name no L = some L[i] := by
  unfold findC
  rw [List.find?_eq_some_iff_getElem]
  exact ⟨hk, i, hi, rfl, fun j hj => by simp [hb j (by omega) hj]⟩
theorem findC_none {L : List Ch} {name : ByteArray} {no : Int} (hb : ∀ j (h : j < L.length), isK name no L[j] = false) : findC name no L = none ∧ dropC name no L = L := by
  constructor
  · unfold findC
    rw [List.find?_eq_none]
    intro x hx
    obtain ⟨j, hj, rfl⟩ := List.getElem_of_mem hx
    simp [hb j hj]
  · unfold dropC
    rw [List.filter_eq_self]
    intro x hx
    obtain ⟨j, hj, rfl⟩ := List.getElem_of_mem hx
    simp [hb j hj]

theorem sz_cons (h : Ch) (t : List Ch) : sz (h :: t) = h.bs.length + sz t := by simp [sz]
theorem sz_append (a b : List Ch) : sz (a ++ b) = sz a + sz b := by simp [sz]
theorem fit_at : ∀ (L : List Ch) (left : Int) (k : Nat), (∀ j, j < k → 0 ≤ left - sz (L.take (j + 1))) → (k < L.length → left - sz (L.take (k + 1)) < 0) → k ≤ L.length → fit left L = L.take k
  | [], left, k, _, _, hk => by simp [fit]
  | h :: t, left, 0, _, h2, _ => by
    have := h2 (by simp)
    rw [List.take_succ_cons, sz_cons] at this
    unfold fit
    rw [if_pos (by simp [sz] at this; omega)]
    simp
  | h :: t, left, k + 1, h1, h2, hk => by
    have h0 := h1 0 (by omega)
    rw [List.take_succ_cons, sz_cons] at h0
    unfold fit
    rw [if_neg (by simp [sz] at h0; omega), List.take_succ_cons]
    congr 1
    refine fit_at t _ k (fun j hj => ?_) (fun hlt => ?_) (by simpa using hk)
    · have := h1 (j + 1) (by omega)
      rw [List.take_succ_cons, sz_cons] at this
      omega
    · have := h2 (by simpa using hlt)
      rw [List.take_succ_cons, sz_cons] at this
      omega
theorem sz_take_le (L : List Ch) (k : Nat) : sz (L.take k) ≤ sz L := by
  conv => rhs; rw [← List.take_append_drop k L]
  rw [sz_append]; omega

theorem sz_drop_le (name : ByteArray) (no : Int) (L : List Ch) : sz (dropC name no L) ≤ sz L := by
  unfold dropC
  induction L with
  | nil => simp
  | cons a L ih =>
    rw [List.filter_cons]
    split
    · rw [sz_cons, sz_cons]; omega
    · rw [sz_cons]; omega
theorem sz_snoc (L : List Ch) (k : Nat) (hk : k < L.length) : sz (L.take (k + 1)) = sz (L.take k) + L[k].bs.length := by
  rw [List.take_succ_eq_append_getElem hk, sz_append]; simp [sz]

end Go.Proofs.Ythjohjijcgiogaa
