/- Plain: what Get and Put make of a cache that may be; of no program. -/
import Derived.Test.YthjohjijcgiogaaPlain
namespace Go.Proofs.Ythjohjijcgiogaa

def apart (a b : Ch) : Prop := ¬ (a.name = b.name ∧ a.no = b.no)
theorem good_iff {L : List Ch} : good L = true ↔ (∀ x ∈ L, mayK x.name x.no = true) ∧ L.Pairwise apart := by
  constructor
  · intro h
    refine ⟨fun x hx => ?_, ?_⟩
    · obtain ⟨i, hi, rfl⟩ := List.getElem_of_mem hx
      have := good_at h hi
      rw [bad_at (List.getElem?_eq_getElem hi), Bool.or_eq_false_iff] at this
      simpa using this.1
    · rw [List.pairwise_iff_getElem]
      intro i j hi hj hij e
      have := good_once h hi hj e.1 e.2
      omega
  · rintro ⟨h1, h2⟩
    rw [List.pairwise_iff_getElem] at h2
    refine good_of fun k hk => ?_
    rw [bad_at (List.getElem?_eq_getElem hk), Bool.or_eq_false_iff]
    refine ⟨by rw [h1 _ (List.getElem_mem hk)]; rfl, ?_⟩
    unfold keyIn
    rw [List.any_eq_false]
    intro x hx
    obtain ⟨i, hi, rfl⟩ := List.getElem_of_mem hx
    rw [List.length_take] at hi
    rw [List.getElem_take]
    have := h2 i k (by omega) hk (by omega)
    simpa [apart] using this

theorem good_sub {L L' : List Ch} (h : good L = true) (hs : L'.Sublist L) : good L' = true := by
  rw [good_iff] at h ⊢
  exact ⟨fun x hx => h.1 x (hs.subset hx), h.2.sublist hs⟩
theorem sz_sub {L L' : List Ch} (hs : L'.Sublist L) : sz L' ≤ sz L := by
  induction hs with
  | slnil => exact Nat.le_refl _
  | cons a h ih => rw [sz_cons]; omega
  | cons_cons a h ih => rw [sz_cons, sz_cons]; omega
theorem check_sub {cap : Int} {L L' : List Ch} (h : checkC cap L = 0) (hs : L'.Sublist L) : checkC cap L' = 0 := by
  obtain ⟨h1, h2, h3, h4⟩ := good_of_check h
  have := sz_sub hs
  rw [check_in h2 h3 (by omega)]
  unfold goodI
  rw [good_sub h1 hs]; rfl
theorem drop_sub (name : ByteArray) (no : Int) (L : List Ch) : (dropC name no L).Sublist L := List.filter_sublist
theorem drop_none {name : ByteArray} {no : Int} {L : List Ch} (h : ∀ x ∈ L, isK name no x = false) : dropC name no L = L := by
  unfold dropC
  rw [List.filter_eq_self]
  intro x hx
  rw [h x hx]; rfl
theorem drop_not (name : ByteArray) (no : Int) (L : List Ch) : ∀ x ∈ dropC name no L, isK name no x = false := by
  intro x hx
  have := (List.mem_filter.1 hx).2
  simpa using this
theorem cons_good {L : List Ch} {name : ByteArray} {no : Int} {b : List UInt8} (h : good L = true) (hm : mayK name no = true) : good (⟨name, no, b⟩ :: dropC name no L) = true := by
  have hd := good_sub h (drop_sub name no L)
  rw [good_iff] at hd ⊢
  refine ⟨fun x hx => ?_, ?_⟩
  · rcases List.mem_cons.1 hx with rfl | hx
    · exact hm
    · exact hd.1 x hx
  · rw [List.pairwise_cons]
    refine ⟨fun x hx e => ?_, hd.2⟩
    have := drop_not name no L x hx
    unfold isK at this
    rw [decide_eq_false_iff_not] at this
    exact this ⟨e.1.symm, e.2.symm⟩

theorem fit_take : ∀ (L : List Ch) (left : Int), ∃ k, k ≤ L.length ∧ fit left L = L.take k ∧ (0 ≤ left → (sz (L.take k) : Int) ≤ left) ∧ (k < L.length → left < sz (L.take (k + 1)))
  | [], left => ⟨0, Nat.le_refl _, rfl, fun h => by simpa [sz] using h, fun h => by simp at h⟩
  | h :: t, left => by
    unfold fit
    by_cases hl : left - h.bs.length < 0
    · rw [if_pos hl]
      refine ⟨0, Nat.zero_le _, rfl, fun h => by simpa [sz] using h, fun _ => ?_⟩
      rw [List.take_succ_cons, sz_cons]
      simp [sz]
      omega
    · rw [if_neg hl]
      obtain ⟨k, h1, h2, h3, h4⟩ := fit_take t (left - h.bs.length)
      refine ⟨k + 1, by simpa using h1, by rw [h2]; rfl, fun _ => ?_, fun hk => ?_⟩
      · have := h3 (by omega)
        rw [List.take_succ_cons, sz_cons]
        omega
      · have := h4 (by simpa using hk)
        rw [List.take_succ_cons, sz_cons]
        omega
theorem fit_sub (L : List Ch) (left : Int) : (fit left L).Sublist L := by
  obtain ⟨k, _, h, _⟩ := fit_take L left
  rw [h]; exact List.take_sublist _ _
theorem fit_first {h : Ch} {t : List Ch} {left : Int} (hl : (h.bs.length : Int) ≤ left) : ∃ r, fit left (h :: t) = h :: r ∧ r.Sublist t := by
  unfold fit
  rw [if_neg (by omega)]
  exact ⟨_, rfl, fit_sub t _⟩

/-- What Put leaves may be. -/
theorem put_check {cap : Int} {L : List Ch} {name : ByteArray} {no : Int} {b : List UInt8} (h : putE cap L name no = 0) : checkC cap (putL cap L name no b) = 0 ∧ mayK name no = true ∧ checkC cap L = 0 := by
  have hh : checkC cap L = 0 ∧ mayK name no = true := by
    unfold putE at h
    split at h
    · assumption
    · omega
  refine ⟨?_, hh.2, hh.1⟩
  unfold putL
  rw [if_pos h]
  obtain ⟨g1, g2, g3, g4⟩ := good_of_check hh.1
  by_cases hb : cap < b.length
  · rw [if_pos hb]
    exact check_sub hh.1 (drop_sub _ _ _)
  · rw [if_neg hb]
    obtain ⟨k, h1, h2, h3, _⟩ := fit_take (⟨name, no, b⟩ :: dropC name no L) cap
    rw [h2, check_in g2 g3 (h3 g2)]
    unfold goodI
    rw [good_sub (cons_good g1 hh.2) (List.take_sublist _ _)]
    rfl
/-- What was put is got. -/
theorem put_get {cap : Int} {L : List Ch} {name : ByteArray} {no : Int} {b : List UInt8} (h : putE cap L name no = 0) :
    (cap < b.length → getL cap (putL cap L name no b) name no = putL cap L name no b ∧ getB cap (putL cap L name no b) name no = [] ∧ getOk cap (putL cap L name no b) name no = false) ∧
    (¬ cap < b.length → getL cap (putL cap L name no b) name no = putL cap L name no b ∧ getB cap (putL cap L name no b) name no = b ∧ getOk cap (putL cap L name no b) name no = true ∧ ∃ r, putL cap L name no b = ⟨name, no, b⟩ :: r ∧ r.Sublist (dropC name no L)) := by
  obtain ⟨h1, h2, h3⟩ := put_check (b := b) h
  have e : putL cap L name no b = if cap < b.length then dropC name no L else fit cap (⟨name, no, b⟩ :: dropC name no L) := by unfold putL; rw [if_pos h]
  constructor
  · intro hb
    rw [if_pos hb] at e
    have hn := findC_none (L := dropC name no L) (name := name) (no := no) (fun j hj => drop_not name no L _ (List.getElem_mem hj))
    rw [e] at h1 ⊢
    unfold getL getB getOk
    rw [if_pos h1, if_pos h1, h1, hn.1, hn.2]
    exact ⟨rfl, rfl, rfl⟩
  · intro hb
    rw [if_neg hb] at e
    obtain ⟨r, hr, hs⟩ := fit_first (h := (⟨name, no, b⟩ : Ch)) (t := dropC name no L) (left := cap) (by show (b.length : Int) ≤ cap; omega)
    have hf : findC name no (⟨name, no, b⟩ :: r) = some ⟨name, no, b⟩ := by unfold findC; rw [List.find?_cons_of_pos]; simp [isK]
    have hd : dropC name no (⟨name, no, b⟩ :: r) = r := by
      have : dropC name no r = r := drop_none fun x hx => drop_not name no L x (hs.subset hx)
      conv => rhs; rw [← this]
      unfold dropC
      rw [List.filter_cons]
      simp [isK]
    rw [e, hr] at h1 ⊢
    unfold getL getB getOk
    rw [if_pos h1, if_pos h1, h1, hf, hd]
    exact ⟨rfl, rfl, rfl, r, rfl, hs⟩
/-- What Get leaves has as many chunks, and bytes, and may be. -/
theorem get_same {cap : Int} {L : List Ch} {name : ByteArray} {no : Int} (h : checkC cap L = 0) : (getL cap L name no).length = L.length ∧ sz (getL cap L name no) = sz L ∧ checkC cap (getL cap L name no) = 0 := by
  obtain ⟨g1, g2, g3, g4⟩ := good_of_check h
  have e : getL cap L name no = (findC name no L).toList ++ dropC name no L := if_pos h
  cases hf : findC name no L with
  | none =>
    have hn : dropC name no L = L := drop_none fun x hx => by
      have := List.find?_eq_none.1 hf x hx
      simpa using this
    rw [e, hf, hn]
    exact ⟨rfl, rfl, h⟩
  | some x =>
    obtain ⟨hk, i, hi, rfl, hb⟩ := List.find?_eq_some_iff_getElem.1 hf
    have hd := dropC_erase g1 hi hk
    have hL : L = L.take i ++ (L[i] :: L.drop (i + 1)) := by rw [List.getElem_cons_drop, List.take_append_drop]
    have hsz : sz (L[i] :: (L.take i ++ L.drop (i + 1))) = sz L := by
      conv => rhs; rw [hL]
      rw [sz_cons, sz_append, sz_append, sz_cons]; omega
    have hk' : L[i].name = name ∧ L[i].no = no := by simpa [isK] using hk
    rw [e, hf, hd]
    refine ⟨?_, hsz, ?_⟩
    · conv => rhs; rw [hL]
      simp; omega
    · show checkC cap (L[i] :: (L.take i ++ L.drop (i + 1))) = 0
      rw [check_in g2 g3 (by rw [hsz]; exact g4)]
      have hc := cons_good (b := L[i].bs) g1 ((good_iff.1 g1).1 _ (List.getElem_mem hi))
      rw [hk'.1, hk'.2, hd] at hc
      have e2 : (⟨name, no, L[i].bs⟩ : Ch) = L[i] := by rw [← hk'.1, ← hk'.2]
      rw [e2] at hc
      unfold goodI
      rw [hc]; rfl

end Go.Proofs.Ythjohjijcgiogaa
