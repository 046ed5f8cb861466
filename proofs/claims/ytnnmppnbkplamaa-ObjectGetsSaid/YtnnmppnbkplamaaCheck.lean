/- Check, of the program: whether a store may be. -/
import Derived.Test.YtnnmppnbkplamaaName
import Derived.Test.YtnnmppnbkplamaaIdx
import Derived.Test.YtnnmppnbkplamaaAt
namespace Go.Proofs.Ytnnmppnbkplamaa
open Go.RowKit Go.Shelf

/-- A fault that may not be. -/
def oddF (f : Ft) : Bool := decide (f.call < 0) || (decide (f.kind < 1) || decide (3 < f.kind))
set_option maxHeartbeats 1000000 in
theorem check1_any (f : Ft) (w : World) : Calls Try.prog 45 #[.agg #[.int .i64 f.call, .int .i64 f.kind]] w fun e w' => e = .returned (.bool (oddF f)) ∧ Below w.heap.size w w' := by
  obtain ⟨c, k⟩ := f
  have H : Hid (oddF ⟨c, k⟩ = (decide (c < 0) || (decide (k < 1) || decide (3 < k)))) := Lib.hid rfl
  have B := Lib.hid (below_alloc1 w (.cells #[.int .i64 c, .int .i64 k] 48))
  rw [H.out]
  clear H
  cases h1 : decide (c < 0) <;> cases h2 : decide (k < 1) <;> cases h3 : decide (3 < k)
  all_goals (go_enter Try.func45, Try.ntmps45; go_wp2; go_ret; exact ⟨ret_bool (by first | rfl | simp), B.out⟩)
theorem containsFt (A : Option Addr) (n c : Nat) (l : List Ft) (w : World) (hl : Fts w A n c l) (hn : n ≤ 60000) :
    Calls Try.prog 46 #[.slice A n c, .func (.func 45) #[] #[]] w fun e w' => e = .returned (.bool (l.any oddF)) ∧ Below w.heap.size w w' := by
  have hlen := hl.len
  have IX := Lib.hid (indexFt A n c l w 45 #[] (fun _ W => Below w.heap.size w W) (fun k => ((l[k]?).map oddF).getD false) (enters_of Try.func45 (by kernel_rfl) rfl) (by omega) (Below.refl _ _) (fun j W hW => hl.below hW)
    (fun j hj W hW => (check1_any l[j] W).mono fun e w' ⟨he, hb⟩ => ⟨by rw [List.getElem?_eq_getElem hj]; exact he, below_from hb hW hW.size⟩))
  have HLEN := Lib.hid hlen
  clear hl hlen
  go_enter Try.func46, Try.ntmps46
  go_wp2_with (go_at_call 53; refine IX.out.mono ?_; rintro e w1 ⟨r, rfl, hf⟩; have HF := Lib.hid hf; clear hf)
  go_ret
  rcases HF.out with ⟨rfl, h1, h2⟩ | ⟨k, rfl, h1, h2, _, h3⟩
  · refine ⟨ret_bool ?_, h2⟩
    have : l.any oddF = false := by
      rw [List.any_eq_false]
      intro x hx
      obtain ⟨j, hj, rfl⟩ := List.getElem_of_mem hx
      have := h1 j (by rw [← HLEN.out]; exact hj)
      simp only [List.getElem?_eq_getElem hj, Option.map_some, Option.getD_some] at this
      rw [this]; decide
    rw [this]
    rfl
  · refine ⟨ret_bool ?_, h3⟩
    have : l.any oddF = true := by
      have hk : k < l.length := by rw [HLEN.out]; exact h1
      simp only [List.getElem?_eq_getElem hk, Option.map_some, Option.getD_some] at h2
      exact List.any_eq_true.2 ⟨_, List.getElem_mem hk, h2⟩
    rw [this]
    exact decide_eq_true (by omega)

theorem less_eq : ∀ (a b : List UInt8), Op.bytesLess a b = decide (Lib.compareBytes a b < 0)
  | [], [] => rfl
  | [], _ :: _ => by simp [Op.bytesLess, Lib.compareBytes]
  | _ :: _, [] => by simp [Op.bytesLess, Lib.compareBytes]
  | a :: xs, b :: ys => by
    have ih := less_eq xs ys
    unfold Lib.compareBytes
    by_cases h1 : a < b
    · rw [if_pos h1]; simp [Op.bytesLess, h1]
    · rw [if_neg h1]
      by_cases h2 : b < a
      · have hne : ¬ a = b := fun e => by subst e; exact UInt8.lt_irrefl _ h2
        rw [if_pos h2]; simp [Op.bytesLess, h1, hne]
      · rw [if_neg h2, ← ih]
        have e : a = b := UInt8.le_antisymm (UInt8.not_lt.1 h2) (UInt8.not_lt.1 h1)
        subst e
        simp [Op.bytesLess]
/-- Is a text no later than another one? -/
def leS (a b : ByteArray) : Bool := Op.bytesLess a.toList b.toList || a.toList == b.toList
theorem leS_eq (a b : ByteArray) : leS a b = decide (¬ cmpS b a < 0) := by
  have hv := cmpB_vals a.data.toList b.data.toList
  have hs : cmpS b a = - cmpS a b := cmpS_swap a b
  have he : (a.toList == b.toList) = decide (cmpS a b = 0) := by
    rw [Bool.eq_iff_iff, beq_iff_eq, decide_eq_true_iff, cmpS_eq]
    refine ⟨fun h => ?_, fun h => by rw [h]⟩
    apply Classical.byContradiction
    intro hne
    exact str_ne' hne h
  unfold leS
  rw [Lib.toList_data, Lib.toList_data, less_eq]
  rw [Lib.toList_data, Lib.toList_data] at he
  rw [he]
  unfold cmpS at hs ⊢
  rw [hs]
  rw [Bool.eq_iff_iff, Bool.or_eq_true, decide_eq_true_iff, decide_eq_true_iff, decide_eq_true_iff]
  omega

/-- What stands ahead of an object; whether it may not be; what Check answers. -/
def preS (L : List Oc) (k : Nat) : ByteArray := if k = 0 then ⟨#[]⟩ else ((L[k - 1]?).map (·.name)).getD ⟨#[]⟩
def badO (L : List Oc) (k : Nat) : Bool := ((L[k]?).map fun o => !nameC o.name || (leS o.name (preS L k) || decide (8192 < o.bs.length))).getD false
def objE (L : List Oc) : Int := if (List.range L.length).any (badO L) = true then 1 else 0
def checkO (L : List Oc) (calls : Int) (fs : List Ft) : Int :=
  if 1024 < L.length ∨ 1024 < fs.length then 2 else if calls < 0 ∨ 1099511627776 ≤ calls ∨ fs.any oddF = true then 1 else objE L
theorem objE_bad {L : List Oc} {k : Nat} (hk : k < L.length) (h : badO L k = true) : objE L = 1 := by
  unfold objE
  rw [if_pos (List.any_eq_true.2 ⟨k, List.mem_range.2 hk, h⟩)]
theorem objE_ok {L : List Oc} (h : ∀ k, k < L.length → badO L k = false) : objE L = 0 := by
  unfold objE
  rw [if_neg]
  rw [Bool.not_eq_true, List.any_eq_false]
  intro k hk
  rw [h k (List.mem_range.1 hk)]
  decide
theorem preS_succ {L : List Oc} {k : Nat} {o : Oc} (h : L[k]? = some o) : preS L (k + 1) = o.name := by
  unfold preS
  rw [if_neg (by omega), Nat.add_sub_cancel, h]
  rfl

set_option maxRecDepth 100000 in
set_option maxHeartbeats 4000000 in
theorem check_in (A : Option Addr) (n c : Nat) (l : List Ob) (calls : Int) (A' : Option Addr) (n' c' : Nat) (fs : List Ft) (w : World) (hl : Obs w A n c l) (hf : Fts w A' n' c' fs) (h1 : ¬ 1024 < n) (h2 : ¬ 1024 < n') (h3 : ¬ calls < 0) (h4 : ¬ 1099511627776 ≤ calls) (h5 : fs.any oddF = false) :
    Calls Try.prog 18 #[.agg #[.slice A n c, .int .i64 calls, .slice A' n' c']] w fun e w' => e = .returned (.int .i64 (objE (l.map Ob.val))) ∧ Below w.heap.size w w' := by
  have B0 := Lib.hid (below_alloc1 w (.cells #[.slice A n c, .int .i64 calls, .slice A' n' c'] 25))
  have S0 := Lib.hid (Has.newAt w #[.slice A n c, .int .i64 calls, .slice A' n' c'] 25 (g := w.heap.size) rfl)
  have CF := Lib.hid (fun W (hW : Below w.heap.size w W) => (show Calls Try.prog 46 #[.slice A' n' c', .func (.func 45) #[] #[]] W _ from by have := containsFt A' n' c' fs W (hf.below hW) (by omega); rw [h5] at this; exact this))
  have HL := Lib.hid hl
  have HLEN := Lib.hid hl.len
  have NM := Lib.hid name_any
  have d1 : decide ((1024 : Int) < (n : Int)) = false := decide_eq_false (by omega)
  have d2 : decide ((1024 : Int) < (n' : Int)) = false := decide_eq_false (by omega)
  have d3 : decide (calls < 0) = false := decide_eq_false h3
  have d4 : decide (1099511627776 ≤ calls) = false := decide_eq_false h4
  clear hl hf h5
  obtain ⟨L, hL⟩ : ∃ L, L = l.map Ob.val := ⟨_, rfl⟩
  rw [← hL]
  have LL := Lib.hid hL
  clear hL
  go_enter Try.func18, Try.ntmps18
  go_wp2_with (go_at_call 46; refine (CF.out _ B0.out).mono ?_; rintro e w1 ⟨rfl, hb⟩; have HB1 := Lib.hid (below_from hb B0.out B0.out.size); have S1 := Lib.hid (S0.out.past hb); have s1c := S1.out.cell; have s1l := S1.out.lt; clear hb)
  go_loopg [4, 34] n (fun gg s4 s34 wr => ∃ (k : Nat) (last : ByteArray), k ≤ n ∧ n - k ≤ gg ∧ s4 = .string last ∧ s34 = .int .i64 k ∧ Hid (last = preS L k) ∧ Hid (∀ j, j < k → badO L j = false) ∧ Hid (Below w.heap.size w wr))
  case atStart => exact ⟨0, ⟨#[]⟩, Nat.zero_le _, by omega, rfl, rfl, rfl, Lib.hid (fun j hj => absurd hj (Nat.not_lt_zero _)), HB1⟩
  case round =>
    obtain ⟨k, last, hk, hgg, rfl, rfl, hla, hok, hb⟩ := hrel
    by_cases hlt : k < n
    · obtain ⟨b, off, hkl, rfl, hbl, c0, c1⟩ := Obs.at_ (HL.out.below hb.out) hlt
      obtain ⟨x, hx⟩ : ∃ x, l[k] = x := ⟨_, rfl⟩
      rw [hx] at c0 c1
      have XI := Lib.hid (show Ob.In w x from by rw [← hx]; exact HL.out.each l[k] (List.getElem_mem hkl))
      have LK := Lib.hid (show L[k]? = some x.val from by rw [LL.out, List.getElem?_map, List.getElem?_eq_getElem hkl, hx]; rfl)
      have KL := Lib.hid (show k < L.length from by rw [LL.out, List.length_map]; exact hkl)
      clear hx hkl
      obtain ⟨nm, xA, xn, xc, xb⟩ := x
      have XL := Lib.hid (show xb.length = xn from XI.out.sl.len)
      simp only at c0 c1
      have BAD := Lib.hid (show badO L k = (!nameC nm || (leS nm last || decide (8192 < xn))) from by unfold badO; rw [LK.out, hla.out, ← XL.out]; rfl)
      have hbox := Lib.hid (Has.newAt wr #[.string nm, .slice xA xn xc] 59 (g := wr.heap.size) rfl)
      have B1 := Lib.hid (hb.out.alloc hb.out.size (.cells #[.string nm, .slice xA xn xc] 59))
      have bxc := hbox.out.cell
      have bxl := hbox.out.lt
      cases hnm : nameC nm with
      | false =>
        have N1 := Lib.hid (fun W => by have := NM.out nm W; rw [hnm] at this; exact this)
        rw [hnm] at BAD
        clear hnm
        go_wp2_with (go_at_call 29; refine (N1.out _).mono ?_; rintro e w2 ⟨rfl, hb2⟩; have B2 := Lib.hid (below_from hb2 B1.out B1.out.size); have bx2 := (hbox.out.past hb2).cell; clear hb2)
        go_ret
        exact ⟨ret_int (objE_bad KL.out (by rw [BAD.out]; rfl)).symm, B2.out⟩
      | true =>
        have N1 := Lib.hid (fun W => by have := NM.out nm W; rw [hnm] at this; exact this)
        rw [hnm] at BAD
        clear hnm
        cases hq : Op.bytesLess nm.toList last.toList with
        | true =>
          have LS := Lib.hid (show leS nm last = true from by unfold leS; rw [hq]; rfl)
          go_wp2_with (go_at_call 29; refine (N1.out _).mono ?_; rintro e w2 ⟨rfl, hb2⟩; have B2 := Lib.hid (below_from hb2 B1.out B1.out.size); have bx2 := (hbox.out.past hb2).cell; have bl2 := (hbox.out.past hb2).lt; clear hb2)
          go_ret
          exact ⟨ret_int (objE_bad KL.out (by rw [BAD.out, LS.out]; rfl)).symm, B2.out⟩
        | false =>
          cases hr : (nm.toList == last.toList) with
          | true =>
            have LS := Lib.hid (show leS nm last = true from by unfold leS; rw [hq, hr]; rfl)
            go_wp2_with (go_at_call 29; refine (N1.out _).mono ?_; rintro e w2 ⟨rfl, hb2⟩; have B2 := Lib.hid (below_from hb2 B1.out B1.out.size); have bx2 := (hbox.out.past hb2).cell; have bl2 := (hbox.out.past hb2).lt; clear hb2)
            go_ret
            exact ⟨ret_int (objE_bad KL.out (by rw [BAD.out, LS.out]; rfl)).symm, B2.out⟩
          | false =>
            have LS := Lib.hid (show leS nm last = false from by unfold leS; rw [hq, hr]; rfl)
            by_cases h8 : 8192 < xn
            · have e8 : decide ((8192 : Int) < (xn : Int)) = true := decide_eq_true (by omega)
              have H8 := Lib.hid h8
              go_wp2_with (go_at_call 29; refine (N1.out _).mono ?_; rintro e w2 ⟨rfl, hb2⟩; have B2 := Lib.hid (below_from hb2 B1.out B1.out.size); have bx2 := (hbox.out.past hb2).cell; have bl2 := (hbox.out.past hb2).lt; clear hb2)
              go_ret
              exact ⟨ret_int (objE_bad KL.out (by rw [BAD.out, LS.out, decide_eq_true H8.out]; rfl)).symm, B2.out⟩
            · have e8 : decide ((8192 : Int) < (xn : Int)) = false := decide_eq_false (by omega)
              have H8 := Lib.hid h8
              go_wp2_with (go_at_call 29; refine (N1.out _).mono ?_; rintro e w2 ⟨rfl, hb2⟩; have B2 := Lib.hid (below_from hb2 B1.out B1.out.size); have bx2 := (hbox.out.past hb2).cell; have bl2 := (hbox.out.past hb2).lt; clear hb2)
              go_roundg (n - (k + 1))
              case measure => omega
              case rel =>
                refine ⟨k + 1, nm, by omega, by omega, rfl, by go_num, Lib.hid (preS_succ LK.out).symm, Lib.hid (fun j hj => ?_), B2⟩
                rcases Nat.lt_or_ge j k with h | h
                · exact hok.out j h
                · obtain rfl : j = k := by omega
                  rw [BAD.out, LS.out, decide_eq_false H8.out]; rfl
    · obtain rfl : k = n := by omega
      go_wp2_with fail
      go_ret
      exact ⟨ret_int (objE_ok (fun j hj => hok.out j (by rw [LL.out, List.length_map, HLEN.out] at hj; exact hj))).symm, hb.out⟩

end Go.Proofs.Ytnnmppnbkplamaa
