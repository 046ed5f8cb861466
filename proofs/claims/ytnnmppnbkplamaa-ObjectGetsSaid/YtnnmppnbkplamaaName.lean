/- Names: which texts are (strings.ContainsFunc at the program's own predicate). -/
import Derived.Test.YtnnmppnbkplamaaStr
import Derived.Laws.RangeString
import Derived.Laws.RangeAny
import Derived.Lib.OthersKept
import Derived.Lib.TrimU
import Derived.Shelf.Abstract
namespace Go.Proofs.Ytnnmppnbkplamaa
open Go.RowKit

/-- A byte that may stand in a name. -/
def fineB (b : UInt8) : Bool := decide (33 ≤ b.toNat ∧ b.toNat ≤ 126)
def fineS (s : ByteArray) : Bool := s.data.toList.all fineB
def nameC (s : ByteArray) : Bool := decide (0 < s.size ∧ s.size ≤ 64) && fineS s
theorem fine_at {s : ByteArray} (h : fineS s = true) {i : Nat} (hi : i < s.size) : fineB s[i] = true := by
  unfold fineS at h
  rw [List.all_eq_true] at h
  refine h _ ?_
  rw [Array.mem_toList_iff]
  exact Array.getElem_mem _
theorem fine_of {s : ByteArray} (h : ∀ i (hi : i < s.size), fineB s[i] = true) : fineS s = true := by
  unfold fineS
  rw [List.all_eq_true]
  intro b hb
  obtain ⟨i, hi, rfl⟩ := List.getElem_of_mem hb
  have hi' : i < s.size := by simpa using hi
  have := h i hi'
  rw [Array.getElem_toList]
  exact this

set_option maxHeartbeats 1000000 in
/-- The predicate: what may stand in no name. -/
theorem odd_any (r : Nat) (w : World) : Calls Try.prog 52 #[.int .i32 (r : Int)] w fun e w' => e = .returned (.bool (!decide (33 ≤ r ∧ r ≤ 126))) ∧ w = w' := by
  by_cases h1 : r < 33
  · have d : decide ((r : Int) < 33) = true := decide_eq_true (by omega)
    have e : decide (33 ≤ r ∧ r ≤ 126) = false := decide_eq_false (by omega)
    have f : r < 33 := h1
    rw [e]
    clear e
    go_enter Try.func52, Try.ntmps52
    go_wp2
    go_ret
    exact ⟨ret_bool (by first | rfl | simp), rfl⟩
  · have d : decide ((r : Int) < 33) = false := decide_eq_false (by omega)
    by_cases h2 : 126 < r
    · have d2 : decide ((126 : Int) < (r : Int)) = true := decide_eq_true (by omega)
      have e : decide (33 ≤ r ∧ r ≤ 126) = false := decide_eq_false (by omega)
      rw [e]
      clear e
      go_enter Try.func52, Try.ntmps52
      go_wp2
      go_ret
      exact ⟨ret_bool (by first | rfl | simp), rfl⟩
    · have d2 : decide ((126 : Int) < (r : Int)) = false := decide_eq_false (by omega)
      have e : decide (33 ≤ r ∧ r ≤ 126) = true := decide_eq_true (by omega)
      rw [e]
      clear e
      go_enter Try.func52, Try.ntmps52
      go_wp2
      go_ret
      exact ⟨ret_bool (by first | rfl | simp), rfl⟩

set_option maxHeartbeats 2000000 in
set_option maxRecDepth 100000 in
/-- strings.indexFunc, at that predicate. -/
theorem index_odd (s : ByteArray) (w : World) : Calls Try.prog 67 #[.string s, .func (.func 52) #[] #[], .bool true] w fun e w' => ∃ r : Int, e = .returned (.int .i64 r) ∧ decide (0 ≤ r) = !fineS s ∧ Below w.heap.size w w' := by
  go_enter Try.func67, Try.ntmps67
  go_wp2
  go_loopg [] s.size (fun gf wx => ∃ pos : Nat, wx.heap[w.heap.size]? = some (.stringIter s pos) ∧ Below w.heap.size w wx ∧ (∀ i (hi : i < s.size), i < pos → fineB s[i] = true) ∧ s.size ≤ pos + gf)
  case atStart => exact ⟨0, World.iter_heap w s 0, (Below.refl _ w).alloc (Nat.le_refl _) _, fun i hi h => absurd h (Nat.not_lt_zero _), by omega⟩
  case round =>
    obtain ⟨pos, hit, hbw, hfine, hfu⟩ := hrel
    by_cases hps : pos < s.size
    · have hnx : ∀ ty, (Instr.next (.pointer (some ⟨w.heap.size, 0, none⟩)) true ty).run Try.prog wr = _ := fun ty => Lib.run_next_any_at wr w.heap.size s pos ty hit hps
      have hwd := Lib.width_pos s pos
      have hlo : (s[pos]'hps).toNat < 128 → Utf8.decode s pos = ((s[pos]'hps).toNat, 1) := decode_ascii s pos hps
      have hhi : 128 ≤ (s[pos]'hps).toNat → 128 ≤ (Utf8.decode s pos).1 ∧ 1 ≤ (Utf8.decode s pos).2 := decode_high s pos hps
      obtain ⟨R, hR⟩ : ∃ R, (Utf8.decode s pos).1 = R := ⟨_, rfl⟩
      obtain ⟨K, hK⟩ : ∃ K, (Utf8.decode s pos).2 = K := ⟨_, rfl⟩
      have hfb : decide (33 ≤ R ∧ R ≤ 126) = fineB s[pos] ∧ (fineB s[pos] = true → K = 1) := by
        unfold fineB
        by_cases h : (s[pos]'hps).toNat < 128
        · have := hlo h
          rw [this] at hR hK
          exact ⟨by rw [← hR], fun _ => hK.symm⟩
        · have h3 := hhi (by omega)
          rw [hR] at h3
          refine ⟨by rw [decide_eq_false (by omega), decide_eq_false (by omega)], fun h4 => ?_⟩
          have := of_decide_eq_true h4
          omega
      rw [hR, hK] at hnx
      rw [hK] at hwd
      have hit2 := Lib.iterAt_heap wr w.heap.size s pos (pos + K) hit
      have hbw2 := Lib.below_iterAt hbw (k := w.heap.size) (Nat.le_refl _) s (pos + K)
      obtain ⟨W, hWd⟩ : ∃ W, wr.iterAt w.heap.size s (pos + K) = W := ⟨_, rfl⟩
      rw [hWd] at hnx hit2 hbw2
      have cS := odd_any R W
      rw [hfb.1] at cS
      have HF := Lib.hid hfb.2
      have HP := Lib.hid hfine
      clear hlo hhi hfb hfine
      cases hq : fineB (s[pos]'hps) with
      | true =>
        rw [hq] at cS
        have hk1 := HF.out hq
        subst hk1
        have HQ := Lib.hid hq
        clear hq
        go_wp2_with (refine cS.mono ?_; rintro e W' ⟨rfl, rfl⟩)
        go_roundg (gk - 1)
        case measure => omega
        case rel =>
          refine ⟨pos + 1, hit2, hbw2, fun i hi h => ?_, by omega⟩
          rcases Nat.lt_or_ge i pos with h1 | h1
          · exact HP.out i hi h1
          · obtain rfl : i = pos := by omega
            exact HQ.out
      | false =>
        rw [hq] at cS
        have HQ := Lib.hid hq
        clear hq
        go_wp2_with (refine cS.mono ?_; rintro e W' ⟨rfl, rfl⟩)
        go_ret
        refine ⟨_, rfl, ?_, hbw2⟩
        rw [decide_eq_true (by omega)]
        cases hf : fineS s with
        | false => rfl
        | true => rw [fine_at hf hps] at HQ; cases HQ.out
    · have hnx : ∀ ty, (Instr.next (.pointer (some ⟨w.heap.size, 0, none⟩)) true ty).run Try.prog wr = _ := fun ty => Lib.run_next_end_at wr w.heap.size s pos ty hit hps
      go_wp2
      go_ret
      exact ⟨-1, rfl, by rw [fine_of (fun i hi => hfine i hi (by omega))]; rfl, hbw⟩

/-- strings.IndexFunc, strings.ContainsFunc, at that predicate. -/
theorem indexfunc_odd (s : ByteArray) (w : World) : Calls Try.prog 62 #[.string s, .func (.func 52) #[] #[]] w fun e w' => ∃ r : Int, e = .returned (.int .i64 r) ∧ decide (0 ≤ r) = !fineS s ∧ Below w.heap.size w w' := by
  go_enter Try.func62, Try.ntmps62
  go_wp2_with (go_at_call 67; refine (index_odd s _).mono ?_; rintro e w1 ⟨r, rfl, hr, hb⟩; have HR := Lib.hid hr; have HB := Lib.hid hb; clear hr hb)
  go_ret
  exact ⟨r, rfl, HR.out, HB.out⟩
theorem contains_odd (s : ByteArray) (w : World) : Calls Try.prog 51 #[.string s, .func (.func 52) #[] #[]] w fun e w' => e = .returned (.bool (!fineS s)) ∧ Below w.heap.size w w' := by
  go_enter Try.func51, Try.ntmps51
  go_wp2_with (go_at_call 62; refine (indexfunc_odd s _).mono ?_; rintro e w1 ⟨r, rfl, hr, hb⟩; have HR := Lib.hid hr; have HB := Lib.hid hb; clear hr hb)
  go_ret
  exact ⟨ret_bool HR.out, HB.out⟩

set_option maxHeartbeats 1000000 in
/-- Whether a text is a name. -/
theorem name_any (s : ByteArray) (w : World) : Calls Try.prog 29 #[.string s] w fun e w' => e = .returned (.bool (nameC s)) ∧ Below w.heap.size w w' := by
  have CT := Lib.hid (fun w' => contains_odd s w')
  have hn : Hid (nameC s = (decide (0 < s.size ∧ s.size ≤ 64) && fineS s)) := Lib.hid rfl
  by_cases h0 : s = ⟨#[]⟩
  · subst h0
    clear hn CT
    go_enter Try.func29, Try.ntmps29
    go_wp2
    go_ret
    exact ⟨ret_bool (by rfl), Below.refl _ _⟩
  · have hs : 0 < s.size := by
      apply Nat.pos_of_ne_zero
      intro e
      apply h0
      cases s with
      | mk d =>
        have : d = #[] := Array.size_eq_zero_iff.1 e
        rw [this]
    have ie : s.toList.isEmpty = false := by
      rw [Lib.toList_data]
      cases h : s.data.toList with
      | nil =>
        exfalso
        have h2 : s.data.toList.length = s.size := Array.length_toList
        rw [h, List.length_nil] at h2
        omega
      | cons a l => rfl
    by_cases h1 : s.size ≤ 64
    · have d1 : decide ((s.size : Int) ≤ 64) = true := decide_eq_true (by omega)
      have H := Lib.hid (And.intro hs h1)
      clear h0
      go_enter Try.func29, Try.ntmps29
      go_wp2_with (go_at_call 51; refine (CT.out _).mono ?_; rintro e w1 ⟨rfl, hb⟩; have HB := Lib.hid hb; clear hb)
      go_ret
      exact ⟨ret_bool (by rw [hn.out, decide_eq_true H.out]; simp), HB.out⟩
    · have d1 : decide ((s.size : Int) ≤ 64) = false := decide_eq_false (by omega)
      have H := Lib.hid h1
      clear h0
      go_enter Try.func29, Try.ntmps29
      go_wp2
      go_ret
      exact ⟨ret_bool (by rw [hn.out, decide_eq_false (fun h => H.out h.2)]; simp), Below.refl _ _⟩

end Go.Proofs.Ytnnmppnbkplamaa
