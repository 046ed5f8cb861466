/- The laws' small functions: Texts, Few, few, bytes. -/
import Derived.Test.YtnnmppnbkplamaaSum
namespace Go.Proofs.Ytnnmppnbkplamaa
open Go.RowKit Go.Shelf

theorem str_at {w : World} {A : Option Addr} {n c k : Nat} {l : List ByteArray} (i : Sl strK w A n c l) (hk : k < n) : ∃ b off, ∃ hl : k < l.length, A = some ⟨b, off, none⟩ ∧ b < w.heap.size ∧ w.cell? ⟨b, off + k, none⟩ = some (.string l[k]) := by
  obtain ⟨b, off, hl, rfl, hlt, hc⟩ := i.get hk
  refine ⟨b, off, hl, rfl, hlt, ?_⟩
  have := hc 0 (by decide)
  simpa [strK] using this

set_option maxHeartbeats 4000000 in
theorem texts_any (A : Option Addr) (n c : Nat) (l : List ByteArray) (A' : Option Addr) (n' c' : Nat) (l' : List ByteArray) (w : World) (h : Sl strK w A n c l) (h' : Sl strK w A' n' c' l') :
    Calls Try.prog 24 #[.slice A n c, .slice A' n' c'] w fun e w' => e = .returned (.bool (decide (l = l'))) ∧ Below w.heap.size w w' := by
  have HL := Lib.hid h.len
  have HL' := Lib.hid h'.len
  have hmax := h.max
  have hcap := h.cap
  by_cases hn : n = n'
  · subst hn
    have H := Lib.hid h
    have H' := Lib.hid h'
    clear h h'
    go_enter Try.func24, Try.ntmps24
    go_wp2_with fail
    go_loopg [5] n (fun gg s wr => ∃ k : Nat, k ≤ n ∧ n - k ≤ gg ∧ s = .int .i64 k ∧ Hid (Below w.heap.size w wr) ∧ Hid (∀ j, j < k → l[j]? = l'[j]?))
    case atStart => exact ⟨0, Nat.zero_le _, by omega, rfl, Lib.hid (Below.refl _ _), Lib.hid (fun j hj => absurd hj (Nat.not_lt_zero _))⟩
    case round =>
      obtain ⟨k, hk, hgg, rfl, hb, hp⟩ := hrel
      by_cases hlt : k < n
      · obtain ⟨b, off, hkl, rfl, hbl, x0⟩ := str_at (H.out.below hb.out) hlt
        obtain ⟨b', off', hkl', rfl, hbl', y0⟩ := str_at (H'.out.below hb.out) hlt
        have EV := Lib.hid (List.getElem?_eq_getElem hkl)
        have EV' := Lib.hid (List.getElem?_eq_getElem hkl')
        have B2 := Lib.hid (fun m : Nat => below_drewN (w := wr) (Below.refl wr.heap.size wr) m)
        generalize l[k] = x at *
        generalize l'[k] = y at *
        by_cases e1 : x = y
        · subst e1
          go_wp2_with fail
          go_quiet (fail)
          go_wp2_with fail
          go_roundg (n - (k + 1))
          case measure => omega
          case rel =>
            refine ⟨k + 1, by omega, by omega, by go_num, below_from (B2.out _) hb.out hb.out.size, Lib.hid (fun j hj => ?_)⟩
            by_cases ej : j = k
            · subst ej; rw [EV.out, EV'.out]
            · exact hp.out j (by omega)
        · have ne := str_ne e1
          go_wp2_with fail
          go_quiet (fail)
          go_wp2_with fail
          go_ret
          refine ⟨ret_bool ?_, below_from (B2.out _) hb.out hb.out.size⟩
          rw [eq_comm, decide_eq_false_iff_not]
          intro he
          have := EV.out
          rw [he, EV'.out] at this
          exact e1 (Option.some.inj this).symm
      · obtain rfl : k = n := by omega
        go_wp2_with fail
        go_ret
        refine ⟨ret_bool ?_, hb.out⟩
        rw [eq_comm, decide_eq_true_iff]
        refine List.ext_getElem? fun j => ?_
        by_cases hj : j < k
        · exact hp.out j hj
        · rw [List.getElem?_eq_none (by rw [HL.out]; omega), List.getElem?_eq_none (by rw [HL'.out]; omega)]
  · have hb : (n != n') = true := by simpa using hn
    have HN := Lib.hid (show decide (l = l') = false from by
      rw [decide_eq_false_iff_not]
      intro he
      have := congrArg List.length he
      rw [HL.out, HL'.out] at this
      exact hn this)
    clear h h'
    go_enter Try.func24, Try.ntmps24
    go_wp2_with fail
    go_ret
    exact ⟨ret_bool HN.out.symm, Below.refl _ _⟩

/-- Some truth value is answered. -/
def SomeB (e : Ending) : Prop := ∃ b, e = .returned (.bool b)

set_option maxHeartbeats 4000000 in
theorem fewS_any (A : Option Addr) (n c : Nat) (l : List Ob) (calls : Int) (A' : Option Addr) (n' c' : Nat) (w : World) (hl : Obs w A n c l) :
    Calls Try.prog 27 #[stV A n c calls A' n' c'] w fun e w' => SomeB e ∧ Below w.heap.size w w' := by
  have hmax := hl.max
  have hcap := hl.cap
  have B1 := Lib.hid (below_alloc1 w (.cells #[.slice A n c, .int .i64 calls, .slice A' n' c'] 25))
  have S1 := Lib.hid (Has.newAt w #[.slice A n c, .int .i64 calls, .slice A' n' c'] 25 (g := w.heap.size) rfl)
  have H := Lib.hid hl
  clear hl
  have q1 : n ≤ 60 ∨ (60 < n ∧ n ≤ 1024) ∨ 1024 < n := by omega
  have q2 : n' ≤ 60 ∨ (60 < n' ∧ n' ≤ 1024) ∨ 1024 < n' := by omega
  rcases q1 with q1 | ⟨q1, q1'⟩ | q1
  rotate_left 1
  · clear q2
    have d2 : decide ((60 : Int) < (n : Int)) = true := decide_eq_true (by omega)
    have d3 : decide ((n : Int) ≤ 1024) = true := decide_eq_true (by omega)
    go_enter Try.func27, Try.ntmps27
    go_wp2_with fail
    go_ret
    exact ⟨⟨_, rfl⟩, B1.out⟩
  all_goals
    rcases q2 with q2 | ⟨q2, q2'⟩ | q2
    rotate_left 1
    · go_enter Try.func27, Try.ntmps27
      go_wp2_with fail
      go_ret
      exact ⟨⟨_, rfl⟩, B1.out⟩
  all_goals
    go_enter Try.func27, Try.ntmps27
    go_wp2_with fail
    go_loopg [3] n (fun gg s wr => ∃ k : Nat, k ≤ n ∧ k ≤ 60 ∧ n - k ≤ gg ∧ s = .int .i64 k ∧ wr = w.alloc (.cells #[.slice A n c, .int .i64 calls, .slice A' n' c'] 25))
    case atStart => exact ⟨0, Nat.zero_le _, by omega, by omega, rfl, rfl⟩
    case round =>
      obtain ⟨k, hk, hk6, hgg, rfl, rfl⟩ := hrel
      by_cases hlt : k < n
      · by_cases h60 : k < 60
        · obtain ⟨b, off, hkl, rfl, hbl, x0, x1⟩ := Obs.at_ (H.out.alloc (.cells #[.slice A n c, .int .i64 calls, .slice A' n' c'] 25)) hlt
          generalize l[k] = x at *
          obtain ⟨xn, xA, xN, xC, xb⟩ := x
          simp only at x0 x1
          by_cases e1 : 6000 < xN
          · go_wp2_with fail
            go_ret
            exact ⟨⟨_, rfl⟩, B1.out⟩
          · by_cases e2 : 200 < xn.size
            · go_wp2_with fail
              go_ret
              exact ⟨⟨_, rfl⟩, B1.out⟩
            · go_wp2_with fail
              go_roundg (n - (k + 1))
              case measure => omega
              case rel => exact ⟨k + 1, by omega, by omega, by omega, by go_num, rfl⟩
        · have h60' : ¬ (k : Int) < 60 := by omega
          first | (exfalso; omega) | (go_wp2_with fail; go_ret; exact ⟨⟨_, rfl⟩, B1.out⟩)
      · obtain rfl : k = n := by omega
        first | (exfalso; omega) | (go_wp2_with fail; go_ret; exact ⟨⟨_, rfl⟩, B1.out⟩)

theorem few_any (A : Option Addr) (n c : Nat) (l : List Ob) (calls : Int) (A' : Option Addr) (n' c' : Nat) (s : ByteArray) (Ab : Option Addr) (mb kb : Nat) (w : World) (hl : Obs w A n c l) :
    Calls Try.prog 12 #[stV A n c calls A' n' c', .string s, .slice Ab mb kb] w fun e w' => SomeB e ∧ Below w.heap.size w w' := by
  have B1 := Lib.hid (below_alloc1 w (.cells #[.slice A n c, .int .i64 calls, .slice A' n' c'] 25))
  have FW := Lib.hid (fewS_any A n c l calls A' n' c' (w.alloc (.cells #[.slice A n c, .int .i64 calls, .slice A' n' c'] 25)) (hl.alloc _))
  clear hl
  have d1 : decide ((s.size : Int) ≤ 200) = true ∨ decide ((s.size : Int) ≤ 200) = false := by cases decide ((s.size : Int) ≤ 200) <;> simp
  have d2 : decide ((mb : Int) ≤ 9000) = true ∨ decide ((mb : Int) ≤ 9000) = false := by cases decide ((mb : Int) ≤ 9000) <;> simp
  rcases d1 with d1 | d1 <;> rcases d2 with d2 | d2
  all_goals
    go_enter Try.func12, Try.ntmps12
    go_wp2_with fail
    refine FW.out.mono ?_
    rintro e w2 ⟨⟨b, rfl⟩, hb2⟩
    have HB2 := Lib.hid (below_from hb2 B1.out B1.out.size)
    clear hb2
    cases b
    all_goals
      go_wp2_with fail
      go_ret
      exact ⟨⟨_, rfl⟩, HB2.out⟩

/-- What an object is, by a store without faults. -/
def byR (L : List Oc) (s : ByteArray) : List UInt8 × Bool := ((getR L 0 [] s).2.1, decide ((getR L 0 [] s).2.2 = 0))

set_option maxHeartbeats 4000000 in
theorem bytes_at (A : Option Addr) (n c : Nat) (l : List Ob) (calls : Int) (A' : Option Addr) (n' c' : Nat) (s : ByteArray) (w : World) {L : List Oc} {bs : List UInt8} {b : Bool} (hl : Obs w A n c l) (hv : l.map Ob.val = L) (hb : byR L s = (bs, b)) :
    Calls Try.prog 25 #[stV A n c calls A' n' c', .string s] w fun e w' => e = .returned (.tuple #[.string ⟨bs.toArray⟩, .bool b]) ∧ Below w.heap.size w w' := by
  obtain ⟨⟨L', C, fs'⟩, bs', E⟩ : Sx × List UInt8 × Int := getR L 0 [] s
  obtain ⟨r, hr⟩ : ∃ r, getR L 0 [] s = r := ⟨_, rfl⟩
  obtain ⟨⟨L', C, fs'⟩, bs', E⟩ := r
  unfold byR at hb
  rw [hr] at hb
  injection hb with h1 h2
  simp only at h1 h2
  subst h1
  obtain ⟨W1, hW1⟩ : ∃ W1, W1 = w.alloc (.cells #[.slice A n c, .int .i64 0, .slice none 0 0] 25) := ⟨_, rfl⟩
  have B1 := Lib.hid (show Below w.heap.size w W1 from by rw [hW1]; exact below_alloc1 w _)
  have GT := Lib.hid (get_at A n c l 0 none 0 0 [] s W1 (hl.below B1.out) (Sl.nil _ _) hv hr)
  have HW1 := Lib.hid hW1
  clear hl hW1 hr
  have hE : E = 0 ∨ ¬ E = 0 := by omega
  rcases hE with rfl | hE
  · obtain rfl : b = true := by rw [← h2]; rfl
    clear h2
    go_enter Try.func25, Try.ntmps25
    go_wp2_with fail
    rw [← HW1.out]
    refine GT.out.mono ?_
    intro e w2 hx
    obtain ⟨A1, n1, c1, l1, A2, n2, c2, A3, n3, c3, rfl, _, _, _, hs, _, hb2⟩ := hx
    have CV := conv_bs (P := Try.prog) (hs.alloc (.cells #[.slice A1 n1 c1, .int .i64 C, .slice A2 n2 c2] 25)) 26 Try.underlying26 Try.underlying5 Try.underlying9
    have B2 := Lib.hid ((below_from hb2 B1.out B1.out.size).alloc (below_from hb2 B1.out B1.out.size).size (.cells #[.slice A1 n1 c1, .int .i64 C, .slice A2 n2 c2] 25))
    clear hs hb2
    go_wp2_with fail
    go_ret2
    exact ⟨rfl, B2.out⟩
  · obtain rfl : b = false := by rw [← h2]; exact decide_eq_false hE
    have m0 : decide (E = 0) = false := decide_eq_false hE
    have m1 : (E == 0) = false := by rw [beq_eq_false_iff_ne]; exact hE
    clear h2
    go_enter Try.func25, Try.ntmps25
    go_wp2_with fail
    rw [← HW1.out]
    refine GT.out.mono ?_
    intro e w2 hx
    obtain ⟨A1, n1, c1, l1, A2, n2, c2, A3, n3, c3, rfl, _, _, _, hs, _, hb2⟩ := hx
    have CV := conv_bs (P := Try.prog) (hs.alloc (.cells #[.slice A1 n1 c1, .int .i64 C, .slice A2 n2 c2] 25)) 26 Try.underlying26 Try.underlying5 Try.underlying9
    have B2 := Lib.hid ((below_from hb2 B1.out B1.out.size).alloc (below_from hb2 B1.out B1.out.size).size (.cells #[.slice A1 n1 c1, .int .i64 C, .slice A2 n2 c2] 25))
    clear hs hb2
    go_wp2_with fail
    go_ret2
    exact ⟨rfl, B2.out⟩

end Go.Proofs.Ytnnmppnbkplamaa
