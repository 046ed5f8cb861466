/- CacheThere of layer 16: the walk. -/
import Derived.Test.YthjohjijcgiogaaLooks
import Derived.Test.YthjohjijcgiogaaGet
import Derived.Test.YthjohjijcgiogaaPlain2
namespace Go.Proofs.Ythjohjijcgiogaa
open Go.RowKit

theorem put_len {cap : Int} {L : List Ch} {name : ByteArray} {no : Int} {b : List UInt8} : (putL cap L name no b).length ≤ L.length + 1 := by
  have hd := (drop_sub name no L).length_le
  unfold putL
  split
  · split
    · omega
    · have := (fit_sub (⟨name, no, b⟩ :: dropC name no L) cap).length_le
      simp at this
      omega
  · simp

/-- Why a Put fails. -/
theorem putE_why {cap : Int} {L : List Ch} {name : ByteArray} {no : Int} (h : putE cap L name no = 1) : checkC cap L = 1 ∨ (checkC cap L = 0 ∧ mayK name no = false) := by
  rcases putE_cases cap L name no with ⟨h1, h2⟩ | ⟨h1, h2, h3⟩ | ⟨h1, h2, h3⟩
  · exact .inl h1
  · exact .inr ⟨h1, h2⟩
  · omega
theorem putE_two (cap : Int) (L : List Ch) (name : ByteArray) (no : Int) : putE cap L name no = 0 ∨ putE cap L name no = 1 := by
  rcases putE_cases cap L name no with ⟨_, h⟩ | ⟨_, _, h⟩ | ⟨_, _, h⟩ <;> omega

/-- The first of a cache's chunks, where it is known. -/
theorem first_of {w : World} {A : Option Addr} {n c : Nat} {l : List Hd} {name : ByteArray} {no : Int} {b : List UInt8} {r : List Ch} (h : Hds w A n c l) (hv : l.map Hd.val = ⟨name, no, b⟩ :: r) :
    ∃ k, n = k + 1 ∧ ∃ b off, A = some ⟨b, off, none⟩ ∧ ∀ w', Below w.heap.size w w' → w'.cell? ⟨b, off, none⟩ = some (.string name) ∧ w'.cell? ⟨b, off + 1, none⟩ = some (.int .i64 no) := by
  have hl : l.length = r.length + 1 := by rw [← List.length_map (f := Hd.val), hv]; rfl
  have hn : n = r.length + 1 := by rw [← h.len]; exact hl
  obtain ⟨b, off, hk, e, hlt, x0, x1, _⟩ := Hds.at_ h (show 0 < n by omega)
  have e1 : (l.map Hd.val)[0]? = some l[0].val := by rw [List.getElem?_map, List.getElem?_eq_getElem hk]; rfl
  rw [hv] at e1
  have e2 := Option.some.inj e1
  have n0 : l[0].name = name := (congrArg Ch.name e2).symm
  have n1 : l[0].no = no := (congrArg Ch.no e2).symm
  rw [n0] at x0
  rw [n1] at x1
  simp only [Nat.zero_mul, Nat.add_zero] at x0 x1
  exact ⟨r.length, hn, b, off, e, fun w' hb => ⟨(hb.cell (p := ⟨b, off, none⟩) hlt).trans x0, (hb.cell (p := ⟨b, off + 1, none⟩) hlt).trans x1⟩⟩

set_option maxHeartbeats 4000000 in
set_option maxRecDepth 100000 in
theorem there_any (cap : Int) (A : Option Addr) (n c : Nat) (l : List Hd) (name : ByteArray) (no : Int) (A' : Option Addr) (n' c' : Nat) (bs : List UInt8) (w : World) (hl : Hds w A n c l) (hbs : Sl u8K w A' n' c' bs)
    (hnm : name.size ≤ maxLen) (hno : (Lit.int .i64 no).wf = true) :
    Calls Try.prog 5 #[.agg #[.int .i64 cap, .slice A n c], .string name, .int .i64 no, .slice A' n' c'] w fun e w' => e = .returned (.bool true) ∧ Below w.heap.size w w' := by
  have B0 := Lib.hid (below_alloc1 w (.cells #[.int .i64 cap, .slice A n c] 24))
  have N2 := Lib.hid (Has.newAt w #[.int .i64 cap, .slice A n c] 24 (g := w.heap.size) rfl)
  have FW := Lib.hid (fun w' (hb : Below w.heap.size w w') => few_any cap A n c l w' (hl.below hb))
  cases hf : fewC (l.map Hd.val) with
  | false =>
    rw [hf] at FW
    clear hl hf hbs
    go_enter Try.func5, Try.ntmps5
    go_wp2_with (first | (go_at_call 11; refine (live_any _).mono ?_; rintro e w1 ⟨rfl, hb1⟩; have HB1 := Lib.hid (below_from hb1 B0.out B0.out.size); have M2 := N2.out.past hb1; have c2 := M2.cell; have m2 := M2.lt; clear M2 hb1) | (go_at_call 12; refine (FW.out _ HB1.out).mono ?_; rintro e w2 ⟨rfl, hb2⟩; have HB2 := Lib.hid (below_from hb2 HB1.out HB1.out.size); clear hb2))
    go_ret
    exact ⟨rfl, HB2.out⟩
  | true =>
    rw [hf] at FW
    by_cases h5 : 5000 < n'
    · clear hl hf hbs
      go_enter Try.func5, Try.ntmps5
      go_wp2_with (first | (go_at_call 11; refine (live_any _).mono ?_; rintro e w1 ⟨rfl, hb1⟩; have HB1 := Lib.hid (below_from hb1 B0.out B0.out.size); have M2 := N2.out.past hb1; have c2 := M2.cell; have m2 := M2.lt; clear M2 hb1) | (go_at_call 12; refine (FW.out _ HB1.out).mono ?_; rintro e w2 ⟨rfl, hb2⟩; have HB2 := Lib.hid (below_from hb2 HB1.out HB1.out.size); clear hb2))
      go_ret
      exact ⟨rfl, HB2.out⟩
    · have hn := (few_le hl hf).1
      have HL := Lib.hid hl
      have HS := Lib.hid hbs
      have PT := Lib.hid (fun w' (hb : Below w.heap.size w w') => put_any cap A n c l name no A' n' c' bs w' (hl.below hb) (by omega) (hbs.below hb) hnm hno)
      have CK := Lib.hid (fun w' (hb : Below w.heap.size w w') => check_any cap A n c l w' (hl.below hb) (by omega))
      rcases putE_two cap (l.map Hd.val) name no with hp | hp
      · obtain ⟨q1, q2, q3⟩ := put_check (b := bs) hp
        have pg := put_get (b := bs) hp
        have hlen' := hbs.len
        have hpl : (putL cap (l.map Hd.val) name no bs).length ≤ 61 := by
          have := put_len (cap := cap) (L := l.map Hd.val) (name := name) (no := no) (b := bs)
          rw [List.length_map, hl.len] at this
          omega
        rw [hp, show putCap cap (l.map Hd.val) name no = cap from if_pos hp] at PT
        have GT := Lib.hid (fun (A1 : Option Addr) (n1 c1 : Nat) (l1 : List Hd) (w' : World) (h : Hds w' A1 n1 c1 l1) (h2 : l1.map Hd.val = putL cap (l.map Hd.val) name no bs) => (show Calls Try.prog 21 #[.agg #[.int .i64 cap, .slice A1 n1 c1], .string name, .int .i64 no] w' _ from by
          have h3 : n1 ≤ 61 := by rw [← h.len, ← List.length_map (f := Hd.val), h2]; exact hpl
          have hg := get_any cap A1 n1 c1 l1 name no w' h (by omega)
          rw [h2, show capC cap (putL cap (l.map Hd.val) name no bs) = cap from if_pos q1] at hg
          exact hg))
        by_cases hb : cap < bs.length
        · obtain ⟨g1, g2, g3⟩ := pg.1 hb
          rw [g1, g2, g3] at GT
          rw [hlen'] at hb
          clear hl hbs hf hp pg g1 g2 g3 q1 q2 q3 CK
          go_enter Try.func5, Try.ntmps5
          go_wp2_with (first | (go_at_call 11; refine (live_any _).mono ?_; rintro e w1 ⟨rfl, hb1⟩; have HB1 := Lib.hid (below_from hb1 B0.out B0.out.size); have M2 := Lib.hid (N2.out.past hb1); have c2 := M2.out.cell; have m2 := M2.out.lt; clear hb1) | (go_at_call 12; refine (FW.out _ HB1.out).mono ?_; rintro e w2 ⟨rfl, hb2⟩; have HB2 := Lib.hid (below_from hb2 HB1.out HB1.out.size); have M3 := Lib.hid (M2.out.past hb2); clear hb2 c2 m2; have c3 := M3.out.cell; have m3 := M3.out.lt) | (go_at_call 20; refine (PT.out _ HB2.out).mono ?_; intro e w3 hx; obtain ⟨A1, n1, c1, l1, rfl, hh1, hv1, hb3, _⟩ := hx; clear c3 m3; have HB3 := Lib.hid (below_from hb3 HB2.out HB2.out.size); have M4 := Lib.hid ((M3.out.past hb3).alloc (.cells #[.int .i64 cap, .slice A1 n1 c1] 24)); have X4 := Lib.hid (Has.newAt w3 #[.int .i64 cap, .slice A1 n1 c1] 24 (g := w3.heap.size) rfl); have HB4 := Lib.hid (HB3.out.alloc HB3.out.size (.cells #[.int .i64 cap, .slice A1 n1 c1] 24)); have H4 := Lib.hid (hh1.alloc (.cells #[.int .i64 cap, .slice A1 n1 c1] 24)); have V1 := Lib.hid hv1; clear hh1 hv1 hb3) | (go_at_call 21; refine (GT.out A1 n1 c1 l1 _ H4.out V1.out).mono ?_; intro e w5 hx; obtain ⟨A2, n2, c2, l2, A3, n3, c3', rfl, hh2, hv2, hs3, hb5, _⟩ := hx; have n30 : n3 = 0 := (by rw [← hs3.len]; rfl); subst n30; have HB5 := Lib.hid (below_from hb5 HB4.out HB4.out.size); have M6 := Lib.hid ((M4.out.past hb5).alloc (.cells #[.int .i64 cap, .slice A2 n2 c2] 24)); have X6 := Lib.hid ((X4.out.past hb5).alloc (.cells #[.int .i64 cap, .slice A2 n2 c2] 24)); have Y6 := Lib.hid (Has.newAt w5 #[.int .i64 cap, .slice A2 n2 c2] 24 (g := w5.heap.size) rfl); have HB6 := Lib.hid (HB5.out.alloc HB5.out.size (.cells #[.int .i64 cap, .slice A2 n2 c2] 24)); have c6 := M6.out.cell; have m6 := M6.out.lt; have x6 := X6.out.cell; have xm6 := X6.out.lt; have y6 := Y6.out.cell; have ym6 := Y6.out.lt; have HS6 := Lib.hid (hs3.alloc (.cells #[.int .i64 cap, .slice A2 n2 c2] 24)); have HSA := Lib.hid (HS.out.below HB6.out); have SM := Lib.hid (same_any cap A1 n1 c1 l1 cap A2 n2 c2 l2 _ ((H4.out.below hb5).alloc (.cells #[.int .i64 cap, .slice A2 n2 c2] 24)) (hh2.alloc (.cells #[.int .i64 cap, .slice A2 n2 c2] 24))); rw [same_true rfl (V1.out.trans hv2.symm)] at SM; clear hh2 hv2 hs3 hb5 ) | (go_at_call 19; refine SM.out.mono ?_; rintro e w7 ⟨rfl, hb7⟩; have HB7 := Lib.hid (below_from hb7 HB6.out HB6.out.size); have M7 := Lib.hid (M6.out.past hb7); have X7 := Lib.hid (X6.out.past hb7); clear c6 m6 x6 xm6 y6 ym6; have x7 := X7.out.cell; have xm7 := X7.out.lt; clear hb7))
          go_ret
          exact ⟨ret_bool (by rfl), HB7.out⟩
        · obtain ⟨g1, g2, g3, r, g4, _⟩ := pg.2 hb
          rw [g1, g2, g3] at GT
          rw [hlen'] at hb
          have G4 := Lib.hid g4
          clear hl hbs hf hp pg g1 g2 g3 g4 q1 q2 q3 CK
          go_enter Try.func5, Try.ntmps5
          go_wp2_with (first | (go_at_call 11; refine (live_any _).mono ?_; rintro e w1 ⟨rfl, hb1⟩; have HB1 := Lib.hid (below_from hb1 B0.out B0.out.size); have M2 := Lib.hid (N2.out.past hb1); have c2 := M2.out.cell; have m2 := M2.out.lt; clear hb1) | (go_at_call 12; refine (FW.out _ HB1.out).mono ?_; rintro e w2 ⟨rfl, hb2⟩; have HB2 := Lib.hid (below_from hb2 HB1.out HB1.out.size); have M3 := Lib.hid (M2.out.past hb2); clear hb2 c2 m2; have c3 := M3.out.cell; have m3 := M3.out.lt) | (go_at_call 20; refine (PT.out _ HB2.out).mono ?_; intro e w3 hx; obtain ⟨A1, n1, c1, l1, rfl, hh1, hv1, hb3, _⟩ := hx; clear c3 m3; have HB3 := Lib.hid (below_from hb3 HB2.out HB2.out.size); have M4 := Lib.hid ((M3.out.past hb3).alloc (.cells #[.int .i64 cap, .slice A1 n1 c1] 24)); have X4 := Lib.hid (Has.newAt w3 #[.int .i64 cap, .slice A1 n1 c1] 24 (g := w3.heap.size) rfl); have HB4 := Lib.hid (HB3.out.alloc HB3.out.size (.cells #[.int .i64 cap, .slice A1 n1 c1] 24)); have H4 := Lib.hid (hh1.alloc (.cells #[.int .i64 cap, .slice A1 n1 c1] 24)); have V1 := Lib.hid hv1; clear hh1 hv1 hb3) | (go_at_call 21; refine (GT.out A1 n1 c1 l1 _ H4.out V1.out).mono ?_; intro e w5 hx; obtain ⟨A2, n2, c2, l2, A3, n3, c3', rfl, hh2, hv2, hs3, hb5, _⟩ := hx; obtain ⟨k1, rfl, b1, off1, rfl, ff⟩ := first_of (H4.out.below hb5) (V1.out.trans G4.out); have FF := Lib.hid ff; clear ff; have HB5 := Lib.hid (below_from hb5 HB4.out HB4.out.size); have M6 := Lib.hid ((M4.out.past hb5).alloc (.cells #[.int .i64 cap, .slice A2 n2 c2] 24)); have X6 := Lib.hid ((X4.out.past hb5).alloc (.cells #[.int .i64 cap, .slice A2 n2 c2] 24)); have Y6 := Lib.hid (Has.newAt w5 #[.int .i64 cap, .slice A2 n2 c2] 24 (g := w5.heap.size) rfl); have HB6 := Lib.hid (HB5.out.alloc HB5.out.size (.cells #[.int .i64 cap, .slice A2 n2 c2] 24)); have c6 := M6.out.cell; have m6 := M6.out.lt; have x6 := X6.out.cell; have xm6 := X6.out.lt; have y6 := Y6.out.cell; have ym6 := Y6.out.lt; have HS6 := Lib.hid (hs3.alloc (.cells #[.int .i64 cap, .slice A2 n2 c2] 24)); have HSA := Lib.hid (HS.out.below HB6.out); have SM := Lib.hid (same_any cap _ _ c1 l1 cap A2 n2 c2 l2 _ ((H4.out.below hb5).alloc (.cells #[.int .i64 cap, .slice A2 n2 c2] 24)) (hh2.alloc (.cells #[.int .i64 cap, .slice A2 n2 c2] 24))); rw [same_true rfl (V1.out.trans hv2.symm)] at SM; clear hh2 hv2 hs3 hb5 ; have SB := Lib.hid (sameBs A3 n3 c3' bs A' n' c' bs _ HS6.out HSA.out); rw [decide_eq_true rfl] at SB) | (go_at_call 22; refine SB.out.mono ?_; rintro e w8 ⟨rfl, rfl⟩) | (go_at_call 19; refine SM.out.mono ?_; rintro e w7 ⟨rfl, hb7⟩; have HB7 := Lib.hid (below_from hb7 HB6.out HB6.out.size); have M7 := Lib.hid (M6.out.past hb7); have X7 := Lib.hid (X6.out.past hb7); clear c6 m6 x6 xm6 y6 ym6; have x7 := X7.out.cell; have xm7 := X7.out.lt; obtain ⟨z0, z1⟩ := FF.out _ (below_from hb7 (below_alloc1 _ _) (by simp)); clear hb7))
          go_ret
          exact ⟨ret_bool (by rfl), HB7.out⟩
      · rw [hp, show putCap cap (l.map Hd.val) name no = 0 from if_neg (by omega), show putL cap (l.map Hd.val) name no bs = [] from if_neg (by omega)] at PT
        have why := putE_why hp
        clear hl hbs hf hp
        go_enter Try.func5, Try.ntmps5
        go_wp2_with (first | (go_at_call 11; refine (live_any _).mono ?_; rintro e w1 ⟨rfl, hb1⟩; have HB1 := Lib.hid (below_from hb1 B0.out B0.out.size); have M2 := Lib.hid (N2.out.past hb1); have c2 := M2.out.cell; have m2 := M2.out.lt; clear hb1) | (go_at_call 12; refine (FW.out _ HB1.out).mono ?_; rintro e w2 ⟨rfl, hb2⟩; have HB2 := Lib.hid (below_from hb2 HB1.out HB1.out.size); have M3 := Lib.hid (M2.out.past hb2); clear hb2 c2 m2; have c3 := M3.out.cell; have m3 := M3.out.lt) | (go_at_call 20; refine (PT.out _ HB2.out).mono ?_; intro e w3 hx; obtain ⟨A1, n1, c1, l1, rfl, hh1, hv1, hb3, _⟩ := hx; clear c3 m3; have l10 : l1 = [] := (by simpa using hv1); have n10 : n1 = 0 := (by rw [← hh1.len, l10]; rfl); subst n10; have HB3 := Lib.hid (below_from hb3 HB2.out HB2.out.size); have M4 := Lib.hid (M3.out.past hb3); have c4 := M4.out.cell; have m4 := M4.out.lt; have CK4 := Lib.hid (CK.out (w3.alloc (.cells #[.int .i64 0, .slice A1 0 c1] 24)) (HB3.out.alloc HB3.out.size _)); have HB4 := Lib.hid (HB3.out.alloc HB3.out.size (.cells #[.int .i64 0, .slice A1 0 c1] 24)); clear hh1 hv1 hb3 l10; rcases why with why | ⟨why, hm⟩) | (go_at_call 15; rw [why] at CK4; refine CK4.out.mono ?_; rintro e w5 ⟨rfl, hb5⟩; have HB5 := Lib.hid (below_from hb5 HB4.out HB4.out.size); clear hb5 c4 m4))
        all_goals (go_ret; refine ⟨ret_bool ?_, HB5.out⟩; first | rfl | (simp_all [mayK] <;> omega) | trace_state)

end Go.Proofs.Ythjohjijcgiogaa
