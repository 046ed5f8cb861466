/- slices.Min of numbers; Least. -/
import Derived.Test.YtnkjkgakbgjddaaGet
import Derived.Test.YtnkjkgakbgjddaaLawL
namespace Go.Proofs.Ytnkjkgakbgjddaa
open Go.RowKit

theorem inf3 : (Try.prog.info? 3).map (fun i => (i.zero, i.size, i.bytes)) = some (some (.int .i64 0), 1, 8) := by kernel_rfl
theorem min_on (a : Int) (l : List Int) (b : Int) : (minV (a :: l ++ [b])).1 = min (minV (a :: l)).1 b := by
  unfold minV; rw [List.cons_append]; simp only [List.foldl_append, List.foldl_cons, List.foldl_nil]
theorem min_take {l : List Int} {k : Nat} (h0 : 0 < k) (hk : k < l.length) : (minV (l.take (k + 1))).1 = min (minV (l.take k)).1 l[k] := by
  rw [List.take_succ_eq_append_getElem hk]
  cases l with
  | nil => simp at hk
  | cons a l =>
    obtain ⟨k, rfl⟩ : ∃ j, k = j + 1 := ⟨k - 1, by omega⟩
    rw [List.take_succ_cons]
    exact min_on _ _ _
theorem minSl_any (A : Option Addr) (n c : Nat) (l : List Int) (w : World) (hl : Sl intK w A n c l) (hn : 0 < n) : Calls Try.prog 50 #[.slice A n c] w fun e w' => e = .returned (.int .i64 (minV l).1) ∧ Below w.heap.size w w' := by
  have hmax := hl.max
  have hcap := hl.cap
  have HL := Lib.hid hl
  have LN := Lib.hid hl.len
  obtain ⟨b, off, hkl, rfl, hbl, hc⟩ := hl.get hn
  have x0 : w.cell? ⟨b, off, none⟩ = some (.int .i64 l[0]) := by have := hc 0 (by decide); simpa [intK] using this
  have M1 := Lib.hid (show (minV (l.take 1)).1 = l[0] from by
    cases l with
    | nil => simp at hkl
    | cons a l => rfl)
  obtain ⟨y, hy⟩ : ∃ y, l[0] = y := ⟨_, rfl⟩
  rw [hy] at x0 M1
  have i0 : (0 : Int) < (n : Int) := by omega
  have nl : ¬ ((n : Int) < 1) := by omega
  clear hl hc hy
  go_enter Try.func50, Try.ntmps50
  go_wp2_with fail
  go_loopg [3, 4] n (fun gg s2 s3 wr => ∃ k : Nat, 0 < k ∧ k ≤ n ∧ n - k ≤ gg ∧ s3 = .int .i64 k ∧ wr = w ∧ s2 = .int .i64 (minV (l.take k)).1)
  case atStart => exact ⟨1, by omega, by omega, by omega, rfl, rfl, by rw [M1.out]⟩
  case round =>
    obtain ⟨k, hk0, hk, hgg, rfl, rfl, rfl⟩ := hrel
    by_cases hlt : k < n
    · obtain ⟨b', off', hkl', hE, _, hc⟩ := HL.out.get hlt
      injection hE with hE; injection hE with hE1 hE2; subst hE1; subst hE2
      have xk : wr.cell? ⟨b, off + k, none⟩ = some (.int .i64 l[k]) := by have := hc 0 (by decide); simpa [intK] using this
      have MK := Lib.hid (min_take hk0 hkl')
      obtain ⟨z, hz⟩ : ∃ z, l[k] = z := ⟨_, rfl⟩
      rw [hz] at xk MK
      obtain ⟨m, hm⟩ : ∃ m, (minV (l.take k)).1 = m := ⟨_, rfl⟩
      rw [hm] at MK ⊢
      clear hc hz hm
      go_wp2_with fail
      go_roundg (n - (k + 1))
      case measure => omega
      case rel => exact ⟨k + 1, by omega, by omega, by omega, by go_num, rfl, by rw [MK.out]⟩
    · obtain rfl : k = n := by omega
      have TK := Lib.hid (show l.take k = l from List.take_of_length_le (Nat.le_of_eq LN.out))
      go_wp2_with fail
      go_ret
      exact ⟨ret_int (by rw [TK.out]), Below.refl _ _⟩

set_option maxRecDepth 100000 in
set_option maxHeartbeats 8000000 in
theorem least_calls (o : Of) (t : ByteArray) (p h : Int) (w : World) (ho : Of.At w o) (hn1 : o.n ≤ 60000) (hn2 : o.n' ≤ 60000) : Calls Try.prog 25 #[o.v, .agg #[.string t, .int .i64 p, .int .i64 h]] w fun e w' => e = .returned (.tuple #[.int .i64 (leastV o.L o.M t p h).1, .bool (leastV o.L o.M t p h).2]) ∧ Below w.heap.size w w' := by
  obtain ⟨i0, hi0, hz0, hz1, hz2⟩ := info_parts inf3
  obtain ⟨A, n, c, L, A', n', c', M⟩ := o
  simp only at hn1 hn2 ⊢
  obtain ⟨W0, hW0⟩ : ∃ W0, W0 = (w.alloc (.cells #[.slice A n c, .slice A' n' c'] 25)).alloc (.cells #[.string t, .int .i64 p, .int .i64 h] 27) := ⟨_, rfl⟩
  have B0 := Lib.hid (show Below w.heap.size w W0 from by rw [hW0]; exact (below_alloc1 w _).alloc (by simp) _)
  have T0 := Lib.hid (show Has W0 (w.heap.size + 1) #[.string t, .int .i64 p, .int .i64 h] from by rw [hW0]; exact Has.newAt _ _ 27 (by simp))
  have S0 := Lib.hid (show Has W0 w.heap.size #[.slice A n c, .slice A' n' c'] from by rw [hW0]; exact (Has.newAt w _ 25 rfl).alloc _)
  have O0 := Lib.hid (show Own intK 3 W0 W0.heap.size none 0 0 (((L.take 0).filter (ofTp t p h)).map Ps.o) from ⟨rfl, World.ownsRow_nil _ _ _ _, by intro a ha; simp at ha⟩)
  have HW0 := Lib.hid hW0
  have HL := Lib.hid (show Sl psK w A n c L from ho.1)
  have HM := Lib.hid (show Sl wtK w A' n' c' M from ho.2)
  have LN := Lib.hid (show L.length = n from ho.1.len)
  have LM := Lib.hid (show M.length = n' from ho.2.len)
  have l1 : c ≤ _ := ho.1.max
  have l2 : n ≤ c := ho.1.cap
  have l3 : c' ≤ _ := ho.2.max
  have l4 : n' ≤ c' := ho.2.cap
  clear ho hW0
  obtain ⟨R, hR⟩ : ∃ R, leastV L M t p h = R := ⟨_, rfl⟩
  have HR := Lib.hid (show minV ((L.filter (ofTp t p h)).map Ps.o ++ ((M.map Wt.pos).filter (ofTp t p h)).map Ps.o) = R from hR)
  simp only [hR]
  clear hR
  go_enter Try.func25, Try.ntmps25
  go_wp2_with fail
  rw [← HW0.out]
  go_loopg [6, 14] n (fun kx s6 s13 wr => ∃ (k : Nat) (Al : Option Addr) (nl cl : Nat), k ≤ n ∧ n - k ≤ kx ∧ nl ≤ k ∧ s6 = .slice Al nl cl ∧ s13 = .int .i64 k ∧ Hid (Below W0.heap.size W0 wr) ∧ Hid (Own intK 3 wr W0.heap.size Al nl cl (((L.take k).filter (ofTp t p h)).map Ps.o)))
  case atStart => exact ⟨0, none, 0, 0, Nat.zero_le _, by omega, by omega, rfl, rfl, Lib.hid (Below.refl _ _), O0⟩
  case round =>
    obtain ⟨k, Al, nl, cl, hk, hgg, hnl, rfl, rfl, hb, hO⟩ := hrel
    by_cases hlt : k < n
    · obtain ⟨b, off, hkl, rfl, hbl, x0, x1, x2, x3, x4⟩ := Pss.at_ (HL.out.below (B0.out.trans (hb.out.mono B0.out.size))) hlt
      obtain ⟨x, hx⟩ : ∃ x, L[k] = x := ⟨_, rfl⟩
      rw [hx] at x0 x1 x2 x3 x4
      have XW := Lib.hid (show (Lit.int .i64 x.o).wf = true from by have := HL.out.each _ (List.getElem_mem hkl); rw [hx] at this; exact this.2.2.2.2)
      have TK := Lib.hid (show L.take (k + 1) = L.take k ++ [x] from by rw [List.take_succ_eq_append_getElem hkl, hx])
      have NX := Lib.hid (show ofTp t p h x = false → ((L.take (k + 1)).filter (ofTp t p h)).map Ps.o = ((L.take k).filter (ofTp t p h)).map Ps.o from fun hn => by rw [TK.out, List.filter_append, List.map_append]; simp [hn])
      have YES := Lib.hid (show ofTp t p h x = true → ((L.take (k + 1)).filter (ofTp t p h)).map Ps.o = ((L.take k).filter (ofTp t p h)).map Ps.o ++ [x.o] from fun hn => by rw [TK.out, List.filter_append, List.map_append]; simp [hn])
      have b1 := Lib.hid (below_alloc1 wr (.cells #[.string x.g, .string x.t, .int .i64 x.p, .int .i64 x.h, .int .i64 x.o] 29))
      have b2 := Lib.hid ((below_alloc1 wr (.cells #[.string x.g, .string x.t, .int .i64 x.p, .int .i64 x.h, .int .i64 x.o] 29)).alloc (by simp) (.cells #[.int .i64 x.o] 3))
      have W1 := Lib.hid (below_from b1.out hb.out hb.out.size)
      have T1 := Lib.hid (T0.out.past hb.out)
      have t1c := T1.out.cell
      have t1l := T1.out.lt
      obtain ⟨Z, hZ⟩ : ∃ Z, ((L.take k).filter (ofTp t p h)).map Ps.o = Z := ⟨_, rfl⟩
      rw [hZ] at hO NX YES
      clear hx hkl hZ
      by_cases h2 : x.t = t
      · subst h2
        by_cases h3 : x.p = p
        · subst h3
          by_cases h4 : x.h = h
          · subst h4
            have YS := YES.out (by unfold ofTp; simp)
            have O2 := Lib.hid (hO.out.kept b2.out)
            have YS := Lib.hid YS
            have tz := Lib.hid hb.out.size
            go_wp2_with (at_builtin; refine wpList_append_own _ rfl _ _ 74 rfl W0.heap.size 3 i0 _ 1 8 Try.underlying74 hi0 hz0 hz1 hz2 rfl (by decide) _ _ _ rfl O2.out.2.1 ⟨wr.heap.size + 1, 0, none⟩ 1 1 [.int .i64 x.o] rfl ?qc1 ?qc2 ?qc3 ?qc4 ?qc5 ?qc6 ?_)
            case qc1 => rfl
            case qc2 => exact (Has.newAt (wr.alloc (.cells #[.string x.g, .string x.t, .int .i64 x.p, .int .i64 x.h, .int .i64 x.o] 29)) #[.int .i64 x.o] 3 (g := wr.heap.size + 1) (by simp)).news
            case qc3 => exact fun u hu => by simp at hu; subst hu; rfl
            case qc4 => unfold maxLen; omega
            case qc5 => omega
            case qc6 => first | exact Nat.le_trans tz.out b2.out.size | (have := tz.out; simp <;> omega)
            intro v' w3 hown hgrow hnil
            obtain ⟨A3, c3, rfl⟩ := owns_form hown
            have HO3 := Lib.hid hown
            have HG3 := Lib.hid hgrow
            clear hown hgrow hnil
            go_wp2_with fail
            go_roundg (n - (k + 1))
            case measure => omega
            case rel =>
              have QB : ∀ q, (Value.slice Al nl cl).ownBlock = some q → W0.heap.size ≤ q := fun q hq => (O2.out.2.1.lt q hq).1
              have bw := below_from b2.out hb.out hb.out.size
              refine ⟨k + 1, A3, nl + 1, c3, by omega, by omega, by omega, rfl, by go_num, Lib.hid (bw.trans (grown_below HG3.out bw.size (fun q hq => by have := QB q hq; omega))), Lib.hid ?_⟩
              rw [YS.out]
              refine ⟨by rw [List.length_append, O2.out.1]; rfl, by rw [List.flatMap_append]; exact HO3.out, fun a ha => ?_⟩
              rcases List.mem_append.1 ha with ha | ha
              · exact O2.out.2.2 a ha
              · simp only [List.mem_singleton] at ha; subst ha; exact XW.out
          · obtain ⟨d1, d2⟩ := int_ne h4
            have HH := Lib.hid h4
            clear h4
            go_wp2_with fail
            go_roundg (n - (k + 1))
            case measure => omega
            case rel => exact ⟨k + 1, Al, nl, cl, by omega, by omega, by omega, rfl, by go_num, W1, Lib.hid (by rw [NX.out (by unfold ofTp; simp [HH.out])]; exact hO.out.kept b1.out)⟩
        · obtain ⟨d1, d2⟩ := int_ne h3
          have HH := Lib.hid h3
          clear h3
          go_wp2_with fail
          go_roundg (n - (k + 1))
          case measure => omega
          case rel => exact ⟨k + 1, Al, nl, cl, by omega, by omega, by omega, rfl, by go_num, W1, Lib.hid (by rw [NX.out (by unfold ofTp; simp [HH.out])]; exact hO.out.kept b1.out)⟩
      · obtain ⟨d1, d2, d3⟩ := str_nes h2
        have HH := Lib.hid h2
        clear h2
        go_wp2_with fail
        go_roundg (n - (k + 1))
        case measure => omega
        case rel => exact ⟨k + 1, Al, nl, cl, by omega, by omega, by omega, rfl, by go_num, W1, Lib.hid (by rw [NX.out (by unfold ofTp; simp [HH.out])]; exact hO.out.kept b1.out)⟩
    · obtain rfl : n = k := by omega
      obtain ⟨Al0, nl0, cl0, hnl0, hb0, O00⟩ : ∃ Al0 nl0 cl0, (Value.slice Al nl cl = Value.slice Al0 nl0 cl0 ∧ nl0 ≤ n) ∧ Hid (Below W0.heap.size W0 wr) ∧ Hid (Own intK 3 wr W0.heap.size Al0 nl0 cl0 ((L.filter (ofTp t p h)).map Ps.o ++ (((M.take 0).map Wt.pos).filter (ofTp t p h)).map Ps.o)) := ⟨Al, nl, cl, ⟨rfl, hnl⟩, hb, Lib.hid (by have := hO.out; rw [List.take_of_length_le (Nat.le_of_eq LN.out)] at this; simpa using this)⟩
      obtain ⟨hE, hnl0⟩ := hnl0
      rw [hE]
      have S1 := Lib.hid (S0.out.past hb.out)
      have s1c := S1.out.cell
      have s1l := S1.out.lt
      clear hE hO hnl hb hgg O0
      go_wp2_with fail
      go_loopg [6, 31] n' (fun kx s6 s13 wr => ∃ (k : Nat) (Al : Option Addr) (nl cl : Nat), k ≤ n' ∧ n' - k ≤ kx ∧ nl ≤ n + k ∧ s6 = .slice Al nl cl ∧ s13 = .int .i64 k ∧ Hid (Below W0.heap.size W0 wr) ∧ Hid (Own intK 3 wr W0.heap.size Al nl cl ((L.filter (ofTp t p h)).map Ps.o ++ (((M.take k).map Wt.pos).filter (ofTp t p h)).map Ps.o)))
      case atStart => exact ⟨0, Al0, nl0, cl0, Nat.zero_le _, by omega, by omega, rfl, rfl, hb0, O00⟩
      case round =>
        obtain ⟨k, Al, nl, cl, hk, hgg, hnl, rfl, rfl, hb, hO⟩ := hrel
        by_cases hlt : k < n'
        · obtain ⟨b, off, hkl, rfl, hbl, x0, x1, x2, x3, x4, x5⟩ := Wts.at_ (HM.out.below (B0.out.trans (hb.out.mono B0.out.size))) hlt
          obtain ⟨x, hx⟩ : ∃ x, M[k] = x := ⟨_, rfl⟩
          rw [hx] at x0 x1 x2 x3 x4 x5
          have XW := Lib.hid (show (Lit.int .i64 x.pos.o).wf = true from by have := HM.out.each _ (List.getElem_mem hkl); rw [hx] at this; exact this.2.2.2.2.2)
          have TK := Lib.hid (show M.take (k + 1) = M.take k ++ [x] from by rw [List.take_succ_eq_append_getElem hkl, hx])
          have NX := Lib.hid (show ofTp t p h x.pos = false → (L.filter (ofTp t p h)).map Ps.o ++ (((M.take (k + 1)).map Wt.pos).filter (ofTp t p h)).map Ps.o = (L.filter (ofTp t p h)).map Ps.o ++ (((M.take k).map Wt.pos).filter (ofTp t p h)).map Ps.o from fun hn => by rw [TK.out, List.map_append, List.filter_append, List.map_append]; simp [hn])
          have YES := Lib.hid (show ofTp t p h x.pos = true → (L.filter (ofTp t p h)).map Ps.o ++ (((M.take (k + 1)).map Wt.pos).filter (ofTp t p h)).map Ps.o = (L.filter (ofTp t p h)).map Ps.o ++ (((M.take k).map Wt.pos).filter (ofTp t p h)).map Ps.o ++ [x.pos.o] from fun hn => by rw [TK.out, List.map_append, List.filter_append, List.map_append, List.append_assoc]; simp [hn])
          have b1 := Lib.hid (below_alloc1 wr (.cells #[.int .i64 x.pid, .string x.pos.g, .string x.pos.t, .int .i64 x.pos.p, .int .i64 x.pos.h, .int .i64 x.pos.o] 52))
          have b2 := Lib.hid ((below_alloc1 wr (.cells #[.int .i64 x.pid, .string x.pos.g, .string x.pos.t, .int .i64 x.pos.p, .int .i64 x.pos.h, .int .i64 x.pos.o] 52)).alloc (by simp) (.cells #[.int .i64 x.pos.o] 3))
          have W1 := Lib.hid (below_from b1.out hb.out hb.out.size)
          have T1 := Lib.hid (T0.out.past hb.out)
          have t1c := T1.out.cell
          have t1l := T1.out.lt
          obtain ⟨Z, hZ⟩ : ∃ Z, (L.filter (ofTp t p h)).map Ps.o ++ (((M.take k).map Wt.pos).filter (ofTp t p h)).map Ps.o = Z := ⟨_, rfl⟩
          rw [hZ] at hO NX YES
          clear hx hkl hZ
          by_cases h2 : x.pos.t = t
          · subst h2
            by_cases h3 : x.pos.p = p
            · subst h3
              by_cases h4 : x.pos.h = h
              · subst h4
                have YS := YES.out (by unfold ofTp; simp)
                have O2 := Lib.hid (hO.out.kept b2.out)
                have YS := Lib.hid YS
                have tz := Lib.hid hb.out.size
                go_wp2_with (at_builtin; refine wpList_append_own _ rfl _ _ 74 rfl W0.heap.size 3 i0 _ 1 8 Try.underlying74 hi0 hz0 hz1 hz2 rfl (by decide) _ _ _ rfl O2.out.2.1 ⟨wr.heap.size + 1, 0, none⟩ 1 1 [.int .i64 x.pos.o] rfl ?qc1 ?qc2 ?qc3 ?qc4 ?qc5 ?qc6 ?_)
                case qc1 => rfl
                case qc2 => exact (Has.newAt (wr.alloc (.cells #[.int .i64 x.pid, .string x.pos.g, .string x.pos.t, .int .i64 x.pos.p, .int .i64 x.pos.h, .int .i64 x.pos.o] 52)) #[.int .i64 x.pos.o] 3 (g := wr.heap.size + 1) (by simp)).news
                case qc3 => exact fun u hu => by simp at hu; subst hu; rfl
                case qc4 => unfold maxLen; omega
                case qc5 => omega
                case qc6 => first | exact Nat.le_trans tz.out b2.out.size | (have := tz.out; simp <;> omega)
                intro v' w3 hown hgrow hnil
                obtain ⟨A3, c3, rfl⟩ := owns_form hown
                have HO3 := Lib.hid hown
                have HG3 := Lib.hid hgrow
                clear hown hgrow hnil
                go_wp2_with fail
                go_roundg (n' - (k + 1))
                case measure => omega
                case rel =>
                  have QB : ∀ q, (Value.slice Al nl cl).ownBlock = some q → W0.heap.size ≤ q := fun q hq => (O2.out.2.1.lt q hq).1
                  have bw := below_from b2.out hb.out hb.out.size
                  refine ⟨k + 1, A3, nl + 1, c3, by omega, by omega, by omega, rfl, by go_num, Lib.hid (bw.trans (grown_below HG3.out bw.size (fun q hq => by have := QB q hq; omega))), Lib.hid ?_⟩
                  rw [YS.out]
                  refine ⟨by rw [List.length_append, O2.out.1]; rfl, by rw [List.flatMap_append]; exact HO3.out, fun a ha => ?_⟩
                  rcases List.mem_append.1 ha with ha | ha
                  · exact O2.out.2.2 a ha
                  · simp only [List.mem_singleton] at ha; subst ha; exact XW.out
              · obtain ⟨d1, d2⟩ := int_ne h4
                have HH := Lib.hid h4
                clear h4
                go_wp2_with fail
                go_roundg (n' - (k + 1))
                case measure => omega
                case rel => exact ⟨k + 1, Al, nl, cl, by omega, by omega, by omega, rfl, by go_num, W1, Lib.hid (by rw [NX.out (by unfold ofTp; simp [HH.out])]; exact hO.out.kept b1.out)⟩
            · obtain ⟨d1, d2⟩ := int_ne h3
              have HH := Lib.hid h3
              clear h3
              go_wp2_with fail
              go_roundg (n' - (k + 1))
              case measure => omega
              case rel => exact ⟨k + 1, Al, nl, cl, by omega, by omega, by omega, rfl, by go_num, W1, Lib.hid (by rw [NX.out (by unfold ofTp; simp [HH.out])]; exact hO.out.kept b1.out)⟩
          · obtain ⟨d1, d2, d3⟩ := str_nes h2
            have HH := Lib.hid h2
            clear h2
            go_wp2_with fail
            go_roundg (n' - (k + 1))
            case measure => omega
            case rel => exact ⟨k + 1, Al, nl, cl, by omega, by omega, by omega, rfl, by go_num, W1, Lib.hid (by rw [NX.out (by unfold ofTp; simp [HH.out])]; exact hO.out.kept b1.out)⟩
        · obtain rfl : n' = k := by omega
          have HOF := Lib.hid (show Own intK 3 wr W0.heap.size Al nl cl ((L.filter (ofTp t p h)).map Ps.o ++ ((M.map Wt.pos).filter (ofTp t p h)).map Ps.o) from by have := hO.out; rw [List.take_of_length_le (Nat.le_of_eq LM.out)] at this; exact this)
          have HLEN := Lib.hid HOF.out.1
          have m1 := HOF.out.sl.max
          have m2 := HOF.out.sl.cap
          have BW := Lib.hid (below_from hb.out B0.out B0.out.size)
          by_cases h0 : nl = 0
          · subst h0
            have hR : R = (0, false) := by rw [← HR.out, List.length_eq_zero_iff.1 HLEN.out]; rfl
            subst hR
            go_wp2_with fail
            go_ret2
            exact ⟨rfl, BW.out⟩
          · have n0 : ((nl : Int) == 0) = false := by rw [beq_eq_false_iff_ne]; omega
            have d0 : decide ((nl : Int) = 0) = false := decide_eq_false (by omega)
            have n1 : (nl == 0) = false := by rw [beq_eq_false_iff_ne]; omega
            have MS := Lib.hid (minSl_any Al nl cl _ wr HOF.out.sl (by omega))
            have R2 := Lib.hid (show R.2 = true from by
              rw [← HR.out]
              generalize (L.filter (ofTp t p h)).map Ps.o ++ ((M.map Wt.pos).filter (ofTp t p h)).map Ps.o = z at HLEN
              cases z with
              | nil => exact absurd HLEN.out.symm h0
              | cons a z => rfl)
            rw [HR.out] at MS
            clear h0
            go_wp2_with (go_at_call 50; refine MS.out.mono ?_; rintro e w2 ⟨rfl, hb2⟩; have B2 := Lib.hid (below_from hb2 BW.out BW.out.size); clear hb2)
            go_ret2
            exact ⟨by rw [R2.out]; rfl, B2.out⟩

end Go.Proofs.Ytnkjkgakbgjddaa
