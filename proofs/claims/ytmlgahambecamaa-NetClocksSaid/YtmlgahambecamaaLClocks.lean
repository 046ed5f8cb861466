/- NetClocks: clocks of two ends differ by 20 at the most, and each goes on as time does. -/
import Derived.Test.YtmlgahambecamaaLawL
import Derived.Test.YtmlgahambecamaaChkP
namespace Go.Proofs.Ytmlgahambecamaa
open Go.RowKit Go.Shelf

set_option maxHeartbeats 16000000 in
set_option maxRecDepth 100000 in
theorem lclocks_any (o : Nt) (a b d : Int) (w : World) (ho : Nt.At w o) : Calls Try.prog 7 #[o.v, .int .i64 a, .int .i64 b, .int .i64 d] w fun e w' => e = .returned (.bool true) ∧ Below w.heap.size w w' := by
  have bw := below_alloc1 w (.cells #[.int .i64 o.now, .int .i64 o.next, .slice o.LA o.Ln o.Lc, .slice o.SA o.Sn o.Sc, .slice o.CA o.Cn o.Cc, .slice o.KA o.Kn o.Kc] 27)
  have B0 := Lib.hid bw
  have SO0 := Lib.hid (Has.newAt w #[.int .i64 o.now, .int .i64 o.next, .slice o.LA o.Ln o.Lc, .slice o.SA o.Sn o.Sc, .slice o.CA o.Cn o.Cc, .slice o.KA o.Kn o.Kc] 27 (g := w.heap.size) rfl)
  have cSO0 := SO0.out.cell
  have lSO0 := SO0.out.lt
  have O0 := Lib.hid (show Nt.Is (w.alloc (.cells #[.int .i64 o.now, .int .i64 o.next, .slice o.LA o.Ln o.Lc, .slice o.SA o.Sn o.Sc, .slice o.CA o.Cn o.Cc, .slice o.KA o.Kn o.Kc] 27)) o o.val from ⟨ho.below bw, rfl⟩)
  have LV := Lib.hid live_any
  have FW := Lib.hid few_any
  have CL := Lib.hid clock_any
  have TK := Lib.hid tick_any
  clear bw ho 
  go_enter Try.func7, Try.ntmps7
  go_wp2_with fail
  refine (LV.out _).mono ?_
  intro e w1 hx
  obtain ⟨rfl, hb⟩ := hx
  have B1 := Lib.hid (below_from hb B0.out B0.out.size)
  have SO1 := Lib.hid (SO0.out.past hb)
  have cSO1 := SO1.out.cell
  have lSO1 := SO1.out.lt
  have O1 := Lib.hid (Nt.past O0.out hb)
  clear cSO0 lSO0 hb
  go_wp2_with fail
  refine (FW.out o _ O1.out.1).mono ?_
  intro e w2 hx
  obtain ⟨⟨bf, rfl, hf⟩, hb⟩ := hx
  have HF := Lib.hid hf
  clear hf
  have B2 := Lib.hid (below_from hb B1.out B1.out.size)
  have SO2 := Lib.hid (SO1.out.past hb)
  have cSO2 := SO2.out.cell
  have lSO2 := SO2.out.lt
  have O2 := Lib.hid (Nt.past O1.out hb)
  clear cSO1 lSO1 hb
  cases bf with
  | false =>
    go_wp2_with fail
    go_ret
    exact ⟨rfl, B2.out⟩
  | true =>
  have HF := Lib.hid (HF.out rfl)
  have FEW := Lib.hid (show o.Few from ⟨by have := HF.out; omega, by have := HF.out; omega, by have := HF.out; omega, by have := HF.out; omega⟩)
  go_wp2_with fail
  have CA := Lib.hid (fun W (h : Nt.At W o) => CL.out o a W h (by have := FEW.out.s; omega))
  have CB := Lib.hid (fun W (h : Nt.At W o) => CL.out o b W h (by have := FEW.out.s; omega))
  rcases clock_cases o.val a with ⟨ea, na⟩ | ⟨ck, ra, x, kx, x1, x2, ea⟩
  · skip
    rw [ea] at CA
    clear ea na
    obtain ⟨t, ht⟩ : ∃ x, (clockV o.val b).1 = x := ⟨_, rfl⟩
    obtain ⟨f, hf⟩ : ∃ x, (clockV o.val b).2 = x := ⟨_, rfl⟩
    rw [ht, hf] at CB
    clear ht hf
    refine (CA.out _ O2.out.1).mono ?_
    intro e w3 hx
    obtain ⟨rfl, hb⟩ := hx
    have B3 := Lib.hid (below_from hb B2.out B2.out.size)
    have SO3 := Lib.hid (SO2.out.past hb)
    have cSO3 := SO3.out.cell
    have lSO3 := SO3.out.lt
    have O3 := Lib.hid (Nt.past O2.out hb)
    clear cSO2 lSO2 hb
    go_wp2_with fail
    refine (CB.out _ O3.out.1).mono ?_
    intro e w4 hx
    obtain ⟨rfl, hb⟩ := hx
    have B4 := Lib.hid (below_from hb B3.out B3.out.size)
    have SO4 := Lib.hid (SO3.out.past hb)
    have cSO4 := SO4.out.cell
    have lSO4 := SO4.out.lt
    have O4 := Lib.hid (Nt.past O3.out hb)
    clear cSO3 lSO3 hb
    go_wp2_with fail
    go_ret
    exact ⟨rfl, B4.out⟩
  · skip
    rcases clock_cases o.val b with ⟨eb, nb⟩ | ⟨_, rb, y, ky, y1, y2, eb⟩
    · skip
      rw [ea] at CA
      rw [eb] at CB
      clear ea eb nb ck ra kx
      generalize max 0 (o.val.now + x) = s at *
      refine (CA.out _ O2.out.1).mono ?_
      intro e w3 hx
      obtain ⟨rfl, hb⟩ := hx
      have B3 := Lib.hid (below_from hb B2.out B2.out.size)
      have SO3 := Lib.hid (SO2.out.past hb)
      have cSO3 := SO3.out.cell
      have lSO3 := SO3.out.lt
      have O3 := Lib.hid (Nt.past O2.out hb)
      clear cSO2 lSO2 hb
      go_wp2_with fail
      refine (CB.out _ O3.out.1).mono ?_
      intro e w4 hx
      obtain ⟨rfl, hb⟩ := hx
      have B4 := Lib.hid (below_from hb B3.out B3.out.size)
      have SO4 := Lib.hid (SO3.out.past hb)
      have cSO4 := SO4.out.cell
      have lSO4 := SO4.out.lt
      have O4 := Lib.hid (Nt.past O3.out hb)
      clear cSO3 lSO3 hb
      by_cases hs : s = 0
      · subst hs
        go_wp2_with fail
        go_ret
        exact ⟨rfl, B4.out⟩
      · have d1 : (s == 0) = false := by rw [beq_eq_false_iff_ne]; exact hs
        have d2 : decide (s = 0) = false := decide_eq_false hs
        clear hs
        go_wp2_with fail
        go_ret
        exact ⟨rfl, B4.out⟩
    · skip
      have NW := chk_now ck
      have CKO := Lib.hid ck
      have RA := Lib.hid ra
      have KX := Lib.hid kx
      obtain ⟨s, hs⟩ : ∃ s, s = max 0 (o.val.now + x) := ⟨_, rfl⟩
      obtain ⟨t, ht⟩ : ∃ t, t = max 0 (o.val.now + y) := ⟨_, rfl⟩
      rw [ea, ← hs] at CA
      rw [eb, ← ht] at CB
      clear ea eb
      have HS := Lib.hid hs
      have wr1 : IntKind.i64.wrap (s - t) = s - t := IntWalk.i64_in _ (by omega)
      have wr2 : IntKind.i64.wrap (t - s) = t - s := IntWalk.i64_in _ (by omega)
      have d1 : decide (s - t ≤ 20) = true := decide_eq_true (by omega)
      have d2 : decide (t - s ≤ 20) = true := decide_eq_true (by omega)
      have NW2 := Lib.hid NW
      clear hs ht ck ra kx x1 x2 y1 y2 NW rb ky
      refine (CA.out _ O2.out.1).mono ?_
      intro e w3 hx
      obtain ⟨rfl, hb⟩ := hx
      have B3 := Lib.hid (below_from hb B2.out B2.out.size)
      have SO3 := Lib.hid (SO2.out.past hb)
      have cSO3 := SO3.out.cell
      have lSO3 := SO3.out.lt
      have O3 := Lib.hid (Nt.past O2.out hb)
      clear cSO2 lSO2 hb
      go_wp2_with fail
      refine (CB.out _ O3.out.1).mono ?_
      intro e w4 hx
      obtain ⟨rfl, hb⟩ := hx
      have B4 := Lib.hid (below_from hb B3.out B3.out.size)
      have SO4 := Lib.hid (SO3.out.past hb)
      have cSO4 := SO4.out.cell
      have lSO4 := SO4.out.lt
      have O4 := Lib.hid (Nt.past O3.out hb)
      clear cSO3 lSO3 hb
      rcases tick_cases o.val d with ⟨c, hc, et, _⟩ | ⟨_, g1, g2, g3, et⟩
      · skip
        have n1 : (c != 0) = true := by rw [bne_iff_ne]; omega
        have n2 : (c == 0) = false := by rw [beq_eq_false_iff_ne]; omega
        have n3 : decide (c = 0) = false := decide_eq_false (by omega)
        clear hc
        go_wp2_with fail
        refine (tick_at (V := noV) (M := []) (c := c) (TK.out o d _ O4.out.1 FEW.out) et).mono ?_
        intro e w5 hx
        obtain ⟨o1, A1, n1, c1, l1, rfl, ha, hm, hb⟩ := hx
        have bk5 := hb.alloc hb.size (.cells #[.int .i64 o1.now, .int .i64 o1.next, .slice o1.LA o1.Ln o1.Lc, .slice o1.SA o1.Sn o1.Sc, .slice o1.CA o1.Cn o1.Cc, .slice o1.KA o1.Kn o1.Kc] 27)
        have B5 := Lib.hid (below_from bk5 B4.out B4.out.size)
        have SO5 := Lib.hid (SO4.out.past bk5)
        have cSO5 := SO5.out.cell
        have lSO5 := SO5.out.lt
        have O5 := Lib.hid (Nt.past O4.out bk5)
        have O1_5 := Lib.hid (Nt.past ha (below_alloc1 w5 (.cells #[.int .i64 o1.now, .int .i64 o1.next, .slice o1.LA o1.Ln o1.Lc, .slice o1.SA o1.Sn o1.Sc, .slice o1.CA o1.Cn o1.Cc, .slice o1.KA o1.Kn o1.Kc] 27)))
        have M1_5 := Lib.hid (Ms.past hm (below_alloc1 w5 (.cells #[.int .i64 o1.now, .int .i64 o1.next, .slice o1.LA o1.Ln o1.Lc, .slice o1.SA o1.Sn o1.Sc, .slice o1.CA o1.Cn o1.Cc, .slice o1.KA o1.Kn o1.Kc] 27)))
        have S1_5 := Lib.hid (Has.newAt w5 #[.int .i64 o1.now, .int .i64 o1.next, .slice o1.LA o1.Ln o1.Lc, .slice o1.SA o1.Sn o1.Sc, .slice o1.CA o1.Cn o1.Cc, .slice o1.KA o1.Kn o1.Kc] 27 (g := w5.heap.size) rfl)
        have cS1_5 := S1_5.out.cell
        have lS1_5 := S1_5.out.lt
        clear cSO4 lSO4 hb ha hm et bk5
        go_wp2_with fail
        go_ret
        exact ⟨rfl, B5.out⟩
      · skip
        have ET := Lib.hid et
        have TC := Lib.hid (tick_check CKO.out g1 g3)
        have G := Lib.hid (And.intro g1 (And.intro g2 g3))
        clear et g1 g2 g3
        go_wp2_with fail
        refine (tick_at (V := _) (M := _) (c := 0) (TK.out o d _ O4.out.1 FEW.out) ET.out).mono ?_
        intro e w5 hx
        obtain ⟨o1, A1, n1, c1, l1, rfl, ha, hm, hb⟩ := hx
        have bk5 := hb.alloc hb.size (.cells #[.int .i64 o1.now, .int .i64 o1.next, .slice o1.LA o1.Ln o1.Lc, .slice o1.SA o1.Sn o1.Sc, .slice o1.CA o1.Cn o1.Cc, .slice o1.KA o1.Kn o1.Kc] 27)
        have B5 := Lib.hid (below_from bk5 B4.out B4.out.size)
        have SO5 := Lib.hid (SO4.out.past bk5)
        have cSO5 := SO5.out.cell
        have lSO5 := SO5.out.lt
        have O5 := Lib.hid (Nt.past O4.out bk5)
        have O1_5 := Lib.hid (Nt.past ha (below_alloc1 w5 (.cells #[.int .i64 o1.now, .int .i64 o1.next, .slice o1.LA o1.Ln o1.Lc, .slice o1.SA o1.Sn o1.Sc, .slice o1.CA o1.Cn o1.Cc, .slice o1.KA o1.Kn o1.Kc] 27)))
        have M1_5 := Lib.hid (Ms.past hm (below_alloc1 w5 (.cells #[.int .i64 o1.now, .int .i64 o1.next, .slice o1.LA o1.Ln o1.Lc, .slice o1.SA o1.Sn o1.Sc, .slice o1.CA o1.Cn o1.Cc, .slice o1.KA o1.Kn o1.Kc] 27)))
        have S1_5 := Lib.hid (Has.newAt w5 #[.int .i64 o1.now, .int .i64 o1.next, .slice o1.LA o1.Ln o1.Lc, .slice o1.SA o1.Sn o1.Sc, .slice o1.CA o1.Cn o1.Cc, .slice o1.KA o1.Kn o1.Kc] 27 (g := w5.heap.size) rfl)
        have cS1_5 := S1_5.out.cell
        have lS1_5 := S1_5.out.lt
        clear cSO4 lSO4 hb ha hm bk5
        have C2 := CL.out o1 a _ O1_5.out.1 (by have := (O1_5.out.lens).2.1; have h2 := FEW.out.s; have h3 := O5.out.1.s.len; rw [this]; show o.S.length ≤ _; omega)
        have CE := clock_cases o1.val a
        rw [O1_5.out.2] at CE C2
        obtain ⟨u, hu⟩ : ∃ u, u = max 0 (o.val.now + d + x) := ⟨_, rfl⟩
        have EU : clockV { o.val with now := o.val.now + d, L := o.val.L.filter fun m => !decide (m.t ≤ o.val.now + d) } a = (u, 0) := by
          rcases CE with ⟨_, h⟩ | ⟨_, _, x', hx, _, _, h⟩
          · exact absurd ⟨TC.out, RA.out⟩ h
          · rw [h, hu, ← hx, ← KX.out]
        rw [EU] at C2
        clear CE EU
        have hs := HS.out
        have g := G.out
        have nw := NW2.out
        have g0 : d ≤ 1099511627776 := g.2.1
        have d3 : decide (s ≤ u) = true := decide_eq_true (by omega)
        have wr3 : IntKind.i64.wrap (u - s) = u - s := IntWalk.i64_in _ (by unfold maxO at g; omega)
        have d4 : decide (u - s ≤ d) = true := decide_eq_true (by omega)
        have C3 := Lib.hid C2
        clear C2 hs g nw hu g0
        go_wp2_with fail
        refine (C3.out).mono ?_
        intro e w6 hx
        obtain ⟨rfl, hb⟩ := hx
        have B6 := Lib.hid (below_from hb B5.out B5.out.size)
        have SO6 := Lib.hid (SO5.out.past hb)
        have cSO6 := SO6.out.cell
        have lSO6 := SO6.out.lt
        have O6 := Lib.hid (Nt.past O5.out hb)
        have O1_6 := Lib.hid (Nt.past O1_5.out hb)
        have M1_6 := Lib.hid (Ms.past M1_5.out hb)
        have S1_6 := Lib.hid (S1_5.out.past hb)
        have cS1_6 := S1_6.out.cell
        have lS1_6 := S1_6.out.lt
        clear cSO5 lSO5 cS1_5 lS1_5 hb
        go_wp2_with fail
        go_ret
        exact ⟨rfl, B6.out⟩

end Go.Proofs.Ytmlgahambecamaa
