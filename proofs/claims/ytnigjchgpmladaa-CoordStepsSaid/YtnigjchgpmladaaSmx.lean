/- Are two producers the same. Are two lists of producers the same; two regions. Are two regions' producers the same. -/
import Derived.Test.YtnigjchgpmladaaText
import Derived.Laws.StructEq
import Derived.Deep.DeepCutAuto
namespace Go.Proofs.Ytnigjchgpmladaa
open Go.RowKit Go.Shelf

set_option maxRecDepth 100000 in
set_option maxHeartbeats 16000000 in
theorem sametx_any (x y : Tx) (w : World) (hx : Tx.In w x) (hy : Tx.In w y) : Calls Try.prog 20 #[x.v, y.v] w fun e w' => e = .returned (.bool (decide (x.val = y.val))) ∧ Below w.heap.size w w' := by
  obtain ⟨W0, hW0⟩ : ∃ W0, W0 = (w.alloc (.cells #[.string x.id, .int .i64 x.pid, .int .i64 x.gen, .int .i64 x.no, .int .i64 x.st, .slice x.PA x.Pn x.Pc, .slice x.GA x.Gn x.Gc, .int .i64 x.at_] 33)).alloc (.cells #[.string y.id, .int .i64 y.pid, .int .i64 y.gen, .int .i64 y.no, .int .i64 y.st, .slice y.PA y.Pn y.Pc, .slice y.GA y.Gn y.Gc, .int .i64 y.at_] 33) := ⟨_, rfl⟩
  have B0 := Lib.hid (show Below w.heap.size w W0 from by rw [hW0]; exact (below_alloc1 w _).alloc (by simp) _)
  have S0 := Lib.hid (show Has W0 w.heap.size #[.string x.id, .int .i64 x.pid, .int .i64 x.gen, .int .i64 x.no, .int .i64 x.st, .slice x.PA x.Pn x.Pc, .slice x.GA x.Gn x.Gc, .int .i64 x.at_] from by rw [hW0]; exact (Has.newAt w _ 33 rfl).alloc _)
  have T0 := Lib.hid (show Has W0 (w.heap.size + 1) #[.string y.id, .int .i64 y.pid, .int .i64 y.gen, .int .i64 y.no, .int .i64 y.st, .slice y.PA y.Pn y.Pc, .slice y.GA y.Gn y.Gc, .int .i64 y.at_] from by rw [hW0]; exact Has.newAt _ _ 33 (by simp))
  have HP := Lib.hid hx.p
  have HP2 := Lib.hid hy.p
  have HG := Lib.hid hx.g
  have HG2 := Lib.hid hy.g
  have PL := Lib.hid hx.p.len
  have PL2 := Lib.hid hy.p.len
  have GL := Lib.hid hx.g.len
  have GL2 := Lib.hid hy.g.len
  have hc1 := hx.p.cap
  have hm1 := hx.p.max
  have hc2 := hx.g.cap
  have hm2 := hx.g.max
  obtain ⟨q, hq⟩ : ∃ q, decide (x.val = y.val) = q := ⟨_, rfl⟩
  rw [hq]
  have NO := Lib.hid (show x.val ≠ y.val → q = false from fun h => by rw [← hq, decide_eq_false h])
  have YES := Lib.hid (show x.id = y.id → x.pid = y.pid → x.gen = y.gen → x.no = y.no → x.st = y.st → x.at_ = y.at_ → x.P = y.P → x.G = y.G → q = true from fun a b c d e f g h => by rw [← hq]; exact decide_eq_true (by unfold Tx.val; rw [a, b, c, d, e, f, g, h]))
  have HW0 := Lib.hid hW0
  clear hq hx hy hW0
  have s0c := S0.out.cell
  have s0l := S0.out.lt
  have t0c := T0.out.cell
  have t0l := T0.out.lt
  by_cases eid : x.id = y.id
  · have gid : decide (x.id.toList = y.id.toList) = true := decide_eq_true (by rw [eid])
    have g2id : (x.id.toList == y.id.toList) = true := by rw [eid]; simp
    have Eid := Lib.hid eid
    clear eid
    by_cases epid : x.pid = y.pid
    · have gpid : ((x.pid : Int) != (y.pid : Int)) = false := by rw [epid]; simp
      have Epid := Lib.hid epid
      clear epid
      by_cases egen : x.gen = y.gen
      · have ggen : ((x.gen : Int) != (y.gen : Int)) = false := by rw [egen]; simp
        have Egen := Lib.hid egen
        clear egen
        by_cases eno : x.no = y.no
        · have gno : ((x.no : Int) != (y.no : Int)) = false := by rw [eno]; simp
          have Eno := Lib.hid eno
          clear eno
          by_cases est : x.st = y.st
          · have gst : ((x.st : Int) != (y.st : Int)) = false := by rw [est]; simp
            have Est := Lib.hid est
            clear est
            by_cases eat_ : x.at_ = y.at_
            · have gat_ : ((x.at_ : Int) != (y.at_ : Int)) = false := by rw [eat_]; simp
              have Eat_ := Lib.hid eat_
              clear eat_
              by_cases ePn : x.Pn = y.Pn
              · have gPn : ((x.Pn : Int) != (y.Pn : Int)) = false := by rw [ePn]; simp
                have EPn := Lib.hid ePn
                clear ePn
                by_cases eGn : x.Gn = y.Gn
                · have gGn : ((x.Gn : Int) != (y.Gn : Int)) = false := by rw [eGn]; simp
                  have EGn := Lib.hid eGn
                  clear eGn
                  go_enter Try.func20, Try.ntmps20
                  go_upto_region 1 with (fail)
                  rw [← HW0.out]
                  go_wp2_with fail
                  clear s0c s0l t0c t0l
                  go_loopg [5] x.Pn (fun gg s5 wr => ∃ k : Nat, k ≤ x.Pn ∧ x.Pn - k ≤ gg ∧ s5 = .int .i64 k ∧ Hid (Has wr w.heap.size #[.string x.id, .int .i64 x.pid, .int .i64 x.gen, .int .i64 x.no, .int .i64 x.st, .slice x.PA x.Pn x.Pc, .slice x.GA x.Gn x.Gc, .int .i64 x.at_]) ∧ Hid (Has wr (w.heap.size + 1) #[.string y.id, .int .i64 y.pid, .int .i64 y.gen, .int .i64 y.no, .int .i64 y.st, .slice y.PA y.Pn y.Pc, .slice y.GA y.Gn y.Gc, .int .i64 y.at_]) ∧ Hid (Below w.heap.size w wr) ∧ Hid (∀ j, j < k → x.P[j]? = y.P[j]?))
                  case atStart => exact ⟨0, Nat.zero_le _, by omega, rfl, S0, T0, B0, Lib.hid (fun j hj => absurd hj (Nat.not_lt_zero _))⟩
                  case round =>
                    obtain ⟨k, hk, hgg, rfl, S1, T1, B1, hok⟩ := hrel
                    have s1c := S1.out.cell
                    have s1l := S1.out.lt
                    have t1c := T1.out.cell
                    have t1l := T1.out.lt
                    by_cases hlt : k < x.Pn
                    · obtain ⟨b1, off1, hkl, ea1, hbl1, ut, up, uh⟩ := tp_at (HP.out.below B1.out) hlt
                      obtain ⟨b2, off2, hkl2, ea2, hbl2, vt, vp, vh⟩ := tp_at (HP2.out.below B1.out) (by rw [← EPn.out]; exact hlt)
                      have EV := Lib.hid (List.getElem?_eq_getElem hkl)
                      have EV' := Lib.hid (List.getElem?_eq_getElem hkl2)
                      have NO := Lib.hid (show x.P[k] ≠ y.P[k] → q = false from fun h => NO.out (fun e => h (by
                        have h1 : x.P[k]? = y.P[k]? := congrArg (fun z : Tv => z.P[k]?) e
                        rw [EV.out, EV'.out] at h1
                        exact Option.some.inj h1)))
                      generalize x.P[k] = x0 at *
                      generalize y.P[k] = y0 at *
                      obtain ⟨xt, xp, xh⟩ := x0
                      obtain ⟨yt, yp, yh⟩ := y0
                      simp only at ut up uh vt vp vh
                      have rs5 := at_regrown (w := wr) (v := .slice x.PA x.Pn x.Pc) (S1.out.cell 5)
                      have rt5 := at_regrown (w := wr) (v := .slice y.PA y.Pn y.Pc) (T1.out.cell 5)
                      have rs6 := at_regrown (w := wr) (v := .slice x.GA x.Gn x.Gc) (S1.out.cell 6)
                      have rt6 := at_regrown (w := wr) (v := .slice y.GA y.Gn y.Gc) (T1.out.cell 6)
                      rw [ea1] at rs5
                      rw [ea2] at rt5
                      have rut := at_regrown ut
                      have rup := at_regrown up
                      have ruh := at_regrown uh
                      have rvt := at_regrown vt
                      have rvp := at_regrown vp
                      have rvh := at_regrown vh
                      have k0 : (0 : Int) ≤ (k : Int) := by omega
                      have k1 : (k : Int) < (x.Pn : Int) := by omega
                      have k2 : (k : Int) < (y.Pn : Int) := by rw [← EPn.out]; omega
                      by_cases et : xt = yt
                      · subst et
                        by_cases ep : xp = yp
                        · subst ep
                          by_cases eh : xh = yh
                          · subst eh
                            go_wp2_with fail
                            refine region_below (by kernel_rfl) (by kernel_rfl) ?_
                            repeat (go_big_quiet_step (fail))
                            refine wpQuiet_nil ?_
                            intro w3 hb3
                            have B3 := Lib.hid (below_from hb3 B1.out B1.out.size)
                            have S3 := Lib.hid (S1.out.past hb3)
                            have T3 := Lib.hid (T1.out.past hb3)
                            clear hb3
                            go_wp2_with fail
                            go_roundg (x.Pn - (k + 1))
                            case measure => omega
                            case rel =>
                              refine ⟨k + 1, by omega, by omega, by go_num, S3, T3, B3, Lib.hid (fun j hj => ?_)⟩
                              by_cases ej : j = k
                              · subst ej; rw [EV.out, EV'.out]
                              · exact hok.out j (by omega)
                          · have R := Lib.hid (NO.out (fun h => eh (congrArg Tp.h h)))
                            obtain ⟨d1, d2⟩ := int_ne eh
                            clear eh
                            go_wp2_with fail
                            refine region_below (by kernel_rfl) (by kernel_rfl) ?_
                            repeat (go_big_quiet_step (fail))
                            refine wpQuiet_nil ?_
                            intro w3 hb3
                            have B3 := Lib.hid (below_from hb3 B1.out B1.out.size)
                            have S3 := Lib.hid (S1.out.past hb3)
                            have T3 := Lib.hid (T1.out.past hb3)
                            clear hb3
                            go_wp2_with fail
                            go_ret
                            exact ⟨ret_bool R.out.symm, B3.out⟩
                        · have R := Lib.hid (NO.out (fun h => ep (congrArg Tp.p h)))
                          obtain ⟨d1, d2⟩ := int_ne ep
                          clear ep
                          go_wp2_with fail
                          refine region_below (by kernel_rfl) (by kernel_rfl) ?_
                          repeat (go_big_quiet_step (fail))
                          refine wpQuiet_nil ?_
                          intro w3 hb3
                          have B3 := Lib.hid (below_from hb3 B1.out B1.out.size)
                          have S3 := Lib.hid (S1.out.past hb3)
                          have T3 := Lib.hid (T1.out.past hb3)
                          clear hb3
                          go_wp2_with fail
                          go_ret
                          exact ⟨ret_bool R.out.symm, B3.out⟩
                      · have R := Lib.hid (NO.out (fun h => et (congrArg Tp.t h)))
                        obtain ⟨d1, d2, d3⟩ := str_nes et
                        clear et
                        go_wp2_with fail
                        refine region_below (by kernel_rfl) (by kernel_rfl) ?_
                        repeat (go_big_quiet_step (fail))
                        refine wpQuiet_nil ?_
                        intro w3 hb3
                        have B3 := Lib.hid (below_from hb3 B1.out B1.out.size)
                        have S3 := Lib.hid (S1.out.past hb3)
                        have T3 := Lib.hid (T1.out.past hb3)
                        clear hb3
                        go_wp2_with fail
                        go_ret
                        exact ⟨ret_bool R.out.symm, B3.out⟩
                    · obtain rfl : x.Pn = k := by omega
                      have EL := Lib.hid (show x.P = y.P from List.ext_getElem? (fun j => by
                        rcases Nat.lt_or_ge j x.Pn with h | h
                        · exact hok.out j h
                        · rw [List.getElem?_eq_none (by rw [PL.out]; exact h), List.getElem?_eq_none (by rw [PL2.out, ← EPn.out]; exact h)]))
                      have EP := EL
                      clear EL
                      go_wp2_with fail
                      clear s1c s1l t1c t1l hgg hlt hk
                      go_loopg [6] x.Gn (fun gg s5 wr => ∃ k : Nat, k ≤ x.Gn ∧ x.Gn - k ≤ gg ∧ s5 = .int .i64 k ∧ Hid (Has wr w.heap.size #[.string x.id, .int .i64 x.pid, .int .i64 x.gen, .int .i64 x.no, .int .i64 x.st, .slice x.PA x.Pn x.Pc, .slice x.GA x.Gn x.Gc, .int .i64 x.at_]) ∧ Hid (Has wr (w.heap.size + 1) #[.string y.id, .int .i64 y.pid, .int .i64 y.gen, .int .i64 y.no, .int .i64 y.st, .slice y.PA y.Pn y.Pc, .slice y.GA y.Gn y.Gc, .int .i64 y.at_]) ∧ Hid (Below w.heap.size w wr) ∧ Hid (∀ j, j < k → x.G[j]? = y.G[j]?))
                      case atStart => exact ⟨0, Nat.zero_le _, by omega, rfl, S1, T1, B1, Lib.hid (fun j hj => absurd hj (Nat.not_lt_zero _))⟩
                      case round =>
                        obtain ⟨k, hk, hgg, rfl, S1, T1, B1, hok⟩ := hrel
                        have s1c := S1.out.cell
                        have s1l := S1.out.lt
                        have t1c := T1.out.cell
                        have t1l := T1.out.lt
                        by_cases hlt : k < x.Gn
                        · obtain ⟨b1, off1, hkl, ea1, hbl1, ua⟩ := str_at (HG.out.below B1.out) hlt
                          obtain ⟨b2, off2, hkl2, ea2, hbl2, va⟩ := str_at (HG2.out.below B1.out) (by rw [← EGn.out]; exact hlt)
                          have EV := Lib.hid (List.getElem?_eq_getElem hkl)
                          have EV' := Lib.hid (List.getElem?_eq_getElem hkl2)
                          have NO := Lib.hid (show x.G[k] ≠ y.G[k] → q = false from fun h => NO.out (fun e => h (by
                            have h1 : x.G[k]? = y.G[k]? := congrArg (fun z : Tv => z.G[k]?) e
                            rw [EV.out, EV'.out] at h1
                            exact Option.some.inj h1)))
                          generalize x.G[k] = xa at *
                          generalize y.G[k] = ya at *
                          have rs5 := at_regrown (w := wr) (v := .slice x.PA x.Pn x.Pc) (S1.out.cell 5)
                          have rt5 := at_regrown (w := wr) (v := .slice y.PA y.Pn y.Pc) (T1.out.cell 5)
                          have rs6 := at_regrown (w := wr) (v := .slice x.GA x.Gn x.Gc) (S1.out.cell 6)
                          have rt6 := at_regrown (w := wr) (v := .slice y.GA y.Gn y.Gc) (T1.out.cell 6)
                          rw [ea1] at rs6
                          rw [ea2] at rt6
                          have ra := at_regrown ua
                          have rb := at_regrown va
                          have k0 : (0 : Int) ≤ (k : Int) := by omega
                          have k1 : (k : Int) < (x.Gn : Int) := by omega
                          have k2 : (k : Int) < (y.Gn : Int) := by rw [← EGn.out]; omega
                          by_cases ea : xa = ya
                          · subst ea
                            go_wp2_with fail
                            refine region_below (by kernel_rfl) (by kernel_rfl) ?_
                            repeat (go_big_quiet_step (fail))
                            refine wpQuiet_nil ?_
                            intro w3 hb3
                            have B3 := Lib.hid (below_from hb3 B1.out B1.out.size)
                            have S3 := Lib.hid (S1.out.past hb3)
                            have T3 := Lib.hid (T1.out.past hb3)
                            clear hb3
                            go_wp2_with fail
                            go_roundg (x.Gn - (k + 1))
                            case measure => omega
                            case rel =>
                              refine ⟨k + 1, by omega, by omega, by go_num, S3, T3, B3, Lib.hid (fun j hj => ?_)⟩
                              by_cases ej : j = k
                              · subst ej; rw [EV.out, EV'.out]
                              · exact hok.out j (by omega)
                          · have R := Lib.hid (NO.out (fun h => ea (h)))
                            obtain ⟨d1, d2, d3⟩ := str_nes ea
                            clear ea
                            go_wp2_with fail
                            refine region_below (by kernel_rfl) (by kernel_rfl) ?_
                            repeat (go_big_quiet_step (fail))
                            refine wpQuiet_nil ?_
                            intro w3 hb3
                            have B3 := Lib.hid (below_from hb3 B1.out B1.out.size)
                            have S3 := Lib.hid (S1.out.past hb3)
                            have T3 := Lib.hid (T1.out.past hb3)
                            clear hb3
                            go_wp2_with fail
                            go_ret
                            exact ⟨ret_bool R.out.symm, B3.out⟩
                        · obtain rfl : x.Gn = k := by omega
                          have EL := Lib.hid (show x.G = y.G from List.ext_getElem? (fun j => by
                            rcases Nat.lt_or_ge j x.Gn with h | h
                            · exact hok.out j h
                            · rw [List.getElem?_eq_none (by rw [GL.out]; exact h), List.getElem?_eq_none (by rw [GL2.out, ← EGn.out]; exact h)]))
                          have R := Lib.hid (YES.out Eid.out Epid.out Egen.out Eno.out Est.out Eat_.out EP.out EL.out)
                          go_wp2_with fail
                          go_ret
                          exact ⟨ret_bool R.out.symm, B1.out⟩
                · have R := Lib.hid (NO.out (fun h => eGn (by have := congrArg List.length (congrArg Tv.G h); exact GL.out.symm.trans (this.trans GL2.out))))
                  have d1 : ((x.Gn : Int) != (y.Gn : Int)) = true := by rw [bne_iff_ne]; omega
                  clear eGn
                  go_enter Try.func20, Try.ntmps20
                  go_upto_region 1 with (fail)
                  rw [← HW0.out]
                  go_wp2_with fail
                  go_ret
                  exact ⟨ret_bool R.out.symm, B0.out⟩
              · have R := Lib.hid (NO.out (fun h => ePn (by have := congrArg List.length (congrArg Tv.P h); exact PL.out.symm.trans (this.trans PL2.out))))
                have d1 : ((x.Pn : Int) != (y.Pn : Int)) = true := by rw [bne_iff_ne]; omega
                clear ePn
                go_enter Try.func20, Try.ntmps20
                go_upto_region 1 with (fail)
                rw [← HW0.out]
                go_wp2_with fail
                go_ret
                exact ⟨ret_bool R.out.symm, B0.out⟩
            · have R := Lib.hid (NO.out (fun h => eat_ (congrArg Tv.at_ h)))
              have d1 : (x.at_ != y.at_) = true := by rw [bne_iff_ne]; exact eat_
              clear eat_
              go_enter Try.func20, Try.ntmps20
              go_upto_region 1 with (fail)
              rw [← HW0.out]
              go_wp2_with fail
              go_ret
              exact ⟨ret_bool R.out.symm, B0.out⟩
          · have R := Lib.hid (NO.out (fun h => est (congrArg Tv.st h)))
            have d1 : (x.st != y.st) = true := by rw [bne_iff_ne]; exact est
            clear est
            go_enter Try.func20, Try.ntmps20
            go_upto_region 1 with (fail)
            rw [← HW0.out]
            go_wp2_with fail
            go_ret
            exact ⟨ret_bool R.out.symm, B0.out⟩
        · have R := Lib.hid (NO.out (fun h => eno (congrArg Tv.no h)))
          have d1 : (x.no != y.no) = true := by rw [bne_iff_ne]; exact eno
          clear eno
          go_enter Try.func20, Try.ntmps20
          go_upto_region 1 with (fail)
          rw [← HW0.out]
          go_wp2_with fail
          go_ret
          exact ⟨ret_bool R.out.symm, B0.out⟩
      · have R := Lib.hid (NO.out (fun h => egen (congrArg Tv.gen h)))
        have d1 : (x.gen != y.gen) = true := by rw [bne_iff_ne]; exact egen
        clear egen
        go_enter Try.func20, Try.ntmps20
        go_upto_region 1 with (fail)
        rw [← HW0.out]
        go_wp2_with fail
        go_ret
        exact ⟨ret_bool R.out.symm, B0.out⟩
    · have R := Lib.hid (NO.out (fun h => epid (congrArg Tv.pid h)))
      have d1 : (x.pid != y.pid) = true := by rw [bne_iff_ne]; exact epid
      clear epid
      go_enter Try.func20, Try.ntmps20
      go_upto_region 1 with (fail)
      rw [← HW0.out]
      go_wp2_with fail
      go_ret
      exact ⟨ret_bool R.out.symm, B0.out⟩
  · have R := Lib.hid (NO.out (fun h => eid (congrArg Tv.id h)))
    obtain ⟨d1, d2, d3⟩ := str_nes eid
    clear eid
    go_enter Try.func20, Try.ntmps20
    go_upto_region 1 with (fail)
    rw [← HW0.out]
    go_wp2_with fail
    go_ret
    exact ⟨ret_bool R.out.symm, B0.out⟩

end Go.Proofs.Ytnigjchgpmladaa

namespace Go.Proofs.Ytnigjchgpmladaa
open Go.RowKit Go.Shelf

set_option maxRecDepth 100000 in
set_option maxHeartbeats 16000000 in
theorem samel_any (A : Option Addr) (n c : Nat) (l : List Tx) (A' : Option Addr) (n' c' : Nat) (l' : List Tx) (w : World) (hl : Sl txK w A n c l) (hl' : Sl txK w A' n' c' l') :
    Calls Try.prog 21 #[.slice A n c, .slice A' n' c'] w fun e w' => e = .returned (.bool (decide (l.map Tx.val = l'.map Tx.val))) ∧ Below w.heap.size w w' := by
  have HN := Lib.hid hl.len
  have HN2 := Lib.hid hl'.len
  have hmax := hl.max
  have hcap := hl.cap
  have HL := Lib.hid hl
  have HL2 := Lib.hid hl'
  clear hl hl'
  by_cases en : n = n'
  · subst en
    go_enter Try.func21, Try.ntmps21
    go_wp2_with fail
    go_loopg [5] n (fun gg s5 wr => ∃ k : Nat, k ≤ n ∧ n - k ≤ gg ∧ s5 = .int .i64 k ∧ Hid (Below w.heap.size w wr) ∧ Hid (∀ j, j < k → (l.map Tx.val)[j]? = (l'.map Tx.val)[j]?))
    case atStart => exact ⟨0, Nat.zero_le _, by omega, rfl, Lib.hid (Below.refl _ _), Lib.hid (fun j hj => absurd hj (Nat.not_lt_zero _))⟩
    case round =>
      obtain ⟨k, hk, hgg, rfl, B1, hok⟩ := hrel
      by_cases hlt : k < n
      · obtain ⟨b, off, hkl, rfl, hbl, u0, u1, u2, u3, u4, u5, u6, u7⟩ := tx_at (HL.out.below B1.out) hlt
        obtain ⟨b', off', hkl', rfl, hbl', v0, v1, v2, v3, v4, v5, v6, v7⟩ := tx_at (HL2.out.below B1.out) hlt
        have EV := Lib.hid (show (l.map Tx.val)[k]? = some l[k].val from by rw [List.getElem?_map, List.getElem?_eq_getElem hkl]; rfl)
        have EV' := Lib.hid (show (l'.map Tx.val)[k]? = some l'[k].val from by rw [List.getElem?_map, List.getElem?_eq_getElem hkl']; rfl)
        have XI := Lib.hid (show Tx.In w l[k] from HL.out.each l[k] (List.getElem_mem hkl))
        have YI := Lib.hid (show Tx.In w l'[k] from HL2.out.each l'[k] (List.getElem_mem hkl'))
        generalize l[k] = x at *
        generalize l'[k] = y at *
        have SX := Lib.hid (fun w' (h : Below wr.heap.size wr w') => sametx_any x y w' ⟨XI.out.id, XI.out.p.below (below_from h B1.out B1.out.size), XI.out.g.below (below_from h B1.out B1.out.size)⟩ ⟨YI.out.id, YI.out.p.below (below_from h B1.out B1.out.size), YI.out.g.below (below_from h B1.out B1.out.size)⟩)
        have ru0 := at_regrown u0
        have rv0 := at_regrown v0
        have ru1 := at_regrown u1
        have rv1 := at_regrown v1
        have ru2 := at_regrown u2
        have rv2 := at_regrown v2
        have ru3 := at_regrown u3
        have rv3 := at_regrown v3
        have ru4 := at_regrown u4
        have rv4 := at_regrown v4
        have ru5 := at_regrown u5
        have rv5 := at_regrown v5
        have ru6 := at_regrown u6
        have rv6 := at_regrown v6
        have ru7 := at_regrown u7
        have rv7 := at_regrown v7
        have k0 : (0 : Int) ≤ (k : Int) := by omega
        have k1 : (k : Int) < (n : Int) := by omega
        by_cases e : x.val = y.val
        · have E := Lib.hid e
          rw [decide_eq_true e] at SX
          clear e
          go_wp2_with fail
          refine region_below (by kernel_rfl) (by kernel_rfl) ?_
          repeat (go_big_quiet_step ((go_at_call 20; exact call_regrown SX.out)))
          refine wpQuiet_nil ?_
          intro w3 hb3
          have B3 := Lib.hid (below_from hb3 B1.out B1.out.size)
          clear hb3
          go_wp2_with fail
          go_roundg (n - (k + 1))
          case measure => omega
          case rel =>
            refine ⟨k + 1, by omega, by omega, by go_num, B3, Lib.hid (fun j hj => ?_)⟩
            by_cases ej : j = k
            · subst ej; rw [EV.out, EV'.out, E.out]
            · exact hok.out j (by omega)
        · have R := Lib.hid (show decide (l.map Tx.val = l'.map Tx.val) = false from decide_eq_false (fun h => e (by have := EV.out; rw [h, EV'.out] at this; exact (Option.some.inj this).symm)))
          rw [decide_eq_false e] at SX
          clear e
          go_wp2_with fail
          refine region_below (by kernel_rfl) (by kernel_rfl) ?_
          repeat (go_big_quiet_step ((go_at_call 20; exact call_regrown SX.out)))
          refine wpQuiet_nil ?_
          intro w3 hb3
          have B3 := Lib.hid (below_from hb3 B1.out B1.out.size)
          clear hb3
          go_wp2_with fail
          go_ret
          exact ⟨ret_bool R.out.symm, B3.out⟩
      · obtain rfl : k = n := by omega
        have EQ := Lib.hid (show l.map Tx.val = l'.map Tx.val from by
          apply List.ext_getElem?
          intro j
          rcases Nat.lt_or_ge j k with h | h
          · exact hok.out j h
          · rw [List.getElem?_eq_none (by rw [List.length_map, HN.out]; exact h), List.getElem?_eq_none (by rw [List.length_map, HN2.out]; exact h)])
        go_wp2_with fail
        go_ret
        exact ⟨ret_bool (decide_eq_true EQ.out).symm, B1.out⟩
  · have d1 : ((n : Int) == (n' : Int)) = false := by rw [beq_eq_false_iff_ne]; omega
    have d2 : decide ((n : Int) = (n' : Int)) = false := decide_eq_false (by omega)
    have d3 : (n == n') = false := by rw [beq_eq_false_iff_ne]; omega
    have d0 : ((n : Int) != (n' : Int)) = true := by rw [bne_iff_ne]; omega
    have NE := Lib.hid (show ¬ l.map Tx.val = l'.map Tx.val from fun h => en (by have := congrArg List.length h; rw [List.length_map, List.length_map, HN.out, HN2.out] at this; exact this))
    clear en
    go_enter Try.func21, Try.ntmps21
    go_wp2_with fail
    go_ret
    exact ⟨ret_bool (decide_eq_false NE.out).symm, Below.refl _ _⟩

end Go.Proofs.Ytnigjchgpmladaa

namespace Go.Proofs.Ytnigjchgpmladaa
open Go.RowKit Go.Shelf

set_option maxRecDepth 100000 in
set_option maxHeartbeats 16000000 in
theorem same_any (o q : Tc) (w : World) (ho : Tc.At w o) (hq : Tc.At w q) : Calls Try.prog 17 #[o.v, q.v] w fun e w' => e = .returned (.bool (decide (o.val = q.val))) ∧ Below w.heap.size w w' := by
  obtain ⟨W0, hW0⟩ : ∃ W0, W0 = (w.alloc (.cells #[.int .i64 o.next, .slice o.A o.n o.c] 24)).alloc (.cells #[.int .i64 q.next, .slice q.A q.n q.c] 24) := ⟨_, rfl⟩
  have B0 := Lib.hid (show Below w.heap.size w W0 from by rw [hW0]; exact (below_alloc1 w _).alloc (by simp) _)
  have S0 := Lib.hid (show Has W0 w.heap.size #[.int .i64 o.next, .slice o.A o.n o.c] from by rw [hW0]; exact (Has.newAt w _ 24 rfl).alloc _)
  have T0 := Lib.hid (show Has W0 (w.heap.size + 1) #[.int .i64 q.next, .slice q.A q.n q.c] from by rw [hW0]; exact Has.newAt _ _ 24 (by simp))
  have SL := Lib.hid (fun w' (h : Below W0.heap.size W0 w') => samel_any o.A o.n o.c o.L q.A q.n q.c q.L w' ((show Sl txK w o.A o.n o.c o.L from ho).below (below_from h B0.out B0.out.size)) ((show Sl txK w q.A q.n q.c q.L from hq).below (below_from h B0.out B0.out.size)))
  have HW0 := Lib.hid hW0
  clear ho hq hW0
  have rs0 := at_regrown (v := .int .i64 o.next) (S0.out.cell 0)
  have rs1 := at_regrown (v := .slice o.A o.n o.c) (S0.out.cell 1)
  have rt0 := at_regrown (v := .int .i64 q.next) (T0.out.cell 0)
  have rt1 := at_regrown (v := .slice q.A q.n q.c) (T0.out.cell 1)
  have s0l := S0.out.lt
  have t0l := T0.out.lt
  by_cases e : o.next = q.next
  · have d0 : (o.next == q.next) = true := by rw [beq_iff_eq]; exact e
    have R := Lib.hid (show decide (o.val = q.val) = decide (o.L.map Tx.val = q.L.map Tx.val) from by
      unfold Tc.val
      simp [e])
    clear e
    go_enter Try.func17, Try.ntmps17
    go_upto_region 1 with (fail)
    rw [← HW0.out]
    have s0c := S0.out.cell
    have t0c := T0.out.cell
    go_wp2_with (go_at_call 21; refine (SL.out _ (Below.refl _ _)).mono ?_; rintro e w3 ⟨rfl, hb3⟩)
    have B3 := Lib.hid (below_from hb3 B0.out B0.out.size)
    clear hb3 s0c t0c
    try go_wp2_with fail
    go_ret
    exact ⟨ret_bool R.out.symm, B3.out⟩
  · have d0 : (o.next == q.next) = false := by rw [beq_eq_false_iff_ne]; exact e
    have R := Lib.hid (show decide (o.val = q.val) = false from decide_eq_false (fun h => e (congrArg Cv.next h)))
    clear e
    go_enter Try.func17, Try.ntmps17
    go_upto_region 1 with (fail)
    rw [← HW0.out]
    have s0c := S0.out.cell
    have t0c := T0.out.cell
    go_wp2_with fail
    go_ret
    exact ⟨ret_bool R.out.symm, B0.out⟩

end Go.Proofs.Ytnigjchgpmladaa
