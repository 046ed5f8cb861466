/- The document's Mark. -/
import Derived.Test.YtnkjkgakbgjddaaRHold
import Derived.Test.YtnkjkgakbgjddaaMc
namespace Go.Proofs.Ytnkjkgakbgjddaa
open Go.RowKit

/-- What Mark has done when k of those that wait were seen. -/
structure MR (A : Option Addr) (n c : Nat) (L : List Ps) (A' : Option Addr) (n' c' : Nat) (M : List Wt) (pid : Int) (yes : Bool) (w : World) (k : Nat) (Al : Option Addr) (nl cl : Nat) (A1 : Option Addr) (n1 c1 : Nat) (wr : World) : Prop where
  b : Below w.heap.size w wr
  z : w.heap.size + 2 ≤ wr.heap.size
  s : Has wr w.heap.size #[.slice A n c, .slice A' n' c']
  r : Has wr (w.heap.size + 1) #[.slice none 0 0, .slice none 0 0]
  own : Own wtK 52 wr (w.heap.size + 2) Al nl cl (leftM pid (M.take k))
  sl : Sl psK wr A1 n1 c1 (markL pid yes L (M.take k))
  ne : (A1 = A ∧ n1 = n ∧ c1 = c ∧ markL pid yes L (M.take k) = L) ∨ ∀ b off, A1 = some ⟨b, off, none⟩ → w.heap.size + 2 ≤ b ∧ b < wr.heap.size ∧ (Value.slice Al nl cl).ownBlock ≠ some b
  up : Up ordP (markL pid yes L (M.take k))
  len : n1 ≤ n + k ∧ nl ≤ k
set_option maxRecDepth 100000 in
set_option maxHeartbeats 16000000 in
theorem rmarkO_any (o : Of) (pid : Int) (yes : Bool) (w : World) (ho : Of.At w o) : Calls Try.prog 19 #[o.v, .int .i64 pid, .bool yes] w (ChRes o (markV o.L o.M pid yes) w) := by
  obtain ⟨A, n, c, L, A', n', c', M⟩ := o
  obtain ⟨W0, hW0⟩ : ∃ W0, W0 = (w.alloc (.cells #[.slice A n c, .slice A' n' c'] 25)).alloc (.cells #[.slice none 0 0, .slice none 0 0] 25) := ⟨_, rfl⟩
  have B0 := Lib.hid (show Below w.heap.size w W0 from by rw [hW0]; exact (below_alloc1 w _).alloc (by simp) _)
  have S0 := Lib.hid (show Has W0 w.heap.size #[.slice A n c, .slice A' n' c'] from by rw [hW0]; exact (Has.newAt w _ 25 rfl).alloc _)
  have R0 := Lib.hid (show Has W0 (w.heap.size + 1) #[.slice none 0 0, .slice none 0 0] from by rw [hW0]; exact (Has.newAt _ _ 25 (by simp)))
  have z0 := Lib.hid (show w.heap.size + 2 ≤ W0.heap.size from by rw [hW0]; exact Nat.le_of_eq (by simp))
  have CK := Lib.hid (fun W (h : Below w.heap.size w W) => rcheck_any ⟨A, n, c, L, A', n', c', M⟩ W (ho.below h))
  have HO := Lib.hid ho
  obtain ⟨i0, hi0, hz0, hz1, hz2⟩ := info_parts inf52
  have s0c := S0.out.cell
  have s0l := S0.out.lt
  have s0f := S0.out.free
  have r0c := R0.out.cell
  have r0l := R0.out.lt
  have r0f := R0.out.free
  have HW0 := Lib.hid hW0
  have m1 : c ≤ _ := ho.1.max
  have m2 : n ≤ c := ho.1.cap
  have m3 : c' ≤ _ := ho.2.max
  have m4 : n' ≤ c' := ho.2.cap
  clear hW0
  obtain ⟨k, hk⟩ : ∃ k, checkV L M = k := ⟨_, rfl⟩
  obtain ⟨V, hV⟩ : ∃ V, markV L M pid yes = V := ⟨_, rfl⟩
  show Calls Try.prog 19 _ w (ChRes ⟨A, n, c, L, A', n', c', M⟩ (markV L M pid yes) w)
  rw [hV]
  simp only [hk] at CK
  by_cases h0 : k = 0
  · subst h0
    have HV := Lib.hid (show V = capV (markL pid yes L M) (leftM pid M) from by rw [← hV]; unfold markV chV; rw [if_pos hk, if_pos rfl])
    have CL := check_ok hk
    have LN := Lib.hid (show L.length = n from ho.1.len)
    have LM := Lib.hid (show M.length = n' from ho.2.len)
    have hn : n ≤ 4096 := by have := LN.out; omega
    have hn' : n' ≤ 4096 := by have := LM.out; omega
    have HU := Lib.hid (check_upL hk)
    have LEFT := Lib.hid (show ¬ 4096 < (leftM pid M).length from fun h => by have : (leftM pid M).length ≤ M.length := List.length_filter_le _ _; omega)
    clear hk hV ho CL
    go_enter Try.func19, Try.ntmps19
    go_wp2_with fail
    rw [← HW0.out]
    obtain ⟨ov, hov⟩ : ∃ x, Of.v ⟨A, n, c, L, A', n', c', M⟩ = x := ⟨_, rfl⟩
    rw [hov]
    clear hov
    go_wp2_with (first
      | (go_at_call 21
         refine (CK.out _ B0.out).mono ?_
         rintro e w1 ⟨rfl, hb⟩
         have B1 := Lib.hid (below_from hb B0.out B0.out.size)
         have z1 := Lib.hid (Nat.le_trans z0.out hb.size)
         have S1 := Lib.hid (S0.out.past hb)
         have s1c := S1.out.cell
         have s1l := S1.out.lt
         have s1f := S1.out.free
         have R1 := Lib.hid (R0.out.past hb)
         have r1c := R1.out.cell
         have r1l := R1.out.lt
         have r1f := R1.out.free
         clear s0c s0l s0f
         clear r0c r0l r0f

         clear hb))
    have M0 : Hid (MR A n c L A' n' c' M pid yes w 0 none 0 0 A n c w1) := Lib.hid
      { b := B1.out, z := z1.out, s := S1.out, r := R1.out
        own := by rw [List.take_zero]; exact ⟨rfl, World.ownsRow_nil _ _ _ _, by intro a ha; simp [leftM] at ha⟩
        sl := by rw [List.take_zero]; exact HO.out.1.below B1.out
        ne := by rw [List.take_zero]; exact .inl ⟨rfl, rfl, rfl, rfl⟩
        up := by rw [List.take_zero]; exact HU.out
        len := ⟨Nat.le_refl _, Nat.le_refl _⟩ }
    clear s1c s1l s1f r1c r1l r1f S1 R1 B1 z1 B0 S0 R0 z0
    go_loopg [9, 10, 11] n' (fun kx s9 s10 s11 wr => ∃ (k : Nat) (Al : Option Addr) (nl cl : Nat) (A1 : Option Addr) (n1 c1 : Nat), k ≤ n' ∧ n' - k ≤ kx ∧ s9 = .slice A1 n1 c1 ∧ s10 = .slice Al nl cl ∧ s11 = .int .i64 k ∧ Hid (MR A n c L A' n' c' M pid yes w k Al nl cl A1 n1 c1 wr))
    case atStart => exact ⟨0, none, 0, 0, A, n, c, Nat.zero_le _, by omega, rfl, rfl, rfl, M0⟩
    case round =>
      clear M0
      obtain ⟨k, Al, nl, cl, A1, n1, c1, hk, hgg, rfl, rfl, rfl, I⟩ := hrel
      have s1c := I.out.s.cell
      have s1l := I.out.s.lt
      by_cases hlt : k < n'
      · obtain ⟨b, off, hkl, rfl, hbl, x0, x1, x2, x3, x4, x5⟩ := Wts.at_ (HO.out.2.below I.out.b) hlt
        obtain ⟨x, hx⟩ : ∃ x, M[k] = x := ⟨_, rfl⟩
        have XW := Lib.hid (show x.wf from by have := HO.out.2.each _ (List.getElem_mem hkl); simp only [hx] at this; exact this)
        have TK := Lib.hid (show M.take (k + 1) = M.take k ++ [x] from by rw [List.take_succ_eq_append_getElem hkl, hx])
        simp only [hx] at x0 x1 x2 x3 x4 x5
        have LNX := Lib.hid (show n1 ≤ n + k ∧ nl ≤ k from I.out.len)
        have k0 : (0 : Int) ≤ (k : Int) := by omega
        have k1 : (k : Int) < (n' : Int) := by omega
        clear hx hkl
        by_cases hp : x.pid = pid
        · have p0 : decide (x.pid = pid) = true := decide_eq_true hp
          have p1 : (x.pid == pid) = true := by rw [hp]; exact beq_self_eq_true _
          have p2 : (x.pid != pid) = false := by rw [hp]; exact bne_self_eq_false _
          have HP := Lib.hid hp
          have LF := Lib.hid (show leftM pid (M.take (k + 1)) = leftM pid (M.take k) from by rw [TK.out, left_on, if_pos hp])
          clear hp
          cases yes with
          | false =>
            have MK := Lib.hid (show markL pid false L (M.take (k + 1)) = markL pid false L (M.take k) from by rw [TK.out, mark_on]; unfold stepL; rw [if_neg (fun h => by cases h.2)])
            go_wp2_with fail
            go_roundg (n' - (k + 1))
            case measure => omega
            case rel =>
              refine ⟨k + 1, Al, nl, cl, A1, n1, c1, by omega, by omega, rfl, rfl, by go_num, Lib.hid ?_⟩
              exact { b := I.out.b, z := I.out.z, s := I.out.s, r := I.out.r, own := by rw [LF.out]; exact I.out.own
                      sl := by rw [MK.out]; exact I.out.sl, ne := by rw [MK.out]; exact I.out.ne, up := by rw [MK.out]; exact I.out.up, len := by have := LNX.out; exact ⟨(by omega : n1 ≤ n + (k + 1)), (by omega : nl ≤ k + 1)⟩ }
          | true =>
            have MK := Lib.hid (show markL pid true L (M.take (k + 1)) = insC ordP x.pos (markL pid true L (M.take k)) from by rw [TK.out, mark_on]; unfold stepL; rw [if_pos ⟨HP.out, rfl⟩])
            have n9 := LNX.out.1
            have WP := Lib.hid (fun W (h : Below wr.heap.size wr W) => rput_any A1 n1 c1 _ x.pos W (I.out.sl.below h) I.out.up (by omega) XW.out.2)
            have ML := Lib.hid I.out.sl.len
            unfold Ps.v at WP
            clear n9
            go_wp2_with (go_at_call 40; refine (WP.out _ (Below.refl _ _)).mono ?_; rintro e w2 ⟨A2, n2, c2, rfl, hO, hb⟩; have B2 := Lib.hid hb; have HO2 := Lib.hid hO; clear hb hO s1c s1l)
            go_roundg (n' - (k + 1))
            case measure => omega
            case rel =>
              have zw := I.out.z
              have bw : Below w.heap.size w w2 := below_from B2.out I.out.b I.out.b.size
              refine ⟨k + 1, Al, nl, cl, A2, n2, c2, by omega, by omega, rfl, rfl, by go_num, Lib.hid ?_⟩
              exact { b := bw, z := Nat.le_trans zw B2.out.size, s := I.out.s.past B2.out, r := I.out.r.past B2.out, own := by rw [LF.out]; exact I.out.own.kept B2.out
                      sl := by rw [MK.out]; exact HO2.out.sl
                      ne := by
                        refine .inr fun b off e => ?_
                        have h1 := HO2.out.lt e
                        exact ⟨by omega, h1.2, fun e2 => by have := (I.out.own.2.1.lt b e2).2; omega⟩
                      up := by rw [MK.out]; exact ins_up lawP I.out.up
                      len := by
                        have := LNX.out
                        have h1 := HO2.out.1
                        have h2 := (ins_len (c := ordP) (x := x.pos) (l := markL pid true L (M.take k))).2
                        have h3 := ML.out
                        exact ⟨(by omega : n2 ≤ n + (k + 1)), (by omega : nl ≤ k + 1)⟩ }
        · have p0 : decide (x.pid = pid) = false := decide_eq_false hp
          have p1 : (x.pid == pid) = false := by rw [beq_eq_false_iff_ne]; exact hp
          have p2 : (x.pid != pid) = true := by rw [bne_iff_ne]; exact hp
          have LF := Lib.hid (show leftM pid (M.take (k + 1)) = leftM pid (M.take k) ++ [x] from by rw [TK.out, left_on, if_neg hp])
          have MK := Lib.hid (show markL pid yes L (M.take (k + 1)) = markL pid yes L (M.take k) from by rw [TK.out, mark_on]; unfold stepL; rw [if_neg (fun h => hp h.1)])
          clear hp
          have B2 := Lib.hid (below_alloc1 wr (.cells #[.int .i64 x.pid, .string x.pos.g, .string x.pos.t, .int .i64 x.pos.p, .int .i64 x.pos.h, .int .i64 x.pos.o] 52))
          have O2 := Lib.hid (I.out.own.kept B2.out)
          have zw := I.out.z
          have hnl := LNX.out.2
          have HP1 := Lib.hid (B2.out.size)
          go_wp2_with (at_builtin; refine wpList_app1 (K := wtK) _ rfl _ _ 23 rfl (w.heap.size + 2) 52 i0 _ 64 Try.underlying23 hi0 hz0 hz1 hz2 rfl Al nl cl _ rfl O2.out wr.heap.size rfl x (fun j _ => ((Has.newAt wr #[.int .i64 x.pid, .string x.pos.g, .string x.pos.t, .int .i64 x.pos.p, .int .i64 x.pos.h, .int .i64 x.pos.o] 52 (g := wr.heap.size) rfl).cell j).trans (by simp; rfl)) XW.out (fun _ _ h => h) ?qc2 ?qc3 ?qc4 ?_)
          case qc2 => unfold maxLen; omega
          case qc3 => omega
          case qc4 => exact Nat.le_trans zw HP1.out
          intro A3 c3 w3 hown hgrow hat
          have HA3 := Lib.hid hat
          have HO3 := Lib.hid hown
          have HG3 := Lib.hid hgrow
          clear hown hgrow hat
          go_wp2_with fail
          go_roundg (n' - (k + 1))
          case measure => omega
          case rel =>
            have QB : ∀ q, (Value.slice Al nl cl).ownBlock = some q → w.heap.size + 2 ≤ q := fun q hq => (O2.out.2.1.lt q hq).1
            have bw := below_from B2.out I.out.b I.out.b.size
            refine ⟨k + 1, A3, nl + 1, c3, A1, n1, c1, by omega, by omega, rfl, rfl, by go_num, Lib.hid ?_⟩
            exact { b := bw.trans (grown_below HG3.out bw.size (fun q hq => by have := QB q hq; omega)), z := Nat.le_trans (Nat.le_trans zw B2.out.size) HG3.out.size
                    s := (I.out.s.past B2.out).beside HG3.out (fun e => by have := QB _ e.symm; omega), r := (I.out.r.past B2.out).beside HG3.out (fun e => by have := QB _ e.symm; omega)
                    own := by rw [LF.out]; exact HO3.out
                    sl := by
                      rw [MK.out]
                      have b3 := bw.trans (grown_below HG3.out bw.size (fun q hq => by have := QB q hq; omega))
                      rcases I.out.ne with ⟨h1, h2, h3, h4⟩ | h
                      · rw [h4, h1, h2, h3]
                        exact HO.out.1.below b3
                      · exact (I.out.sl.below B2.out).apart HG3.out (fun b off e he => (h b off e).2.2 he.symm) (fun x hx => I.out.sl.each x hx)
                    ne := by
                      rw [MK.out]
                      refine I.out.ne.imp id fun h b off e => ?_
                      obtain ⟨h1, h2, h3⟩ := h b off e
                      refine ⟨h1, Nat.lt_of_lt_of_le h2 (Nat.le_trans B2.out.size HG3.out.size), fun e2 => ?_⟩
                      rcases HA3.out with h4 | h4
                      · exact h3 (h4.symm.trans e2)
                      · have := h4.symm.trans e2
                        injection this with this
                        first | omega | (simp at this; omega)
                    up := by rw [MK.out]; exact I.out.up
                    len := by have := LNX.out; exact ⟨(by omega : n1 ≤ n + (k + 1)), (by omega : nl + 1 ≤ k + 1)⟩ }
      · have jn : n' = k := by omega
        subst jn
        have TK := Lib.hid (show M.take n' = M from List.take_of_length_le (Nat.le_of_eq LM.out))
        have s1f := I.out.s.free
        have r1c := I.out.r.cell
        have r1l := I.out.r.lt
        have r1f := I.out.r.free
        have LE := I.out.len
        have I1 := I.out.sl
        have I2 := I.out.own
        have I3 := I.out.ne
        rw [TK.out] at I1 I2 I3
        have q1 := I1.max
        have q2 := I1.cap
        have I1L := Lib.hid I1.len
        have AT := Lib.hid (show Of.At wr ⟨A1, n1, c1, markL pid yes L M, Al, nl, cl, leftM pid M⟩ from ⟨I1, I2.sl⟩)
        have FR := Lib.hid (show Of.From (w.heap.size + 2) ⟨A, n, c, L, A', n', c', M⟩ ⟨A1, n1, c1, markL pid yes L M, Al, nl, cl, leftM pid M⟩ from ⟨I3.imp id fun h b off e => (h b off e).1, .inr fun b off e => (I2.lt e).1⟩)
        clear I1 I2 I3 hgg hk hlt
        by_cases h1 : 4096 < n1
        · have HR := Lib.hid (show V = ([], [], 2) from by rw [HV.out]; unfold capV; rw [if_pos (.inl (by rw [I1L.out]; exact h1))])
          have dc : decide ((4096 : Int) < (n1 : Int)) = true := decide_eq_true (by omega)
          clear h1
          go_wp2_with fail
          refine bodyPost_ret (v := .tuple #[ofV none 0 0 none 0 0, .int .i64 2]) (by simp [results, Try.results19, go_sem, r1c]) rfl ?_
          exact chRes_no HR.out (I.out.b.trans (grown_below (setCells_grown (w.heap.size + 1) [.slice none 0 0, .slice none 0 0] 0 wr) I.out.b.size (fun k hk => by injection hk with hk; omega)))
        · have HR := Lib.hid (show V = (markL pid yes L M, leftM pid M, 0) from by rw [HV.out]; unfold capV; rw [if_neg (fun h => h.elim (by rw [I1L.out]; exact h1) LEFT.out)])
          have dc : decide ((4096 : Int) < (n1 : Int)) = false := decide_eq_false (by omega)
          clear h1
          go_wp2_with fail
          have G2 := setCells_grown (w.heap.size + 1) [.slice A1 n1 c1, .slice Al nl cl] 0 wr
          refine bodyPost_ret (v := .tuple #[(⟨A1, n1, c1, markL pid yes L M, Al, nl, cl, leftM pid M⟩ : Of).v, .int .i64 0]) (by simp [results, Try.results19, go_sem, r1c]) rfl ?_
          have b2 := I.out.b.trans (grown_below G2 I.out.b.size (fun k hk => by injection hk with hk; omega))
          rw [HR.out]
          exact ⟨⟨A1, n1, c1, markL pid yes L M, Al, nl, cl, leftM pid M⟩, rfl, AT.out.kept FR.out HO.out b2 G2 (by omega), rfl, rfl, FR.out.mono (by omega), b2⟩
  · have HR := Lib.hid (show V = ([], [], k) from by rw [← hV]; unfold markV chV; rw [if_neg (by rw [hk]; exact h0), hk])
    have d1 : decide (k = 0) = false := decide_eq_false h0
    have d2 : (k != 0) = true := by rw [bne_iff_ne]; exact h0
    have d3 : (k == 0) = false := by rw [beq_eq_false_iff_ne]; exact h0
    clear hk hV ho h0
    go_enter Try.func19, Try.ntmps19
    go_wp2_with fail
    rw [← HW0.out]
    obtain ⟨ov, hov⟩ : ∃ x, Of.v ⟨A, n, c, L, A', n', c', M⟩ = x := ⟨_, rfl⟩
    rw [hov]
    clear hov
    go_wp2_with (first
      | (go_at_call 21
         refine (CK.out _ B0.out).mono ?_
         rintro e w1 ⟨rfl, hb⟩
         have B1 := Lib.hid (below_from hb B0.out B0.out.size)
         have z1 := Lib.hid (Nat.le_trans z0.out hb.size)
         have S1 := Lib.hid (S0.out.past hb)
         have s1c := S1.out.cell
         have s1l := S1.out.lt
         have s1f := S1.out.free
         have R1 := Lib.hid (R0.out.past hb)
         have r1c := R1.out.cell
         have r1l := R1.out.lt
         have r1f := R1.out.free
         clear s0c s0l s0f
         clear r0c r0l r0f

         clear hb))
    refine bodyPost_ret (v := .tuple #[ofV none 0 0 none 0 0, .int .i64 k]) (by simp [results, Try.results19, go_sem, r1c]) rfl ?_
    exact chRes_no HR.out (B1.out.trans (grown_below (setCells_grown (w.heap.size + 1) [.slice none 0 0, .slice none 0 0] 0 w1) B1.out.size (fun k hk => by injection hk with hk; omega)))

end Go.Proofs.Ytnkjkgakbgjddaa
