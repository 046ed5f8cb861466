/- The change of Mark. -/
import Derived.Test.YtnkjkgakbgjddaaChg
import Derived.Maps.AppendAt
namespace Go.Proofs.Ytnkjkgakbgjddaa
open Go.RowKit

/-- What Mark's change has done when k of those that wait were seen. -/
structure MI (o : Of) (pid : Int) (yes : Bool) (w : World) (k : Nat) (Al : Option Addr) (nl cl : Nat) (A1 : Option Addr) (n1 c1 : Nat) (wr : World) : Prop where
  b : Below w.heap.size w wr
  z : w.heap.size + 2 ≤ wr.heap.size
  s : Has wr w.heap.size #[.slice A1 n1 c1, .slice o.A' o.n' o.c']
  r : Has wr (w.heap.size + 1) #[.slice none 0 0, .slice none 0 0]
  own : Own wtK 52 wr (w.heap.size + 2) Al nl cl (leftM pid (o.M.take k))
  sl : Sl psK wr A1 n1 c1 (markL pid yes o.L (o.M.take k))
  ne : (A1 = o.A ∧ n1 = o.n ∧ c1 = o.c ∧ markL pid yes o.L (o.M.take k) = o.L) ∨ ∀ b off, A1 = some ⟨b, off, none⟩ → w.heap.size + 2 ≤ b ∧ b < wr.heap.size ∧ (Value.slice Al nl cl).ownBlock ≠ some b
  up : Up ordP (markL pid yes o.L (o.M.take k))
  len : n1 ≤ o.n + k ∧ nl ≤ k
theorem left_on (pid : Int) (M : List Wt) (x : Wt) : leftM pid (M ++ [x]) = if x.pid = pid then leftM pid M else leftM pid M ++ [x] := by
  unfold leftM
  rw [List.filter_append]
  by_cases h : x.pid = pid <;> simp [h]
theorem mark_on (pid : Int) (yes : Bool) (L : List Ps) (M : List Wt) (x : Wt) : markL pid yes L (M ++ [x]) = stepL pid yes (markL pid yes L M) x := by
  unfold markL; rw [List.foldl_append]; rfl

set_option maxRecDepth 100000 in
set_option maxHeartbeats 8000000 in
theorem markc_any (o : Of) (pid : Int) (yes : Bool) (ib yb : Nat) (w : World) (ho : Of.At w o) (hi : Has w ib #[.int .i64 pid]) (hy : Has w yb #[.bool yes]) (hu : Up ordP o.L) (hn : o.n ≤ 30000) (hn' : o.n' ≤ 30000) :
    Calls Try.prog 46 #[o.v, .pointer (some ⟨ib, 0, none⟩), .pointer (some ⟨yb, 0, none⟩)] w (ChgF o (markL pid yes o.L o.M) (leftM pid o.M) w) := by
  obtain ⟨i0, hi0, hz0, hz1, hz2⟩ := info_parts inf52
  obtain ⟨A, n, c, L, A', n', c', M⟩ := o
  simp only at hu hn hn' ⊢
  have HO := Lib.hid ho
  have HI := Lib.hid hi
  have HY := Lib.hid hy
  have LM := Lib.hid (show M.length = n' from ho.2.len)
  have l3 : c' ≤ _ := ho.2.max
  have l4 : n' ≤ c' := ho.2.cap
  have M0 : Hid (MI ⟨A, n, c, L, A', n', c', M⟩ pid yes w 0 none 0 0 A n c ((w.alloc (.cells (Of.box ⟨A, n, c, L, A', n', c', M⟩) 25)).alloc (.cells #[.slice none 0 0, .slice none 0 0] 25))) := Lib.hid
    { b := (below_alloc1 w _).alloc (by simp) _, z := by simp, s := (Has.newAt w (Of.box ⟨A, n, c, L, A', n', c', M⟩) 25 rfl).alloc _, r := Has.newAt _ _ 25 (by simp)
      own := by rw [List.take_zero]; exact ⟨rfl, World.ownsRow_nil _ _ _ _, by intro a ha; simp [leftM] at ha⟩
      sl := by rw [List.take_zero]; exact (ho.1.alloc _).alloc _
      ne := by rw [List.take_zero]; exact .inl ⟨rfl, rfl, rfl, rfl⟩
      up := by rw [List.take_zero]; exact hu
      len := ⟨Nat.le_refl _, Nat.le_refl _⟩ }
  have s0c := M0.out.s.cell
  have s0l := M0.out.s.lt
  clear ho hi hy hu
  go_enter Try.func46, Try.ntmps46
  go_wp2_with fail
  go_loopg [5, 11] n' (fun kx s5 s11 wr => ∃ (k : Nat) (Al : Option Addr) (nl cl : Nat) (A1 : Option Addr) (n1 c1 : Nat), k ≤ n' ∧ n' - k ≤ kx ∧ s5 = .slice Al nl cl ∧ s11 = .int .i64 k ∧ Hid (MI ⟨A, n, c, L, A', n', c', M⟩ pid yes w k Al nl cl A1 n1 c1 wr))
  case atStart => exact ⟨0, none, 0, 0, A, n, c, Nat.zero_le _, by omega, rfl, rfl, M0⟩
  case round =>
    clear M0 s0c s0l
    obtain ⟨k, Al, nl, cl, A1, n1, c1, hk, hgg, rfl, rfl, I⟩ := hrel
    by_cases hlt : k < n'
    · obtain ⟨b, off, hkl, rfl, hbl, x0, x1, x2, x3, x4, x5⟩ := Wts.at_ (HO.out.2.below I.out.b) hlt
      obtain ⟨x, hx⟩ : ∃ x, M[k] = x := ⟨_, rfl⟩
      have TK := Lib.hid (show M.take (k + 1) = M.take k ++ [x] from by rw [List.take_succ_eq_append_getElem hkl, hx])
      have XW : Hid x.wf := Lib.hid (by have := HO.out.2.each _ (List.getElem_mem hkl); rw [hx] at this; exact this)
      rw [hx] at x0 x1 x2 x3 x4 x5
      have LN := Lib.hid (show n1 ≤ n + k ∧ nl ≤ k from I.out.len)
      have i1c := (HI.out.past I.out.b).cell
      have i1l := (HI.out.past I.out.b).lt
      have y1c := (HY.out.past I.out.b).cell
      have y1l := (HY.out.past I.out.b).lt
      clear hx hkl
      by_cases hp : x.pid = pid
      · have p0 : decide (x.pid = pid) = true := decide_eq_true hp
        have p1 : (x.pid == pid) = true := by rw [hp]; exact beq_self_eq_true _
        have HP := Lib.hid hp
        have LF := Lib.hid (show leftM pid (M.take (k + 1)) = leftM pid (M.take k) from by rw [TK.out, left_on, if_pos hp])
        have W1 := Lib.hid (below_alloc1 wr (.cells #[.int .i64 x.pid, .string x.pos.g, .string x.pos.t, .int .i64 x.pos.p, .int .i64 x.pos.h, .int .i64 x.pos.o] 52))
        clear hp
        cases yes with
        | false =>
          have MK := Lib.hid (show markL pid false L (M.take (k + 1)) = markL pid false L (M.take k) from by rw [TK.out, mark_on]; unfold stepL; rw [if_neg (fun h => by cases h.2)])
          go_wp2_with fail
          go_roundg (n' - (k + 1))
          case measure => omega
          case rel =>
            refine ⟨k + 1, Al, nl, cl, A1, n1, c1, by omega, by omega, rfl, by go_num, Lib.hid ?_⟩
            exact { b := below_from W1.out I.out.b I.out.b.size, z := Nat.le_trans I.out.z W1.out.size, s := I.out.s.past W1.out, r := I.out.r.past W1.out, own := by rw [LF.out]; exact I.out.own.kept W1.out
                    sl := by rw [MK.out]; exact I.out.sl.below W1.out, ne := by rw [MK.out]; exact I.out.ne.imp id fun h b off e => ⟨(h b off e).1, Nat.lt_of_lt_of_le (h b off e).2.1 W1.out.size, (h b off e).2.2⟩, up := by rw [MK.out]; exact I.out.up, len := by have := LN.out; exact ⟨(by omega : n1 ≤ n + (k + 1)), (by omega : nl ≤ k + 1)⟩ }
        | true =>
          have MK := Lib.hid (show markL pid true L (M.take (k + 1)) = insC ordP x.pos (markL pid true L (M.take k)) from by rw [TK.out, mark_on]; unfold stepL; rw [if_pos ⟨HP.out, rfl⟩])
          have n9 := LN.out.1
          have ML := Lib.hid I.out.sl.len
          have WP := Lib.hid (fun W (h : Below wr.heap.size wr W) => withP_any A1 n1 c1 _ x.pos W (I.out.sl.below h) I.out.up (by omega) XW.out.2)
          have S1 := Lib.hid (I.out.s.past W1.out)
          have s1c := S1.out.cell
          have s1l := S1.out.lt
          clear n9
          go_wp2_with (go_at_call 37; refine (WP.out _ W1.out).mono ?_; rintro e w2 ⟨A2, n2, c2, rfl, hO, hb⟩; have B2 := Lib.hid (W1.out.trans (hb.mono W1.out.size)); have HO2 := Lib.hid hO; have S2 := Lib.hid (I.out.s.past B2.out); have s2c := S2.out.cell; have s2l := S2.out.lt; have s2f := S2.out.free; clear hb hO s1c s1l)
          go_roundg (n' - (k + 1))
          case measure => omega
          case rel =>
            have G := setCells_grown w.heap.size [.slice A2 n2 c2] 0 w2
            have zz := W1.out.size
            have zw := I.out.z
            have bw : Below w.heap.size w w2 := below_from B2.out I.out.b I.out.b.size
            refine ⟨k + 1, Al, nl, cl, A2, n2, c2, by omega, by omega, rfl, by go_num, Lib.hid ?_⟩
            exact { b := bw.trans (grown_below G bw.size (fun k hk => by injection hk with hk; omega)), z := Nat.le_trans (Nat.le_trans zw B2.out.size) G.size, s := S2.out.setAt 0 _ (by simp), r := (I.out.r.past B2.out).grown G (by omega), own := by rw [LF.out]; exact (I.out.own.kept B2.out).grown G (by omega) (fun x hx => I.out.own.2.2 x hx)
                    sl := by rw [MK.out]; exact HO2.out.sl.apart G (fun b off e he => by have := (HO2.out.lt e).1; injection he with he; omega) (fun x hx => HO2.out.2.2 x hx)
                    ne := by
                      refine .inr fun b off e => ?_
                      have h1 := HO2.out.lt e
                      exact ⟨by omega, Nat.lt_of_lt_of_le h1.2 G.size, fun e2 => by have := (I.out.own.2.1.lt b e2).2; omega⟩
                    up := by rw [MK.out]; exact ins_up lawP I.out.up
                    len := by
                      have := LN.out
                      have h1 := HO2.out.1
                      have h2 := (ins_len (c := ordP) (x := x.pos) (l := markL pid true L (M.take k))).2
                      have h3 := ML.out
                      exact ⟨(by omega : n2 ≤ n + (k + 1)), (by omega : nl ≤ k + 1)⟩ }
      · have p0 : decide (x.pid = pid) = false := decide_eq_false hp
        have p1 : (x.pid == pid) = false := by rw [beq_eq_false_iff_ne]; exact hp
        have LF := Lib.hid (show leftM pid (M.take (k + 1)) = leftM pid (M.take k) ++ [x] from by rw [TK.out, left_on, if_neg hp])
        have MK := Lib.hid (show markL pid yes L (M.take (k + 1)) = markL pid yes L (M.take k) from by rw [TK.out, mark_on]; unfold stepL; rw [if_neg (fun h => hp h.1)])
        clear hp
        have X1 := Lib.hid (Has.newAt wr #[.int .i64 x.pid, .string x.pos.g, .string x.pos.t, .int .i64 x.pos.p, .int .i64 x.pos.h, .int .i64 x.pos.o] 52 (g := wr.heap.size) rfl)
        have B2 := Lib.hid ((below_alloc1 wr (.cells #[.int .i64 x.pid, .string x.pos.g, .string x.pos.t, .int .i64 x.pos.p, .int .i64 x.pos.h, .int .i64 x.pos.o] 52)).alloc (by simp) (.cells #[.int .i64 x.pid, .string x.pos.g, .string x.pos.t, .int .i64 x.pos.p, .int .i64 x.pos.h, .int .i64 x.pos.o] 52))
        have X2 := Lib.hid (Has.newAt (wr.alloc (.cells #[.int .i64 x.pid, .string x.pos.g, .string x.pos.t, .int .i64 x.pos.p, .int .i64 x.pos.h, .int .i64 x.pos.o] 52)) #[.int .i64 x.pid, .string x.pos.g, .string x.pos.t, .int .i64 x.pos.p, .int .i64 x.pos.h, .int .i64 x.pos.o] 52 (g := wr.heap.size + 1) (by simp))
        have O2 := Lib.hid (I.out.own.kept B2.out)
        have zw := I.out.z
        have hnl := LN.out.2
        have HP1 := Lib.hid (B2.out.size)
        go_wp2_with (at_builtin; refine wpList_append_own_at _ rfl _ _ 23 rfl (w.heap.size + 2) 52 i0 _ 6 64 Try.underlying23 hi0 hz0 hz1 hz2 rfl (by decide) _ _ _ rfl O2.out.2.1 ⟨wr.heap.size + 1, 0, none⟩ 1 1 (wtK.cells x) rfl ?qc1 ?qc2 ?qc3 ?qc4 ?qc5 ?qc6 ?_)
        case qc1 => rfl
        case qc2 => exact fun j u h => h
        case qc3 => exact wtK.one x
        case qc4 => unfold maxLen; omega
        case qc5 => omega
        case qc6 => first | omega | (simp; omega)
        intro v' w3 hown hgrow hnil hat
        obtain ⟨A3, c3, rfl⟩ := owns_form hown
        have HA3 := Lib.hid hat
        have HO3 := Lib.hid hown
        have HG3 := Lib.hid hgrow
        clear hown hgrow hnil hat
        go_wp2_with fail
        go_roundg (n' - (k + 1))
        case measure => omega
        case rel =>
          have QB : ∀ q, (Value.slice Al nl cl).ownBlock = some q → w.heap.size + 2 ≤ q := fun q hq => (O2.out.2.1.lt q hq).1
          have bw := below_from B2.out I.out.b I.out.b.size
          refine ⟨k + 1, A3, nl + 1, c3, A1, n1, c1, by omega, by omega, rfl, by go_num, Lib.hid ?_⟩
          exact { b := bw.trans (grown_below HG3.out bw.size (fun q hq => by have := QB q hq; omega)), z := Nat.le_trans (Nat.le_trans zw B2.out.size) HG3.out.size
                  s := (I.out.s.past B2.out).beside HG3.out (fun e => by have := QB _ e.symm; omega), r := (I.out.r.past B2.out).beside HG3.out (fun e => by have := QB _ e.symm; omega)
                  own := by
                    rw [LF.out]
                    refine ⟨by rw [List.length_append, O2.out.1]; rfl, ?_, fun a ha => ?_⟩
                    · rw [List.flatMap_append]; exact HO3.out
                    · rcases List.mem_append.1 ha with ha | ha
                      · exact O2.out.2.2 a ha
                      · simp only [List.mem_singleton] at ha; subst ha; exact XW.out
                  sl := by
                    rw [MK.out]
                    have b3 := bw.trans (grown_below HG3.out bw.size (fun q hq => by have := QB q hq; omega))
                    rcases I.out.ne with ⟨h1, h2, h3, h4⟩ | h
                    · simp only at h1 h2 h3 h4
                      rw [h4, h1, h2, h3]
                      exact HO.out.1.below b3
                    · exact (I.out.sl.below B2.out).apart HG3.out (fun b off e he => (h b off e).2.2 he.symm) (fun x hx => I.out.sl.each x hx)
                  ne := by
                    rw [MK.out]
                    refine I.out.ne.imp id fun h b off e => ?_
                    obtain ⟨h1, h2, h3⟩ := h b off e
                    refine ⟨h1, Nat.lt_of_lt_of_le h2 (Nat.le_trans B2.out.size HG3.out.size), fun e2 => ?_⟩
                    rcases HA3.out with h4 | h4
                    · exact h3 (h4.symm.trans e2)
                    · have := h4.symm.trans e2
                      injection this with this
                      first | omega | (simp at this; omega)
                  up := by rw [MK.out]; exact I.out.up
                  len := by have := LN.out; exact ⟨(by omega : n1 ≤ n + (k + 1)), (by omega : nl + 1 ≤ k + 1)⟩ }
    · obtain rfl : k = n' := by omega
      have TK := Lib.hid (show M.take k = M from List.take_of_length_le (Nat.le_of_eq LM.out))
      have s1c := I.out.s.cell
      have s1l := I.out.s.lt
      have s1f := I.out.s.free
      have r1c := I.out.r.cell
      have r1l := I.out.r.lt
      have r1f := I.out.r.free
      go_wp2_with fail
      have G2 := setCells_grown w.heap.size [.slice Al nl cl] 1 wr
      have G3 := setCells_grown (w.heap.size + 1) [.slice A1 n1 c1, .slice Al nl cl] 0 (wr.setCells w.heap.size 1 [.slice Al nl cl])
      refine bodyPost_ret (v := (⟨A1, n1, c1, markL pid yes L M, Al, nl, cl, leftM pid M⟩ : Of).v) (by simp [results, Try.results46, go_sem, r1c]) rfl ?_
      have b1 := I.out.b
      have b2 := b1.trans (grown_below G2 b1.size (fun k hk => by injection hk with hk; omega))
      have b3 := b2.trans (grown_below G3 (Nat.le_trans b1.size G2.size) (fun k hk => by injection hk with hk; omega))
      have I1 := I.out.sl
      have I2 := I.out.own
      have I3 := I.out.ne
      rw [TK.out] at I1 I2 I3
      have AT : Of.At wr ⟨A1, n1, c1, markL pid yes L M, Al, nl, cl, leftM pid M⟩ := ⟨I1, I2.sl⟩
      have FR : Of.From (w.heap.size + 2) ⟨A, n, c, L, A', k, c', M⟩ ⟨A1, n1, c1, markL pid yes L M, Al, nl, cl, leftM pid M⟩ := ⟨I3.imp id fun h b off e => (h b off e).1, .inr fun b off e => (I2.lt e).1⟩
      exact ⟨_, rfl, (AT.kept FR HO.out b2 G2 (by omega)).kept FR HO.out b3 G3 (by omega), rfl, rfl, FR.mono (by omega), b3⟩

end Go.Proofs.Ytnkjkgakbgjddaa
