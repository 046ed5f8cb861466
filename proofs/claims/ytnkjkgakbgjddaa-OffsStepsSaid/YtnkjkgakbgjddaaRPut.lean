/- The document's put. -/
import Derived.Test.YtnkjkgakbgjddaaRNm
import Derived.Test.YtnkjkgakbgjddaaApp
import Derived.Test.YtnkjkgakbgjddaaCln
import Derived.Test.YtnkjkgakbgjddaaPlain
namespace Go.Proofs.Ytnkjkgakbgjddaa
open Go.RowKit

theorem sl_zeroA {α : Type} {K : RK α} {w : World} {a : Addr} {c : Nat} {l : List α} (hc : c ≤ maxLen) (hl : l = []) : Sl K w (some a) 0 c l := by
  subst hl
  exact ⟨rfl, Nat.zero_le _, hc, fun e => (by cases e), Row.nil _ _, fun a ha => by simp at ha⟩
theorem sl_dropA {α : Type} {K : RK α} {w : World} {a : Addr} {n c : Nat} {l : List α} (h : Sl K w (some a) n c l) (m : Nat) (hm : m ≤ n) : Sl K w (some (if c = m then a else a.add (m * K.size))) (n - m) (c - m) (l.drop m) := by
  have hcap := h.cap
  have hmax := h.max
  rcases Nat.lt_or_ge m n with hlt | hge
  · obtain ⟨b, off, hl0, e, hbl, _⟩ := h.get (k := m) hlt
    injection e with e
    subst e
    rw [if_neg (by omega), Addr.add_lit]
    refine ⟨by rw [List.length_drop, h.len], by omega, by omega, fun e => (by cases e), fun hne => ?_, fun x hx => h.each x (List.mem_of_mem_drop hx)⟩
    obtain ⟨b', off', e, hlt', hc⟩ := h.row (fun e => by
      have h1 := h.flat_len
      rw [e] at h1
      have h2 := Nat.mul_pos (show 0 < n by omega) K.pos
      simp only [List.length_nil] at h1
      omega)
    injection e with e; injection e with e1 e2; subst e1; subst e2
    refine ⟨b, off + m * K.size, rfl, hlt', fun j hj => ?_⟩
    rw [Nat.add_assoc, hc (m * K.size + j) (by
      rw [flat_len K.cells K.size K.len, List.length_drop, Nat.sub_mul] at hj
      rw [flat_len K.cells K.size K.len]
      omega)]
    have := flat_drop K.cells K.size K.len l m
    rw [← List.getElem?_drop]
    exact congrArg (·[j]?) this
  · obtain rfl : m = n := by omega
    rw [Nat.sub_self]
    exact sl_zeroA (Nat.le_trans (Nat.sub_le _ _) hmax) (List.drop_eq_nil_of_le (by rw [h.len]; exact Nat.le_refl _))
theorem srch_of {α : Type} {c : α → α → Int} (hc : LawC c) {x : α} {l : List α} (hu : Up c l) {k : Nat} (hk : k ≤ l.length) (h1 : ∀ j (h : j < l.length), j < k → c l[j] x < 0) (h2 : ∀ h : k < l.length, ¬ c l[k] x < 0) (b : Bool)
    (hb : b = true ↔ ∃ h : k < l.length, ¬ c x l[k] < 0) : SrchG (fun y => c y x) l k b := by
  refine ⟨hk, h1, fun j h hj => ?_, hb.trans ⟨fun ⟨h, e⟩ => ⟨h, ?_⟩, fun ⟨h, e⟩ => ⟨h, ?_⟩⟩⟩
  · show 0 ≤ c l[j] x
    apply Int.not_lt.1
    intro hn
    rcases Nat.lt_or_ge k j with h' | h'
    · exact h2 (by omega) (hc.trans _ _ _ (up_at hu h h') hn)
    · obtain rfl : j = k := by omega
      exact h2 h hn
  · have := h2 h; have := hc.swap l[k] x; show c l[k] x = 0; omega
  · have e' : c l[k] x = 0 := e
    have := hc.swap l[k] x; omega

set_option maxRecDepth 100000 in
set_option maxHeartbeats 16000000 in
theorem rput_any (A : Option Addr) (n c : Nat) (l : List Ps) (p : Ps) (w : World) (hl : Sl psK w A n c l) (hu : Up ordP l) (hn : n ≤ 60000) (hp : p.wf) : Calls Try.prog 40 #[.slice A n c, p.v] w fun e w' => ∃ A' n' c', e = .returned (.slice A' n' c') ∧ Own psK 29 w' w.heap.size A' n' c' (insC ordP p l) ∧ Below w.heap.size w w' := by
  obtain ⟨W0, hW0⟩ : ∃ W0, W0 = w.alloc (.cells #[.string p.g, .string p.t, .int .i64 p.p, .int .i64 p.h, .int .i64 p.o] 29) := ⟨_, rfl⟩
  have B0 := Lib.hid (show Below w.heap.size w W0 from by rw [hW0]; exact below_alloc1 w _)
  have P0 := Lib.hid (show Has W0 w.heap.size #[.string p.g, .string p.t, .int .i64 p.p, .int .i64 p.h, .int .i64 p.o] from by rw [hW0]; exact Has.newAt w _ 29 rfl)
  have HW0 := Lib.hid hW0
  have HL := Lib.hid hl
  have LN := Lib.hid (show l.length = n from hl.len)
  have HU := Lib.hid hu
  have HP := Lib.hid hp
  have l1 : c ≤ _ := hl.max
  have l2 : n ≤ c := hl.cap
  obtain ⟨i0, hi, hz0, hz1, hz2⟩ := info_parts inf29
  clear hl hu hp hW0
  unfold Ps.v
  go_enter Try.func40, Try.ntmps40
  go_wp2_with fail
  rw [← HW0.out]
  go_loopg [5] n (fun gg s5 wr => ∃ k : Nat, k ≤ n ∧ n - k ≤ gg ∧ s5 = .int .i64 k ∧ Hid (Below W0.heap.size W0 wr) ∧ Hid (∀ j (h : j < l.length), j < k → ordP l[j] p < 0))
  case atStart => exact ⟨0, Nat.zero_le _, by omega, rfl, Lib.hid (Below.refl _ _), Lib.hid (fun i _ hi => absurd hi (Nat.not_lt_zero _))⟩
  case round =>
    obtain ⟨k, hk, hgg, rfl, hb, hok⟩ := hrel
    have BW := Lib.hid (B0.out.trans (hb.out.mono B0.out.size))
    have pl := (P0.out.past hb.out).lt
    by_cases hlt : k < n
    · obtain ⟨bb, off, hkl, hA, hbl, u0, u1, u2, u3, u4⟩ := Pss.at_ (HL.out.below BW.out) hlt
      subst hA
      obtain ⟨x, hx⟩ : ∃ x, l[k] = x := ⟨_, rfl⟩
      rw [hx] at u0 u1 u2 u3 u4
      have k0 : (0 : Int) ≤ (k : Int) := by omega
      have k1 : (k : Int) < (n : Int) := by omega
      have dk : decide ((k : Int) < (n : Int)) = true := decide_eq_true k1
      have dk' : decide (k < n) = true := decide_eq_true hlt
      obtain ⟨q, hq⟩ : ∃ q, decide (ordP x p < 0) = q := ⟨_, rfl⟩
      have OD := Lib.hid (fun W' (_ : Below wr.heap.size wr W') => rless_any x p W')
      rw [hq] at OD
      obtain ⟨q2, hq2⟩ : ∃ q, decide (ordP p x < 0) = q := ⟨_, rfl⟩
      unfold Ps.v at OD
      cases q with
      | true =>
        have YS := Lib.hid (show ∀ j (h : j < l.length), j < k + 1 → ordP l[j] p < 0 from fun j hj hjk => by
          rcases Nat.lt_or_ge j k with h' | h'
          · exact hok.out j hj h'
          · obtain rfl : j = k := by omega
            rw [hx]; exact of_decide_eq_true hq)
        clear hq hq2 hx
        have WB := Below.refl wr.heap.size wr
        have rx0 := at_regrown ((WB.cell hbl).trans u0)
        have rx1 := at_regrown ((WB.cell hbl).trans u1)
        have rx2 := at_regrown ((WB.cell hbl).trans u2)
        have rx3 := at_regrown ((WB.cell hbl).trans u3)
        have rx4 := at_regrown ((WB.cell hbl).trans u4)
        have rp0 := at_regrown ((P0.out.past (Below.trans hb.out (WB.mono hb.out.size))).cell 0)
        have rp1 := at_regrown ((P0.out.past (Below.trans hb.out (WB.mono hb.out.size))).cell 1)
        have rp2 := at_regrown ((P0.out.past (Below.trans hb.out (WB.mono hb.out.size))).cell 2)
        have rp3 := at_regrown ((P0.out.past (Below.trans hb.out (WB.mono hb.out.size))).cell 3)
        have rp4 := at_regrown ((P0.out.past (Below.trans hb.out (WB.mono hb.out.size))).cell 4)
        go_wp2_with fail
        refine region_below (by kernel_rfl) (by kernel_rfl) ?_
        repeat (go_big_quiet_step (first | exact call_regrown OD.out | exact call_regrown OE.out))
        refine wpQuiet_nil ?_
        intro wz hbz
        have BZ := Lib.hid (below_from hbz hb.out hb.out.size)
        clear hbz
        go_wp2_with fail
        go_roundg (n - (k + 1))
        case measure => omega
        case rel => exact ⟨k + 1, by omega, by omega, by go_num, BZ, YS⟩
      | false =>
        have SR := Lib.hid (show SrchG (fun y => ordP y p) l k (!q2) from srch_of lawP HU.out (by omega) hok.out (fun h => by rw [hx]; exact of_decide_eq_false hq) _ (by
          rw [← hq2]
          simp only [Bool.not_eq_true', decide_eq_false_iff_not]
          exact ⟨fun h => ⟨hkl, by rw [hx]; exact h⟩, fun ⟨_, h⟩ => by rw [hx] at h; exact h⟩))
        clear hq hx
        have WB := Below.refl wr.heap.size wr
        have rx0 := at_regrown ((WB.cell hbl).trans u0)
        have rx1 := at_regrown ((WB.cell hbl).trans u1)
        have rx2 := at_regrown ((WB.cell hbl).trans u2)
        have rx3 := at_regrown ((WB.cell hbl).trans u3)
        have rx4 := at_regrown ((WB.cell hbl).trans u4)
        have rp0 := at_regrown ((P0.out.past (Below.trans hb.out (WB.mono hb.out.size))).cell 0)
        have rp1 := at_regrown ((P0.out.past (Below.trans hb.out (WB.mono hb.out.size))).cell 1)
        have rp2 := at_regrown ((P0.out.past (Below.trans hb.out (WB.mono hb.out.size))).cell 2)
        have rp3 := at_regrown ((P0.out.past (Below.trans hb.out (WB.mono hb.out.size))).cell 3)
        have rp4 := at_regrown ((P0.out.past (Below.trans hb.out (WB.mono hb.out.size))).cell 4)
        go_wp2_with fail
        refine region_below (by kernel_rfl) (by kernel_rfl) ?_
        repeat (go_big_quiet_step (first | exact call_regrown OD.out | exact call_regrown OE.out))
        refine wpQuiet_nil ?_
        intro wz hbz
        have WB := Lib.hid hbz
        clear hbz
        have OE := Lib.hid (fun W' (_ : Below wz.heap.size wz W') => rless_any p x W')
        rw [hq2] at OE
        unfold Ps.v at OE
        clear hq2 OD rx0 rp0 rx1 rp1 rx2 rp2 rx3 rp3 rx4 rp4
        have WB' := WB.out
        have rx0 := at_regrown ((WB.out.cell hbl).trans u0)
        have rx1 := at_regrown ((WB.out.cell hbl).trans u1)
        have rx2 := at_regrown ((WB.out.cell hbl).trans u2)
        have rx3 := at_regrown ((WB.out.cell hbl).trans u3)
        have rx4 := at_regrown ((WB.out.cell hbl).trans u4)
        have rp0 := at_regrown ((P0.out.past (Below.trans hb.out (WB.out.mono hb.out.size))).cell 0)
        have rp1 := at_regrown ((P0.out.past (Below.trans hb.out (WB.out.mono hb.out.size))).cell 1)
        have rp2 := at_regrown ((P0.out.past (Below.trans hb.out (WB.out.mono hb.out.size))).cell 2)
        have rp3 := at_regrown ((P0.out.past (Below.trans hb.out (WB.out.mono hb.out.size))).cell 3)
        have rp4 := at_regrown ((P0.out.past (Below.trans hb.out (WB.out.mono hb.out.size))).cell 4)
        have plz := Nat.lt_of_lt_of_le pl WB.out.size
        have blz := Nat.lt_of_lt_of_le hbl WB.out.size
        have BX := Lib.hid (Below.trans BW.out (WB.out.mono BW.out.size))
        cases q2 with
        | true =>
          go_wp2_with fail
          refine region_below (by kernel_rfl) (by kernel_rfl) ?_
          repeat (go_big_quiet_step (exact call_regrown OE.out))
          refine wpQuiet_nil ?_
          intro wz2 hbz
          have BY := Lib.hid (BX.out.trans (hbz.mono BX.out.size))
          have zy := BY.out.size
          have ply := Nat.lt_of_lt_of_le plz hbz.size
          have HY := Lib.hid ((P0.out.past (Below.trans hb.out (WB.out.mono hb.out.size))).past hbz)
          clear hbz OE rx0 rp0 rx1 rp1 rx2 rp2 rx3 rp3 rx4 rp4
          obtain ⟨a0, ha0⟩ : ∃ a : Addr, (⟨bb, off, none⟩ : Addr) = a := ⟨_, rfl⟩
          rw [ha0] at HL ⊢
          have SLI := Lib.hid ((HL.out.below BY.out).take (k) (by omega))
          go_wp2_with (at_builtin; refine wpList_append_sl (K := psK) _ rfl _ _ 22 rfl w.heap.size 29 i0 _ 56 Try.underlying22 hi hz0 hz1 hz2 rfl none 0 0 [] rfl (World.ownsRow_nil _ _ _ _) (some a0) (k) c (l.take (k)) rfl SLI.out (by unfold maxLen; omega) (by omega) zy ?_)
          intro A1 c1 W1 ho hg _
          have B1 := Lib.hid (BY.out.trans (grown_below hg zy (fun q hq => by cases hq)))
          have O1 := Lib.hid (show Own psK 29 W1 w.heap.size A1 (k) c1 (l.take (k)) from ⟨SLI.out.len, ho, SLI.out.each⟩)
          have p1c := (HY.out.beside hg (fun e => by cases e)).cell
          have p1l := (HY.out.beside hg (fun e => by cases e)).lt
          clear ho hg
          go_wp2_with (at_builtin; refine wpList_app1 (K := psK) _ rfl _ _ 22 rfl w.heap.size 29 i0 _ 56 Try.underlying22 hi hz0 hz1 hz2 rfl A1 (k) c1 _ rfl (O1.out.kept (below_alloc1 W1 (.cells #[.string p.g, .string p.t, .int .i64 p.p, .int .i64 p.h, .int .i64 p.o] 29))) W1.heap.size rfl p (fun j _ => ((Has.newAt W1 #[.string p.g, .string p.t, .int .i64 p.p, .int .i64 p.h, .int .i64 p.o] 29 (g := W1.heap.size) rfl).cell j).trans (by simp; rfl)) HP.out (fun _ _ h => h) ?qc2 ?qc3 ?qc4 ?_)
          case qc2 => unfold maxLen; omega
          case qc3 => omega
          case qc4 => exact Nat.le_trans B1.out.size (below_alloc1 W1 _).size
          intro A2 c2 W2 ho hg _
          have O2 := Lib.hid ho
          have b2 := B1.out.trans ((below_alloc1 W1 (.cells #[.string p.g, .string p.t, .int .i64 p.p, .int .i64 p.h, .int .i64 p.o] 29)).mono B1.out.size)
          have B2 := Lib.hid (b2.trans (grown_below hg b2.size (fun q hq => (O1.out.2.1.lt q hq).1)))
          clear ho hg b2
          by_cases hcm : c = k
          · have hnr : n = k := by omega
            exfalso; omega
          · have SLR := Lib.hid (show Sl psK W2 (some (a0.add ((k) * psK.size))) (n - (k)) (c - (k)) (l.drop (k)) from by have := sl_dropA (HL.out.below B2.out) (k) (by omega); rw [if_neg hcm] at this; exact this)
            go_wp2_with (at_builtin; refine wpList_append_sl (K := psK) _ rfl _ _ 22 rfl w.heap.size 29 i0 _ 56 Try.underlying22 hi hz0 hz1 hz2 rfl A2 _ c2 _ rfl O2.out.2.1 _ (n - (k)) _ (l.drop (k)) (by first | rfl | (go_simp; rfl)) SLR.out (by unfold maxLen; omega) (by omega) B2.out.size ?_)
            intro A3 c3 W3 ho hg _
            have B3 := Lib.hid (B2.out.trans (grown_below hg B2.out.size (fun q hq => (O2.out.2.1.lt q hq).1)))
            have O3 := Lib.hid (show Own psK 29 W3 w.heap.size A3 ((k) + 1 + (n - (k))) c3 (l.take (k) ++ [p] ++ l.drop (k)) from ⟨by rw [List.length_append, O2.out.1, SLR.out.len], by simpa only [List.flatMap_append, List.flatMap_cons, List.flatMap_nil, List.append_nil, List.append_assoc, Nat.add_zero, Nat.sub_self] using ho, fun y hy => by
              rcases List.mem_append.1 hy with hy | hy
              · exact O2.out.2.2 y hy
              · exact SLR.out.each y hy⟩)
            clear ho hg
            go_wp2_with fail
            go_ret
            exact ⟨_, _, _, rfl, by rw [ins_srch SR.out]; simpa using O3.out, B3.out⟩
        | false =>
          go_wp2_with fail
          refine region_below (by kernel_rfl) (by kernel_rfl) ?_
          repeat (go_big_quiet_step (exact call_regrown OE.out))
          refine wpQuiet_nil ?_
          intro wz2 hbz
          have BY := Lib.hid (BX.out.trans (hbz.mono BX.out.size))
          have zy := BY.out.size
          have ply := Nat.lt_of_lt_of_le plz hbz.size
          have HY := Lib.hid ((P0.out.past (Below.trans hb.out (WB.out.mono hb.out.size))).past hbz)
          clear hbz OE rx0 rp0 rx1 rp1 rx2 rp2 rx3 rp3 rx4 rp4
          obtain ⟨a0, ha0⟩ : ∃ a : Addr, (⟨bb, off, none⟩ : Addr) = a := ⟨_, rfl⟩
          rw [ha0] at HL ⊢
          have SLI := Lib.hid ((HL.out.below BY.out).take (k) (by omega))
          go_wp2_with (at_builtin; refine wpList_append_sl (K := psK) _ rfl _ _ 22 rfl w.heap.size 29 i0 _ 56 Try.underlying22 hi hz0 hz1 hz2 rfl none 0 0 [] rfl (World.ownsRow_nil _ _ _ _) (some a0) (k) c (l.take (k)) rfl SLI.out (by unfold maxLen; omega) (by omega) zy ?_)
          intro A1 c1 W1 ho hg _
          have B1 := Lib.hid (BY.out.trans (grown_below hg zy (fun q hq => by cases hq)))
          have O1 := Lib.hid (show Own psK 29 W1 w.heap.size A1 (k) c1 (l.take (k)) from ⟨SLI.out.len, ho, SLI.out.each⟩)
          have p1c := (HY.out.beside hg (fun e => by cases e)).cell
          have p1l := (HY.out.beside hg (fun e => by cases e)).lt
          clear ho hg
          go_wp2_with (at_builtin; refine wpList_app1 (K := psK) _ rfl _ _ 22 rfl w.heap.size 29 i0 _ 56 Try.underlying22 hi hz0 hz1 hz2 rfl A1 (k) c1 _ rfl (O1.out.kept (below_alloc1 W1 (.cells #[.string p.g, .string p.t, .int .i64 p.p, .int .i64 p.h, .int .i64 p.o] 29))) W1.heap.size rfl p (fun j _ => ((Has.newAt W1 #[.string p.g, .string p.t, .int .i64 p.p, .int .i64 p.h, .int .i64 p.o] 29 (g := W1.heap.size) rfl).cell j).trans (by simp; rfl)) HP.out (fun _ _ h => h) ?qc2 ?qc3 ?qc4 ?_)
          case qc2 => unfold maxLen; omega
          case qc3 => omega
          case qc4 => exact Nat.le_trans B1.out.size (below_alloc1 W1 _).size
          intro A2 c2 W2 ho hg _
          have O2 := Lib.hid ho
          have b2 := B1.out.trans ((below_alloc1 W1 (.cells #[.string p.g, .string p.t, .int .i64 p.p, .int .i64 p.h, .int .i64 p.o] 29)).mono B1.out.size)
          have B2 := Lib.hid (b2.trans (grown_below hg b2.size (fun q hq => (O1.out.2.1.lt q hq).1)))
          clear ho hg b2
          by_cases hcm : c = k + 1
          · have hnr : n = k + 1 := by omega
            have SLR := Lib.hid (show Sl psK W2 (some a0) 0 0 (l.drop (k + 1)) from sl_zeroA (Nat.zero_le _) (List.drop_eq_nil_of_le (by rw [HL.out.len]; omega)))

            subst hcm hnr
            go_wp2_with (at_builtin; refine wpList_append_sl (K := psK) _ rfl _ _ 22 rfl w.heap.size 29 i0 _ 56 Try.underlying22 hi hz0 hz1 hz2 rfl A2 _ c2 _ rfl O2.out.2.1 _ 0 _ (l.drop (k + 1)) (by first | rfl | (go_simp; rfl)) SLR.out (by unfold maxLen; omega) (by omega) B2.out.size ?_)
            intro A3 c3 W3 ho hg _
            have B3 := Lib.hid (B2.out.trans (grown_below hg B2.out.size (fun q hq => (O2.out.2.1.lt q hq).1)))
            have O3 := Lib.hid (show Own psK 29 W3 w.heap.size A3 ((k) + 1 + 0) c3 (l.take (k) ++ [p] ++ l.drop (k + 1)) from ⟨by rw [List.length_append, O2.out.1, SLR.out.len], by simpa only [List.flatMap_append, List.flatMap_cons, List.flatMap_nil, List.append_nil, List.append_assoc, Nat.add_zero, Nat.sub_self] using ho, fun y hy => by
              rcases List.mem_append.1 hy with hy | hy
              · exact O2.out.2.2 y hy
              · exact SLR.out.each y hy⟩)
            clear ho hg
            go_wp2_with fail
            go_ret
            exact ⟨_, _, _, rfl, by rw [ins_srch SR.out]; simpa using O3.out, B3.out⟩
          · have SLR := Lib.hid (show Sl psK W2 (some (a0.add ((k + 1) * psK.size))) (n - (k + 1)) (c - (k + 1)) (l.drop (k + 1)) from by have := sl_dropA (HL.out.below B2.out) (k + 1) (by omega); rw [if_neg hcm] at this; exact this)
            go_wp2_with (at_builtin; refine wpList_append_sl (K := psK) _ rfl _ _ 22 rfl w.heap.size 29 i0 _ 56 Try.underlying22 hi hz0 hz1 hz2 rfl A2 _ c2 _ rfl O2.out.2.1 _ (n - (k + 1)) _ (l.drop (k + 1)) (by first | rfl | (go_simp; rfl)) SLR.out (by unfold maxLen; omega) (by omega) B2.out.size ?_)
            intro A3 c3 W3 ho hg _
            have B3 := Lib.hid (B2.out.trans (grown_below hg B2.out.size (fun q hq => (O2.out.2.1.lt q hq).1)))
            have O3 := Lib.hid (show Own psK 29 W3 w.heap.size A3 ((k) + 1 + (n - (k + 1))) c3 (l.take (k) ++ [p] ++ l.drop (k + 1)) from ⟨by rw [List.length_append, O2.out.1, SLR.out.len], by simpa only [List.flatMap_append, List.flatMap_cons, List.flatMap_nil, List.append_nil, List.append_assoc, Nat.add_zero, Nat.sub_self] using ho, fun y hy => by
              rcases List.mem_append.1 hy with hy | hy
              · exact O2.out.2.2 y hy
              · exact SLR.out.each y hy⟩)
            clear ho hg
            go_wp2_with fail
            go_ret
            exact ⟨_, _, _, rfl, by rw [ins_srch SR.out]; simpa using O3.out, B3.out⟩
    · have jn : n = k := by omega
      subst jn
      have dk : decide ((n : Int) < (n : Int)) = false := decide_eq_false (by omega)
      have dk' : decide (n < n) = false := decide_eq_false (by omega)
      have SR := Lib.hid (show SrchG (fun y => ordP y p) l n false from srch_of lawP HU.out (by rw [LN.out]; exact Nat.le_refl _) hok.out (fun h => by have := LN.out; omega) _ ⟨fun h => (by cases h), fun ⟨h, _⟩ => (by have := LN.out; omega)⟩)
      clear hok hgg hk hlt
      go_wp2_with fail
      refine region_below (by kernel_rfl) (by kernel_rfl) ?_
      repeat (go_big_quiet_step (fail))
      refine wpQuiet_nil ?_
      intro wz hbz
      have WB := Lib.hid hbz
      clear hbz
      have BX := Lib.hid (Below.trans BW.out (WB.out.mono BW.out.size))
      have plz := Nat.lt_of_lt_of_le pl WB.out.size
      go_wp2_with fail
      go_wp2_with fail
      refine region_below (by kernel_rfl) (by kernel_rfl) ?_
      repeat (go_big_quiet_step (fail))
      refine wpQuiet_nil ?_
      intro wz2 hbz
      have BY := Lib.hid (BX.out.trans (hbz.mono BX.out.size))
      have zy := BY.out.size
      have ply := Nat.lt_of_lt_of_le plz hbz.size
      have HY := Lib.hid ((P0.out.past (Below.trans hb.out (WB.out.mono hb.out.size))).past hbz)
      clear hbz
      rcases A with _ | a0
      · obtain ⟨e1, e2⟩ := HL.out.adr rfl
        subst e1 e2
        have e3 : l = [] := List.length_eq_zero_iff.1 LN.out
        subst e3
        have SLI := Lib.hid ((HL.out.below BY.out).take (0) (by omega))
        go_wp2_with (at_builtin; refine wpList_append_sl (K := psK) _ rfl _ _ 22 rfl w.heap.size 29 i0 _ 56 Try.underlying22 hi hz0 hz1 hz2 rfl none 0 0 [] rfl (World.ownsRow_nil _ _ _ _) none (0) 0 (([] : List Ps).take (0)) rfl SLI.out (by unfold maxLen; omega) (by omega) zy ?_)
        intro A1 c1 W1 ho hg _
        have B1 := Lib.hid (BY.out.trans (grown_below hg zy (fun q hq => by cases hq)))
        have O1 := Lib.hid (show Own psK 29 W1 w.heap.size A1 (0) c1 (([] : List Ps).take (0)) from ⟨SLI.out.len, ho, SLI.out.each⟩)
        have p1c := (HY.out.beside hg (fun e => by cases e)).cell
        have p1l := (HY.out.beside hg (fun e => by cases e)).lt
        clear ho hg
        go_wp2_with (at_builtin; refine wpList_app1 (K := psK) _ rfl _ _ 22 rfl w.heap.size 29 i0 _ 56 Try.underlying22 hi hz0 hz1 hz2 rfl A1 (0) c1 _ rfl (O1.out.kept (below_alloc1 W1 (.cells #[.string p.g, .string p.t, .int .i64 p.p, .int .i64 p.h, .int .i64 p.o] 29))) W1.heap.size rfl p (fun j _ => ((Has.newAt W1 #[.string p.g, .string p.t, .int .i64 p.p, .int .i64 p.h, .int .i64 p.o] 29 (g := W1.heap.size) rfl).cell j).trans (by simp; rfl)) HP.out (fun _ _ h => h) ?qc2 ?qc3 ?qc4 ?_)
        case qc2 => unfold maxLen; omega
        case qc3 => omega
        case qc4 => exact Nat.le_trans B1.out.size (below_alloc1 W1 _).size
        intro A2 c2 W2 ho hg _
        have O2 := Lib.hid ho
        have b2 := B1.out.trans ((below_alloc1 W1 (.cells #[.string p.g, .string p.t, .int .i64 p.p, .int .i64 p.h, .int .i64 p.o] 29)).mono B1.out.size)
        have B2 := Lib.hid (b2.trans (grown_below hg b2.size (fun q hq => (O1.out.2.1.lt q hq).1)))
        clear ho hg b2
        have SLR := Lib.hid (show Sl psK W2 none 0 0 (([] : List Ps).drop 0) from by rw [List.drop_nil]; exact Sl.nil _ _)
        go_wp2_with (at_builtin; refine wpList_append_sl (K := psK) _ rfl _ _ 22 rfl w.heap.size 29 i0 _ 56 Try.underlying22 hi hz0 hz1 hz2 rfl A2 _ c2 _ rfl O2.out.2.1 _ 0 _ (([] : List Ps).drop (0)) (by first | rfl | (go_simp; rfl)) SLR.out (by unfold maxLen; omega) (by omega) B2.out.size ?_)
        intro A3 c3 W3 ho hg _
        have B3 := Lib.hid (B2.out.trans (grown_below hg B2.out.size (fun q hq => (O2.out.2.1.lt q hq).1)))
        have O3 := Lib.hid (show Own psK 29 W3 w.heap.size A3 ((0) + 1 + 0) c3 (([] : List Ps).take (0) ++ [p] ++ ([] : List Ps).drop (0)) from ⟨rfl, by simpa  [List.flatMap_append, List.flatMap_cons, List.flatMap_nil, List.append_nil, List.append_assoc, Nat.add_zero, Nat.sub_self, List.take_nil, List.drop_nil] using ho, fun y hy => by
          rcases List.mem_append.1 hy with hy | hy
          · exact O2.out.2.2 y hy
          · exact SLR.out.each y hy⟩)
        clear ho hg
        go_wp2_with fail
        go_ret
        exact ⟨_, _, _, rfl, by rw [ins_srch SR.out]; simpa using O3.out, B3.out⟩
      · have SLI := Lib.hid ((HL.out.below BY.out).take (n) (by omega))
        go_wp2_with (at_builtin; refine wpList_append_sl (K := psK) _ rfl _ _ 22 rfl w.heap.size 29 i0 _ 56 Try.underlying22 hi hz0 hz1 hz2 rfl none 0 0 [] rfl (World.ownsRow_nil _ _ _ _) (some a0) (n) c (l.take (n)) rfl SLI.out (by unfold maxLen; omega) (by omega) zy ?_)
        intro A1 c1 W1 ho hg _
        have B1 := Lib.hid (BY.out.trans (grown_below hg zy (fun q hq => by cases hq)))
        have O1 := Lib.hid (show Own psK 29 W1 w.heap.size A1 (n) c1 (l.take (n)) from ⟨SLI.out.len, ho, SLI.out.each⟩)
        have p1c := (HY.out.beside hg (fun e => by cases e)).cell
        have p1l := (HY.out.beside hg (fun e => by cases e)).lt
        clear ho hg
        go_wp2_with (at_builtin; refine wpList_app1 (K := psK) _ rfl _ _ 22 rfl w.heap.size 29 i0 _ 56 Try.underlying22 hi hz0 hz1 hz2 rfl A1 (n) c1 _ rfl (O1.out.kept (below_alloc1 W1 (.cells #[.string p.g, .string p.t, .int .i64 p.p, .int .i64 p.h, .int .i64 p.o] 29))) W1.heap.size rfl p (fun j _ => ((Has.newAt W1 #[.string p.g, .string p.t, .int .i64 p.p, .int .i64 p.h, .int .i64 p.o] 29 (g := W1.heap.size) rfl).cell j).trans (by simp; rfl)) HP.out (fun _ _ h => h) ?qc2 ?qc3 ?qc4 ?_)
        case qc2 => unfold maxLen; omega
        case qc3 => omega
        case qc4 => exact Nat.le_trans B1.out.size (below_alloc1 W1 _).size
        intro A2 c2 W2 ho hg _
        have O2 := Lib.hid ho
        have b2 := B1.out.trans ((below_alloc1 W1 (.cells #[.string p.g, .string p.t, .int .i64 p.p, .int .i64 p.h, .int .i64 p.o] 29)).mono B1.out.size)
        have B2 := Lib.hid (b2.trans (grown_below hg b2.size (fun q hq => (O1.out.2.1.lt q hq).1)))
        clear ho hg b2
        by_cases hcm : c = n
        · have hnr : n = n := by omega
          have SLR := Lib.hid (show Sl psK W2 (some a0) 0 0 (l.drop (n)) from sl_zeroA (Nat.zero_le _) (List.drop_eq_nil_of_le (by rw [HL.out.len]; omega)))
          have hcm2 := hcm.symm
          subst hcm2
          go_wp2_with (at_builtin; refine wpList_append_sl (K := psK) _ rfl _ _ 22 rfl w.heap.size 29 i0 _ 56 Try.underlying22 hi hz0 hz1 hz2 rfl A2 _ c2 _ rfl O2.out.2.1 _ 0 _ (l.drop (n)) (by first | rfl | (go_simp; rfl)) SLR.out (by unfold maxLen; omega) (by omega) B2.out.size ?_)
          intro A3 c3 W3 ho hg _
          have B3 := Lib.hid (B2.out.trans (grown_below hg B2.out.size (fun q hq => (O2.out.2.1.lt q hq).1)))
          have O3 := Lib.hid (show Own psK 29 W3 w.heap.size A3 ((n) + 1 + 0) c3 (l.take (n) ++ [p] ++ l.drop (n)) from ⟨by rw [List.length_append, O2.out.1, SLR.out.len], by simpa only [List.flatMap_append, List.flatMap_cons, List.flatMap_nil, List.append_nil, List.append_assoc, Nat.add_zero, Nat.sub_self] using ho, fun y hy => by
            rcases List.mem_append.1 hy with hy | hy
            · exact O2.out.2.2 y hy
            · exact SLR.out.each y hy⟩)
          clear ho hg
          go_wp2_with fail
          go_ret
          exact ⟨_, _, _, rfl, by rw [ins_srch SR.out]; simpa using O3.out, B3.out⟩
        · have SLR := Lib.hid (show Sl psK W2 (some (a0.add ((n) * psK.size))) (n - (n)) (c - (n)) (l.drop (n)) from by have := sl_dropA (HL.out.below B2.out) (n) (by omega); rw [if_neg hcm] at this; exact this)
          go_wp2_with (at_builtin; refine wpList_append_sl (K := psK) _ rfl _ _ 22 rfl w.heap.size 29 i0 _ 56 Try.underlying22 hi hz0 hz1 hz2 rfl A2 _ c2 _ rfl O2.out.2.1 _ (n - (n)) _ (l.drop (n)) (by first | rfl | (go_simp; rfl)) SLR.out (by unfold maxLen; omega) (by omega) B2.out.size ?_)
          intro A3 c3 W3 ho hg _
          have B3 := Lib.hid (B2.out.trans (grown_below hg B2.out.size (fun q hq => (O2.out.2.1.lt q hq).1)))
          have O3 := Lib.hid (show Own psK 29 W3 w.heap.size A3 ((n) + 1 + (n - (n))) c3 (l.take (n) ++ [p] ++ l.drop (n)) from ⟨by rw [List.length_append, O2.out.1, SLR.out.len], by simpa only [List.flatMap_append, List.flatMap_cons, List.flatMap_nil, List.append_nil, List.append_assoc, Nat.add_zero, Nat.sub_self] using ho, fun y hy => by
            rcases List.mem_append.1 hy with hy | hy
            · exact O2.out.2.2 y hy
            · exact SLR.out.each y hy⟩)
          clear ho hg
          go_wp2_with fail
          go_ret
          exact ⟨_, _, _, rfl, by rw [ins_srch SR.out]; simpa using O3.out, B3.out⟩

end Go.Proofs.Ytnkjkgakbgjddaa
