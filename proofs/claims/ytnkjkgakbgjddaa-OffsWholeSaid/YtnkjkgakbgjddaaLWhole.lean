/- OffsWhole: put whole, or not at all. -/
import Derived.Test.YtnkjkgakbgjddaaLPut
namespace Go.Proofs.Ytnkjkgakbgjddaa
open Go.RowKit

set_option maxHeartbeats 16000000 in
set_option maxRecDepth 100000 in
theorem lwhole_any (o : Of) (pid : Int) (A : Option Addr) (n c : Nat) (l : List Ps) (w : World) (ho : Of.At w o) (hi : (Lit.int .i64 pid).wf = true) (hl : Sl psK w A n c l) : Calls Try.prog 6 #[o.v, .int .i64 pid, .slice A n c] w fun e w' => e = .returned (.bool true) ∧ Below w.heap.size w w' := by
  obtain ⟨L0, eL0⟩ : ∃ L, o.L = L := ⟨_, rfl⟩
  obtain ⟨M0, eM0⟩ : ∃ M, o.M = M := ⟨_, rfl⟩
  have hL0 := Lib.hid eL0
  have hM0 := Lib.hid eM0
  have HO := Lib.hid ho
  have WI := Lib.hid hi
  have HLL := Lib.hid hl
  have HLN := Lib.hid hl.len
  have lm := hl.max
  have lc := hl.cap
  have om := ho.2.max
  have oc := ho.2.cap
  have OM := Lib.hid ho.2
  obtain ⟨W0, hW0⟩ : ∃ W0, W0 = (w.alloc (.cells #[.slice o.A o.n o.c, .slice o.A' o.n' o.c'] 25)) := ⟨_, rfl⟩
  have bw : Below w.heap.size w W0 := by rw [hW0]; exact below_alloc1 w _
  have B0 := Lib.hid bw
  have So0 := Lib.hid (show Has W0 (w.heap.size) #[.slice o.A o.n o.c, .slice o.A' o.n' o.c'] from by rw [hW0]; exact Has.newAt w _ 25 rfl)
  have cSo0 := So0.out.cell
  have lSo0 := So0.out.lt
  have O0 := Lib.hid (Of.At.past (show Of.At w o ∧ o.L = L0 ∧ o.M = M0 from ⟨ho, eL0, eM0⟩) bw)
  have Y0 := Lib.hid (hl.below bw)
  have LV := Lib.hid live_any
  have FW := Lib.hid few_any
  have FP := Lib.hid fewP_any
  have PT := Lib.hid put_any
  have HD := Lib.hid hold_any
  have MK := Lib.hid mark_any
  have GE := Lib.hid @get_any
  have LE := Lib.hid @least_calls
  have SM := Lib.hid same_any
  have CK := Lib.hid check_any
  have KL := Lib.hid keptL_any
  have HE := Lib.hid held_any
  have SV := Lib.hid save_any
  have LD := Lib.hid load_any
  have AM := Lib.hid among_any
  have HW0 := Lib.hid hW0
  clear bw hW0 ho hl hi eL0 eM0
  try unfold Ps.v
  go_enter Try.func6, Try.ntmps6
  go_wp2_with fail
  rw [← HW0.out]
  refine (LV.out _).mono ?_
  intro e w1 hx
  obtain ⟨rfl, hb⟩ := hx
  have B1 := Lib.hid (below_from hb B0.out B0.out.size)
  have So1 := Lib.hid (So0.out.past hb)
  have cSo1 := So1.out.cell
  have lSo1 := So1.out.lt
  have O1 := Lib.hid (Of.At.past O0.out hb)
  have Y1 := Lib.hid (Y0.out.below hb)
  clear cSo0 lSo0 hb
  go_wp2_with fail
  refine (FW.out o _).mono ?_
  intro e w2 hx
  obtain ⟨rfl, hb⟩ := hx
  have B2 := Lib.hid (below_from hb B1.out B1.out.size)
  have So2 := Lib.hid (So1.out.past hb)
  have cSo2 := So2.out.cell
  have lSo2 := So2.out.lt
  have O2 := Lib.hid (Of.At.past O1.out hb)
  have Y2 := Lib.hid (Y1.out.below hb)
  clear cSo1 lSo1 hb
  obtain ⟨bf1, hbf1⟩ : ∃ b, fewO o = b := ⟨_, rfl⟩
  rw [hbf1]
  have HF1 := Lib.hid hbf1
  clear hbf1
  cases bf1 with
  | false =>
    go_wp2_with fail
    go_ret
    exact ⟨rfl, B2.out⟩
  | true => ?_
  by_cases h30 : 30 < n
  · have d1 : decide ((30 : Int) < (n : Int)) = true := decide_eq_true (by omega)
    clear h30
    go_wp2_with fail
    go_ret
    exact ⟨rfl, B2.out⟩
  have d30 : decide ((30 : Int) < (n : Int)) = false := decide_eq_false (by omega)
  have H30 := Lib.hid h30
  clear h30
  obtain ⟨ce, hce⟩ : ∃ c, checkV L0 M0 = c := ⟨_, rfl⟩
  have CE := Lib.hid hce
  clear hce
  go_wp2_with fail
  refine (check_at O2.out CE.out).mono ?_
  intro e w3 hx
  obtain ⟨rfl, hb⟩ := hx
  have B3 := Lib.hid (below_from hb B2.out B2.out.size)
  have So3 := Lib.hid (So2.out.past hb)
  have cSo3 := So3.out.cell
  have lSo3 := So3.out.lt
  have O3 := Lib.hid (Of.At.past O2.out hb)
  have Y3 := Lib.hid (Y2.out.below hb)
  clear cSo2 lSo2 hb
  by_cases h0 : ce ≠ 0
  · have n1 : (ce == 0) = false := by rw [beq_eq_false_iff_ne]; exact h0
    have n2 : decide (ce = 0) = false := decide_eq_false h0
    have n3 : (ce != 0) = true := by rw [bne_iff_ne]; exact h0
    clear h0
    go_wp2_with fail
    go_ret
    exact ⟨rfl, B3.out⟩
  obtain rfl : ce = 0 := Classical.not_not.1 h0
  clear h0 d30
  go_wp2_with fail
  go_loopg [8] o.n' (fun gg s8 wr => ∃ j : Nat, j ≤ o.n' ∧ o.n' - j ≤ gg ∧ s8 = .int .i64 j ∧ wr = w3 ∧ Hid (∀ i (hi : i < M0.length), i < j → M0[i].pid ≠ pid))
  case atStart => exact ⟨0, Nat.zero_le _, by omega, rfl, rfl, Lib.hid (fun i _ hi => absurd hi (Nat.not_lt_zero _))⟩
  case round =>
    obtain ⟨j, hj, hgg, rfl, rfl, hok⟩ := hrel
    by_cases hlt : j < o.n'
    · obtain ⟨bb, off, hkl, hA, hbl, x0, x1, x2, x3, x4, x5⟩ := Wts.at_ O3.out.1.2 hlt
      have sa : wr.cell? ⟨w.heap.size, 1, none⟩ = some (.slice (some ⟨bb, off, none⟩) o.n' o.c') := (So3.out.cell 1).trans (by rw [hA]; rfl)
      have eM := O3.out.2.2
      obtain ⟨x, hx⟩ : ∃ x, o.M[j] = x := ⟨_, rfl⟩
      have XM := Lib.hid (show ∀ h : j < M0.length, M0[j] = x from fun h => by subst eM; exact hx)
      rw [hx] at x0 x1 x2 x3 x4 x5
      clear hx hkl hA eM cSo3
      by_cases hp : x.pid = pid
      · have p1 : (x.pid == pid) = true := by rw [hp]; exact beq_self_eq_true _
        have p2 : decide (x.pid = pid) = true := decide_eq_true hp
        clear hp
        go_wp2_with fail
        go_ret
        exact ⟨rfl, B3.out⟩
      · obtain ⟨p1, p2⟩ := int_ne hp
        have HP := Lib.hid hp
        clear hp
        go_wp2_with fail
        go_roundg (o.n' - (j + 1))
        case measure => omega
        case rel =>
          refine ⟨j + 1, by omega, by omega, by go_num, rfl, Lib.hid (fun i hi hij => ?_)⟩
          rcases Nat.lt_or_ge i j with h' | h'
          · exact hok.out i hi h'
          · obtain rfl : i = j := by omega
            rw [XM.out hi]; exact HP.out
    · obtain rfl : j = o.n' := by omega
      have NP := Lib.hid (show ∀ x ∈ M0, x.pid ≠ pid from fun x hx => by
        obtain ⟨i, hi, rfl⟩ := List.getElem_of_mem hx
        exact hok.out i hi (by rw [← O3.out.1.2.len, O3.out.2.2]; exact hi))
      clear hok hgg hj hlt
      obtain ⟨V, hV⟩ : ∃ V, heldV L0 M0 pid l = V := ⟨_, rfl⟩
      obtain ⟨L1, M1, ok⟩ := V
      have HV := Lib.hid hV
      clear hV
      have HE5 := HE.out o pid A n c l wr O3.out.1 Y3.out WI.out
      rw [O3.out.2.1, O3.out.2.2, HV.out] at HE5
      have HE5 := Lib.hid HE5
      go_wp2_with fail
      refine (HE5.out).mono ?_
      intro e w4 hx
      obtain ⟨o1, rfl, ha, hb⟩ := hx
      have bk4 := hb.alloc hb.size (.cells #[.slice o1.A o1.n o1.c, .slice o1.A' o1.n' o1.c'] 25)
      have B4 := Lib.hid (below_from bk4 B3.out B3.out.size)
      have So4 := Lib.hid (So3.out.past bk4)
      have cSo4 := So4.out.cell
      have lSo4 := So4.out.lt
      have O4 := Lib.hid (Of.At.past O3.out bk4)
      have Y4 := Lib.hid (Y3.out.below bk4)
      have O1_4 := Lib.hid (Of.At.past ha (below_alloc1 w4 (.cells #[.slice o1.A o1.n o1.c, .slice o1.A' o1.n' o1.c'] 25)))
      have S1_4 := Lib.hid (Has.newAt w4 #[.slice o1.A o1.n o1.c, .slice o1.A' o1.n' o1.c'] 25 (g := w4.heap.size) rfl)
      have cS1_4 := S1_4.out.cell
      have lS1_4 := S1_4.out.lt
      clear cSo3 lSo3 hb ha bk4
      cases ok with
      | false =>
        go_wp2_with fail
        go_ret
        exact ⟨rfl, B4.out⟩
      | true => ?_
      obtain ⟨g1, g2, Ly, g3, g4, g5⟩ := whole_law (by have := of_few HF1.out; rw [← hL0.out, HO.out.1.len]; exact this.1) (by have := of_few HF1.out; rw [← hM0.out, HO.out.2.len]; exact this.2) (by have := H30.out; rw [HLN.out]; omega) CE.out NP.out HV.out
      subst g1
      have G2 := Lib.hid g2
      have G3 := Lib.hid g3
      have G4 := Lib.hid g4
      have G5 := Lib.hid g5
      clear g2 g3 g4 g5
      go_wp2_with fail
      refine (ch_at (L := L1) (M := M0) (e := 0) (MK.out o1 pid false _ O1_4.out.1) (by rw [O1_4.out.2.1, O1_4.out.2.2]; exact G2.out)).mono ?_
      intro e w5 hx
      obtain ⟨o2, rfl, ha, hb⟩ := hx
      have bk5 := hb.alloc hb.size (.cells #[.slice o2.A o2.n o2.c, .slice o2.A' o2.n' o2.c'] 25)
      have B5 := Lib.hid (below_from bk5 B4.out B4.out.size)
      have So5 := Lib.hid (So4.out.past bk5)
      have cSo5 := So5.out.cell
      have lSo5 := So5.out.lt
      have O5 := Lib.hid (Of.At.past O4.out bk5)
      have Y5 := Lib.hid (Y4.out.below bk5)
      have O1_5 := Lib.hid (Of.At.past O1_4.out bk5)
      have S1_5 := Lib.hid (S1_4.out.past bk5)
      have cS1_5 := S1_5.out.cell
      have lS1_5 := S1_5.out.lt
      have O2_5 := Lib.hid (Of.At.past ha (below_alloc1 w5 (.cells #[.slice o2.A o2.n o2.c, .slice o2.A' o2.n' o2.c'] 25)))
      have S2_5 := Lib.hid (Has.newAt w5 #[.slice o2.A o2.n o2.c, .slice o2.A' o2.n' o2.c'] 25 (g := w5.heap.size) rfl)
      have cS2_5 := S2_5.out.cell
      have lS2_5 := S2_5.out.lt
      clear cSo4 lSo4 cS1_4 lS1_4 hb ha bk5
      go_wp2_with fail
      refine (ch_at (L := Ly) (M := M0) (e := 0) (MK.out o1 pid true _ O1_5.out.1) (by rw [O1_5.out.2.1, O1_5.out.2.2]; exact G3.out)).mono ?_
      intro e w6 hx
      obtain ⟨o3, rfl, ha, hb⟩ := hx
      have bk6 := hb.alloc hb.size (.cells #[.slice o3.A o3.n o3.c, .slice o3.A' o3.n' o3.c'] 25)
      have B6 := Lib.hid (below_from bk6 B5.out B5.out.size)
      have So6 := Lib.hid (So5.out.past bk6)
      have cSo6 := So6.out.cell
      have lSo6 := So6.out.lt
      have O6 := Lib.hid (Of.At.past O5.out bk6)
      have Y6 := Lib.hid (Y5.out.below bk6)
      have O1_6 := Lib.hid (Of.At.past O1_5.out bk6)
      have S1_6 := Lib.hid (S1_5.out.past bk6)
      have cS1_6 := S1_6.out.cell
      have lS1_6 := S1_6.out.lt
      have O2_6 := Lib.hid (Of.At.past O2_5.out bk6)
      have S2_6 := Lib.hid (S2_5.out.past bk6)
      have cS2_6 := S2_6.out.cell
      have lS2_6 := S2_6.out.lt
      have O3_6 := Lib.hid (Of.At.past ha (below_alloc1 w6 (.cells #[.slice o3.A o3.n o3.c, .slice o3.A' o3.n' o3.c'] 25)))
      have S3_6 := Lib.hid (Has.newAt w6 #[.slice o3.A o3.n o3.c, .slice o3.A' o3.n' o3.c'] 25 (g := w6.heap.size) rfl)
      have cS3_6 := S3_6.out.cell
      have lS3_6 := S3_6.out.lt
      clear cSo5 lSo5 cS1_5 lS1_5 cS2_5 lS2_5 hb ha bk6
      go_wp2_with fail
      have SL := sameL_any o1.A o1.n o1.c o1.L o.A o.n o.c o.L _ O1_6.out.1.1 O6.out.1.1
      rw [O1_6.out.2.1, O6.out.2.1, show decide (L1 = L1) = true from by simp] at SL
      have SL := Lib.hid SL
      refine (SL.out).mono ?_
      intro e w7 hx
      obtain ⟨rfl, hb⟩ := hx
      have B7 := Lib.hid (below_from hb B6.out B6.out.size)
      have So7 := Lib.hid (So6.out.past hb)
      have cSo7 := So7.out.cell
      have lSo7 := So7.out.lt
      have O7 := Lib.hid (Of.At.past O6.out hb)
      have Y7 := Lib.hid (Y6.out.below hb)
      have O1_7 := Lib.hid (Of.At.past O1_6.out hb)
      have S1_7 := Lib.hid (S1_6.out.past hb)
      have cS1_7 := S1_7.out.cell
      have lS1_7 := S1_7.out.lt
      have O2_7 := Lib.hid (Of.At.past O2_6.out hb)
      have S2_7 := Lib.hid (S2_6.out.past hb)
      have cS2_7 := S2_7.out.cell
      have lS2_7 := S2_7.out.lt
      have O3_7 := Lib.hid (Of.At.past O3_6.out hb)
      have S3_7 := Lib.hid (S3_6.out.past hb)
      have cS3_7 := S3_7.out.cell
      have lS3_7 := S3_7.out.lt
      clear cSo6 lSo6 cS1_6 lS1_6 cS2_6 lS2_6 cS3_6 lS3_6 hb
      go_wp2_with fail
      have ST : sameO L1 M0 L1 M0 = true := by unfold sameO; simp
      have SE := same_at O2_7.out O7.out
      rw [ST] at SE
      have SE := Lib.hid SE
      clear ST
      refine (SE.out).mono ?_
      intro e w8 hx
      obtain ⟨rfl, hb⟩ := hx
      have B8 := Lib.hid (below_from hb B7.out B7.out.size)
      have So8 := Lib.hid (So7.out.past hb)
      have cSo8 := So8.out.cell
      have lSo8 := So8.out.lt
      have O8 := Lib.hid (Of.At.past O7.out hb)
      have Y8 := Lib.hid (Y7.out.below hb)
      have O1_8 := Lib.hid (Of.At.past O1_7.out hb)
      have S1_8 := Lib.hid (S1_7.out.past hb)
      have cS1_8 := S1_8.out.cell
      have lS1_8 := S1_8.out.lt
      have O2_8 := Lib.hid (Of.At.past O2_7.out hb)
      have S2_8 := Lib.hid (S2_7.out.past hb)
      have cS2_8 := S2_8.out.cell
      have lS2_8 := S2_8.out.lt
      have O3_8 := Lib.hid (Of.At.past O3_7.out hb)
      have S3_8 := Lib.hid (S3_7.out.past hb)
      have cS3_8 := S3_8.out.cell
      have lS3_8 := S3_8.out.lt
      clear cSo7 lSo7 cS1_7 lS1_7 cS2_7 lS2_7 cS3_7 lS3_7 hb
      go_wp2_with fail
      go_loopg [15] n (fun gg s15 wr => ∃ i : Nat, i ≤ n ∧ n - i ≤ gg ∧ s15 = .int .i64 i ∧ Hid (Below w8.heap.size w8 wr))
      case atStart => exact ⟨0, Nat.zero_le _, by omega, rfl, Lib.hid (Below.refl _ _)⟩
      case round =>
        obtain ⟨i, hi, hgg, rfl, hb0⟩ := hrel
        have hbx := hb0.out
        have B9 := Lib.hid (below_from hbx B8.out B8.out.size)
        have So9 := Lib.hid (So8.out.past hbx)
        have cSo9 := So9.out.cell
        have lSo9 := So9.out.lt
        have O9 := Lib.hid (Of.At.past O8.out hbx)
        have Y9 := Lib.hid (Y8.out.below hbx)
        have O3_9 := Lib.hid (Of.At.past O3_8.out hbx)
        have S3_9 := Lib.hid (S3_8.out.past hbx)
        have cS3_9 := S3_9.out.cell
        have lS3_9 := S3_9.out.lt
        clear hbx cSo8 lSo8 cS3_8 lS3_8
        obtain ⟨w9, hw9⟩ : ∃ w9, w9 = wr := ⟨_, rfl⟩
        subst hw9
        by_cases hlt : i < n
        · obtain ⟨bb, off, hkl, rfl, hbl, u0, u1, u2, u3, u4⟩ := Pss.at_ Y9.out hlt
          obtain ⟨x, hx⟩ : ∃ x, l[i] = x := ⟨_, rfl⟩
          rw [hx] at u0 u1 u2 u3 u4
          have XI := Lib.hid (show ∀ h : i < l.length, l[i] = x from fun h => hx)
          clear hx hkl
          go_wp2_with fail
          go_loopg [16, 17] n (fun gg s16 s17 wr => ∃ (a j : Nat), a < j ∧ j ≤ n ∧ n - j ≤ gg ∧ s16 = .int .i64 a ∧ s17 = .int .i64 j ∧ Hid (Below w9.heap.size w9 wr) ∧ Hid (∃ h : a < l.length, ordP l[a] x = 0 ∧ ∀ q (hq : q < l.length), a < q → q < j → ordP l[q] x ≠ 0))
          case atStart => exact ⟨i, i + 1, by omega, by omega, by omega, rfl, by go_num, Lib.hid (Below.refl _ _), Lib.hid ⟨by rw [HLN.out]; exact hlt, by rw [XI.out]; exact lawP.self x, fun q hq h1 h2 => by omega⟩⟩
          case round =>
            obtain ⟨a, j, haj, hj, hgg2, rfl, rfl, hbI, I⟩ := hrel
            by_cases hlt2 : j < n
            · obtain ⟨b2, off2, hkl2, hE, hbl2, v0, v1, v2, v3, v4⟩ := Pss.at_ (Y9.out.below hbI.out) hlt2
              injection hE with hE; injection hE with hE1 hE2; subst hE1; subst hE2
              obtain ⟨y, hy⟩ : ∃ y, l[j] = y := ⟨_, rfl⟩
              rw [hy] at v0 v1 v2 v3 v4
              have NXT := Lib.hid (show ordP y x ≠ 0 → Hid (∃ h : a < l.length, ordP l[a] x = 0 ∧ ∀ q (hq : q < l.length), a < q → q < j + 1 → ordP l[q] x ≠ 0) from fun hn => by
                obtain ⟨h, h1, h2⟩ := I.out
                refine ⟨h, h1, fun q hq h3 h4 => ?_⟩
                rcases Nat.lt_or_ge q j with h5 | h5
                · exact h2 q hq h3 h5
                · obtain rfl : q = j := by omega
                  rw [hy]; exact hn)
              have NEW := Lib.hid (show ordP y x = 0 → Hid (∃ h : j < l.length, ordP l[j] x = 0 ∧ ∀ q (hq : q < l.length), j < q → q < j + 1 → ordP l[q] x ≠ 0) from fun hn => ⟨hkl2, by rw [hy]; exact hn, fun q hq h3 h4 => by omega⟩)
              have r0 := at_regrown ((hbI.out.cell hbl).trans u0)
              have r1 := at_regrown ((hbI.out.cell hbl).trans u1)
              have r2 := at_regrown ((hbI.out.cell hbl).trans u2)
              have r3 := at_regrown ((hbI.out.cell hbl).trans u3)
              have q0 := at_regrown v0
              have q1 := at_regrown v1
              have q2 := at_regrown v2
              have q3 := at_regrown v3
              have j0 : (0 : Int) ≤ (j : Int) := by omega
              have j1 : (j : Int) < (n : Int) := by omega
              have i0 : (0 : Int) ≤ (i : Int) := by omega
              have i1 : (i : Int) < (n : Int) := by omega
              clear hy hkl2
              obtain ⟨xg, xt, xp, xh, xo⟩ := x
              obtain ⟨yg, yt, yp, yh, yo⟩ := y
              simp only at u0 u1 u2 u3 u4 v0 v1 v2 v3 v4 r0 r1 r2 r3 q0 q1 q2 q3
              by_cases h1 : yg = xg
              · subst h1
                by_cases h2 : yt = xt
                · subst h2
                  by_cases h3 : yp = xp
                  · subst h3
                    by_cases h4 : yh = xh
                    · subst h4
                      have YS := NEW.out (ordP_eq.2 ⟨rfl, rfl, rfl, rfl⟩)
                      go_wp2_with fail
                      refine region_below (by kernel_rfl) (by kernel_rfl) ?_
                      repeat (go_big_quiet_step (fail))
                      refine wpQuiet_nil ?_
                      intro wz hbz
                      have BZ := Lib.hid (below_from hbz hbI.out hbI.out.size)
                      clear hbz
                      go_wp2_with fail
                      go_roundg (n - (j + 1))
                      case measure => omega
                      case rel => exact ⟨j, j + 1, by omega, by omega, by omega, rfl, by go_num, BZ, YS⟩
                    · obtain ⟨d1, d2⟩ := int_ne h4
                      have HH := Lib.hid h4
                      clear h4
                      go_wp2_with fail
                      refine region_below (by kernel_rfl) (by kernel_rfl) ?_
                      repeat (go_big_quiet_step (fail))
                      refine wpQuiet_nil ?_
                      intro wz hbz
                      have BZ := Lib.hid (below_from hbz hbI.out hbI.out.size)
                      clear hbz
                      go_wp2_with fail
                      go_roundg (n - (j + 1))
                      case measure => omega
                      case rel => exact ⟨a, j + 1, by omega, by omega, by omega, rfl, by go_num, BZ, NXT.out (fun h0 => HH.out (ordP_eq.1 h0).2.2.2)⟩
                  · obtain ⟨d1, d2⟩ := int_ne h3
                    have HH := Lib.hid h3
                    clear h3
                    go_wp2_with fail
                    refine region_below (by kernel_rfl) (by kernel_rfl) ?_
                    repeat (go_big_quiet_step (fail))
                    refine wpQuiet_nil ?_
                    intro wz hbz
                    have BZ := Lib.hid (below_from hbz hbI.out hbI.out.size)
                    clear hbz
                    go_wp2_with fail
                    go_roundg (n - (j + 1))
                    case measure => omega
                    case rel => exact ⟨a, j + 1, by omega, by omega, by omega, rfl, by go_num, BZ, NXT.out (fun h0 => HH.out (ordP_eq.1 h0).2.2.1)⟩
                · obtain ⟨d1, d2, d3⟩ := str_nes h2
                  have HH := Lib.hid h2
                  clear h2
                  go_wp2_with fail
                  refine region_below (by kernel_rfl) (by kernel_rfl) ?_
                  repeat (go_big_quiet_step (fail))
                  refine wpQuiet_nil ?_
                  intro wz hbz
                  have BZ := Lib.hid (below_from hbz hbI.out hbI.out.size)
                  clear hbz
                  go_wp2_with fail
                  go_roundg (n - (j + 1))
                  case measure => omega
                  case rel => exact ⟨a, j + 1, by omega, by omega, by omega, rfl, by go_num, BZ, NXT.out (fun h0 => HH.out (ordP_eq.1 h0).2.1)⟩
              · obtain ⟨d1, d2, d3⟩ := str_nes h1
                have HH := Lib.hid h1
                clear h1
                go_wp2_with fail
                refine region_below (by kernel_rfl) (by kernel_rfl) ?_
                repeat (go_big_quiet_step (fail))
                refine wpQuiet_nil ?_
                intro wz hbz
                have BZ := Lib.hid (below_from hbz hbI.out hbI.out.size)
                clear hbz
                go_wp2_with fail
                go_roundg (n - (j + 1))
                case measure => omega
                case rel => exact ⟨a, j + 1, by omega, by omega, by omega, rfl, by go_num, BZ, NXT.out (fun h0 => HH.out (ordP_eq.1 h0).1)⟩
            · obtain rfl : n = j := by omega
              have hbx := hbI.out
              have u0 := (hbx.cell hbl).trans u0
              have u1 := (hbx.cell hbl).trans u1
              have u2 := (hbx.cell hbl).trans u2
              have u3 := (hbx.cell hbl).trans u3
              have hbl := Nat.lt_of_lt_of_le hbl hbx.size
              have B10 := Lib.hid (below_from hbx B9.out B9.out.size)
              have So10 := Lib.hid (So9.out.past hbx)
              have cSo10 := So10.out.cell
              have lSo10 := So10.out.lt
              have O10 := Lib.hid (Of.At.past O9.out hbx)
              have Y10 := Lib.hid (Y9.out.below hbx)
              have O3_10 := Lib.hid (Of.At.past O3_9.out hbx)
              have S3_10 := Lib.hid (S3_9.out.past hbx)
              have cS3_10 := S3_10.out.cell
              have lS3_10 := S3_10.out.lt
              clear hbx cSo9 lSo9 cS3_9 lS3_9
              obtain ⟨hal, ha0, hlast⟩ := I.out
              have GL := Lib.hid (show getV Ly x.g x.t x.p x.h = ((l[a]'hal).o, true) from by
                have h1 := G5.out i a (by rw [HLN.out]; exact hlt) hal (by rw [XI.out]; exact ha0) (fun q hq hq2 => by rw [XI.out]; exact hlast q hq hq2 (by rw [← HLN.out]; exact hq))
                rw [XI.out] at h1
                exact h1)
              have han : a < n := by rw [← HLN.out]; exact hal
              obtain ⟨b3, off3, hkl3, hE, hbl3, z0, z1, z2, z3, z5⟩ := Pss.at_ Y10.out han
              injection hE with hE; injection hE with hE1 hE2; subst hE1; subst hE2
              obtain ⟨v, hv⟩ : ∃ v, (l[a]'hal).o = v := ⟨_, rfl⟩
              rw [hv] at GL
              have z4 : wr.cell? ⟨bb, off + a * 5 + 4, none⟩ = some (.int .i64 v) := by rw [← hv]; exact z5
              clear z0 z1 z2 z3 z5 hkl3 hal ha0 hlast hv
              have GT := Lib.hid (fun W (h : Below wr.heap.size wr W) => get_at (Of.At.past O3_10.out h) GL.out)
              have r0 := at_regrown u0
              have r1 := at_regrown u1
              have r2 := at_regrown u2
              have r3 := at_regrown u3
              have r5 := at_regrown (a := ⟨w6.heap.size, 0, none⟩) (v := .slice o3.A o3.n o3.c) (S3_10.out.cell 0)
              have r6 := at_regrown (a := ⟨w6.heap.size, 1, none⟩) (v := .slice o3.A' o3.n' o3.c') (S3_10.out.cell 1)
              have i0 : (0 : Int) ≤ (i : Int) := by omega
              have i1 : (i : Int) < (n : Int) := by omega
              have a0 : (0 : Int) ≤ (a : Int) := by omega
              have a1 : (a : Int) < (n : Int) := by omega
              go_wp2_with fail
              refine region_below (by kernel_rfl) (by kernel_rfl) ?_
              repeat (go_big_quiet_step (exact call_regrown GT.out))
              refine wpQuiet_nil ?_
              intro wz hbz
              have z6 := (hbz.cell hbl).trans z4
              have BZ := Lib.hid (below_from hbz hbI.out hbI.out.size)
              have hblz := Nat.lt_of_lt_of_le hbl hbz.size
              clear hbz r0 r1 r2 r3 r5 r6 u0 u1 u2 u3 z4
              go_wp2_with fail
              go_roundg (n - (i + 1))
              case measure => omega
              case rel => exact ⟨i + 1, by omega, by omega, by go_num, Lib.hid (below_from BZ.out hb0.out hb0.out.size)⟩
        · obtain rfl : i = n := by omega
          have KE := KL.out o o3 A i c l _ O9.out.1 O3_9.out.1 Y9.out
          rw [O9.out.2.1, O3_9.out.2.1, G4.out] at KE
          have KE := Lib.hid KE
          have EN : o3.n' = o.n' := by rw [← O3_9.out.1.2.len, ← O9.out.1.2.len, O3_9.out.2.2, O9.out.2.2]
          have d5 : ((o3.n' : Int) == (o.n' : Int)) = true := by rw [EN]; exact beq_self_eq_true _
          have d6 : decide ((o3.n' : Int) = (o.n' : Int)) = true := by rw [EN]; exact decide_eq_true rfl
          clear EN
          go_wp2_with fail
          refine KE.out.mono ?_
          rintro e wz ⟨rfl, hb⟩
          have cz := (So9.out.past hb).cell
          have lz := (So9.out.past hb).lt
          have cz3 := (S3_9.out.past hb).cell
          have lz3 := (S3_9.out.past hb).lt
          have BZ := Lib.hid (below_from hb B9.out B9.out.size)
          clear hb cSo9 lSo9 cS3_9 lS3_9
          go_wp2_with fail
          go_ret
          exact ⟨ret_bool (by first | rfl | simp), BZ.out⟩

end Go.Proofs.Ytnkjkgakbgjddaa
