/- Load, of the program. -/
import Derived.Test.YtnkjkgakbgjddaaGt
import Derived.Test.YtnkjkgakbgjddaaRight
import Derived.Test.YtnkjkgakbgjddaaRset
namespace Go.Proofs.Ytnkjkgakbgjddaa
open Go.RowKit

/-- What is left of reading a position when so many fields were read. -/
def cont5 (p : Ps) (i : Int) : Ps × Int × Int := if rightP p = true then (p, i, 0) else (noP, 0, 11)
def cont4 (bs : List UInt8) (p : Ps) (i : Int) : Ps × Int × Int := if (varV bs i).2.2 ≠ 0 then (noP, 0, (varV bs i).2.2) else cont5 ⟨p.g, p.t, p.p, p.h, (varV bs i).1⟩ (varV bs i).2.1
def cont3 (bs : List UInt8) (p : Ps) (i : Int) : Ps × Int × Int := if (varV bs i).2.2 ≠ 0 then (noP, 0, (varV bs i).2.2) else cont4 bs ⟨p.g, p.t, p.p, (varV bs i).1, p.o⟩ (varV bs i).2.1
def cont2 (bs : List UInt8) (p : Ps) (i : Int) : Ps × Int × Int := if (varV bs i).2.2 ≠ 0 then (noP, 0, (varV bs i).2.2) else cont3 bs ⟨p.g, p.t, (varV bs i).1, p.h, p.o⟩ (varV bs i).2.1
def cont1 (bs : List UInt8) (p : Ps) (i : Int) : Ps × Int × Int := if (textV bs i).2.2 ≠ 0 then (noP, 0, (textV bs i).2.2) else cont2 bs ⟨p.g, (textV bs i).1, p.p, p.h, p.o⟩ (textV bs i).2.1
def cont0 (bs : List UInt8) (p : Ps) (i : Int) : Ps × Int × Int := if (textV bs i).2.2 ≠ 0 then (noP, 0, (textV bs i).2.2) else cont1 bs ⟨(textV bs i).1, p.t, p.p, p.h, p.o⟩ (textV bs i).2.1
def contV (bs : List UInt8) : Nat → Ps → Int → Ps × Int × Int
  | 0 => cont0 bs
  | 1 => cont1 bs
  | 2 => cont2 bs
  | 3 => cont3 bs
  | 4 => cont4 bs
  | _ => cont5
theorem as78 (v : Value) (w : World) : (Instr.typeAssert (.iface 78 v) 20 78 true).run Try.prog w = .ok (.tuple #[v, .bool true]) w := by kernel_rfl
theorem as79 (v : Value) (w : World) : (Instr.typeAssert (.iface 79 v) 20 78 true).run Try.prog w = .ok (.tuple #[.pointer none, .bool false]) w := by kernel_rfl
theorem as799 (v : Value) (w : World) : (Instr.typeAssert (.iface 79 v) 20 79 true).run Try.prog w = .ok (.tuple #[v, .bool true]) w := by kernel_rfl
theorem load_cont {bs : List UInt8} {i : Int} (h : ¬ (i < 0 ∨ (bs.length : Int) < i)) : loadV bs i = contV bs 0 noP i := by
  unfold loadV
  rw [if_neg h]
  rfl
theorem text_size {bs : List UInt8} {i m : Int} {s : ByteArray} {e : Int} (h : textV bs i = (s, m, e)) : s.size ≤ 64 := by
  unfold textV at h
  repeat' split at h
  all_goals (simp only [Prod.mk.injEq] at h; obtain ⟨rfl, _, _⟩ := h)
  all_goals first
    | exact Nat.zero_le _
    | (unfold cutV
       show ((bs.drop _).take _).toArray.size ≤ 64
       simp only [List.size_toArray, List.length_take, List.length_drop]
       omega)

set_option maxRecDepth 100000 in
set_option maxHeartbeats 16000000 in
theorem load_any (A : Option Addr) (n c : Nat) (bs : List UInt8) (at0 : Int) (w : World) (hl : Sl u8K w A n c bs) : Calls Try.prog 29 #[.slice A n c, .int .i64 at0] w fun e w' => e = .returned (.tuple #[(loadV bs at0).1.v, .int .i64 (loadV bs at0).2.1, .int .i64 (loadV bs at0).2.2]) ∧ Below w.heap.size w w' := by
  obtain ⟨W0, hW0⟩ : ∃ W0, W0 = (w.alloc (.cells #[.string ⟨#[]⟩, .string ⟨#[]⟩, .int .i64 0, .int .i64 0, .int .i64 0] 29)).alloc (.cells #[.iface 78 (.pointer (some ⟨w.heap.size, 0, none⟩)), .iface 78 (.pointer (some ⟨w.heap.size, 1, none⟩)), .iface 79 (.pointer (some ⟨w.heap.size, 2, none⟩)), .iface 79 (.pointer (some ⟨w.heap.size, 3, none⟩)), .iface 79 (.pointer (some ⟨w.heap.size, 4, none⟩))] 20) := ⟨_, rfl⟩
  have B0 := Lib.hid (show Below w.heap.size w W0 from by rw [hW0]; exact (below_alloc1 w _).alloc (by simp) _)
  have P0 := Lib.hid (show Has W0 w.heap.size #[.string ⟨#[]⟩, .string ⟨#[]⟩, .int .i64 0, .int .i64 0, .int .i64 0] from by rw [hW0]; exact (Has.newAt w _ 29 rfl).alloc _)
  have I0 := Lib.hid (show Has W0 (w.heap.size + 1) #[.iface 78 (.pointer (some ⟨w.heap.size, 0, none⟩)), .iface 78 (.pointer (some ⟨w.heap.size, 1, none⟩)), .iface 79 (.pointer (some ⟨w.heap.size, 2, none⟩)), .iface 79 (.pointer (some ⟨w.heap.size, 3, none⟩)), .iface 79 (.pointer (some ⟨w.heap.size, 4, none⟩))] from by rw [hW0]; exact Has.newAt _ _ 20 (by simp))
  have Z0 := Lib.hid (show w.heap.size < W0.heap.size from by rw [hW0]; simp; omega)
  have HW0 := Lib.hid hW0
  have LN := Lib.hid hl.len
  have hmax := hl.max
  have hcap := hl.cap
  have GT := Lib.hid (fun i W (h : Below w.heap.size w W) => getText_any A n c bs i W (hl.below h))
  have GV := Lib.hid (fun i W (h : Below w.heap.size w W) => getVar_any A n c bs i W (hl.below h))
  clear hl hW0
  by_cases hin : at0 < 0 ∨ (n : Int) < at0
  · have HR := Lib.hid (show loadV bs at0 = (noP, 0, 1) from by unfold loadV; rw [if_pos (by rw [LN.out]; exact hin)])
    have R0 := Lib.hid (Has.newAt w #[.string ⟨#[]⟩, .string ⟨#[]⟩, .int .i64 0, .int .i64 0, .int .i64 0] 29 (g := w.heap.size) rfl)
    have BR := Lib.hid (below_alloc1 w (.cells #[.string ⟨#[]⟩, .string ⟨#[]⟩, .int .i64 0, .int .i64 0, .int .i64 0] 29))
    have r0c := R0.out.cell
    have r0l := R0.out.lt
    have r0f := R0.out.free
    by_cases h0 : at0 < 0
    · have dk : decide (at0 < 0) = true := decide_eq_true h0
      clear hin
      go_enter Try.func29, Try.ntmps29
      go_wp2_with fail
      refine bodyPost_ret (v := .tuple #[noP.v, .int .i64 0, .int .i64 1]) (by simp [results, Try.results29, go_sem, r0c, noP, Ps.v]) rfl ?_
      exact ⟨by rw [HR.out], BR.out⟩
    · have dk : decide (at0 < 0) = false := decide_eq_false h0
      have dn : decide ((n : Int) < at0) = true := decide_eq_true (by omega)
      clear hin
      go_enter Try.func29, Try.ntmps29
      go_wp2_with fail
      refine bodyPost_ret (v := .tuple #[noP.v, .int .i64 0, .int .i64 1]) (by simp [results, Try.results29, go_sem, r0c, noP, Ps.v]) rfl ?_
      exact ⟨by rw [HR.out], BR.out⟩
  · obtain ⟨k0, rfl⟩ : ∃ m : Nat, at0 = m := ⟨at0.toNat, by omega⟩
    have LV := Lib.hid (load_cont (bs := bs) (i := (k0 : Int)) (by rw [LN.out]; exact hin))
    have dn : decide (n < k0) = false := decide_eq_false (by omega)
    have dk : decide ((k0 : Int) < 0) = false := decide_eq_false (by omega)
    clear hin
    obtain ⟨at0, hat⟩ : ∃ at0, at0 = (k0 : Int) := ⟨_, rfl⟩
    have HAT := Lib.hid hat
    rw [← hat] at LV ⊢
    go_enter Try.func29, Try.ntmps29
    rw [hat]
    clear hat
    go_wp2_with fail
    rw [← HW0.out]
    go_loopg [1, 6, 35] 5 (fun kx s1 s6 s35 wr => ∃ (k : Nat) (p : Ps) (i : Int), k ≤ 5 ∧ 5 - k ≤ kx ∧ s1 = .int .i64 i ∧ s6 = .int .i64 0 ∧ s35 = .int .i64 (k : Nat) ∧ Hid (Has wr w.heap.size #[.string p.g, .string p.t, .int .i64 p.p, .int .i64 p.h, .int .i64 p.o]) ∧ Hid (Has wr (w.heap.size + 1) #[.iface 78 (.pointer (some ⟨w.heap.size, 0, none⟩)), .iface 78 (.pointer (some ⟨w.heap.size, 1, none⟩)), .iface 79 (.pointer (some ⟨w.heap.size, 2, none⟩)), .iface 79 (.pointer (some ⟨w.heap.size, 3, none⟩)), .iface 79 (.pointer (some ⟨w.heap.size, 4, none⟩))]) ∧ Hid (Below w.heap.size w wr) ∧ Hid (loadV bs at0 = contV bs k p i ∧ True ∧ p.g.size ≤ 64 ∧ p.t.size ≤ 64))
    case atStart => exact ⟨0, noP, k0, by omega, by omega, rfl, rfl, rfl, P0, I0, B0, Lib.hid ⟨by rw [← HAT.out]; exact LV.out, trivial, Nat.zero_le _, Nat.zero_le _⟩⟩
    case round =>
      obtain ⟨k, p, i, hk, hgg, rfl, rfl, rfl, hp, hi, hb0, P⟩ := hrel
      have hb := Lib.hid (Below.refl W0.heap.size W0)
      have a78 := as78
      have a79 := as79
      have a799 := as799
      have pc := hp.out.cell
      have pl := hp.out.lt
      have pf := hp.out.free
      have ic := hi.out.cell
      have il := hi.out.lt
      rcases (show k = 0 ∨ k = 1 ∨ k = 2 ∨ k = 3 ∨ k = 4 ∨ k = 5 by omega) with h0 | h1 | h2 | h3 | h4 | h5
      · subst h0
        obtain ⟨T, hT⟩ : ∃ T, textV bs i = T := ⟨_, rfl⟩
        obtain ⟨s, m, e⟩ := T
        have LC : loadV bs at0 = if e ≠ 0 then (noP, 0, e) else contV bs 1 ⟨s, p.t, p.p, p.h, p.o⟩ m := by
          rw [P.out.1]
          show cont0 bs p i = _
          unfold cont0
          rw [hT]
          rfl
        have CA := Lib.hid (GT.out i wr hb0.out)
        rw [hT] at CA
        have SZ := Lib.hid (text_size hT)
        clear hT
        by_cases he : e = 0
        · subst he
          rw [if_neg (fun h => h rfl)] at LC
          have LC := Lib.hid LC
          go_wp2_with (first | (go_at_call 55; refine CA.out.mono ?_; rintro e w5 ⟨rfl, rfl⟩))
          go_roundg (5 - 1)
          case measure => omega
          case rel =>
            have G := setCells_grown w.heap.size [.string s] 0 w5
            have sp : w.heap.size < W0.heap.size := Z0.out
            exact ⟨1, ⟨s, p.t, p.p, p.h, p.o⟩, m, by omega, by omega, rfl, rfl, rfl, Lib.hid (hp.out.setAt 0 _ (by simp)), Lib.hid (hi.out.grown G (by omega)), Lib.hid ((hb0.out.trans (grown_below G hb0.out.size (fun q hq => by injection hq with hq; omega)))), Lib.hid ⟨LC.out, trivial, ⟨SZ.out, P.out.2.2.2⟩⟩⟩
        · rw [if_pos he] at LC
          have LC := Lib.hid LC
          have d1 : (e == 0) = false := by rw [beq_eq_false_iff_ne]; exact he
          have d2 : decide (e = 0) = false := decide_eq_false he
          clear he
          go_wp2_with (first | (go_at_call 55; refine CA.out.mono ?_; rintro e w5 ⟨rfl, rfl⟩))
          have G := setCells_grown w.heap.size [.string s] 0 w5
          have G2 := setCells_grown w.heap.size [.string ⟨#[]⟩, .string ⟨#[]⟩, .int .i64 0, .int .i64 0, .int .i64 0] 0 (w5.setCells w.heap.size 0 [.string s])
          refine bodyPost_ret (v := .tuple #[noP.v, .int .i64 0, .int .i64 e]) (by simp [results, Try.results29, go_sem, pc, noP, Ps.v]) rfl ?_
          have b2 := hb0.out.trans (grown_below G hb0.out.size (fun q hq => by injection hq with hq; omega))
          exact ⟨by rw [← HAT.out, LC.out], b2.trans (grown_below G2 b2.size (fun q hq => by injection hq with hq; omega))⟩
      · subst h1
        obtain ⟨T, hT⟩ : ∃ T, textV bs i = T := ⟨_, rfl⟩
        obtain ⟨s, m, e⟩ := T
        have LC : loadV bs at0 = if e ≠ 0 then (noP, 0, e) else contV bs 2 ⟨p.g, s, p.p, p.h, p.o⟩ m := by
          rw [P.out.1]
          show cont1 bs p i = _
          unfold cont1
          rw [hT]
          rfl
        have CA := Lib.hid (GT.out i wr hb0.out)
        rw [hT] at CA
        have SZ := Lib.hid (text_size hT)
        clear hT
        by_cases he : e = 0
        · subst he
          rw [if_neg (fun h => h rfl)] at LC
          have LC := Lib.hid LC
          go_wp2_with (first | (go_at_call 55; refine CA.out.mono ?_; rintro e w5 ⟨rfl, rfl⟩))
          go_roundg (5 - 2)
          case measure => omega
          case rel =>
            have G := setCells_grown w.heap.size [.string s] 1 w5
            have sp : w.heap.size < W0.heap.size := Z0.out
            exact ⟨2, ⟨p.g, s, p.p, p.h, p.o⟩, m, by omega, by omega, rfl, rfl, rfl, Lib.hid (hp.out.setAt 1 _ (by simp)), Lib.hid (hi.out.grown G (by omega)), Lib.hid ((hb0.out.trans (grown_below G hb0.out.size (fun q hq => by injection hq with hq; omega)))), Lib.hid ⟨LC.out, trivial, ⟨P.out.2.2.1, SZ.out⟩⟩⟩
        · rw [if_pos he] at LC
          have LC := Lib.hid LC
          have d1 : (e == 0) = false := by rw [beq_eq_false_iff_ne]; exact he
          have d2 : decide (e = 0) = false := decide_eq_false he
          clear he
          go_wp2_with (first | (go_at_call 55; refine CA.out.mono ?_; rintro e w5 ⟨rfl, rfl⟩))
          have G := setCells_grown w.heap.size [.string s] 1 w5
          have G2 := setCells_grown w.heap.size [.string ⟨#[]⟩, .string ⟨#[]⟩, .int .i64 0, .int .i64 0, .int .i64 0] 0 (w5.setCells w.heap.size 1 [.string s])
          refine bodyPost_ret (v := .tuple #[noP.v, .int .i64 0, .int .i64 e]) (by simp [results, Try.results29, go_sem, pc, noP, Ps.v]) rfl ?_
          have b2 := hb0.out.trans (grown_below G hb0.out.size (fun q hq => by injection hq with hq; omega))
          exact ⟨by rw [← HAT.out, LC.out], b2.trans (grown_below G2 b2.size (fun q hq => by injection hq with hq; omega))⟩
      · subst h2
        obtain ⟨T, hT⟩ : ∃ T, varV bs i = T := ⟨_, rfl⟩
        obtain ⟨x, m, e⟩ := T
        have LC : loadV bs at0 = if e ≠ 0 then (noP, 0, e) else contV bs 3 ⟨p.g, p.t, x, p.h, p.o⟩ m := by
          rw [P.out.1]
          show cont2 bs p i = _
          unfold cont2
          rw [hT]
          rfl
        have CA := Lib.hid (GV.out i wr hb0.out)
        rw [hT] at CA
        clear hT
        by_cases he : e = 0
        · subst he
          rw [if_neg (fun h => h rfl)] at LC
          have LC := Lib.hid LC
          go_wp2_with (first | (go_at_call 56; refine CA.out.mono ?_; rintro e w5 ⟨rfl, rfl⟩))
          go_roundg (5 - 3)
          case measure => omega
          case rel =>
            have G := setCells_grown w.heap.size [.int .i64 x] 2 w5
            have sp : w.heap.size < W0.heap.size := Z0.out
            exact ⟨3, ⟨p.g, p.t, x, p.h, p.o⟩, m, by omega, by omega, rfl, rfl, rfl, Lib.hid (hp.out.setAt 2 _ (by simp)), Lib.hid (hi.out.grown G (by omega)), Lib.hid ((hb0.out.trans (grown_below G hb0.out.size (fun q hq => by injection hq with hq; omega)))), Lib.hid ⟨LC.out, trivial, P.out.2.2⟩⟩
        · rw [if_pos he] at LC
          have LC := Lib.hid LC
          have d1 : (e == 0) = false := by rw [beq_eq_false_iff_ne]; exact he
          have d2 : decide (e = 0) = false := decide_eq_false he
          clear he
          go_wp2_with (first | (go_at_call 56; refine CA.out.mono ?_; rintro e w5 ⟨rfl, rfl⟩))
          have G := setCells_grown w.heap.size [.int .i64 x] 2 w5
          have G2 := setCells_grown w.heap.size [.string ⟨#[]⟩, .string ⟨#[]⟩, .int .i64 0, .int .i64 0, .int .i64 0] 0 (w5.setCells w.heap.size 2 [.int .i64 x])
          refine bodyPost_ret (v := .tuple #[noP.v, .int .i64 0, .int .i64 e]) (by simp [results, Try.results29, go_sem, pc, noP, Ps.v]) rfl ?_
          have b2 := hb0.out.trans (grown_below G hb0.out.size (fun q hq => by injection hq with hq; omega))
          exact ⟨by rw [← HAT.out, LC.out], b2.trans (grown_below G2 b2.size (fun q hq => by injection hq with hq; omega))⟩
      · subst h3
        obtain ⟨T, hT⟩ : ∃ T, varV bs i = T := ⟨_, rfl⟩
        obtain ⟨x, m, e⟩ := T
        have LC : loadV bs at0 = if e ≠ 0 then (noP, 0, e) else contV bs 4 ⟨p.g, p.t, p.p, x, p.o⟩ m := by
          rw [P.out.1]
          show cont3 bs p i = _
          unfold cont3
          rw [hT]
          rfl
        have CA := Lib.hid (GV.out i wr hb0.out)
        rw [hT] at CA
        clear hT
        by_cases he : e = 0
        · subst he
          rw [if_neg (fun h => h rfl)] at LC
          have LC := Lib.hid LC
          go_wp2_with (first | (go_at_call 56; refine CA.out.mono ?_; rintro e w5 ⟨rfl, rfl⟩))
          go_roundg (5 - 4)
          case measure => omega
          case rel =>
            have G := setCells_grown w.heap.size [.int .i64 x] 3 w5
            have sp : w.heap.size < W0.heap.size := Z0.out
            exact ⟨4, ⟨p.g, p.t, p.p, x, p.o⟩, m, by omega, by omega, rfl, rfl, rfl, Lib.hid (hp.out.setAt 3 _ (by simp)), Lib.hid (hi.out.grown G (by omega)), Lib.hid ((hb0.out.trans (grown_below G hb0.out.size (fun q hq => by injection hq with hq; omega)))), Lib.hid ⟨LC.out, trivial, P.out.2.2⟩⟩
        · rw [if_pos he] at LC
          have LC := Lib.hid LC
          have d1 : (e == 0) = false := by rw [beq_eq_false_iff_ne]; exact he
          have d2 : decide (e = 0) = false := decide_eq_false he
          clear he
          go_wp2_with (first | (go_at_call 56; refine CA.out.mono ?_; rintro e w5 ⟨rfl, rfl⟩))
          have G := setCells_grown w.heap.size [.int .i64 x] 3 w5
          have G2 := setCells_grown w.heap.size [.string ⟨#[]⟩, .string ⟨#[]⟩, .int .i64 0, .int .i64 0, .int .i64 0] 0 (w5.setCells w.heap.size 3 [.int .i64 x])
          refine bodyPost_ret (v := .tuple #[noP.v, .int .i64 0, .int .i64 e]) (by simp [results, Try.results29, go_sem, pc, noP, Ps.v]) rfl ?_
          have b2 := hb0.out.trans (grown_below G hb0.out.size (fun q hq => by injection hq with hq; omega))
          exact ⟨by rw [← HAT.out, LC.out], b2.trans (grown_below G2 b2.size (fun q hq => by injection hq with hq; omega))⟩
      · subst h4
        obtain ⟨T, hT⟩ : ∃ T, varV bs i = T := ⟨_, rfl⟩
        obtain ⟨x, m, e⟩ := T
        have LC : loadV bs at0 = if e ≠ 0 then (noP, 0, e) else contV bs 5 ⟨p.g, p.t, p.p, p.h, x⟩ m := by
          rw [P.out.1]
          show cont4 bs p i = _
          unfold cont4
          rw [hT]
          rfl
        have CA := Lib.hid (GV.out i wr hb0.out)
        rw [hT] at CA
        clear hT
        by_cases he : e = 0
        · subst he
          rw [if_neg (fun h => h rfl)] at LC
          have LC := Lib.hid LC
          go_wp2_with (first | (go_at_call 56; refine CA.out.mono ?_; rintro e w5 ⟨rfl, rfl⟩))
          go_roundg (5 - 5)
          case measure => omega
          case rel =>
            have G := setCells_grown w.heap.size [.int .i64 x] 4 w5
            have sp : w.heap.size < W0.heap.size := Z0.out
            exact ⟨5, ⟨p.g, p.t, p.p, p.h, x⟩, m, by omega, by omega, rfl, rfl, rfl, Lib.hid (hp.out.setAt 4 _ (by simp)), Lib.hid (hi.out.grown G (by omega)), Lib.hid ((hb0.out.trans (grown_below G hb0.out.size (fun q hq => by injection hq with hq; omega)))), Lib.hid ⟨LC.out, trivial, P.out.2.2⟩⟩
        · rw [if_pos he] at LC
          have LC := Lib.hid LC
          have d1 : (e == 0) = false := by rw [beq_eq_false_iff_ne]; exact he
          have d2 : decide (e = 0) = false := decide_eq_false he
          clear he
          go_wp2_with (first | (go_at_call 56; refine CA.out.mono ?_; rintro e w5 ⟨rfl, rfl⟩))
          have G := setCells_grown w.heap.size [.int .i64 x] 4 w5
          have G2 := setCells_grown w.heap.size [.string ⟨#[]⟩, .string ⟨#[]⟩, .int .i64 0, .int .i64 0, .int .i64 0] 0 (w5.setCells w.heap.size 4 [.int .i64 x])
          refine bodyPost_ret (v := .tuple #[noP.v, .int .i64 0, .int .i64 e]) (by simp [results, Try.results29, go_sem, pc, noP, Ps.v]) rfl ?_
          have b2 := hb0.out.trans (grown_below G hb0.out.size (fun q hq => by injection hq with hq; omega))
          exact ⟨by rw [← HAT.out, LC.out], b2.trans (grown_below G2 b2.size (fun q hq => by injection hq with hq; omega))⟩
      · subst h5
        have LC := Lib.hid (show loadV bs at0 = if rightP p = true then (p, i, 0) else (noP, 0, 11) from P.out.1)
        have RT := Lib.hid (fun W => right_any p W (by have := P.out.2.2.1; unfold maxLen; omega) (by have := P.out.2.2.2; unfold maxLen; omega))
        by_cases hr : rightP p = true
        · rw [hr] at RT LC
          clear hr
          go_wp2_with (go_at_call 35; refine (RT.out _).mono ?_; rintro e w5 ⟨rfl, hb5⟩; have B5 := Lib.hid (below_from hb5 hb0.out hb0.out.size); have P5 := Lib.hid (hp.out.past hb5); have p5c := P5.out.cell; have p5l := P5.out.lt; have p5f := P5.out.free; clear hb5 pc pl pf)
          refine bodyPost_ret (v := .tuple #[p.v, .int .i64 i, .int .i64 0]) (by simp [results, Try.results29, go_sem, p5c, Ps.v]) rfl ?_
          have G := setCells_grown w.heap.size [.string p.g, .string p.t, .int .i64 p.p, .int .i64 p.h, .int .i64 p.o] 0 w5
          exact ⟨by rw [← HAT.out, LC.out]; rfl, B5.out.trans (grown_below G B5.out.size (fun q hq => by injection hq with hq; omega))⟩
        · have hr2 : rightP p = false := by simpa using hr
          rw [hr2] at RT LC
          clear hr hr2
          go_wp2_with (go_at_call 35; refine (RT.out _).mono ?_; rintro e w5 ⟨rfl, hb5⟩; have B5 := Lib.hid (below_from hb5 hb0.out hb0.out.size); have P5 := Lib.hid (hp.out.past hb5); have p5c := P5.out.cell; have p5l := P5.out.lt; have p5f := P5.out.free; clear hb5 pc pl pf)
          refine bodyPost_ret (v := .tuple #[noP.v, .int .i64 0, .int .i64 11]) (by simp [results, Try.results29, go_sem, p5c, noP, Ps.v]) rfl ?_
          have G := setCells_grown w.heap.size [.string ⟨#[]⟩, .string ⟨#[]⟩, .int .i64 0, .int .i64 0, .int .i64 0] 0 w5
          exact ⟨by rw [← HAT.out, LC.out]; rfl, B5.out.trans (grown_below G B5.out.size (fun q hq => by injection hq with hq; omega))⟩

end Go.Proofs.Ytnkjkgakbgjddaa
