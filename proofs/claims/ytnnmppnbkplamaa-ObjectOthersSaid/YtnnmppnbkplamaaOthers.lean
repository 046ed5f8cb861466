/- ObjectOthers of layer 14: the walk. -/
import Derived.Test.YtnnmppnbkplamaaLive
import Derived.Test.YtnnmppnbkplamaaPlain
import Derived.Deep.DeepCutAuto
namespace Go.Proofs.Ytnnmppnbkplamaa
open Go.RowKit Go.Shelf

set_option maxHeartbeats 40000000 in
set_option maxRecDepth 100000 in
theorem others_any (A : Option Addr) (n c : Nat) (l : List Ob) (calls : Int) (A' : Option Addr) (n' c' : Nat) (fs : List Ft) (s : ByteArray) (Ab : Option Addr) (mb kb : Nat) (bl : List UInt8) (o : ByteArray) (w : World) (hl : Obs w A n c l) (hf : Fts w A' n' c' fs) (hbl : Sl u8K w Ab mb kb bl) (hsz : s.size ≤ maxLen) (hm : mb ≤ 140737488355328) :
    Calls Try.prog 6 #[stV A n c calls A' n' c', .string s, .slice Ab mb kb, .string o] w fun e w' => e = .returned (.bool true) ∧ Below w.heap.size w w' := by
  obtain ⟨L, hL⟩ : ∃ L, l.map Ob.val = L := ⟨_, rfl⟩
  have V := Lib.hid hL
  obtain ⟨q, hq⟩ : ∃ q, byR L o = q := ⟨_, rfl⟩
  obtain ⟨bs, b⟩ := q
  have Q := Lib.hid hq
  have Y0 := Lib.hid (hbl.alloc (.cells #[.slice A n c, .int .i64 calls, .slice A' n' c'] 25))
  have B0 := Lib.hid (below_alloc1 w (.cells #[.slice A n c, .int .i64 calls, .slice A' n' c'] 25))
  have S0 := Lib.hid (Has.newAt w #[.slice A n c, .int .i64 calls, .slice A' n' c'] 25 (g := w.heap.size) rfl)
  have O0 := Lib.hid (hl.alloc (.cells #[.slice A n c, .int .i64 calls, .slice A' n' c'] 25))
  have F0 := Lib.hid (hf.alloc (.cells #[.slice A n c, .int .i64 calls, .slice A' n' c'] 25))
  have LV := Lib.hid live_any
  have FW := Lib.hid few_any
  have PT := Lib.hid put_at
  have GT := Lib.hid get_at
  have LT := Lib.hid list_at
  have DT := Lib.hid del_at
  have BY := Lib.hid bytes_at
  clear hl hf hbl hL
  go_enter Try.func6, Try.ntmps6
  go_wp2_with fail
  refine (LV.out _).mono ?_
  intro e w1 hx
  obtain ⟨rfl, hb⟩ := hx
  have B1 := Lib.hid (below_from hb B0.out B0.out.size)
  have S1 := Lib.hid (S0.out.past hb)
  have cS1 := S1.out.cell
  have lS1 := S1.out.lt
  have O1 := Lib.hid (O0.out.below hb)
  have F1 := Lib.hid (F0.out.below hb)
  have Y1 := Lib.hid (Y0.out.below hb)
  clear hb
  go_wp2_with fail
  refine (FW.out A n c l calls A' n' c' s Ab mb kb _ O1.out).mono ?_
  intro e w2 hx
  obtain ⟨⟨bf, rfl⟩, hb⟩ := hx
  have B2 := Lib.hid (below_from hb B1.out B1.out.size)
  have S2 := Lib.hid (S1.out.past hb)
  have cS2 := S2.out.cell
  have lS2 := S2.out.lt
  have O2 := Lib.hid (O1.out.below hb)
  have F2 := Lib.hid (F1.out.below hb)
  have Y2 := Lib.hid (Y1.out.below hb)
  clear hb cS1 lS1
  cases bf with
  | false =>
    go_wp2_with fail
    go_ret
    exact ⟨rfl, B2.out⟩
  | true => ?_
  by_cases h2 : 200 < o.size
  · go_wp2_with fail
    go_ret
    exact ⟨rfl, B2.out⟩
  by_cases hso : s = o
  · subst hso
    go_wp2_with fail
    go_ret
    exact ⟨rfl, B2.out⟩
  have hos : ¬ o = s := fun e => hso e.symm
  have nso := str_ne hso
  obtain ⟨r1, hr1⟩ : ∃ r, putR L calls fs s bl = r := ⟨_, rfl⟩
  obtain ⟨⟨L1, C1, fs1⟩, E1⟩ := r1
  obtain ⟨q1, hq1⟩ : ∃ q, byR L1 o = q := ⟨_, rfl⟩
  obtain ⟨bs1, b1⟩ := q1
  have HP : (E1 = 0 ∧ bs1 = bs ∧ b1 = b) ∨ (E1 = 140 ∧ bs1 = bs ∧ b1 = b) ∨ ((E1 == 0) = false ∧ (E1 != 0) = true ∧ decide (E1 = 0) = false ∧ (E1 == 140) = false ∧ (E1 != 140) = true ∧ decide (E1 = 140) = false) := by
    have key : (E1 = 0 ∨ E1 = 140) → bs1 = bs ∧ b1 = b := fun hh => by
      have := others_put L calls fs s o bl hos (by rw [hr1]; exact hh)
      rw [hr1] at this
      simp only at this
      rw [hq1, hq] at this
      injection this with t1 t2
      exact ⟨t1, t2⟩
    by_cases x0 : E1 = 0
    · exact .inl ⟨x0, key (.inl x0)⟩
    by_cases x140 : E1 = 140
    · exact .inr (.inl ⟨x140, key (.inr (x140))⟩)
    exact .inr (.inr ⟨by rw [beq_eq_false_iff_ne]; exact x0, by simpa using x0, decide_eq_false x0, by rw [beq_eq_false_iff_ne]; exact x140, by simpa using x140, decide_eq_false x140⟩)
  have R1 := Lib.hid hr1
  have Q1 := Lib.hid hq1
  clear hr1 hq1
  obtain ⟨r2, hr2⟩ : ∃ r, delR L calls fs s = r := ⟨_, rfl⟩
  obtain ⟨⟨L2, C2, fs2⟩, E2⟩ := r2
  obtain ⟨q2, hq2⟩ : ∃ q, byR L2 o = q := ⟨_, rfl⟩
  obtain ⟨bs2, b2⟩ := q2
  have HD : (E2 = 0 ∧ bs2 = bs ∧ b2 = b) ∨ (E2 = 140 ∧ bs2 = bs ∧ b2 = b) ∨ ((E2 == 0) = false ∧ (E2 != 0) = true ∧ decide (E2 = 0) = false ∧ (E2 == 140) = false ∧ (E2 != 140) = true ∧ decide (E2 = 140) = false) := by
    have key : (E2 = 0 ∨ E2 = 140) → bs2 = bs ∧ b2 = b := fun hh => by
      have := others_del L calls fs s o hos (by rw [hr2]; exact hh)
      rw [hr2] at this
      simp only at this
      rw [hq2, hq] at this
      injection this with t1 t2
      exact ⟨t1, t2⟩
    by_cases x0 : E2 = 0
    · exact .inl ⟨x0, key (.inl x0)⟩
    by_cases x140 : E2 = 140
    · exact .inr (.inl ⟨x140, key (.inr (x140))⟩)
    exact .inr (.inr ⟨by rw [beq_eq_false_iff_ne]; exact x0, by simpa using x0, decide_eq_false x0, by rw [beq_eq_false_iff_ne]; exact x140, by simpa using x140, decide_eq_false x140⟩)
  have R2 := Lib.hid hr2
  have Q2 := Lib.hid hq2
  clear hr2 hq2
  obtain ⟨r3, hr3⟩ : ∃ r, getR L calls fs s = r := ⟨_, rfl⟩
  obtain ⟨⟨L3, C3, fs3⟩, z3, E3⟩ := r3
  obtain ⟨q3, hq3⟩ : ∃ q, byR L3 o = q := ⟨_, rfl⟩
  obtain ⟨bs3, b3⟩ := q3
  have HG : (E3 = 0 ∧ bs3 = bs ∧ b3 = b) ∨ (E3 = 140 ∧ bs3 = bs ∧ b3 = b) ∨ (E3 = 141 ∧ bs3 = bs ∧ b3 = b) ∨ ((E3 == 0) = false ∧ (E3 != 0) = true ∧ decide (E3 = 0) = false ∧ (E3 == 140) = false ∧ (E3 != 140) = true ∧ decide (E3 = 140) = false ∧ (E3 == 141) = false ∧ (E3 != 141) = true ∧ decide (E3 = 141) = false) := by
    have key : (E3 = 0 ∨ E3 = 140 ∨ E3 = 141) → bs3 = bs ∧ b3 = b := fun hh => by
      have := others_get L calls fs s (by rw [hr3]; exact hh)
      rw [hr3] at this
      have e1 : L3 = L := this
      rw [e1, hq] at hq3
      injection hq3 with t1 t2
      exact ⟨t1.symm, t2.symm⟩
    by_cases x0 : E3 = 0
    · exact .inl ⟨x0, key (.inl x0)⟩
    by_cases x140 : E3 = 140
    · exact .inr (.inl ⟨x140, key (.inr (.inl x140))⟩)
    by_cases x141 : E3 = 141
    · exact .inr (.inr (.inl ⟨x141, key (.inr (.inr (x141)))⟩))
    exact .inr (.inr (.inr ⟨by rw [beq_eq_false_iff_ne]; exact x0, by simpa using x0, decide_eq_false x0, by rw [beq_eq_false_iff_ne]; exact x140, by simpa using x140, decide_eq_false x140, by rw [beq_eq_false_iff_ne]; exact x141, by simpa using x141, decide_eq_false x141⟩))
  have R3 := Lib.hid hr3
  have Q3 := Lib.hid hq3
  clear hr3 hq3
  obtain ⟨r4, hr4⟩ : ∃ r, listR L calls fs s = r := ⟨_, rfl⟩
  obtain ⟨⟨L4, C4, fs4⟩, z4, E4⟩ := r4
  obtain ⟨q4, hq4⟩ : ∃ q, byR L4 o = q := ⟨_, rfl⟩
  obtain ⟨bs4, b4⟩ := q4
  have HL : (E4 = 0 ∧ bs4 = bs ∧ b4 = b) ∨ (E4 = 140 ∧ bs4 = bs ∧ b4 = b) ∨ ((E4 == 0) = false ∧ (E4 != 0) = true ∧ decide (E4 = 0) = false ∧ (E4 == 140) = false ∧ (E4 != 140) = true ∧ decide (E4 = 140) = false) := by
    have key : (E4 = 0 ∨ E4 = 140) → bs4 = bs ∧ b4 = b := fun hh => by
      have := others_list L calls fs s (by rw [hr4]; exact hh)
      rw [hr4] at this
      have e1 : L4 = L := this
      rw [e1, hq] at hq4
      injection hq4 with t1 t2
      exact ⟨t1.symm, t2.symm⟩
    by_cases x0 : E4 = 0
    · exact .inl ⟨x0, key (.inl x0)⟩
    by_cases x140 : E4 = 140
    · exact .inr (.inl ⟨x140, key (.inr (x140))⟩)
    exact .inr (.inr ⟨by rw [beq_eq_false_iff_ne]; exact x0, by simpa using x0, decide_eq_false x0, by rw [beq_eq_false_iff_ne]; exact x140, by simpa using x140, decide_eq_false x140⟩)
  have R4 := Lib.hid hr4
  have Q4 := Lib.hid hq4
  clear hr4 hq4
  clear hq
  go_wp2_with fail
  refine (BY.out A n c l calls A' n' c' o _ O2.out V.out Q.out).mono ?_
  intro e w3 hx
  obtain ⟨rfl, hb⟩ := hx
  have B3 := Lib.hid (below_from hb B2.out B2.out.size)
  have S3 := Lib.hid (S2.out.past hb)
  have cS3 := S3.out.cell
  have lS3 := S3.out.lt
  have O3 := Lib.hid (O2.out.below hb)
  have F3 := Lib.hid (F2.out.below hb)
  have Y3 := Lib.hid (Y2.out.below hb)
  clear cS2 lS2 hb
  go_wp2_with fail
  refine (PT.out A n c l calls A' n' c' fs s Ab mb kb bl _ O3.out F3.out Y3.out hsz hm V.out R1.out).mono ?_
  intro e w4 hx
  obtain ⟨A4, n4, c4, l4, A4', n4', c4', rfl, ho, hv, hf, hb⟩ := hx
  have V4 := Lib.hid hv
  have bk4 := hb.alloc hb.size (.cells #[.slice A4 n4 c4, .int .i64 C1, .slice A4' n4' c4'] 25)
  have B4 := Lib.hid (below_from bk4 B3.out B3.out.size)
  have S4 := Lib.hid (S3.out.past bk4)
  have cS4 := S4.out.cell
  have lS4 := S4.out.lt
  have O4 := Lib.hid (O3.out.below bk4)
  have F4 := Lib.hid (F3.out.below bk4)
  have Y4 := Lib.hid (Y3.out.below bk4)
  have P4 := Lib.hid ((ho).alloc (.cells #[.slice A4 n4 c4, .int .i64 C1, .slice A4' n4' c4'] 25))
  have TP4 := Lib.hid (Has.newAt w4 #[.slice A4 n4 c4, .int .i64 C1, .slice A4' n4' c4'] 25 (g := w4.heap.size) rfl)
  have cTP4 := TP4.out.cell
  have lTP4 := TP4.out.lt
  clear bk4
  clear cS3 lS3 hb ho hv hf
  go_wp2_with fail
  refine (DT.out A n c l calls A' n' c' fs s _ O4.out F4.out V.out R2.out).mono ?_
  intro e w5 hx
  obtain ⟨A5, n5, c5, l5, A5', n5', c5', rfl, ho, hv, hf, hb⟩ := hx
  have V5 := Lib.hid hv
  have bk5 := hb.alloc hb.size (.cells #[.slice A5 n5 c5, .int .i64 C2, .slice A5' n5' c5'] 25)
  have B5 := Lib.hid (below_from bk5 B4.out B4.out.size)
  have S5 := Lib.hid (S4.out.past bk5)
  have cS5 := S5.out.cell
  have lS5 := S5.out.lt
  have O5 := Lib.hid (O4.out.below bk5)
  have F5 := Lib.hid (F4.out.below bk5)
  have Y5 := Lib.hid (Y4.out.below bk5)
  have P5 := Lib.hid (P4.out.below bk5)
  have TP5 := Lib.hid (TP4.out.past bk5)
  have cTP5 := TP5.out.cell
  have lTP5 := TP5.out.lt
  have D5 := Lib.hid ((ho).alloc (.cells #[.slice A5 n5 c5, .int .i64 C2, .slice A5' n5' c5'] 25))
  have TD5 := Lib.hid (Has.newAt w5 #[.slice A5 n5 c5, .int .i64 C2, .slice A5' n5' c5'] 25 (g := w5.heap.size) rfl)
  have cTD5 := TD5.out.cell
  have lTD5 := TD5.out.lt
  clear bk5
  clear cS4 lS4 cTP4 lTP4 hb ho hv hf
  go_wp2_with fail
  refine (GT.out A n c l calls A' n' c' fs s _ O5.out F5.out V.out R3.out).mono ?_
  intro e w6 hx
  obtain ⟨A6, n6, c6, l6, A6', n6', c6', A6x, n6x, c6x, rfl, ho, hv, hf, hs, hm, hb⟩ := hx
  have V6 := Lib.hid hv
  have bk6 := hb.alloc hb.size (.cells #[.slice A6 n6 c6, .int .i64 C3, .slice A6' n6' c6'] 25)
  have B6 := Lib.hid (below_from bk6 B5.out B5.out.size)
  have S6 := Lib.hid (S5.out.past bk6)
  have cS6 := S6.out.cell
  have lS6 := S6.out.lt
  have O6 := Lib.hid (O5.out.below bk6)
  have F6 := Lib.hid (F5.out.below bk6)
  have Y6 := Lib.hid (Y5.out.below bk6)
  have P6 := Lib.hid (P5.out.below bk6)
  have TP6 := Lib.hid (TP5.out.past bk6)
  have cTP6 := TP6.out.cell
  have lTP6 := TP6.out.lt
  have D6 := Lib.hid (D5.out.below bk6)
  have TD6 := Lib.hid (TD5.out.past bk6)
  have cTD6 := TD6.out.cell
  have lTD6 := TD6.out.lt
  have G6 := Lib.hid ((ho).alloc (.cells #[.slice A6 n6 c6, .int .i64 C3, .slice A6' n6' c6'] 25))
  have TG6 := Lib.hid (Has.newAt w6 #[.slice A6 n6 c6, .int .i64 C3, .slice A6' n6' c6'] 25 (g := w6.heap.size) rfl)
  have cTG6 := TG6.out.cell
  have lTG6 := TG6.out.lt
  clear bk6
  clear cS5 lS5 cTP5 lTP5 cTD5 lTD5 hb ho hv hf hs hm
  go_wp2_with fail
  refine (LT.out A n c l calls A' n' c' fs s _ O6.out F6.out hsz V.out R4.out).mono ?_
  intro e w7 hx
  obtain ⟨A7, n7, c7, l7, A7', n7', c7', A7x, n7x, c7x, rfl, ho, hv, hf, hs, hb⟩ := hx
  have V7 := Lib.hid hv
  have bk7 := hb.alloc hb.size (.cells #[.slice A7 n7 c7, .int .i64 C4, .slice A7' n7' c7'] 25)
  have B7 := Lib.hid (below_from bk7 B6.out B6.out.size)
  have S7 := Lib.hid (S6.out.past bk7)
  have cS7 := S7.out.cell
  have lS7 := S7.out.lt
  have O7 := Lib.hid (O6.out.below bk7)
  have F7 := Lib.hid (F6.out.below bk7)
  have Y7 := Lib.hid (Y6.out.below bk7)
  have P7 := Lib.hid (P6.out.below bk7)
  have TP7 := Lib.hid (TP6.out.past bk7)
  have cTP7 := TP7.out.cell
  have lTP7 := TP7.out.lt
  have D7 := Lib.hid (D6.out.below bk7)
  have TD7 := Lib.hid (TD6.out.past bk7)
  have cTD7 := TD7.out.cell
  have lTD7 := TD7.out.lt
  have G7 := Lib.hid (G6.out.below bk7)
  have TG7 := Lib.hid (TG6.out.past bk7)
  have cTG7 := TG7.out.cell
  have lTG7 := TG7.out.lt
  have N7 := Lib.hid ((ho).alloc (.cells #[.slice A7 n7 c7, .int .i64 C4, .slice A7' n7' c7'] 25))
  have TN7 := Lib.hid (Has.newAt w7 #[.slice A7 n7 c7, .int .i64 C4, .slice A7' n7' c7'] 25 (g := w7.heap.size) rfl)
  have cTN7 := TN7.out.cell
  have lTN7 := TN7.out.lt
  clear bk7
  clear cS6 lS6 cTP6 lTP6 cTD6 lTD6 cTG6 lTG6 hb ho hv hf hs
  go_upto_region 11 with fail
  go_cut [22] (fun s22 wx => ∃ ok : Bool, s22 = .bool ok ∧ (ok = true → bs1 = bs ∧ b1 = b) ∧ wx = (w7.alloc (.cells #[.slice A7 n7 c7, .int .i64 C4, .slice A7' n7' c7'] 25)))
  case first =>
    rcases HP with ⟨rfl, h1, h1'⟩ | ⟨rfl, h1, h1'⟩ | ⟨mE10, nE10, dE10, mE1140, nE1140, dE1140⟩
    · go_wp2_with fail
      go_meet
      exact ⟨true, rfl, fun _ => ⟨h1, h1'⟩, rfl⟩
    · go_wp2_with fail
      go_meet
      exact ⟨true, rfl, fun _ => ⟨h1, h1'⟩, rfl⟩
    · go_wp2_with fail
      go_meet
      exact ⟨false, rfl, (fun h => by cases h), rfl⟩
  case rest =>
    obtain ⟨ok, rfl, hok, rfl⟩ := hcut
    go_wp2_with fail
    refine (BY.out A4 n4 c4 l4 C1 A4' n4' c4' o _ P7.out V4.out Q1.out).mono ?_
    intro e w8 hx
    obtain ⟨rfl, hb⟩ := hx
    have B8 := Lib.hid (below_from hb B7.out B7.out.size)
    have P8 := Lib.hid (P7.out.below hb)
    have TP8 := Lib.hid (TP7.out.past hb)
    have cTP8 := TP8.out.cell
    have lTP8 := TP8.out.lt
    have D8 := Lib.hid (D7.out.below hb)
    have TD8 := Lib.hid (TD7.out.past hb)
    have cTD8 := TD8.out.cell
    have lTD8 := TD8.out.lt
    have G8 := Lib.hid (G7.out.below hb)
    have TG8 := Lib.hid (TG7.out.past hb)
    have cTG8 := TG8.out.cell
    have lTG8 := TG8.out.lt
    have N8 := Lib.hid (N7.out.below hb)
    have TN8 := Lib.hid (TN7.out.past hb)
    have cTN8 := TN8.out.cell
    have lTN8 := TN8.out.lt
    clear cTP7 lTP7 cTD7 lTD7 cTG7 lTG7 cTN7 lTN7 hb
    go_wp2_with fail
    refine (BY.out A5 n5 c5 l5 C2 A5' n5' c5' o _ D8.out V5.out Q2.out).mono ?_
    intro e w9 hx
    obtain ⟨rfl, hb⟩ := hx
    have B9 := Lib.hid (below_from hb B8.out B8.out.size)
    have D9 := Lib.hid (D8.out.below hb)
    have TD9 := Lib.hid (TD8.out.past hb)
    have cTD9 := TD9.out.cell
    have lTD9 := TD9.out.lt
    have G9 := Lib.hid (G8.out.below hb)
    have TG9 := Lib.hid (TG8.out.past hb)
    have cTG9 := TG9.out.cell
    have lTG9 := TG9.out.lt
    have N9 := Lib.hid (N8.out.below hb)
    have TN9 := Lib.hid (TN8.out.past hb)
    have cTN9 := TN9.out.cell
    have lTN9 := TN9.out.lt
    clear cTD8 lTD8 cTG8 lTG8 cTN8 lTN8 hb
    go_wp2_with fail
    refine (BY.out A6 n6 c6 l6 C3 A6' n6' c6' o _ G9.out V6.out Q3.out).mono ?_
    intro e w10 hx
    obtain ⟨rfl, hb⟩ := hx
    have B10 := Lib.hid (below_from hb B9.out B9.out.size)
    have G10 := Lib.hid (G9.out.below hb)
    have TG10 := Lib.hid (TG9.out.past hb)
    have cTG10 := TG10.out.cell
    have lTG10 := TG10.out.lt
    have N10 := Lib.hid (N9.out.below hb)
    have TN10 := Lib.hid (TN9.out.past hb)
    have cTN10 := TN10.out.cell
    have lTN10 := TN10.out.lt
    clear cTG9 lTG9 cTN9 lTN9 hb
    go_wp2_with fail
    refine (BY.out A7 n7 c7 l7 C4 A7' n7' c7' o _ N10.out V7.out Q4.out).mono ?_
    intro e w11 hx
    obtain ⟨rfl, hb⟩ := hx
    have B11 := Lib.hid (below_from hb B10.out B10.out.size)
    have N11 := Lib.hid (N10.out.below hb)
    have TN11 := Lib.hid (TN10.out.past hb)
    have cTN11 := TN11.out.cell
    have lTN11 := TN11.out.lt
    clear cTN10 lTN10 hb
    go_upto_region 16 with fail
    go_cut [141] (fun s141 wx => s141 = .bool false ∧ wx = w11)
    case first =>
      rcases HD with ⟨rfl, rfl, rfl⟩ | ⟨rfl, rfl, rfl⟩ | ⟨mE20, nE20, dE20, mE2140, nE2140, dE2140⟩
      all_goals
        cases ok
        · go_wp2_with fail
          go_meet
          exact ⟨rfl, rfl⟩
        · obtain ⟨rfl, rfl⟩ := hok rfl
          go_wp2_with fail
          go_meet
          exact ⟨rfl, rfl⟩
    case rest =>
      obtain ⟨rfl, rfl⟩ := hcut
      go_upto_region 18 with fail
      go_cut [161] (fun s161 wx => s161 = .bool false ∧ wx = wc)
      case first =>
        rcases HG with ⟨rfl, rfl, rfl⟩ | ⟨rfl, rfl, rfl⟩ | ⟨rfl, rfl, rfl⟩ | ⟨mE30, nE30, dE30, mE3140, nE3140, dE3140, mE3141, nE3141, dE3141⟩
        all_goals
          go_wp2_with fail
          go_meet
          exact ⟨rfl, rfl⟩
      case rest =>
        obtain ⟨rfl, rfl⟩ := hcut
        go_upto_region 20 with fail
        rcases HL with ⟨rfl, rfl, rfl⟩ | ⟨rfl, rfl, rfl⟩ | ⟨mE40, nE40, dE40, mE4140, nE4140, dE4140⟩
        all_goals
          go_wp2_with fail
          go_ret
          exact ⟨ret_bool (by first | rfl | simp), B11.out⟩

end Go.Proofs.Ytnnmppnbkplamaa
