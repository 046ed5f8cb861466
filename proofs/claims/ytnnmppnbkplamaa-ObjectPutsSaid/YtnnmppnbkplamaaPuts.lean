/- ObjectPuts of layer 14: the walk. -/
import Derived.Test.YtnnmppnbkplamaaLive
import Derived.Test.YtnnmppnbkplamaaRDl
import Derived.Test.YtnnmppnbkplamaaRSame
namespace Go.Proofs.Ytnnmppnbkplamaa
open Go.RowKit Go.Shelf

set_option maxHeartbeats 8000000 in
set_option maxRecDepth 100000 in
theorem puts_any (A : Option Addr) (n c : Nat) (l : List Ob) (calls : Int) (A' : Option Addr) (n' c' : Nat) (fs : List Ft) (s : ByteArray) (Ab : Option Addr) (mb kb : Nat) (bl : List UInt8) (w : World) (hl : Obs w A n c l) (hf : Fts w A' n' c' fs) (hbl : Sl u8K w Ab mb kb bl) (hsz : s.size ≤ maxLen) (hm : mb ≤ 140737488355328) :
    Calls Try.prog 3 #[stV A n c calls A' n' c', .string s, .slice Ab mb kb] w fun e w' => e = .returned (.bool true) ∧ Below w.heap.size w w' := by
  obtain ⟨L, hL⟩ : ∃ L, l.map Ob.val = L := ⟨_, rfl⟩
  have V := Lib.hid hL
  obtain ⟨r1, hr1⟩ : ∃ r, putR L calls fs s bl = r := ⟨_, rfl⟩
  obtain ⟨⟨L1, C1, fs1⟩, E1⟩ := r1
  obtain ⟨r2, hr2⟩ : ∃ r, delR L calls fs s = r := ⟨_, rfl⟩
  obtain ⟨⟨L2, C2, fs2⟩, E2⟩ := r2
  have R1 := Lib.hid hr1
  have R2 := Lib.hid hr2
  clear hr1 hr2
  have Y0 := Lib.hid (hbl.alloc (.cells #[.slice A n c, .int .i64 calls, .slice A' n' c'] 25))
  have RP := Lib.hid rput_at
  have RD := Lib.hid rdel_at
  have SM := Lib.hid sames_any
  have CK := Lib.hid check_any
  have RC := Lib.hid rcheck_any
  have B0 := Lib.hid (below_alloc1 w (.cells #[.slice A n c, .int .i64 calls, .slice A' n' c'] 25))
  have S0 := Lib.hid (Has.newAt w #[.slice A n c, .int .i64 calls, .slice A' n' c'] 25 (g := w.heap.size) rfl)
  have O0 := Lib.hid (hl.alloc (.cells #[.slice A n c, .int .i64 calls, .slice A' n' c'] 25))
  have F0 := Lib.hid (hf.alloc (.cells #[.slice A n c, .int .i64 calls, .slice A' n' c'] 25))
  have LV := Lib.hid live_any
  have FW := Lib.hid few_any
  have PT := Lib.hid put_at
  have GT := Lib.hid get_at
  have LT := Lib.hid list_at
  have DT := Lib.hid del_at
  have BY := Lib.hid bytes_at
  clear hl hf hbl hL
  go_enter Try.func3, Try.ntmps3
  go_wp2_with fail
  refine (LV.out _).mono ?_
  intro e w1 hx
  obtain ⟨rfl, hb⟩ := hx
  have B1 := Lib.hid (below_from hb B0.out B0.out.size)
  have S1 := Lib.hid (S0.out.past hb)
  have cS1 := S1.out.cell
  have lS1 := S1.out.lt
  have O1 := Lib.hid (O0.out.below hb)
  have F1 := Lib.hid (F0.out.below hb)
  have Y1 := Lib.hid (Y0.out.below hb)
  clear hb
  go_wp2_with fail
  refine (FW.out A n c l calls A' n' c' s Ab mb kb _ O1.out).mono ?_
  intro e w2 hx
  obtain ⟨⟨bf, rfl⟩, hb⟩ := hx
  have B2 := Lib.hid (below_from hb B1.out B1.out.size)
  have S2 := Lib.hid (S1.out.past hb)
  have cS2 := S2.out.cell
  have lS2 := S2.out.lt
  have O2 := Lib.hid (O1.out.below hb)
  have F2 := Lib.hid (F1.out.below hb)
  have Y2 := Lib.hid (Y1.out.below hb)
  clear hb cS1 lS1
  cases bf with
  | false =>
    go_wp2_with fail
    go_ret
    exact ⟨rfl, B2.out⟩
  | true => ?_
  go_wp2_with fail
  refine (PT.out A n c l calls A' n' c' fs s Ab mb kb bl _ O2.out F2.out Y2.out hsz hm V.out R1.out).mono ?_
  intro e w4 hx
  obtain ⟨A4, n4, c4, l4, A4', n4', c4', rfl, ho, hv, hf, hb⟩ := hx
  have V4 := Lib.hid hv
  have bk3 := hb.alloc hb.size (.cells #[.slice A4 n4 c4, .int .i64 C1, .slice A4' n4' c4'] 25)
  have B3 := Lib.hid (below_from bk3 B2.out B2.out.size)
  have S3 := Lib.hid (S2.out.past bk3)
  have cS3 := S3.out.cell
  have lS3 := S3.out.lt
  have O3 := Lib.hid (O2.out.below bk3)
  have F3 := Lib.hid (F2.out.below bk3)
  have Y3 := Lib.hid (Y2.out.below bk3)
  have P3 := Lib.hid ((ho).alloc (.cells #[.slice A4 n4 c4, .int .i64 C1, .slice A4' n4' c4'] 25))
  have PF3 := Lib.hid ((hf).alloc (.cells #[.slice A4 n4 c4, .int .i64 C1, .slice A4' n4' c4'] 25))
  have TP3 := Lib.hid (Has.newAt w4 #[.slice A4 n4 c4, .int .i64 C1, .slice A4' n4' c4'] 25 (g := w4.heap.size) rfl)
  have cTP3 := TP3.out.cell
  have lTP3 := TP3.out.lt
  clear bk3
  clear cS2 lS2 hb ho hv hf
  go_wp2_with fail
  refine (RP.out A n c l calls A' n' c' fs s Ab mb kb bl _ O3.out F3.out hsz Y3.out hm V.out R1.out).mono ?_
  intro e w5 hx
  obtain ⟨A5, n5, c5, l5, A5', n5', c5', rfl, ho, hv, hf, hb⟩ := hx
  have V5 := Lib.hid hv
  have bk4 := hb.alloc hb.size (.cells #[.slice A5 n5 c5, .int .i64 C1, .slice A5' n5' c5'] 25)
  have B4 := Lib.hid (below_from bk4 B3.out B3.out.size)
  have S4 := Lib.hid (S3.out.past bk4)
  have cS4 := S4.out.cell
  have lS4 := S4.out.lt
  have O4 := Lib.hid (O3.out.below bk4)
  have F4 := Lib.hid (F3.out.below bk4)
  have Y4 := Lib.hid (Y3.out.below bk4)
  have P4 := Lib.hid (P3.out.below bk4)
  have PF4 := Lib.hid (PF3.out.below bk4)
  have TP4 := Lib.hid (TP3.out.past bk4)
  have cTP4 := TP4.out.cell
  have lTP4 := TP4.out.lt
  have Q4 := Lib.hid ((ho).alloc (.cells #[.slice A5 n5 c5, .int .i64 C1, .slice A5' n5' c5'] 25))
  have QF4 := Lib.hid ((hf).alloc (.cells #[.slice A5 n5 c5, .int .i64 C1, .slice A5' n5' c5'] 25))
  have TQ4 := Lib.hid (Has.newAt w5 #[.slice A5 n5 c5, .int .i64 C1, .slice A5' n5' c5'] 25 (g := w5.heap.size) rfl)
  have cTQ4 := TQ4.out.cell
  have lTQ4 := TQ4.out.lt
  clear bk4
  clear cS3 lS3 cTP3 lTP3 hb ho hv hf
  go_wp2_with fail
  refine (DT.out A n c l calls A' n' c' fs s _ O4.out F4.out V.out R2.out).mono ?_
  intro e w6 hx
  obtain ⟨A6, n6, c6, l6, A6', n6', c6', rfl, ho, hv, hf, hb⟩ := hx
  have V6 := Lib.hid hv
  have bk5 := hb.alloc hb.size (.cells #[.slice A6 n6 c6, .int .i64 C2, .slice A6' n6' c6'] 25)
  have B5 := Lib.hid (below_from bk5 B4.out B4.out.size)
  have S5 := Lib.hid (S4.out.past bk5)
  have cS5 := S5.out.cell
  have lS5 := S5.out.lt
  have O5 := Lib.hid (O4.out.below bk5)
  have F5 := Lib.hid (F4.out.below bk5)
  have Y5 := Lib.hid (Y4.out.below bk5)
  have P5 := Lib.hid (P4.out.below bk5)
  have PF5 := Lib.hid (PF4.out.below bk5)
  have TP5 := Lib.hid (TP4.out.past bk5)
  have cTP5 := TP5.out.cell
  have lTP5 := TP5.out.lt
  have Q5 := Lib.hid (Q4.out.below bk5)
  have QF5 := Lib.hid (QF4.out.below bk5)
  have TQ5 := Lib.hid (TQ4.out.past bk5)
  have cTQ5 := TQ5.out.cell
  have lTQ5 := TQ5.out.lt
  have D5 := Lib.hid ((ho).alloc (.cells #[.slice A6 n6 c6, .int .i64 C2, .slice A6' n6' c6'] 25))
  have DF5 := Lib.hid ((hf).alloc (.cells #[.slice A6 n6 c6, .int .i64 C2, .slice A6' n6' c6'] 25))
  have TD5 := Lib.hid (Has.newAt w6 #[.slice A6 n6 c6, .int .i64 C2, .slice A6' n6' c6'] 25 (g := w6.heap.size) rfl)
  have cTD5 := TD5.out.cell
  have lTD5 := TD5.out.lt
  clear bk5
  clear cS4 lS4 cTP4 lTP4 cTQ4 lTQ4 hb ho hv hf
  go_wp2_with fail
  refine (RD.out A n c l calls A' n' c' fs s _ O5.out F5.out hsz V.out R2.out).mono ?_
  intro e w7 hx
  obtain ⟨A7, n7, c7, l7, A7', n7', c7', rfl, ho, hv, hf, hb⟩ := hx
  have V7 := Lib.hid hv
  have bk6 := hb.alloc hb.size (.cells #[.slice A7 n7 c7, .int .i64 C2, .slice A7' n7' c7'] 25)
  have B6 := Lib.hid (below_from bk6 B5.out B5.out.size)
  have S6 := Lib.hid (S5.out.past bk6)
  have cS6 := S6.out.cell
  have lS6 := S6.out.lt
  have O6 := Lib.hid (O5.out.below bk6)
  have F6 := Lib.hid (F5.out.below bk6)
  have Y6 := Lib.hid (Y5.out.below bk6)
  have P6 := Lib.hid (P5.out.below bk6)
  have PF6 := Lib.hid (PF5.out.below bk6)
  have TP6 := Lib.hid (TP5.out.past bk6)
  have cTP6 := TP6.out.cell
  have lTP6 := TP6.out.lt
  have Q6 := Lib.hid (Q5.out.below bk6)
  have QF6 := Lib.hid (QF5.out.below bk6)
  have TQ6 := Lib.hid (TQ5.out.past bk6)
  have cTQ6 := TQ6.out.cell
  have lTQ6 := TQ6.out.lt
  have D6 := Lib.hid (D5.out.below bk6)
  have DF6 := Lib.hid (DF5.out.below bk6)
  have TD6 := Lib.hid (TD5.out.past bk6)
  have cTD6 := TD6.out.cell
  have lTD6 := TD6.out.lt
  have G6 := Lib.hid ((ho).alloc (.cells #[.slice A7 n7 c7, .int .i64 C2, .slice A7' n7' c7'] 25))
  have GF6 := Lib.hid ((hf).alloc (.cells #[.slice A7 n7 c7, .int .i64 C2, .slice A7' n7' c7'] 25))
  have TG6 := Lib.hid (Has.newAt w7 #[.slice A7 n7 c7, .int .i64 C2, .slice A7' n7' c7'] 25 (g := w7.heap.size) rfl)
  have cTG6 := TG6.out.cell
  have lTG6 := TG6.out.lt
  clear bk6
  clear cS5 lS5 cTP5 lTP5 cTQ5 lTQ5 cTD5 lTD5 hb ho hv hf
  go_wp2_with fail
  refine (SM.out A4 n4 c4 l4 C1 A4' n4' c4' fs1 A5 n5 c5 l5 C1 A5' n5' c5' fs1 _ P6.out PF6.out Q6.out QF6.out).mono ?_
  intro e w8 hx
  obtain ⟨he, hb⟩ := hx
  rw [show sameX (l4.map Ob.val) C1 fs1 (l5.map Ob.val) C1 fs1 = true from by rw [V4.out, V5.out]; simp [sameX]] at he
  subst he
  have B7 := Lib.hid (below_from hb B6.out B6.out.size)
  have S7 := Lib.hid (S6.out.past hb)
  have cS7 := S7.out.cell
  have lS7 := S7.out.lt
  have O7 := Lib.hid (O6.out.below hb)
  have F7 := Lib.hid (F6.out.below hb)
  have P7 := Lib.hid (P6.out.below hb)
  have PF7 := Lib.hid (PF6.out.below hb)
  have TP7 := Lib.hid (TP6.out.past hb)
  have cTP7 := TP7.out.cell
  have lTP7 := TP7.out.lt
  have Q7 := Lib.hid (Q6.out.below hb)
  have QF7 := Lib.hid (QF6.out.below hb)
  have TQ7 := Lib.hid (TQ6.out.past hb)
  have cTQ7 := TQ7.out.cell
  have lTQ7 := TQ7.out.lt
  have D7 := Lib.hid (D6.out.below hb)
  have DF7 := Lib.hid (DF6.out.below hb)
  have TD7 := Lib.hid (TD6.out.past hb)
  have cTD7 := TD7.out.cell
  have lTD7 := TD7.out.lt
  have G7 := Lib.hid (G6.out.below hb)
  have GF7 := Lib.hid (GF6.out.below hb)
  have TG7 := Lib.hid (TG6.out.past hb)
  have cTG7 := TG7.out.cell
  have lTG7 := TG7.out.lt
  clear cS6 lS6 cTP6 lTP6 cTQ6 lTQ6 cTD6 lTD6 cTG6 lTG6 hb
  go_wp2_with fail
  refine (SM.out A6 n6 c6 l6 C2 A6' n6' c6' fs2 A7 n7 c7 l7 C2 A7' n7' c7' fs2 _ D7.out DF7.out G7.out GF7.out).mono ?_
  intro e w9 hx
  obtain ⟨he, hb⟩ := hx
  rw [show sameX (l6.map Ob.val) C2 fs2 (l7.map Ob.val) C2 fs2 = true from by rw [V6.out, V7.out]; simp [sameX]] at he
  subst he
  have B8 := Lib.hid (below_from hb B7.out B7.out.size)
  have S8 := Lib.hid (S7.out.past hb)
  have cS8 := S8.out.cell
  have lS8 := S8.out.lt
  have O8 := Lib.hid (O7.out.below hb)
  have F8 := Lib.hid (F7.out.below hb)
  have D8 := Lib.hid (D7.out.below hb)
  have DF8 := Lib.hid (DF7.out.below hb)
  have TD8 := Lib.hid (TD7.out.past hb)
  have cTD8 := TD8.out.cell
  have lTD8 := TD8.out.lt
  have G8 := Lib.hid (G7.out.below hb)
  have GF8 := Lib.hid (GF7.out.below hb)
  have TG8 := Lib.hid (TG7.out.past hb)
  have cTG8 := TG8.out.cell
  have lTG8 := TG8.out.lt
  clear cS7 lS7 cTD7 lTD7 cTG7 lTG7 hb
  have r0 := at_regrown (a := ⟨w.heap.size, 0, none⟩) (v := .slice A n c) (S8.out.cell 0)
  have r1 := at_regrown (a := ⟨w.heap.size, 1, none⟩) (v := .int .i64 calls) (S8.out.cell 1)
  have r2 := at_regrown (a := ⟨w.heap.size, 2, none⟩) (v := .slice A' n' c') (S8.out.cell 2)
  have e1 : decide (E1 = E1) = true := decide_eq_true rfl
  have e2 : decide (E2 = E2) = true := decide_eq_true rfl
  have CKZ := Lib.hid (fun w' (h : Below w9.heap.size w9 w') => check_any A n c l calls A' n' c' fs w' (O8.out.below h) (F8.out.below h))
  have RCZ := Lib.hid (fun w' (h : Below w9.heap.size w9 w') => rcheck_any A n c l calls A' n' c' fs w' (O8.out.below h) (F8.out.below h))
  obtain ⟨ck, hck⟩ : ∃ ck, checkO (l.map Ob.val) calls fs = ck := ⟨_, rfl⟩
  rw [hck] at CKZ RCZ
  have e3 : decide (ck = ck) = true := decide_eq_true rfl
  clear hck
  go_wp2_with fail
  refine region_below (by kernel_rfl) (by kernel_rfl) ?_
  repeat (go_big_quiet_step (first | (go_at_call 18; exact call_regrown CKZ.out) | (go_at_call 19; exact call_regrown RCZ.out)))
  refine wpQuiet_nil ?_
  intro w10 hb10
  have B10 := Lib.hid (below_from hb10 B8.out B8.out.size)
  clear r0 r1 r2 hb10
  go_wp2_with fail
  go_ret
  exact ⟨ret_bool (by first | rfl | simp), B10.out⟩

end Go.Proofs.Ytnnmppnbkplamaa
