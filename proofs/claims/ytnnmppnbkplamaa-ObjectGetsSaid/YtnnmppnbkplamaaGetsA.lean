/- ObjectGets of layer 14: the walk. -/
import Derived.Test.YtnnmppnbkplamaaRDl
import Derived.Test.YtnnmppnbkplamaaApp
import Derived.Test.YtnnmppnbkplamaaLive
import Derived.Test.YtnnmppnbkplamaaRSame
namespace Go.Proofs.Ytnnmppnbkplamaa
open Go.RowKit Go.Shelf

theorem findIdx_at (p : Oc → Bool) : ∀ (L : List Oc), (L.find? p).isSome = true → ∃ h : L.findIdx p < L.length, L.find? p = some L[L.findIdx p]
  | [], h => by simp at h
  | a :: L, h => by
    by_cases ha : p a = true
    · exact ⟨by simp [List.findIdx_cons, ha], by simp [List.findIdx_cons, ha]⟩
    · have h' : (L.find? p).isSome = true := by simpa [List.find?_cons, ha] using h
      obtain ⟨h1, h2⟩ := findIdx_at p L h'
      refine ⟨by simp [List.findIdx_cons, ha, h1], ?_⟩
      rw [List.find?_cons_of_neg ha, h2]
      simp [List.findIdx_cons, ha]
theorem findI_at (s : ByteArray) (l : List Ob) (h : ¬ findI s (l.map Ob.val) < 0) : ∃ k, ∃ hk : k < l.length, findI s (l.map Ob.val) = (k : Int) ∧ findO s (l.map Ob.val) = some l[k].val := by
  have hs : (findO s (l.map Ob.val)).isSome = true := by
    cases hf : findO s (l.map Ob.val) with
    | none => exact absurd ((findI_neg _ _).2 hf) h
    | some x => rfl
  obtain ⟨h1, h2⟩ := findIdx_at (fun x => decide (x.name = s)) (l.map Ob.val) hs
  refine ⟨(l.map Ob.val).findIdx (fun x => decide (x.name = s)), by simpa using h1, by unfold findI; rw [if_pos hs], ?_⟩
  unfold findO
  rw [h2]
  simp
theorem sub_byte (y : UInt8) : (255 - (y.toNat : Int)) % 256 = bits .xor .u8 (y.toNat : Int) 255 := by
  rw [xor_byte]
  have h : ∀ n : Fin 256, (255 - ((n.val : Nat) : Int)) % 256 = ((UInt8.ofNat n.val ^^^ 255).toNat : Int) := by decide +kernel
  have := h ⟨y.toNat, y.toNat_lt⟩
  simpa using this

set_option maxRecDepth 100000 in
set_option maxHeartbeats 4000000 in
theorem rget_out (A : Option Addr) (n c : Nat) (l : List Ob) (calls : Int) (A' : Option Addr) (n' c' : Nat) (fs : List Ft) (s : ByteArray) (w : World) (hl : Obs w A n c l) (hf : Fts w A' n' c' fs) (hsz : s.size ≤ maxLen) (he : mayR (l.map Ob.val) calls fs s ≠ 0) :
    Calls Try.prog 21 #[stV A n c calls A' n' c', .string s] w (S3Res [] 0 [] [] (mayR (l.map Ob.val) calls fs s) w) := by
  obtain ⟨W1, hW1⟩ : ∃ W1, W1 = (w.alloc (.cells #[.slice A n c, .int .i64 calls, .slice A' n' c'] 25)).alloc (.cells #[.slice none 0 0, .int .i64 0, .slice none 0 0] 25) := ⟨_, rfl⟩
  have B1 := Lib.hid (show Below w.heap.size w W1 from by rw [hW1]; exact ((Below.refl _ w).alloc (Nat.le_refl _) _).alloc (by simp) _)
  have z1 : w.heap.size + 2 ≤ W1.heap.size := by rw [hW1]; simp
  have S1 := Lib.hid (show Has W1 w.heap.size #[.slice A n c, .int .i64 calls, .slice A' n' c'] from by rw [hW1]; exact (Has.newAt w _ 25 rfl).alloc _)
  have R1 := Lib.hid (show Has W1 (w.heap.size + 1) #[.slice none 0 0, .int .i64 0, .slice none 0 0] from by rw [hW1]; exact Has.newAt _ _ 25 (by simp))
  have HW := Lib.hid hW1
  have HL := Lib.hid hl
  have HF := Lib.hid hf
  have MY := Lib.hid (rmay_any A n c l calls A' n' c' fs s W1 (hl.below B1.out) (hf.below B1.out) hsz)
  obtain ⟨E, hE⟩ : ∃ E, mayR (l.map Ob.val) calls fs s = E := ⟨_, rfl⟩
  rw [hE] at MY he ⊢
  have m0 : (E == 0) = false := by rw [beq_eq_false_iff_ne]; exact he
  have d0 : decide (E = 0) = false := decide_eq_false he
  clear hl hf hsz hW1 he hE
  go_enter Try.func21, Try.ntmps21
  go_wp2_with fail
  rw [← HW.out]
  refine MY.out.mono ?_
  rintro e w2 ⟨rfl, hb2⟩
  have B2 := Lib.hid (below_from hb2 B1.out B1.out.size)
  have S2 := Lib.hid (S1.out.past hb2)
  have R2 := Lib.hid (R1.out.past hb2)
  have z2 := hb2.size
  have s2c := S2.out.cell
  have s2l := S2.out.lt
  have r2c := R2.out.cell
  have r2f := R2.out.free
  have r2l := R2.out.lt
  clear hb2
  go_wp2_with fail
  have gs := setCells_grown (w.heap.size + 1) [.slice none 0 0, .int .i64 0, .slice none 0 0] 0 w2
  have bw := B2.out.grown gs B2.out.size (fun q hq => by injection hq with hq; omega)
  refine bodyPost_ret (v := .tuple #[stV none 0 0 0 none 0 0, .slice none 0 0, .int .i64 E]) (by simp [results, Try.results21, go_sem, r2c]) rfl ?_
  exact ⟨none, 0, 0, [], none, 0, 0, none, 0, 0, rfl, Sl.nil _ _, rfl, Sl.nil _ _, Sl.nil _ _, Nat.zero_le _, bw⟩

set_option maxRecDepth 100000 in
set_option maxHeartbeats 4000000 in
theorem rget_ok (A : Option Addr) (n c : Nat) (l : List Ob) (calls : Int) (A' : Option Addr) (n' c' : Nat) (fs : List Ft) (s : ByteArray) (w : World) (hl : Obs w A n c l) (hf : Fts w A' n' c' fs) (hsz : s.size ≤ maxLen) (he : mayR (l.map Ob.val) calls fs s = 0) :
    Calls Try.prog 21 #[stV A n c calls A' n' c', .string s] w (S3Res (l.map Ob.val) (calls + 1) fs (getBs (l.map Ob.val) s (faultC calls fs)) (getE (l.map Ob.val) s (faultC calls fs)) w) := by
  obtain ⟨W1, hW1⟩ : ∃ W1, W1 = (w.alloc (.cells #[.slice A n c, .int .i64 calls, .slice A' n' c'] 25)).alloc (.cells #[.slice none 0 0, .int .i64 0, .slice none 0 0] 25) := ⟨_, rfl⟩
  have B1 := Lib.hid (show Below w.heap.size w W1 from by rw [hW1]; exact ((Below.refl _ w).alloc (Nat.le_refl _) _).alloc (by simp) _)
  have z1 : w.heap.size + 2 ≤ W1.heap.size := by rw [hW1]; simp
  have S1 := Lib.hid (show Has W1 w.heap.size #[.slice A n c, .int .i64 calls, .slice A' n' c'] from by rw [hW1]; exact (Has.newAt w _ 25 rfl).alloc _)
  have R1 := Lib.hid (show Has W1 (w.heap.size + 1) #[.slice none 0 0, .int .i64 0, .slice none 0 0] from by rw [hW1]; exact Has.newAt _ _ 25 (by simp))
  have HW := Lib.hid hW1
  have HL := Lib.hid hl
  have HF := Lib.hid hf
  have MY := Lib.hid (rmay_any A n c l calls A' n' c' fs s W1 (hl.below B1.out) (hf.below B1.out) hsz)
  obtain ⟨k1, k2, k3, k4, _, k6, k7⟩ := check_ok (may_ok he).1
  rw [hl.len] at k1
  rw [hf.len] at k2
  have OK := Lib.hid (check_zero (may_ok he).1)
  have CA := Lib.hid (fun w9 (h9 : Below w.heap.size w w9) => rcalled_any A n c l calls A' n' c' fs w9 (hl.below (h9.mono (Nat.le_refl _))) (hf.below h9) k1 k2 k3 k4)
  have FA := Lib.hid (fun w9 (h9 : Below w.heap.size w w9) => rfault_any A n c calls A' n' c' fs w9 (hf.below h9))
  have HE : Hid (mayR (l.map Ob.val) calls fs s = 0) := Lib.hid he
  obtain ⟨ft, hft⟩ : ∃ ft, faultC calls fs = ft := ⟨_, rfl⟩
  have HFT : Hid (ft = 0 ∨ ft = 1 ∨ ft = 2 ∨ ft = 3) := Lib.hid (by
    rcases fault_str k7 with ⟨_, h⟩ | ⟨_, h⟩ <;> rw [hft] at h <;> omega)
  rw [hft] at FA ⊢
  rw [he] at MY
  have FD := Lib.hid (fun w9 (h9 : Below w.heap.size w w9) => rfind_any A n c l calls A' n' c' s w9 (hl.below h9))
  obtain ⟨u0, hu, hu0, hu1, hu2⟩ := info_parts inf5
  have hnm := hl.max
  have hnc := hl.cap
  have HN := Lib.hid hl.len
  have K6 := Lib.hid k6
  clear k7 k6
  clear hl hf hsz hW1 he hft
  go_enter Try.func21, Try.ntmps21
  go_wp2_with fail
  rw [← HW.out]
  refine MY.out.mono ?_
  rintro e w2 ⟨rfl, hb2⟩
  have B2 := Lib.hid (below_from hb2 B1.out B1.out.size)
  have S2 := Lib.hid (S1.out.past hb2)
  have R2 := Lib.hid (R1.out.past hb2)
  have z2 := hb2.size
  have s2c := S2.out.cell
  have s2l := S2.out.lt
  have r2c := R2.out.cell
  have r2f := R2.out.free
  have r2l := R2.out.lt
  clear hb2
  go_wp2_with fail
  refine (FA.out _ B2.out).mono ?_
  rintro e w3 ⟨rfl, hb⟩
  have B3 := Lib.hid (below_from hb B2.out B2.out.size)
  have S3 := Lib.hid (S2.out.past hb)
  have R3 := Lib.hid (R2.out.past hb)
  have z3 := hb.size
  have s3c := S3.out.cell
  have s3l := S3.out.lt
  have r3c := R3.out.cell
  have r3f := R3.out.free
  have r3l := R3.out.lt
  clear hb s2c s2l r2c r2f r2l
  rcases HFT.out with rfl | rfl | rfl | rfl
  · skip
    go_wp2_with fail
    refine (FD.out _ B3.out).mono ?_
    rintro e w4 ⟨rfl, hb⟩
    have B4 := Lib.hid (below_from hb B3.out B3.out.size)
    have S4 := Lib.hid (S3.out.past hb)
    have R4 := Lib.hid (R3.out.past hb)
    have z4 := hb.size
    have s4c := S4.out.cell
    have s4l := S4.out.lt
    have r4c := R4.out.cell
    have r4f := R4.out.free
    have r4l := R4.out.lt
    clear hb s3c s3l r3c r3f r3l
    by_cases hneg : findI s (l.map Ob.val) < 0
    · have FN := Lib.hid ((findI_neg s (l.map Ob.val)).1 hneg)
      obtain ⟨fi, hfi⟩ : ∃ fi, findI s (l.map Ob.val) = fi := ⟨_, rfl⟩
      rw [hfi] at hneg ⊢
      have g9 : decide (fi < 0) = true := decide_eq_true hneg
      clear hfi hneg
      go_wp2_with fail
      refine (CA.out _ B4.out).mono ?_
      intro e w5 hx
      obtain ⟨A2, c2, A3, c3, rfl, hO, hF, hb⟩ := hx
      have B5 := Lib.hid (below_from hb B4.out B4.out.size)
      have S5 := Lib.hid (S4.out.past hb)
      have R5 := Lib.hid (R4.out.past hb)
      have z5 := hb.size
      have s5c := S5.out.cell
      have s5l := S5.out.lt
      have r5c := R5.out.cell
      have r5f := R5.out.free
      have r5l := R5.out.lt
      have O5 := Lib.hid hO
      have F5 := Lib.hid hF
      clear hb s4c s4l r4c r4f r4l hO hF
      go_wp2_with fail
      have gs := setCells_grown (w.heap.size + 1) [.slice A2 n c2, .int .i64 (calls + 1), .slice A3 n' c3] 0 w5
      have bw := B5.out.grown gs B5.out.size (fun q hq => by injection hq with hq; omega)
      refine bodyPost_ret (v := .tuple #[stV A2 n c2 (calls + 1) A3 n' c3, .slice none 0 0, .int .i64 141]) (by simp [results, Try.results21, go_sem, r5c]) rfl ?_
      rw [show getBs (l.map Ob.val) s 0 = [] from by unfold getBs; rw [if_neg (by decide), FN.out]; rfl, show getE (l.map Ob.val) s 0 = 141 from by unfold getE; rw [if_neg (by decide), FN.out]; rfl]
      exact ⟨A2, n, c2, l, A3, n', c3, none, 0, 0, rfl, (O5.out.grown gs (by omega) (fun x hx => (HL.out.each x hx).below bw)).sl, rfl, (F5.out.grown gs (by omega) (fun x hx => F5.out.2.2 x hx)).sl, Sl.nil _ _, Nat.zero_le _, bw⟩
    · obtain ⟨k, hkl, hfi, hfo⟩ := findI_at s l hneg
      rw [hfi]
      have hkn : k < n := by have := HN.out; omega
      obtain ⟨b, off, hkl', rfl, hbl, x0, x1⟩ := Obs.at_ (HL.out.below B4.out) hkn
      have XI := Lib.hid (HL.out.each l[k] (List.getElem_mem hkl))
      have X6 := Lib.hid (K6.out l[k] (List.getElem_mem hkl)).2
      generalize l[k] = x at *
      obtain ⟨xn, xA, xN, xC, xb⟩ := x
      simp only at x0 x1 hfo X6 XI
      have FO := Lib.hid hfo
      have XLEN := Lib.hid (show xb.length = xN from XI.out.sl.len)
      have XMX := XI.out.max
      simp only at XMX
      have x8 : xN ≤ 8192 := by have h1 := X6.out; have h2 := XLEN.out; omega
      have g9 : decide ((k : Int) < 0) = false := decide_eq_false (by omega)
      have i0 : (0 : Int) ≤ (k : Int) := by omega
      have i1 : (k : Int) < (n : Int) := by omega
      clear hfi hfo hneg hkl hkl' x0
      have V4 := Lib.hid (show (w4.alloc (.cells #[] 5)).ownsRow w4.heap.size 5 1 (.slice (some ⟨w4.heap.size, 0, none⟩) 0 0) 0 [] from World.ownsRow_made w4 #[] 0 (Nat.le_refl _) (Nat.zero_le _) (by simp))
      have bv := below_alloc1 w4 (.cells #[] 5)
      have BV := Lib.hid (below_from bv B4.out B4.out.size)
      have SV := Lib.hid (S4.out.past bv)
      have RV := Lib.hid (R4.out.past bv)
      have svc := SV.out.cell
      have svl := SV.out.lt
      have x1v := (bv.cell (p := ⟨b, off + k * 2 + 1, none⟩) hbl).trans x1
      have XS := Lib.hid (XI.out.sl.below BV.out)
      simp only at XS
      have zz : w4.heap.size ≤ (w4.alloc (.cells #[] 5)).heap.size := bv.size
      clear bv
      go_wp2_with (at_builtin; refine wpList_append_sl (K := u8K) _ rfl _ _ 26 rfl w4.heap.size 5 u0 _ 1 Try.underlying26 hu hu0 hu1 hu2 rfl _ _ _ _ rfl V4.out xA xN xC xb rfl XS.out (by unfold maxLen; omega) (by omega) zz ?_)
      intro A5 c5 w5 ho hg _
      have ge4 : ∀ q, some q = (Value.slice (some ⟨w4.heap.size, 0, none⟩) 0 0).ownBlock → w4.heap.size ≤ q := fun q hq => by have hq' : some q = some w4.heap.size := hq; injection hq' with hq'; omega
      have T5 := Lib.hid (show Own u8K 5 w5 w4.heap.size A5 xN c5 xb from ⟨XLEN.out, (by have h := ho; (try simp only [Nat.zero_add, List.nil_append] at h); exact h), fun _ _ => trivial⟩)
      have B5 := Lib.hid (BV.out.grown hg (by have := B4.out.size; omega) (fun q hq => by have h9 := ge4 q hq.symm; have := B4.out.size; omega))
      have S5 := Lib.hid (SV.out.beside hg (fun e => by have h9 := ge4 _ e; have := S4.out.lt; omega))
      have R5 := Lib.hid (RV.out.beside hg (fun e => by have h9 := ge4 _ e; have := R4.out.lt; omega))
      have z5 : w4.heap.size ≤ w5.heap.size := Nat.le_trans zz hg.size
      have s5c := S5.out.cell
      have s5l := S5.out.lt
      have r5c := R5.out.cell
      have r5f := R5.out.free
      have r5l := R5.out.lt
      clear ho hg ge4 V4 svc svl s4c s4l r4c r4f r4l x1 x1v
      go_wp2_with fail
      refine (CA.out _ B5.out).mono ?_
      intro e w6 hx
      obtain ⟨A2, c2, A3, c3, rfl, hO, hF, hb⟩ := hx
      have B6 := Lib.hid (below_from hb B5.out B5.out.size)
      have S6 := Lib.hid (S5.out.past hb)
      have R6 := Lib.hid (R5.out.past hb)
      have z6 := hb.size
      have s6c := S6.out.cell
      have s6l := S6.out.lt
      have r6c := R6.out.cell
      have r6f := R6.out.free
      have r6l := R6.out.lt
      have O6 := Lib.hid hO
      have F6 := Lib.hid hF
      have T6 := Lib.hid (T5.out.kept hb)
      clear hb s5c s5l r5c r5f r5l hO hF
      go_wp2_with fail
      have gs := setCells_grown (w.heap.size + 1) [.slice A2 n c2, .int .i64 (calls + 1), .slice A3 n' c3] 0 w6
      have bw := B6.out.grown gs B6.out.size (fun q hq => by injection hq with hq; omega)
      refine bodyPost_ret (v := .tuple #[stV A2 n c2 (calls + 1) A3 n' c3, .slice A5 xN c5, .int .i64 0]) (by simp [results, Try.results21, go_sem, r6c]) rfl ?_
      rw [show getBs (l.map Ob.val) s 0 = xb from by unfold getBs; rw [if_neg (by decide), FO.out]; rfl, show getE (l.map Ob.val) s 0 = 0 from by unfold getE; rw [if_neg (by decide), FO.out]; rfl]
      exact ⟨A2, n, c2, l, A3, n', c3, A5, xN, c5, rfl, (O6.out.grown gs (by omega) (fun x hx => (HL.out.each x hx).below bw)).sl, rfl, (F6.out.grown gs (by omega) (fun x hx => F6.out.2.2 x hx)).sl, (T6.out.grown gs (by omega) (fun _ _ => trivial)).sl, XMX, bw⟩
  · skip
    go_wp2_with fail
    refine (CA.out _ B3.out).mono ?_
    intro e w4 hx
    obtain ⟨A2, c2, A3, c3, rfl, hO, hF, hb⟩ := hx
    have B4 := Lib.hid (below_from hb B3.out B3.out.size)
    have S4 := Lib.hid (S3.out.past hb)
    have R4 := Lib.hid (R3.out.past hb)
    have z4 := hb.size
    have s4c := S4.out.cell
    have s4l := S4.out.lt
    have r4c := R4.out.cell
    have r4f := R4.out.free
    have r4l := R4.out.lt
    have O4 := Lib.hid hO
    have F4 := Lib.hid hF
    clear hb s3c s3l r3c r3f r3l hO hF
    go_wp2_with fail
    have gs := setCells_grown (w.heap.size + 1) [.slice A2 n c2, .int .i64 (calls + 1), .slice A3 n' c3] 0 w4
    have bw := B4.out.grown gs B4.out.size (fun q hq => by injection hq with hq; omega)
    refine bodyPost_ret (v := .tuple #[stV A2 n c2 (calls + 1) A3 n' c3, .slice none 0 0, .int .i64 140]) (by simp [results, Try.results21, go_sem, r4c]) rfl ?_
    rw [show getBs (l.map Ob.val) s 1 = [] from rfl, show getE (l.map Ob.val) s 1 = 140 from rfl]
    exact ⟨A2, n, c2, l, A3, n', c3, none, 0, 0, rfl, (O4.out.grown gs (by omega) (fun x hx => (HL.out.each x hx).below bw)).sl, rfl, (F4.out.grown gs (by omega) (fun x hx => F4.out.2.2 x hx)).sl, Sl.nil _ _, Nat.zero_le _, bw⟩
  · skip
    go_wp2_with fail
    refine (CA.out _ B3.out).mono ?_
    intro e w4 hx
    obtain ⟨A2, c2, A3, c3, rfl, hO, hF, hb⟩ := hx
    have B4 := Lib.hid (below_from hb B3.out B3.out.size)
    have S4 := Lib.hid (S3.out.past hb)
    have R4 := Lib.hid (R3.out.past hb)
    have z4 := hb.size
    have s4c := S4.out.cell
    have s4l := S4.out.lt
    have r4c := R4.out.cell
    have r4f := R4.out.free
    have r4l := R4.out.lt
    have O4 := Lib.hid hO
    have F4 := Lib.hid hF
    clear hb s3c s3l r3c r3f r3l hO hF
    go_wp2_with fail
    have gs := setCells_grown (w.heap.size + 1) [.slice A2 n c2, .int .i64 (calls + 1), .slice A3 n' c3] 0 w4
    have bw := B4.out.grown gs B4.out.size (fun q hq => by injection hq with hq; omega)
    refine bodyPost_ret (v := .tuple #[stV A2 n c2 (calls + 1) A3 n' c3, .slice none 0 0, .int .i64 140]) (by simp [results, Try.results21, go_sem, r4c]) rfl ?_
    rw [show getBs (l.map Ob.val) s 2 = [] from rfl, show getE (l.map Ob.val) s 2 = 140 from rfl]
    exact ⟨A2, n, c2, l, A3, n', c3, none, 0, 0, rfl, (O4.out.grown gs (by omega) (fun x hx => (HL.out.each x hx).below bw)).sl, rfl, (F4.out.grown gs (by omega) (fun x hx => F4.out.2.2 x hx)).sl, Sl.nil _ _, Nat.zero_le _, bw⟩
  · skip
    go_wp2_with fail
    refine (FD.out _ B3.out).mono ?_
    rintro e w4 ⟨rfl, hb⟩
    have B4 := Lib.hid (below_from hb B3.out B3.out.size)
    have S4 := Lib.hid (S3.out.past hb)
    have R4 := Lib.hid (R3.out.past hb)
    have z4 := hb.size
    have s4c := S4.out.cell
    have s4l := S4.out.lt
    have r4c := R4.out.cell
    have r4f := R4.out.free
    have r4l := R4.out.lt
    clear hb s3c s3l r3c r3f r3l
    by_cases hneg : findI s (l.map Ob.val) < 0
    · have FN := Lib.hid ((findI_neg s (l.map Ob.val)).1 hneg)
      obtain ⟨fi, hfi⟩ : ∃ fi, findI s (l.map Ob.val) = fi := ⟨_, rfl⟩
      rw [hfi] at hneg ⊢
      have g9 : decide (fi < 0) = true := decide_eq_true hneg
      clear hfi hneg
      go_wp2_with fail
      refine (CA.out _ B4.out).mono ?_
      intro e w5 hx
      obtain ⟨A2, c2, A3, c3, rfl, hO, hF, hb⟩ := hx
      have B5 := Lib.hid (below_from hb B4.out B4.out.size)
      have S5 := Lib.hid (S4.out.past hb)
      have R5 := Lib.hid (R4.out.past hb)
      have z5 := hb.size
      have s5c := S5.out.cell
      have s5l := S5.out.lt
      have r5c := R5.out.cell
      have r5f := R5.out.free
      have r5l := R5.out.lt
      have O5 := Lib.hid hO
      have F5 := Lib.hid hF
      clear hb s4c s4l r4c r4f r4l hO hF
      go_wp2_with fail
      have gs := setCells_grown (w.heap.size + 1) [.slice A2 n c2, .int .i64 (calls + 1), .slice A3 n' c3] 0 w5
      have bw := B5.out.grown gs B5.out.size (fun q hq => by injection hq with hq; omega)
      refine bodyPost_ret (v := .tuple #[stV A2 n c2 (calls + 1) A3 n' c3, .slice none 0 0, .int .i64 141]) (by simp [results, Try.results21, go_sem, r5c]) rfl ?_
      rw [show getBs (l.map Ob.val) s 3 = [] from by unfold getBs; rw [if_neg (by decide), FN.out]; rfl, show getE (l.map Ob.val) s 3 = 141 from by unfold getE; rw [if_neg (by decide), FN.out]; rfl]
      exact ⟨A2, n, c2, l, A3, n', c3, none, 0, 0, rfl, (O5.out.grown gs (by omega) (fun x hx => (HL.out.each x hx).below bw)).sl, rfl, (F5.out.grown gs (by omega) (fun x hx => F5.out.2.2 x hx)).sl, Sl.nil _ _, Nat.zero_le _, bw⟩
    · obtain ⟨k, hkl, hfi, hfo⟩ := findI_at s l hneg
      rw [hfi]
      have hkn : k < n := by have := HN.out; omega
      obtain ⟨b, off, hkl', rfl, hbl, x0, x1⟩ := Obs.at_ (HL.out.below B4.out) hkn
      have XI := Lib.hid (HL.out.each l[k] (List.getElem_mem hkl))
      have X6 := Lib.hid (K6.out l[k] (List.getElem_mem hkl)).2
      generalize l[k] = x at *
      obtain ⟨xn, xA, xN, xC, xb⟩ := x
      simp only at x0 x1 hfo X6 XI
      have FO := Lib.hid hfo
      have XLEN := Lib.hid (show xb.length = xN from XI.out.sl.len)
      have XMX := XI.out.max
      simp only at XMX
      have x8 : xN ≤ 8192 := by have h1 := X6.out; have h2 := XLEN.out; omega
      have g9 : decide ((k : Int) < 0) = false := decide_eq_false (by omega)
      have i0 : (0 : Int) ≤ (k : Int) := by omega
      have i1 : (k : Int) < (n : Int) := by omega
      clear hfi hfo hneg hkl hkl' x0
      have V4 := Lib.hid (show (w4.alloc (.cells #[] 5)).ownsRow w4.heap.size 5 1 (.slice (some ⟨w4.heap.size, 0, none⟩) 0 0) 0 [] from World.ownsRow_made w4 #[] 0 (Nat.le_refl _) (Nat.zero_le _) (by simp))
      have bv := below_alloc1 w4 (.cells #[] 5)
      have BV := Lib.hid (below_from bv B4.out B4.out.size)
      have SV := Lib.hid (S4.out.past bv)
      have RV := Lib.hid (R4.out.past bv)
      have svc := SV.out.cell
      have svl := SV.out.lt
      have x1v := (bv.cell (p := ⟨b, off + k * 2 + 1, none⟩) hbl).trans x1
      have XS := Lib.hid (XI.out.sl.below BV.out)
      simp only at XS
      have zz : w4.heap.size ≤ (w4.alloc (.cells #[] 5)).heap.size := bv.size
      clear bv
      go_wp2_with (at_builtin; refine wpList_append_sl (K := u8K) _ rfl _ _ 26 rfl w4.heap.size 5 u0 _ 1 Try.underlying26 hu hu0 hu1 hu2 rfl _ _ _ _ rfl V4.out xA xN xC xb rfl XS.out (by unfold maxLen; omega) (by omega) zz ?_)
      intro A5 c5 w5 ho hg _
      have ge4 : ∀ q, some q = (Value.slice (some ⟨w4.heap.size, 0, none⟩) 0 0).ownBlock → w4.heap.size ≤ q := fun q hq => by have hq' : some q = some w4.heap.size := hq; injection hq' with hq'; omega
      have T5 := Lib.hid (show Own u8K 5 w5 w4.heap.size A5 xN c5 xb from ⟨XLEN.out, (by have h := ho; (try simp only [Nat.zero_add, List.nil_append] at h); exact h), fun _ _ => trivial⟩)
      have B5 := Lib.hid (BV.out.grown hg (by have := B4.out.size; omega) (fun q hq => by have h9 := ge4 q hq.symm; have := B4.out.size; omega))
      have S5 := Lib.hid (SV.out.beside hg (fun e => by have h9 := ge4 _ e; have := S4.out.lt; omega))
      have R5 := Lib.hid (RV.out.beside hg (fun e => by have h9 := ge4 _ e; have := R4.out.lt; omega))
      have z5 : w4.heap.size ≤ w5.heap.size := Nat.le_trans zz hg.size
      have s5c := S5.out.cell
      have s5l := S5.out.lt
      have r5c := R5.out.cell
      have r5f := R5.out.free
      have r5l := R5.out.lt
      clear ho hg ge4 V4 svc svl s4c s4l r4c r4f r4l x1 x1v
      by_cases hx0 : xN = 0
      · subst hx0
        have xb0 : xb = [] := List.length_eq_zero_iff.1 XLEN.out
        have XB0 := Lib.hid xb0
        clear xb0
        go_wp2_with fail
        refine (CA.out _ B5.out).mono ?_
        intro e w6 hx
        obtain ⟨A2, c2, A3, c3, rfl, hO, hF, hb⟩ := hx
        have B6 := Lib.hid (below_from hb B5.out B5.out.size)
        have S6 := Lib.hid (S5.out.past hb)
        have R6 := Lib.hid (R5.out.past hb)
        have z6 := hb.size
        have s6c := S6.out.cell
        have s6l := S6.out.lt
        have r6c := R6.out.cell
        have r6f := R6.out.free
        have r6l := R6.out.lt
        have O6 := Lib.hid hO
        have F6 := Lib.hid hF
        have T6 := Lib.hid (T5.out.kept hb)
        clear hb s5c s5l r5c r5f r5l hO hF
        go_wp2_with fail
        have gs := setCells_grown (w.heap.size + 1) [.slice A2 n c2, .int .i64 (calls + 1), .slice A3 n' c3] 0 w6
        have bw := B6.out.grown gs B6.out.size (fun q hq => by injection hq with hq; omega)
        refine bodyPost_ret (v := .tuple #[stV A2 n c2 (calls + 1) A3 n' c3, .slice A5 0 c5, .int .i64 0]) (by simp [results, Try.results21, go_sem, r6c]) rfl ?_
        rw [show getBs (l.map Ob.val) s 3 = xb from by unfold getBs; rw [if_neg (by decide), FO.out]; show (if (3 : Int) = 3 then torn xb else xb) = xb; rw [if_pos rfl, XB0.out]; rfl, show getE (l.map Ob.val) s 3 = 0 from by unfold getE; rw [if_neg (by decide), FO.out]; rfl]
        exact ⟨A2, n, c2, l, A3, n', c3, A5, 0, c5, rfl, (O6.out.grown gs (by omega) (fun x hx => (HL.out.each x hx).below bw)).sl, rfl, (F6.out.grown gs (by omega) (fun x hx => F6.out.2.2 x hx)).sl, (T6.out.grown gs (by omega) (fun _ _ => trivial)).sl, XMX, bw⟩
      · have xpos : 0 < xN := by omega
        obtain ⟨q, cur, rfl, hqB, hql, hqh, hnc', hcm, hcs, htk⟩ := owns_open T5.out.2.1 xpos
        have hk : xN / 2 < xN := by omega
        obtain ⟨q', o', hxk, e1, _, y0⟩ := T5.out.sl.get hk
        injection e1 with e1
        injection e1 with e1 e2
        subst e1 e2
        have y1 := y0 0 (by decide)
        rw [show 0 + xN / 2 * u8K.size + 0 = xN / 2 by show 0 + xN / 2 * 1 + 0 = _; omega] at y1
        have yf := row_free hqh (xN / 2)
        have yl := hql
        obtain ⟨y, hy⟩ : ∃ y, xb[xN / 2] = y := ⟨_, rfl⟩
        rw [hy] at y1
        replace y1 : w5.cell? ⟨q, xN / 2, none⟩ = some (.int .u8 (y.toNat : Int)) := y1
        have HYY := Lib.hid (show xb[xN / 2]? = some y from by rw [List.getElem?_eq_getElem hxk, hy])
        clear hy hxk y0 hx0
        have pos : decide ((0 : Int) < (xN : Int)) = true := decide_eq_true (by omega)
        have w2' : IntKind.i64.wrap ((xN : Int) / 2) = (xN : Int) / 2 := IntWalk.i64_in _ (by omega)
        have w3' : ((xN : Int) / 2).toNat = xN / 2 := by omega
        have w4' : (0 : Int) ≤ (xN : Int) / 2 := by omega
        have w5' : (xN : Int) / 2 < (xN : Int) := by omega
        go_wp2_with fail
        rw [sub_byte y]
        obtain ⟨W8, hW8⟩ : ∃ W8, W8 = w5.setCell ⟨q, xN / 2, none⟩ (.int .u8 (bits .xor .u8 (y.toNat : Int) 255)) := ⟨_, rfl⟩
        have gq := setCells_grown q [.int .u8 (bits .xor .u8 (y.toNat : Int) 255)] (xN / 2) w5
        replace gq : w5.grownBy W8 (some q) := by rw [hW8]; exact gq
        have B6 := Lib.hid (B5.out.grown gq B5.out.size (fun k hk => by injection hk with hk; omega))
        have S6 := Lib.hid (S5.out.beside gq (fun e => by injection e with e; omega))
        have R6 := Lib.hid (R5.out.beside gq (fun e => by injection e with e; omega))
        have T6 : Hid (Own u8K 5 W8 w4.heap.size (some ⟨q, 0, none⟩) xN c5 (torn xb)) := by
          have hcs' : cur.size = c5 * 1 := hcs
          have tc := torn_cells xb y (by rw [XLEN.out]; exact HYY.out)
          rw [XLEN.out] at tc
          have hh := setCell_heap hqh (by rw [hcs']; omega) (.int .u8 (bits .xor .u8 (y.toNat : Int) 255)) (o := xN / 2)
          rw [← hW8] at hh
          refine ⟨by unfold torn; rw [List.length_modify]; exact XLEN.out, owns_mk hqB hh hnc' hcm (by rw [Array.size_setIfInBounds]; exact hcs) ?_, fun _ _ => trivial⟩
          rw [Array.toList_setIfInBounds, List.take_set, htk, tc]
        have z6 : w4.heap.size ≤ W8.heap.size := Nat.le_trans z5 gq.size
        have s6c := S6.out.cell
        have s6l := S6.out.lt
        have r6c := R6.out.cell
        have r6f := R6.out.free
        have r6l := R6.out.lt
        rw [← hW8]
        clear hW8 gq hqh hnc' hcm hcs htk y1 yf yl s5c s5l r5c r5f r5l
        refine (CA.out _ B6.out).mono ?_
        intro e w7 hx
        obtain ⟨A2, c2, A3, c3, rfl, hO, hF, hb⟩ := hx
        have B7 := Lib.hid (below_from hb B6.out B6.out.size)
        have S7 := Lib.hid (S6.out.past hb)
        have R7 := Lib.hid (R6.out.past hb)
        have z7 := hb.size
        have s7c := S7.out.cell
        have s7l := S7.out.lt
        have r7c := R7.out.cell
        have r7f := R7.out.free
        have r7l := R7.out.lt
        have O7 := Lib.hid hO
        have F7 := Lib.hid hF
        have T7 := Lib.hid (T6.out.kept hb)
        clear hb s6c s6l r6c r6f r6l hO hF
        go_wp2_with fail
        have gs := setCells_grown (w.heap.size + 1) [.slice A2 n c2, .int .i64 (calls + 1), .slice A3 n' c3] 0 w7
        have bw := B7.out.grown gs B7.out.size (fun q hq => by injection hq with hq; omega)
        refine bodyPost_ret (v := .tuple #[stV A2 n c2 (calls + 1) A3 n' c3, .slice (some ⟨q, 0, none⟩) xN c5, .int .i64 0]) (by simp [results, Try.results21, go_sem, r7c]) rfl ?_
        rw [show getBs (l.map Ob.val) s 3 = torn xb from by unfold getBs; rw [if_neg (by decide), FO.out]; rfl, show getE (l.map Ob.val) s 3 = 0 from by unfold getE; rw [if_neg (by decide), FO.out]; rfl]
        exact ⟨A2, n, c2, l, A3, n', c3, some ⟨q, 0, none⟩, xN, c5, rfl, (O7.out.grown gs (by omega) (fun x hx => (HL.out.each x hx).below bw)).sl, rfl, (F7.out.grown gs (by omega) (fun x hx => F7.out.2.2 x hx)).sl, (T7.out.grown gs (by omega) (fun _ _ => trivial)).sl, XMX, bw⟩

/-- The document's Get, whatever it answers. -/
theorem rget_at (A : Option Addr) (n c : Nat) (l : List Ob) (calls : Int) (A' : Option Addr) (n' c' : Nat) (fs : List Ft) (s : ByteArray) (w : World) {L L' : List Oc} {C E : Int} {fs' : List Ft} {bs : List UInt8}
    (hl : Obs w A n c l) (hf : Fts w A' n' c' fs) (hsz : s.size ≤ maxLen) (hv : l.map Ob.val = L) (hp : getR L calls fs s = (⟨L', C, fs'⟩, bs, E)) :
    Calls Try.prog 21 #[stV A n c calls A' n' c', .string s] w (S3Res L' C fs' bs E w) := by
  by_cases he : mayR L calls fs s = 0
  · unfold getR at hp
    rw [if_neg (fun h => h he)] at hp
    injection hp with hp1 hp2
    injection hp1 with h1 h2 h3
    injection hp2 with hp2 hp3
    subst h1 h2 h3 hp2 hp3 hv
    exact rget_ok A n c l calls A' n' c' fs s w hl hf hsz he
  · unfold getR at hp
    rw [if_pos he] at hp
    injection hp with hp1 hp2
    injection hp1 with h1 h2 h3
    injection hp2 with hp2 hp3
    subst h1 h2 h3 hp2 hp3 hv
    exact rget_out A n c l calls A' n' c' fs s w hl hf hsz he


theorem names_snoc (M : List Oc) (x : Oc) (p : ByteArray) : namesO (M ++ [x]) p = namesO M p ++ (if begP x.name p = true then [x.name] else []) := by
  unfold namesO
  rw [List.filter_append, List.map_append]
  congr 1
  cases h : begP x.name p <;> simp [h]

set_option maxRecDepth 100000 in
set_option maxHeartbeats 4000000 in
theorem rlist_out (A : Option Addr) (n c : Nat) (l : List Ob) (calls : Int) (A' : Option Addr) (n' c' : Nat) (fs : List Ft) (s : ByteArray) (w : World) (hl : Obs w A n c l) (hf : Fts w A' n' c' fs) (hsz : s.size ≤ maxLen) (he : mayE (checkO (l.map Ob.val) calls fs) (decide (s.size ≤ 64)) ≠ 0) :
    Calls Try.prog 23 #[stV A n c calls A' n' c', .string s] w (SLRes [] 0 [] [] (mayE (checkO (l.map Ob.val) calls fs) (decide (s.size ≤ 64))) w) := by
  obtain ⟨E, hE⟩ : ∃ E, checkO (l.map Ob.val) calls fs = E := ⟨_, rfl⟩
  rw [hE] at he ⊢
  unfold mayE at he ⊢
  have hss : s.size ≤ 9223372036854775807 := by simpa [maxLen] using hsz
  by_cases h0 : E = 0
  · rw [if_pos h0] at he ⊢
    have h64 : ¬ s.size ≤ 64 := fun h => he (by rw [if_pos (decide_eq_true h)])
    rw [if_neg (by simpa using h64)]
    have d64 : decide ((64 : Int) < (s.size : Int)) = true := decide_eq_true (by omega)
    have d64' : decide (64 < s.size) = true := decide_eq_true (by omega)
    rw [h0] at hE
    obtain ⟨W1, hW1⟩ : ∃ W1, W1 = (w.alloc (.cells #[.slice A n c, .int .i64 calls, .slice A' n' c'] 25)).alloc (.cells #[.slice none 0 0, .int .i64 0, .slice none 0 0] 25) := ⟨_, rfl⟩
    have B1 := Lib.hid (show Below w.heap.size w W1 from by rw [hW1]; exact ((Below.refl _ w).alloc (Nat.le_refl _) _).alloc (by simp) _)
    have z1 : w.heap.size + 2 ≤ W1.heap.size := by rw [hW1]; simp
    have S1 := Lib.hid (show Has W1 w.heap.size #[.slice A n c, .int .i64 calls, .slice A' n' c'] from by rw [hW1]; exact (Has.newAt w _ 25 rfl).alloc _)
    have R1 := Lib.hid (show Has W1 (w.heap.size + 1) #[.slice none 0 0, .int .i64 0, .slice none 0 0] from by rw [hW1]; exact Has.newAt _ _ 25 (by simp))
    have HW := Lib.hid hW1
    have HL := Lib.hid hl
    have HF := Lib.hid hf
    have MY := Lib.hid (rcheck_any A n c l calls A' n' c' fs W1 (hl.below B1.out) (hf.below B1.out))
    rw [hE] at MY
    clear hl hf hsz hW1 he hE h0
    go_enter Try.func23, Try.ntmps23
    go_wp2_with fail
    rw [← HW.out]
    refine MY.out.mono ?_
    rintro e w2 ⟨rfl, hb2⟩
    have B2 := Lib.hid (below_from hb2 B1.out B1.out.size)
    have S2 := Lib.hid (S1.out.past hb2)
    have R2 := Lib.hid (R1.out.past hb2)
    have z2 := hb2.size
    have s2c := S2.out.cell
    have s2l := S2.out.lt
    have r2c := R2.out.cell
    have r2f := R2.out.free
    have r2l := R2.out.lt
    clear hb2
    go_wp2_with fail
    have gs := setCells_grown (w.heap.size + 1) [.slice none 0 0, .int .i64 0, .slice none 0 0] 0 w2
    have bw := B2.out.grown gs B2.out.size (fun q hq => by injection hq with hq; omega)
    refine bodyPost_ret (v := .tuple #[stV none 0 0 0 none 0 0, .slice none 0 0, .int .i64 1]) (by simp [results, Try.results23, go_sem, r2c]) rfl ?_
    exact ⟨none, 0, 0, [], none, 0, 0, none, 0, 0, rfl, Sl.nil _ _, rfl, Sl.nil _ _, Sl.nil _ _, bw⟩
  · rw [if_neg h0] at he ⊢
    have m0 : (E == 0) = false := by rw [beq_eq_false_iff_ne]; exact he
    have d0 : decide (E = 0) = false := decide_eq_false he
    obtain ⟨W1, hW1⟩ : ∃ W1, W1 = (w.alloc (.cells #[.slice A n c, .int .i64 calls, .slice A' n' c'] 25)).alloc (.cells #[.slice none 0 0, .int .i64 0, .slice none 0 0] 25) := ⟨_, rfl⟩
    have B1 := Lib.hid (show Below w.heap.size w W1 from by rw [hW1]; exact ((Below.refl _ w).alloc (Nat.le_refl _) _).alloc (by simp) _)
    have z1 : w.heap.size + 2 ≤ W1.heap.size := by rw [hW1]; simp
    have S1 := Lib.hid (show Has W1 w.heap.size #[.slice A n c, .int .i64 calls, .slice A' n' c'] from by rw [hW1]; exact (Has.newAt w _ 25 rfl).alloc _)
    have R1 := Lib.hid (show Has W1 (w.heap.size + 1) #[.slice none 0 0, .int .i64 0, .slice none 0 0] from by rw [hW1]; exact Has.newAt _ _ 25 (by simp))
    have HW := Lib.hid hW1
    have HL := Lib.hid hl
    have HF := Lib.hid hf
    have MY := Lib.hid (rcheck_any A n c l calls A' n' c' fs W1 (hl.below B1.out) (hf.below B1.out))
    rw [hE] at MY
    clear hl hf hsz hW1 he hE h0
    go_enter Try.func23, Try.ntmps23
    go_wp2_with fail
    rw [← HW.out]
    refine MY.out.mono ?_
    rintro e w2 ⟨rfl, hb2⟩
    have B2 := Lib.hid (below_from hb2 B1.out B1.out.size)
    have S2 := Lib.hid (S1.out.past hb2)
    have R2 := Lib.hid (R1.out.past hb2)
    have z2 := hb2.size
    have s2c := S2.out.cell
    have s2l := S2.out.lt
    have r2c := R2.out.cell
    have r2f := R2.out.free
    have r2l := R2.out.lt
    clear hb2
    go_wp2_with fail
    have gs := setCells_grown (w.heap.size + 1) [.slice none 0 0, .int .i64 0, .slice none 0 0] 0 w2
    have bw := B2.out.grown gs B2.out.size (fun q hq => by injection hq with hq; omega)
    refine bodyPost_ret (v := .tuple #[stV none 0 0 0 none 0 0, .slice none 0 0, .int .i64 E]) (by simp [results, Try.results23, go_sem, r2c]) rfl ?_
    exact ⟨none, 0, 0, [], none, 0, 0, none, 0, 0, rfl, Sl.nil _ _, rfl, Sl.nil _ _, Sl.nil _ _, bw⟩

set_option maxRecDepth 100000 in
set_option maxHeartbeats 4000000 in
theorem rlist_ok (A : Option Addr) (n c : Nat) (l : List Ob) (calls : Int) (A' : Option Addr) (n' c' : Nat) (fs : List Ft) (s : ByteArray) (w : World) (hl : Obs w A n c l) (hf : Fts w A' n' c' fs) (_hsz : s.size ≤ maxLen) (he : mayE (checkO (l.map Ob.val) calls fs) (decide (s.size ≤ 64)) = 0) :
    Calls Try.prog 23 #[stV A n c calls A' n' c', .string s] w (SLRes (l.map Ob.val) (calls + 1) fs (if doneE (faultC calls fs) = 0 then namesO (l.map Ob.val) s else []) (doneE (faultC calls fs)) w) := by
  obtain ⟨W1, hW1⟩ : ∃ W1, W1 = (w.alloc (.cells #[.slice A n c, .int .i64 calls, .slice A' n' c'] 25)).alloc (.cells #[.slice none 0 0, .int .i64 0, .slice none 0 0] 25) := ⟨_, rfl⟩
  have B1 := Lib.hid (show Below w.heap.size w W1 from by rw [hW1]; exact ((Below.refl _ w).alloc (Nat.le_refl _) _).alloc (by simp) _)
  have z1 : w.heap.size + 2 ≤ W1.heap.size := by rw [hW1]; simp
  have S1 := Lib.hid (show Has W1 w.heap.size #[.slice A n c, .int .i64 calls, .slice A' n' c'] from by rw [hW1]; exact (Has.newAt w _ 25 rfl).alloc _)
  have R1 := Lib.hid (show Has W1 (w.heap.size + 1) #[.slice none 0 0, .int .i64 0, .slice none 0 0] from by rw [hW1]; exact Has.newAt _ _ 25 (by simp))
  have HW := Lib.hid hW1
  have HL := Lib.hid hl
  have HF := Lib.hid hf
  have MY := Lib.hid (rcheck_any A n c l calls A' n' c' fs W1 (hl.below B1.out) (hf.below B1.out))
  have hs64 : s.size ≤ 64 := of_decide_eq_true (may_ok he).2
  have d64 : decide ((64 : Int) < (s.size : Int)) = false := decide_eq_false (by omega)
  have d64' : decide (64 < s.size) = false := decide_eq_false (by omega)
  have hck := (may_ok he).1
  have HN := Lib.hid hl.len
  have hnm := hl.max
  have hnc := hl.cap
  obtain ⟨j0, hj, hj0, hj1, hj2⟩ := info_parts inf9
  obtain ⟨k1, k2, k3, k4, _, k6, k7⟩ := check_ok (may_ok he).1
  rw [hl.len] at k1
  rw [hf.len] at k2
  have CA := Lib.hid (fun w9 (h9 : Below w.heap.size w w9) => rcalled_any A n c l calls A' n' c' fs w9 (hl.below (h9.mono (Nat.le_refl _))) (hf.below h9) k1 k2 k3 k4)
  have FA := Lib.hid (fun w9 (h9 : Below w.heap.size w w9) => rfault_any A n c calls A' n' c' fs w9 (hf.below h9))
  obtain ⟨ft, hft⟩ : ∃ ft, faultC calls fs = ft := ⟨_, rfl⟩
  have HFT : Hid (ft = 0 ∨ ft = 1 ∨ ft = 2 ∨ ft = 3) := Lib.hid (by
    rcases fault_str k7 with ⟨_, h⟩ | ⟨_, h⟩ <;> rw [hft] at h <;> omega)
  rw [hft] at FA ⊢
  rw [hck] at MY
  obtain ⟨nms, hnms⟩ : ∃ nms, (if doneE ft = 0 then namesO (l.map Ob.val) s else []) = nms := ⟨_, rfl⟩
  rw [hnms]
  have HNM := Lib.hid hnms
  clear k7 k6 hnms
  clear hl hf hW1 he hft hck
  go_enter Try.func23, Try.ntmps23
  go_wp2_with fail
  rw [← HW.out]
  refine MY.out.mono ?_
  rintro e w2 ⟨rfl, hb2⟩
  have B2 := Lib.hid (below_from hb2 B1.out B1.out.size)
  have S2 := Lib.hid (S1.out.past hb2)
  have R2 := Lib.hid (R1.out.past hb2)
  have z2 := hb2.size
  have s2c := S2.out.cell
  have s2l := S2.out.lt
  have r2c := R2.out.cell
  have r2f := R2.out.free
  have r2l := R2.out.lt
  clear hb2
  go_wp2_with fail
  refine (FA.out _ B2.out).mono ?_
  rintro e w3 ⟨rfl, hb⟩
  have B3 := Lib.hid (below_from hb B2.out B2.out.size)
  have S3 := Lib.hid (S2.out.past hb)
  have R3 := Lib.hid (R2.out.past hb)
  have z3 := hb.size
  have s3c := S3.out.cell
  have s3l := S3.out.lt
  have r3c := R3.out.cell
  have r3f := R3.out.free
  have r3l := R3.out.lt
  clear hb s2c s2l r2c r2f r2l
  rcases HFT.out with rfl | rfl | rfl | rfl
  · skip
    have hn : nms = namesO (l.map Ob.val) s := HNM.out.symm
    subst hn
    clear HNM
    have OWN0 := Lib.hid (World.ownsRow_nil w3 w3.heap.size 9 1)
    go_wp2_with fail
    clear s3c s3l r3c r3f r3l
    go_loopg [8, 9] n (fun gg s8 s9 wr => ∃ (k : Nat) (D2 : Option Addr) (n2 d2 : Nat) (lk : List ByteArray), k ≤ n ∧ n - k ≤ gg ∧ n2 ≤ k ∧ s8 = .slice D2 n2 d2 ∧ s9 = .int .i64 k ∧ Hid (wr.ownsRow w3.heap.size 9 1 (.slice D2 n2 d2) n2 (lk.flatMap strK.cells)) ∧ Hid (lk.length = n2) ∧ Hid (lk = namesO ((l.take k).map Ob.val) s) ∧ Hid (Below w3.heap.size w3 wr))
    case atStart => exact ⟨0, none, 0, 0, [], Nat.zero_le _, by omega, by omega, rfl, rfl, OWN0, rfl, by rw [List.take_zero]; exact Lib.hid rfl, Lib.hid (Below.refl _ _)⟩
    case round =>
      obtain ⟨k, D2, n2, d2, lk, hk, hgg, hn2, rfl, rfl, h1', h2', h3', h4'⟩ := hrel
      have S4 := Lib.hid (S3.out.past h4'.out)
      have R4 := Lib.hid (R3.out.past h4'.out)
      have B4 := Lib.hid (below_from h4'.out B3.out B3.out.size)
      have z4 := h4'.out.size
      have s4c := S4.out.cell
      have s4l := S4.out.lt
      have r4c := R4.out.cell
      have r4f := R4.out.free
      have r4l := R4.out.lt
      by_cases hlt : k < n
      · obtain ⟨b, off, hkl, rfl, hbl, x0, x1⟩ := Obs.at_ (HL.out.below B4.out) hlt
        have TK := Lib.hid (show (l.take (k + 1)).map Ob.val = (l.take k).map Ob.val ++ [l[k].val] from by rw [List.take_succ_eq_append_getElem hkl, List.map_append]; rfl)
        have XN := Lib.hid (HL.out.each l[k] (List.getElem_mem hkl)).nm
        generalize l[k] = x at *
        obtain ⟨xn, xA, xN, xC, xb⟩ := x
        simp only at x0 XN
        simp only [Ob.val] at TK
        have k0 : (0 : Int) ≤ (k : Int) := by omega
        have k1 : (k : Int) < (n : Int) := by omega
        have BG := Lib.hid (fun w9 => begins_any xn s w9 XN.out)
        clear x1 hkl
        go_wp2_with fail
        refine (BG.out _).mono ?_
        rintro e w5 ⟨rfl, rfl⟩
        cases hbp : begP xn s with
        | false =>
          go_wp2_with fail
          go_roundg (n - (k + 1))
          case measure => omega
          case rel => exact ⟨k + 1, D2, n2, d2, lk, by omega, by omega, by omega, rfl, by go_num, h1', h2', Lib.hid (by rw [TK.out, names_snoc, h3'.out, hbp]; simp), h4'⟩
        | true =>
          have bV := below_alloc1 wr (.cells #[.string xn] 9)
          have XB := Lib.hid (Has.newAt wr #[.string xn] 9 (g := wr.heap.size) rfl)
          have OV := Lib.hid (h1'.out.kept (row := none) (grown_of_below bV none) (by cases hv : (Value.ownBlock (.slice D2 n2 d2)) <;> simp))
          have XS := Lib.hid (show Sl strK (wr.alloc (.cells #[.string xn] 9)) (some ⟨wr.heap.size, 0, none⟩) 1 1 [xn] from ⟨rfl, Nat.le_refl _, by omega, fun e => (by cases e), Row.of_has XB.out, fun a ha => by rw [List.mem_singleton.1 ha]; exact XN.out⟩)
          have zV : w3.heap.size ≤ (wr.alloc (.cells #[.string xn] 9)).heap.size := by have := bV.size; omega
          have BV := Lib.hid (show Below w3.heap.size w3 (wr.alloc (.cells #[.string xn] 9)) from h4'.out.trans (bV.mono z4))
          clear bV
          go_wp2_with (at_builtin; refine wpList_append_sl (K := strK) _ rfl _ _ 37 rfl w3.heap.size 9 j0 _ 16 Try.underlying37 hj hj0 hj1 hj2 rfl _ _ _ _ rfl OV.out (some ⟨wr.heap.size, 0, none⟩) 1 1 [xn] rfl XS.out (by unfold maxLen; omega) (by omega) zV ?_)
          intro A5 c5 w6 ho hg _
          have BW := Lib.hid (BV.out.grown hg zV (fun q hq => (OV.out.lt q hq).1))
          have O6 := Lib.hid ho
          clear ho hg s4c s4l r4c r4f r4l x0
          go_wp2_with fail
          go_roundg (n - (k + 1))
          case measure => omega
          case rel => exact ⟨k + 1, A5, n2 + 1, c5, lk ++ [xn], by omega, by omega, by omega, rfl, by go_num, Lib.hid (by rw [List.flatMap_append]; exact O6.out), Lib.hid (by rw [List.length_append, h2'.out]; rfl), Lib.hid (by rw [TK.out, names_snoc, h3'.out, hbp]; rfl), BW⟩
      · obtain rfl : k = n := by omega
        have LK := Lib.hid (show lk = namesO (l.map Ob.val) s from by rw [h3'.out, List.take_of_length_le (by rw [HN.out]; omega)])
        have NMX := Lib.hid (show ∀ x ∈ namesO (l.map Ob.val) s, x.size ≤ maxLen from fun x hx => by
          obtain ⟨y, hy, rfl⟩ := List.mem_map.1 hx
          obtain ⟨z, hz, rfl⟩ := List.mem_map.1 (List.mem_filter.1 hy).1
          exact (HL.out.each z hz).nm)
        have T4 := Lib.hid (show Own strK 9 wr w3.heap.size D2 n2 d2 (namesO (l.map Ob.val) s) from ⟨by rw [← LK.out]; exact h2'.out, by rw [← LK.out]; exact h1'.out, NMX.out⟩)
        go_wp2_with fail
        clear h1' h2' h3' h4'
        have B4 : Hid (Below w.heap.size w wr) := B4
        refine (CA.out _ B4.out).mono ?_
        intro e w5 hx
        obtain ⟨A2, c2, A3, c3, rfl, hO, hF, hb⟩ := hx
        have B5 := Lib.hid (below_from hb B4.out B4.out.size)
        have S5 := Lib.hid (S4.out.past hb)
        have R5 := Lib.hid (R4.out.past hb)
        have z5 := hb.size
        have s5c := S5.out.cell
        have s5l := S5.out.lt
        have r5c := R5.out.cell
        have r5f := R5.out.free
        have r5l := R5.out.lt
        have O5 := Lib.hid hO
        have F5 := Lib.hid hF
        have T5 := Lib.hid (T4.out.kept hb)
        clear hb s4c s4l r4c r4f r4l hO hF
        go_wp2_with fail
        have gs := setCells_grown (w.heap.size + 1) [.slice A2 k c2, .int .i64 (calls + 1), .slice A3 n' c3] 0 w5
        have bw := B5.out.grown gs B5.out.size (fun q hq => by injection hq with hq; omega)
        refine bodyPost_ret (v := .tuple #[stV A2 k c2 (calls + 1) A3 n' c3, .slice D2 n2 d2, .int .i64 0]) (by simp [results, Try.results23, go_sem, r5c]) rfl ?_
        exact ⟨A2, k, c2, l, A3, n', c3, D2, n2, d2, rfl, (O5.out.grown gs (by omega) (fun x hx => (HL.out.each x hx).below bw)).sl, rfl, (F5.out.grown gs (by omega) (fun x hx => F5.out.2.2 x hx)).sl, (T5.out.grown gs (by omega) (fun x hx => T5.out.2.2 x hx)).sl, bw⟩
  · skip
    have hn : nms = [] := HNM.out.symm
    subst hn
    go_wp2_with fail
    refine (CA.out _ B3.out).mono ?_
    intro e w4 hx
    obtain ⟨A2, c2, A3, c3, rfl, hO, hF, hb⟩ := hx
    have B4 := Lib.hid (below_from hb B3.out B3.out.size)
    have S4 := Lib.hid (S3.out.past hb)
    have R4 := Lib.hid (R3.out.past hb)
    have z4 := hb.size
    have s4c := S4.out.cell
    have s4l := S4.out.lt
    have r4c := R4.out.cell
    have r4f := R4.out.free
    have r4l := R4.out.lt
    have O4 := Lib.hid hO
    have F4 := Lib.hid hF
    clear hb s3c s3l r3c r3f r3l hO hF
    go_wp2_with fail
    have gs := setCells_grown (w.heap.size + 1) [.slice A2 n c2, .int .i64 (calls + 1), .slice A3 n' c3] 0 w4
    have bw := B4.out.grown gs B4.out.size (fun q hq => by injection hq with hq; omega)
    refine bodyPost_ret (v := .tuple #[stV A2 n c2 (calls + 1) A3 n' c3, .slice none 0 0, .int .i64 140]) (by simp [results, Try.results23, go_sem, r4c]) rfl ?_
    exact ⟨A2, n, c2, l, A3, n', c3, none, 0, 0, rfl, (O4.out.grown gs (by omega) (fun x hx => (HL.out.each x hx).below bw)).sl, rfl, (F4.out.grown gs (by omega) (fun x hx => F4.out.2.2 x hx)).sl, Sl.nil _ _, bw⟩
  · skip
    have hn : nms = [] := HNM.out.symm
    subst hn
    go_wp2_with fail
    refine (CA.out _ B3.out).mono ?_
    intro e w4 hx
    obtain ⟨A2, c2, A3, c3, rfl, hO, hF, hb⟩ := hx
    have B4 := Lib.hid (below_from hb B3.out B3.out.size)
    have S4 := Lib.hid (S3.out.past hb)
    have R4 := Lib.hid (R3.out.past hb)
    have z4 := hb.size
    have s4c := S4.out.cell
    have s4l := S4.out.lt
    have r4c := R4.out.cell
    have r4f := R4.out.free
    have r4l := R4.out.lt
    have O4 := Lib.hid hO
    have F4 := Lib.hid hF
    clear hb s3c s3l r3c r3f r3l hO hF
    go_wp2_with fail
    have gs := setCells_grown (w.heap.size + 1) [.slice A2 n c2, .int .i64 (calls + 1), .slice A3 n' c3] 0 w4
    have bw := B4.out.grown gs B4.out.size (fun q hq => by injection hq with hq; omega)
    refine bodyPost_ret (v := .tuple #[stV A2 n c2 (calls + 1) A3 n' c3, .slice none 0 0, .int .i64 140]) (by simp [results, Try.results23, go_sem, r4c]) rfl ?_
    exact ⟨A2, n, c2, l, A3, n', c3, none, 0, 0, rfl, (O4.out.grown gs (by omega) (fun x hx => (HL.out.each x hx).below bw)).sl, rfl, (F4.out.grown gs (by omega) (fun x hx => F4.out.2.2 x hx)).sl, Sl.nil _ _, bw⟩
  · skip
    have hn : nms = [] := HNM.out.symm
    subst hn
    go_wp2_with fail
    refine (CA.out _ B3.out).mono ?_
    intro e w4 hx
    obtain ⟨A2, c2, A3, c3, rfl, hO, hF, hb⟩ := hx
    have B4 := Lib.hid (below_from hb B3.out B3.out.size)
    have S4 := Lib.hid (S3.out.past hb)
    have R4 := Lib.hid (R3.out.past hb)
    have z4 := hb.size
    have s4c := S4.out.cell
    have s4l := S4.out.lt
    have r4c := R4.out.cell
    have r4f := R4.out.free
    have r4l := R4.out.lt
    have O4 := Lib.hid hO
    have F4 := Lib.hid hF
    clear hb s3c s3l r3c r3f r3l hO hF
    go_wp2_with fail
    have gs := setCells_grown (w.heap.size + 1) [.slice A2 n c2, .int .i64 (calls + 1), .slice A3 n' c3] 0 w4
    have bw := B4.out.grown gs B4.out.size (fun q hq => by injection hq with hq; omega)
    refine bodyPost_ret (v := .tuple #[stV A2 n c2 (calls + 1) A3 n' c3, .slice none 0 0, .int .i64 140]) (by simp [results, Try.results23, go_sem, r4c]) rfl ?_
    exact ⟨A2, n, c2, l, A3, n', c3, none, 0, 0, rfl, (O4.out.grown gs (by omega) (fun x hx => (HL.out.each x hx).below bw)).sl, rfl, (F4.out.grown gs (by omega) (fun x hx => F4.out.2.2 x hx)).sl, Sl.nil _ _, bw⟩

/-- The document's List, whatever it answers. -/
theorem rlist_at (A : Option Addr) (n c : Nat) (l : List Ob) (calls : Int) (A' : Option Addr) (n' c' : Nat) (fs : List Ft) (s : ByteArray) (w : World) {L L' : List Oc} {C E : Int} {fs' : List Ft} {nms : List ByteArray}
    (hl : Obs w A n c l) (hf : Fts w A' n' c' fs) (hsz : s.size ≤ maxLen) (hv : l.map Ob.val = L) (hp : listR L calls fs s = (⟨L', C, fs'⟩, nms, E)) :
    Calls Try.prog 23 #[stV A n c calls A' n' c', .string s] w (SLRes L' C fs' nms E w) := by
  by_cases he : mayE (checkO L calls fs) (decide (s.size ≤ 64)) = 0
  · unfold listR at hp
    simp only [he] at hp
    rw [if_neg (fun h => h rfl)] at hp
    injection hp with hp1 hp2
    injection hp1 with h1 h2 h3
    injection hp2 with hp2 hp3
    subst h1 h2 h3 hp3 hp2 hv
    exact rlist_ok A n c l calls A' n' c' fs s w hl hf hsz he
  · unfold listR at hp
    simp only at hp
    rw [if_pos he] at hp
    injection hp with hp1 hp2
    injection hp1 with h1 h2 h3
    injection hp2 with hp2 hp3
    subst h1 h2 h3 hp2 hp3 hv
    exact rlist_out A n c l calls A' n' c' fs s w hl hf hsz he


set_option maxHeartbeats 8000000 in
set_option maxRecDepth 100000 in
theorem gets_any (A : Option Addr) (n c : Nat) (l : List Ob) (calls : Int) (A' : Option Addr) (n' c' : Nat) (fs : List Ft) (s p : ByteArray) (w : World) (hl : Obs w A n c l) (hf : Fts w A' n' c' fs) (hsz : s.size ≤ maxLen) (hps : p.size ≤ maxLen) :
    Calls Try.prog 4 #[stV A n c calls A' n' c', .string s, .string p] w fun e w' => e = .returned (.bool true) ∧ Below w.heap.size w w' := by
  obtain ⟨L, hL⟩ : ∃ L, l.map Ob.val = L := ⟨_, rfl⟩
  have V := Lib.hid hL
  obtain ⟨r1, hr1⟩ : ∃ r, getR L calls fs s = r := ⟨_, rfl⟩
  obtain ⟨⟨L1, C1, fs1⟩, z1, E1⟩ := r1
  obtain ⟨r2, hr2⟩ : ∃ r, listR L calls fs p = r := ⟨_, rfl⟩
  obtain ⟨⟨L2, C2, fs2⟩, z2, E2⟩ := r2
  have R1 := Lib.hid hr1
  have R2 := Lib.hid hr2
  clear hr1 hr2
  have RG := Lib.hid rget_at
  have RL := Lib.hid rlist_at
  have SM := Lib.hid sames_any
  have TX := Lib.hid texts_any
  have B0 := Lib.hid (below_alloc1 w (.cells #[.slice A n c, .int .i64 calls, .slice A' n' c'] 25))
  have S0 := Lib.hid (Has.newAt w #[.slice A n c, .int .i64 calls, .slice A' n' c'] 25 (g := w.heap.size) rfl)
  have O0 := Lib.hid (hl.alloc (.cells #[.slice A n c, .int .i64 calls, .slice A' n' c'] 25))
  have F0 := Lib.hid (hf.alloc (.cells #[.slice A n c, .int .i64 calls, .slice A' n' c'] 25))
  have LV := Lib.hid live_any
  have FW := Lib.hid few_any
  have PT := Lib.hid put_at
  have GT := Lib.hid get_at
  have LT := Lib.hid list_at
  have DT := Lib.hid del_at
  have BY := Lib.hid bytes_at
  clear hl hf hL
  go_enter Try.func4, Try.ntmps4
  go_wp2_with fail
  refine (LV.out _).mono ?_
  intro e w1 hx
  obtain ⟨rfl, hb⟩ := hx
  have B1 := Lib.hid (below_from hb B0.out B0.out.size)
  have S1 := Lib.hid (S0.out.past hb)
  have cS1 := S1.out.cell
  have lS1 := S1.out.lt
  have O1 := Lib.hid (O0.out.below hb)
  have F1 := Lib.hid (F0.out.below hb)
  clear hb
  go_wp2_with fail
  refine (FW.out A n c l calls A' n' c' s none 0 0 _ O1.out).mono ?_
  intro e w2 hx
  obtain ⟨⟨bf, rfl⟩, hb⟩ := hx
  have B2 := Lib.hid (below_from hb B1.out B1.out.size)
  have S2 := Lib.hid (S1.out.past hb)
  have cS2 := S2.out.cell
  have lS2 := S2.out.lt
  have O2 := Lib.hid (O1.out.below hb)
  have F2 := Lib.hid (F1.out.below hb)
  clear hb cS1 lS1
  cases bf with
  | false =>
    go_wp2_with fail
    go_ret
    exact ⟨rfl, B2.out⟩
  | true => ?_
  by_cases h2 : 200 < p.size
  · go_wp2_with fail
    go_ret
    exact ⟨rfl, B2.out⟩
  go_wp2_with fail
  refine (GT.out A n c l calls A' n' c' fs s _ O2.out F2.out V.out R1.out).mono ?_
  intro e w4 hx
  obtain ⟨A4, n4, c4, l4, A4', n4', c4', A4x, n4x, c4x, rfl, ho, hv, hf, hs, hm, hb⟩ := hx
  have V4 := Lib.hid hv
  have bk3 := hb.alloc hb.size (.cells #[.slice A4 n4 c4, .int .i64 C1, .slice A4' n4' c4'] 25)
  have B3 := Lib.hid (below_from bk3 B2.out B2.out.size)
  have S3 := Lib.hid (S2.out.past bk3)
  have cS3 := S3.out.cell
  have lS3 := S3.out.lt
  have O3 := Lib.hid (O2.out.below bk3)
  have F3 := Lib.hid (F2.out.below bk3)
  have P3 := Lib.hid ((ho).alloc (.cells #[.slice A4 n4 c4, .int .i64 C1, .slice A4' n4' c4'] 25))
  have PF3 := Lib.hid ((hf).alloc (.cells #[.slice A4 n4 c4, .int .i64 C1, .slice A4' n4' c4'] 25))
  have U3 := Lib.hid ((hs).alloc (.cells #[.slice A4 n4 c4, .int .i64 C1, .slice A4' n4' c4'] 25))
  have TP3 := Lib.hid (Has.newAt w4 #[.slice A4 n4 c4, .int .i64 C1, .slice A4' n4' c4'] 25 (g := w4.heap.size) rfl)
  have cTP3 := TP3.out.cell
  have lTP3 := TP3.out.lt
  clear bk3
  clear cS2 lS2 hb ho hv hf hs hm
  go_wp2_with fail
  refine (RG.out A n c l calls A' n' c' fs s _ O3.out F3.out hsz V.out R1.out).mono ?_
  intro e w5 hx
  obtain ⟨A5, n5, c5, l5, A5', n5', c5', A5x, n5x, c5x, rfl, ho, hv, hf, hs, hm, hb⟩ := hx
  have V5 := Lib.hid hv
  have bk4 := hb.alloc hb.size (.cells #[.slice A5 n5 c5, .int .i64 C1, .slice A5' n5' c5'] 25)
  have B4 := Lib.hid (below_from bk4 B3.out B3.out.size)
  have S4 := Lib.hid (S3.out.past bk4)
  have cS4 := S4.out.cell
  have lS4 := S4.out.lt
  have O4 := Lib.hid (O3.out.below bk4)
  have F4 := Lib.hid (F3.out.below bk4)
  have P4 := Lib.hid (P3.out.below bk4)
  have PF4 := Lib.hid (PF3.out.below bk4)
  have U4 := Lib.hid (U3.out.below bk4)
  have TP4 := Lib.hid (TP3.out.past bk4)
  have cTP4 := TP4.out.cell
  have lTP4 := TP4.out.lt
  have Q4 := Lib.hid ((ho).alloc (.cells #[.slice A5 n5 c5, .int .i64 C1, .slice A5' n5' c5'] 25))
  have QF4 := Lib.hid ((hf).alloc (.cells #[.slice A5 n5 c5, .int .i64 C1, .slice A5' n5' c5'] 25))
  have X4 := Lib.hid ((hs).alloc (.cells #[.slice A5 n5 c5, .int .i64 C1, .slice A5' n5' c5'] 25))
  have TQ4 := Lib.hid (Has.newAt w5 #[.slice A5 n5 c5, .int .i64 C1, .slice A5' n5' c5'] 25 (g := w5.heap.size) rfl)
  have cTQ4 := TQ4.out.cell
  have lTQ4 := TQ4.out.lt
  clear bk4
  clear cS3 lS3 cTP3 lTP3 hb ho hv hf hs hm
  go_wp2_with fail
  refine (LT.out A n c l calls A' n' c' fs p _ O4.out F4.out hps V.out R2.out).mono ?_
  intro e w6 hx
  obtain ⟨A6, n6, c6, l6, A6', n6', c6', A6x, n6x, c6x, rfl, ho, hv, hf, hs, hb⟩ := hx
  have V6 := Lib.hid hv
  have bk5 := hb.alloc hb.size (.cells #[.slice A6 n6 c6, .int .i64 C2, .slice A6' n6' c6'] 25)
  have B5 := Lib.hid (below_from bk5 B4.out B4.out.size)
  have S5 := Lib.hid (S4.out.past bk5)
  have cS5 := S5.out.cell
  have lS5 := S5.out.lt
  have O5 := Lib.hid (O4.out.below bk5)
  have F5 := Lib.hid (F4.out.below bk5)
  have P5 := Lib.hid (P4.out.below bk5)
  have PF5 := Lib.hid (PF4.out.below bk5)
  have U5 := Lib.hid (U4.out.below bk5)
  have TP5 := Lib.hid (TP4.out.past bk5)
  have cTP5 := TP5.out.cell
  have lTP5 := TP5.out.lt
  have Q5 := Lib.hid (Q4.out.below bk5)
  have QF5 := Lib.hid (QF4.out.below bk5)
  have X5 := Lib.hid (X4.out.below bk5)
  have TQ5 := Lib.hid (TQ4.out.past bk5)
  have cTQ5 := TQ5.out.cell
  have lTQ5 := TQ5.out.lt
  have D5 := Lib.hid ((ho).alloc (.cells #[.slice A6 n6 c6, .int .i64 C2, .slice A6' n6' c6'] 25))
  have DF5 := Lib.hid ((hf).alloc (.cells #[.slice A6 n6 c6, .int .i64 C2, .slice A6' n6' c6'] 25))
  have Y5 := Lib.hid ((hs).alloc (.cells #[.slice A6 n6 c6, .int .i64 C2, .slice A6' n6' c6'] 25))
  have TD5 := Lib.hid (Has.newAt w6 #[.slice A6 n6 c6, .int .i64 C2, .slice A6' n6' c6'] 25 (g := w6.heap.size) rfl)
  have cTD5 := TD5.out.cell
  have lTD5 := TD5.out.lt
  clear bk5
  clear cS4 lS4 cTP4 lTP4 cTQ4 lTQ4 hb ho hv hf hs
  go_wp2_with fail
  refine (RL.out A n c l calls A' n' c' fs p _ O5.out F5.out hps V.out R2.out).mono ?_
  intro e w7 hx
  obtain ⟨A7, n7, c7, l7, A7', n7', c7', A7x, n7x, c7x, rfl, ho, hv, hf, hs, hb⟩ := hx
  have V7 := Lib.hid hv
  have bk6 := hb.alloc hb.size (.cells #[.slice A7 n7 c7, .int .i64 C2, .slice A7' n7' c7'] 25)
  have B6 := Lib.hid (below_from bk6 B5.out B5.out.size)
  have S6 := Lib.hid (S5.out.past bk6)
  have cS6 := S6.out.cell
  have lS6 := S6.out.lt
  have O6 := Lib.hid (O5.out.below bk6)
  have F6 := Lib.hid (F5.out.below bk6)
  have P6 := Lib.hid (P5.out.below bk6)
  have PF6 := Lib.hid (PF5.out.below bk6)
  have U6 := Lib.hid (U5.out.below bk6)
  have TP6 := Lib.hid (TP5.out.past bk6)
  have cTP6 := TP6.out.cell
  have lTP6 := TP6.out.lt
  have Q6 := Lib.hid (Q5.out.below bk6)
  have QF6 := Lib.hid (QF5.out.below bk6)
  have X6 := Lib.hid (X5.out.below bk6)
  have TQ6 := Lib.hid (TQ5.out.past bk6)
  have cTQ6 := TQ6.out.cell
  have lTQ6 := TQ6.out.lt
  have D6 := Lib.hid (D5.out.below bk6)
  have DF6 := Lib.hid (DF5.out.below bk6)
  have Y6 := Lib.hid (Y5.out.below bk6)
  have TD6 := Lib.hid (TD5.out.past bk6)
  have cTD6 := TD6.out.cell
  have lTD6 := TD6.out.lt
  have G6 := Lib.hid ((ho).alloc (.cells #[.slice A7 n7 c7, .int .i64 C2, .slice A7' n7' c7'] 25))
  have GF6 := Lib.hid ((hf).alloc (.cells #[.slice A7 n7 c7, .int .i64 C2, .slice A7' n7' c7'] 25))
  have Z6 := Lib.hid ((hs).alloc (.cells #[.slice A7 n7 c7, .int .i64 C2, .slice A7' n7' c7'] 25))
  have TG6 := Lib.hid (Has.newAt w7 #[.slice A7 n7 c7, .int .i64 C2, .slice A7' n7' c7'] 25 (g := w7.heap.size) rfl)
  have cTG6 := TG6.out.cell
  have lTG6 := TG6.out.lt
  clear bk6
  clear cS5 lS5 cTP5 lTP5 cTQ5 lTQ5 cTD5 lTD5 hb ho hv hf hs
  go_wp2_with fail
  refine (SM.out A4 n4 c4 l4 C1 A4' n4' c4' fs1 A5 n5 c5 l5 C1 A5' n5' c5' fs1 _ P6.out PF6.out Q6.out QF6.out).mono ?_
  intro e w8 hx
  obtain ⟨he, hb⟩ := hx
  rw [show sameX (l4.map Ob.val) C1 fs1 (l5.map Ob.val) C1 fs1 = true from by rw [V4.out, V5.out]; simp [sameX]] at he
  subst he
  have B7 := Lib.hid (below_from hb B6.out B6.out.size)
  have S7 := Lib.hid (S6.out.past hb)
  have cS7 := S7.out.cell
  have lS7 := S7.out.lt
  have O7 := Lib.hid (O6.out.below hb)
  have F7 := Lib.hid (F6.out.below hb)
  have P7 := Lib.hid (P6.out.below hb)
  have PF7 := Lib.hid (PF6.out.below hb)
  have U7 := Lib.hid (U6.out.below hb)
  have TP7 := Lib.hid (TP6.out.past hb)
  have cTP7 := TP7.out.cell
  have lTP7 := TP7.out.lt
  have Q7 := Lib.hid (Q6.out.below hb)
  have QF7 := Lib.hid (QF6.out.below hb)
  have X7 := Lib.hid (X6.out.below hb)
  have TQ7 := Lib.hid (TQ6.out.past hb)
  have cTQ7 := TQ7.out.cell
  have lTQ7 := TQ7.out.lt
  have D7 := Lib.hid (D6.out.below hb)
  have DF7 := Lib.hid (DF6.out.below hb)
  have Y7 := Lib.hid (Y6.out.below hb)
  have TD7 := Lib.hid (TD6.out.past hb)
  have cTD7 := TD7.out.cell
  have lTD7 := TD7.out.lt
  have G7 := Lib.hid (G6.out.below hb)
  have GF7 := Lib.hid (GF6.out.below hb)
  have Z7 := Lib.hid (Z6.out.below hb)
  have TG7 := Lib.hid (TG6.out.past hb)
  have cTG7 := TG7.out.cell
  have lTG7 := TG7.out.lt
  clear cS6 lS6 cTP6 lTP6 cTQ6 lTQ6 cTD6 lTD6 cTG6 lTG6 hb
  go_wp2_with fail
  refine (SM.out A6 n6 c6 l6 C2 A6' n6' c6' fs2 A7 n7 c7 l7 C2 A7' n7' c7' fs2 _ D7.out DF7.out G7.out GF7.out).mono ?_
  intro e w9 hx
  obtain ⟨he, hb⟩ := hx
  rw [show sameX (l6.map Ob.val) C2 fs2 (l7.map Ob.val) C2 fs2 = true from by rw [V6.out, V7.out]; simp [sameX]] at he
  subst he
  have B8 := Lib.hid (below_from hb B7.out B7.out.size)
  have S8 := Lib.hid (S7.out.past hb)
  have cS8 := S8.out.cell
  have lS8 := S8.out.lt
  have O8 := Lib.hid (O7.out.below hb)
  have F8 := Lib.hid (F7.out.below hb)
  have U8 := Lib.hid (U7.out.below hb)
  have X8 := Lib.hid (X7.out.below hb)
  have D8 := Lib.hid (D7.out.below hb)
  have DF8 := Lib.hid (DF7.out.below hb)
  have Y8 := Lib.hid (Y7.out.below hb)
  have TD8 := Lib.hid (TD7.out.past hb)
  have cTD8 := TD8.out.cell
  have lTD8 := TD8.out.lt
  have G8 := Lib.hid (G7.out.below hb)
  have GF8 := Lib.hid (GF7.out.below hb)
  have Z8 := Lib.hid (Z7.out.below hb)
  have TG8 := Lib.hid (TG7.out.past hb)
  have cTG8 := TG8.out.cell
  have lTG8 := TG8.out.lt
  clear cS7 lS7 cTD7 lTD7 cTG7 lTG7 hb
  go_wp2_with fail
  refine (TX.out A6x n6x c6x z2 A7x n7x c7x z2 _ Y8.out Z8.out).mono ?_
  intro e w10 hx
  obtain ⟨he, hb⟩ := hx
  rw [show decide (z2 = z2) = true from decide_eq_true rfl] at he
  subst he
  have B9 := Lib.hid (below_from hb B8.out B8.out.size)
  have U9 := Lib.hid (U8.out.below hb)
  have X9 := Lib.hid (X8.out.below hb)
  have Y9 := Lib.hid (Y8.out.below hb)
  have Z9 := Lib.hid (Z8.out.below hb)
  clear hb
  have CV1 := conv_bs (P := Try.prog) U9.out 26 Try.underlying26 Try.underlying5 Try.underlying9
  have CV2 := conv_bs (P := Try.prog) X9.out 26 Try.underlying26 Try.underlying5 Try.underlying9
  go_wp2_with fail
  go_ret
  exact ⟨ret_bool (by first | rfl | simp), B9.out⟩

end Go.Proofs.Ytnnmppnbkplamaa
