/- live: the chapter's example. -/
import Derived.Test.YtnnmppnbkplamaaSmall
namespace Go.Proofs.Ytnnmppnbkplamaa
open Go.RowKit Go.Shelf

def nmA : ByteArray := ⟨#[97]⟩
def nmB : ByteArray := ⟨#[98]⟩
theorem lv1 : putR [] 0 [⟨0, 3⟩] ⟨#[97]⟩ [1, 2, 3] = (⟨[⟨⟨#[97]⟩, [1]⟩], 1, [⟨0, 3⟩]⟩, 140) := by decide +kernel
theorem lv2 : getR [⟨⟨#[97]⟩, [1]⟩] 1 [⟨0, 3⟩] ⟨#[97]⟩ = (⟨[⟨⟨#[97]⟩, [1]⟩], 2, [⟨0, 3⟩]⟩, [1], 0) := by decide +kernel
theorem lv3 : getR [⟨⟨#[97]⟩, [1]⟩] 2 [⟨0, 3⟩] ⟨#[98]⟩ = (⟨[⟨⟨#[97]⟩, [1]⟩], 3, [⟨0, 3⟩]⟩, [], 141) := by decide +kernel
theorem lv4 : putR [⟨⟨#[97]⟩, [1]⟩] 3 [⟨0, 3⟩] ⟨#[98]⟩ [9] = (⟨[⟨⟨#[97]⟩, [1]⟩, ⟨⟨#[98]⟩, [9]⟩], 4, [⟨0, 3⟩]⟩, 0) := by decide +kernel
theorem lv5 : listR [⟨⟨#[97]⟩, [1]⟩, ⟨⟨#[98]⟩, [9]⟩] 4 [⟨0, 3⟩] ⟨#[]⟩ = (⟨[⟨⟨#[97]⟩, [1]⟩, ⟨⟨#[98]⟩, [9]⟩], 5, [⟨0, 3⟩]⟩, [⟨#[97]⟩, ⟨#[98]⟩], 0) := by decide +kernel
theorem lv6 : delR [⟨⟨#[97]⟩, [1]⟩, ⟨⟨#[98]⟩, [9]⟩] 4 [⟨0, 3⟩] ⟨#[97]⟩ = (⟨[⟨⟨#[98]⟩, [9]⟩], 5, [⟨0, 3⟩]⟩, 0) := by decide +kernel
theorem lv7 : checkO [⟨⟨#[97]⟩, [1]⟩, ⟨⟨#[98]⟩, [9]⟩] 4 [⟨0, 3⟩] = 0 := by decide +kernel
theorem lv8 : checkO [] (-1) [] = 1 := by decide +kernel

theorem sl_bytes {w : World} {g n : Nat} {l : List UInt8} (h : Has w g (l.map byteV).toArray) (hn : l.length = n) (hm : n ≤ 9223372036854775807) : Sl u8K w (some ⟨g, 0, none⟩) n n l :=
  ⟨hn, Nat.le_refl _, hm, fun e => (by cases e), by rw [flat_u8]; simpa using Row.of_has h, fun _ _ => trivial⟩
theorem sl_strs {w : World} {g n : Nat} {l : List ByteArray} (h : Has w g (l.map Value.string).toArray) (hn : l.length = n) (hm : n ≤ 9223372036854775807) (hs : ∀ a ∈ l, a.size ≤ maxLen) : Sl strK w (some ⟨g, 0, none⟩) n n l :=
  ⟨hn, Nat.le_refl _, hm, fun e => (by cases e), by rw [flat_str]; simpa using Row.of_has h, hs⟩
theorem fts_one {w : World} {g : Nat} {f : Ft} (h : Has w g #[.int .i64 f.call, .int .i64 f.kind]) (hw : f.wf) : Fts w (some ⟨g, 0, none⟩) 1 1 [f] :=
  ⟨rfl, Nat.le_refl _, by omega, fun e => (by cases e), Row.of_has h, fun a ha => by rw [List.mem_singleton.1 ha]; exact hw⟩

set_option maxHeartbeats 8000000 in
set_option maxRecDepth 100000 in
theorem live_any (w : World) : Calls Try.prog 11 #[] w fun e w' => e = .returned (.bool true) ∧ Below w.heap.size w w' := by
  have PT := Lib.hid put_at
  have GT := Lib.hid get_at
  have LT := Lib.hid list_at
  have DT := Lib.hid del_at
  have TX := Lib.hid texts_any
  have CK := Lib.hid check_any
  have B0 := Lib.hid (Below.refl w.heap.size w)
  have z0 : w.heap.size ≤ w.heap.size := Nat.le_refl _
  obtain ⟨W1, hW1⟩ : ∃ W1, W1 = ((w.alloc (.cells #[.int .i64 0, .int .i64 3] 48)).alloc (.cells #[.slice none 0 0, .int .i64 0, .slice (some ⟨w.heap.size, 0, none⟩) 1 1] 25)).alloc (.cells #[.int .u8 1, .int .u8 2, .int .u8 3] 5) := ⟨_, rfl⟩
  have bw : Below w.heap.size w W1 := by rw [hW1]; exact (((Below.refl _ w).alloc (Nat.le_refl _) _).alloc (by simp) _).alloc (by simp <;> omega) _
  have B1 := Lib.hid (below_from bw B0.out B0.out.size)
  have F01 := Lib.hid (fts_one (f := ⟨0, 3⟩) (w := W1) (g := w.heap.size) (by rw [hW1]; exact ((Has.newAt w _ 48 rfl).alloc _).alloc _) ⟨rfl, rfl⟩)
  have Y01 := Lib.hid (sl_bytes (l := [1, 2, 3]) (n := 3) (w := W1) (g := w.heap.size + 2) (by rw [hW1]; exact Has.newAt _ _ 5 (by simp)) rfl (by omega))
  have HW := Lib.hid hW1
  clear hW1 bw z0
  go_enter Try.func11, Try.ntmps11
  go_wp2_with fail
  rw [← HW.out]
  refine (PT.out none 0 0 [] 0 (some ⟨w.heap.size, 0, none⟩) 1 1 [⟨0, 3⟩] ⟨#[97]⟩ (some ⟨w.heap.size + 2, 0, none⟩) 3 3 [1, 2, 3] W1 (Sl.nil _ _) F01.out Y01.out (by decide) (by omega) rfl lv1).mono ?_
  intro e w1 hx
  obtain ⟨A1, n1, c1, l1, A1', n1', c1', rfl, ho, hv, hf, hb⟩ := hx
  have V1 := Lib.hid hv
  have e1 : n1 = 1 := by rw [← ho.len, ← List.length_map (f := Ob.val), hv]; rfl
  subst e1
  have bk2 := hb.alloc hb.size (.cells #[.slice A1 1 c1, .int .i64 1, .slice A1' n1' c1'] 25)
  have B2 := Lib.hid (below_from bk2 B1.out B1.out.size)
  have F02 := Lib.hid (F01.out.below bk2)
  have Y02 := Lib.hid (Y01.out.below bk2)
  have O12 := Lib.hid ((ho).alloc (.cells #[.slice A1 1 c1, .int .i64 1, .slice A1' n1' c1'] 25))
  have F12 := Lib.hid ((hf).alloc (.cells #[.slice A1 1 c1, .int .i64 1, .slice A1' n1' c1'] 25))
  have S12 := Lib.hid (Has.newAt w1 #[.slice A1 1 c1, .int .i64 1, .slice A1' n1' c1'] 25 (g := w1.heap.size) rfl)
  have cS12 := S12.out.cell
  have lS12 := S12.out.lt
  clear bk2
  clear hb ho hf hv
  go_wp2_with fail
  refine (GT.out A1 1 c1 l1 1 A1' n1' c1' [⟨0, 3⟩] ⟨#[97]⟩ _ O12.out F12.out V1.out lv2).mono ?_
  intro e w2 hx
  obtain ⟨A2, n2, c2, l2, A2', n2', c2', A2x, n2x, c2x, rfl, ho, hv, hf, hs, hm, hb⟩ := hx
  have V2 := Lib.hid hv
  have e2 : n2 = 1 := by rw [← ho.len, ← List.length_map (f := Ob.val), hv]; rfl
  subst e2
  have bk3 := hb.alloc hb.size (.cells #[.slice A2 1 c2, .int .i64 2, .slice A2' n2' c2'] 25)
  have B3 := Lib.hid (below_from bk3 B2.out B2.out.size)
  have O13 := Lib.hid (O12.out.below bk3)
  have F13 := Lib.hid (F12.out.below bk3)
  have S13 := Lib.hid (S12.out.past bk3)
  have cS13 := S13.out.cell
  have lS13 := S13.out.lt
  have O23 := Lib.hid ((ho).alloc (.cells #[.slice A2 1 c2, .int .i64 2, .slice A2' n2' c2'] 25))
  have F23 := Lib.hid ((hf).alloc (.cells #[.slice A2 1 c2, .int .i64 2, .slice A2' n2' c2'] 25))
  have X23 := Lib.hid ((hs).alloc (.cells #[.slice A2 1 c2, .int .i64 2, .slice A2' n2' c2'] 25))
  have S23 := Lib.hid (Has.newAt w2 #[.slice A2 1 c2, .int .i64 2, .slice A2' n2' c2'] 25 (g := w2.heap.size) rfl)
  have cS23 := S23.out.cell
  have lS23 := S23.out.lt
  clear bk3
  clear cS12 lS12 hb ho hf hv hs hm
  go_wp2_with fail
  refine (GT.out A2 1 c2 l2 2 A2' n2' c2' [⟨0, 3⟩] ⟨#[98]⟩ _ O23.out F23.out V2.out lv3).mono ?_
  intro e w3 hx
  obtain ⟨A3, n3, c3, l3, A3', n3', c3', A3x, n3x, c3x, rfl, ho, hv, hf, hs, hm, hb⟩ := hx
  have V3 := Lib.hid hv
  have e3 : n3 = 1 := by rw [← ho.len, ← List.length_map (f := Ob.val), hv]; rfl
  subst e3
  have bk4 := hb.alloc hb.size (.cells #[.slice A3 1 c3, .int .i64 3, .slice A3' n3' c3'] 25)
  have B4 := Lib.hid (below_from bk4 B3.out B3.out.size)
  have S14 := Lib.hid (S13.out.past bk4)
  have cS14 := S14.out.cell
  have lS14 := S14.out.lt
  have O24 := Lib.hid (O23.out.below bk4)
  have F24 := Lib.hid (F23.out.below bk4)
  have X24 := Lib.hid (X23.out.below bk4)
  have S24 := Lib.hid (S23.out.past bk4)
  have cS24 := S24.out.cell
  have lS24 := S24.out.lt
  have O34 := Lib.hid ((ho).alloc (.cells #[.slice A3 1 c3, .int .i64 3, .slice A3' n3' c3'] 25))
  have F34 := Lib.hid ((hf).alloc (.cells #[.slice A3 1 c3, .int .i64 3, .slice A3' n3' c3'] 25))
  have S34 := Lib.hid (Has.newAt w3 #[.slice A3 1 c3, .int .i64 3, .slice A3' n3' c3'] 25 (g := w3.heap.size) rfl)
  have cS34 := S34.out.cell
  have lS34 := S34.out.lt
  clear bk4
  clear cS13 lS13 cS23 lS23 hb ho hf hv hs hm
  go_wp2_with fail
  have bk5 := below_alloc1 (w3.alloc (.cells #[.slice A3 1 c3, .int .i64 3, .slice A3' n3' c3'] 25)) (.cells #[.int .u8 9] 5)
  have B5 := Lib.hid (below_from bk5 B4.out B4.out.size)
  have S15 := Lib.hid (S14.out.past bk5)
  have cS15 := S15.out.cell
  have lS15 := S15.out.lt
  have X25 := Lib.hid (X24.out.below bk5)
  have O35 := Lib.hid (O34.out.below bk5)
  have F35 := Lib.hid (F34.out.below bk5)
  have S35 := Lib.hid (S34.out.past bk5)
  have cS35 := S35.out.cell
  have lS35 := S35.out.lt
  have N95 := Lib.hid (Has.newAt (w3.alloc (.cells #[.slice A3 1 c3, .int .i64 3, .slice A3' n3' c3'] 25)) #[.int .u8 9] 5 (g := w3.heap.size + 1) (by simp))
  clear cS14 lS14 cS34 lS34 bk5
  refine (PT.out A3 1 c3 l3 3 A3' n3' c3' [⟨0, 3⟩] ⟨#[98]⟩ _ 1 1 [9] _ O35.out F35.out (sl_bytes (l := [9]) N95.out rfl (by omega)) (by decide) (by omega) V3.out lv4).mono ?_
  intro e w4 hx
  obtain ⟨A4, n4, c4, l4, A4', n4', c4', rfl, ho, hv, hf, hb⟩ := hx
  have V4 := Lib.hid hv
  have e4 : n4 = 2 := by rw [← ho.len, ← List.length_map (f := Ob.val), hv]; rfl
  subst e4
  have bk6 := hb.alloc hb.size (.cells #[.slice A4 2 c4, .int .i64 4, .slice A4' n4' c4'] 25)
  have B6 := Lib.hid (below_from bk6 B5.out B5.out.size)
  have S16 := Lib.hid (S15.out.past bk6)
  have cS16 := S16.out.cell
  have lS16 := S16.out.lt
  have X26 := Lib.hid (X25.out.below bk6)
  have O36 := Lib.hid (O35.out.below bk6)
  have F36 := Lib.hid (F35.out.below bk6)
  have S36 := Lib.hid (S35.out.past bk6)
  have cS36 := S36.out.cell
  have lS36 := S36.out.lt
  have N96 := Lib.hid (N95.out.past bk6)
  have O46 := Lib.hid ((ho).alloc (.cells #[.slice A4 2 c4, .int .i64 4, .slice A4' n4' c4'] 25))
  have F46 := Lib.hid ((hf).alloc (.cells #[.slice A4 2 c4, .int .i64 4, .slice A4' n4' c4'] 25))
  have S46 := Lib.hid (Has.newAt w4 #[.slice A4 2 c4, .int .i64 4, .slice A4' n4' c4'] 25 (g := w4.heap.size) rfl)
  have cS46 := S46.out.cell
  have lS46 := S46.out.lt
  clear bk6
  clear cS15 lS15 cS35 lS35 hb ho hf hv
  go_wp2_with fail
  refine (LT.out A4 2 c4 l4 4 A4' n4' c4' [⟨0, 3⟩] ⟨#[]⟩ _ O46.out F46.out (by decide) V4.out lv5).mono ?_
  intro e w5 hx
  obtain ⟨A5, n5, c5, l5, A5', n5', c5', A5x, n5x, c5x, rfl, ho, hv, hf, hs, hb⟩ := hx
  have V5 := Lib.hid hv
  have e5 : n5 = 2 := by rw [← ho.len, ← List.length_map (f := Ob.val), hv]; rfl
  subst e5
  have bk7 := hb.alloc hb.size (.cells #[.slice A5 2 c5, .int .i64 5, .slice A5' n5' c5'] 25)
  have B7 := Lib.hid (below_from bk7 B6.out B6.out.size)
  have S17 := Lib.hid (S16.out.past bk7)
  have cS17 := S17.out.cell
  have lS17 := S17.out.lt
  have X27 := Lib.hid (X26.out.below bk7)
  have S37 := Lib.hid (S36.out.past bk7)
  have cS37 := S37.out.cell
  have lS37 := S37.out.lt
  have O47 := Lib.hid (O46.out.below bk7)
  have F47 := Lib.hid (F46.out.below bk7)
  have S47 := Lib.hid (S46.out.past bk7)
  have cS47 := S47.out.cell
  have lS47 := S47.out.lt
  have L57 := Lib.hid ((hs).alloc (.cells #[.slice A5 2 c5, .int .i64 5, .slice A5' n5' c5'] 25))
  have S57 := Lib.hid (Has.newAt w5 #[.slice A5 2 c5, .int .i64 5, .slice A5' n5' c5'] 25 (g := w5.heap.size) rfl)
  have cS57 := S57.out.cell
  have lS57 := S57.out.lt
  clear bk7
  clear cS16 lS16 cS36 lS36 cS46 lS46 hb ho hf hv
  go_wp2_with fail
  refine (DT.out A4 2 c4 l4 4 A4' n4' c4' [⟨0, 3⟩] ⟨#[97]⟩ _ O47.out F47.out V4.out lv6).mono ?_
  intro e w6 hx
  obtain ⟨A6, n6, c6, l6, A6', n6', c6', rfl, ho, hv, hf, hb⟩ := hx
  have V6 := Lib.hid hv
  have e6 : n6 = 1 := by rw [← ho.len, ← List.length_map (f := Ob.val), hv]; rfl
  subst e6
  have bk8 := hb.alloc hb.size (.cells #[.slice A6 1 c6, .int .i64 5, .slice A6' n6' c6'] 25)
  have B8 := Lib.hid (below_from bk8 B7.out B7.out.size)
  have S18 := Lib.hid (S17.out.past bk8)
  have cS18 := S18.out.cell
  have lS18 := S18.out.lt
  have X28 := Lib.hid (X27.out.below bk8)
  have S38 := Lib.hid (S37.out.past bk8)
  have cS38 := S38.out.cell
  have lS38 := S38.out.lt
  have O48 := Lib.hid (O47.out.below bk8)
  have F48 := Lib.hid (F47.out.below bk8)
  have S48 := Lib.hid (S47.out.past bk8)
  have cS48 := S48.out.cell
  have lS48 := S48.out.lt
  have L58 := Lib.hid (L57.out.below bk8)
  have S68 := Lib.hid (Has.newAt w6 #[.slice A6 1 c6, .int .i64 5, .slice A6' n6' c6'] 25 (g := w6.heap.size) rfl)
  have cS68 := S68.out.cell
  have lS68 := S68.out.lt
  clear bk8
  clear cS17 lS17 cS37 lS37 cS47 lS47 hb ho hf hv
  go_wp2_with fail
  have bk9 := below_alloc1 (w6.alloc (.cells #[.slice A6 1 c6, .int .i64 5, .slice A6' n6' c6'] 25)) (.cells #[.string ⟨#[97]⟩, .string ⟨#[98]⟩] 9)
  have B9 := Lib.hid (below_from bk9 B8.out B8.out.size)
  have S19 := Lib.hid (S18.out.past bk9)
  have cS19 := S19.out.cell
  have lS19 := S19.out.lt
  have X29 := Lib.hid (X28.out.below bk9)
  have S39 := Lib.hid (S38.out.past bk9)
  have cS39 := S39.out.cell
  have lS39 := S39.out.lt
  have O49 := Lib.hid (O48.out.below bk9)
  have F49 := Lib.hid (F48.out.below bk9)
  have S49 := Lib.hid (S48.out.past bk9)
  have cS49 := S49.out.cell
  have lS49 := S49.out.lt
  have L59 := Lib.hid (L58.out.below bk9)
  have S69 := Lib.hid (S68.out.past bk9)
  have cS69 := S69.out.cell
  have lS69 := S69.out.lt
  have T89 := Lib.hid (Has.newAt (w6.alloc (.cells #[.slice A6 1 c6, .int .i64 5, .slice A6' n6' c6'] 25)) #[.string ⟨#[97]⟩, .string ⟨#[98]⟩] 9 (g := w6.heap.size + 1) (by simp))
  clear cS18 lS18 cS38 lS38 cS48 lS48 cS68 lS68 bk9
  refine (TX.out A5x n5x c5x _ _ 2 2 [⟨#[97]⟩, ⟨#[98]⟩] _ L59.out (sl_strs T89.out rfl (by omega) (by decide))).mono ?_
  intro e w7 hx
  obtain ⟨rfl, hb⟩ := hx
  have B10 := Lib.hid (below_from hb B9.out B9.out.size)
  have S110 := Lib.hid (S19.out.past hb)
  have cS110 := S110.out.cell
  have lS110 := S110.out.lt
  have X210 := Lib.hid (X29.out.below hb)
  have S310 := Lib.hid (S39.out.past hb)
  have cS310 := S310.out.cell
  have lS310 := S310.out.lt
  have O410 := Lib.hid (O49.out.below hb)
  have F410 := Lib.hid (F49.out.below hb)
  have S410 := Lib.hid (S49.out.past hb)
  have cS410 := S410.out.cell
  have lS410 := S410.out.lt
  have L510 := Lib.hid (L59.out.below hb)
  have S610 := Lib.hid (S69.out.past hb)
  have cS610 := S610.out.cell
  have lS610 := S610.out.lt
  have T810 := Lib.hid (T89.out.past hb)
  clear cS19 lS19 cS39 lS39 cS49 lS49 cS69 lS69 hb
  have CV := conv_bs (P := Try.prog) X210.out 26 Try.underlying26 Try.underlying5 Try.underlying9
  go_wp2_with fail
  clear CV
  have CK4 := Lib.hid (CK.out A4 2 c4 l4 4 A4' n4' c4' [⟨0, 3⟩] w7 O410.out F410.out)
  rw [V4.out, lv7] at CK4
  refine (CK4.out).mono ?_
  intro e w8 hx
  obtain ⟨rfl, hb⟩ := hx
  have B11 := Lib.hid (below_from hb B10.out B10.out.size)
  have S111 := Lib.hid (S110.out.past hb)
  have cS111 := S111.out.cell
  have lS111 := S111.out.lt
  have X211 := Lib.hid (X210.out.below hb)
  have S311 := Lib.hid (S310.out.past hb)
  have cS311 := S311.out.cell
  have lS311 := S311.out.lt
  have O411 := Lib.hid (O410.out.below hb)
  have F411 := Lib.hid (F410.out.below hb)
  have S411 := Lib.hid (S410.out.past hb)
  have cS411 := S411.out.cell
  have lS411 := S411.out.lt
  have L511 := Lib.hid (L510.out.below hb)
  have S611 := Lib.hid (S610.out.past hb)
  have cS611 := S611.out.cell
  have lS611 := S611.out.lt
  have T811 := Lib.hid (T810.out.past hb)
  clear cS110 lS110 cS310 lS310 cS410 lS410 cS610 lS610 hb
  go_wp2_with fail
  have CK5 := Lib.hid (CK.out none 0 0 [] (-1) none 0 0 [] w8 (Sl.nil _ _) (Sl.nil _ _))
  rw [show ([] : List Ob).map Ob.val = [] from rfl, lv8] at CK5
  refine (CK5.out).mono ?_
  intro e w9 hx
  obtain ⟨rfl, hb⟩ := hx
  have B12 := Lib.hid (below_from hb B11.out B11.out.size)
  have S112 := Lib.hid (S111.out.past hb)
  have cS112 := S112.out.cell
  have lS112 := S112.out.lt
  have X212 := Lib.hid (X211.out.below hb)
  have S312 := Lib.hid (S311.out.past hb)
  have cS312 := S312.out.cell
  have lS312 := S312.out.lt
  have O412 := Lib.hid (O411.out.below hb)
  have F412 := Lib.hid (F411.out.below hb)
  have S412 := Lib.hid (S411.out.past hb)
  have cS412 := S412.out.cell
  have lS412 := S412.out.lt
  have L512 := Lib.hid (L511.out.below hb)
  have S612 := Lib.hid (S611.out.past hb)
  have cS612 := S612.out.cell
  have lS612 := S612.out.lt
  have T812 := Lib.hid (T811.out.past hb)
  clear cS111 lS111 cS311 lS311 cS411 lS411 cS611 lS611 hb
  go_wp2_with fail
  go_ret
  exact ⟨ret_bool (by rfl), B12.out⟩

end Go.Proofs.Ytnnmppnbkplamaa
