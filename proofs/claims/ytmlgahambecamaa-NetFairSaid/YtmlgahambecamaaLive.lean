/- live: the chapter's example. -/
import Derived.Test.YtmlgahambecamaaLiveP
import Derived.Test.YtmlgahambecamaaSend
import Derived.Test.YtmlgahambecamaaTick
import Derived.Test.YtmlgahambecamaaSameM
namespace Go.Proofs.Ytmlgahambecamaa
open Go.RowKit

abbrev V1 : Nv := ⟨0, 0, [], [⟨0, 3, 3⟩], [], [0, 4]⟩
abbrev V2 : Nv := ⟨0, 1, [⟨8, 0, 0, 1, [7]⟩], [⟨0, 3, 3⟩], [], [0, 4]⟩
abbrev V3 : Nv := ⟨7, 1, [⟨8, 0, 0, 1, [7]⟩], [⟨0, 3, 3⟩], [], [0, 4]⟩
abbrev V4 : Nv := ⟨8, 1, [], [⟨0, 3, 3⟩], [], [0, 4]⟩
theorem lv1 : newV 2 [⟨0, 3, 3⟩] [0, 4] = (V1, 0) := by decide +kernel
theorem lv2 : sendV V1 0 1 5 [7] = (V2, 0) := by decide +kernel
theorem lv3 : tickV V2 7 = (V3, [], 0) := by decide +kernel
theorem lv4 : tickV V3 1 = (V4, [⟨8, 0, 0, 1, [7]⟩], 0) := by decide +kernel

set_option maxHeartbeats 8000000 in
set_option maxRecDepth 100000 in
theorem live_any (w : World) : Calls Try.prog 11 #[] w fun e w' => e = .returned (.bool true) ∧ Below w.heap.size w w' := by
  have B0 := Lib.hid (Below.alloc (below_alloc1 w (.cells #[.int .i64 0, .int .i64 3, .int .i64 3] 54)) (by simp) (.cells #[.int .i64 0, .int .i64 4] 3))
  have SP := Lib.hid (sp_row (x := ⟨0, 3, 3⟩) ((Has.newAt w #[.int .i64 0, .int .i64 3, .int .i64 3] 54 (g := w.heap.size) rfl).alloc (.cells #[.int .i64 0, .int .i64 4] 3)) ⟨rfl, rfl, rfl⟩)
  have KR := Lib.hid (int_row (l := [0, 4]) (n := 2) (Has.newAt (w.alloc (.cells #[.int .i64 0, .int .i64 3, .int .i64 3] 54)) #[.int .i64 0, .int .i64 4] 3 (g := w.heap.size + 1) (by simp)) rfl (by omega) (fun a ha => by simp at ha; rcases ha with rfl | rfl <;> rfl))
  have NW := Lib.hid new_any
  have SD := Lib.hid send_any
  have TK := Lib.hid tick_any
  have BS := Lib.hid bsame_any
  go_enter Try.func11, Try.ntmps11
  go_wp2_with fail
  refine (net_at (V := V1) (c := 0) (NW.out 2 _ _ _ _ _ _ _ _ _ SP.out KR.out (by omega) (by omega)) lv1).mono ?_
  intro e w1 hx
  obtain ⟨o1, rfl, ha, hb⟩ := hx
  have bk1 := hb.alloc hb.size (.cells #[.int .i64 o1.now, .int .i64 o1.next, .slice o1.LA o1.Ln o1.Lc, .slice o1.SA o1.Sn o1.Sc, .slice o1.CA o1.Cn o1.Cc, .slice o1.KA o1.Kn o1.Kc] 27)
  have B1 := Lib.hid (below_from bk1 B0.out B0.out.size)
  have O1_1 := Lib.hid (Nt.past ha (below_alloc1 w1 (.cells #[.int .i64 o1.now, .int .i64 o1.next, .slice o1.LA o1.Ln o1.Lc, .slice o1.SA o1.Sn o1.Sc, .slice o1.CA o1.Cn o1.Cc, .slice o1.KA o1.Kn o1.Kc] 27)))
  have S1_1 := Lib.hid (Has.newAt w1 #[.int .i64 o1.now, .int .i64 o1.next, .slice o1.LA o1.Ln o1.Lc, .slice o1.SA o1.Sn o1.Sc, .slice o1.CA o1.Cn o1.Cc, .slice o1.KA o1.Kn o1.Kc] 27 (g := w1.heap.size) rfl)
  have cS1_1 := S1_1.out.cell
  have lS1_1 := S1_1.out.lt
  clear hb ha bk1
  go_wp2_with fail
  clear SP KR
  have bk2 := below_alloc1 (w1.alloc (.cells #[.int .i64 o1.now, .int .i64 o1.next, .slice o1.LA o1.Ln o1.Lc, .slice o1.SA o1.Sn o1.Sc, .slice o1.CA o1.Cn o1.Cc, .slice o1.KA o1.Kn o1.Kc] 27)) (.cells #[byteV 7] 5)
  have B2 := Lib.hid (below_from bk2 B1.out B1.out.size)
  have O1_2 := Lib.hid (Nt.past O1_1.out bk2)
  have S1_2 := Lib.hid (S1_1.out.past bk2)
  have cS1_2 := S1_2.out.cell
  have lS1_2 := S1_2.out.lt
  have Y2 := Lib.hid (Has.newAt (w1.alloc (.cells #[.int .i64 o1.now, .int .i64 o1.next, .slice o1.LA o1.Ln o1.Lc, .slice o1.SA o1.Sn o1.Sc, .slice o1.CA o1.Cn o1.Cc, .slice o1.KA o1.Kn o1.Kc] 27)) #[byteV 7] 5 (g := (w1.heap.size + 1)) (by simp))
  clear cS1_1 lS1_1 bk2
  refine (net_at (V := V2) (c := 0) (SD.out o1 0 1 5 _ 1 1 [7] _ O1_2.out.1 (O1_2.out.few (by decide) (by decide) (by decide) (by decide)) (byte_row Y2.out)) (by rw [O1_2.out.2]; exact lv2)).mono ?_
  intro e w2 hx
  obtain ⟨o2, rfl, ha, hb⟩ := hx
  have bk3 := hb.alloc hb.size (.cells #[.int .i64 o2.now, .int .i64 o2.next, .slice o2.LA o2.Ln o2.Lc, .slice o2.SA o2.Sn o2.Sc, .slice o2.CA o2.Cn o2.Cc, .slice o2.KA o2.Kn o2.Kc] 27)
  have B3 := Lib.hid (below_from bk3 B2.out B2.out.size)
  have O1_3 := Lib.hid (Nt.past O1_2.out bk3)
  have S1_3 := Lib.hid (S1_2.out.past bk3)
  have cS1_3 := S1_3.out.cell
  have lS1_3 := S1_3.out.lt
  have Y3 := Lib.hid (Y2.out.past bk3)
  have O2_3 := Lib.hid (Nt.past ha (below_alloc1 w2 (.cells #[.int .i64 o2.now, .int .i64 o2.next, .slice o2.LA o2.Ln o2.Lc, .slice o2.SA o2.Sn o2.Sc, .slice o2.CA o2.Cn o2.Cc, .slice o2.KA o2.Kn o2.Kc] 27)))
  have S2_3 := Lib.hid (Has.newAt w2 #[.int .i64 o2.now, .int .i64 o2.next, .slice o2.LA o2.Ln o2.Lc, .slice o2.SA o2.Sn o2.Sc, .slice o2.CA o2.Cn o2.Cc, .slice o2.KA o2.Kn o2.Kc] 27 (g := w2.heap.size) rfl)
  have cS2_3 := S2_3.out.cell
  have lS2_3 := S2_3.out.lt
  clear cS1_2 lS1_2 hb ha bk3
  go_wp2_with fail
  refine (tick_at (V := V3) (M := []) (c := 0) (TK.out o2 7 _ O2_3.out.1 (O2_3.out.few (by decide) (by decide) (by decide) (by decide))) (by rw [O2_3.out.2]; exact lv3)).mono ?_
  intro e w3 hx
  obtain ⟨o3, A3, n3, c3, l3, rfl, ha, hm, hb⟩ := hx
  have bk4 := hb.alloc hb.size (.cells #[.int .i64 o3.now, .int .i64 o3.next, .slice o3.LA o3.Ln o3.Lc, .slice o3.SA o3.Sn o3.Sc, .slice o3.CA o3.Cn o3.Cc, .slice o3.KA o3.Kn o3.Kc] 27)
  have B4 := Lib.hid (below_from bk4 B3.out B3.out.size)
  have O1_4 := Lib.hid (Nt.past O1_3.out bk4)
  have S1_4 := Lib.hid (S1_3.out.past bk4)
  have cS1_4 := S1_4.out.cell
  have lS1_4 := S1_4.out.lt
  have Y4 := Lib.hid (Y3.out.past bk4)
  have O2_4 := Lib.hid (Nt.past O2_3.out bk4)
  have S2_4 := Lib.hid (S2_3.out.past bk4)
  have cS2_4 := S2_4.out.cell
  have lS2_4 := S2_4.out.lt
  have O3_4 := Lib.hid (Nt.past ha (below_alloc1 w3 (.cells #[.int .i64 o3.now, .int .i64 o3.next, .slice o3.LA o3.Ln o3.Lc, .slice o3.SA o3.Sn o3.Sc, .slice o3.CA o3.Cn o3.Cc, .slice o3.KA o3.Kn o3.Kc] 27)))
  have M3_4 := Lib.hid (Ms.past hm (below_alloc1 w3 (.cells #[.int .i64 o3.now, .int .i64 o3.next, .slice o3.LA o3.Ln o3.Lc, .slice o3.SA o3.Sn o3.Sc, .slice o3.CA o3.Cn o3.Cc, .slice o3.KA o3.Kn o3.Kc] 27)))
  have S3_4 := Lib.hid (Has.newAt w3 #[.int .i64 o3.now, .int .i64 o3.next, .slice o3.LA o3.Ln o3.Lc, .slice o3.SA o3.Sn o3.Sc, .slice o3.CA o3.Cn o3.Cc, .slice o3.KA o3.Kn o3.Kc] 27 (g := w3.heap.size) rfl)
  have cS3_4 := S3_4.out.cell
  have lS3_4 := S3_4.out.lt
  clear cS1_3 lS1_3 cS2_3 lS2_3 hb ha hm bk4
  obtain rfl : n3 = 0 := M3_4.out.none
  go_wp2_with fail
  refine (tick_at (V := V4) (M := [⟨8, 0, 0, 1, [7]⟩]) (c := 0) (TK.out o3 1 _ O3_4.out.1 (O3_4.out.few (by decide) (by decide) (by decide) (by decide))) (by rw [O3_4.out.2]; exact lv4)).mono ?_
  intro e w4 hx
  obtain ⟨o4, A4, n4, c4, l4, rfl, ha, hm, hb⟩ := hx
  have bk5 := hb.alloc hb.size (.cells #[.int .i64 o4.now, .int .i64 o4.next, .slice o4.LA o4.Ln o4.Lc, .slice o4.SA o4.Sn o4.Sc, .slice o4.CA o4.Cn o4.Cc, .slice o4.KA o4.Kn o4.Kc] 27)
  have B5 := Lib.hid (below_from bk5 B4.out B4.out.size)
  have O1_5 := Lib.hid (Nt.past O1_4.out bk5)
  have S1_5 := Lib.hid (S1_4.out.past bk5)
  have cS1_5 := S1_5.out.cell
  have lS1_5 := S1_5.out.lt
  have Y5 := Lib.hid (Y4.out.past bk5)
  have O2_5 := Lib.hid (Nt.past O2_4.out bk5)
  have S2_5 := Lib.hid (S2_4.out.past bk5)
  have cS2_5 := S2_5.out.cell
  have lS2_5 := S2_5.out.lt
  have O3_5 := Lib.hid (Nt.past O3_4.out bk5)
  have M3_5 := Lib.hid (Ms.past M3_4.out bk5)
  have S3_5 := Lib.hid (S3_4.out.past bk5)
  have cS3_5 := S3_5.out.cell
  have lS3_5 := S3_5.out.lt
  have O4_5 := Lib.hid (Nt.past ha (below_alloc1 w4 (.cells #[.int .i64 o4.now, .int .i64 o4.next, .slice o4.LA o4.Ln o4.Lc, .slice o4.SA o4.Sn o4.Sc, .slice o4.CA o4.Cn o4.Cc, .slice o4.KA o4.Kn o4.Kc] 27)))
  have M4_5 := Lib.hid (Ms.past hm (below_alloc1 w4 (.cells #[.int .i64 o4.now, .int .i64 o4.next, .slice o4.LA o4.Ln o4.Lc, .slice o4.SA o4.Sn o4.Sc, .slice o4.CA o4.Cn o4.Cc, .slice o4.KA o4.Kn o4.Kc] 27)))
  have S4_5 := Lib.hid (Has.newAt w4 #[.int .i64 o4.now, .int .i64 o4.next, .slice o4.LA o4.Ln o4.Lc, .slice o4.SA o4.Sn o4.Sc, .slice o4.CA o4.Cn o4.Cc, .slice o4.KA o4.Kn o4.Kc] 27 (g := w4.heap.size) rfl)
  have cS4_5 := S4_5.out.cell
  have lS4_5 := S4_5.out.lt
  clear cS1_4 lS1_4 cS2_4 lS2_4 cS3_4 lS3_4 hb ha hm bk5
  obtain ⟨e4, x, e5, e6⟩ := M4_5.out.one
  subst e4 e5
  obtain ⟨b, off, hk, rfl, hlt, x0, x1, x2, x3, x4⟩ := mg_at M4_5.out.1 (Nat.lt_succ_self 0)
  have XI := Lib.hid (M4_5.out.1.each x (List.mem_singleton.2 rfl))
  have XB := Lib.hid (show x.bs = [7] from congrArg Mv.bs e6)
  clear e6
  simp only [List.getElem_cons_zero, Nat.zero_mul, Nat.add_zero] at x0 x1 x2 x3 x4
  have Y2 := Lib.hid (Has.newAt (w4.alloc (.cells #[.int .i64 o4.now, .int .i64 o4.next, .slice o4.LA o4.Ln o4.Lc, .slice o4.SA o4.Sn o4.Sc, .slice o4.CA o4.Cn o4.Cc, .slice o4.KA o4.Kn o4.Kc] 27)) #[byteV 7] 5 (g := w4.heap.size + 1) (by simp))
  have bk := below_alloc1 (w4.alloc (.cells #[.int .i64 o4.now, .int .i64 o4.next, .slice o4.LA o4.Ln o4.Lc, .slice o4.SA o4.Sn o4.Sc, .slice o4.CA o4.Cn o4.Cc, .slice o4.KA o4.Kn o4.Kc] 27)) (.cells #[byteV 7] 5)
  have BE := Lib.hid (below_from bk B5.out B5.out.size)
  have XJ := Lib.hid (show Mg.In _ x from mgK.below XI.out bk)
  clear bk
  go_wp2_with (go_at_call 32; refine (BS.out _ _ _ _ _ _ _ _ _ XJ.out (byte_row Y2.out)).mono ?_; rintro e w9 ⟨rfl, rfl⟩; rw [XB.out])
  go_ret
  exact ⟨rfl, BE.out⟩

end Go.Proofs.Ytmlgahambecamaa
