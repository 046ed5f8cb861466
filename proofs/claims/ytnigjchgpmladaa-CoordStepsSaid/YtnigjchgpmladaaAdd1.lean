/- What Add and Send change of a producer. -/
import Derived.Test.YtnigjchgpmladaaMore
import Derived.Deep.DeepCutAuto
namespace Go.Proofs.Ytnigjchgpmladaa
open Go.RowKit Go.Shelf

theorem run_ch {w w' : World} {g : Nat} {x : Tx} {now : Int} {mb : Bool} {v : Tv} {e : Ending} {r : Tv × Int} (h : RunRes w g x now mb v e w') (hr : r = if 1 < x.st then (x.val, 211) else if mb = true then (runT v now, 0) else (x.val, 2)) : ChRes w g r e w' := by
  obtain ⟨h1, h2, h3⟩ := h
  subst hr
  by_cases a1 : 1 < x.st
  · rw [if_pos a1] at h1 ⊢
    exact ⟨h1, fun h => (by cases h), h2⟩
  · rw [if_neg a1] at h1 ⊢
    cases mb with
    | true =>
      obtain ⟨z, z1, z2, z3⟩ := h3 a1 rfl
      exact ⟨h1, fun _ => ⟨z, z1, z2, z3⟩, h2⟩
    | false => exact ⟨h1, fun h => (by cases h), h2⟩
set_option maxRecDepth 100000 in
set_option maxHeartbeats 16000000 in
theorem add1_any (x : Tx) (tp : Tp) (now : Int) (g gn gt : Nat) (w w0 : World) (c : Cv) (hb : Below w0.heap.size w0 w) (hg : w0.heap.size ≤ g) (hx : Tx.In w0 x) (hc : Fine c) (hm : x.val ∈ c.L) (h1 : Has w g #[.string x.id, .int .i64 x.pid, .int .i64 x.gen, .int .i64 x.no, .int .i64 x.st, .slice x.PA x.Pn x.Pc, .slice x.GA x.Gn x.Gc, .int .i64 x.at_]) (h2 : Has w gn #[.int .i64 now]) (h3 : Has w gt #[.string tp.t, .int .i64 tp.p, .int .i64 tp.h]) (hw : tp.wf) :
    Calls Try.prog 62 #[.pointer (some ⟨g, 0, none⟩), .pointer (some ⟨gn, 0, none⟩), .pointer (some ⟨gt, 0, none⟩)] w fun e w' => ChRes w g (addF tp now x.val) e w' := by
  have hok := hc.ok hm
  have fw := hc.few _ hm
  obtain ⟨W1, hW1⟩ : ∃ W, W = w.alloc (.cells #[.pointer (some ⟨g, 0, none⟩)] 82) := ⟨_, rfl⟩
  have P1 := Lib.hid (show Has W1 w.heap.size #[.pointer (some ⟨g, 0, none⟩)] from by rw [hW1]; exact Has.newAt w _ 82 rfl)
  have X1 := Lib.hid (show Has W1 g #[.string x.id, .int .i64 x.pid, .int .i64 x.gen, .int .i64 x.no, .int .i64 x.st, .slice x.PA x.Pn x.Pc, .slice x.GA x.Gn x.Gc, .int .i64 x.at_] from by rw [hW1]; exact h1.alloc _)
  have N1 := Lib.hid (show Has W1 gn #[.int .i64 now] from by rw [hW1]; exact h2.alloc _)
  have T1 := Lib.hid (show Has W1 gt #[.string tp.t, .int .i64 tp.p, .int .i64 tp.h] from by rw [hW1]; exact h3.alloc _)
  have B1 := Lib.hid (show Below w.heap.size w W1 from by rw [hW1]; exact below_alloc1 w _)
  have hgl := h1.lt
  have XI := Lib.hid (show Tx.In W1 x from (hx.past hb).past B1.out)
  have MO := Lib.hid (addmore_any x tp g w.heap.size gt W1 X1.out P1.out T1.out XI.out (hx.old hg) (by omega) (kept_up lawT hok.p) (by have : x.P.length ≤ 288 := fw.1; omega) hw)
  have FE : addF tp now x.val = if 1 < x.st then (x.val, 211) else if decide ((insC ordT tp x.P).length ≤ 288) = true then (runT { x.val with P := insC ordT tp x.P } now, 0) else (x.val, 2) := by
    show (if 1 < x.st then (x.val, 211) else if 288 < (insC ordT tp x.P).length then (x.val, 2) else (runT { x.val with P := insC ordT tp x.P } now, 0)) = _
    by_cases a1 : 1 < x.st
    · rw [if_pos a1, if_pos a1]
    · rw [if_neg a1, if_neg a1]
      by_cases a2 : 288 < (insC ordT tp x.P).length
      · rw [if_pos a2, if_neg (by simpa using a2)]
      · rw [if_neg a2, if_pos (by simpa using a2)]
  have RU := Lib.hid ((run_any g x now 64 #[.pointer (some ⟨w.heap.size, 0, none⟩), .pointer (some ⟨gt, 0, none⟩)] _ _ W1 X1.out (enters_of Try.func64 (by kernel_rfl) rfl) hok.st MO.out).mono fun e w' h => run_ch h FE)
  clear FE
  obtain ⟨r, hr⟩ : ∃ r, addF tp now x.val = r := ⟨_, rfl⟩
  rw [hr] at RU ⊢
  clear hr
  have HW := Lib.hid hW1
  have p1c := P1.out.cell
  have p1l := P1.out.lt
  have n1c := N1.out.cell
  have n1l := N1.out.lt
  have GB := Lib.hid (grown_of_below B1.out (some g))
  clear hok fw hW1 hgl MO hx hc hm h1 h2 h3 hw hb hg
  go_enter Try.func62, Try.ntmps62
  go_upto_region 1 with (fail)
  rw [← HW.out]
  go_wp2_with (go_at_call 63; refine RU.out.mono ?_; rintro e w2 ⟨rfl, hz, hg2⟩; have G2 := Lib.hid hg2; have HZ := Lib.hid hz; clear hg2 hz)
  go_ret
  exact ⟨rfl, HZ.out, grown_trans GB.out G2.out⟩

set_option maxRecDepth 100000 in
set_option maxHeartbeats 16000000 in
theorem send1_any (x : Tx) (tp : ByteArray) (now : Int) (g gn gt : Nat) (w w0 : World) (c : Cv) (hb : Below w0.heap.size w0 w) (hg : w0.heap.size ≤ g) (hx : Tx.In w0 x) (hc : Fine c) (hm : x.val ∈ c.L) (h1 : Has w g #[.string x.id, .int .i64 x.pid, .int .i64 x.gen, .int .i64 x.no, .int .i64 x.st, .slice x.PA x.Pn x.Pc, .slice x.GA x.Gn x.Gc, .int .i64 x.at_]) (h2 : Has w gn #[.int .i64 now]) (h3 : Has w gt #[.string tp]) (hw : tp.size ≤ maxLen) :
    Calls Try.prog 71 #[.pointer (some ⟨g, 0, none⟩), .pointer (some ⟨gn, 0, none⟩), .pointer (some ⟨gt, 0, none⟩)] w fun e w' => ChRes w g (sendF tp now x.val) e w' := by
  have hok := hc.ok hm
  have fw := hc.few _ hm
  obtain ⟨W1, hW1⟩ : ∃ W, W = w.alloc (.cells #[.pointer (some ⟨g, 0, none⟩)] 82) := ⟨_, rfl⟩
  have P1 := Lib.hid (show Has W1 w.heap.size #[.pointer (some ⟨g, 0, none⟩)] from by rw [hW1]; exact Has.newAt w _ 82 rfl)
  have X1 := Lib.hid (show Has W1 g #[.string x.id, .int .i64 x.pid, .int .i64 x.gen, .int .i64 x.no, .int .i64 x.st, .slice x.PA x.Pn x.Pc, .slice x.GA x.Gn x.Gc, .int .i64 x.at_] from by rw [hW1]; exact h1.alloc _)
  have N1 := Lib.hid (show Has W1 gn #[.int .i64 now] from by rw [hW1]; exact h2.alloc _)
  have T1 := Lib.hid (show Has W1 gt #[.string tp] from by rw [hW1]; exact h3.alloc _)
  have B1 := Lib.hid (show Below w.heap.size w W1 from by rw [hW1]; exact below_alloc1 w _)
  have hgl := h1.lt
  have XI := Lib.hid (show Tx.In W1 x from (hx.past hb).past B1.out)
  have MO := Lib.hid (sendmore_any x tp g w.heap.size gt W1 X1.out P1.out T1.out XI.out (hx.old hg) (by omega) (kept_up lawS hok.g) (by have : x.G.length ≤ 64 := fw.2; omega) hw)
  have FE : sendF tp now x.val = if 1 < x.st then (x.val, 211) else if decide ((insC cmpS tp x.G).length ≤ 64) = true then (runT { x.val with G := insC cmpS tp x.G } now, 0) else (x.val, 2) := by
    show (if 1 < x.st then (x.val, 211) else if 64 < (insC cmpS tp x.G).length then (x.val, 2) else (runT { x.val with G := insC cmpS tp x.G } now, 0)) = _
    by_cases a1 : 1 < x.st
    · rw [if_pos a1, if_pos a1]
    · rw [if_neg a1, if_neg a1]
      by_cases a2 : 64 < (insC cmpS tp x.G).length
      · rw [if_pos a2, if_neg (by simpa using a2)]
      · rw [if_neg a2, if_pos (by simpa using a2)]
  have RU := Lib.hid ((run_any g x now 72 #[.pointer (some ⟨w.heap.size, 0, none⟩), .pointer (some ⟨gt, 0, none⟩)] _ _ W1 X1.out (enters_of Try.func72 (by kernel_rfl) rfl) hok.st MO.out).mono fun e w' h => run_ch h FE)
  clear FE
  obtain ⟨r, hr⟩ : ∃ r, sendF tp now x.val = r := ⟨_, rfl⟩
  rw [hr] at RU ⊢
  clear hr
  have HW := Lib.hid hW1
  have p1c := P1.out.cell
  have p1l := P1.out.lt
  have n1c := N1.out.cell
  have n1l := N1.out.lt
  have GB := Lib.hid (grown_of_below B1.out (some g))
  clear hok fw hW1 hgl MO hx hc hm h1 h2 h3 hw hb hg
  go_enter Try.func71, Try.ntmps71
  go_upto_region 1 with (fail)
  rw [← HW.out]
  go_wp2_with (go_at_call 63; refine RU.out.mono ?_; rintro e w2 ⟨rfl, hz, hg2⟩; have G2 := Lib.hid hg2; have HZ := Lib.hid hz; clear hg2 hz)
  go_ret
  exact ⟨rfl, HZ.out, grown_trans GB.out G2.out⟩

end Go.Proofs.Ytnigjchgpmladaa
