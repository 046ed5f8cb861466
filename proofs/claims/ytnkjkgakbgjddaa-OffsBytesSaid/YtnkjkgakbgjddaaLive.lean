/- live: the chapter's example. -/
import Derived.Test.YtnkjkgakbgjddaaLeast
import Derived.Test.YtnkjkgakbgjddaaSame
import Derived.Test.YtnkjkgakbgjddaaSave
import Derived.Test.YtnkjkgakbgjddaaLoad
namespace Go.Proofs.Ytnkjkgakbgjddaa
open Go.RowKit

def gS : ByteArray := ⟨#[103]⟩
def tS : ByteArray := ⟨#[116]⟩
abbrev P3 : Ps := ⟨⟨#[103]⟩, ⟨#[116]⟩, 0, 0, 3⟩
abbrev P5 : Ps := ⟨⟨#[103]⟩, ⟨#[116]⟩, 0, 0, 5⟩
theorem lv1 : putV [] [] P3 = ([P3], [], 0) := by decide +kernel
theorem lv2 : holdV [P3] [] 7 P5 = ([P3], [⟨7, P5⟩], 0) := by decide +kernel
theorem lv3 : getV [P3] ⟨#[103]⟩ ⟨#[116]⟩ 0 0 = (3, true) := by decide +kernel
theorem lv4 : leastV [P3] [⟨7, P5⟩] ⟨#[116]⟩ 0 0 = (3, true) := by decide +kernel
theorem lv5 : markV [P3] [⟨7, P5⟩] 7 true = ([P5], [], 0) := by decide +kernel
theorem lv6 : getV [P5] ⟨#[103]⟩ ⟨#[116]⟩ 0 0 = (5, true) := by decide +kernel
theorem lv6b : getV [P5] ⟨#[104]⟩ ⟨#[116]⟩ 0 0 = (0, false) := by decide +kernel
theorem lv7 : markV [P3] [⟨7, P5⟩] 7 false = ([P3], [], 0) := by decide +kernel
theorem lv8 : saveV P3 = ([2, 103, 2, 116, 0, 0, 6], 0) := by
  unfold saveV
  rw [if_pos (by decide +kernel)]
  unfold saveB putT
  simp only [show ByteArray.size ⟨#[103]⟩ = 1 from rfl, show ByteArray.size ⟨#[116]⟩ = 1 from rfl, show (0 : Int).toNat = 0 from rfl, show (3 : Int).toNat = 3 from rfl]
  rw [varZ_lt (by omega), varZ_lt (by omega), varZ_lt (by omega)]
  rfl
theorem lv9 : loadV [2, 103, 2, 116, 0, 0, 6] 0 = (P3, 7, 0) := by decide +kernel
theorem lv10 : putV [P3] [] noP = ([], [], 1) := by decide +kernel
theorem lv11 : checkV [P5] [] = 0 := by decide +kernel
theorem lv12 : checkV [noP] [] = 1 := by decide +kernel
theorem wf3 : P3.wf := ⟨by decide, by decide, rfl, rfl, rfl⟩
theorem wf5 : P5.wf := ⟨by decide, by decide, rfl, rfl, rfl⟩
theorem wf0 : noP.wf := ⟨by decide, by decide, rfl, rfl, rfl⟩
/-- A step, its answer known. -/
theorem ch_at {f : Nat} {args : Array Value} {o : Of} {r : List Ps × List Wt × Int} {w : World} (h : Calls Try.prog f args w (ChRes o r w)) {L : List Ps} {M : List Wt} {e : Int} (hr : r = (L, M, e)) :
    Calls Try.prog f args w fun x w' => ∃ o1 : Of, x = .returned (.tuple #[o1.v, .int .i64 e]) ∧ (Of.At w' o1 ∧ o1.L = L ∧ o1.M = M) ∧ Below w.heap.size w w' := by
  subst hr
  refine h.mono ?_
  rintro x w' ⟨o1, h1, h2, h3, h4, _, h5⟩
  exact ⟨o1, h1, ⟨h2, h3, h4⟩, h5⟩
theorem Of.At.past {w w' : World} {o : Of} {L : List Ps} {M : List Wt} (h : Of.At w o ∧ o.L = L ∧ o.M = M) (hb : Below w.heap.size w w') : Of.At w' o ∧ o.L = L ∧ o.M = M := ⟨h.1.below hb, h.2⟩

theorem get_at {o : Of} {w : World} {L : List Ps} {M : List Wt} (h : Of.At w o ∧ o.L = L ∧ o.M = M) {s t : ByteArray} {p k v : Int} {b : Bool} (hr : getV L s t p k = (v, b)) :
    Calls Try.prog 23 #[o.v, .string s, .agg #[.string t, .int .i64 p, .int .i64 k]] w fun e w' => e = .returned (.tuple #[.int .i64 v, .bool b]) ∧ Below w.heap.size w w' := by
  have := get_any o s t p k w h.1
  rw [h.2.1, hr] at this
  exact this
theorem least_at {o : Of} {w : World} {L : List Ps} {M : List Wt} (h : Of.At w o ∧ o.L = L ∧ o.M = M) (h1 : L.length ≤ 60000) (h2 : M.length ≤ 60000) {t : ByteArray} {p k v : Int} {b : Bool} (hr : leastV L M t p k = (v, b)) :
    Calls Try.prog 25 #[o.v, .agg #[.string t, .int .i64 p, .int .i64 k]] w fun e w' => e = .returned (.tuple #[.int .i64 v, .bool b]) ∧ Below w.heap.size w w' := by
  have := least_calls o t p k w h.1 (by rw [← h.1.1.len, h.2.1]; exact h1) (by rw [← h.1.2.len, h.2.2]; exact h2)
  rw [h.2.1, h.2.2, hr] at this
  exact this
theorem check_at {o : Of} {w : World} {L : List Ps} {M : List Wt} (h : Of.At w o ∧ o.L = L ∧ o.M = M) {e : Int} (hr : checkV L M = e) : Calls Try.prog 20 #[o.v] w fun x w' => x = .returned (.int .i64 e) ∧ Below w.heap.size w w' := by
  have := check_any o.A o.n o.c o.L o.A' o.n' o.c' o.M w h.1.1 h.1.2
  rw [h.2.1, h.2.2, hr] at this
  exact this
theorem same_at {o q : Of} {w : World} {L L' : List Ps} {M M' : List Wt} (h : Of.At w o ∧ o.L = L ∧ o.M = M) (k : Of.At w q ∧ q.L = L' ∧ q.M = M') : Calls Try.prog 22 #[o.v, q.v] w fun e w' => e = .returned (.bool (sameO L M L' M')) ∧ Below w.heap.size w w' := by
  have := same_any o q w h.1 k.1
  rw [h.2.1, h.2.2, k.2.1, k.2.2] at this
  exact this
theorem save_at {p : Ps} {w : World} (hp : p.wf) {l : List UInt8} {e : Int} (hr : saveV p = (l, e)) : Calls Try.prog 27 #[p.v] w fun x w' => ∃ A n c, x = .returned (.tuple #[.slice A n c, .int .i64 e]) ∧ Sl u8K w' A n c l ∧ Below w.heap.size w w' := by
  have := save_any p w hp
  rw [hr] at this
  exact this
theorem load_at {A : Option Addr} {n c : Nat} {bs : List UInt8} {i : Int} {w : World} (hl : Sl u8K w A n c bs) {p : Ps} {m e : Int} (hr : loadV bs i = (p, m, e)) : Calls Try.prog 29 #[.slice A n c, .int .i64 i] w fun x w' => x = .returned (.tuple #[p.v, .int .i64 m, .int .i64 e]) ∧ Below w.heap.size w w' := by
  have := load_any A n c bs i w hl
  rw [hr] at this
  exact this

set_option maxHeartbeats 16000000 in
set_option maxRecDepth 100000 in
theorem live_any (w : World) : Calls Try.prog 11 #[] w fun e w' => e = .returned (.bool true) ∧ Below w.heap.size w w' := by
  have B0 := Lib.hid (below_alloc1 w (.cells #[.string ⟨#[116]⟩, .int .i64 0, .int .i64 0] 27))
  have TP0 := Lib.hid (Has.newAt w #[.string ⟨#[116]⟩, .int .i64 0, .int .i64 0] 27 (g := w.heap.size) rfl)
  have cTP0 := TP0.out.cell
  have lTP0 := TP0.out.lt
  have PT := Lib.hid put_any
  have HD := Lib.hid hold_any
  have MK := Lib.hid mark_any
  have GE := Lib.hid get_any
  have LE := Lib.hid least_calls
  have SV := Lib.hid save_any
  have LD := Lib.hid load_any
  have SM := Lib.hid same_any
  have CK := Lib.hid check_any
  go_enter Try.func11, Try.ntmps11
  go_wp2_with fail
  refine (ch_at (L := [P3]) (M := []) (e := 0) (PT.out Of.no P3 _ (Of.no_at _) wf3) lv1).mono ?_
  intro e w1 hx
  obtain ⟨o1, rfl, ha, hb⟩ := hx
  have bk1 := hb.alloc hb.size (.cells #[.slice o1.A o1.n o1.c, .slice o1.A' o1.n' o1.c'] 25)
  have B1 := Lib.hid (below_from bk1 B0.out B0.out.size)
  have TP1 := Lib.hid (TP0.out.past bk1)
  have cTP1 := TP1.out.cell
  have lTP1 := TP1.out.lt
  have O1_1 := Lib.hid (Of.At.past ha (below_alloc1 w1 (.cells #[.slice o1.A o1.n o1.c, .slice o1.A' o1.n' o1.c'] 25)))
  have S1_1 := Lib.hid (Has.newAt w1 #[.slice o1.A o1.n o1.c, .slice o1.A' o1.n' o1.c'] 25 (g := w1.heap.size) rfl)
  have cS1_1 := S1_1.out.cell
  have lS1_1 := S1_1.out.lt
  clear cTP0 lTP0 hb ha bk1
  go_wp2_with fail
  refine (ch_at (L := [P3]) (M := [⟨7, P5⟩]) (e := 0) (HD.out o1 7 P5 _ O1_1.out.1 wf5 rfl) (by rw [O1_1.out.2.1, O1_1.out.2.2]; exact lv2)).mono ?_
  intro e w2 hx
  obtain ⟨o2, rfl, ha, hb⟩ := hx
  have bk2 := hb.alloc hb.size (.cells #[.slice o2.A o2.n o2.c, .slice o2.A' o2.n' o2.c'] 25)
  have B2 := Lib.hid (below_from bk2 B1.out B1.out.size)
  have TP2 := Lib.hid (TP1.out.past bk2)
  have cTP2 := TP2.out.cell
  have lTP2 := TP2.out.lt
  have O1_2 := Lib.hid (Of.At.past O1_1.out bk2)
  have S1_2 := Lib.hid (S1_1.out.past bk2)
  have cS1_2 := S1_2.out.cell
  have lS1_2 := S1_2.out.lt
  have O2_2 := Lib.hid (Of.At.past ha (below_alloc1 w2 (.cells #[.slice o2.A o2.n o2.c, .slice o2.A' o2.n' o2.c'] 25)))
  have S2_2 := Lib.hid (Has.newAt w2 #[.slice o2.A o2.n o2.c, .slice o2.A' o2.n' o2.c'] 25 (g := w2.heap.size) rfl)
  have cS2_2 := S2_2.out.cell
  have lS2_2 := S2_2.out.lt
  clear cTP1 lTP1 cS1_1 lS1_1 hb ha bk2
  go_wp2_with fail
  refine (get_at O2_2.out lv3).mono ?_
  intro e w3 hx
  obtain ⟨rfl, hb⟩ := hx
  have B3 := Lib.hid (below_from hb B2.out B2.out.size)
  have TP3 := Lib.hid (TP2.out.past hb)
  have cTP3 := TP3.out.cell
  have lTP3 := TP3.out.lt
  have O1_3 := Lib.hid (Of.At.past O1_2.out hb)
  have S1_3 := Lib.hid (S1_2.out.past hb)
  have cS1_3 := S1_3.out.cell
  have lS1_3 := S1_3.out.lt
  have O2_3 := Lib.hid (Of.At.past O2_2.out hb)
  have S2_3 := Lib.hid (S2_2.out.past hb)
  have cS2_3 := S2_3.out.cell
  have lS2_3 := S2_3.out.lt
  clear cTP2 lTP2 cS1_2 lS1_2 cS2_2 lS2_2 hb
  go_wp2_with fail
  refine (least_at O2_3.out (by decide) (by decide) lv4).mono ?_
  intro e w4 hx
  obtain ⟨rfl, hb⟩ := hx
  have B4 := Lib.hid (below_from hb B3.out B3.out.size)
  have TP4 := Lib.hid (TP3.out.past hb)
  have cTP4 := TP4.out.cell
  have lTP4 := TP4.out.lt
  have O1_4 := Lib.hid (Of.At.past O1_3.out hb)
  have S1_4 := Lib.hid (S1_3.out.past hb)
  have cS1_4 := S1_4.out.cell
  have lS1_4 := S1_4.out.lt
  have O2_4 := Lib.hid (Of.At.past O2_3.out hb)
  have S2_4 := Lib.hid (S2_3.out.past hb)
  have cS2_4 := S2_4.out.cell
  have lS2_4 := S2_4.out.lt
  clear cTP3 lTP3 cS1_3 lS1_3 cS2_3 lS2_3 hb
  go_wp2_with fail
  refine (ch_at (L := [P5]) (M := []) (e := 0) (MK.out o2 7 true _ O2_4.out.1) (by rw [O2_4.out.2.1, O2_4.out.2.2]; exact lv5)).mono ?_
  intro e w5 hx
  obtain ⟨o5, rfl, ha, hb⟩ := hx
  have bk5 := hb.alloc hb.size (.cells #[.slice o5.A o5.n o5.c, .slice o5.A' o5.n' o5.c'] 25)
  have B5 := Lib.hid (below_from bk5 B4.out B4.out.size)
  have TP5 := Lib.hid (TP4.out.past bk5)
  have cTP5 := TP5.out.cell
  have lTP5 := TP5.out.lt
  have O1_5 := Lib.hid (Of.At.past O1_4.out bk5)
  have S1_5 := Lib.hid (S1_4.out.past bk5)
  have cS1_5 := S1_5.out.cell
  have lS1_5 := S1_5.out.lt
  have O2_5 := Lib.hid (Of.At.past O2_4.out bk5)
  have S2_5 := Lib.hid (S2_4.out.past bk5)
  have cS2_5 := S2_5.out.cell
  have lS2_5 := S2_5.out.lt
  have O5_5 := Lib.hid (Of.At.past ha (below_alloc1 w5 (.cells #[.slice o5.A o5.n o5.c, .slice o5.A' o5.n' o5.c'] 25)))
  have S5_5 := Lib.hid (Has.newAt w5 #[.slice o5.A o5.n o5.c, .slice o5.A' o5.n' o5.c'] 25 (g := w5.heap.size) rfl)
  have cS5_5 := S5_5.out.cell
  have lS5_5 := S5_5.out.lt
  clear cTP4 lTP4 cS1_4 lS1_4 cS2_4 lS2_4 hb ha bk5
  go_wp2_with fail
  refine (get_at O5_5.out lv6).mono ?_
  intro e w6 hx
  obtain ⟨rfl, hb⟩ := hx
  have B6 := Lib.hid (below_from hb B5.out B5.out.size)
  have TP6 := Lib.hid (TP5.out.past hb)
  have cTP6 := TP6.out.cell
  have lTP6 := TP6.out.lt
  have O1_6 := Lib.hid (Of.At.past O1_5.out hb)
  have S1_6 := Lib.hid (S1_5.out.past hb)
  have cS1_6 := S1_6.out.cell
  have lS1_6 := S1_6.out.lt
  have O2_6 := Lib.hid (Of.At.past O2_5.out hb)
  have S2_6 := Lib.hid (S2_5.out.past hb)
  have cS2_6 := S2_6.out.cell
  have lS2_6 := S2_6.out.lt
  have O5_6 := Lib.hid (Of.At.past O5_5.out hb)
  have S5_6 := Lib.hid (S5_5.out.past hb)
  have cS5_6 := S5_6.out.cell
  have lS5_6 := S5_6.out.lt
  clear cTP5 lTP5 cS1_5 lS1_5 cS2_5 lS2_5 cS5_5 lS5_5 hb
  go_wp2_with fail
  refine (get_at O5_6.out lv6b).mono ?_
  intro e w7 hx
  obtain ⟨rfl, hb⟩ := hx
  have B7 := Lib.hid (below_from hb B6.out B6.out.size)
  have TP7 := Lib.hid (TP6.out.past hb)
  have cTP7 := TP7.out.cell
  have lTP7 := TP7.out.lt
  have O1_7 := Lib.hid (Of.At.past O1_6.out hb)
  have S1_7 := Lib.hid (S1_6.out.past hb)
  have cS1_7 := S1_7.out.cell
  have lS1_7 := S1_7.out.lt
  have O2_7 := Lib.hid (Of.At.past O2_6.out hb)
  have S2_7 := Lib.hid (S2_6.out.past hb)
  have cS2_7 := S2_7.out.cell
  have lS2_7 := S2_7.out.lt
  have O5_7 := Lib.hid (Of.At.past O5_6.out hb)
  have S5_7 := Lib.hid (S5_6.out.past hb)
  have cS5_7 := S5_7.out.cell
  have lS5_7 := S5_7.out.lt
  clear cTP6 lTP6 cS1_6 lS1_6 cS2_6 lS2_6 cS5_6 lS5_6 hb
  go_wp2_with fail
  refine (ch_at (L := [P3]) (M := []) (e := 0) (MK.out o2 7 false _ O2_7.out.1) (by rw [O2_7.out.2.1, O2_7.out.2.2]; exact lv7)).mono ?_
  intro e w8 hx
  obtain ⟨o8, rfl, ha, hb⟩ := hx
  have bk8 := hb.alloc hb.size (.cells #[.slice o8.A o8.n o8.c, .slice o8.A' o8.n' o8.c'] 25)
  have B8 := Lib.hid (below_from bk8 B7.out B7.out.size)
  have TP8 := Lib.hid (TP7.out.past bk8)
  have cTP8 := TP8.out.cell
  have lTP8 := TP8.out.lt
  have O1_8 := Lib.hid (Of.At.past O1_7.out bk8)
  have S1_8 := Lib.hid (S1_7.out.past bk8)
  have cS1_8 := S1_8.out.cell
  have lS1_8 := S1_8.out.lt
  have O2_8 := Lib.hid (Of.At.past O2_7.out bk8)
  have S2_8 := Lib.hid (S2_7.out.past bk8)
  have cS2_8 := S2_8.out.cell
  have lS2_8 := S2_8.out.lt
  have O5_8 := Lib.hid (Of.At.past O5_7.out bk8)
  have S5_8 := Lib.hid (S5_7.out.past bk8)
  have cS5_8 := S5_8.out.cell
  have lS5_8 := S5_8.out.lt
  have O8_8 := Lib.hid (Of.At.past ha (below_alloc1 w8 (.cells #[.slice o8.A o8.n o8.c, .slice o8.A' o8.n' o8.c'] 25)))
  have S8_8 := Lib.hid (Has.newAt w8 #[.slice o8.A o8.n o8.c, .slice o8.A' o8.n' o8.c'] 25 (g := w8.heap.size) rfl)
  have cS8_8 := S8_8.out.cell
  have lS8_8 := S8_8.out.lt
  clear cTP7 lTP7 cS1_7 lS1_7 cS2_7 lS2_7 cS5_7 lS5_7 hb ha bk8
  go_wp2_with fail
  refine (save_at wf3 lv8).mono ?_
  intro e w9 hx
  obtain ⟨A9, n9, c9, rfl, hs, hb⟩ := hx
  have B9 := Lib.hid (below_from hb B8.out B8.out.size)
  have TP9 := Lib.hid (TP8.out.past hb)
  have cTP9 := TP9.out.cell
  have lTP9 := TP9.out.lt
  have O1_9 := Lib.hid (Of.At.past O1_8.out hb)
  have S1_9 := Lib.hid (S1_8.out.past hb)
  have cS1_9 := S1_9.out.cell
  have lS1_9 := S1_9.out.lt
  have O2_9 := Lib.hid (Of.At.past O2_8.out hb)
  have S2_9 := Lib.hid (S2_8.out.past hb)
  have cS2_9 := S2_9.out.cell
  have lS2_9 := S2_9.out.lt
  have O5_9 := Lib.hid (Of.At.past O5_8.out hb)
  have S5_9 := Lib.hid (S5_8.out.past hb)
  have cS5_9 := S5_9.out.cell
  have lS5_9 := S5_9.out.lt
  have O8_9 := Lib.hid (Of.At.past O8_8.out hb)
  have S8_9 := Lib.hid (S8_8.out.past hb)
  have cS8_9 := S8_9.out.cell
  have lS8_9 := S8_9.out.lt
  have Y99 := Lib.hid (hs)
  clear cTP8 lTP8 cS1_8 lS1_8 cS2_8 lS2_8 cS5_8 lS5_8 cS8_8 lS8_8 hb hs
  go_wp2_with fail
  refine (show Calls _ _ _ _ (fun x w' => x = .returned (.tuple #[.agg #[.string ⟨#[103]⟩, .string ⟨#[116]⟩, .int .i64 0, .int .i64 0, .int .i64 3], .int .i64 7, .int .i64 0]) ∧ Below _ _ w') from load_at Y99.out lv9).mono ?_
  intro e w10 hx
  obtain ⟨rfl, hb⟩ := hx
  have bk10 := hb.alloc hb.size (.cells #[.string ⟨#[103]⟩, .string ⟨#[116]⟩, .int .i64 0, .int .i64 0, .int .i64 3] 29)
  have B10 := Lib.hid (below_from bk10 B9.out B9.out.size)
  have TP10 := Lib.hid (TP9.out.past bk10)
  have cTP10 := TP10.out.cell
  have lTP10 := TP10.out.lt
  have O1_10 := Lib.hid (Of.At.past O1_9.out bk10)
  have S1_10 := Lib.hid (S1_9.out.past bk10)
  have cS1_10 := S1_10.out.cell
  have lS1_10 := S1_10.out.lt
  have O2_10 := Lib.hid (Of.At.past O2_9.out bk10)
  have S2_10 := Lib.hid (S2_9.out.past bk10)
  have cS2_10 := S2_10.out.cell
  have lS2_10 := S2_10.out.lt
  have O5_10 := Lib.hid (Of.At.past O5_9.out bk10)
  have S5_10 := Lib.hid (S5_9.out.past bk10)
  have cS5_10 := S5_10.out.cell
  have lS5_10 := S5_10.out.lt
  have O8_10 := Lib.hid (Of.At.past O8_9.out bk10)
  have S8_10 := Lib.hid (S8_9.out.past bk10)
  have cS8_10 := S8_10.out.cell
  have lS8_10 := S8_10.out.lt
  have Y910 := Lib.hid (Y99.out.below bk10)
  have X10 := Lib.hid (Has.newAt w10 #[.string ⟨#[103]⟩, .string ⟨#[116]⟩, .int .i64 0, .int .i64 0, .int .i64 3] 29 (g := w10.heap.size) rfl)
  have cX10 := X10.out.cell
  have lX10 := X10.out.lt
  clear bk10
  clear cTP9 lTP9 cS1_9 lS1_9 cS2_9 lS2_9 cS5_9 lS5_9 cS8_9 lS8_9 hb
  go_wp2_with fail
  refine (ch_at (L := []) (M := []) (e := 1) (PT.out o1 noP _ O1_10.out.1 wf0) (by rw [O1_10.out.2.1, O1_10.out.2.2]; exact lv10)).mono ?_
  intro e w11 hx
  obtain ⟨o11, rfl, ha, hb⟩ := hx
  have bk11 := hb.alloc hb.size (.cells #[.slice o11.A o11.n o11.c, .slice o11.A' o11.n' o11.c'] 25)
  have B11 := Lib.hid (below_from bk11 B10.out B10.out.size)
  have TP11 := Lib.hid (TP10.out.past bk11)
  have cTP11 := TP11.out.cell
  have lTP11 := TP11.out.lt
  have O1_11 := Lib.hid (Of.At.past O1_10.out bk11)
  have S1_11 := Lib.hid (S1_10.out.past bk11)
  have cS1_11 := S1_11.out.cell
  have lS1_11 := S1_11.out.lt
  have O2_11 := Lib.hid (Of.At.past O2_10.out bk11)
  have S2_11 := Lib.hid (S2_10.out.past bk11)
  have cS2_11 := S2_11.out.cell
  have lS2_11 := S2_11.out.lt
  have O5_11 := Lib.hid (Of.At.past O5_10.out bk11)
  have S5_11 := Lib.hid (S5_10.out.past bk11)
  have cS5_11 := S5_11.out.cell
  have lS5_11 := S5_11.out.lt
  have O8_11 := Lib.hid (Of.At.past O8_10.out bk11)
  have S8_11 := Lib.hid (S8_10.out.past bk11)
  have cS8_11 := S8_11.out.cell
  have lS8_11 := S8_11.out.lt
  have Y911 := Lib.hid (Y910.out.below bk11)
  have X11 := Lib.hid (X10.out.past bk11)
  have cX11 := X11.out.cell
  have lX11 := X11.out.lt
  have O11_11 := Lib.hid (Of.At.past ha (below_alloc1 w11 (.cells #[.slice o11.A o11.n o11.c, .slice o11.A' o11.n' o11.c'] 25)))
  have S11_11 := Lib.hid (Has.newAt w11 #[.slice o11.A o11.n o11.c, .slice o11.A' o11.n' o11.c'] 25 (g := w11.heap.size) rfl)
  have cS11_11 := S11_11.out.cell
  have lS11_11 := S11_11.out.lt
  clear cTP10 lTP10 cS1_10 lS1_10 cS2_10 lS2_10 cS5_10 lS5_10 cS8_10 lS8_10 cX10 lX10 hb ha bk11
  go_wp2_with fail
  refine ((show Calls _ _ _ _ (fun x w' => x = .returned (.bool true) ∧ Below _ _ w') from same_at O8_11.out O1_11.out)).mono ?_
  intro e w12 hx
  obtain ⟨rfl, hb⟩ := hx
  have B12 := Lib.hid (below_from hb B11.out B11.out.size)
  have TP12 := Lib.hid (TP11.out.past hb)
  have cTP12 := TP12.out.cell
  have lTP12 := TP12.out.lt
  have O1_12 := Lib.hid (Of.At.past O1_11.out hb)
  have S1_12 := Lib.hid (S1_11.out.past hb)
  have cS1_12 := S1_12.out.cell
  have lS1_12 := S1_12.out.lt
  have O2_12 := Lib.hid (Of.At.past O2_11.out hb)
  have S2_12 := Lib.hid (S2_11.out.past hb)
  have cS2_12 := S2_12.out.cell
  have lS2_12 := S2_12.out.lt
  have O5_12 := Lib.hid (Of.At.past O5_11.out hb)
  have S5_12 := Lib.hid (S5_11.out.past hb)
  have cS5_12 := S5_12.out.cell
  have lS5_12 := S5_12.out.lt
  have O8_12 := Lib.hid (Of.At.past O8_11.out hb)
  have S8_12 := Lib.hid (S8_11.out.past hb)
  have cS8_12 := S8_12.out.cell
  have lS8_12 := S8_12.out.lt
  have Y912 := Lib.hid (Y911.out.below hb)
  have X12 := Lib.hid (X11.out.past hb)
  have cX12 := X12.out.cell
  have lX12 := X12.out.lt
  have O11_12 := Lib.hid (Of.At.past O11_11.out hb)
  have S11_12 := Lib.hid (S11_11.out.past hb)
  have cS11_12 := S11_12.out.cell
  have lS11_12 := S11_12.out.lt
  clear cTP11 lTP11 cS1_11 lS1_11 cS2_11 lS2_11 cS5_11 lS5_11 cS8_11 lS8_11 cX11 lX11 cS11_11 lS11_11 hb
  have CV := conv_bs (P := Try.prog) Y912.out 45 Try.underlying45 Try.underlying5 Try.underlying9
  go_wp2_with fail
  clear CV
  refine (check_at O5_12.out lv11).mono ?_
  intro e w13 hx
  obtain ⟨rfl, hb⟩ := hx
  have B13 := Lib.hid (below_from hb B12.out B12.out.size)
  have TP13 := Lib.hid (TP12.out.past hb)
  have cTP13 := TP13.out.cell
  have lTP13 := TP13.out.lt
  have O1_13 := Lib.hid (Of.At.past O1_12.out hb)
  have S1_13 := Lib.hid (S1_12.out.past hb)
  have cS1_13 := S1_13.out.cell
  have lS1_13 := S1_13.out.lt
  have O2_13 := Lib.hid (Of.At.past O2_12.out hb)
  have S2_13 := Lib.hid (S2_12.out.past hb)
  have cS2_13 := S2_13.out.cell
  have lS2_13 := S2_13.out.lt
  have O5_13 := Lib.hid (Of.At.past O5_12.out hb)
  have S5_13 := Lib.hid (S5_12.out.past hb)
  have cS5_13 := S5_13.out.cell
  have lS5_13 := S5_13.out.lt
  have O8_13 := Lib.hid (Of.At.past O8_12.out hb)
  have S8_13 := Lib.hid (S8_12.out.past hb)
  have cS8_13 := S8_13.out.cell
  have lS8_13 := S8_13.out.lt
  have Y913 := Lib.hid (Y912.out.below hb)
  have X13 := Lib.hid (X12.out.past hb)
  have cX13 := X13.out.cell
  have lX13 := X13.out.lt
  have O11_13 := Lib.hid (Of.At.past O11_12.out hb)
  have S11_13 := Lib.hid (S11_12.out.past hb)
  have cS11_13 := S11_13.out.cell
  have lS11_13 := S11_13.out.lt
  clear cTP12 lTP12 cS1_12 lS1_12 cS2_12 lS2_12 cS5_12 lS5_12 cS8_12 lS8_12 cX12 lX12 cS11_12 lS11_12 hb
  go_wp2_with fail
  have bz := below_alloc1 w13 (.cells #[.string ⟨#[]⟩, .string ⟨#[]⟩, .int .i64 0, .int .i64 0, .int .i64 0] 29)
  have SZ : Sl psK (w13.alloc (.cells #[.string ⟨#[]⟩, .string ⟨#[]⟩, .int .i64 0, .int .i64 0, .int .i64 0] 29)) (some ⟨w13.heap.size, 0, none⟩) 1 1 [noP] := ⟨rfl, Nat.le_refl _, by omega, fun e => (by cases e), Row.of_has (Has.newAt w13 #[.string ⟨#[]⟩, .string ⟨#[]⟩, .int .i64 0, .int .i64 0, .int .i64 0] 29 (g := w13.heap.size) rfl), fun a ha => by rw [List.mem_singleton.1 ha]; exact wf0⟩
  have OZ : Of.At (w13.alloc (.cells #[.string ⟨#[]⟩, .string ⟨#[]⟩, .int .i64 0, .int .i64 0, .int .i64 0] 29)) ⟨some ⟨w13.heap.size, 0, none⟩, 1, 1, [noP], none, 0, 0, []⟩ ∧ [noP] = [noP] ∧ ([] : List Wt) = [] := ⟨⟨SZ, Sl.nil _ _⟩, rfl, rfl⟩
  refine (check_at OZ lv12).mono ?_
  rintro e w14 ⟨rfl, hb⟩
  have BE := Lib.hid (below_from (Below.trans bz (hb.mono bz.size)) B13.out B13.out.size)
  clear bz SZ OZ hb
  go_wp2_with fail
  go_ret
  exact ⟨ret_bool (by first | rfl | simp), BE.out⟩

end Go.Proofs.Ytnkjkgakbgjddaa
