/- A list with one in its place: with, at positions. -/
import Derived.Test.YtnkjkgakbgjddaaInP
import Derived.Test.YtnkjkgakbgjddaaSrP
import Derived.Test.YtnkjkgakbgjddaaOrder
import Derived.Test.YtnkjkgakbgjddaaRset
namespace Go.Proofs.Ytnkjkgakbgjddaa
open Go.RowKit

set_option maxRecDepth 100000 in
set_option maxHeartbeats 4000000 in
theorem withP_any (A : Option Addr) (n c : Nat) (l : List Ps) (x : Ps) (w : World) (hl : Sl psK w A n c l) (hu : Up ordP l) (hn : n ≤ 60000) (hx : x.wf) :
    Calls Try.prog 37 #[.slice A n c, x.v, .func (.func 38) #[] #[]] w fun e w' => ∃ A' n' c', e = .returned (.slice A' n' c') ∧ Own psK 29 w' w.heap.size A' n' c' (insC ordP x l) ∧ Below w.heap.size w w' := by
  have S0 := Lib.hid (Has.newAt w (boxP x) 29 (g := w.heap.size) rfl)
  have B0 := Lib.hid (below_alloc1 w (.cells (boxP x) 29))
  have c0 := S0.out.cell
  have z0 := S0.out.lt
  have SR := Lib.hid (fun W (h : Below w.heap.size w W) => searchP A n c l x W 38 (fun y => ordP y x) (hl.below h) (by omega) (enters_of Try.func38 (by kernel_rfl) rfl)
    (fun j k hk hj h => lawP.trans _ _ _ (up_at hu hk hj) h) (fun y _ W _ => order_any y x W))
  have CL := Lib.hid (fun W (h : Below w.heap.size w W) => cloneP A n c l W (hl.below h) (by omega))
  have IN : Hid (∀ A2 c2 i W, Below w.heap.size w W → Own psK 29 W w.heap.size A2 n c2 l → i ≤ n → Calls Try.prog 64 #[.slice A2 n c2, .int .i64 (i : Nat), .slice (some ⟨W.heap.size, 0, none⟩) 1 1] (W.alloc (.cells #[.string x.g, .string x.t, .int .i64 x.p, .int .i64 x.h, .int .i64 x.o] 29)) fun e w3 =>
      ∃ A' n' c', e = .returned (.slice A' n' c') ∧ Own psK 29 w3 w.heap.size A' n' c' (l.take i ++ x :: l.drop i) ∧ Below w.heap.size w w3) := by
    refine Lib.hid fun A2 c2 i W h ho hi => ?_
    refine (insertP_any w.heap.size A2 n c2 1 i W.heap.size 1 #[.string x.g, .string x.t, .int .i64 x.p, .int .i64 x.h, .int .i64 x.o] (l.flatMap psK.cells) [.string x.g, .string x.t, .int .i64 x.p, .int .i64 x.h, .int .i64 x.o] (W.alloc (.cells #[.string x.g, .string x.t, .int .i64 x.p, .int .i64 x.h, .int .i64 x.o] 29)) (ho.kept (below_alloc1 W _)).2.1 (RK.flat_one psK l)
      (Nat.le_trans h.size (below_alloc1 W _).size) (by omega) (by omega) (heap_alloc_new W _) rfl rfl (psK.one x) (fun e => by have := (ho.2.1.lt _ e).2; omega) hi).mono ?_
    rintro e w3 ⟨A3, c3, rfl, ho3, hg3⟩
    exact ⟨A3, n + 1, c3, rfl, own_ins ho hi x hx (fun _ _ h => h) ho3, h.trans (((below_alloc1 W _).mono h.size).trans (grown_below hg3 (Nat.le_trans h.size (below_alloc1 W _).size) (fun k hk => (ho.2.1.lt k hk).1)))⟩
  have HL := Lib.hid hl.len
  have HX := Lib.hid hx
  unfold boxP at c0 B0 S0 z0
  clear hl hu hx
  unfold Ps.v
  go_enter Try.func37, Try.ntmps37
  go_wp2_with (first
    | (go_at_call 64; obtain ⟨hl0, _⟩ := HS.out; refine (IN.out _ _ _ _ B2.out HO.out (by rw [← HL.out]; exact hl0)).mono ?_; rintro e w3 ⟨A3, n3, c3, rfl, hO3, hb3⟩; have B3 := Lib.hid hb3; have HO3 := Lib.hid hO3; clear hb3 hO3 c2c z2)
    | (go_at_call 62; refine (SR.out _ B0.out).mono ?_; rintro e w1 ⟨i, b, rfl, hS, hb1⟩; have B1 := Lib.hid (below_from hb1 B0.out B0.out.size); have S1 := Lib.hid (S0.out.past hb1); have c1 := S1.out.cell; have z1 := S1.out.lt; have HS := Lib.hid hS; clear hb1 hS c0 z0; cases b)
    | (go_at_call 63; refine (CL.out _ B1.out).mono ?_; rintro e w2 ⟨A2, c2, rfl, hO, hb2⟩; have B2 := Lib.hid (below_from hb2 B1.out B1.out.size); have S2 := Lib.hid (S1.out.past hb2); have c2c := S2.out.cell; have z2 := S2.out.lt; have HO := Lib.hid (hO.base B1.out.size); clear hb2 hO c1 z1
       first
       | (obtain ⟨hil, _⟩ := HS.out.2.2.2.1 rfl
          have hin : i < n := by rw [← HL.out]; exact hil
          obtain ⟨g, rfl, hgB, hgl, hfr, hO4, hG4⟩ := own_set HO.out hin x HX.out (fun _ _ h => h)
          obtain ⟨g', off', hil', hE, hgl', u0, u1, u2, u3, u4⟩ := Pss.at_ HO.out.sl hin
          injection hE with hE; injection hE with hE1 hE2; subst hE1; subst hE2; rw [Nat.zero_add] at u0 u1 u2 u3 u4
          have x0 : (0 : Int) ≤ (i : Int) := by omega
          have x1 : (i : Int) < (n : Int) := by omega
          have HO4 := Lib.hid hO4
          have HG4 := Lib.hid hG4
          generalize l[i] = y at *
          clear hO4 hG4 hil hil')
       | skip))
  all_goals go_ret
  · rw [ins_srch HS.out]
    exact ⟨_, _, _, rfl, HO3.out, B3.out⟩
  · rw [ins_srch HS.out]
    exact ⟨_, _, _, rfl, HO4.out, B2.out.trans (grown_below HG4.out B2.out.size (fun k hk => by injection hk with hk; omega))⟩
end Go.Proofs.Ytnkjkgakbgjddaa
