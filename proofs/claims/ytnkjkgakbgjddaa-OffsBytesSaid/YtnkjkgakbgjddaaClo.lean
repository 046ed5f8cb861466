/- The changes of Put and of Hold. -/
import Derived.Test.YtnkjkgakbgjddaaChg
namespace Go.Proofs.Ytnkjkgakbgjddaa
open Go.RowKit

set_option maxRecDepth 100000 in
set_option maxHeartbeats 4000000 in
theorem putc_any (o : Of) (p : Ps) (pb : Nat) (w : World) (ho : Of.At w o) (hp : Has w pb (boxP p)) (hpw : p.wf) (hu : Up ordP o.L) (hn : o.n ≤ 60000) :
    Calls Try.prog 36 #[o.v, .pointer (some ⟨pb, 0, none⟩)] w (ChgF o (insC ordP p o.L) o.M w) := by
  have S0 := Lib.hid ((Has.newAt w o.box 25 (g := w.heap.size) rfl).alloc (.cells #[.slice none 0 0, .slice none 0 0] 25))
  have R0 := Lib.hid (Has.newAt (w.alloc (.cells o.box 25)) #[.slice none 0 0, .slice none 0 0] 25 (g := w.heap.size + 1) (by simp))
  have B0 := Lib.hid ((below_alloc1 w (.cells o.box 25)).alloc (by simp) (.cells #[.slice none 0 0, .slice none 0 0] 25))
  have Z0 := Lib.hid (show w.heap.size + 2 ≤ ((w.alloc (.cells o.box 25)).alloc (.cells #[.slice none 0 0, .slice none 0 0] 25)).heap.size from by simp)
  have P0 := Lib.hid (hp.past B0.out)
  have WP := Lib.hid (fun W (h : Below w.heap.size w W) => withP_any o.A o.n o.c o.L p W (ho.1.below h) hu hn hpw)
  have HO := Lib.hid ho
  have p0c := P0.out.cell
  have p0l := P0.out.lt
  clear ho hp hpw hu
  unfold boxP at p0c
  go_enter Try.func36, Try.ntmps36
  go_wp2_with (refine (WP.out _ B0.out).mono ?_; rintro e w1 ⟨A1, n1, c1, rfl, hO, hb⟩; have B1 := Lib.hid (below_from hb B0.out B0.out.size); have z1 := Lib.hid (Nat.le_trans Z0.out hb.size); have S1 := Lib.hid (S0.out.past hb); have R1 := Lib.hid (R0.out.past hb); have s1c := S1.out.cell; have s1l := S1.out.lt; have s1f := S1.out.free; have r1c := R1.out.cell; have r1l := R1.out.lt; have r1f := R1.out.free
               have NEW : Hid (Of.At w1 ⟨A1, n1, c1, insC ordP p o.L, o.A', o.n', o.c', o.M⟩ ∧ Of.From (w.heap.size + 2) o ⟨A1, n1, c1, insC ordP p o.L, o.A', o.n', o.c', o.M⟩) := Lib.hid ⟨⟨hO.sl, HO.out.2.below B1.out⟩, (show Of.From _ o ⟨A1, n1, c1, insC ordP p o.L, o.A', o.n', o.c', o.M⟩ from ⟨.inr fun b off e => (hO.lt e).1, .inl ⟨rfl, rfl, rfl, rfl⟩⟩).mono Z0.out⟩
               clear hb hO p0c p0l)
  have G2 := setCells_grown w.heap.size [.slice A1 n1 c1] 0 w1
  have G3 := setCells_grown (w.heap.size + 1) [.slice A1 n1 c1, .slice o.A' o.n' o.c'] 0 (w1.setCells w.heap.size 0 [.slice A1 n1 c1])
  refine bodyPost_ret (v := (⟨A1, n1, c1, insC ordP p o.L, o.A', o.n', o.c', o.M⟩ : Of).v) (by simp [results, Try.results36, go_sem, r1c]) rfl ?_
  have b2 := B1.out.trans (grown_below G2 B1.out.size (fun k hk => by injection hk with hk; omega))
  have b3 := b2.trans (grown_below G3 (Nat.le_trans B1.out.size G2.size) (fun k hk => by injection hk with hk; omega))
  exact ⟨⟨A1, n1, c1, insC ordP p o.L, o.A', o.n', o.c', o.M⟩, rfl, (NEW.out.1.kept NEW.out.2 HO.out b2 G2 (by omega)).kept NEW.out.2 HO.out b3 G3 (by omega), rfl, rfl, NEW.out.2.mono (by omega), b3⟩

set_option maxRecDepth 100000 in
set_option maxHeartbeats 4000000 in
theorem holdc_any (o : Of) (p : Wt) (pb : Nat) (w : World) (ho : Of.At w o) (hp : Has w pb (boxW p)) (hpw : p.wf) (hu : Up ordW o.M) (hn : o.n' ≤ 60000) :
    Calls Try.prog 42 #[o.v, .pointer (some ⟨pb, 0, none⟩)] w (ChgF o o.L (insC ordW p o.M) w) := by
  have S0 := Lib.hid ((Has.newAt w o.box 25 (g := w.heap.size) rfl).alloc (.cells #[.slice none 0 0, .slice none 0 0] 25))
  have R0 := Lib.hid (Has.newAt (w.alloc (.cells o.box 25)) #[.slice none 0 0, .slice none 0 0] 25 (g := w.heap.size + 1) (by simp))
  have B0 := Lib.hid ((below_alloc1 w (.cells o.box 25)).alloc (by simp) (.cells #[.slice none 0 0, .slice none 0 0] 25))
  have Z0 := Lib.hid (show w.heap.size + 2 ≤ ((w.alloc (.cells o.box 25)).alloc (.cells #[.slice none 0 0, .slice none 0 0] 25)).heap.size from by simp)
  have P0 := Lib.hid (hp.past B0.out)
  have WP := Lib.hid (fun W (h : Below w.heap.size w W) => withW_any o.A' o.n' o.c' o.M p W (ho.2.below h) hu hn hpw)
  have HO := Lib.hid ho
  have p0c := P0.out.cell
  have p0l := P0.out.lt
  clear ho hp hpw hu
  unfold boxW at p0c
  go_enter Try.func42, Try.ntmps42
  go_wp2_with (refine (WP.out _ B0.out).mono ?_; rintro e w1 ⟨A1, n1, c1, rfl, hO, hb⟩; have B1 := Lib.hid (below_from hb B0.out B0.out.size); have z1 := Lib.hid (Nat.le_trans Z0.out hb.size); have S1 := Lib.hid (S0.out.past hb); have R1 := Lib.hid (R0.out.past hb); have s1c := S1.out.cell; have s1l := S1.out.lt; have s1f := S1.out.free; have r1c := R1.out.cell; have r1l := R1.out.lt; have r1f := R1.out.free
               have NEW : Hid (Of.At w1 ⟨o.A, o.n, o.c, o.L, A1, n1, c1, insC ordW p o.M⟩ ∧ Of.From (w.heap.size + 2) o ⟨o.A, o.n, o.c, o.L, A1, n1, c1, insC ordW p o.M⟩) := Lib.hid ⟨⟨HO.out.1.below B1.out, hO.sl⟩, (show Of.From _ o ⟨o.A, o.n, o.c, o.L, A1, n1, c1, insC ordW p o.M⟩ from ⟨.inl ⟨rfl, rfl, rfl, rfl⟩, .inr fun b off e => (hO.lt e).1⟩).mono Z0.out⟩
               clear hb hO p0c p0l)
  have G2 := setCells_grown w.heap.size [.slice A1 n1 c1] 1 w1
  have G3 := setCells_grown (w.heap.size + 1) [.slice o.A o.n o.c, .slice A1 n1 c1] 0 (w1.setCells w.heap.size 1 [.slice A1 n1 c1])
  refine bodyPost_ret (v := (⟨o.A, o.n, o.c, o.L, A1, n1, c1, insC ordW p o.M⟩ : Of).v) (by simp [results, Try.results42, go_sem, r1c]) rfl ?_
  have b2 := B1.out.trans (grown_below G2 B1.out.size (fun k hk => by injection hk with hk; omega))
  have b3 := b2.trans (grown_below G3 (Nat.le_trans B1.out.size G2.size) (fun k hk => by injection hk with hk; omega))
  exact ⟨⟨o.A, o.n, o.c, o.L, A1, n1, c1, insC ordW p o.M⟩, rfl, (NEW.out.1.kept NEW.out.2 HO.out b2 G2 (by omega)).kept NEW.out.2 HO.out b3 G3 (by omega), rfl, rfl, NEW.out.2.mono (by omega), b3⟩

end Go.Proofs.Ytnkjkgakbgjddaa
