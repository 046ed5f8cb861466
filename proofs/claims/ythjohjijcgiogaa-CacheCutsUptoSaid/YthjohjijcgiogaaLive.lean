/- live: the chapter's example. -/
import Derived.Test.YthjohjijcgiogaaPutOk
namespace Go.Proofs.Ythjohjijcgiogaa
open Go.RowKit

/-- No chunk lies in block g. -/
def Avoid (g : Nat) (A : Option Addr) (l : List Hd) : Prop := (l ≠ [] → ∀ b off, A = some ⟨b, off, none⟩ → b ≠ g) ∧ ∀ x ∈ l, ∀ b off, x.A = some ⟨b, off, none⟩ → b ≠ g
theorem New.avoid {w : World} {l0 l' : List Hd} {A A' : Option Addr} {g : Nat} (h : New w l0 A' l') (ha : Avoid g A l0) (hg : g < w.heap.size) : Avoid g A' l' := by
  refine ⟨fun _ b off e => by have := h.1 b off e; omega, fun x hx b off e => ?_⟩
  rcases h.2 x hx with h | h
  · exact ha.2 x h b off e
  · have := h b off e; omega
theorem Hds.stored {w w' : World} {g : Nat} {A : Option Addr} {n c : Nat} {l : List Hd} (h : Hds w A n c l) (hg : w.grownBy w' (some g)) (ha : Avoid g A l) : Hds w' A n c l :=
  ⟨h.len, h.cap, h.max, h.adr, fun hn => by
    have hl : l ≠ [] := fun e => hn (by rw [e]; rfl)
    obtain ⟨b, off, rfl, hlt, hc⟩ := h.row hn
    exact ⟨b, off, rfl, Nat.lt_of_lt_of_le hlt hg.size, fun j hj => (hg.cell_far ⟨b, off + j, none⟩ hlt (fun e2 => ha.1 hl b off rfl (by injection e2))).trans (hc j hj)⟩, (fun x hx => ⟨(h.each x hx).sl.apart hg (fun b off e e2 => ha.2 x hx b off e (by injection e2)) (fun _ _ => trivial), (h.each x hx).max, (h.each x hx).nm, (h.each x hx).wf⟩)⟩

def nmA : ByteArray := ⟨#[97]⟩
def nmB : ByteArray := ⟨#[98]⟩
def nmC : ByteArray := ⟨#[99]⟩
def liveL : Nat → List Ch
  | 0 => []
  | 1 => [⟨⟨#[97]⟩, 0, [1, 2]⟩]
  | 2 => [⟨⟨#[98]⟩, 0, [1, 2]⟩, ⟨⟨#[97]⟩, 0, [1, 2]⟩]
  | _ => [⟨⟨#[99]⟩, 0, [1, 2]⟩, ⟨⟨#[98]⟩, 0, [1, 2]⟩]
theorem live0 : putE 4 (liveL 0) ⟨#[97]⟩ 0 = 0 ∧ putCap 4 (liveL 0) ⟨#[97]⟩ 0 = 4 ∧ putL 4 (liveL 0) ⟨#[97]⟩ 0 [1, 2] = liveL 1 := by decide +kernel
theorem live1 : putE 4 (liveL 1) ⟨#[98]⟩ 0 = 0 ∧ putCap 4 (liveL 1) ⟨#[98]⟩ 0 = 4 ∧ putL 4 (liveL 1) ⟨#[98]⟩ 0 [1, 2] = liveL 2 := by decide +kernel
theorem live2 : putE 4 (liveL 2) ⟨#[99]⟩ 0 = 0 ∧ putCap 4 (liveL 2) ⟨#[99]⟩ 0 = 4 ∧ putL 4 (liveL 2) ⟨#[99]⟩ 0 [1, 2] = liveL 3 := by decide +kernel

/-- One Put of the example. -/
theorem live_put (k : Nat) (nm : ByteArray) (A : Option Addr) (n c : Nat) (l : List Hd) (b : Nat) (w : World) (hl : Hds w A n c l) (hv : l.map Hd.val = liveL k) (hb : Has w b #[.int .u8 1, .int .u8 2]) (hn : nm.size ≤ 60)
    (he : putE 4 (liveL k) nm 0 = 0 ∧ putCap 4 (liveL k) nm 0 = 4 ∧ putL 4 (liveL k) nm 0 [1, 2] = liveL (k + 1)) :
    Calls Try.prog 20 #[.agg #[.int .i64 4, .slice A n c], .string nm, .int .i64 0, .slice (some ⟨b, 0, none⟩) 2 2] w (CRes l (fun v => .tuple #[v, .int .i64 0]) 4 (liveL (k + 1)) w) := by
  have hn' : n ≤ 60000 := by
    rw [← hl.len, ← List.length_map (f := Hd.val), hv]
    unfold liveL
    split <;> decide
  have hs : Sl u8K w (some ⟨b, 0, none⟩) 2 2 [1, 2] := ⟨rfl, Nat.le_refl _, by omega, fun h => (by cases h), Row.of_has hb, fun _ _ => trivial⟩
  have h := put_any 4 A n c l nm 0 (some ⟨b, 0, none⟩) 2 2 [1, 2] w hl hn' hs (by unfold maxLen; omega) (by decide)
  rw [hv, he.1, he.2.1, he.2.2] at h
  exact h

set_option maxHeartbeats 4000000 in
set_option maxRecDepth 100000 in
theorem live_any (w : World) : Calls Try.prog 11 #[] w fun e w' => e = .returned (.bool true) ∧ Below w.heap.size w w' := by
  have NW := Lib.hid (fun w' => (show Calls Try.prog 13 #[.int .i64 4] w' (CRes [] (fun v => .tuple #[v, .int .i64 0]) 4 [] w') from new_any 4 w'))
  have LP := Lib.hid live_put
  go_enter Try.func11, Try.ntmps11
  go_wp2_with fail
  refine (NW.out _).mono ?_
  intro e w1 hx
  obtain ⟨A0, n0, c0, l0, rfl, hh0, hv0, hb1, _⟩ := hx
  have l00 : l0 = [] := by simpa using hv0
  subst l00
  have n00 : n0 = 0 := hh0.len.symm
  subst n00
  have H0 := Lib.hid hh0
  have B1 := Lib.hid hb1
  have N1 := Lib.hid ((Has.newAt w1 #[.int .i64 4, .slice A0 0 c0] 24 (g := w1.heap.size) rfl).alloc (.cells #[.string ⟨#[97]⟩, .string ⟨#[98]⟩, .string ⟨#[99]⟩] 9))
  have NS := Lib.hid (Has.newAt (w1.alloc (.cells #[.int .i64 4, .slice A0 0 c0] 24)) #[.string ⟨#[97]⟩, .string ⟨#[98]⟩, .string ⟨#[99]⟩] 9 (g := w1.heap.size + 1) (by simp))
  clear hh0 hv0 hb1
  go_wp2_with fail
  go_loopg [13] 3 (fun gg s wr => ∃ (k : Nat) (A : Option Addr) (n c : Nat) (l : List Hd), k ≤ 3 ∧ 3 - k ≤ gg ∧ s = .int .i64 k ∧ Hid (Has wr w1.heap.size #[.int .i64 4, .slice A n c]) ∧ Hid (Has wr (w1.heap.size + 1) #[.string ⟨#[97]⟩, .string ⟨#[98]⟩, .string ⟨#[99]⟩]) ∧
    Hid (Hds wr A n c l) ∧ Hid (l.map Hd.val = liveL k) ∧ Hid (Avoid w1.heap.size A l) ∧ Hid (Below w.heap.size w wr))
  case atStart =>
    have q : Avoid w1.heap.size A0 [] := ⟨fun h => absurd rfl h, by simp⟩
    exact ⟨0, A0, 0, c0, [], by omega, by omega, rfl, N1, NS, (H0.out.alloc _).alloc _, rfl, q, (B1.out.alloc B1.out.size _).alloc (by have := B1.out.size; simp; omega) _⟩
  case round =>
    obtain ⟨k, A, n, c, l, hk, hgg, rfl, h1, hs, hH, hv, hA, hB⟩ := hrel
    clear H0 N1 NS
    have c1 := h1.out.cell
    have m1 := h1.out.lt
    have cs := hs.out.cell
    by_cases hlt : k < 3
    · rcases (show k = 0 ∨ k = 1 ∨ k = 2 by omega) with rfl | rfl | rfl
      · have BT := Lib.hid (Has.newAt wr #[.int .u8 1, .int .u8 2] 5 (g := wr.heap.size) rfl)
        have b0 := below_alloc1 wr (.cells #[.int .u8 1, .int .u8 2] 5)
        have M1 := Lib.hid (h1.out.past b0)
        have MS := Lib.hid (hs.out.past b0)
        have HM := Lib.hid (hH.out.below b0)
        have BB := Lib.hid (below_from b0 hB.out hB.out.size)
        clear b0
        go_wp2_with fail
        refine (LP.out 0 _ A n c l wr.heap.size _ HM.out hv.out BT.out (by decide) live0).mono ?_
        intro e w2 hx
        obtain ⟨A', n', c', l', rfl, hh', hv', hb2, hnew⟩ := hx
        have T1 := Lib.hid (M1.out.past hb2)
        have TS := Lib.hid (MS.out.past hb2)
        have t1 := T1.out.cell
        have t1f := T1.out.free
        have t1l := T1.out.lt
        have HV := Lib.hid hv'
        have HH := Lib.hid hh'
        have AV := Lib.hid (hnew.avoid hA.out (by have := M1.out.lt; exact this))
        have B2 := Lib.hid (below_from hb2 BB.out BB.out.size)
        clear hv' hh' hb2 hnew c1 m1 cs
        go_wp2_with fail
        go_roundg (3 - (0 + 1))
        case measure => omega
        case rel =>
          have gs := setCells_grown w1.heap.size [.int .i64 4, .slice A' n' c'] 0 w2
          have bs : Below w.heap.size w (w2.setCells w1.heap.size 0 [.int .i64 4, .slice A' n' c']) := B2.out.grown gs B2.out.size (fun q hq => by injection hq with hq; have := B1.out.size; omega)
          exact ⟨1, A', n', c', l', by omega, by omega, rfl, (T1.out.set [.int .i64 4, .slice A' n' c'] rfl).alloc _, (TS.out.grown gs (by omega)).alloc _, (HH.out.stored gs AV.out).alloc _, HV.out, AV.out, bs.alloc (by have := bs.size; exact this) _⟩
      · have BT := Lib.hid (Has.newAt wr #[.int .u8 1, .int .u8 2] 5 (g := wr.heap.size) rfl)
        have b0 := below_alloc1 wr (.cells #[.int .u8 1, .int .u8 2] 5)
        have M1 := Lib.hid (h1.out.past b0)
        have MS := Lib.hid (hs.out.past b0)
        have HM := Lib.hid (hH.out.below b0)
        have BB := Lib.hid (below_from b0 hB.out hB.out.size)
        clear b0
        go_wp2_with fail
        refine (LP.out 1 _ A n c l wr.heap.size _ HM.out hv.out BT.out (by decide) live1).mono ?_
        intro e w2 hx
        obtain ⟨A', n', c', l', rfl, hh', hv', hb2, hnew⟩ := hx
        have T1 := Lib.hid (M1.out.past hb2)
        have TS := Lib.hid (MS.out.past hb2)
        have t1 := T1.out.cell
        have t1f := T1.out.free
        have t1l := T1.out.lt
        have HV := Lib.hid hv'
        have HH := Lib.hid hh'
        have AV := Lib.hid (hnew.avoid hA.out (by have := M1.out.lt; exact this))
        have B2 := Lib.hid (below_from hb2 BB.out BB.out.size)
        clear hv' hh' hb2 hnew c1 m1 cs
        go_wp2_with fail
        go_roundg (3 - (1 + 1))
        case measure => omega
        case rel =>
          have gs := setCells_grown w1.heap.size [.int .i64 4, .slice A' n' c'] 0 w2
          have bs : Below w.heap.size w (w2.setCells w1.heap.size 0 [.int .i64 4, .slice A' n' c']) := B2.out.grown gs B2.out.size (fun q hq => by injection hq with hq; have := B1.out.size; omega)
          exact ⟨2, A', n', c', l', by omega, by omega, rfl, (T1.out.set [.int .i64 4, .slice A' n' c'] rfl).alloc _, (TS.out.grown gs (by omega)).alloc _, (HH.out.stored gs AV.out).alloc _, HV.out, AV.out, bs.alloc (by have := bs.size; exact this) _⟩
      · have BT := Lib.hid (Has.newAt wr #[.int .u8 1, .int .u8 2] 5 (g := wr.heap.size) rfl)
        have b0 := below_alloc1 wr (.cells #[.int .u8 1, .int .u8 2] 5)
        have M1 := Lib.hid (h1.out.past b0)
        have MS := Lib.hid (hs.out.past b0)
        have HM := Lib.hid (hH.out.below b0)
        have BB := Lib.hid (below_from b0 hB.out hB.out.size)
        clear b0
        go_wp2_with fail
        refine (LP.out 2 _ A n c l wr.heap.size _ HM.out hv.out BT.out (by decide) live2).mono ?_
        intro e w2 hx
        obtain ⟨A', n', c', l', rfl, hh', hv', hb2, hnew⟩ := hx
        have T1 := Lib.hid (M1.out.past hb2)
        have TS := Lib.hid (MS.out.past hb2)
        have t1 := T1.out.cell
        have t1f := T1.out.free
        have t1l := T1.out.lt
        have HV := Lib.hid hv'
        have HH := Lib.hid hh'
        have AV := Lib.hid (hnew.avoid hA.out (by have := M1.out.lt; exact this))
        have B2 := Lib.hid (below_from hb2 BB.out BB.out.size)
        clear hv' hh' hb2 hnew c1 m1 cs
        go_wp2_with fail
        go_roundg (3 - (2 + 1))
        case measure => omega
        case rel =>
          have gs := setCells_grown w1.heap.size [.int .i64 4, .slice A' n' c'] 0 w2
          have bs : Below w.heap.size w (w2.setCells w1.heap.size 0 [.int .i64 4, .slice A' n' c']) := B2.out.grown gs B2.out.size (fun q hq => by injection hq with hq; have := B1.out.size; omega)
          exact ⟨3, A', n', c', l', by omega, by omega, rfl, (T1.out.set [.int .i64 4, .slice A' n' c'] rfl).alloc _, (TS.out.grown gs (by omega)).alloc _, (HH.out.stored gs AV.out).alloc _, HV.out, AV.out, bs.alloc (by have := bs.size; exact this) _⟩
    · obtain rfl : k = 3 := by omega
      have hl2 : l.length = 2 := by rw [← List.length_map (f := Hd.val), hv.out]; rfl
      have hn2 : n = 2 := by rw [← hH.out.len]; exact hl2
      subst hn2
      obtain ⟨b, off, hk0, rfl, hbl, x0, x1, x2⟩ := Hds.at_ hH.out (show 0 < 2 by omega)
      obtain ⟨b', off', hk1, e, _, y0, y1, y2⟩ := Hds.at_ hH.out (show 1 < 2 by omega)
      injection e with e; injection e with e1 e2 e3
      subst e1 e2
      have e0 : l[0].name = ⟨#[99]⟩ := by
        have : (l.map Hd.val)[0]? = some l[0].val := by rw [List.getElem?_map, List.getElem?_eq_getElem hk0]; rfl
        rw [hv.out] at this
        exact congrArg Ch.name (Option.some.inj this).symm
      have e1 : l[1].name = ⟨#[98]⟩ := by
        have : (l.map Hd.val)[1]? = some l[1].val := by rw [List.getElem?_map, List.getElem?_eq_getElem hk1]; rfl
        rw [hv.out] at this
        exact congrArg Ch.name (Option.some.inj this).symm
      rw [e0] at x0
      rw [e1] at y0
      simp only [Nat.zero_mul, Nat.add_zero, Nat.one_mul] at x0 y0
      clear e0 e1
      go_wp2_with fail
      go_ret
      exact ⟨ret_bool (by rfl), hB.out⟩

end Go.Proofs.Ythjohjijcgiogaa
