/- Texts that begin with a text. -/
import Derived.Test.YtnnmppnbkplamaaDelF
namespace Go.Proofs.Ytnnmppnbkplamaa
open Go.RowKit Go.Shelf

def begP (s p : ByteArray) : Bool := decide (p.size ≤ s.size) && ((s.extract 0 p.size).toList == p.toList)
set_option maxHeartbeats 1000000 in
theorem prefix1_any (s p : ByteArray) (w : World) (_hs : s.size ≤ maxLen) (_hp : p.size ≤ maxLen) : Calls Try.prog 61 #[.string s, .string p] w fun e w' => e = .returned (.bool (begP s p)) ∧ w = w' := by
  have H : Hid (begP s p = (decide (p.size ≤ s.size) && ((s.extract 0 p.size).toList == p.toList))) := Lib.hid rfl
  by_cases h : p.size ≤ s.size
  · have d : decide ((p.size : Int) ≤ (s.size : Int)) = true := decide_eq_true (by omega)
    go_enter Try.func61, Try.ntmps61
    go_wp2
    go_ret
    exact ⟨ret_bool (by rw [H.out, decide_eq_true h]; rfl), rfl⟩
  · have d : decide ((p.size : Int) ≤ (s.size : Int)) = false := decide_eq_false (by omega)
    go_enter Try.func61, Try.ntmps61
    go_wp2
    go_ret
    exact ⟨ret_bool (by rw [H.out, decide_eq_false h]; rfl), rfl⟩

theorem prefix_any (s p : ByteArray) (w : World) (hs : s.size ≤ maxLen) (hp : p.size ≤ maxLen) : Calls Try.prog 49 #[.string s, .string p] w fun e w' => e = .returned (.bool (begP s p)) ∧ w = w' := by
  have P := Lib.hid (prefix1_any s p w hs hp)
  go_enter Try.func49, Try.ntmps49
  go_wp2_with (go_at_call 61; refine P.out.mono ?_; rintro e w' ⟨rfl, rfl⟩)
  go_ret
  exact ⟨rfl, rfl⟩

theorem inf9 : (Try.prog.info? 9).map (fun i => (i.zero, i.size, i.bytes)) = some (some (.string ⟨#[]⟩), 1, 16) := by kernel_rfl
/-- The names that begin so. -/
def namesL (l : List Ob) (p : ByteArray) : List ByteArray := (l.filter fun x => begP x.name p).map (·.name)
/-- What List does to a call's store: nothing; the names lie in the list's box. -/
def Lists (_g lb : Nat) (A2 : Option Addr) (n2 c2 : Nat) (nms : List ByteArray) (A5 : Option Addr) (n5 c5 : Nat) (W W' : World) : Prop :=
  A5 = A2 ∧ n5 = n2 ∧ c5 = c2 ∧ ∃ A8 n8 c8, Has W' lb #[.slice A8 n8 c8] ∧ W'.ownsRow W.heap.size 9 1 (.slice A8 n8 c8) n8 (nms.map Value.string) ∧ nms.length = n8 ∧ W.heap.size ≤ W'.heap.size ∧
    (∀ b, b < W.heap.size → b ≠ lb → W'.heap[b]? = W.heap[b]?) ∧ W'.os = W.os ∧ W'.tape = W.tape ∧ W'.output = W.output

set_option maxRecDepth 100000 in
set_option maxHeartbeats 4000000 in
theorem list1_any (wd : World) (g pb nb lb : Nat) (A : Option Addr) (n c : Nat) (l : List Ob) (calls : Int) (A' : Option Addr) (n' c' : Nat) (ft : Int) (s : ByteArray)
    (hg : Has wd g #[.slice A n c, .int .i64 calls, .slice A' n' c', .int .i64 ft]) (hp : Has wd pb #[.pointer (some ⟨g, 0, none⟩)]) (hn : Has wd nb #[.string s]) (hlb : Has wd lb #[.slice none 0 0]) (ho : Own obK 59 wd (g + 1) A n c l) (hn6 : n ≤ 60000)
    (h1 : lb ≠ g) (_h2 : lb ≠ pb) (h3 : lb ≠ nb) (h4 : ∀ q, (Value.slice A n c).ownBlock = some q → q ≠ lb) (hs : s.size ≤ maxLen) (hnm : ∀ x ∈ l, x.name.size ≤ maxLen) (W : World) (hW : Below wd.heap.size wd W) :
    Calls Try.prog 48 #[.pointer (some ⟨pb, 0, none⟩), .pointer (some ⟨nb, 0, none⟩), .pointer (some ⟨lb, 0, none⟩)] W (Does wd g calls A' n' c' ft (Lists g lb A n c (namesL l s)) W) := by
  have G0 := Lib.hid (hg.past hW)
  have P0 := Lib.hid (hp.past hW)
  have N0 := Lib.hid (hn.past hW)
  have L0 := Lib.hid (hlb.past hW)
  have O0 := Lib.hid (ho.kept hW)
  have HNM := Lib.hid hnm
  have HS := Lib.hid hs
  have hlbl := hlb.lt
  have z0 := hW.size
  have p0c := P0.out.cell
  have p0l := P0.out.lt
  have g0c := G0.out.cell
  have g0l := G0.out.lt
  have hlen := Lib.hid ho.1
  have H4 := Lib.hid h4
  obtain ⟨i0, hi, hz0, hz1, hz2⟩ := info_parts inf9
  have hi' := Lib.hid (And.intro hi (And.intro hz0 (And.intro hz1 hz2)))
  clear hg hp hn hlb ho hnm hs hW h4 hi hz0 hz1 hz2
  go_enter Try.func48, Try.ntmps48
  go_wp2_with fail
  obtain ⟨hi, hz0, hz1, hz2⟩ := hi'.out
  go_loopg [11] n (fun gg s11 wr => ∃ (k : Nat) (A8 : Option Addr) (n8 c8 : Nat), k ≤ n ∧ n - k ≤ gg ∧ n8 ≤ k ∧ s11 = .int .i64 k ∧ Hid (Has wr lb #[.slice A8 n8 c8]) ∧ Hid (wr.ownsRow W.heap.size 9 1 (.slice A8 n8 c8) n8 ((namesL (l.take k) s).map Value.string)) ∧ Hid ((namesL (l.take k) s).length = n8) ∧ Hid (W.grownBy wr (some lb)))
  case atStart => exact ⟨0, none, 0, 0, Nat.zero_le _, by omega, Nat.le_refl _, rfl, L0, World.ownsRow_nil _ _ _ _, rfl, grown_refl _ _⟩
  case round =>
    obtain ⟨k, A8, n8, c8, hk, hgg, hnk, rfl, LB, RW, NL, GW⟩ := hrel
    by_cases hlt : k < n
    · obtain ⟨b, off, hkl, rfl, hbl, x0, x1⟩ := Obs.at_ O0.out.sl hlt
      obtain ⟨x, hx⟩ : ∃ x, l[k] = x := ⟨_, rfl⟩
      have hmx := HNM.out l[k] (List.getElem_mem hkl)
      have ft' : namesL (l.take (k + 1)) s = namesL (l.take k) s ++ if begP l[k].name s = true then [l[k].name] else [] := by
        unfold namesL
        rw [List.take_succ_eq_append_getElem hkl, List.filter_append, List.map_append]
        cases hq : begP l[k].name s <;> simp [hq]
      rw [hx] at x0 x1 hmx ft'
      have FT := Lib.hid ft'
      clear hx ft' hkl
      obtain ⟨nm, xA, xn, xc, xb⟩ := x
      simp only at x0 x1 hmx
      have bne : b ≠ lb := H4.out b rfl
      have zz := GW.out.size
      have y0 : wr.cell? ⟨b, off + k * 2, none⟩ = some (.string nm) := (GW.out.cell_far ⟨b, _, none⟩ hbl (by simpa using bne)).trans x0
      have y1 : wr.cell? ⟨b, off + k * 2 + 1, none⟩ = some (.slice xA xn xc) := (GW.out.cell_far ⟨b, _, none⟩ hbl (by simpa using bne)).trans x1
      have NB := Lib.hid ((N0.out.grown GW.out (fun e => h3 e.symm)).alloc (.cells #[.string nm, .slice xA xn xc] 59))
      have XB := Lib.hid (Has.newAt wr #[.string nm, .slice xA xn xc] 59 (g := wr.heap.size) rfl)
      have LB1 := Lib.hid (LB.out.alloc (.cells #[.string nm, .slice xA xn xc] 59))
      have lbw := LB.out.lt
      have nbc := NB.out.cell
      have nbl := NB.out.lt
      have xbc := XB.out.cell
      have xbl := XB.out.lt
      have l1c := LB1.out.cell
      have l1f := LB1.out.free
      have l1l := LB1.out.lt
      have PF := Lib.hid (fun w' => prefix_any nm s w' hmx HS.out)
      cases hq : begP nm s with
      | false =>
        rw [hq] at PF FT
        clear hq
        go_wp2_with (go_at_call 49; refine (PF.out _).mono ?_; rintro e w' ⟨rfl, rfl⟩)
        go_roundg (n - (k + 1))
        case measure => omega
        case rel => exact ⟨k + 1, A8, n8, c8, by omega, by omega, by omega, by go_num, LB1, Lib.hid (by rw [FT.out]; simpa using RW.out.kept (row := none) (World.grownBy_alloc wr (.cells #[.string nm, .slice xA xn xc] 59) none) (by cases hv : (Value.slice A8 n8 c8).ownBlock <;> simp)), Lib.hid (by rw [FT.out]; simpa using NL.out), grown_then GW.out ((below_alloc1 wr _).mono zz)⟩
      | true =>
        rw [hq] at PF FT
        clear hq
        have R1 := Lib.hid (RW.out.kept (row := none) (World.grownBy_alloc wr (.cells #[.string nm, .slice xA xn xc] 59) none) (by cases hv : (Value.slice A8 n8 c8).ownBlock <;> simp))
        have R2 := Lib.hid (R1.out.kept (row := none) (World.grownBy_alloc _ (.cells #[.string nm] 9) none) (by cases hv : (Value.slice A8 n8 c8).ownBlock <;> simp))
        have XZ := Lib.hid (Has.newAt (wr.alloc (.cells #[.string nm, .slice xA xn xc] 59)) #[.string nm] 9 (g := wr.heap.size + 1) (by simp))
        have L2 := Lib.hid (LB1.out.alloc (.cells #[.string nm] 9))
        have q2 := Lib.hid (Has.news (cs := [.string nm]) XZ.out)
        have q4 : n8 + 1 ≤ maxLen := by unfold maxLen; omega
        have q5 : (n8 + 1) * 16 ≤ 140737488355328 := by omega
        have q6 : W.heap.size ≤ ((wr.alloc (.cells #[.string nm, .slice xA xn xc] 59)).alloc (.cells #[.string nm] 9)).heap.size := by simp; omega
        have Q6 := Lib.hid q6
        clear q6
        go_wp2_with (first | (go_at_call 49; refine (PF.out _).mono ?_; rintro e w' ⟨rfl, rfl⟩) | (at_builtin; refine wpList_append_own _ rfl _ _ 37 rfl W.heap.size 9 i0 _ 1 16 Try.underlying37 hi hz0 hz1 hz2 rfl (by decide) _ _ _ rfl R2.out ⟨wr.heap.size + 1, 0, none⟩ 1 1 [.string nm] rfl rfl q2.out (by simp [Value.oneCell']) q4 q5 Q6.out ?_; intro v' w5 hown hgrow _; obtain ⟨A9, c9, rfl⟩ := owns_form hown; have LR := Lib.hid (fun q hq => (R2.out.lt q hq).1); have L5 := Lib.hid (Has.beside L2.out hgrow (fun e => by have := LR.out lb e.symm; omega)); have l5c := L5.out.cell; have l5f := L5.out.free; have l5l := L5.out.lt; have OW5 := Lib.hid hown; have GR5 := Lib.hid hgrow; clear hown hgrow))
        go_roundg (n - (k + 1))
        case measure => omega
        case rel =>
          have BW : Below W.heap.size wr w5 := (((Below.refl _ wr).alloc zz _).alloc (by simp; omega) _).trans (owns_below R2.out GR5.out Q6.out)
          have gs := setCells_grown lb [.slice A9 (n8 + 1) c9] 0 w5
          refine ⟨k + 1, A9, n8 + 1, c9, by omega, by omega, by omega, by go_num, L5.out.setAt 0 (.slice A9 (n8 + 1) c9) (by show 0 < 1; omega), Lib.hid ?_, Lib.hid (by rw [FT.out]; simp [NL.out]), Lib.hid (grown_trans (grown_then GW.out BW) gs)⟩
          rw [FT.out]
          simp only [if_true, List.map_append, List.map_cons, List.map_nil]
          refine OW5.out.kept gs ?_
          cases hv : (Value.slice A9 (n8 + 1) c9).ownBlock with
          | none => exact .inl rfl
          | some q => exact .inr (fun e => by injection e with e; have := (OW5.out.lt q hv).1; omega)
    · obtain rfl : k = n := by omega
      go_wp2_with fail
      go_end0
      have hall : l.take k = l := List.take_of_length_le (by rw [hlen.out]; omega)
      refine ⟨⟨_, rfl⟩, A, k, c, G0.out.grown GW.out (fun e => h1 e.symm), ⟨rfl, rfl, rfl, A8, n8, c8, LB.out, by have := RW.out; rw [hall] at this; exact this, by have := NL.out; rw [hall] at this; exact this, GW.out.size, fun b hb hne => GW.out.block b hb (fun e => hne (by injection e)), GW.out.os, GW.out.tape, GW.out.output⟩,
        fun b cs hb hh => hh.grown GW.out (by omega)⟩

end Go.Proofs.Ytnnmppnbkplamaa
