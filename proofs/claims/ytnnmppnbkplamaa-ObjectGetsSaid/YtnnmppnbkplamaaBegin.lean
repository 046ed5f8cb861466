/- begin: a store in which a call is made. -/
import Derived.Test.YtnnmppnbkplamaaMay
import Derived.Test.YtnnmppnbkplamaaCln
import Derived.Test.YtnnmppnbkplamaaInp
namespace Go.Proofs.Ytnnmppnbkplamaa
open Go.RowKit Go.Shelf

/-- The fault of a call; 0: none. -/
def faultC (calls : Int) (fs : List Ft) : Int := ((fs.find? fun f => decide (f.call = calls)).map (·.kind)).getD 0
theorem begin1_any (f : Ft) (g : Nat) (A : Option Addr) (n c : Nat) (calls : Int) (A' : Option Addr) (n' c' : Nat) (w : World) (hg : Has w g #[.slice A n c, .int .i64 calls, .slice A' n' c']) :
    Calls Try.prog 54 #[.agg #[.int .i64 f.call, .int .i64 f.kind], .pointer (some ⟨g, 0, none⟩)] w fun e w' => e = .returned (.bool (decide (f.call = calls))) ∧ Below w.heap.size w w' := by
  obtain ⟨fc, fk⟩ := f
  have B := Lib.hid (below_alloc1 w (.cells #[.int .i64 fc, .int .i64 fk] 48))
  have G := Lib.hid (hg.alloc (.cells #[.int .i64 fc, .int .i64 fk] 48))
  have c1 := G.out.cell
  have l1 := G.out.lt
  clear hg
  cases h1 : decide (fc = calls)
  all_goals (go_enter Try.func54, Try.ntmps54; go_wp2; go_ret; exact ⟨ret_bool (by first | rfl | simp_all), B.out⟩)

/-- What a call's store is. -/
def BRes (l : List Ob) (calls : Int) (fs : List Ft) (ft : Int) (w : World) (e : Ending) (w' : World) : Prop :=
  ∃ (g : Nat) (A2 : Option Addr) (c2 : Nat) (A3 : Option Addr) (c3 : Nat), e = .returned (.pointer (some ⟨g, 0, none⟩)) ∧ w.heap.size ≤ g ∧ Has w' g #[.slice A2 l.length c2, .int .i64 (calls + 1), .slice A3 fs.length c3, .int .i64 ft] ∧
    Own obK 59 w' (g + 1) A2 l.length c2 l ∧ Own ftK 48 w' (g + 1) A3 fs.length c3 fs ∧ Below w.heap.size w w'

set_option maxRecDepth 100000 in
set_option maxHeartbeats 4000000 in
theorem begin_any (A : Option Addr) (n c : Nat) (l : List Ob) (calls : Int) (A' : Option Addr) (n' c' : Nat) (fs : List Ft) (w : World) (hl : Obs w A n c l) (hf : Fts w A' n' c' fs) (h1 : n ≤ 1024) (h2 : n' ≤ 1024) (h3 : 0 ≤ calls) (h4 : calls < 1099511627776) :
    Calls Try.prog 30 #[stV A n c calls A' n' c'] w (BRes l calls fs (faultC calls fs) w) := by
  have hln := hl.len
  have hfn := hf.len
  obtain ⟨W2, hW2⟩ : ∃ W2, W2 = (w.alloc (.cells #[.slice A n c, .int .i64 calls, .slice A' n' c'] 25)).alloc (.cells #[.slice A n c, .int .i64 calls, .slice A' n' c', .int .i64 0] 61) := ⟨_, rfl⟩
  have B2 := Lib.hid (show Below w.heap.size w W2 from by rw [hW2]; exact ((Below.refl _ w).alloc (Nat.le_refl _) _).alloc (by simp) _)
  have z2 : W2.heap.size = w.heap.size + 2 := by rw [hW2]; simp
  have SB := Lib.hid (show Has W2 w.heap.size #[.slice A n c, .int .i64 calls, .slice A' n' c'] from by rw [hW2]; exact (Has.newAt w _ 25 rfl).alloc _)
  have CB := Lib.hid (show Has W2 (w.heap.size + 1) #[.slice A n c, .int .i64 calls, .slice A' n' c', .int .i64 0] from by rw [hW2]; exact Has.newAt _ _ 61 (by simp))
  have IX := Lib.hid (indexFt A' n' c' fs W2 54 #[.pointer (some ⟨w.heap.size, 0, none⟩)] (fun _ W => Below W2.heap.size W2 W) (fun k => ((fs[k]?).map fun f => decide (f.call = calls)).getD false) (enters_of Try.func54 (by kernel_rfl) rfl) (by omega) (Below.refl _ _) (fun j W hW => (hf.below B2.out).below hW)
    (fun j hj W hW => (begin1_any fs[j] w.heap.size A n c calls A' n' c' W (SB.out.past hW)).mono fun e w' ⟨he, hb⟩ => ⟨by rw [List.getElem?_eq_getElem hj]; exact he, below_from hb hW hW.size⟩))
  have HL := Lib.hid hl
  have HF := Lib.hid hf
  have HW2 := Lib.hid hW2
  have HLN := Lib.hid hln
  have HFN := Lib.hid hfn
  have Z2 := Lib.hid z2
  have wc : IntKind.i64.wrap (calls + 1) = calls + 1 := IntWalk.i64_in _ (by omega)
  clear hl hf hW2 hln hfn z2
  go_enter Try.func30, Try.ntmps30
  go_wp2_with fail
  rw [← HW2.out]
  refine IX.out.mono ?_
  rintro e w3 ⟨r, rfl, hfd⟩
  have FD := Lib.hid hfd
  clear hfd
  rcases FD.out with ⟨rfl, hnone, hb3⟩ | ⟨k, rfl, hkn, hkt, hkb, hb3⟩
  · obtain ⟨W4, hW4⟩ : ∃ W4, W4 = w3 := ⟨_, rfl⟩
    have B4 := Lib.hid (show Below w.heap.size w W4 from by rw [hW4]; exact below_from hb3 B2.out B2.out.size)
    have S4 := Lib.hid (show Has W4 w.heap.size #[.slice A n c, .int .i64 calls, .slice A' n' c'] from by rw [hW4]; exact SB.out.past hb3)
    have C4 := Lib.hid (show Has W4 (w.heap.size + 1) #[.slice A n c, .int .i64 calls, .slice A' n' c', .int .i64 0] from by rw [hW4]; exact CB.out.past hb3)
    rw [← hW4]
    have FTE := Lib.hid (show faultC calls fs = 0 from by
      unfold faultC
      rw [List.find?_eq_none.2]
      · rfl
      · intro f hf
        obtain ⟨j, hj, rfl⟩ := List.getElem_of_mem hf
        have := hnone j (by rw [← HFN.out]; exact hj)
        simp only [List.getElem?_eq_getElem hj, Option.map_some, Option.getD_some] at this
        rw [this]; decide)
    clear hb3 hW4 hnone
    go_wp2_with fail
    have SKH : Hid (∀ W', Below W4.heap.size W4 W' → W'.cell? ⟨w.heap.size, 0, none⟩ = some (.slice A n c) ∧ W'.cell? ⟨w.heap.size, 2, none⟩ = some (.slice A' n' c')) := by
      intro W' hb
      have h := S4.out.past hb
      exact ⟨h.cell 0, h.cell 2⟩
    have SKG : Hid (∀ W' W'', Below W4.heap.size W4 W' → W'.grownBy W'' (some (w.heap.size + 1)) → W''.cell? ⟨w.heap.size, 0, none⟩ = some (.slice A n c) ∧ W''.cell? ⟨w.heap.size, 2, none⟩ = some (.slice A' n' c')) := by
      intro W' W'' hb hg
      have h := (S4.out.past hb).grown hg (by omega)
      exact ⟨h.cell 0, h.cell 2⟩
    have OLL := Lib.hid (fun W' (hb : Below W4.heap.size W4 W') => HL.out.below (below_from hb B4.out B4.out.size))
    have FLL := Lib.hid (fun W' (hb : Below W4.heap.size W4 W') => HF.out.below (below_from hb B4.out B4.out.size))
    have C4l := C4.out.lt
    go_region_held3 (fun w' => w'.cell? ⟨w.heap.size, 0, none⟩ = some (.slice A n c) ∧ w'.cell? ⟨w.heap.size, 2, none⟩ = some (.slice A' n' c'))
      ((first | (refine SKH.out _ ?_; (repeat (first | with_reducible assumption | with_reducible exact Below.refl _ _ | refine Below.drew ?_ | (refine Below.alloc ?_ (by first | omega | (simp <;> omega)) _))); done) | (refine SKG.out _ _ ?_ (setCells_grown (w.heap.size + 1) [_] 0 _); (repeat (first | with_reducible assumption | with_reducible exact Below.refl _ _ | refine Below.drew ?_ | (refine Below.alloc ?_ (by first | omega | (simp <;> omega)) _))); done) | (refine SKG.out _ _ ?_ (grown_trans (setCells_grown (w.heap.size + 1) [_] 0 _) (setCells_grown (w.heap.size + 1) [_] 2 _)); (repeat (first | with_reducible assumption | with_reducible exact Below.refl _ _ | refine Below.drew ?_ | (refine Below.alloc ?_ (by first | omega | (simp <;> omega)) _))); done)))
      ((first | (go_at_call 55; refine (cloneOb A n c l _ (OLL.out _ (by (repeat (first | with_reducible assumption | with_reducible exact Below.refl _ _ | refine Below.drew ?_ | (refine Below.alloc ?_ (by first | omega | (simp <;> omega)) _))))) (by omega)).mono ?_; intro e w5 hx; obtain ⟨A5, c5, rfl, hO5, hb5⟩ := hx; have BB5 := below_from hb5 (show Below W4.heap.size W4 _ from by (repeat (first | with_reducible assumption | with_reducible exact Below.refl _ _ | refine Below.drew ?_ | (refine Below.alloc ?_ (by first | omega | (simp <;> omega)) _)))) (by first | omega | (simp <;> omega)); have z5 := BB5.size; have O5 := Lib.hid hO5; clear hO5) | (go_at_call 56; refine (cloneFt A' n' c' fs _ (FLL.out _ (by (repeat (first | with_reducible assumption | with_reducible exact Below.refl _ _ | refine Below.drew ?_ | (refine Below.alloc ?_ (by first | omega | (simp <;> omega)) _))))) (by omega)).mono ?_; intro e w6 hx; obtain ⟨A6, c6, rfl, hO6, hb6⟩ := hx; have BB6 := below_from hb6 (show Below W4.heap.size W4 _ from by (repeat (first | with_reducible assumption | with_reducible exact Below.refl _ _ | refine Below.drew ?_ | (refine Below.alloc ?_ (by first | omega | (simp <;> omega)) _)))) (by first | omega | (simp <;> omega)); have z6 := BB6.size; have O6 := Lib.hid hO6; have B56 := Lib.hid hb6; have K6 := Lib.hid (C4.out.past BB6); have k6c := K6.out.cell; have k6f := K6.out.free; have k6l := K6.out.lt; clear hO6)))
    have K7 := Lib.hid ((K6.out.setAt 0 (.slice A5 n c5) (by show 0 < 4; omega)).setAt 2 (.slice A6 n' c6) (by show 2 < 4; omega))
    have k7c := K7.out.cell
    have k7f := K7.out.free
    have k7l := K7.out.lt
    clear k6c k6f k6l
    go_wp2_with fail
    have gs : w6.grownBy (((w6.setCell ⟨w.heap.size + 1, 0, none⟩ (.slice A5 n c5)).setCell ⟨w.heap.size + 1, 2, none⟩ (.slice A6 n' c6)).setCell ⟨w.heap.size + 1, 1, none⟩ (.int .i64 (calls + 1))) (some (w.heap.size + 1)) :=
      grown_trans (grown_trans (setCells_grown (w.heap.size + 1) [.slice A5 n c5] 0 w6) (setCells_grown (w.heap.size + 1) [.slice A6 n' c6] 2 _)) (setCells_grown (w.heap.size + 1) [.int .i64 (calls + 1)] 1 _)
    have BW6 := below_from BB6 B4.out B4.out.size
    have bw8 := BW6.grown gs BW6.size (fun q hq => by injection hq with hq; omega)
    go_ret
    have O56 := O5.out.kept ⟨B56.out.os, B56.out.tape, B56.out.output, B56.out.size, B56.out.block⟩
    refine ⟨w.heap.size + 1, A5, c5, A6, c6, rfl, by omega, ?_, ?_, ?_, bw8⟩
    · rw [HLN.out, HFN.out, FTE.out]
      exact K7.out.setAt 1 (.int .i64 (calls + 1)) (by show 1 < 4; omega)
    · rw [HLN.out]
      exact (O56.base (by first | omega | (simp; omega))).grown gs (by omega) (fun a ha => Ob.In.below (HL.out.each a ha) bw8)
    · rw [HFN.out]
      exact (O6.out.base (by first | omega | (simp; omega))).grown gs (by omega) (fun a ha => HF.out.each a ha)
  · obtain ⟨b, off, hkl, rfl, hbl, c0, c1⟩ := Fts.at_ ((HF.out.below B2.out).below hb3) hkn
    obtain ⟨kd, hkd⟩ : ∃ kd, fs[k].kind = kd := ⟨_, rfl⟩
    rw [hkd] at c1
    have FTE := Lib.hid (show faultC calls fs = kd from by
      unfold faultC
      have : fs.find? (fun f => decide (f.call = calls)) = some fs[k] := by
        rw [List.find?_eq_some_iff_getElem]
        simp only [List.getElem?_eq_getElem hkl, Option.map_some, Option.getD_some] at hkt
        refine ⟨hkt, k, hkl, rfl, fun j hj => ?_⟩
        have := hkb j hj
        simp only [List.getElem?_eq_getElem (Nat.lt_trans hj hkl), Option.map_some, Option.getD_some] at this
        rw [this]; rfl
      rw [this]
      exact hkd)
    have B3 := Lib.hid (below_from hb3 B2.out B2.out.size)
    have S3 := Lib.hid (SB.out.past hb3)
    have C3 := Lib.hid (CB.out.past hb3)
    have s3c := S3.out.cell
    have c3c := C3.out.cell
    have c3f := C3.out.free
    have c3l := C3.out.lt
    have s3l := S3.out.lt
    clear hkd hkl hkt hkb hb3 c0
    go_wp2_with fail
    obtain ⟨W4, hW4⟩ : ∃ W4, W4 = w3.setCell ⟨w.heap.size + 1, 3, none⟩ (.int .i64 kd) := ⟨_, rfl⟩
    have g3 := setCells_grown (w.heap.size + 1) [.int .i64 kd] 3 w3
    have B4 := Lib.hid (show Below w.heap.size w W4 from by rw [hW4]; exact B3.out.grown g3 B3.out.size (fun q hq => by injection hq with hq; omega))
    have S4 := Lib.hid (show Has W4 w.heap.size #[.slice A n c, .int .i64 calls, .slice (some ⟨b, off, none⟩) n' c'] from by rw [hW4]; exact S3.out.grown g3 (by omega))
    have C4 := Lib.hid (show Has W4 (w.heap.size + 1) #[.slice A n c, .int .i64 calls, .slice (some ⟨b, off, none⟩) n' c', .int .i64 kd] from by rw [hW4]; exact C3.out.setAt 3 (.int .i64 kd) (by show 3 < 4; omega))
    rw [← hW4]
    clear hW4 g3 s3c c3c c3f c3l s3l c1 hbl
    have SKH : Hid (∀ W', Below W4.heap.size W4 W' → W'.cell? ⟨w.heap.size, 0, none⟩ = some (.slice A n c) ∧ W'.cell? ⟨w.heap.size, 2, none⟩ = some (.slice (some ⟨b, off, none⟩) n' c')) := by
      intro W' hb
      have h := S4.out.past hb
      exact ⟨h.cell 0, h.cell 2⟩
    have SKG : Hid (∀ W' W'', Below W4.heap.size W4 W' → W'.grownBy W'' (some (w.heap.size + 1)) → W''.cell? ⟨w.heap.size, 0, none⟩ = some (.slice A n c) ∧ W''.cell? ⟨w.heap.size, 2, none⟩ = some (.slice (some ⟨b, off, none⟩) n' c')) := by
      intro W' W'' hb hg
      have h := (S4.out.past hb).grown hg (by omega)
      exact ⟨h.cell 0, h.cell 2⟩
    have OLL := Lib.hid (fun W' (hb : Below W4.heap.size W4 W') => HL.out.below (below_from hb B4.out B4.out.size))
    have FLL := Lib.hid (fun W' (hb : Below W4.heap.size W4 W') => HF.out.below (below_from hb B4.out B4.out.size))
    have C4l := C4.out.lt
    go_region_held3 (fun w' => w'.cell? ⟨w.heap.size, 0, none⟩ = some (.slice A n c) ∧ w'.cell? ⟨w.heap.size, 2, none⟩ = some (.slice (some ⟨b, off, none⟩) n' c'))
      ((first | (refine SKH.out _ ?_; (repeat (first | with_reducible assumption | with_reducible exact Below.refl _ _ | refine Below.drew ?_ | (refine Below.alloc ?_ (by first | omega | (simp <;> omega)) _))); done) | (refine SKG.out _ _ ?_ (setCells_grown (w.heap.size + 1) [_] 0 _); (repeat (first | with_reducible assumption | with_reducible exact Below.refl _ _ | refine Below.drew ?_ | (refine Below.alloc ?_ (by first | omega | (simp <;> omega)) _))); done) | (refine SKG.out _ _ ?_ (grown_trans (setCells_grown (w.heap.size + 1) [_] 0 _) (setCells_grown (w.heap.size + 1) [_] 2 _)); (repeat (first | with_reducible assumption | with_reducible exact Below.refl _ _ | refine Below.drew ?_ | (refine Below.alloc ?_ (by first | omega | (simp <;> omega)) _))); done)))
      ((first | (go_at_call 55; refine (cloneOb A n c l _ (OLL.out _ (by (repeat (first | with_reducible assumption | with_reducible exact Below.refl _ _ | refine Below.drew ?_ | (refine Below.alloc ?_ (by first | omega | (simp <;> omega)) _))))) (by omega)).mono ?_; intro e w5 hx; obtain ⟨A5, c5, rfl, hO5, hb5⟩ := hx; have BB5 := below_from hb5 (show Below W4.heap.size W4 _ from by (repeat (first | with_reducible assumption | with_reducible exact Below.refl _ _ | refine Below.drew ?_ | (refine Below.alloc ?_ (by first | omega | (simp <;> omega)) _)))) (by first | omega | (simp <;> omega)); have z5 := BB5.size; have O5 := Lib.hid hO5; clear hO5) | (go_at_call 56; refine (cloneFt (some ⟨b, off, none⟩) n' c' fs _ (FLL.out _ (by (repeat (first | with_reducible assumption | with_reducible exact Below.refl _ _ | refine Below.drew ?_ | (refine Below.alloc ?_ (by first | omega | (simp <;> omega)) _))))) (by omega)).mono ?_; intro e w6 hx; obtain ⟨A6, c6, rfl, hO6, hb6⟩ := hx; have BB6 := below_from hb6 (show Below W4.heap.size W4 _ from by (repeat (first | with_reducible assumption | with_reducible exact Below.refl _ _ | refine Below.drew ?_ | (refine Below.alloc ?_ (by first | omega | (simp <;> omega)) _)))) (by first | omega | (simp <;> omega)); have z6 := BB6.size; have O6 := Lib.hid hO6; have B56 := Lib.hid hb6; have K6 := Lib.hid (C4.out.past BB6); have k6c := K6.out.cell; have k6f := K6.out.free; have k6l := K6.out.lt; clear hO6)))
    have K7 := Lib.hid ((K6.out.setAt 0 (.slice A5 n c5) (by show 0 < 4; omega)).setAt 2 (.slice A6 n' c6) (by show 2 < 4; omega))
    have k7c := K7.out.cell
    have k7f := K7.out.free
    have k7l := K7.out.lt
    clear k6c k6f k6l
    go_wp2_with fail
    have gs : w6.grownBy (((w6.setCell ⟨w.heap.size + 1, 0, none⟩ (.slice A5 n c5)).setCell ⟨w.heap.size + 1, 2, none⟩ (.slice A6 n' c6)).setCell ⟨w.heap.size + 1, 1, none⟩ (.int .i64 (calls + 1))) (some (w.heap.size + 1)) :=
      grown_trans (grown_trans (setCells_grown (w.heap.size + 1) [.slice A5 n c5] 0 w6) (setCells_grown (w.heap.size + 1) [.slice A6 n' c6] 2 _)) (setCells_grown (w.heap.size + 1) [.int .i64 (calls + 1)] 1 _)
    have BW6 := below_from BB6 B4.out B4.out.size
    have bw8 := BW6.grown gs BW6.size (fun q hq => by injection hq with hq; omega)
    go_ret
    have O56 := O5.out.kept ⟨B56.out.os, B56.out.tape, B56.out.output, B56.out.size, B56.out.block⟩
    refine ⟨w.heap.size + 1, A5, c5, A6, c6, rfl, by omega, ?_, ?_, ?_, bw8⟩
    · rw [HLN.out, HFN.out, FTE.out]
      exact K7.out.setAt 1 (.int .i64 (calls + 1)) (by show 1 < 4; omega)
    · rw [HLN.out]
      exact (O56.base (by first | omega | (simp; omega))).grown gs (by omega) (fun a ha => Ob.In.below (HL.out.each a ha) bw8)
    · rw [HFN.out]
      exact (O6.out.base (by first | omega | (simp; omega))).grown gs (by omega) (fun a ha => HF.out.each a ha)

end Go.Proofs.Ytnnmppnbkplamaa
