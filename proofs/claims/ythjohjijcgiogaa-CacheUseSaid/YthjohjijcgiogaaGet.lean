/- Get, of the program. -/
import Derived.Test.YthjohjijcgiogaaPutOk
import Derived.Deep.DrawnRows
namespace Go.Proofs.Ythjohjijcgiogaa
open Go.RowKit
attribute [local go_sem ↓] Go.wp_at_zero Go.wp_at_succ

/-- A call that hands back a cache and bytes. -/
def GRes (l0 : List Hd) (cap' : Int) (L' : List Ch) (b' : List UInt8) (ok : Bool) (w : World) (e : Ending) (w' : World) : Prop :=
  ∃ A n c l' A2 n2 c2, e = .returned (.tuple #[.agg #[.int .i64 cap', .slice A n c], .slice A2 n2 c2, .bool ok]) ∧ Hds w' A n c l' ∧ l'.map Hd.val = L' ∧ Sl u8K w' A2 n2 c2 b' ∧ Below w.heap.size w w' ∧ New w l0 A l'
theorem GRes.nil {l0 : List Hd} {cap' : Int} {w w' : World} {e : Ending} (he : e = .returned (.tuple #[.agg #[.int .i64 cap', .slice none 0 0], .slice none 0 0, .bool false])) (hb : Below w.heap.size w w') : GRes l0 cap' [] [] false w e w' :=
  ⟨none, 0, 0, [], none, 0, 0, he, Sl.nil _ _, rfl, Sl.nil _ _, hb, by simp, by simp⟩

theorem get_err_vals {cap : Int} {L : List Ch} {name : ByteArray} {no : Int} (h : checkC cap L = 1) : capC cap L = 0 ∧ getL cap L name no = [] ∧ getB cap L name no = [] ∧ getOk cap L name no = false := by
  have h' : ¬ checkC cap L = 0 := by omega
  exact ⟨if_neg h', if_neg h', if_neg h', by unfold getOk; rw [decide_eq_false h']; rfl⟩

set_option maxHeartbeats 2000000 in
set_option maxRecDepth 100000 in
theorem get_err (cap : Int) (A : Option Addr) (n c : Nat) (l : List Hd) (name : ByteArray) (no : Int) (w : World) (hl : Hds w A n c l) (hn : n ≤ 60000) (he : checkC cap (l.map Hd.val) = 1) :
    Calls Try.prog 21 #[.agg #[.int .i64 cap, .slice A n c], .string name, .int .i64 no] w (GRes l 0 [] [] false w) := by
  obtain ⟨W0, hW0⟩ : ∃ W0, W0 = ((w.alloc (.cells #[.int .i64 cap, .slice A n c] 24)).alloc (.cells #[.int .i64 0, .slice none 0 0] 24)) := ⟨_, rfl⟩
  have hb0 : Below w.heap.size w W0 := by rw [hW0]; exact below_from (below_alloc1 _ _) (below_alloc1 w _) (by simp)
  have N8 := Lib.hid (show Has W0 (w.heap.size + 1) #[.int .i64 0, .slice none 0 0] by rw [hW0]; exact (Has.newAt (w.alloc (.cells #[.int .i64 cap, .slice A n c] 24)) _ 24 (by simp)))
  have ck := Lib.hid (check_any cap A n c l W0 (hl.below hb0) hn)
  rw [he] at ck
  have B0 := Lib.hid hb0
  clear hl hb0 he
  subst hW0
  go_enter Try.func21, Try.ntmps21
  go_wp2_with (go_at_call 15; refine ck.out.mono ?_; rintro e w1 ⟨rfl, hb1⟩; have HB1 := Lib.hid (below_from hb1 B0.out B0.out.size); have M8 := N8.out.past hb1; have c8 := M8.cell; have f8 := M8.free; have l8 := M8.lt; clear M8 hb1)
  refine bodyPost_ret (v := .tuple #[.agg #[.int .i64 0, .slice none 0 0], .slice none 0 0, .bool false]) (by simp [results, Try.results21, go_sem, c8, l8]) rfl (GRes.nil rfl ?_)
  have B1 := HB1.out
  repeat (first | with_reducible exact B1 | (refine Below.setCell ?_ (by simp <;> omega) _) | (refine Below.alloc ?_ (by simp <;> omega) _))

set_option maxHeartbeats 4000000 in
set_option maxRecDepth 100000 in
theorem get_ok (cap : Int) (A : Option Addr) (n c : Nat) (l : List Hd) (name : ByteArray) (no : Int) (w : World) (hl : Hds w A n c l) (hn : n ≤ 60000) (h0 : checkC cap (l.map Hd.val) = 0) :
    Calls Try.prog 21 #[.agg #[.int .i64 cap, .slice A n c], .string name, .int .i64 no] w (GRes l cap (getL cap (l.map Hd.val) name no) (getB cap (l.map Hd.val) name no) (getOk cap (l.map Hd.val) name no) w) := by
  obtain ⟨W0, hW0⟩ : ∃ W0, W0 = ((w.alloc (.cells #[.int .i64 cap, .slice A n c] 24)).alloc (.cells #[.int .i64 0, .slice none 0 0] 24)) := ⟨_, rfl⟩
  have hb0 : Below w.heap.size w W0 := by rw [hW0]; exact below_from (below_alloc1 _ _) (below_alloc1 w _) (by simp)
  have N4 := Lib.hid (show Has W0 w.heap.size #[.int .i64 cap, .slice A n c] by rw [hW0]; exact ((Has.newAt w _ 24 rfl).alloc _))
  have N8 := Lib.hid (show Has W0 (w.heap.size + 1) #[.int .i64 0, .slice none 0 0] by rw [hW0]; exact (Has.newAt (w.alloc (.cells #[.int .i64 cap, .slice A n c] 24)) _ 24 (by simp)))
  have ck := Lib.hid (check_any cap A n c l W0 (hl.below hb0) hn)
  rw [h0] at ck
  have GD := Lib.hid (good_of_check h0).1
  have H0 := Lib.hid h0
  have HLN := Lib.hid hl.len
  have B0 := Lib.hid hb0
  have HL := Lib.hid hl
  have tk := Lib.hid (fun w' (hb : Below w.heap.size w w') => take_any cap A n c l name no w' (hl.below hb) hn)
  have hlen := hl.len
  have hcapn := hl.cap
  have hmaxn := hl.max
  clear hl hb0 h0
  subst hW0
  have z0 := B0.out.size
  go_enter Try.func21, Try.ntmps21
  go_wp2_with (first | (go_at_call 15; refine ck.out.mono ?_; rintro e w1 ⟨rfl, hb1⟩; have HB1 := Lib.hid (below_from hb1 B0.out B0.out.size); have M8 := Lib.hid (N8.out.past hb1); have M4 := Lib.hid (N4.out.past hb1); have c4 := M4.out.cell; have l4 := M4.out.lt; have l8 := M8.out.lt; clear hb1) | (go_at_call 36; refine (tk.out _ HB1.out).mono ?_; intro e w3 ht; obtain ⟨At, nt, ct, lt, r, rfl, hO, hb3, hv, hnt, hmem, hfind⟩ := take_vals GD.out HLN.out ht; have HO := Lib.hid hO; have B13 := Lib.hid hb3; have B3 := Lib.hid (below_from hb3 HB1.out HB1.out.size); have Q8 := Lib.hid (M8.out.past hb3); have c8 := Q8.out.cell; have f8 := Q8.out.free; have m8 := Q8.out.lt; have Q4 := Lib.hid (M4.out.past hb3); have e4 := Q4.out.cell; have f4 := Q4.out.lt; have HV := Lib.hid hv; have HMEM := Lib.hid hmem; have HF := Lib.hid hfind; have S3 := hb3.size; clear ht hO hb3 hv hmem c4 l4; have hr : r = -1 ∨ 0 ≤ r := (by rcases hfind with ⟨h, _⟩ | ⟨i, _, h, _⟩ <;> omega); clear hfind; rcases hr with hr | hr))
  · subst hr
    have gs := setCells_grown (w.heap.size + 1) [.int .i64 cap, .slice At nt ct] 0 w3
    have bs : Below w.heap.size w (w3.setCells (w.heap.size + 1) 0 [.int .i64 cap, .slice At nt ct]) := B3.out.grown gs B3.out.size (fun q hq => by injection hq; omega)
    have hnone : findC name no (l.map Hd.val) = none := by
      rcases HF.out with ⟨_, h, _⟩ | ⟨i, _, h, _⟩
      · exact h
      · omega
    have v1 : getL cap (l.map Hd.val) name no = dropC name no (l.map Hd.val) := by unfold getL; rw [if_pos H0.out, hnone]; rfl
    have v2 : getB cap (l.map Hd.val) name no = [] := by unfold getB; rw [if_pos H0.out, hnone]; rfl
    have v3 : getOk cap (l.map Hd.val) name no = false := by unfold getOk; rw [hnone]; simp
    refine bodyPost_ret (v := .tuple #[.agg #[.int .i64 cap, .slice At nt ct], .slice none 0 0, .bool false]) (by simp [results, Try.results21, go_sem, c8, m8]) rfl ?_
    rw [v1, v2, v3]
    exact ⟨At, nt, ct, lt, none, 0, 0, rfl, (HO.out.grown gs l8 (fun a ha => hdK.below (HL.out.each a (HMEM.out a ha)) bs)).sl, HV.out, Sl.nil _ _, bs, fun b off e => Nat.le_trans HB1.out.size (HO.out.lt e).1, fun a ha => .inl (HMEM.out a ha)⟩
  · obtain ⟨i, hi, hri, hfind, hk⟩ : ∃ i, ∃ hi : i < l.length, r = (i : Int) ∧ findC name no (l.map Hd.val) = some l[i].val ∧ isK name no l[i].val = true := by
      rcases HF.out with ⟨h, _⟩ | h
      · omega
      · exact h
    subst hri
    have hin : i < n := by omega
    obtain ⟨b, off, hkl, rfl, hbl, y0, y1, y2⟩ := Hds.at_ HL.out hin
    have XI := Lib.hid (HL.out.each l[i] (List.getElem_mem hkl))
    have MEM := Lib.hid (show l[i] ∈ l from List.getElem_mem hkl)
    have FD := Lib.hid hfind
    clear hfind hk hr
    generalize l[i] = x at *
    obtain ⟨xn, xo, xA, xN, xC, xb⟩ := x
    simp only at y0 y1 y2
    have hi0 : (0 : Int) ≤ (i : Int) := by omega
    have hi1 : (i : Int) < (n : Int) := by omega
    have xmax : xN ≤ 140737488355328 := XI.out.max
    have S1 := HB1.out.size
    have SKH : Hid (∀ W', Below w1.heap.size w3 W' → W'.cell? ⟨w.heap.size, 0, none⟩ = some (.int .i64 cap) ∧ W'.cell? ⟨w.heap.size, 1, none⟩ = some (.slice (some ⟨b, off, none⟩) n c) ∧ W'.cell? ⟨b, off + i * 3, none⟩ = some (.string xn) ∧ W'.cell? ⟨b, off + i * 3 + 1, none⟩ = some (.int .i64 xo) ∧ W'.cell? ⟨b, off + i * 3 + 2, none⟩ = some (.slice xA xN xC)) := by
      intro W' hb
      have bw := B3.out.trans (hb.mono S1)
      exact ⟨(hb.cell (p := ⟨w.heap.size, 0, none⟩) (by show w.heap.size < _; omega)).trans (e4 0), (hb.cell (p := ⟨w.heap.size, 1, none⟩) (by show w.heap.size < _; omega)).trans (e4 1), (bw.cell (p := ⟨b, _, none⟩) hbl).trans y0, (bw.cell (p := ⟨b, _, none⟩) hbl).trans y1, (bw.cell (p := ⟨b, _, none⟩) hbl).trans y2⟩
    have SKH2 : Hid (∀ W' W'', Below w1.heap.size w3 W' → W'.grownBy W'' (some (w.heap.size + 1)) → W''.cell? ⟨w.heap.size, 0, none⟩ = some (.int .i64 cap) ∧ W''.cell? ⟨w.heap.size, 1, none⟩ = some (.slice (some ⟨b, off, none⟩) n c) ∧ W''.cell? ⟨b, off + i * 3, none⟩ = some (.string xn) ∧ W''.cell? ⟨b, off + i * 3 + 1, none⟩ = some (.int .i64 xo) ∧ W''.cell? ⟨b, off + i * 3 + 2, none⟩ = some (.slice xA xN xC)) := by
      intro W' W'' hb hg
      have bw := B3.out.trans (hb.mono S1)
      obtain ⟨h1, h2, h3, h4, h5⟩ := SKH.out W' hb
      have hz := bw.size
      have f : ∀ g o, g < w.heap.size + 1 → W''.cell? ⟨g, o, none⟩ = W'.cell? ⟨g, o, none⟩ := fun g o hlt => hg.cell_far ⟨g, o, none⟩ (by have := hb.size; show g < _; omega) (by simp; omega)
      exact ⟨(f _ _ (by omega)).trans h1, (f _ _ (by omega)).trans h2, (f _ _ (by omega)).trans h3, (f _ _ (by omega)).trans h4, (f _ _ (by omega)).trans h5⟩
    have XSL : Hid (∀ W', Below w1.heap.size w3 W' → Sl u8K W' xA xN xC xb) := fun W' hb => XI.out.sl.below (B3.out.trans (hb.mono S1))
    have OWW : Hid (∀ W', Below w3.heap.size w3 W' → W'.ownsRow w1.heap.size 37 3 (.slice At nt ct) nt (lt.flatMap hdK.cells)) := fun W' h => (HO.out.kept h).2.1
    have SA : Hid (∀ q, (Value.slice At nt ct).ownBlock = some q → q < w3.heap.size) := fun q hq => (HO.out.2.1.lt q hq).2
    have XH := Lib.hid (Has.newAt w3 #[.string xn, .int .i64 xo, .slice xA xN xC] 37 (g := w3.heap.size) rfl)
    have XE := Lib.hid (heap_alloc_new w3 (.cells #[.string xn, .int .i64 xo, .slice xA xN xC] 37))
    have K8 : Hid (∀ W', Below w1.heap.size w3 W' → Has W' (w.heap.size + 1) #[.int .i64 0, .slice none 0 0]) := fun W' hb => Q8.out.below hb l8
    clear c8 f8 e4
    go_region_held3 (fun w' => w'.cell? ⟨w.heap.size, 0, none⟩ = some (.int .i64 cap) ∧ w'.cell? ⟨w.heap.size, 1, none⟩ = some (.slice (some ⟨b, off, none⟩) n c) ∧ w'.cell? ⟨b, off + i * 3, none⟩ = some (.string xn) ∧ w'.cell? ⟨b, off + i * 3 + 1, none⟩ = some (.int .i64 xo) ∧ w'.cell? ⟨b, off + i * 3 + 2, none⟩ = some (.slice xA xN xC))
      (first | (refine SKH.out _ ?_; (repeat (first | with_reducible assumption | with_reducible exact Below.refl _ _ | refine Below.drew ?_ | (refine Below.alloc ?_ (by first | omega | (simp <;> omega)) _))); done) | (refine SKH2.out _ _ ?_ (setCells_grown (w.heap.size + 1) [_, _] 0 _); (repeat (first | with_reducible assumption | with_reducible exact Below.refl _ _ | refine Below.drew ?_ | (refine Below.alloc ?_ (by first | omega | (simp <;> omega)) _))); done)) (first | (go_at_call 38; refine (cloneBs xA xN xC xb _ (XSL.out _ (by (repeat (first | with_reducible assumption | with_reducible exact Below.refl _ _ | refine Below.drew ?_ | (refine Below.alloc ?_ (by first | omega | (simp <;> omega)) _))))) (by omega)).mono ?_; intro e w9 hx; obtain ⟨A9, c9, rfl, hO9, hb9⟩ := hx; have BB9 := below_from hb9 (show Below w1.heap.size w3 _ from by (repeat (first | with_reducible assumption | with_reducible exact Below.refl _ _ | refine Below.drew ?_ | (refine Below.alloc ?_ (by first | omega | (simp <;> omega)) _)))) (by first | omega | (simp <;> omega)); have z9 := BB9.size; have c89 := (K8.out _ BB9).cell; have f89 := (K8.out _ BB9).free; have l89 := (K8.out _ BB9).lt; have zz9 := hb9.size; (try simp at zz9); have O9 := Lib.hid hO9; have B59 := Lib.hid hb9; have SL9 := Lib.hid hO9.sl; (first | (have BB39 := below_from hb9 (show Below w3.heap.size w3 _ from by (repeat (first | with_reducible assumption | with_reducible exact Below.refl _ _ | refine Below.drew ?_ | (refine Below.alloc ?_ (by first | omega | (simp <;> omega)) _))); (first | done | fail)) (by first | omega | (simp <;> omega))) | skip); (first | (have XH9 := Lib.hid (XH.out.drew.past hb9); have XE9 := Lib.hid ((hb9.block w3.heap.size XH.out.drew.lt).trans XE.out)) | skip); (first | (have HR9 := Lib.hid (HR5.out.kept (grown_of_below hb9 none) (by cases hv : (Value.slice A5 (nt + 1) c5).ownBlock <;> simp))) | skip); clear hO9 hb9) | (go_at_call 37; (first | (refine (insert0 w1.heap.size At nt ct _ lt ⟨xn, xo, xA, xN, xC, xb⟩ _ (OWW.out _ (by (repeat (first | with_reducible assumption | with_reducible exact Below.refl _ _ | refine Below.drew ?_ | (refine Below.alloc ?_ (by first | omega | (simp <;> omega)) _))))) (by first | omega | (simp <;> omega)) (by omega) (by exact XH.out.drew) (by exact XE.out) (fun e => by have := SA.out _ e; omega)).mono ?_) | (refine (insert0 w1.heap.size At nt ct _ lt ⟨xn, xo, xA, xN, xC, xb⟩ _ (OWW.out _ (by (repeat (first | with_reducible assumption | with_reducible exact Below.refl _ _ | refine Below.drew ?_ | (refine Below.alloc ?_ (by first | omega | (simp <;> omega)) _))))) (by first | omega | (simp <;> omega)) (by omega) (by exact XH9.out) (by exact XE9.out) (fun e => by have := SA.out _ e; omega)).mono ?_) | (refine (insert0 w1.heap.size At nt ct _ lt ⟨xn, xo, xA, xN, xC, xb⟩ _ (OWW.out _ (by (repeat (first | with_reducible assumption | with_reducible exact Below.refl _ _ | refine Below.drew ?_ | (refine Below.alloc ?_ (by first | omega | (simp <;> omega)) _))))) (by first | omega | (simp <;> omega)) (by omega) (by exact Has.newAt _ _ 37 rfl) (by exact heap_alloc_new _ _) (fun e => by have := SA.out _ e; omega)).mono ?_)); intro e w5 hx; obtain ⟨A5, c5, rfl, hr5, hg5⟩ := hx; have BB5 : Below w1.heap.size w3 w5 := (show Below w1.heap.size w3 _ from by (repeat (first | with_reducible assumption | with_reducible exact Below.refl _ _ | refine Below.drew ?_ | (refine Below.alloc ?_ (by first | omega | (simp <;> omega)) _)))).trans (grown_below hg5 (by first | omega | (simp <;> omega)) (fun q hq => (HO.out.2.1.lt q hq).1)); have z5 := BB5.size; have c85 := (K8.out _ BB5).cell; have f85 := (K8.out _ BB5).free; have l85 := (K8.out _ BB5).lt; have HR5 := Lib.hid hr5; (first | (have SLF := Lib.hid (SL9.out.apart hg5 (fun b' off' e' e2 => by have h1 := (O9.out.lt e').1; have h2 := SA.out b' e2.symm; first | omega | (simp at h1; omega)) (fun _ _ => trivial))) | (have SLF := Lib.hid ((SL9.out.alloc _).apart hg5 (fun b' off' e' e2 => by have h1 := (O9.out.lt e').1; have h2 := SA.out b' e2.symm; first | omega | (simp at h1; omega)) (fun _ _ => trivial))) | skip); clear hr5 hg5))
    go_wp2_with fail
    have BW9 := Lib.hid (B3.out.trans (BB9.mono S1))
    have gs := setCells_grown (w.heap.size + 1) [.int .i64 cap, .slice A5 (nt + 1) c5] 0 w9
    have bs : Below w.heap.size w (w9.setCells (w.heap.size + 1) 0 [.int .i64 cap, .slice A5 (nt + 1) c5]) := BW9.out.grown gs BW9.out.size (fun q hq => by injection hq; omega)
    have v1 : getL cap (l.map Hd.val) name no = Hd.val ⟨xn, xo, xA, xN, xC, xb⟩ :: dropC name no (l.map Hd.val) := by unfold getL; rw [if_pos H0.out, FD.out]; rfl
    have v2 : getB cap (l.map Hd.val) name no = xb := by unfold getB; rw [if_pos H0.out, FD.out]; rfl
    have v3 : getOk cap (l.map Hd.val) name no = true := by unfold getOk; rw [FD.out, H0.out]; rfl
    have MX : ∀ a ∈ (⟨xn, xo, xA, xN, xC, xb⟩ :: lt : List Hd), a ∈ l := fun a ha => by
      rcases List.mem_cons.1 ha with rfl | ha
      · exact MEM.out
      · exact HMEM.out a ha
    have O5 : Own hdK 37 w5 w1.heap.size A5 (nt + 1) c5 (⟨xn, xo, xA, xN, xC, xb⟩ :: lt) := ⟨by rw [List.length_cons, HO.out.1], HR5.out, fun a ha => hdK.below (HL.out.each a (MX a ha)) (B3.out.trans (BB5.mono S1))⟩
    refine bodyPost_ret (v := .tuple #[.agg #[.int .i64 cap, .slice A5 (nt + 1) c5], .slice A9 xN c9, .bool true]) (by simp [results, Try.results21, go_sem, c89, l89]) rfl ?_
    rw [v1, v2, v3]
    refine ⟨A5, nt + 1, c5, _, A9, xN, c9, rfl, ((O5.kept B59.out).grown gs l8 (fun a ha => hdK.below (HL.out.each a (MX a ha)) bs)).sl, by rw [List.map_cons, HV.out], SL9.out.apart gs (fun b' off' e' e2 => ?_) (fun _ _ => trivial), bs, fun b off e => Nat.le_trans HB1.out.size (O5.lt e).1, fun a ha => .inl (MX a ha)⟩
    have h1 := (O9.out.lt e').1
    injection e2 with e2
    omega

theorem get_any (cap : Int) (A : Option Addr) (n c : Nat) (l : List Hd) (name : ByteArray) (no : Int) (w : World) (hl : Hds w A n c l) (hn : n ≤ 60000) :
    Calls Try.prog 21 #[.agg #[.int .i64 cap, .slice A n c], .string name, .int .i64 no] w (GRes l (capC cap (l.map Hd.val)) (getL cap (l.map Hd.val) name no) (getB cap (l.map Hd.val) name no) (getOk cap (l.map Hd.val) name no) w) := by
  rcases check_cases cap (l.map Hd.val) with h | h
  · rw [show capC cap (l.map Hd.val) = cap from if_pos h]
    exact get_ok cap A n c l name no w hl hn h
  · obtain ⟨h1, h2, h3, h4⟩ := get_err_vals (name := name) (no := no) h
    rw [h1, h2, h3, h4]
    exact get_err cap A n c l name no w hl hn h

end Go.Proofs.Ythjohjijcgiogaa
