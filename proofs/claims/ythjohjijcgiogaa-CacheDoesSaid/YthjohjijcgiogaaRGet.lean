/- Get, of the document's answer. -/
import Derived.Test.YthjohjijcgiogaaGet
import Derived.Test.YthjohjijcgiogaaRPut
import Derived.Test.YthjohjijcgiogaaBytes
import Derived.Laws.AppendOwnNone
namespace Go.Proofs.Ythjohjijcgiogaa
open Go.RowKit
attribute [local go_sem ↓] Go.wp_at_zero Go.wp_at_succ

set_option maxHeartbeats 2000000 in
set_option maxRecDepth 100000 in
theorem rget_err (cap : Int) (A : Option Addr) (n c : Nat) (l : List Hd) (name : ByteArray) (no : Int) (w : World) (hl : Hds w A n c l) (hn : n ≤ 60000) (he : checkC cap (l.map Hd.val) = 1) :
    Calls Try.prog 23 #[.agg #[.int .i64 cap, .slice A n c], .string name, .int .i64 no] w (GRes l 0 [] [] false w) := by
  obtain ⟨W0, hW0⟩ : ∃ W0, W0 = ((w.alloc (.cells #[.int .i64 cap, .slice A n c] 24)).alloc (.cells #[.int .i64 0, .slice none 0 0] 24)) := ⟨_, rfl⟩
  have hb0 : Below w.heap.size w W0 := by rw [hW0]; exact below_from (below_alloc1 _ _) (below_alloc1 w _) (by simp)
  have N8 := Lib.hid (show Has W0 (w.heap.size + 1) #[.int .i64 0, .slice none 0 0] by rw [hW0]; exact (Has.newAt (w.alloc (.cells #[.int .i64 cap, .slice A n c] 24)) _ 24 (by simp)))
  have ck := Lib.hid (rcheck_any cap A n c l W0 (hl.below hb0) hn)
  rw [he] at ck
  have B0 := Lib.hid hb0
  clear hl hb0 he
  subst hW0
  go_enter Try.func23, Try.ntmps23
  go_wp2_with (go_at_call 16; refine ck.out.mono ?_; rintro e w1 ⟨rfl, hb1⟩; have HB1 := Lib.hid (below_from hb1 B0.out B0.out.size); have M8 := N8.out.past hb1; have c8 := M8.cell; have f8 := M8.free; have l8 := M8.lt; clear M8 hb1)
  refine bodyPost_ret (v := .tuple #[.agg #[.int .i64 0, .slice none 0 0], .slice none 0 0, .bool false]) (by simp [results, Try.results23, go_sem, c8, l8]) rfl (GRes.nil rfl ?_)
  have B1 := HB1.out
  repeat (first | with_reducible exact B1 | (refine Below.setCell ?_ (by simp <;> omega) _) | (refine Below.alloc ?_ (by simp <;> omega) _))

set_option maxHeartbeats 4000000 in
set_option maxRecDepth 100000 in
theorem rget_ok (cap : Int) (A : Option Addr) (n c : Nat) (l : List Hd) (name : ByteArray) (no : Int) (w : World) (hl : Hds w A n c l) (hn : n ≤ 60000) (h0 : checkC cap (l.map Hd.val) = 0) :
    Calls Try.prog 23 #[.agg #[.int .i64 cap, .slice A n c], .string name, .int .i64 no] w (GRes l cap (getL cap (l.map Hd.val) name no) (getB cap (l.map Hd.val) name no) (getOk cap (l.map Hd.val) name no) w) := by
  obtain ⟨W0, hW0⟩ : ∃ W0, W0 = ((w.alloc (.cells #[.int .i64 cap, .slice A n c] 24)).alloc (.cells #[.int .i64 0, .slice none 0 0] 24)) := ⟨_, rfl⟩
  have hb0 : Below w.heap.size w W0 := by rw [hW0]; exact below_from (below_alloc1 _ _) (below_alloc1 w _) (by simp)
  have N4 := Lib.hid (show Has W0 w.heap.size #[.int .i64 cap, .slice A n c] by rw [hW0]; exact ((Has.newAt w _ 24 rfl).alloc _))
  have N8 := Lib.hid (show Has W0 (w.heap.size + 1) #[.int .i64 0, .slice none 0 0] by rw [hW0]; exact (Has.newAt (w.alloc (.cells #[.int .i64 cap, .slice A n c] 24)) _ 24 (by simp)))
  have ck := Lib.hid (rcheck_any cap A n c l W0 (hl.below hb0) hn)
  rw [h0] at ck
  have GD := Lib.hid (good_of_check h0).1
  have H0 := Lib.hid h0
  have HLN := Lib.hid hl.len
  have B0 := Lib.hid hb0
  have HL := Lib.hid hl
  have tk := Lib.hid (fun w' (hb : Below w.heap.size w w') => without_any A n c l name no w' (hl.below hb) hn)
  have hlen := hl.len
  obtain ⟨i0, hi, hz0, hz1, hz2⟩ := info_parts inf37
  have hi' := Lib.hid (And.intro hi (And.intro hz0 (And.intro hz1 hz2)))
  clear hl hb0 h0 hi hz0 hz1 hz2
  subst hW0
  have z0 := B0.out.size
  go_enter Try.func23, Try.ntmps23
  go_wp2_with (go_at_call 16; refine ck.out.mono ?_; rintro e w1 ⟨rfl, hb1⟩; have HB1 := Lib.hid (below_from hb1 B0.out B0.out.size); have M8 := Lib.hid (N8.out.past hb1); have M4 := Lib.hid (N4.out.past hb1); have c4 := M4.out.cell; have l4 := M4.out.lt; have l8 := M8.out.lt; clear hb1)
  refine (tk.out _ HB1.out).mono ?_
  intro e w3 ht
  obtain ⟨At, nt, ct, x, m, lt, rfl, hO, hb3, hv, hnt, hmem, hfind⟩ := without_vals GD.out ht
  have HO := Lib.hid hO
  have B3 := Lib.hid (below_from hb3 HB1.out HB1.out.size)
  have Q8 := Lib.hid (M8.out.past hb3)
  have Q4 := Lib.hid (M4.out.past hb3)
  have HV := Lib.hid hv
  have HMEM := Lib.hid hmem
  have HF := Lib.hid hfind
  have S3 := hb3.size
  have hm : m = false ∨ m = true := (by rcases hfind with ⟨h, _⟩ | ⟨h, _⟩ <;> simp [h])
  clear ht hO hb3 hv hmem c4 l4 hfind
  rcases hm with rfl | rfl
  · obtain ⟨w4, hw4⟩ : ∃ w4, w4 = w3.alloc (.cells #[.string x.name, .int .i64 x.no, .slice x.A x.n x.c] 37) := ⟨_, rfl⟩
    have b34 : Below w3.heap.size w3 w4 := by rw [hw4]; exact below_alloc1 _ _
    have PX := Lib.hid (show Has w4 w3.heap.size #[.string x.name, .int .i64 x.no, .slice x.A x.n x.c] by rw [hw4]; exact Has.newAt w3 _ 37 rfl)
    have P4 := Lib.hid (Q4.out.past b34)
    have P8 := Lib.hid (Q8.out.past b34)
    have B4 := Lib.hid (below_from b34 B3.out B3.out.size)
    have OW := Lib.hid (HO.out.kept b34)
    have zx := PX.out.lt
    obtain ⟨hxz, hfn⟩ : x = zeroHd ∧ findC name no (l.map Hd.val) = none := by
      rcases HF.out with ⟨_, h1, h2⟩ | ⟨h, _⟩
      · exact ⟨h1, h2⟩
      · cases h
    have FN := Lib.hid hfn
    have XI : Hid (Sl u8K w x.A x.n x.c x.bs ∧ x.n ≤ 140737488355328) := by rw [hxz]; exact ⟨Sl.nil _ _, by decide⟩
    have hxb : x.bs = [] := by rw [hxz]; rfl
    clear hfn hxz b34
    go_wp2_with fail
    rw [← hw4]
    clear hw4
    have SKH : Hid (∀ W', Below w4.heap.size w4 W' → W'.cell? ⟨w.heap.size, 0, none⟩ = some (.int .i64 cap) ∧ W'.cell? ⟨w3.heap.size, 2, none⟩ = some (.slice x.A x.n x.c)) := by
      intro W' hb
      have h1 := P4.out.past hb
      have h2 := PX.out.past hb
      exact ⟨h1.cell 0, h2.cell 2⟩
    have SKH2 : Hid (∀ W' W'', Below w4.heap.size w4 W' → W'.grownBy W'' (some (w.heap.size + 1)) → W''.cell? ⟨w.heap.size, 0, none⟩ = some (.int .i64 cap) ∧ W''.cell? ⟨w3.heap.size, 2, none⟩ = some (.slice x.A x.n x.c)) := by
      intro W' W'' hb hg
      have h1 := (P4.out.past hb).grown hg (by omega)
      have h2 := (PX.out.past hb).grown hg (by omega)
      exact ⟨h1.cell 0, h2.cell 2⟩
    have K8 : Hid (∀ W', Below w4.heap.size w4 W' → Has W' (w.heap.size + 1) #[.int .i64 0, .slice none 0 0]) := fun W' hb => P8.out.past hb
    have XSL : Hid (∀ W', Below w4.heap.size w4 W' → Sl u8K W' x.A x.n x.c x.bs) := fun W' hb => XI.out.1.below (B4.out.trans (hb.mono B4.out.size))
    have xmax : x.n ≤ 140737488355328 := XI.out.2
    go_region_held3 (fun w' => w'.cell? ⟨w.heap.size, 0, none⟩ = some (.int .i64 cap) ∧ w'.cell? ⟨w3.heap.size, 2, none⟩ = some (.slice x.A x.n x.c))
      (first | (refine SKH.out _ ?_; (repeat (first | with_reducible assumption | with_reducible exact Below.refl _ _ | refine Below.drew ?_ | (refine Below.alloc ?_ (by first | omega | (simp <;> omega)) _))); done) | (refine SKH2.out _ _ ?_ (setCells_grown (w.heap.size + 1) [_, _] 0 _); (repeat (first | with_reducible assumption | with_reducible exact Below.refl _ _ | refine Below.drew ?_ | (refine Below.alloc ?_ (by first | omega | (simp <;> omega)) _))); done))
      ((go_at_call 42; refine (copyBs x.A x.n x.c x.bs _ (XSL.out _ (by (repeat (first | with_reducible assumption | with_reducible exact Below.refl _ _ | refine Below.drew ?_ | (refine Below.alloc ?_ (by first | omega | (simp <;> omega)) _))))) (by omega)).mono ?_; intro e w9 hx; obtain ⟨A9, c9, rfl, hO9, hb9⟩ := hx; have BB9 := below_from hb9 (show Below w4.heap.size w4 _ from by (repeat (first | with_reducible assumption | with_reducible exact Below.refl _ _ | refine Below.drew ?_ | (refine Below.alloc ?_ (by first | omega | (simp <;> omega)) _)))) (by first | omega | (simp <;> omega)); have z9 := BB9.size; have K89 := K8.out _ BB9; have c89 := K89.cell; have f89 := K89.free; have l89 := K89.lt; clear K89; have zz9 := hb9.size; (try simp at zz9); have O9 := Lib.hid hO9; have SL9 := Lib.hid hO9.sl; clear hO9 hb9))
    go_wp2_with fail
    have BW9 := Lib.hid (B4.out.trans (BB9.mono B4.out.size))
    have gs := setCells_grown (w.heap.size + 1) [.int .i64 cap, .slice At (nt) ct] 0 w9
    have bs : Below w.heap.size w (w9.setCells (w.heap.size + 1) 0 [.int .i64 cap, .slice At (nt) ct]) := BW9.out.grown gs BW9.out.size (fun q hq => by injection hq; omega)
    have v1 : getL cap (l.map Hd.val) name no = dropC name no (l.map Hd.val) := by unfold getL; rw [if_pos H0.out, FN.out]; rfl
    have v2 : getB cap (l.map Hd.val) name no = x.bs := by unfold getB; rw [if_pos H0.out, FN.out, hxb]; rfl
    have v3 : getOk cap (l.map Hd.val) name no = false := by unfold getOk; rw [FN.out]; simp
    refine bodyPost_ret (v := .tuple #[.agg #[.int .i64 cap, .slice At (nt) ct], .slice A9 x.n c9, .bool false]) (by simp [results, Try.results23, go_sem, c89, l89]) rfl ?_
    rw [v1, v2, v3]
    refine ⟨At, nt, ct, _, A9, x.n, c9, rfl, ((OW.out.kept BB9).grown gs (by omega) (fun a ha => hdK.below (HL.out.each a (HMEM.out a ha)) bs)).sl, HV.out, SL9.out.apart gs (fun b' off' e' e2 => ?_) (fun _ _ => trivial), bs, fun b off e => Nat.le_trans HB1.out.size (OW.out.lt e).1, fun a ha => .inl (HMEM.out a ha)⟩
    have h1 := (O9.out.lt e').1
    have zp := P8.out.lt
    (try simp at h1)
    injection e2 with e2
    omega
  · obtain ⟨hxl, hfn⟩ : x ∈ l ∧ findC name no (l.map Hd.val) = some x.val := by
      rcases HF.out with ⟨h, _⟩ | ⟨_, h1, h2⟩
      · cases h
      · exact ⟨h1, h2⟩
    have FN := Lib.hid hfn
    have MEM := Lib.hid hxl
    have XI0 := Lib.hid (HL.out.each x hxl)
    clear hfn hxl
    have XI : Hid (Sl u8K w x.A x.n x.c x.bs ∧ x.n ≤ 140737488355328) := ⟨XI0.out.sl, XI0.out.max⟩
    have b3a := below_alloc1 w3 (.cells #[.string x.name, .int .i64 x.no, .slice x.A x.n x.c] 37)
    have b3b : Below w3.heap.size w3 ((w3.alloc (.cells #[.string x.name, .int .i64 x.no, .slice x.A x.n x.c] 37)).alloc (.cells #[.string x.name, .int .i64 x.no, .slice x.A x.n x.c] 37)) := below_from (below_alloc1 _ _) b3a (by simp)
    have O1 : Own hdK 37 ((w3.alloc (.cells #[.string x.name, .int .i64 x.no, .slice x.A x.n x.c] 37)).alloc (.cells #[.string x.name, .int .i64 x.no, .slice x.A x.n x.c] 37)) (w3.heap.size + 1) (some ⟨w3.heap.size + 1, 0, none⟩) 1 1 [x] := by
      have hh : ((w3.alloc (.cells #[.string x.name, .int .i64 x.no, .slice x.A x.n x.c] 37)).alloc (.cells #[.string x.name, .int .i64 x.no, .slice x.A x.n x.c] 37)).heap[w3.heap.size + 1]? = some (.cells #[.string x.name, .int .i64 x.no, .slice x.A x.n x.c] 37 (0, 0)) := by
        have := heap_alloc_new (w3.alloc (.cells #[.string x.name, .int .i64 x.no, .slice x.A x.n x.c] 37)) (.cells #[.string x.name, .int .i64 x.no, .slice x.A x.n x.c] 37)
        simpa using this
      refine ⟨rfl, owns_mk (Nat.le_refl _) hh (Nat.le_refl _) (by decide) rfl rfl, fun a ha => ?_⟩
      rw [List.mem_singleton.1 ha]
      exact hdK.below XI0.out (below_from b3b B3.out B3.out.size)
    have HO1 := Lib.hid O1
    have PXa := Lib.hid (show Has ((w3.alloc (.cells #[.string x.name, .int .i64 x.no, .slice x.A x.n x.c] 37)).alloc (.cells #[.string x.name, .int .i64 x.no, .slice x.A x.n x.c] 37)) w3.heap.size #[.string x.name, .int .i64 x.no, .slice x.A x.n x.c] from (Has.newAt w3 _ 37 rfl).alloc _)
    have P4a := Lib.hid (Q4.out.past b3b)
    have P8a := Lib.hid (Q8.out.past b3b)
    have Ba := Lib.hid (below_from b3b B3.out B3.out.size)
    have LT := Lib.hid (HO.out.sl.below b3b)
    have z3 := B3.out.size
    have hln : lt.length = nt := HO.out.1
    clear b3a b3b O1
    have hstep : ∀ (v' : Value) (w4 : World), w4.ownsRow (w3.heap.size + 1) 37 3 v' (1 + nt) ([x].flatMap hdK.cells ++ lt.flatMap hdK.cells) → ((w3.alloc (.cells #[.string x.name, .int .i64 x.no, .slice x.A x.n x.c] 37)).alloc (.cells #[.string x.name, .int .i64 x.no, .slice x.A x.n x.c] 37)).grownBy w4 (some (w3.heap.size + 1)) →
        ∃ A5 c5, v' = .slice A5 (1 + nt) c5 ∧ Hid (Own hdK 37 w4 w1.heap.size A5 (1 + nt) c5 (x :: lt)) ∧ Hid (Has w4 w3.heap.size #[.string x.name, .int .i64 x.no, .slice x.A x.n x.c]) ∧ Hid (Has w4 w.heap.size #[.int .i64 cap, .slice A n c]) ∧ Hid (Has w4 (w.heap.size + 1) #[.int .i64 0, .slice none 0 0]) ∧ Hid (Below w.heap.size w w4) := by
      intro v' w4 how hg
      obtain ⟨A5, c5, rfl⟩ := owns_form how
      have bA : Below (w3.heap.size + 1) ((w3.alloc (.cells #[.string x.name, .int .i64 x.no, .slice x.A x.n x.c] 37)).alloc (.cells #[.string x.name, .int .i64 x.no, .slice x.A x.n x.c] 37)) w4 := grown_below hg (by simp) (fun q hq => by injection hq; omega)
      have b4 : Below w.heap.size w w4 := Ba.out.trans (bA.mono (by omega))
      refine ⟨A5, c5, rfl, ⟨by rw [List.length_cons, hln]; omega, ?_, fun a ha => hdK.below (HL.out.each a ?_) b4⟩, PXa.out.below bA (by omega), P4a.out.below bA (by omega), P8a.out.below bA (by omega), b4⟩
      · have := owns_base how (show w1.heap.size ≤ w3.heap.size + 1 by omega)
        rw [List.flatMap_cons, List.flatMap_nil, List.append_nil] at this
        rw [List.flatMap_cons]
        exact this
      · rcases List.mem_cons.1 ha with rfl | ha
        · exact MEM.out
        · exact HMEM.out a ha
    have STEP := Lib.hid hstep
    have q4 : 1 + nt ≤ maxLen := by unfold maxLen; omega
    have q5 : (1 + nt) * 48 ≤ 140737488355328 := by omega
    have q6 := Lib.hid (show w3.heap.size + 1 ≤ ((w3.alloc (.cells #[.string x.name, .int .i64 x.no, .slice x.A x.n x.c] 37)).alloc (.cells #[.string x.name, .int .i64 x.no, .slice x.A x.n x.c] 37)).heap.size by simp)
    obtain ⟨hi0, hz0, hz1, hz2⟩ := hi'.out
    have MX : ∀ a ∈ (x :: lt : List Hd), a ∈ l := fun a ha => by
      rcases List.mem_cons.1 ha with rfl | ha
      · exact MEM.out
      · exact HMEM.out a ha
    have HMX := Lib.hid MX
    have hAt : (∃ ad, At = some ad) ∨ (At = none ∧ nt = 0 ∧ ct = 0) := by
      cases h : At with
      | none => have := HO.out.sl.adr h; exact .inr ⟨rfl, this⟩
      | some ad => exact .inl ⟨ad, rfl⟩
    clear MX hstep
    rcases hAt with ⟨ad, rfl⟩ | ⟨rfl, rfl, rfl⟩
    · have n1 := Lib.hid LT.out.flat_len
      have n2 := Lib.hid LT.out.news
      have n3 := Lib.hid (hdK.flat_one lt)
      go_wp2_with (at_builtin; refine wpList_append_own _ rfl _ _ 22 rfl (w3.heap.size + 1) 37 i0 _ 3 48 Try.underlying22 hi0 hz0 hz1 hz2 rfl (by decide) _ _ _ rfl HO1.out.2.1 ad nt ct (lt.flatMap hdK.cells) rfl n1.out n2.out n3.out q4 q5 q6.out ?_)
      intro v' w4 hown hgrow hnil
      obtain ⟨A5, c5, rfl, OW, PX, P4, P8, B4⟩ := STEP.out v' w4 hown hgrow
      have zx := PX.out.lt
      clear hown hgrow hnil
      go_wp2_with fail
      have SKH : Hid (∀ W', Below w4.heap.size w4 W' → W'.cell? ⟨w.heap.size, 0, none⟩ = some (.int .i64 cap) ∧ W'.cell? ⟨w3.heap.size, 2, none⟩ = some (.slice x.A x.n x.c)) := by
        intro W' hb
        have h1 := P4.out.past hb
        have h2 := PX.out.past hb
        exact ⟨h1.cell 0, h2.cell 2⟩
      have SKH2 : Hid (∀ W' W'', Below w4.heap.size w4 W' → W'.grownBy W'' (some (w.heap.size + 1)) → W''.cell? ⟨w.heap.size, 0, none⟩ = some (.int .i64 cap) ∧ W''.cell? ⟨w3.heap.size, 2, none⟩ = some (.slice x.A x.n x.c)) := by
        intro W' W'' hb hg
        have h1 := (P4.out.past hb).grown hg (by omega)
        have h2 := (PX.out.past hb).grown hg (by omega)
        exact ⟨h1.cell 0, h2.cell 2⟩
      have K8 : Hid (∀ W', Below w4.heap.size w4 W' → Has W' (w.heap.size + 1) #[.int .i64 0, .slice none 0 0]) := fun W' hb => P8.out.past hb
      have XSL : Hid (∀ W', Below w4.heap.size w4 W' → Sl u8K W' x.A x.n x.c x.bs) := fun W' hb => XI.out.1.below (B4.out.trans (hb.mono B4.out.size))
      have xmax : x.n ≤ 140737488355328 := XI.out.2
      go_region_held3 (fun w' => w'.cell? ⟨w.heap.size, 0, none⟩ = some (.int .i64 cap) ∧ w'.cell? ⟨w3.heap.size, 2, none⟩ = some (.slice x.A x.n x.c))
        (first | (refine SKH.out _ ?_; (repeat (first | with_reducible assumption | with_reducible exact Below.refl _ _ | refine Below.drew ?_ | (refine Below.alloc ?_ (by first | omega | (simp <;> omega)) _))); done) | (refine SKH2.out _ _ ?_ (setCells_grown (w.heap.size + 1) [_, _] 0 _); (repeat (first | with_reducible assumption | with_reducible exact Below.refl _ _ | refine Below.drew ?_ | (refine Below.alloc ?_ (by first | omega | (simp <;> omega)) _))); done))
        ((go_at_call 42; refine (copyBs x.A x.n x.c x.bs _ (XSL.out _ (by (repeat (first | with_reducible assumption | with_reducible exact Below.refl _ _ | refine Below.drew ?_ | (refine Below.alloc ?_ (by first | omega | (simp <;> omega)) _))))) (by omega)).mono ?_; intro e w9 hx; obtain ⟨A9, c9, rfl, hO9, hb9⟩ := hx; have BB9 := below_from hb9 (show Below w4.heap.size w4 _ from by (repeat (first | with_reducible assumption | with_reducible exact Below.refl _ _ | refine Below.drew ?_ | (refine Below.alloc ?_ (by first | omega | (simp <;> omega)) _)))) (by first | omega | (simp <;> omega)); have z9 := BB9.size; have K89 := K8.out _ BB9; have c89 := K89.cell; have f89 := K89.free; have l89 := K89.lt; clear K89; have zz9 := hb9.size; (try simp at zz9); have O9 := Lib.hid hO9; have SL9 := Lib.hid hO9.sl; clear hO9 hb9))
      go_wp2_with fail
      have BW9 := Lib.hid (B4.out.trans (BB9.mono B4.out.size))
      have gs := setCells_grown (w.heap.size + 1) [.int .i64 cap, .slice A5 (1 + nt) c5] 0 w9
      have bs : Below w.heap.size w (w9.setCells (w.heap.size + 1) 0 [.int .i64 cap, .slice A5 (1 + nt) c5]) := BW9.out.grown gs BW9.out.size (fun q hq => by injection hq; omega)
      have v1 : getL cap (l.map Hd.val) name no = x.val :: dropC name no (l.map Hd.val) := by unfold getL; rw [if_pos H0.out, FN.out]; rfl
      have v2 : getB cap (l.map Hd.val) name no = x.bs := by unfold getB; rw [if_pos H0.out, FN.out]; rfl
      have v3 : getOk cap (l.map Hd.val) name no = true := by unfold getOk; rw [FN.out, H0.out]; rfl
      refine bodyPost_ret (v := .tuple #[.agg #[.int .i64 cap, .slice A5 (1 + nt) c5], .slice A9 x.n c9, .bool true]) (by simp [results, Try.results23, go_sem, c89, l89]) rfl ?_
      rw [v1, v2, v3]
      refine ⟨A5, 1 + nt, c5, _, A9, x.n, c9, rfl, ((OW.out.kept BB9).grown gs (by omega) (fun a ha => hdK.below (HL.out.each a (HMX.out a ha)) bs)).sl, by rw [List.map_cons, HV.out], SL9.out.apart gs (fun b' off' e' e2 => ?_) (fun _ _ => trivial), bs, fun b off e => Nat.le_trans HB1.out.size (OW.out.lt e).1, fun a ha => .inl (HMX.out a ha)⟩
      have h1 := (O9.out.lt e').1
      have zp := P8.out.lt
      (try simp at h1)
      injection e2 with e2
      omega
    · have OW1 := STEP.out (.slice (some ⟨w3.heap.size + 1, 0, none⟩) 1 1) _ (by have h1 := HO1.out.2.1; rw [show lt.flatMap hdK.cells = [] by rw [List.eq_nil_of_length_eq_zero hln]; rfl, List.append_nil]; exact h1) (grown_refl _ _)
      obtain ⟨w4, hw4⟩ : ∃ w4, w4 = ((w3.alloc (.cells #[.string x.name, .int .i64 x.no, .slice x.A x.n x.c] 37)).alloc (.cells #[.string x.name, .int .i64 x.no, .slice x.A x.n x.c] 37)) := ⟨_, rfl⟩
      go_wp2_with (at_builtin; refine wpList_append_own_none rfl _ _ 22 rfl (w3.heap.size + 1) 37 i0 3 Try.underlying22 hi0 _ _ _ rfl HO1.out.2.1 rfl ?_)
      rw [← hw4] at OW1
      rw [← hw4]
      obtain ⟨A5, c5, hv5, OW, PX, P4, P8, B4⟩ := OW1
      injection hv5 with e1 e2 e3
      subst e1 e3
      clear e2
      have zx := PX.out.lt
      clear hw4
      have SKH : Hid (∀ W', Below w4.heap.size w4 W' → W'.cell? ⟨w.heap.size, 0, none⟩ = some (.int .i64 cap) ∧ W'.cell? ⟨w3.heap.size, 2, none⟩ = some (.slice x.A x.n x.c)) := by
        intro W' hb
        have h1 := P4.out.past hb
        have h2 := PX.out.past hb
        exact ⟨h1.cell 0, h2.cell 2⟩
      have SKH2 : Hid (∀ W' W'', Below w4.heap.size w4 W' → W'.grownBy W'' (some (w.heap.size + 1)) → W''.cell? ⟨w.heap.size, 0, none⟩ = some (.int .i64 cap) ∧ W''.cell? ⟨w3.heap.size, 2, none⟩ = some (.slice x.A x.n x.c)) := by
        intro W' W'' hb hg
        have h1 := (P4.out.past hb).grown hg (by omega)
        have h2 := (PX.out.past hb).grown hg (by omega)
        exact ⟨h1.cell 0, h2.cell 2⟩
      have K8 : Hid (∀ W', Below w4.heap.size w4 W' → Has W' (w.heap.size + 1) #[.int .i64 0, .slice none 0 0]) := fun W' hb => P8.out.past hb
      have XSL : Hid (∀ W', Below w4.heap.size w4 W' → Sl u8K W' x.A x.n x.c x.bs) := fun W' hb => XI.out.1.below (B4.out.trans (hb.mono B4.out.size))
      have xmax : x.n ≤ 140737488355328 := XI.out.2
      go_region_held3 (fun w' => w'.cell? ⟨w.heap.size, 0, none⟩ = some (.int .i64 cap) ∧ w'.cell? ⟨w3.heap.size, 2, none⟩ = some (.slice x.A x.n x.c))
        (first | (refine SKH.out _ ?_; (repeat (first | with_reducible assumption | with_reducible exact Below.refl _ _ | refine Below.drew ?_ | (refine Below.alloc ?_ (by first | omega | (simp <;> omega)) _))); done) | (refine SKH2.out _ _ ?_ (setCells_grown (w.heap.size + 1) [_, _] 0 _); (repeat (first | with_reducible assumption | with_reducible exact Below.refl _ _ | refine Below.drew ?_ | (refine Below.alloc ?_ (by first | omega | (simp <;> omega)) _))); done))
        ((go_at_call 42; refine (copyBs x.A x.n x.c x.bs _ (XSL.out _ (by (repeat (first | with_reducible assumption | with_reducible exact Below.refl _ _ | refine Below.drew ?_ | (refine Below.alloc ?_ (by first | omega | (simp <;> omega)) _))))) (by omega)).mono ?_; intro e w9 hx; obtain ⟨A9, c9, rfl, hO9, hb9⟩ := hx; have BB9 := below_from hb9 (show Below w4.heap.size w4 _ from by (repeat (first | with_reducible assumption | with_reducible exact Below.refl _ _ | refine Below.drew ?_ | (refine Below.alloc ?_ (by first | omega | (simp <;> omega)) _)))) (by first | omega | (simp <;> omega)); have z9 := BB9.size; have K89 := K8.out _ BB9; have c89 := K89.cell; have f89 := K89.free; have l89 := K89.lt; clear K89; have zz9 := hb9.size; (try simp at zz9); have O9 := Lib.hid hO9; have SL9 := Lib.hid hO9.sl; clear hO9 hb9))
      go_wp2_with fail
      have BW9 := Lib.hid (B4.out.trans (BB9.mono B4.out.size))
      have gs := setCells_grown (w.heap.size + 1) [.int .i64 cap, .slice (some ⟨w3.heap.size + 1, 0, none⟩) (1) 1] 0 w9
      have bs : Below w.heap.size w (w9.setCells (w.heap.size + 1) 0 [.int .i64 cap, .slice (some ⟨w3.heap.size + 1, 0, none⟩) (1) 1]) := BW9.out.grown gs BW9.out.size (fun q hq => by injection hq; omega)
      have v1 : getL cap (l.map Hd.val) name no = x.val :: dropC name no (l.map Hd.val) := by unfold getL; rw [if_pos H0.out, FN.out]; rfl
      have v2 : getB cap (l.map Hd.val) name no = x.bs := by unfold getB; rw [if_pos H0.out, FN.out]; rfl
      have v3 : getOk cap (l.map Hd.val) name no = true := by unfold getOk; rw [FN.out, H0.out]; rfl
      refine bodyPost_ret (v := .tuple #[.agg #[.int .i64 cap, .slice (some ⟨w3.heap.size + 1, 0, none⟩) (1) 1], .slice A9 x.n c9, .bool true]) (by simp [results, Try.results23, go_sem, c89, l89]) rfl ?_
      rw [v1, v2, v3]
      refine ⟨(some ⟨w3.heap.size + 1, 0, none⟩), 1, 1, _, A9, x.n, c9, rfl, ((OW.out.kept BB9).grown gs (by omega) (fun a ha => hdK.below (HL.out.each a (HMX.out a ha)) bs)).sl, by rw [List.map_cons, HV.out], SL9.out.apart gs (fun b' off' e' e2 => ?_) (fun _ _ => trivial), bs, fun b off e => Nat.le_trans HB1.out.size (OW.out.lt e).1, fun a ha => .inl (HMX.out a ha)⟩
      have h1 := (O9.out.lt e').1
      have zp := P8.out.lt
      (try simp at h1)
      injection e2 with e2
      omega

theorem rget_any (cap : Int) (A : Option Addr) (n c : Nat) (l : List Hd) (name : ByteArray) (no : Int) (w : World) (hl : Hds w A n c l) (hn : n ≤ 60000) :
    Calls Try.prog 23 #[.agg #[.int .i64 cap, .slice A n c], .string name, .int .i64 no] w (GRes l (capC cap (l.map Hd.val)) (getL cap (l.map Hd.val) name no) (getB cap (l.map Hd.val) name no) (getOk cap (l.map Hd.val) name no) w) := by
  rcases check_cases cap (l.map Hd.val) with h | h
  · rw [show capC cap (l.map Hd.val) = cap from if_pos h]
    exact rget_ok cap A n c l name no w hl hn h
  · obtain ⟨h1, h2, h3, h4⟩ := get_err_vals (name := name) (no := no) h
    rw [h1, h2, h3, h4]
    exact rget_err cap A n c l name no w hl hn h

end Go.Proofs.Ythjohjijcgiogaa
