/- A producer that asks: asked. -/
import Derived.Test.YtnigjchgpmladaaPut
import Derived.Test.YtnigjchgpmladaaCor
import Derived.Test.YtnigjchgpmladaaCheck
import Derived.Test.YtnigjchgpmladaaLbs
namespace Go.Proofs.Ytnigjchgpmladaa
open Go.RowKit Go.Shelf

theorem srch_val {L : List Tx} {id : ByteArray} {i : Nat} {b : Bool} (h : SrchG (fun x : Tx => cmpS x.id id) L i b) : SrchG (fun v : Tv => cmpS v.id id) (L.map Tx.val) i b := by
  obtain ⟨h1, h2, h3, h4⟩ := h
  refine ⟨by rw [List.length_map]; exact h1, fun j hj hji => ?_, fun j hj hji => ?_, ?_⟩
  · rw [List.getElem_map]; exact h2 j (by simpa using hj) hji
  · rw [List.getElem_map]; exact h3 j (by simpa using hj) hji
  · rw [h4]
    constructor
    · rintro ⟨hi, e⟩
      exact ⟨by rw [List.length_map]; exact hi, by rw [List.getElem_map]; exact e⟩
    · rintro ⟨hi, e⟩
      rw [List.getElem_map] at e
      exact ⟨by simpa using hi, e⟩
theorem srch_yes {L : List Tv} {id : ByteArray} {i : Nat} (h : SrchG (fun v : Tv => cmpS v.id id) L i true) : idAt L id = some i := by
  obtain ⟨h1, h2, h3, h4⟩ := h
  obtain ⟨hi, e⟩ := h4.1 rfl
  unfold idAt
  rw [List.findIdx?_eq_some_iff_getElem]
  refine ⟨hi, decide_eq_true (cmpS_eq.1 e), fun j hj => ?_⟩
  have := h2 j (by omega) hj
  intro e
  have e := of_decide_eq_true e
  simp only [e, lawS.self] at this
  omega
theorem srch_no {L : List Tv} {id : ByteArray} {i : Nat} (hu : Up ordI L) (h : SrchG (fun v : Tv => cmpS v.id id) L i false) : idAt L id = none := by
  obtain ⟨h1, h2, h3, h4⟩ := h
  unfold idAt
  rw [List.findIdx?_eq_none_iff]
  intro v hv
  obtain ⟨j, hj, rfl⟩ := List.mem_iff_getElem.1 hv
  refine decide_eq_false fun e => ?_
  rcases Nat.lt_trichotomy j i with hji | rfl | hji
  · have := h2 j hj hji
    simp only [e, lawS.self] at this
    omega
  · have := h4.2 ⟨hj, by show cmpS L[j].id id = 0; rw [e]; exact lawS.self _⟩
    cases this
  · have a1 := h3 i (by omega) (Nat.le_refl _)
    have a2 := up_at hu hj hji
    unfold ordI at a2
    rw [e] at a2
    simp only at a1
    omega
theorem srch_mono {L : List Tx} {id : ByteArray} (hu : Up ordI (L.map Tx.val)) : ∀ j k (hk : k < L.length) (hj : j < k), cmpS L[k].id id < 0 → cmpS (L[j]'(Nat.lt_trans hj hk)).id id < 0 := fun j k hk hj h => by
  have := up_at hu (i := j) (j := k) (by rw [List.length_map]; exact hk) hj
  rw [List.getElem_map, List.getElem_map] at this
  exact lawS.trans _ _ _ this h
/-- What a change of a producer hands back. -/
def ChRes (W : World) (g : Nat) (r : Tv × Int) (e : Ending) (w' : World) : Prop :=
  e = .returned (.int .i64 r.2) ∧ (r.2 = 0 → ∃ y : Tx, Has w' g #[.string y.id, .int .i64 y.pid, .int .i64 y.gen, .int .i64 y.no, .int .i64 y.st, .slice y.PA y.Pn y.Pc, .slice y.GA y.Gn y.Gc, .int .i64 y.at_] ∧ Tx.In w' y ∧ y.val = r.1) ∧ W.grownBy w' (some g)
theorem ask_chk {c : Cv} {id : ByteArray} {pid gen : Int} {may : Bool} {f : Tv → Tv × Int} (h : checkV c ≠ 0) : askV c id pid gen may f = (noC, checkV c) := by unfold askV; rw [if_pos h]
theorem ask_may {c : Cv} {id : ByteArray} {pid gen : Int} {f : Tv → Tv × Int} (h : checkV c = 0) : askV c id pid gen false f = (noC, 1) := by unfold askV; rw [if_neg (by simpa using h), if_pos rfl]
theorem ask_none {c : Cv} {id : ByteArray} {pid gen : Int} {f : Tv → Tv × Int} (h : checkV c = 0) (h0 : idAt c.L id = none) : askV c id pid gen true f = (noC, 230) := by
  unfold askV; rw [if_neg (by simpa using h), if_neg (by simp), h0]
theorem ask_here {c : Cv} {id : ByteArray} {pid gen : Int} {f : Tv → Tv × Int} {i : Nat} {v : Tv} (h : checkV c = 0) (h0 : idAt c.L id = some i) (h1 : c.L[i]? = some v) :
    askV c id pid gen true f = if v.pid = pid ∧ v.gen = gen then (if (f v).2 ≠ 0 then (noC, (f v).2) else ({ c with L := c.L.set i (f v).1 }, 0)) else (noC, 110) := by
  unfold askV
  rw [if_neg (by simpa using h), if_neg (by simp), h0]
  simp only [h1]

set_option maxRecDepth 100000 in
set_option maxHeartbeats 16000000 in
theorem asked_any (o : Tc) (id : ByteArray) (pid gen : Int) (may : Bool) (F : Nat) (lb : Array Value) (f : Tv → Tv × Int) (w : World) (ho : Tc.At w o) (hf : FewV o.val)
    (eg : ∀ args w, (callFunc F args).run Try.prog w = .ok (.enter F args) w)
    (hch : ∀ (x : Tx) (g : Nat) (W : World), Below w.heap.size w W → w.heap.size ≤ g → Tx.In w x → Fine o.val → x.val ∈ o.val.L → Has W g #[.string x.id, .int .i64 x.pid, .int .i64 x.gen, .int .i64 x.no, .int .i64 x.st, .slice x.PA x.Pn x.Pc, .slice x.GA x.Gn x.Gc, .int .i64 x.at_] → Calls Try.prog F (#[.pointer (some ⟨g, 0, none⟩)] ++ lb) W fun e w' => ChRes W g (f x.val) e w') :
    Calls Try.prog 59 #[o.v, .string id, .int .i64 pid, .int .i64 gen, .bool may, .func (.func F) #[] lb] w fun e w' => CoRes w (askV o.val id pid gen may f) e w' := by
  obtain ⟨W0, hW0⟩ : ∃ W0, W0 = (w.alloc (.cells #[.int .i64 o.next, .slice o.A o.n o.c] 24)).alloc (.cells #[.int .i64 0, .slice none 0 0] 24) := ⟨_, rfl⟩
  have B0 := Lib.hid (show Below w.heap.size w W0 from by rw [hW0]; exact (below_alloc1 w _).alloc (by simp) _)
  have S0 := Lib.hid (show Has W0 w.heap.size #[.int .i64 o.next, .slice o.A o.n o.c] from by rw [hW0]; exact (Has.newAt w _ 24 rfl).alloc _)
  have R0 := Lib.hid (show Has W0 (w.heap.size + 1) #[.int .i64 0, .slice none 0 0] from by rw [hW0]; exact Has.newAt _ _ 24 (by simp))
  have HW := Lib.hid hW0
  have HO := Lib.hid ho
  have HC := Lib.hid hch
  have nm := ho.few hf
  have CK := Lib.hid (fun W (h : Below w.heap.size w W) => check_any o W (ho.below h) nm.1 nm.2)
  have NN := Lib.hid nm.1
  have RN := Lib.hid (fun (W : World) (c : Int) (hb : Below w.heap.size w W) (h : askV o.val id pid gen may f = (noC, c)) => CoRes.no (w' := W) h hb)
  clear ho hch hW0 hf nm
  have s0c := S0.out.cell
  have s0l := S0.out.lt
  by_cases hk : checkV o.val = 0
  · cases may with
    | false =>
      have HK := Lib.hid hk
      rw [hk] at CK
      clear hk
      go_enter Try.func59, Try.ntmps59
      go_upto_region 4 with (
        go_at_call 18; rw [← HW.out]; refine (CK.out _ B0.out).mono ?_; rintro e w1 ⟨rfl, hb1⟩; have B1 := Lib.hid (below_from hb1 B0.out B0.out.size); have S1 := Lib.hid (S0.out.past hb1); have R1 := Lib.hid (R0.out.past hb1); clear hb1 s0c s0l)
      have r1c := R1.out.cell
      have r1l := R1.out.lt
      have r1f := R1.out.free
      go_wp2_with fail
      have G := setCells_grown (w.heap.size + 1) [.int .i64 0, .slice none 0 0] 0 w1
      refine bodyPost_ret (v := .tuple #[noO.v, .int .i64 1]) (results_cell_tmp Try.results59 (g := w.heap.size + 1) rfl rfl (load24 (R1.out.set [.int .i64 0, .slice none 0 0] rfl))) rfl ?_
      exact RN.out _ _ (B1.out.trans (grown_below G B1.out.size (fun k hk => by injection hk with hk; omega))) (ask_may HK.out)
    | true =>
      have HK := Lib.hid hk
      have FN := Lib.hid (chk_iff.1 hk)
      rw [hk] at CK
      have SR := Lib.hid (fun W (h : Below w.heap.size w W) => searchX o.A o.n o.c o.L id W 45 #[] (fun x => cmpS x.id id) (Sl.below HO.out h) (by have := NN.out; omega) (enters_of Try.func45 (by kernel_rfl) rfl) (srch_mono FN.out.up) (fun x _ W _ => byid_any x id W))
      clear hk
      go_enter Try.func59, Try.ntmps59
      go_upto_region 6 with (
        go_at_call 18; rw [← HW.out]; refine (CK.out _ B0.out).mono ?_; rintro e w1 ⟨rfl, hb1⟩; have B1 := Lib.hid (below_from hb1 B0.out B0.out.size); have S1 := Lib.hid (S0.out.past hb1); have R1 := Lib.hid (R0.out.past hb1); clear hb1 s0c s0l)
      have s1c := S1.out.cell
      have s1l := S1.out.lt
      go_upto_region 7 with (
        go_at_call 44; refine (SR.out _ B1.out).mono ?_; rintro e w2 ⟨i, b, rfl, hS, hb2⟩; have B2 := Lib.hid (below_from hb2 B1.out B1.out.size); have S2 := Lib.hid (S1.out.past hb2); have R2 := Lib.hid (R1.out.past hb2); have HS := Lib.hid (srch_val hS); clear hb2 s1c s1l hS)
      cases b with
      | false =>
        have HI := Lib.hid (srch_no FN.out.up HS.out)
        have r2c := R2.out.cell
        have r2l := R2.out.lt
        have r2f := R2.out.free
        go_wp2_with fail
        have G := setCells_grown (w.heap.size + 1) [.int .i64 0, .slice none 0 0] 0 w2
        refine bodyPost_ret (v := .tuple #[noO.v, .int .i64 230]) (results_cell_tmp Try.results59 (g := w.heap.size + 1) rfl rfl (load24 (R2.out.set [.int .i64 0, .slice none 0 0] rfl))) rfl ?_
        exact RN.out _ _ (B2.out.trans (grown_below G B2.out.size (fun k hk => by injection hk with hk; omega))) (ask_none HK.out HI.out)
      | true =>
        have HI := Lib.hid (srch_yes HS.out)
        have hil := (HS.out.2.2.2.1 rfl).1
        have hin : i < o.n := by rw [← Sl.len HO.out]; simpa [Tc.val] using hil
        obtain ⟨b, off, hl, hA, hbl, u0, u1, u2, u3, u4, u5, u6, u7⟩ := tx_at (Sl.below HO.out B2.out) hin
        obtain ⟨x, hx⟩ : ∃ x, o.L[i] = x := ⟨_, rfl⟩
        have HX := Lib.hid (show Tx.In w x from by rw [← hx]; exact Sl.each HO.out _ (List.getElem_mem hl))
        have HV := Lib.hid (show o.val.L[i]? = some x.val from by show (o.L.map Tx.val)[i]? = _; rw [List.getElem?_map, List.getElem?_eq_getElem hl, hx]; rfl)
        have HM := Lib.hid (show x.val ∈ o.val.L from List.mem_of_getElem? HV.out)
        have HIN := Lib.hid hin
        rw [hx] at u0 u1 u2 u3 u4 u5 u6 u7
        have q0 : (0 : Int) ≤ (i : Int) := by omega
        have q1 : (i : Int) < (o.n : Int) := by omega
        clear hx hl hil hin
        have s2c := S2.out.cell
        have s2l := S2.out.lt
        obtain ⟨CA, hCA⟩ : ∃ A, o.A = A := ⟨_, rfl⟩
        have HCA := Lib.hid hCA
        rw [hA] at s2c
        clear hCA hA
        go_upto_region 10 with (fail)
        obtain ⟨w3, hw3⟩ : ∃ W, W = w2.alloc (.cells #[.string x.id, .int .i64 x.pid, .int .i64 x.gen, .int .i64 x.no, .int .i64 x.st, .slice x.PA x.Pn x.Pc, .slice x.GA x.Gn x.Gc, .int .i64 x.at_] 33) := ⟨_, rfl⟩
        have B3 := Lib.hid (show Below w.heap.size w w3 from by rw [hw3]; exact B2.out.alloc B2.out.size _)
        have S3 := Lib.hid (show Has w3 w.heap.size #[.int .i64 o.next, .slice o.A o.n o.c] from by rw [hw3]; exact S2.out.alloc _)
        have R3 := Lib.hid (show Has w3 (w.heap.size + 1) #[.int .i64 0, .slice none 0 0] from by rw [hw3]; exact R2.out.alloc _)
        have X3 := Lib.hid (show Has w3 w2.heap.size #[.string x.id, .int .i64 x.pid, .int .i64 x.gen, .int .i64 x.no, .int .i64 x.st, .slice x.PA x.Pn x.Pc, .slice x.GA x.Gn x.Gc, .int .i64 x.at_] from by rw [hw3]; exact Has.newAt w2 _ 33 rfl)
        have GE := Lib.hid (show w.heap.size + 1 < w2.heap.size from R2.out.lt)
        have HCX := Lib.hid (HC.out x w2.heap.size w3 B3.out (by have := GE.out; omega) HX.out FN.out HM.out X3.out)
        rw [← hw3]
        clear hw3 s2c s2l u0 u1 u2 u3 u4 u5 u6 u7 q0 q1 HC HX
        have ANS := Lib.hid (ask_here (pid := pid) (gen := gen) (f := f) HK.out HI.out HV.out)
        have x3c := X3.out.cell
        have x3l := X3.out.lt
        by_cases h1 : x.pid = pid
        · by_cases h2 : x.gen = gen
          · have ANS := Lib.hid (show _ = _ from ANS.out.trans (if_pos ⟨h1, h2⟩))
            have d1 : (x.pid != pid) = false := by rw [bne_eq_false_iff_eq]; exact h1
            have d2 : (x.gen != gen) = false := by rw [bne_eq_false_iff_eq]; exact h2
            have d3 : (x.pid == pid) = true := by rw [beq_iff_eq]; exact h1
            have d4 : (x.gen == gen) = true := by rw [beq_iff_eq]; exact h2
            clear h1 h2
            obtain ⟨r, hr⟩ : ∃ r, f x.val = r := ⟨_, rfl⟩
            obtain ⟨v, c⟩ := r
            rw [hr] at HCX ANS
            clear hr
            go_upto_region 13 with (
              refine HCX.out.mono ?_; rintro e w4 ⟨rfl, hy, hg⟩; have HY := Lib.hid hy; have B4 := Lib.hid (B3.out.trans (grown_below hg B3.out.size (fun k hk => by injection hk with hk; have := GE.out; omega))); have S4 := Lib.hid (S3.out.grown hg (by have := GE.out; omega)); have R4 := Lib.hid (R3.out.grown hg (by have := GE.out; omega)); clear hy hg x3c x3l)
            by_cases hc : c = 0
            · subst hc
              obtain ⟨y, hY, hYI, hYV⟩ := HY.out rfl
              have Y4 := Lib.hid hY
              have YI := Lib.hid hYI
              have PU := Lib.hid (put_any o i y w4 (HO.out.below B4.out) hYI HIN.out NN.out)
              have ANS := Lib.hid (show askV o.val id pid gen true f = (({ o.val with L := o.val.L.set i y.val } : Cv), (0 : Int)) from by rw [ANS.out, if_neg (by simp), hYV])
              clear hY hYI hYV
              have s4c := S4.out.cell
              have s4l := S4.out.lt
              have y4c := Y4.out.cell
              have y4l := Y4.out.lt
              go_wp2_with (
                go_at_call 46; refine PU.out.mono ?_; rintro e w5 ⟨q, rfl, hq, hb5⟩; have B5 := Lib.hid (below_from hb5 B4.out B4.out.size); have R5 := Lib.hid (R4.out.past hb5); have HQ := Lib.hid hq; have r5c := R5.out.cell; have r5l := R5.out.lt; have r5f := R5.out.free; clear hb5 hq s4c s4l y4c y4l)
              have G := setCells_grown (w.heap.size + 1) [.int .i64 q.next, .slice q.A q.n q.c] 0 w5
              have BB := B5.out.trans (grown_below G B5.out.size (fun k hk => by injection hk with hk; omega))
              refine bodyPost_ret (v := .tuple #[q.v, .int .i64 0]) (results_cell_tmp Try.results59 (g := w.heap.size + 1) rfl rfl (load24 (R5.out.set [.int .i64 q.next, .slice q.A q.n q.c] rfl))) rfl ?_
              exact CoRes.of ANS.out (HQ.out.beside R5.out (tc_texts _ _ _ _) G) BB
            · have d5 : (c != 0) = true := by rw [bne_iff_ne]; exact hc
              have d6 : (c == 0) = false := by rw [beq_eq_false_iff_ne]; exact hc
              have ANS := Lib.hid (show askV o.val id pid gen true f = (noC, c) from by rw [ANS.out, if_pos hc])
              clear hc
              have r4c := R4.out.cell
              have r4l := R4.out.lt
              have r4f := R4.out.free
              go_wp2_with fail
              have G := setCells_grown (w.heap.size + 1) [.int .i64 0, .slice none 0 0] 0 w4
              refine bodyPost_ret (v := .tuple #[noO.v, .int .i64 c]) (results_cell_tmp Try.results59 (g := w.heap.size + 1) rfl rfl (load24 (R4.out.set [.int .i64 0, .slice none 0 0] rfl))) rfl ?_
              exact RN.out _ _ (B4.out.trans (grown_below G B4.out.size (fun k hk => by injection hk with hk; omega))) (ANS.out)
          · have ANS := Lib.hid (show askV o.val id pid gen true f = (noC, 110) from by rw [ANS.out, if_neg (fun h => h2 h.2)])
            have d1 : (x.pid != pid) = false := by rw [bne_eq_false_iff_eq]; exact h1
            have d2 : (x.gen != gen) = true := by rw [bne_iff_ne]; exact h2
            have d3 : (x.pid == pid) = true := by rw [beq_iff_eq]; exact h1
            have d4 : (x.gen == gen) = false := by rw [beq_eq_false_iff_ne]; exact h2
            clear h1 h2
            have r3c := R3.out.cell
            have r3l := R3.out.lt
            have r3f := R3.out.free
            go_wp2_with fail
            have G := setCells_grown (w.heap.size + 1) [.int .i64 0, .slice none 0 0] 0 w3
            refine bodyPost_ret (v := .tuple #[noO.v, .int .i64 110]) (results_cell_tmp Try.results59 (g := w.heap.size + 1) rfl rfl (load24 (R3.out.set [.int .i64 0, .slice none 0 0] rfl))) rfl ?_
            exact RN.out _ _ (B3.out.trans (grown_below G B3.out.size (fun k hk => by injection hk with hk; omega))) (ANS.out)
        · have ANS := Lib.hid (show askV o.val id pid gen true f = (noC, 110) from by rw [ANS.out, if_neg (fun h => h1 h.1)])
          have d1 : (x.pid != pid) = true := by rw [bne_iff_ne]; exact h1
          have d3 : (x.pid == pid) = false := by rw [beq_eq_false_iff_ne]; exact h1
          clear h1
          have r3c := R3.out.cell
          have r3l := R3.out.lt
          have r3f := R3.out.free
          go_wp2_with fail
          have G := setCells_grown (w.heap.size + 1) [.int .i64 0, .slice none 0 0] 0 w3
          refine bodyPost_ret (v := .tuple #[noO.v, .int .i64 110]) (results_cell_tmp Try.results59 (g := w.heap.size + 1) rfl rfl (load24 (R3.out.set [.int .i64 0, .slice none 0 0] rfl))) rfl ?_
          exact RN.out _ _ (B3.out.trans (grown_below G B3.out.size (fun k hk => by injection hk with hk; omega))) (ANS.out)
  · have HK := Lib.hid hk
    obtain ⟨c, hc⟩ : ∃ c, checkV o.val = c := ⟨_, rfl⟩
    have HQ := Lib.hid hc
    rw [hc] at CK hk
    have d1 : (c != 0) = true := by rw [bne_iff_ne]; exact hk
    have d2 : (c == 0) = false := by rw [beq_eq_false_iff_ne]; exact hk
    clear hc hk
    go_enter Try.func59, Try.ntmps59
    go_upto_region 3 with (
      go_at_call 18; rw [← HW.out]; refine (CK.out _ B0.out).mono ?_; rintro e w1 ⟨rfl, hb1⟩; have B1 := Lib.hid (below_from hb1 B0.out B0.out.size); have S1 := Lib.hid (S0.out.past hb1); have R1 := Lib.hid (R0.out.past hb1); clear hb1 s0c s0l)
    have r1c := R1.out.cell
    have r1l := R1.out.lt
    have r1f := R1.out.free
    go_wp2_with fail
    have G := setCells_grown (w.heap.size + 1) [.int .i64 0, .slice none 0 0] 0 w1
    refine bodyPost_ret (v := .tuple #[noO.v, .int .i64 c]) (results_cell_tmp Try.results59 (g := w.heap.size + 1) rfl rfl (load24 (R1.out.set [.int .i64 0, .slice none 0 0] rfl))) rfl ?_
    exact RN.out _ _ (B1.out.trans (grown_below G B1.out.size (fun k hk => by injection hk with hk; omega))) (by rw [ask_chk HK.out, HQ.out])

end Go.Proofs.Ytnigjchgpmladaa
