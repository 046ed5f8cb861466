/- Put, of the program, where it may be done. -/
import Derived.Test.YthjohjijcgiogaaPut
namespace Go.Proofs.Ythjohjijcgiogaa
open Go.RowKit

/-- What take leaves, by what chunks are. -/
theorem take_vals {w w' : World} {l : List Hd} {n : Nat} {name : ByteArray} {no : Int} {e : Ending} (hg : good (l.map Hd.val) = true) (hn : l.length = n) (h : TakeRes w l n name no e w') :
    ∃ A' n' c' l' r, e = .returned (.tuple #[.slice A' n' c', .int .i64 r]) ∧ Own hdK 37 w' w.heap.size A' n' c' l' ∧ Below w.heap.size w w' ∧ l'.map Hd.val = dropC name no (l.map Hd.val) ∧ n' ≤ n ∧ (∀ a ∈ l', a ∈ l) ∧
      ((r = -1 ∧ findC name no (l.map Hd.val) = none ∧ l' = l) ∨ ∃ i, ∃ hi : i < l.length, r = (i : Int) ∧ findC name no (l.map Hd.val) = some l[i].val ∧ isK name no l[i].val = true) := by
  obtain ⟨A', n', c', l', r, h1, h2, h3, h4⟩ := h
  refine ⟨A', n', c', l', r, h1, h2, h3, ?_⟩
  rcases h4 with ⟨rfl, rfl, rfl, h⟩ | ⟨i, hi, rfl, hk, hb, rfl, rfl⟩
  · have hnone := findC_none (L := l'.map Hd.val) (name := name) (no := no) (fun j hj => by rw [List.getElem_map]; exact h j (by simpa using hj))
    exact ⟨hnone.2.symm, Nat.le_refl _, fun a ha => ha, .inl ⟨rfl, hnone.1, rfl⟩⟩
  · have hi' : i < (l.map Hd.val).length := by simpa using hi
    have hk' : isK name no (l.map Hd.val)[i] = true := by rw [List.getElem_map]; exact hk
    refine ⟨?_, by omega, fun a ha => ?_, .inr ⟨i, hi, rfl, ?_, hk⟩⟩
    · rw [dropC_erase hg hi' hk', List.map_append, List.map_take, List.map_drop]
    · rcases List.mem_append.1 ha with ha | ha
      · exact List.mem_of_mem_take ha
      · exact List.mem_of_mem_drop ha
    · rw [findC_at hi' hk' (fun j hj hji => by rw [List.getElem_map]; exact hb j (by simpa using hj) hji), List.getElem_map]

set_option maxHeartbeats 4000000 in
set_option maxRecDepth 100000 in
theorem put_big (cap : Int) (A : Option Addr) (n c : Nat) (l : List Hd) (name : ByteArray) (no : Int) (A' : Option Addr) (n' c' : Nat) (w : World) (hl : Hds w A n c l) (hn : n ≤ 60000)
    (h0 : checkC cap (l.map Hd.val) = 0) (hm : mayK name no = true) (hbig : cap < n') :
    Calls Try.prog 20 #[.agg #[.int .i64 cap, .slice A n c], .string name, .int .i64 no, .slice A' n' c'] w (CRes l (fun v => .tuple #[v, .int .i64 0]) cap (dropC name no (l.map Hd.val)) w) := by
  obtain ⟨W0, hW0⟩ : ∃ W0, W0 = (((w.alloc (.cells #[.int .i64 cap, .slice A n c] 24)).alloc (.cells #[.int .i64 0, .slice none 0 0] 24)).alloc (.cells #[.string name, .int .i64 no] 57)) := ⟨_, rfl⟩
  have hb0 : Below w.heap.size w W0 := by rw [hW0]; exact below_from (below_alloc1 _ _) (below_from (below_alloc1 _ _) (below_alloc1 w _) (by simp)) (by simp <;> omega)
  have N4 := Lib.hid (show Has W0 w.heap.size #[.int .i64 cap, .slice A n c] by rw [hW0]; exact ((Has.newAt w _ 24 rfl).alloc _).alloc _)
  have N8 := Lib.hid (show Has W0 (w.heap.size + 1) #[.int .i64 0, .slice none 0 0] by rw [hW0]; exact (Has.newAt (w.alloc (.cells #[.int .i64 cap, .slice A n c] 24)) _ 24 (by simp)).alloc _)
  have N10 := Lib.hid (show Has W0 (w.heap.size + 1 + 1) #[.string name, .int .i64 no] by rw [hW0]; exact Has.newAt _ _ 57 (by simp))
  have ck := Lib.hid (check_any cap A n c l W0 (hl.below hb0) hn)
  rw [h0] at ck
  have GD := Lib.hid (good_of_check h0).1
  have HLN := Lib.hid hl.len
  have B0 := Lib.hid hb0
  have HL := Lib.hid hl
  have may := Lib.hid (fun w' => by have := may_any name no w'; rwa [hm] at this)
  have tk := Lib.hid (fun w' (hb : Below w.heap.size w w') => take_any cap A n c l name no w' (hl.below hb) hn)
  clear hl hb0 h0 hm
  subst hW0
  have z0 := B0.out.size
  go_enter Try.func20, Try.ntmps20
  go_wp2_with (first | (go_at_call 15; refine ck.out.mono ?_; rintro e w1 ⟨rfl, hb1⟩; have HB1 := Lib.hid (below_from hb1 B0.out B0.out.size); have M8 := Lib.hid ((N8.out.past hb1).alloc (.cells #[.string name, .int .i64 no] 57)); have M4 := Lib.hid ((N4.out.past hb1).alloc (.cells #[.string name, .int .i64 no] 57)); have M10 := N10.out.past hb1; have c10 := M10.cell; have l10 := M10.lt; have P10 := Lib.hid (M10.alloc (.cells #[.string name, .int .i64 no] 57)); clear M10 hb1) | (go_at_call 34; refine (may.out _).mono ?_; rintro e w2 ⟨rfl, rfl⟩; have c4 := M4.out.cell; have l4 := M4.out.lt; have d10 := P10.out.cell; have B2 := Lib.hid (HB1.out.alloc HB1.out.size (.cells #[.string name, .int .i64 no] 57))) | (go_at_call 36; refine (tk.out _ B2.out).mono ?_; intro e w3 ht; obtain ⟨At, nt, ct, lt, r, rfl, hO, hb3, hv, hnt, hmem, _⟩ := take_vals GD.out HLN.out ht; have HO := Lib.hid hO; have B3 := Lib.hid (below_from hb3 B2.out B2.out.size); have Q8 := M8.out.past hb3; have c8 := Q8.cell; have f8 := Q8.free; have l8 := Q8.lt; have Q4 := M4.out.past hb3; have e4 := Q4.cell; have f4 := Q4.lt; have HV := Lib.hid hv; have HMEM := Lib.hid hmem; have S3 := hb3.size; simp at S3; clear ht hO hb3 hv hmem Q4 Q8 c4 l4 d10 c10 l10))
  have gs := setCells_grown (w.heap.size + 1) [.int .i64 cap, .slice At nt ct] 0 w3
  have bs : Below w.heap.size w (w3.setCells (w.heap.size + 1) 0 [.int .i64 cap, .slice At nt ct]) := B3.out.grown gs B3.out.size (fun q hq => by injection hq; omega)
  refine bodyPost_ret (v := .tuple #[.agg #[.int .i64 cap, .slice At nt ct], .int .i64 0]) (by simp [results, Try.results20, go_sem, c8, l8]) rfl ⟨At, nt, ct, lt, rfl, ?_, HV.out, bs, fun b off e => Nat.le_trans B2.out.size (HO.out.lt e).1, fun a ha => .inl (HMEM.out a ha)⟩
  have hO := HO.out
  have z2 : w.heap.size + 1 < (w1.alloc (.cells #[.string name, .int .i64 no] 57)).heap.size := M8.out.lt
  exact (hO.grown gs z2 (fun a ha => hdK.below (HL.out.each a (HMEM.out a ha)) bs)).sl

theorem insert0 (B : Nat) (A : Option Addr) (n c vb : Nat) (l : List Hd) (x : Hd) (w : World) (ho : w.ownsRow B 37 3 (.slice A n c) n (l.flatMap hdK.cells)) (hB0 : B ≤ w.heap.size) (hn : n ≤ 60000)
    (hv : Has w vb #[.string x.name, .int .i64 x.no, .slice x.A x.n x.c]) (hvh : w.heap[vb]? = some (.cells #[.string x.name, .int .i64 x.no, .slice x.A x.n x.c] 37 (0, 0))) (hvb : (Value.slice A n c).ownBlock ≠ some vb) :
    Calls Try.prog 37 #[.slice A n c, .int .i64 0, .slice (some ⟨vb, 0, none⟩) 1 1] w fun e w' => ∃ A' c', e = .returned (.slice A' (n + 1) c') ∧ w'.ownsRow B 37 3 (.slice A' (n + 1) c') (n + 1) ((x :: l).flatMap hdK.cells) ∧ w.grownBy w' (Value.slice A n c).ownBlock := by
  have h := insertHd_any B A n c 1 0 vb 1 #[.string x.name, .int .i64 x.no, .slice x.A x.n x.c] (l.flatMap hdK.cells) [.string x.name, .int .i64 x.no, .slice x.A x.n x.c] w ho (RK.flat_one hdK l) hB0 (by omega) (by omega) hvh rfl rfl (hdK.one x) hvb (Nat.zero_le _)
  refine h.mono fun e w' hx => ?_
  obtain ⟨A', c', h1, h2, h3⟩ := hx
  simp only [Nat.zero_mul, List.take_zero, List.nil_append, List.drop_zero] at h2
  exact ⟨A', c', h1, h2, h3⟩

set_option maxHeartbeats 4000000 in
set_option maxRecDepth 100000 in
theorem put_fits (cap : Int) (A : Option Addr) (n c : Nat) (l : List Hd) (name : ByteArray) (no : Int) (A' : Option Addr) (n' c' : Nat) (bs : List UInt8) (w : World) (hl : Hds w A n c l) (hn : n ≤ 60000) (hbs : Sl u8K w A' n' c' bs)
    (hnm : name.size ≤ maxLen) (hno : (Lit.int .i64 no).wf = true) (h0 : checkC cap (l.map Hd.val) = 0) (hm : mayK name no = true) (hbig : n' ≤ cap) :
    Calls Try.prog 20 #[.agg #[.int .i64 cap, .slice A n c], .string name, .int .i64 no, .slice A' n' c'] w (CRes l (fun v => .tuple #[v, .int .i64 0]) cap (fit cap (⟨name, no, bs⟩ :: dropC name no (l.map Hd.val))) w) := by
  obtain ⟨W0, hW0⟩ : ∃ W0, W0 = (((w.alloc (.cells #[.int .i64 cap, .slice A n c] 24)).alloc (.cells #[.int .i64 0, .slice none 0 0] 24)).alloc (.cells #[.string name, .int .i64 no] 57)) := ⟨_, rfl⟩
  have hb0 : Below w.heap.size w W0 := by rw [hW0]; exact below_from (below_alloc1 _ _) (below_from (below_alloc1 _ _) (below_alloc1 w _) (by simp)) (by simp <;> omega)
  have N4 := Lib.hid (show Has W0 w.heap.size #[.int .i64 cap, .slice A n c] by rw [hW0]; exact ((Has.newAt w _ 24 rfl).alloc _).alloc _)
  have N8 := Lib.hid (show Has W0 (w.heap.size + 1) #[.int .i64 0, .slice none 0 0] by rw [hW0]; exact (Has.newAt (w.alloc (.cells #[.int .i64 cap, .slice A n c] 24)) _ 24 (by simp)).alloc _)
  have N10 := Lib.hid (show Has W0 (w.heap.size + 1 + 1) #[.string name, .int .i64 no] by rw [hW0]; exact Has.newAt _ _ 57 (by simp))
  have ck := Lib.hid (check_any cap A n c l W0 (hl.below hb0) hn)
  rw [h0] at ck
  have GD := Lib.hid (good_of_check h0).1
  have HLN := Lib.hid hl.len
  have B0 := Lib.hid hb0
  have HL := Lib.hid hl
  have GC := Lib.hid (good_of_check h0).2
  have may := Lib.hid (fun w' => by have := may_any name no w'; rwa [hm] at this)
  have tk := Lib.hid (fun w' (hb : Below w.heap.size w w') => take_any cap A n c l name no w' (hl.below hb) hn)
  have HBS := Lib.hid hbs
  have HNM := Lib.hid (And.intro hnm hno)
  have hcap := GC.out
  obtain ⟨hcap0, hcap1, hcap2⟩ := hcap
  clear hl hb0 h0 hm hbs hnm hno
  subst hW0
  have z0 := B0.out.size
  go_enter Try.func20, Try.ntmps20
  go_wp2_with (first | (go_at_call 15; refine ck.out.mono ?_; rintro e w1 ⟨rfl, hb1⟩; have HB1 := Lib.hid (below_from hb1 B0.out B0.out.size); have M8 := Lib.hid ((N8.out.past hb1).alloc (.cells #[.string name, .int .i64 no] 57)); have M4 := Lib.hid ((N4.out.past hb1).alloc (.cells #[.string name, .int .i64 no] 57)); have M10 := N10.out.past hb1; have c10 := M10.cell; have l10 := M10.lt; have P10 := Lib.hid (M10.alloc (.cells #[.string name, .int .i64 no] 57)); clear M10 hb1) | (go_at_call 34; refine (may.out _).mono ?_; rintro e w2 ⟨rfl, rfl⟩; have c4 := M4.out.cell; have l4 := M4.out.lt; have d10 := P10.out.cell; have B2 := Lib.hid (HB1.out.alloc HB1.out.size (.cells #[.string name, .int .i64 no] 57))) | (go_at_call 36; refine (tk.out _ B2.out).mono ?_; intro e w3 ht; obtain ⟨At, nt, ct, lt, r, rfl, hO, hb3, hv, hnt, hmem, _⟩ := take_vals GD.out HLN.out ht; have HO := Lib.hid hO; have B3 := Lib.hid (below_from hb3 B2.out B2.out.size); have Q8 := M8.out.past hb3; have P8 := Lib.hid Q8; have Q4 := M4.out.past hb3; have HP4 := Lib.hid Q4; have e4 := Q4.cell; have f4 := Q4.lt; have HV := Lib.hid hv; have HMEM := Lib.hid hmem; have S3 := hb3.size; simp at S3; clear ht hO hb3 hv hmem Q4 Q8 c4 l4 d10 c10 l10))
  have S1 := HB1.out.size
  have z1 := M8.out.lt
  have cb := cloneBs A' n' c' bs w3 (HBS.out.below B3.out) (by omega)
  refine cb.mono ?_
  rintro e w4 hx
  obtain ⟨Ab, cb', rfl, hOb, hb4⟩ := hx
  have OB := Lib.hid hOb
  have B34 := Lib.hid hb4
  have S4 := hb4.size
  have B4 := Lib.hid (below_from hb4 B3.out B3.out.size)
  have P8' := Lib.hid ((P8.out.past hb4).alloc (.cells #[.string name, .int .i64 no, .slice Ab n' cb'] 37))
  have z3 : w.heap.size + 1 < w1.heap.size + 1 := by have := z1; simp at this; omega
  have P4' := Lib.hid (((HP4.out.past hb4).alloc (.cells #[.string name, .int .i64 no, .slice Ab n' cb'] 37)))
  have X4 := Lib.hid (Has.newAt w4 #[.string name, .int .i64 no, .slice Ab n' cb'] 37 (g := w4.heap.size) rfl)
  have OT := Lib.hid ((HO.out.kept hb4).kept (below_alloc1 w4 (.cells #[.string name, .int .i64 no, .slice Ab n' cb'] 37)))
  have SA : ∀ q, (Value.slice At nt ct).ownBlock = some q → q < w3.heap.size := fun q hq => (HO.out.2.1.lt q hq).2
  have SA' := Lib.hid SA
  have NB : Hid ((Value.slice At nt ct).ownBlock ≠ some w4.heap.size) := fun e => by have := SA _ e; omega
  clear hOb hb4 SA
  go_wp2_with fail
  refine (insert0 (w1.alloc (.cells #[.string name, .int .i64 no] 57)).heap.size At nt ct w4.heap.size lt ⟨name, no, Ab, n', cb', bs⟩ _ OT.out.2.1 (by simp; omega) (by omega) X4.out (heap_alloc_new w4 _) NB.out).mono ?_
  rintro e w5 hx
  obtain ⟨A5, c5, rfl, hr5, hg5⟩ := hx
  have hS5 := hg5.size
  simp at hS5
  have hb5 : Below (w1.alloc (.cells #[.string name, .int .i64 no] 57)).heap.size (w4.alloc (.cells #[.string name, .int .i64 no, .slice Ab n' cb'] 37)) w5 := owns_below OT.out.2.1 hg5 (by simp; omega)
  have B5 := Lib.hid (((B4.out.alloc B4.out.size (.cells #[.string name, .int .i64 no, .slice Ab n' cb'] 37)).trans (hb5.mono (by simp; omega))))
  have R8 := Lib.hid (P8'.out.below hb5 (by simp; omega))
  have R4 := Lib.hid (P4'.out.below hb5 (by simp; omega))
  have NEWIN : Hd.In w5 ⟨name, no, Ab, n', cb', bs⟩ := by
    refine ⟨?_, by show n' ≤ _; omega, HNM.out.1, HNM.out.2⟩
    refine ((OB.out.sl.alloc (.cells #[.string name, .int .i64 no, .slice Ab n' cb'] 37)).apart hg5 (fun b off e => ?_) (fun _ _ => trivial))
    have := (OB.out.lt e).1
    intro e2
    have := SA'.out b e2.symm
    omega
  have O5 : Own hdK 37 w5 (w1.alloc (.cells #[.string name, .int .i64 no] 57)).heap.size A5 (nt + 1) c5 (⟨name, no, Ab, n', cb', bs⟩ :: lt) := by
    refine ⟨by rw [List.length_cons, HO.out.1], hr5, fun a ha => ?_⟩
    rcases List.mem_cons.1 ha with rfl | ha
    · exact NEWIN
    · exact hdK.below (HL.out.each a (HMEM.out a ha)) B5.out
  have vals : (⟨name, no, Ab, n', cb', bs⟩ :: lt : List Hd).map Hd.val = ⟨name, no, bs⟩ :: dropC name no (l.map Hd.val) := by rw [List.map_cons, HV.out]; rfl
  have VALS := Lib.hid vals
  have HO5 := Lib.hid O5
  have MEM5 := Lib.hid (show ∀ a ∈ (⟨name, no, Ab, n', cb', bs⟩ :: lt : List Hd), a ∈ l ∨ a = ⟨name, no, Ab, n', cb', bs⟩ from fun a ha => by
    rcases List.mem_cons.1 ha with h | h
    · exact .inr h
    · exact .inl (HMEM.out a h))
  have szb : (sz (⟨name, no, bs⟩ :: dropC name no (l.map Hd.val)) : Int) ≤ 2199023255552 := by
    rw [sz_cons]
    have := sz_drop_le name no (l.map Hd.val)
    have hbl : bs.length = n' := HBS.out.len
    simp only [hbl]
    omega
  have SZB := Lib.hid szb
  generalize hl5 : (⟨name, no, Ab, n', cb', bs⟩ :: lt : List Hd) = l5 at *
  have ix : ∀ W6, W6 = w5.alloc (.cells #[.int .i64 cap] 3) → Calls Try.prog 39 #[.slice A5 (nt + 1) c5, .func (.func 40) #[] #[.pointer (some ⟨w5.heap.size, 0, none⟩)]] W6 fun e w' => ∃ r : Int, e = .returned (.int .i64 r) ∧
      Found (fun j => decide (cap - sz ((l5.map Hd.val).take (j + 1)) < 0)) (nt + 1) (fun j W => Below w5.heap.size w5 W ∧ Has W w5.heap.size #[.int .i64 (cap - sz ((l5.map Hd.val).take j))]) r w' := by
    rintro W6 rfl
    refine indexHd A5 (nt + 1) c5 l5 _ 40 #[.pointer (some ⟨w5.heap.size, 0, none⟩)] _ _ (fun _ _ => by kernel_rfl) (by omega) ⟨below_alloc1 _ _, ?_⟩ (fun j W h => (O5.kept h.1).sl) (fun j hj W h => ?_)
    · have := Has.newAt w5 #[.int .i64 cap] 3 (g := w5.heap.size) rfl
      simpa [sz] using this
    · have hsz := sz_take_le (l5.map Hd.val) j
      rw [vals] at hsz
      have hin := O5.2.2 l5[j] (List.getElem_mem hj)
      have hj' : j < (l5.map Hd.val).length := by simpa using hj
      have e1 : cap - (sz ((l5.map Hd.val).take j) : Int) - (l5[j].n : Int) = cap - sz ((l5.map Hd.val).take (j + 1)) := by
        rw [sz_snoc _ _ hj', List.getElem_map]
        have : l5[j].val.bs.length = l5[j].n := hin.sl.len
        rw [this]; omega
      rw [vals] at *
      refine (put1_any l5[j] _ w5.heap.size W h.2 (by omega) (by omega) hin.max).mono ?_
      rintro e w' ⟨rfl, h2, h3⟩
      rw [e1] at h2 ⊢
      exact ⟨rfl, h.1.trans (grown_below h3 h.1.size (fun q hq => by injection hq; omega)), h2⟩
  have IX := Lib.hid ix
  have r4 := (R4.out.alloc (.cells #[.int .i64 cap] 3)).cell
  have s4 := (R4.out.alloc (.cells #[.int .i64 cap] 3)).lt
  have hmf := hmf
  have q4 := R4.out.cell
  have t4 := R4.out.lt
  clear hl5 vals szb O5 NEWIN ix hr5 hg5 hb5
  go_wp2_with fail
  refine (IX.out _ rfl).mono ?_
  rintro e w7 hx
  obtain ⟨r, rfl, hF⟩ := hx
  have b57 : Below w5.heap.size w5 w7 := by
    rcases hF with ⟨_, _, h, _⟩ | ⟨_, _, _, _, _, h, _⟩ <;> exact h
  have B7 := Lib.hid (below_from b57 B5.out B5.out.size)
  have T8 := Lib.hid (R8.out.past b57)
  have T4 := R4.out.past b57
  have u4 := T4.cell
  have v4 := T4.lt
  have u8 := T8.out.cell
  have g8 := T8.out.free
  have v8 := T8.out.lt
  have O7 := Lib.hid (HO5.out.kept b57)
  have MB := Lib.hid (show ∀ a ∈ l5, Hd.In w5 a from HO5.out.2.2)
  have B57 := Lib.hid b57
  have FF := Lib.hid hF
  have gq : w5.heap.size ≤ w7.heap.size := b57.size
  clear hF b57 T4 r4 s4 q4 t4
  have LEN : l5.length = nt + 1 := HO5.out.1
  have HLEN := Lib.hid LEN
  have LV : (l5.map Hd.val).length = nt + 1 := by rw [List.length_map, LEN]
  have FA := Lib.hid (fit_at (⟨name, no, bs⟩ :: dropC name no (l.map Hd.val)) cap)
  have VL : (⟨name, no, bs⟩ :: dropC name no (l.map Hd.val) : List Ch).length = nt + 1 := by rw [← VALS.out]; exact LV
  have HVL := Lib.hid VL
  clear LEN LV VL
  have gs := fun (vs : List Value) (W : World) => setCells_grown (w.heap.size + 1) vs 0 W
  have GS := Lib.hid gs
  clear gs
  have FIN : ∀ W', Below w.heap.size w W' → w7.grownBy W' (some (w.heap.size + 1)) → ∀ a ∈ l5, Hd.In W' a := by
    intro W' hb' hg' a ha
    rcases MEM5.out a ha with h | rfl
    · exact hdK.below (HL.out.each a h) hb'
    · have i7 := hdK.below (MB.out _ ha) B57.out
      refine ⟨i7.sl.apart hg' (fun b off e => ?_) (fun _ _ => trivial), i7.max, i7.nm, i7.wf⟩
      have := (OB.out.lt e).1
      intro e2
      injection e2 with e2
      omega
  have FINH := Lib.hid FIN
  have NEWH : Hid (∀ a ∈ l5, a ∈ l ∨ ∀ b off, a.A = some ⟨b, off, none⟩ → w.heap.size ≤ b) := fun a ha => by
    rcases MEM5.out a ha with h | rfl
    · exact .inl h
    · exact .inr fun b off e => Nat.le_trans B3.out.size (OB.out.lt e).1
  have VALS' := VALS
  clear FIN
  rcases FF.out with ⟨rfl, hall, _⟩ | ⟨k, rfl, hkn, hpk, hbef, _⟩
  · have HALL := Lib.hid hall
    clear hall FF
    go_wp2_with fail
    have bs' : Below w.heap.size w (w7.setCells (w.heap.size + 1) 0 [.int .i64 cap, .slice A5 (nt + 1) c5]) := B7.out.grown (GS.out _ _) B7.out.size (fun q hq => by injection hq; omega)
    refine bodyPost_ret (v := .tuple #[.agg #[.int .i64 cap, .slice A5 (nt + 1) c5], .int .i64 0]) (by simp [results, Try.results20, go_sem, u8, v8]) rfl ⟨A5, nt + 1, c5, l5, rfl, ?_, ?_, bs', fun b off e => Nat.le_trans B2.out.size (HO5.out.lt e).1, NEWH.out⟩
    · exact (O7.out.grown (GS.out _ _) (by simp; omega) (FINH.out _ bs' (GS.out _ _))).sl
    · rw [VALS.out, FA.out (nt + 1) (fun j hj => ?_) (fun h => by rw [HVL.out] at h; omega) (by rw [HVL.out]; exact Nat.le_refl _), List.take_of_length_le (by rw [HVL.out]; exact Nat.le_refl _)]
      have := HALL.out j hj
      rw [VALS.out, decide_eq_false_iff_not] at this
      omega
  · have HPK := Lib.hid hpk
    have HBEF := Lib.hid hbef
    clear hpk hbef FF
    have hc5 := O7.out.sl.cap
    have hm5 := O7.out.sl.max
    go_wp2_with fail
    have bs' : Below w.heap.size w (w7.setCells (w.heap.size + 1) 0 [.int .i64 cap, .slice A5 k c5]) := B7.out.grown (GS.out _ _) B7.out.size (fun q hq => by injection hq; omega)
    refine bodyPost_ret (v := .tuple #[.agg #[.int .i64 cap, .slice A5 k c5], .int .i64 0]) (by simp [results, Try.results20, go_sem, u8, v8]) rfl ⟨A5, k, c5, l5.take k, rfl, ?_, ?_, bs', fun b off e => Nat.le_trans B2.out.size (HO5.out.lt e).1, fun a ha => NEWH.out a (List.mem_of_mem_take ha)⟩
    · exact (O7.out.grown (GS.out _ _) (by simp; omega) (FINH.out _ bs' (GS.out _ _))).sl.take k (by omega)
    · rw [List.map_take, VALS.out, FA.out k (fun j hj => ?_) (fun h => ?_) (by rw [HVL.out]; omega)]
      · have := HBEF.out j hj
        rw [VALS.out, decide_eq_false_iff_not] at this
        omega
      · have := HPK.out
        rw [VALS.out, decide_eq_true_eq] at this
        exact this

theorem put_any (cap : Int) (A : Option Addr) (n c : Nat) (l : List Hd) (name : ByteArray) (no : Int) (A' : Option Addr) (n' c' : Nat) (bs : List UInt8) (w : World) (hl : Hds w A n c l) (hn : n ≤ 60000) (hbs : Sl u8K w A' n' c' bs)
    (hnm : name.size ≤ maxLen) (hno : (Lit.int .i64 no).wf = true) :
    Calls Try.prog 20 #[.agg #[.int .i64 cap, .slice A n c], .string name, .int .i64 no, .slice A' n' c'] w (CRes l (fun v => .tuple #[v, .int .i64 (putE cap (l.map Hd.val) name no)]) (putCap cap (l.map Hd.val) name no) (putL cap (l.map Hd.val) name no bs) w) := by
  have hlen := hbs.len
  rcases putE_cases cap (l.map Hd.val) name no with ⟨h1, h2⟩ | ⟨h1, h2, h3⟩ | ⟨h1, h2, h3⟩
  · unfold putCap putL
    rw [h2]
    exact put_err cap A n c l name no A' n' c' w hl hn (.inl h1)
  · unfold putCap putL
    rw [h3]
    exact put_err cap A n c l name no A' n' c' w hl hn (.inr ⟨h1, h2⟩)
  · unfold putCap putL
    rw [h3, if_pos rfl, if_pos rfl]
    by_cases hb : cap < n'
    · rw [if_pos (by omega)]
      exact put_big cap A n c l name no A' n' c' w hl hn h1 h2 hb
    · rw [if_neg (by omega)]
      exact put_fits cap A n c l name no A' n' c' bs w hl hn hbs hnm hno h1 h2 (by omega)

end Go.Proofs.Ythjohjijcgiogaa
