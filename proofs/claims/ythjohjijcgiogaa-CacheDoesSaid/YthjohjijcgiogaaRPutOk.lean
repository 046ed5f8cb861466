/- Put, of the document's answer, where it may be done. -/
import Derived.Test.YthjohjijcgiogaaRPut
import Derived.Test.YthjohjijcgiogaaBytes
namespace Go.Proofs.Ythjohjijcgiogaa
open Go.RowKit

set_option maxHeartbeats 4000000 in
set_option maxRecDepth 100000 in
theorem rput_fits (cap : Int) (A : Option Addr) (n c : Nat) (l : List Hd) (name : ByteArray) (no : Int) (A' : Option Addr) (n' c' : Nat) (bs : List UInt8) (w : World) (hl : Hds w A n c l) (hn : n ≤ 50000) (hbs : Sl u8K w A' n' c' bs)
    (hnm : name.size ≤ maxLen) (hno : (Lit.int .i64 no).wf = true) (h0 : checkC cap (l.map Hd.val) = 0) (hm : mayK name no = true) (hbig : n' ≤ cap) :
    Calls Try.prog 24 #[.agg #[.int .i64 cap, .slice A n c], .string name, .int .i64 no, .slice A' n' c'] w (CRes l (fun v => .tuple #[v, .int .i64 0]) cap (fit cap (⟨name, no, bs⟩ :: dropC name no (l.map Hd.val))) w) := by
  obtain ⟨W0, hW0⟩ : ∃ W0, W0 = ((w.alloc (.cells #[.int .i64 cap, .slice A n c] 24)).alloc (.cells #[.int .i64 0, .slice none 0 0] 24)) := ⟨_, rfl⟩
  have hb0 : Below w.heap.size w W0 := by rw [hW0]; exact below_from (below_alloc1 _ _) (below_alloc1 w _) (by simp)
  have N4 := Lib.hid (show Has W0 w.heap.size #[.int .i64 cap, .slice A n c] by rw [hW0]; exact ((Has.newAt w _ 24 rfl).alloc _))
  have N8 := Lib.hid (show Has W0 (w.heap.size + 1) #[.int .i64 0, .slice none 0 0] by rw [hW0]; exact (Has.newAt (w.alloc (.cells #[.int .i64 cap, .slice A n c] 24)) _ 24 (by simp)))
  have ck := Lib.hid (rcheck_any cap A n c l W0 (hl.below hb0) (by omega))
  rw [h0] at ck
  have GD := Lib.hid (good_of_check h0).1
  have GC := Lib.hid (good_of_check h0).2
  have HLN := Lib.hid hl.len
  have B0 := Lib.hid hb0
  have HL := Lib.hid hl
  have HBS := Lib.hid hbs
  have HNM := Lib.hid (And.intro hnm hno)
  obtain ⟨hcap0, hcap1, hcap2⟩ := GC.out
  have may := Lib.hid (fun w' => by have := named_any name no w'; rwa [hm] at this)
  have tk := Lib.hid (fun w' (hb : Below w.heap.size w w') => without_any A n c l name no w' (hl.below hb) (by omega))
  have hlen := hl.len
  obtain ⟨i0, hi, hz0, hz1, hz2⟩ := info_parts inf37
  have hi' := Lib.hid (And.intro hi (And.intro hz0 (And.intro hz1 hz2)))
  clear hl hb0 h0 hm hbs hnm hno hi hz0 hz1 hz2
  subst hW0
  have z0 := B0.out.size
  go_enter Try.func24, Try.ntmps24
  go_wp2_with (first | (go_at_call 16; refine ck.out.mono ?_; rintro e w1 ⟨rfl, hb1⟩; have HB1 := Lib.hid (below_from hb1 B0.out B0.out.size); have M8 := Lib.hid (N8.out.past hb1); have M4 := Lib.hid (N4.out.past hb1); have c4 := M4.out.cell; have l4 := M4.out.lt; have l8 := M8.out.lt; clear hb1) | (go_at_call 35; refine (may.out _).mono ?_; rintro e w2 ⟨rfl, rfl⟩) | (go_at_call 41; refine (tk.out _ HB1.out).mono ?_; intro e w3 ht; obtain ⟨At, nt, ct, x, m, lt, rfl, hO, hb3, hv, hnt, hmem, _⟩ := without_vals GD.out ht; have HO := Lib.hid hO; have B3 := Lib.hid (below_from hb3 HB1.out HB1.out.size); have Q8 := M8.out.past hb3; have P8 := Lib.hid Q8; have Q4 := M4.out.past hb3; have P4 := Lib.hid Q4; have e4 := Q4.cell; have f4 := Q4.lt; have m8 := Q8.lt; have HV := Lib.hid hv; have HMEM := Lib.hid hmem; have S3 := hb3.size; clear ht hO hb3 hv hmem Q4 Q8 c4 l4))
  have BX := Lib.hid (below_from (below_alloc1 (w3.alloc (.cells #[.string x.name, .int .i64 x.no, .slice x.A x.n x.c] 37)) (.cells #[.int .i64 cap, .slice none 0 0] 24)) (below_alloc1 w3 (.cells #[.string x.name, .int .i64 x.no, .slice x.A x.n x.c] 37)) (by simp))
  have N13 := Lib.hid (Has.newAt (w3.alloc (.cells #[.string x.name, .int .i64 x.no, .slice x.A x.n x.c] 37)) #[.int .i64 cap, .slice none 0 0] 24 (g := w3.heap.size + 1) (by simp))
  refine (copyBs A' n' c' bs _ (HBS.out.below (below_from BX.out B3.out B3.out.size)) (by omega)).mono ?_
  rintro e w4 hx
  obtain ⟨Ab, cb', rfl, hOb, hb4⟩ := hx
  have S4 := hb4.size
  simp at S4
  have OB := Lib.hid hOb
  have b34 : Below w3.heap.size w3 w4 := below_from hb4 BX.out BX.out.size
  have B4 := Lib.hid (below_from b34 B3.out B3.out.size)
  have P13 := Lib.hid (N13.out.past hb4)
  have P8' := Lib.hid (P8.out.past b34)
  have P4' := Lib.hid (P4.out.past b34)
  have LT := Lib.hid (HO.out.sl.below b34)
  have c13 := P13.out.cell
  have f13 := P13.out.free
  have l13 := P13.out.lt
  have hln : lt.length = nt := HO.out.1
  have NEWIN : Hd.In w4 ⟨name, no, Ab, n', cb', bs⟩ := ⟨hOb.sl, by show n' ≤ _; omega, HNM.out.1, HNM.out.2⟩
  have szb : (sz (⟨name, no, bs⟩ :: dropC name no (l.map Hd.val)) : Int) ≤ 2199023255552 := by
    rw [sz_cons]
    have := sz_drop_le name no (l.map Hd.val)
    have hbl : bs.length = n' := HBS.out.len
    simp only [hbl]
    omega
  have first1 : (sz [(⟨name, no, bs⟩ : Ch)] : Int) ≤ cap := by
    have hbl : bs.length = n' := HBS.out.len
    simp only [sz, List.map_cons, List.map_nil, List.sum_cons, List.sum_nil, hbl]
    omega
  have NI := Lib.hid NEWIN
  have SZB := Lib.hid szb
  have F1 := Lib.hid first1
  have HLT := Lib.hid hln
  have hls := HO.out.sl.max
  have hcs := HO.out.sl.cap
  have O5 : Own hdK 37 ((w4.setCell ⟨w3.heap.size + 1, 1, none⟩ (.slice (some ⟨w4.heap.size, 0, none⟩) 1 1)).alloc (.cells #[.string name, .int .i64 no, .slice Ab n' cb'] 37)) w4.heap.size (some ⟨w4.heap.size, 0, none⟩) 1 1 [⟨name, no, Ab, n', cb', bs⟩] := by
    have gs := setCells_grown (w3.heap.size + 1) [.slice (some ⟨w4.heap.size, 0, none⟩) 1 1] 1 w4
    have hh : ((w4.setCell ⟨w3.heap.size + 1, 1, none⟩ (.slice (some ⟨w4.heap.size, 0, none⟩) 1 1)).alloc (.cells #[.string name, .int .i64 no, .slice Ab n' cb'] 37)).heap[w4.heap.size]? = some (.cells #[.string name, .int .i64 no, .slice Ab n' cb'] 37 (0, 0)) := by
      have := heap_alloc_new (w4.setCell ⟨w3.heap.size + 1, 1, none⟩ (.slice (some ⟨w4.heap.size, 0, none⟩) 1 1)) (.cells #[.string name, .int .i64 no, .slice Ab n' cb'] 37)
      rwa [setCell_size] at this
    refine ⟨rfl, owns_mk (Nat.le_refl _) hh (Nat.le_refl _) (by decide) rfl rfl, fun a ha => ?_⟩
    rw [List.mem_singleton.1 ha]
    have : Hd.In (w4.setCell ⟨w3.heap.size + 1, 1, none⟩ (.slice (some ⟨w4.heap.size, 0, none⟩) 1 1)) ⟨name, no, Ab, n', cb', bs⟩ :=
      ⟨hOb.sl.apart gs (fun b off e => fun e2 => by have h1 := (hOb.lt e).1; simp at h1; injection e2 with e2; omega) (fun _ _ => trivial), NEWIN.max, NEWIN.nm, NEWIN.wf⟩
    exact hdK.below this (below_alloc1 _ _)
  have G5 : w4.grownBy ((w4.setCell ⟨w3.heap.size + 1, 1, none⟩ (.slice (some ⟨w4.heap.size, 0, none⟩) 1 1)).alloc (.cells #[.string name, .int .i64 no, .slice Ab n' cb'] 37)) (some (w3.heap.size + 1)) :=
    grown_trans (setCells_grown (w3.heap.size + 1) [.slice (some ⟨w4.heap.size, 0, none⟩) 1 1] 1 w4) (World.grownBy_alloc _ _ _)
  have H13 : Has ((w4.setCell ⟨w3.heap.size + 1, 1, none⟩ (.slice (some ⟨w4.heap.size, 0, none⟩) 1 1)).alloc (.cells #[.string name, .int .i64 no, .slice Ab n' cb'] 37)) (w3.heap.size + 1) #[.int .i64 cap, .slice (some ⟨w4.heap.size, 0, none⟩) 1 1] :=
    (P13.out.setAt 1 (.slice (some ⟨w4.heap.size, 0, none⟩) 1 1) (by simp)).alloc _
  have HO5 := Lib.hid O5
  have HG5 := Lib.hid G5
  have HH13 := Lib.hid H13
  clear hOb hb4 b34 NEWIN szb first1 hln O5 G5 H13
  go_wp2_with fail
  have NIN : ∀ W', Below w.heap.size w W' → w4.grownBy W' (some (w3.heap.size + 1)) → ∀ a ∈ (⟨name, no, Ab, n', cb', bs⟩ :: lt : List Hd), Hd.In W' a := by
    intro W' hb' hg' a ha
    rcases List.mem_cons.1 ha with rfl | ha
    · exact ⟨OB.out.sl.apart hg' (fun b off e => fun e2 => by have h1 := (OB.out.lt e).1; simp at h1; injection e2 with e2; omega) (fun _ _ => trivial), NI.out.max, NI.out.nm, NI.out.wf⟩
    · exact hdK.below (HL.out.each a (HMEM.out a ha)) hb'
  have NINH := Lib.hid NIN
  have GB : ∀ W', w4.grownBy W' (some (w3.heap.size + 1)) → Below w.heap.size w W' := fun W' hg => B4.out.grown hg B4.out.size (fun q hq => by injection hq; omega)
  have GBH := Lib.hid GB
  have LAST : ∀ (W7 W' : World) (A5 : Option Addr) (k c5 : Nat), k ≤ nt → Own hdK 37 W7 w4.heap.size A5 (k + 1) c5 (⟨name, no, Ab, n', cb', bs⟩ :: lt.take k) → Below w.heap.size w W7 → W7.grownBy W' (some (w.heap.size + 1)) → Hds W' A5 (k + 1) c5 (⟨name, no, Ab, n', cb', bs⟩ :: lt.take k) ∧ Below w.heap.size w W' ∧ New w l A5 (⟨name, no, Ab, n', cb', bs⟩ :: lt.take k) := by
    intro W7 W' A5 k c5 hk hO hb hg
    have hb' : Below w.heap.size w W' := hb.grown hg hb.size (fun q hq => by injection hq; omega)
    refine ⟨(hO.grown hg (by omega) (fun a ha => ?_)).sl, hb', fun b off e => Nat.le_trans B4.out.size (hO.lt e).1, fun a ha => ?_⟩
    rotate_left
    · rcases List.mem_cons.1 ha with rfl | ha2
      · exact .inr fun b off e => by have h1 := (OB.out.lt e).1; simp at h1; have := B3.out.size; omega
      · exact .inl (HMEM.out a (List.mem_of_mem_take ha2))
    rcases List.mem_cons.1 ha with rfl | ha2
    · have i7 := hO.2.2 _ ha
      exact ⟨i7.sl.apart hg (fun b off e => fun e2 => by have h1 := (OB.out.lt e).1; simp at h1; injection e2 with e2; omega) (fun _ _ => trivial), i7.max, i7.nm, i7.wf⟩
    · exact hdK.below (HL.out.each a (HMEM.out a (List.mem_of_mem_take ha2))) hb'
  have LASTH := Lib.hid LAST
  clear LAST
  have BEG : Hid (Has ((w4.setCell ⟨w3.heap.size + 1, 1, none⟩ (.slice (some ⟨w4.heap.size, 0, none⟩) 1 1)).alloc (.cells #[.string name, .int .i64 no, .slice Ab n' cb'] 37)) (w3.heap.size + 1) #[.int .i64 cap, .slice (some ⟨w4.heap.size, 0, none⟩) 1 1]) := HH13.out
  clear NIN GB c13 f13 l13 e4
  go_loopg [55] nt (fun gg s wr => ∃ (k : Nat) (A5 : Option Addr) (c5 : Nat), k ≤ nt ∧ nt - k ≤ gg ∧ s = .int .i64 k ∧ Hid (Own hdK 37 wr w4.heap.size A5 (k + 1) c5 (⟨name, no, Ab, n', cb', bs⟩ :: lt.take k)) ∧ Hid (w4.grownBy wr (some (w3.heap.size + 1))) ∧
    Hid (Has wr (w3.heap.size + 1) #[.int .i64 cap, .slice A5 (k + 1) c5]) ∧ Hid (∀ j, j < k + 1 → (sz ((⟨name, no, bs⟩ :: dropC name no (l.map Hd.val)).take (j + 1)) : Int) ≤ cap))
  case atStart => exact ⟨0, some ⟨w4.heap.size, 0, none⟩, 1, Nat.zero_le _, by omega, rfl, HO5, HG5, BEG, Lib.hid (fun j hj => by have : j = 0 := (by omega); subst this; exact F1.out)⟩
  case round =>
    obtain ⟨k, A5, c5, hk, hgg, rfl, hO5, hG, hB13, hfit⟩ := hrel
    clear HO5 HG5 BEG HH13
    have BW := Lib.hid (GBH.out wr hG.out)
    have sW := hG.out.size
    have p4 := Lib.hid (P4'.out.grown hG.out (by omega))
    have p8 := Lib.hid (P8'.out.grown hG.out (by omega))
    have c4 := p4.out.cell
    have m4 := p4.out.lt
    have c13 := hB13.out.cell
    have f13 := hB13.out.free
    have l13 := hB13.out.lt
    have c8 := p8.out.cell
    have f8 := p8.out.free
    have k8 := p8.out.lt
    have LTW := Lib.hid (LT.out.apart hG.out (fun b off e => fun e2 => by have h1 := (HO.out.lt e).2; injection e2 with e2; omega) (fun a ha => NINH.out wr BW.out hG.out a (List.mem_cons_of_mem _ ha)))
    by_cases hlt : k < nt
    · obtain ⟨b, off, hkl, rfl, hbl, x0, x1, x2⟩ := Hds.at_ LTW.out hlt
      have xin := HL.out.each lt[k] (HMEM.out _ (List.getElem_mem hkl))
      have xlen : lt[k].n = lt[k].bs.length := xin.sl.len.symm
      have VK : (⟨name, no, bs⟩ :: dropC name no (l.map Hd.val) : List Ch).take (k + 1) = (⟨name, no, Ab, n', cb', bs⟩ :: lt.take k : List Hd).map Hd.val := by rw [List.take_succ_cons, ← HV.out, List.map_cons, List.map_take]; rfl
      have hkv : k + 1 < (⟨name, no, bs⟩ :: dropC name no (l.map Hd.val) : List Ch).length := by rw [List.length_cons, ← HV.out, List.length_map]; omega
      have sn : sz ((⟨name, no, bs⟩ :: dropC name no (l.map Hd.val) : List Ch).take (k + 1 + 1)) = sz ((⟨name, no, bs⟩ :: dropC name no (l.map Hd.val) : List Ch).take (k + 1)) + lt[k].n := by
        rw [sz_snoc _ _ hkv, xlen]
        congr 1
        have : (⟨name, no, bs⟩ :: dropC name no (l.map Hd.val) : List Ch)[k + 1]? = some lt[k].val := by
          rw [List.getElem?_cons_succ, ← HV.out, List.getElem?_map, List.getElem?_eq_getElem hkl]; rfl
        rw [(List.getElem?_eq_some_iff.1 this).2]; rfl
      have TS : total (⟨name, no, Ab, n', cb', bs⟩ :: lt.take k) = sz ((⟨name, no, bs⟩ :: dropC name no (l.map Hd.val) : List Ch).take (k + 1)) := by rw [VK]; exact total_sz hO5.out.2.2
      have szl := sz_take_le (⟨name, no, bs⟩ :: dropC name no (l.map Hd.val) : List Ch) (k + 1 + 1)
      have szh := SZB.out
      have tke := List.take_succ_eq_append_getElem hkl
      have TKE := Lib.hid tke
      have SN := Lib.hid sn
      have TSH := Lib.hid TS
      have SZL := Lib.hid szl
      have sumle : (total (⟨name, no, Ab, n', cb', bs⟩ :: lt.take k) : Int) + lt[k].n ≤ 2199023255552 := by omega
      clear VK hkv sn TS szl szh tke xlen xin
      generalize lt[k] = y at *
      obtain ⟨yn, yo, yA, yN, yC, yb⟩ := y
      simp only at x0 x1 x2 sumle
      obtain ⟨W6, hW6⟩ : ∃ W6, W6 = wr.alloc (.cells #[.string yn, .int .i64 yo, .slice yA yN yC] 37) := ⟨_, rfl⟩
      have b6 : Below wr.heap.size wr W6 := by rw [hW6]; exact below_alloc1 _ _
      have N15 : Has W6 wr.heap.size #[.string yn, .int .i64 yo, .slice yA yN yC] := by rw [hW6]; exact Has.newAt wr _ 37 rfl
      have O6 := Lib.hid (hO5.out.kept b6)
      have H13 := Lib.hid (hB13.out.past b6)
      have H4 := Lib.hid (p4.out.past b6)
      have H8 := Lib.hid (p8.out.past b6)
      have r13 := at_regrown (a := ⟨w3.heap.size + 1, 1, none⟩) (v := .slice A5 (k + 1) c5) (H13.out.cell 1)
      have r15 := at_regrown (a := ⟨wr.heap.size, 2, none⟩) (v := .slice yA yN yC) (N15.cell 2)
      have r4 := at_regrown (a := ⟨w.heap.size, 0, none⟩) (v := .int .i64 cap) (H4.out.cell 0)
      have BY := Lib.hid (fun w' (hb : Below W6.heap.size W6 w') => bytes_any A5 (k + 1) c5 _ w' (O6.out.kept hb).sl (by omega))
      have HN15 := Lib.hid N15
      have B6 := Lib.hid b6
      have G6 := Lib.hid (grown_then hG.out (b6.mono sW))
      clear N15 b6
      subst hW6
      generalize hT : total (⟨name, no, Ab, n', cb', bs⟩ :: lt.take k) = T at *
      have w1' : IntKind.i64.wrap ((T : Int) + (yN : Int)) = (T : Int) + (yN : Int) := IntWalk.i64_in _ (by omega)
      have HT := Lib.hid hT
      clear hT
      by_cases hft : cap < (T : Int) + (yN : Int)
      · have dk : decide (cap < (T : Int) + (yN : Int)) = true := decide_eq_true hft
        have HFT := Lib.hid hft
        clear hft
        go_wp2_with fail
        refine region_below (by kernel_rfl) (by kernel_rfl) ?_
        repeat (go_big_quiet_step ((go_at_call 31; exact call_regrown BY.out)))
        refine wpQuiet_nil ?_
        intro w7 hb7
        have d13 := (H13.out.past hb7).cell
        have d8 := (H8.out.past hb7).cell
        have e8 := (H8.out.past hb7).free
        have k8' := (H8.out.past hb7).lt
        have k13' := (H13.out.past hb7).lt
        have HB7 := Lib.hid hb7
        clear hb7 r13 r15 r4
        go_wp2_with fail
        have gs := setCells_grown (w.heap.size + 1) [.int .i64 cap, .slice A5 (k + 1) c5] 0 w7
        obtain ⟨hs', bs', nw'⟩ := LASTH.out w7 _ A5 k c5 (by omega) (O6.out.kept HB7.out) (below_from HB7.out (below_from B6.out BW.out BW.out.size) (below_from B6.out BW.out BW.out.size).size) gs
        refine bodyPost_ret (v := .tuple #[.agg #[.int .i64 cap, .slice A5 (k + 1) c5], .int .i64 0]) (by simp [results, Try.results24, go_sem, d8, k8']) rfl ⟨A5, k + 1, c5, _, rfl, hs', ?_, bs', nw'⟩
        rw [List.map_cons, List.map_take, HV.out]
        rw [fit_at _ cap (k + 1) (fun j hj => by have := hfit.out j hj; omega) (fun h => ?_) ?_]
        · rfl
        · rw [List.length_cons, ← HV.out, List.length_map, HLT.out]; omega
        · rw [SN.out, ← TSH.out]
          have := HFT.out
          have e : ((T + yN : Nat) : Int) = (T : Int) + (yN : Int) := by omega
          show cap - ((T + yN : Nat) : Int) < 0
          omega
      · have dk : decide (cap < (T : Int) + (yN : Int)) = false := decide_eq_false hft
        have HFT := Lib.hid hft
        clear hft
        go_wp2_with fail
        refine region_below (by kernel_rfl) (by kernel_rfl) ?_
        repeat (go_big_quiet_step ((go_at_call 31; exact call_regrown BY.out)))
        refine wpQuiet_nil ?_
        intro w7 hb7
        have K13 := Lib.hid ((H13.out.past hb7).alloc (.cells #[.string yn, .int .i64 yo, .slice yA yN yC] 37))
        have d13 := (H13.out.past hb7).cell
        have k13' := (H13.out.past hb7).lt
        have d15 := (HN15.out.past hb7).cell
        have k15' := (HN15.out.past hb7).lt
        have O7 := Lib.hid ((O6.out.kept hb7).kept (below_alloc1 w7 (.cells #[.string yn, .int .i64 yo, .slice yA yN yC] 37)))
        have G7 := Lib.hid (grown_then G6.out (hb7.mono (Nat.le_trans hG.out.size B6.out.size)))
        have S7 := G7.out.size
        have X7 := Lib.hid (Has.newAt w7 #[.string yn, .int .i64 yo, .slice yA yN yC] 37 (g := w7.heap.size) rfl)
        have q2 := Lib.hid (Has.news (cs := [.string yn, .int .i64 yo, .slice yA yN yC]) X7.out)
        have q3 := Lib.hid (hdK.one ⟨yn, yo, yA, yN, yC, yb⟩)
        have q4 : k + 1 + 1 ≤ maxLen := by unfold maxLen; omega
        have q5 : (k + 1 + 1) * 48 ≤ 140737488355328 := by omega
        have q6 := Lib.hid (show w4.heap.size ≤ (w7.alloc (.cells #[.string yn, .int .i64 yo, .slice yA yN yC] 37)).heap.size by simp; omega)
        have G7' := Lib.hid (grown_then G7.out (c := w7.alloc (.cells #[.string yn, .int .i64 yo, .slice yA yN yC] 37)) ((below_alloc1 w7 _).mono S7))
        obtain ⟨hi0, hz0, hz1, hz2⟩ := hi'.out
        clear hb7 r13 r15 r4
        go_wp2_with (at_builtin; refine wpList_append_own _ rfl _ _ 22 rfl w4.heap.size 37 i0 _ 3 48 Try.underlying22 hi0 hz0 hz1 hz2 rfl (by decide) _ _ _ rfl O7.out.2.1 ⟨w7.heap.size, 0, none⟩ 1 1 [.string yn, .int .i64 yo, .slice yA yN yC] rfl rfl q2.out q3.out q4 q5 q6.out ?_)
        intro v' w8 hown hgrow hnil
        obtain ⟨A6, c6, rfl⟩ := owns_form hown
        have bA : Below w4.heap.size (w7.alloc (.cells #[.string yn, .int .i64 yo, .slice yA yN yC] 37)) w8 := grown_below hgrow q6.out (fun q hq => (O7.out.2.1.lt q hq).1)
        have G8 := Lib.hid (grown_then G7'.out bA)
        have K8 := Lib.hid (K13.out.below bA (by omega))
        have j13 := K8.out.cell
        have jf13 := K8.out.free
        have jl13 := K8.out.lt
        have HOW := Lib.hid hown
        clear hown hgrow hnil bA d13 k13' d15 k15'
        go_wp2_with fail
        go_roundg (nt - (k + 1))
        case measure => omega
        case rel =>
          have gs := setCells_grown (w3.heap.size + 1) [.slice A6 (k + 1 + 1) c6] 1 w8
          have G9 := grown_trans G8.out gs
          refine ⟨k + 1, A6, c6, by omega, by omega, by go_num, ?_, G9, K8.out.setAt 1 (.slice A6 (k + 1 + 1) c6) (by simp), Lib.hid (fun j hj => ?_)⟩
          · refine ⟨by rw [List.length_cons, List.length_take, HLT.out]; omega, ?_, fun a ha => ?_⟩
            · have := (owns_base HOW.out (Nat.le_refl _)).kept gs (.inr (fun e => by have := (HOW.out.lt _ e).1; omega))
              have e : (⟨name, no, Ab, n', cb', bs⟩ :: (lt.take k ++ [⟨yn, yo, yA, yN, yC, yb⟩]) : List Hd).flatMap hdK.cells = (⟨name, no, Ab, n', cb', bs⟩ :: lt.take k : List Hd).flatMap hdK.cells ++ [.string yn, .int .i64 yo, .slice yA yN yC] := by rw [← List.cons_append, List.flatMap_append]; rfl
              rw [TKE.out, e]
              exact this
            · refine NINH.out _ (GBH.out _ G9) G9 a ?_
              rcases List.mem_cons.1 ha with rfl | ha
              · exact List.mem_cons_self ..
              · exact List.mem_cons_of_mem _ (List.mem_of_mem_take ha)
          · by_cases e : j < k + 1
            · exact hfit.out j e
            · have ej : j = k + 1 := by omega
              subst ej
              rw [SN.out, ← TSH.out]
              have := HFT.out
              show ((T + yN : Nat) : Int) ≤ cap
              omega
    · obtain rfl : k = nt := by omega
      go_wp2_with fail
      have gs := setCells_grown (w.heap.size + 1) [.int .i64 cap, .slice A5 (k + 1) c5] 0 wr
      obtain ⟨hs', bs', nw'⟩ := LASTH.out wr _ A5 k c5 (Nat.le_refl _) hO5.out BW.out gs
      refine bodyPost_ret (v := .tuple #[.agg #[.int .i64 cap, .slice A5 (k + 1) c5], .int .i64 0]) (by simp [results, Try.results24, go_sem, c8, k8]) rfl ⟨A5, k + 1, c5, _, rfl, hs', ?_, bs', nw'⟩
      rw [List.map_cons, List.map_take, HV.out]
      have hvl : (dropC name no (l.map Hd.val)).length = k := by rw [← HV.out, List.length_map]; exact HLT.out
      rw [fit_at _ cap (k + 1) (fun j hj => by have := hfit.out j hj; omega) (fun h => by rw [List.length_cons, hvl] at h; omega) (by rw [List.length_cons, hvl]; exact Nat.le_refl _)]
      rfl

theorem rput_any (cap : Int) (A : Option Addr) (n c : Nat) (l : List Hd) (name : ByteArray) (no : Int) (A' : Option Addr) (n' c' : Nat) (bs : List UInt8) (w : World) (hl : Hds w A n c l) (hn : n ≤ 50000) (hbs : Sl u8K w A' n' c' bs)
    (hnm : name.size ≤ maxLen) (hno : (Lit.int .i64 no).wf = true) :
    Calls Try.prog 24 #[.agg #[.int .i64 cap, .slice A n c], .string name, .int .i64 no, .slice A' n' c'] w (CRes l (fun v => .tuple #[v, .int .i64 (putE cap (l.map Hd.val) name no)]) (putCap cap (l.map Hd.val) name no) (putL cap (l.map Hd.val) name no bs) w) := by
  have hlen := hbs.len
  rcases putE_cases cap (l.map Hd.val) name no with ⟨h1, h2⟩ | ⟨h1, h2, h3⟩ | ⟨h1, h2, h3⟩
  · unfold putCap putL
    rw [h2]
    exact rput_err cap A n c l name no A' n' c' w hl (by omega) (.inl h1)
  · unfold putCap putL
    rw [h3]
    exact rput_err cap A n c l name no A' n' c' w hl (by omega) (.inr ⟨h1, h2⟩)
  · unfold putCap putL
    rw [h3, if_pos rfl, if_pos rfl]
    by_cases hb : cap < n'
    · rw [if_pos (by omega)]
      exact rput_big cap A n c l name no A' n' c' w hl (by omega) h1 h2 hb
    · rw [if_neg (by omega)]
      exact rput_fits cap A n c l name no A' n' c' bs w hl hn hbs hnm hno h1 h2 (by omega)

end Go.Proofs.Ythjohjijcgiogaa
