/- QuotaBound of layer 20: the walk. -/
import Derived.Test.YthmnojlenaddeaaMoved
import Derived.Test.YthmnojlenaddeaaBoundPlain
import Derived.Deep.RegionWith
namespace Go.Proofs.Ythmnojlenaddeaa
open Go.RowKit Q
attribute [local go_sem] setCell_drewN alloc_drewN

/-- A slice of numbers lies in memory. -/
def IntsAt (w : World) (A : Option Addr) (n : Nat) (zs : List Int) : Prop :=
  ∀ j, j < n → ∃ b off, A = some ⟨b, off, none⟩ ∧ b < w.heap.size ∧ w.cell? ⟨b, off + j, none⟩ = some (.int .i64 (zs.getD j 0))
theorem IntsAt.below {w w' : World} {A : Option Addr} {n : Nat} {zs : List Int} (h : IntsAt w A n zs) (hb : Below w.heap.size w w') : IntsAt w' A n zs := fun j hj => by
  obtain ⟨b, off, rfl, hl, hc⟩ := h j hj
  exact ⟨b, off, rfl, Nat.lt_of_lt_of_le hl hb.size, (hb.cell (p := ⟨b, off + j, none⟩) hl).trans hc⟩

set_option maxHeartbeats 1000000 in
theorem bound_err (who : ByteArray) (rate burst now : Int) (A1 : Option Addr) (n1 c1 : Nat) (zs1 : List Int) (A2 : Option Addr) (n2 c2 : Nat) (zs2 : List Int) (w : World) (h : newE who.size rate burst now ≠ 0) :
    Calls Try.prog 5 #[.agg #[.string who, .int .i64 rate, .int .i64 burst], .int .i64 now, .slice A1 n1 c1, .slice A2 n2 c2] w fun e w' => e = .returned (.bool true) ∧ Below w.heap.size w w' := by
  have kb : (newE who.size rate burst now != 0) = true := by simpa using h
  go_enter Try.func5, Try.ntmps5
  have H1a := Has.newAt w #[.string who, .int .i64 rate, .int .i64 burst] 25 (g := w.heap.size) (by simp)
  have B1 := Below.alloc (Below.refl w.heap.size w) ((Below.refl w.heap.size w).size) (.cells #[.string who, .int .i64 rate, .int .i64 burst] 25)
  go_wp2_with fail
  refine (live_any _).mono ?_
  rintro e w2 ⟨rfl, hb2⟩
  have H2a := Has.below hb2 H1a
  have B2 := below_from hb2 B1 (B1.size)
  have c2a := H2a.cell
  have l2a := H2a.lt
  go_wp2_with fail
  refine (new_err who rate burst now _ h).mono ?_
  rintro e w3 ⟨rfl, hb3⟩
  have H3a := Has.below hb3 H2a
  have B3 := below_from hb3 B2 (B2.size)
  have c3a := H3a.cell
  have l3a := H3a.lt
  have H4a := Has.alloc H3a (.cells #[.string ⟨#[]⟩, .int .i64 0, .int .i64 0, .int .i64 0, .int .i64 0] 23)
  have H4b := Has.newAt w3 #[.string ⟨#[]⟩, .int .i64 0, .int .i64 0, .int .i64 0, .int .i64 0] 23 (g := w3.heap.size) (by simp)
  have B4 := Below.alloc B3 (B3.size) (.cells #[.string ⟨#[]⟩, .int .i64 0, .int .i64 0, .int .i64 0, .int .i64 0] 23)
  go_wp2_with fail
  go_ret
  exact ⟨rfl, B4⟩

set_option maxHeartbeats 1000000 in
theorem bound_long2 (who : ByteArray) (rate burst now : Int) (A1 : Option Addr) (n1 c1 : Nat) (zs1 : List Int) (A2 : Option Addr) (n2 c2 : Nat) (zs2 : List Int) (w : World) (h : newE who.size rate burst now = 0) (hn : 60 < n2) :
    Calls Try.prog 5 #[.agg #[.string who, .int .i64 rate, .int .i64 burst], .int .i64 now, .slice A1 n1 c1, .slice A2 n2 c2] w fun e w' => e = .returned (.bool true) ∧ Below w.heap.size w w' := by
  have NN := Lib.hid (fun w => new_ok who rate burst now w h)
  clear h
  go_enter Try.func5, Try.ntmps5
  have H1a := Has.newAt w #[.string who, .int .i64 rate, .int .i64 burst] 25 (g := w.heap.size) (by simp)
  have B1 := Below.alloc (Below.refl w.heap.size w) ((Below.refl w.heap.size w).size) (.cells #[.string who, .int .i64 rate, .int .i64 burst] 25)
  go_wp2_with fail
  refine (live_any _).mono ?_
  rintro e w2 ⟨rfl, hb2⟩
  have H2a := Has.below hb2 H1a
  have B2 := below_from hb2 B1 (B1.size)
  have c2a := H2a.cell
  have l2a := H2a.lt
  go_wp2_with fail
  refine (NN.out _).mono ?_
  rintro e w3 ⟨rfl, hb3⟩
  have H3a := Has.below hb3 H2a
  have B3 := below_from hb3 B2 (B2.size)
  have c3a := H3a.cell
  have l3a := H3a.lt
  have H4a := Has.alloc H3a (.cells #[.string who, .int .i64 rate, .int .i64 burst, .int .i64 burst, .int .i64 now] 23)
  have H4b := Has.newAt w3 #[.string who, .int .i64 rate, .int .i64 burst, .int .i64 burst, .int .i64 now] 23 (g := w3.heap.size) (by simp)
  have B4 := Below.alloc B3 (B3.size) (.cells #[.string who, .int .i64 rate, .int .i64 burst, .int .i64 burst, .int .i64 now] 23)
  go_wp2_with fail
  go_ret
  exact ⟨rfl, B4⟩

set_option maxHeartbeats 1000000 in
theorem bound_long1 (who : ByteArray) (rate burst now : Int) (A1 : Option Addr) (n1 c1 : Nat) (zs1 : List Int) (A2 : Option Addr) (n2 c2 : Nat) (zs2 : List Int) (w : World) (h : newE who.size rate burst now = 0) (hn : n2 ≤ 60) (hn1 : 60 < n1) :
    Calls Try.prog 5 #[.agg #[.string who, .int .i64 rate, .int .i64 burst], .int .i64 now, .slice A1 n1 c1, .slice A2 n2 c2] w fun e w' => e = .returned (.bool true) ∧ Below w.heap.size w w' := by
  have NN := Lib.hid (fun w => new_ok who rate burst now w h)
  clear h
  go_enter Try.func5, Try.ntmps5
  have H1a := Has.newAt w #[.string who, .int .i64 rate, .int .i64 burst] 25 (g := w.heap.size) (by simp)
  have B1 := Below.alloc (Below.refl w.heap.size w) ((Below.refl w.heap.size w).size) (.cells #[.string who, .int .i64 rate, .int .i64 burst] 25)
  go_wp2_with fail
  refine (live_any _).mono ?_
  rintro e w2 ⟨rfl, hb2⟩
  have H2a := Has.below hb2 H1a
  have B2 := below_from hb2 B1 (B1.size)
  have c2a := H2a.cell
  have l2a := H2a.lt
  go_wp2_with fail
  refine (NN.out _).mono ?_
  rintro e w3 ⟨rfl, hb3⟩
  have H3a := Has.below hb3 H2a
  have B3 := below_from hb3 B2 (B2.size)
  have c3a := H3a.cell
  have l3a := H3a.lt
  have H4a := Has.alloc H3a (.cells #[.string who, .int .i64 rate, .int .i64 burst, .int .i64 burst, .int .i64 now] 23)
  have H4b := Has.newAt w3 #[.string who, .int .i64 rate, .int .i64 burst, .int .i64 burst, .int .i64 now] 23 (g := w3.heap.size) (by simp)
  have B4 := Below.alloc B3 (B3.size) (.cells #[.string who, .int .i64 rate, .int .i64 burst, .int .i64 burst, .int .i64 now] 23)
  go_wp2_with fail
  go_ret
  exact ⟨rfl, B4⟩

structure BMem (w : World) (ga gb : Nat) (who : ByteArray) (rate burst L at_ : Int) (wr : World) : Prop where
  a0 : wr.cell? ⟨ga, 0, none⟩ = some (.string who)
  a1 : wr.cell? ⟨ga, 1, none⟩ = some (.int .i64 rate)
  a2 : wr.cell? ⟨ga, 2, none⟩ = some (.int .i64 burst)
  b0 : wr.cell? ⟨gb, 0, none⟩ = some (.string who)
  b1 : wr.cell? ⟨gb, 1, none⟩ = some (.int .i64 rate)
  b2 : wr.cell? ⟨gb, 2, none⟩ = some (.int .i64 burst)
  b3 : wr.cell? ⟨gb, 3, none⟩ = some (.int .i64 L)
  b4 : wr.cell? ⟨gb, 4, none⟩ = some (.int .i64 at_)
  f0 : wr.frozen? ⟨gb, 0, none⟩ = false
  f1 : wr.frozen? ⟨gb, 1, none⟩ = false
  f2 : wr.frozen? ⟨gb, 2, none⟩ = false
  f3 : wr.frozen? ⟨gb, 3, none⟩ = false
  f4 : wr.frozen? ⟨gb, 4, none⟩ = false
  lt : gb < wr.heap.size
  below : Below w.heap.size w wr

section
variable {w x : World} {ga gb : Nat} {who : ByteArray} {rate burst L at_ : Int}
theorem BMem.drew (h : BMem w ga gb who rate burst L at_ x) : BMem w ga gb who rate burst L at_ x.drew :=
  ⟨h.a0, h.a1, h.a2, h.b0, h.b1, h.b2, h.b3, h.b4, h.f0, h.f1, h.f2, h.f3, h.f4, h.lt, h.below.drew⟩
theorem BMem.alloc (h : BMem w ga gb who rate burst L at_ x) (hg : ga < gb) (o : Obj) : BMem w ga gb who rate burst L at_ (x.alloc o) := by
  have l1 : ga < x.heap.size := Nat.lt_trans hg h.lt
  have c : ∀ b i, b < x.heap.size → (x.alloc o).cell? ⟨b, i, none⟩ = x.cell? ⟨b, i, none⟩ := fun b i hb => World.cell?_alloc_lt x o _ hb
  have f : ∀ b i, b < x.heap.size → (x.alloc o).frozen? ⟨b, i, none⟩ = x.frozen? ⟨b, i, none⟩ := fun b i hb => World.frozen?_alloc_old x o _ (Nat.ne_of_lt hb)
  exact ⟨(c _ _ l1).trans h.a0, (c _ _ l1).trans h.a1, (c _ _ l1).trans h.a2, (c _ _ h.lt).trans h.b0, (c _ _ h.lt).trans h.b1, (c _ _ h.lt).trans h.b2, (c _ _ h.lt).trans h.b3, (c _ _ h.lt).trans h.b4,
    (f _ _ h.lt).trans h.f0, (f _ _ h.lt).trans h.f1, (f _ _ h.lt).trans h.f2, (f _ _ h.lt).trans h.f3, (f _ _ h.lt).trans h.f4, by simp; exact Nat.lt_succ_of_lt h.lt, h.below.alloc h.below.size _⟩
theorem BMem.setOther (h : BMem w ga gb who rate burst L at_ x) (hg : ga < gb) {p : Addr} (hp : gb < p.block) (hw : w.heap.size ≤ p.block) (v : Value) : BMem w ga gb who rate burst L at_ (x.setCell p v) := by
  have c : ∀ b i, b < p.block → (x.setCell p v).cell? ⟨b, i, none⟩ = x.cell? ⟨b, i, none⟩ := fun b i hb => World.cell?_setCell_other x p _ v (fun e => by rw [e] at hb; exact Nat.lt_irrefl _ hb)
  have l1 : ga < p.block := Nat.lt_trans hg hp
  exact ⟨(c _ _ l1).trans h.a0, (c _ _ l1).trans h.a1, (c _ _ l1).trans h.a2, (c _ _ hp).trans h.b0, (c _ _ hp).trans h.b1, (c _ _ hp).trans h.b2, (c _ _ hp).trans h.b3, (c _ _ hp).trans h.b4,
    by simpa using h.f0, by simpa using h.f1, by simpa using h.f2, by simpa using h.f3, by simpa using h.f4, by simpa using h.lt, h.below.setCell hw v⟩
theorem BMem.store5 (h : BMem w ga gb who rate burst L at_ x) (hg : ga < gb) (hw : w.heap.size ≤ gb) (L' t : Int) :
    BMem w ga gb who rate burst L' t (((((x.setCell ⟨gb, 0, none⟩ (.string who)).setCell ⟨gb, 1, none⟩ (.int .i64 rate)).setCell ⟨gb, 2, none⟩ (.int .i64 burst)).setCell ⟨gb, 3, none⟩ (.int .i64 L')).setCell ⟨gb, 4, none⟩ (.int .i64 t)) := by
  have hne : gb ≠ ga := by omega
  have hne' : ga ≠ gb := by omega
  obtain ⟨a0, a1, a2, b0, b1, b2, b3, b4, f0, f1, f2, f3, f4, lt, hb⟩ := h
  refine ⟨?_, ?_, ?_, ?_, ?_, ?_, ?_, ?_, ?_, ?_, ?_, ?_, ?_, by simpa using lt, ((((hb.setCell hw _).setCell hw _).setCell hw _).setCell hw _).setCell hw _⟩ <;> simp [go_sem, *]
end

set_option maxHeartbeats 8000000 in
set_option maxRecDepth 100000 in
theorem bound_run (who : ByteArray) (rate burst now : Int) (A1 : Option Addr) (n1 c1 : Nat) (zs1 : List Int) (A2 : Option Addr) (n2 c2 : Nat) (zs2 : List Int) (w : World) (h : newE who.size rate burst now = 0) (hn2 : n2 ≤ 60) (hn1 : n1 ≤ 60) (i1 : IntsAt w A1 n1 zs1) (i2 : IntsAt w A2 n2 zs2) :
    Calls Try.prog 5 #[.agg #[.string who, .int .i64 rate, .int .i64 burst], .int .i64 now, .slice A1 n1 c1, .slice A2 n2 c2] w fun e w' => e = .returned (.bool true) ∧ Below w.heap.size w w' := by
  have NN := Lib.hid (fun w => new_ok who rate burst now w h)
  have BS := Lib.hid (binv_start h)
  have I1 := Lib.hid i1
  have I2 := Lib.hid i2
  clear h i1 i2
  go_enter Try.func5, Try.ntmps5
  have H1a := Has.newAt w #[.string who, .int .i64 rate, .int .i64 burst] 25 (g := w.heap.size) (by simp)
  have B1 := Below.alloc (Below.refl w.heap.size w) ((Below.refl w.heap.size w).size) (.cells #[.string who, .int .i64 rate, .int .i64 burst] 25)
  go_wp2_with fail
  refine (live_any _).mono ?_
  rintro e w2 ⟨rfl, hb2⟩
  have H2a := Has.below hb2 H1a
  have B2 := below_from hb2 B1 (B1.size)
  have c2a := H2a.cell
  have l2a := H2a.lt
  go_wp2_with fail
  refine (NN.out _).mono ?_
  rintro e w3 ⟨rfl, hb3⟩
  have H3a := Has.below hb3 H2a
  have B3 := below_from hb3 B2 (B2.size)
  have c3a := H3a.cell
  have l3a := H3a.lt
  go_wp2_with fail
  have H4a := Has.alloc H3a (.cells #[.string who, .int .i64 rate, .int .i64 burst, .int .i64 burst, .int .i64 now] 23)
  have H4b := Has.newAt w3 #[.string who, .int .i64 rate, .int .i64 burst, .int .i64 burst, .int .i64 now] 23 (g := w3.heap.size) (by simp)
  have B4 := Below.alloc B3 (B3.size) (.cells #[.string who, .int .i64 rate, .int .i64 burst, .int .i64 burst, .int .i64 now] 23)
  generalize hWW : (w3.alloc (.cells #[.string who, .int .i64 rate, .int .i64 burst, .int .i64 burst, .int .i64 now] 23)) = W at *
  have F0 : ∀ i, W.frozen? ⟨w3.heap.size, i, none⟩ = false := fun i => by rw [← hWW]; exact World.frozen?_alloc_new _ _ _ _
  clear hWW
  have HA := Lib.hid H4a
  have HB := Lib.hid H4b
  have BB := Lib.hid B4
  have HGAB : w.heap.size < w3.heap.size := by omega
  generalize w3.heap.size = gb at *
  have hg2 : gb < W.heap.size := HB.out.lt
  have hg1 := HGAB
  have hM : BMem w w.heap.size gb who rate burst burst now W := ⟨HA.out.cell 0, HA.out.cell 1, HA.out.cell 2, HB.out.cell 0, HB.out.cell 1, HB.out.cell 2, HB.out.cell 3, HB.out.cell 4, F0 0, F0 1, F0 2, F0 3, F0 4, hg2, BB.out⟩
  have HM := Lib.hid hM
  clear hM HA HB F0 HGAB
  go_loopw [1, 12, 13, 15] (fun nw tk ls i wr => ∃ (k : Nat) (nv tv lv L at_ : Int), k ≤ n2 ∧ nw = .int .i64 nv ∧ tk = .int .i64 tv ∧ ls = .int .i64 lv ∧ i = .int .i64 k ∧ BInv who.size rate burst now k nv tv lv L at_ ∧ BMem w w.heap.size gb who rate burst L at_ wr)
    (fun _ _ _ i _ => n2 - (intOf i).toNat)
  case atStart => exact ⟨0, now, 0, 0, burst, now, Nat.zero_le _, rfl, rfl, rfl, rfl, BS.out, HM.out⟩
  case round =>
    obtain ⟨k, nv, tv, lv, L, at_, hk, rfl, rfl, rfl, rfl, inv, mem⟩ := hrel
    obtain ⟨a0, a1, a2, b0, b1, b2', b3, b4, f0, f1, f2, f3, f4, lt, hbr⟩ := mem
    have lt2 : w.heap.size < wr.heap.size := by omega
    have i1 := I1.out.below hbr
    have i2 := I2.out.below hbr
    have BBr := Lib.hid hbr
    have I1r := Lib.hid i1
    have I2r := Lib.hid i2
    clear hbr i1 i2
    by_cases hlt : k < n2
    · obtain ⟨b2, off2, rfl, hb2, e2⟩ := I2r.out k hlt
      generalize zs2.getD k 0 = m at *
      by_cases hm : k < n1
      · obtain ⟨b1x, off1, rfl, hb1x, e1⟩ := I1r.out k hm
        generalize zs1.getD k 0 = by_ at *
        by_cases hmv : 0 ≤ by_ ∧ by_ ≤ 1099511627776 - nv
        · obtain ⟨hv0, hv1⟩ := hmv
          by_cases hmr : 0 ≤ m ∧ m ≤ 1048576
          · obtain ⟨hr0, hr1⟩ := hmr
            obtain ⟨hE, hw0, hup, p0, p1, hnext⟩ := binv_round inv hv0 hv1 hr0 hr1
            have n0 : 0 ≤ nv := by have := inv.f0; have := inv.f1; have := inv.a1; omega
            have n1' : nv ≤ 1099511627776 := inv.n1
            have t0 := inv.t0
            have t1 := inv.t1
            have l0 := inv.l0
            have l1 := inv.l1
            have fz := inv.f0
            have fa : now ≤ nv := by have := inv.f1; have := inv.a1; omega
            obtain ⟨g0, g1, g2, g3, g4, _⟩ := okB_parts inv.ok
            obtain ⟨t, ht⟩ : ∃ t, nv + by_ = t := ⟨_, rfl⟩
            rw [ht] at hE hw0 hup p0 p1 hnext
            have tb : nv ≤ t ∧ t ≤ 1099511627776 := by omega
            obtain ⟨tb0, tb1⟩ := tb
            obtain ⟨h', h1, h2, h3, h4, h5⟩ := takeE_zero hE
            have TK := Lib.hid (fun w => take_in who rate burst L at_ t m w h' h1 h2 h3 h4 h5)
            have MV := Lib.hid (fun w => moved_ok nv by_ w n0 n1' hv0 hv1 ht)
            have INV := Lib.hid hnext
            have tk4 : tv ≤ 62914560 := by have : (k : Int) ≤ 60 := by omega
                                           omega
            clear inv hnext h' h5 hE ht t1
            generalize hLL : takeL rate burst L at_ t m = L' at *
            clear hLL
            generalize hwt : waitOf rate L' = wt at *
            clear hwt
            have hr2 : IntKind.i64.wrap (t - now) = t - now := IntWalk.i64_in _ (by omega)
            by_cases hle : wt ≤ 1099511627776 - t
            · have MV2 := Lib.hid (fun w => moved_ok t wt w (show 0 ≤ t by omega) tb1 hw0 hle rfl)
              have INV' := Lib.hid (INV.out hle)
              clear INV
              go_wp2_with fail
              refine (MV.out _).mono ?_
              rintro e w' ⟨rfl, rfl⟩
              go_wp2_with fail
              have hb2s : b2 < wr.heap.size + 1 := by omega
              have lts : gb < wr.heap.size + 1 := by omega
              go_region_held3 (fun w' => w'.cell? ⟨gb, 0, none⟩ = some (.string who) ∧ w'.cell? ⟨gb, 1, none⟩ = some (.int .i64 rate) ∧ w'.cell? ⟨gb, 2, none⟩ = some (.int .i64 burst) ∧ w'.cell? ⟨gb, 3, none⟩ = some (.int .i64 L) ∧ w'.cell? ⟨gb, 4, none⟩ = some (.int .i64 at_) ∧ w'.cell? ⟨b2, off2 + k, none⟩ = some (.int .i64 m))
                (simp [go_sem, World.cell?_alloc_past, *]) (first | (go_at_call 20; refine (TK.out _).mono ?_; rintro e w' ⟨rfl, hbt⟩; obtain ⟨hcx, hfx⟩ := bcell hbt; have hzx := hbt.size; simp at hzx; have gz1 : gb < w'.heap.size := (by omega); have gz3 : b2 < w'.heap.size := (by omega); have s0 : w'.cell? ⟨gb, 0, none⟩ = some (.string who) := (hcx gb 0 (by simp <;> omega)).trans (by simp [go_sem, World.cell?_alloc_past, *]); have s1 : w'.cell? ⟨gb, 1, none⟩ = some (.int .i64 rate) := (hcx gb 1 (by simp <;> omega)).trans (by simp [go_sem, World.cell?_alloc_past, *]); have s2 : w'.cell? ⟨gb, 2, none⟩ = some (.int .i64 burst) := (hcx gb 2 (by simp <;> omega)).trans (by simp [go_sem, World.cell?_alloc_past, *]); have s3 : w'.cell? ⟨gb, 3, none⟩ = some (.int .i64 L) := (hcx gb 3 (by simp <;> omega)).trans (by simp [go_sem, World.cell?_alloc_past, *]); have s4 : w'.cell? ⟨gb, 4, none⟩ = some (.int .i64 at_) := (hcx gb 4 (by simp <;> omega)).trans (by simp [go_sem, World.cell?_alloc_past, *]); have s5 : w'.cell? ⟨b2, off2 + k, none⟩ = some (.int .i64 m) := (hcx b2 (off2 + k) (by simp <;> omega)).trans (by simp [go_sem, World.cell?_alloc_past, *])))
              all_goals
                have q0 : w'.cell? ⟨w.heap.size, 0, none⟩ = some (.string who) := (hcx w.heap.size 0 (by simp <;> omega)).trans (by simp [go_sem, World.cell?_alloc_past, a0, lt2])
                have q1 : w'.cell? ⟨w.heap.size, 1, none⟩ = some (.int .i64 rate) := (hcx w.heap.size 1 (by simp <;> omega)).trans (by simp [go_sem, World.cell?_alloc_past, a1, lt2])
                have q2 : w'.cell? ⟨w.heap.size, 2, none⟩ = some (.int .i64 burst) := (hcx w.heap.size 2 (by simp <;> omega)).trans (by simp [go_sem, World.cell?_alloc_past, a2, lt2])
                have gz2 : w.heap.size < w'.heap.size := by omega
                have y0 : w'.frozen? ⟨gb, 0, none⟩ = false := (hfx gb 0 (by simp <;> omega)).trans (by simp [go_sem, World.frozen?_alloc_past, f0, lt])
                have y1 : w'.frozen? ⟨gb, 1, none⟩ = false := (hfx gb 1 (by simp <;> omega)).trans (by simp [go_sem, World.frozen?_alloc_past, f1, lt])
                have y2 : w'.frozen? ⟨gb, 2, none⟩ = false := (hfx gb 2 (by simp <;> omega)).trans (by simp [go_sem, World.frozen?_alloc_past, f2, lt])
                have y3 : w'.frozen? ⟨gb, 3, none⟩ = false := (hfx gb 3 (by simp <;> omega)).trans (by simp [go_sem, World.frozen?_alloc_past, f3, lt])
                have y4 : w'.frozen? ⟨gb, 4, none⟩ = false := (hfx gb 4 (by simp <;> omega)).trans (by simp [go_sem, World.frozen?_alloc_past, f4, lt])
                go_wp2_with fail
                refine (MV2.out _).mono ?_
                rintro e w'' ⟨rfl, rfl⟩
                have HBX : Below w.heap.size w w' := below_from hbt (by have B := BBr.out; repeat (first | with_reducible exact B | (refine Below.alloc ?_ (by first | omega | (simp <;> omega)) _) | refine Below.drew ?_)) (by first | omega | (simp <;> omega))
                have HMm := Lib.hid (show BMem w w.heap.size gb who rate burst L at_ w' from ⟨q0, q1, q2, s0, s1, s2, s3, s4, y0, y1, y2, y3, y4, gz1, HBX⟩)
                clear HBX
                go_wp2_with fail
                go_roundw
                case rel =>
                  refine ⟨k + 1, t + wt, tv + lv, m, L', t, by omega, by go_num, by go_num, by go_num, by go_num, INV'.out, ?_⟩
                  have M := HMm.out
                  repeat (first | with_reducible exact M | with_reducible refine BMem.drew ?_ | with_reducible refine BMem.alloc ?_ hg1 _ | with_reducible refine BMem.store5 (L := L) (at_ := at_) ?_ hg1 (Nat.le_of_lt hg1) _ _ | with_reducible refine BMem.setOther ?_ hg1 lt (Nat.le_of_lt lt2) _)
                case measure => simp [intOf]; omega
            · have MV2 := Lib.hid (fun w => moved_no t wt w (by omega))
              clear INV
              go_wp2_with fail
              refine (MV.out _).mono ?_
              rintro e w' ⟨rfl, rfl⟩
              go_wp2_with fail
              have hb2s : b2 < wr.heap.size + 1 := by omega
              have lts : gb < wr.heap.size + 1 := by omega
              go_region_held3 (fun w' => w'.cell? ⟨gb, 0, none⟩ = some (.string who) ∧ w'.cell? ⟨gb, 1, none⟩ = some (.int .i64 rate) ∧ w'.cell? ⟨gb, 2, none⟩ = some (.int .i64 burst) ∧ w'.cell? ⟨gb, 3, none⟩ = some (.int .i64 L) ∧ w'.cell? ⟨gb, 4, none⟩ = some (.int .i64 at_) ∧ w'.cell? ⟨b2, off2 + k, none⟩ = some (.int .i64 m))
                (simp [go_sem, World.cell?_alloc_past, *]) (first | (go_at_call 20; refine (TK.out _).mono ?_; rintro e w' ⟨rfl, hbt⟩; obtain ⟨hcx, hfx⟩ := bcell hbt; have hzx := hbt.size; simp at hzx; have gz1 : gb < w'.heap.size := (by omega); have gz3 : b2 < w'.heap.size := (by omega); have s0 : w'.cell? ⟨gb, 0, none⟩ = some (.string who) := (hcx gb 0 (by simp <;> omega)).trans (by simp [go_sem, World.cell?_alloc_past, *]); have s1 : w'.cell? ⟨gb, 1, none⟩ = some (.int .i64 rate) := (hcx gb 1 (by simp <;> omega)).trans (by simp [go_sem, World.cell?_alloc_past, *]); have s2 : w'.cell? ⟨gb, 2, none⟩ = some (.int .i64 burst) := (hcx gb 2 (by simp <;> omega)).trans (by simp [go_sem, World.cell?_alloc_past, *]); have s3 : w'.cell? ⟨gb, 3, none⟩ = some (.int .i64 L) := (hcx gb 3 (by simp <;> omega)).trans (by simp [go_sem, World.cell?_alloc_past, *]); have s4 : w'.cell? ⟨gb, 4, none⟩ = some (.int .i64 at_) := (hcx gb 4 (by simp <;> omega)).trans (by simp [go_sem, World.cell?_alloc_past, *]); have s5 : w'.cell? ⟨b2, off2 + k, none⟩ = some (.int .i64 m) := (hcx b2 (off2 + k) (by simp <;> omega)).trans (by simp [go_sem, World.cell?_alloc_past, *])))
              all_goals
                have q0 : w'.cell? ⟨w.heap.size, 0, none⟩ = some (.string who) := (hcx w.heap.size 0 (by simp <;> omega)).trans (by simp [go_sem, World.cell?_alloc_past, a0, lt2])
                have q1 : w'.cell? ⟨w.heap.size, 1, none⟩ = some (.int .i64 rate) := (hcx w.heap.size 1 (by simp <;> omega)).trans (by simp [go_sem, World.cell?_alloc_past, a1, lt2])
                have q2 : w'.cell? ⟨w.heap.size, 2, none⟩ = some (.int .i64 burst) := (hcx w.heap.size 2 (by simp <;> omega)).trans (by simp [go_sem, World.cell?_alloc_past, a2, lt2])
                have gz2 : w.heap.size < w'.heap.size := by omega
                have y0 : w'.frozen? ⟨gb, 0, none⟩ = false := (hfx gb 0 (by simp <;> omega)).trans (by simp [go_sem, World.frozen?_alloc_past, f0, lt])
                have y1 : w'.frozen? ⟨gb, 1, none⟩ = false := (hfx gb 1 (by simp <;> omega)).trans (by simp [go_sem, World.frozen?_alloc_past, f1, lt])
                have y2 : w'.frozen? ⟨gb, 2, none⟩ = false := (hfx gb 2 (by simp <;> omega)).trans (by simp [go_sem, World.frozen?_alloc_past, f2, lt])
                have y3 : w'.frozen? ⟨gb, 3, none⟩ = false := (hfx gb 3 (by simp <;> omega)).trans (by simp [go_sem, World.frozen?_alloc_past, f3, lt])
                have y4 : w'.frozen? ⟨gb, 4, none⟩ = false := (hfx gb 4 (by simp <;> omega)).trans (by simp [go_sem, World.frozen?_alloc_past, f4, lt])
                go_wp2_with fail
                refine (MV2.out _).mono ?_
                rintro e w'' ⟨rfl, rfl⟩
                have HBX : Below w.heap.size w w' := below_from hbt (by have B := BBr.out; repeat (first | with_reducible exact B | (refine Below.alloc ?_ (by first | omega | (simp <;> omega)) _) | refine Below.drew ?_)) (by first | omega | (simp <;> omega))
                have HMm := Lib.hid (show BMem w w.heap.size gb who rate burst L at_ w' from ⟨q0, q1, q2, s0, s1, s2, s3, s4, y0, y1, y2, y3, y4, gz1, HBX⟩)
                clear HBX
                go_wp2_with fail
                go_ret
                refine ⟨rfl, ?_⟩
                refine BMem.below (ga := w.heap.size) (gb := gb) (who := who) (rate := rate) (burst := burst) (L := L') (at_ := t) ?_
                have M := HMm.out
                repeat (first | with_reducible exact M | with_reducible refine BMem.drew ?_ | with_reducible refine BMem.alloc ?_ hg1 _ | with_reducible refine BMem.store5 (L := L) (at_ := at_) ?_ hg1 (Nat.le_of_lt hg1) _ _ | with_reducible refine BMem.setOther ?_ hg1 lt (Nat.le_of_lt lt2) _)
          · have hno : m < 0 ∨ (0 ≤ m ∧ 1048576 < m) := by omega
            have MV := Lib.hid (fun w => moved_ok nv by_ w (show 0 ≤ nv by have := inv.f0; have := inv.f1; have := inv.a1; omega) inv.n1 hv0 hv1 rfl)
            clear inv hmr
            rcases hno with hno | ⟨hno, hno'⟩
            all_goals
              go_wp2_with fail
              refine (MV.out _).mono ?_
              rintro e w' ⟨rfl, rfl⟩
              go_wp2_with fail
              go_ret
              exact ⟨rfl, BBr.out⟩
        · have MV := Lib.hid (fun w => moved_no nv by_ w (by omega))
          clear inv hmv
          go_wp2_with fail
          refine (MV.out _).mono ?_
          rintro e w' ⟨rfl, rfl⟩
          go_wp2_with fail
          go_ret
          exact ⟨rfl, BBr.out⟩
      · skip
        by_cases hmv : 0 ≤ (0 : Int) ∧ (0 : Int) ≤ 1099511627776 - nv
        · obtain ⟨hv0, hv1⟩ := hmv
          by_cases hmr : 0 ≤ m ∧ m ≤ 1048576
          · obtain ⟨hr0, hr1⟩ := hmr
            obtain ⟨hE, hw0, hup, p0, p1, hnext⟩ := binv_round inv hv0 hv1 hr0 hr1
            have n0 : 0 ≤ nv := by have := inv.f0; have := inv.f1; have := inv.a1; omega
            have n1' : nv ≤ 1099511627776 := inv.n1
            have t0 := inv.t0
            have t1 := inv.t1
            have l0 := inv.l0
            have l1 := inv.l1
            have fz := inv.f0
            have fa : now ≤ nv := by have := inv.f1; have := inv.a1; omega
            obtain ⟨g0, g1, g2, g3, g4, _⟩ := okB_parts inv.ok
            obtain ⟨t, ht⟩ : ∃ t, nv + (0 : Int) = t := ⟨_, rfl⟩
            rw [ht] at hE hw0 hup p0 p1 hnext
            have tb : nv ≤ t ∧ t ≤ 1099511627776 := by omega
            obtain ⟨tb0, tb1⟩ := tb
            obtain ⟨h', h1, h2, h3, h4, h5⟩ := takeE_zero hE
            have TK := Lib.hid (fun w => take_in who rate burst L at_ t m w h' h1 h2 h3 h4 h5)
            have MV := Lib.hid (fun w => moved_ok nv (0 : Int) w n0 n1' hv0 hv1 ht)
            have INV := Lib.hid hnext
            have tk4 : tv ≤ 62914560 := by have : (k : Int) ≤ 60 := by omega
                                           omega
            clear inv hnext h' h5 hE ht t1
            generalize hLL : takeL rate burst L at_ t m = L' at *
            clear hLL
            generalize hwt : waitOf rate L' = wt at *
            clear hwt
            have hr2 : IntKind.i64.wrap (t - now) = t - now := IntWalk.i64_in _ (by omega)
            by_cases hle : wt ≤ 1099511627776 - t
            · have MV2 := Lib.hid (fun w => moved_ok t wt w (show 0 ≤ t by omega) tb1 hw0 hle rfl)
              have INV' := Lib.hid (INV.out hle)
              clear INV
              go_wp2_with fail
              refine (MV.out _).mono ?_
              rintro e w' ⟨rfl, rfl⟩
              go_wp2_with fail
              have hb2s : b2 < wr.heap.size + 1 := by omega
              have lts : gb < wr.heap.size + 1 := by omega
              go_region_held3 (fun w' => w'.cell? ⟨gb, 0, none⟩ = some (.string who) ∧ w'.cell? ⟨gb, 1, none⟩ = some (.int .i64 rate) ∧ w'.cell? ⟨gb, 2, none⟩ = some (.int .i64 burst) ∧ w'.cell? ⟨gb, 3, none⟩ = some (.int .i64 L) ∧ w'.cell? ⟨gb, 4, none⟩ = some (.int .i64 at_) ∧ w'.cell? ⟨b2, off2 + k, none⟩ = some (.int .i64 m))
                (simp [go_sem, World.cell?_alloc_past, *]) (first | (go_at_call 20; refine (TK.out _).mono ?_; rintro e w' ⟨rfl, hbt⟩; obtain ⟨hcx, hfx⟩ := bcell hbt; have hzx := hbt.size; simp at hzx; have gz1 : gb < w'.heap.size := (by omega); have gz3 : b2 < w'.heap.size := (by omega); have s0 : w'.cell? ⟨gb, 0, none⟩ = some (.string who) := (hcx gb 0 (by simp <;> omega)).trans (by simp [go_sem, World.cell?_alloc_past, *]); have s1 : w'.cell? ⟨gb, 1, none⟩ = some (.int .i64 rate) := (hcx gb 1 (by simp <;> omega)).trans (by simp [go_sem, World.cell?_alloc_past, *]); have s2 : w'.cell? ⟨gb, 2, none⟩ = some (.int .i64 burst) := (hcx gb 2 (by simp <;> omega)).trans (by simp [go_sem, World.cell?_alloc_past, *]); have s3 : w'.cell? ⟨gb, 3, none⟩ = some (.int .i64 L) := (hcx gb 3 (by simp <;> omega)).trans (by simp [go_sem, World.cell?_alloc_past, *]); have s4 : w'.cell? ⟨gb, 4, none⟩ = some (.int .i64 at_) := (hcx gb 4 (by simp <;> omega)).trans (by simp [go_sem, World.cell?_alloc_past, *]); have s5 : w'.cell? ⟨b2, off2 + k, none⟩ = some (.int .i64 m) := (hcx b2 (off2 + k) (by simp <;> omega)).trans (by simp [go_sem, World.cell?_alloc_past, *])))
              all_goals
                have q0 : w'.cell? ⟨w.heap.size, 0, none⟩ = some (.string who) := (hcx w.heap.size 0 (by simp <;> omega)).trans (by simp [go_sem, World.cell?_alloc_past, a0, lt2])
                have q1 : w'.cell? ⟨w.heap.size, 1, none⟩ = some (.int .i64 rate) := (hcx w.heap.size 1 (by simp <;> omega)).trans (by simp [go_sem, World.cell?_alloc_past, a1, lt2])
                have q2 : w'.cell? ⟨w.heap.size, 2, none⟩ = some (.int .i64 burst) := (hcx w.heap.size 2 (by simp <;> omega)).trans (by simp [go_sem, World.cell?_alloc_past, a2, lt2])
                have gz2 : w.heap.size < w'.heap.size := by omega
                have y0 : w'.frozen? ⟨gb, 0, none⟩ = false := (hfx gb 0 (by simp <;> omega)).trans (by simp [go_sem, World.frozen?_alloc_past, f0, lt])
                have y1 : w'.frozen? ⟨gb, 1, none⟩ = false := (hfx gb 1 (by simp <;> omega)).trans (by simp [go_sem, World.frozen?_alloc_past, f1, lt])
                have y2 : w'.frozen? ⟨gb, 2, none⟩ = false := (hfx gb 2 (by simp <;> omega)).trans (by simp [go_sem, World.frozen?_alloc_past, f2, lt])
                have y3 : w'.frozen? ⟨gb, 3, none⟩ = false := (hfx gb 3 (by simp <;> omega)).trans (by simp [go_sem, World.frozen?_alloc_past, f3, lt])
                have y4 : w'.frozen? ⟨gb, 4, none⟩ = false := (hfx gb 4 (by simp <;> omega)).trans (by simp [go_sem, World.frozen?_alloc_past, f4, lt])
                go_wp2_with fail
                refine (MV2.out _).mono ?_
                rintro e w'' ⟨rfl, rfl⟩
                have HBX : Below w.heap.size w w' := below_from hbt (by have B := BBr.out; repeat (first | with_reducible exact B | (refine Below.alloc ?_ (by first | omega | (simp <;> omega)) _) | refine Below.drew ?_)) (by first | omega | (simp <;> omega))
                have HMm := Lib.hid (show BMem w w.heap.size gb who rate burst L at_ w' from ⟨q0, q1, q2, s0, s1, s2, s3, s4, y0, y1, y2, y3, y4, gz1, HBX⟩)
                clear HBX
                go_wp2_with fail
                go_roundw
                case rel =>
                  refine ⟨k + 1, t + wt, tv + lv, m, L', t, by omega, by go_num, by go_num, by go_num, by go_num, INV'.out, ?_⟩
                  have M := HMm.out
                  repeat (first | with_reducible exact M | with_reducible refine BMem.drew ?_ | with_reducible refine BMem.alloc ?_ hg1 _ | with_reducible refine BMem.store5 (L := L) (at_ := at_) ?_ hg1 (Nat.le_of_lt hg1) _ _ | with_reducible refine BMem.setOther ?_ hg1 lt (Nat.le_of_lt lt2) _)
                case measure => simp [intOf]; omega
            · have MV2 := Lib.hid (fun w => moved_no t wt w (by omega))
              clear INV
              go_wp2_with fail
              refine (MV.out _).mono ?_
              rintro e w' ⟨rfl, rfl⟩
              go_wp2_with fail
              have hb2s : b2 < wr.heap.size + 1 := by omega
              have lts : gb < wr.heap.size + 1 := by omega
              go_region_held3 (fun w' => w'.cell? ⟨gb, 0, none⟩ = some (.string who) ∧ w'.cell? ⟨gb, 1, none⟩ = some (.int .i64 rate) ∧ w'.cell? ⟨gb, 2, none⟩ = some (.int .i64 burst) ∧ w'.cell? ⟨gb, 3, none⟩ = some (.int .i64 L) ∧ w'.cell? ⟨gb, 4, none⟩ = some (.int .i64 at_) ∧ w'.cell? ⟨b2, off2 + k, none⟩ = some (.int .i64 m))
                (simp [go_sem, World.cell?_alloc_past, *]) (first | (go_at_call 20; refine (TK.out _).mono ?_; rintro e w' ⟨rfl, hbt⟩; obtain ⟨hcx, hfx⟩ := bcell hbt; have hzx := hbt.size; simp at hzx; have gz1 : gb < w'.heap.size := (by omega); have gz3 : b2 < w'.heap.size := (by omega); have s0 : w'.cell? ⟨gb, 0, none⟩ = some (.string who) := (hcx gb 0 (by simp <;> omega)).trans (by simp [go_sem, World.cell?_alloc_past, *]); have s1 : w'.cell? ⟨gb, 1, none⟩ = some (.int .i64 rate) := (hcx gb 1 (by simp <;> omega)).trans (by simp [go_sem, World.cell?_alloc_past, *]); have s2 : w'.cell? ⟨gb, 2, none⟩ = some (.int .i64 burst) := (hcx gb 2 (by simp <;> omega)).trans (by simp [go_sem, World.cell?_alloc_past, *]); have s3 : w'.cell? ⟨gb, 3, none⟩ = some (.int .i64 L) := (hcx gb 3 (by simp <;> omega)).trans (by simp [go_sem, World.cell?_alloc_past, *]); have s4 : w'.cell? ⟨gb, 4, none⟩ = some (.int .i64 at_) := (hcx gb 4 (by simp <;> omega)).trans (by simp [go_sem, World.cell?_alloc_past, *]); have s5 : w'.cell? ⟨b2, off2 + k, none⟩ = some (.int .i64 m) := (hcx b2 (off2 + k) (by simp <;> omega)).trans (by simp [go_sem, World.cell?_alloc_past, *])))
              all_goals
                have q0 : w'.cell? ⟨w.heap.size, 0, none⟩ = some (.string who) := (hcx w.heap.size 0 (by simp <;> omega)).trans (by simp [go_sem, World.cell?_alloc_past, a0, lt2])
                have q1 : w'.cell? ⟨w.heap.size, 1, none⟩ = some (.int .i64 rate) := (hcx w.heap.size 1 (by simp <;> omega)).trans (by simp [go_sem, World.cell?_alloc_past, a1, lt2])
                have q2 : w'.cell? ⟨w.heap.size, 2, none⟩ = some (.int .i64 burst) := (hcx w.heap.size 2 (by simp <;> omega)).trans (by simp [go_sem, World.cell?_alloc_past, a2, lt2])
                have gz2 : w.heap.size < w'.heap.size := by omega
                have y0 : w'.frozen? ⟨gb, 0, none⟩ = false := (hfx gb 0 (by simp <;> omega)).trans (by simp [go_sem, World.frozen?_alloc_past, f0, lt])
                have y1 : w'.frozen? ⟨gb, 1, none⟩ = false := (hfx gb 1 (by simp <;> omega)).trans (by simp [go_sem, World.frozen?_alloc_past, f1, lt])
                have y2 : w'.frozen? ⟨gb, 2, none⟩ = false := (hfx gb 2 (by simp <;> omega)).trans (by simp [go_sem, World.frozen?_alloc_past, f2, lt])
                have y3 : w'.frozen? ⟨gb, 3, none⟩ = false := (hfx gb 3 (by simp <;> omega)).trans (by simp [go_sem, World.frozen?_alloc_past, f3, lt])
                have y4 : w'.frozen? ⟨gb, 4, none⟩ = false := (hfx gb 4 (by simp <;> omega)).trans (by simp [go_sem, World.frozen?_alloc_past, f4, lt])
                go_wp2_with fail
                refine (MV2.out _).mono ?_
                rintro e w'' ⟨rfl, rfl⟩
                have HBX : Below w.heap.size w w' := below_from hbt (by have B := BBr.out; repeat (first | with_reducible exact B | (refine Below.alloc ?_ (by first | omega | (simp <;> omega)) _) | refine Below.drew ?_)) (by first | omega | (simp <;> omega))
                have HMm := Lib.hid (show BMem w w.heap.size gb who rate burst L at_ w' from ⟨q0, q1, q2, s0, s1, s2, s3, s4, y0, y1, y2, y3, y4, gz1, HBX⟩)
                clear HBX
                go_wp2_with fail
                go_ret
                refine ⟨rfl, ?_⟩
                refine BMem.below (ga := w.heap.size) (gb := gb) (who := who) (rate := rate) (burst := burst) (L := L') (at_ := t) ?_
                have M := HMm.out
                repeat (first | with_reducible exact M | with_reducible refine BMem.drew ?_ | with_reducible refine BMem.alloc ?_ hg1 _ | with_reducible refine BMem.store5 (L := L) (at_ := at_) ?_ hg1 (Nat.le_of_lt hg1) _ _ | with_reducible refine BMem.setOther ?_ hg1 lt (Nat.le_of_lt lt2) _)
          · have hno : m < 0 ∨ (0 ≤ m ∧ 1048576 < m) := by omega
            have MV := Lib.hid (fun w => moved_ok nv (0 : Int) w (show 0 ≤ nv by have := inv.f0; have := inv.f1; have := inv.a1; omega) inv.n1 hv0 hv1 rfl)
            clear inv hmr
            rcases hno with hno | ⟨hno, hno'⟩
            all_goals
              go_wp2_with fail
              refine (MV.out _).mono ?_
              rintro e w' ⟨rfl, rfl⟩
              go_wp2_with fail
              go_ret
              exact ⟨rfl, BBr.out⟩
        · have MV := Lib.hid (fun w => moved_no nv (0 : Int) w (by omega))
          clear inv hmv
          go_wp2_with fail
          refine (MV.out _).mono ?_
          rintro e w' ⟨rfl, rfl⟩
          go_wp2_with fail
          go_ret
          exact ⟨rfl, BBr.out⟩
    · clear inv
      go_wp2_with fail
      go_ret
      exact ⟨rfl, BBr.out⟩

end Go.Proofs.Ythmnojlenaddeaa
