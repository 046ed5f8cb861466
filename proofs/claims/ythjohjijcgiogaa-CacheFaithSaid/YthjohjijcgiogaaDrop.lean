/- Drop, of the program. -/
import Derived.Test.YthjohjijcgiogaaPutOk
import Derived.Test.YthjohjijcgiogaaDlf
namespace Go.Proofs.Ythjohjijcgiogaa
open Go.RowKit

theorem drop1_any (x : Hd) (name : ByteArray) (b : Nat) (w : World) (hk : Has w b #[.string name]) :
    Calls Try.prog 45 #[.agg #[.string x.name, .int .i64 x.no, .slice x.A x.n x.c], .pointer (some ⟨b, 0, none⟩)] w fun e w' => e = .returned (.bool (decide (x.name = name))) ∧ Below w.heap.size w w' := by
  have c0 : w.cell? ⟨b, 0, none⟩ = some (.string name) := hk.cell 0
  have l0 := hk.lt
  clear hk
  obtain ⟨xn, xo, xA, xN, xC, xb⟩ := x
  simp only
  by_cases h : xn = name
  · subst h
    go_enter Try.func45, Try.ntmps45
    go_wp2
    go_ret
    exact ⟨ret_bool (by simp), below_alloc1 _ _⟩
  · have ne := str_ne h
    have H := Lib.hid h
    go_enter Try.func45, Try.ntmps45
    go_wp2
    go_ret
    exact ⟨ret_bool (decide_eq_false H.out).symm, below_alloc1 _ _⟩

theorem drop_vals {l : List Hd} {name : ByteArray} : (l.filter fun x => !decide (x.name = name)).map Hd.val = (l.map Hd.val).filter fun x => !decide (x.name = name) := by
  rw [List.filter_map]; rfl

set_option maxHeartbeats 4000000 in
set_option maxRecDepth 100000 in
theorem drop_any (cap : Int) (A : Option Addr) (n c : Nat) (l : List Hd) (name : ByteArray) (w : World) (hl : Hds w A n c l) (hn : n ≤ 60000) :
    Calls Try.prog 25 #[.agg #[.int .i64 cap, .slice A n c], .string name] w (CRes l (fun v => v) (capC cap (l.map Hd.val)) (dropL cap (l.map Hd.val) name) w) := by
  obtain ⟨W0, hW0⟩ : ∃ W0, W0 = (((w.alloc (.cells #[.int .i64 cap, .slice A n c] 24)).alloc (.cells #[.string name] 9)).alloc (.cells #[.int .i64 0, .slice none 0 0] 24)) := ⟨_, rfl⟩
  have hb0 : Below w.heap.size w W0 := by rw [hW0]; exact below_from (below_alloc1 _ _) (below_from (below_alloc1 _ _) (below_alloc1 w _) (by simp)) (by simp <;> omega)
  have N2 := Lib.hid (show Has W0 w.heap.size #[.int .i64 cap, .slice A n c] by rw [hW0]; exact ((Has.newAt w _ 24 rfl).alloc _).alloc _)
  have N3 := Lib.hid (show Has W0 (w.heap.size + 1) #[.string name] by rw [hW0]; exact (Has.newAt (w.alloc (.cells #[.int .i64 cap, .slice A n c] 24)) _ 9 (by simp)).alloc _)
  have N4 := Lib.hid (show Has W0 (w.heap.size + 1 + 1) #[.int .i64 0, .slice none 0 0] by rw [hW0]; exact Has.newAt _ _ 24 (by simp))
  have ck := Lib.hid (check_any cap A n c l W0 (hl.below hb0) hn)
  have B0 := Lib.hid hb0
  have HL := Lib.hid hl
  clear hl hb0
  subst hW0
  have z0 := B0.out.size
  unfold capC dropL
  rcases check_cases cap (l.map Hd.val) with h | h
  · rw [h] at ck
    rw [h, if_pos rfl, if_pos rfl]
    clear h
    have hmf := hmf
    go_enter Try.func25, Try.ntmps25
    go_wp2_with (first | (go_at_call 15; refine ck.out.mono ?_; rintro e w1 ⟨rfl, hb1⟩; have HB1 := Lib.hid (below_from hb1 B0.out B0.out.size); have M2 := Lib.hid (N2.out.past hb1); have M3 := Lib.hid (N3.out.past hb1); have M4 := Lib.hid (N4.out.past hb1); have c2 := M2.out.cell; have l2 := M2.out.lt; have l3 := M3.out.lt; have l4 := M4.out.lt; clear hb1) | (go_at_call 44; refine (cloneHd A n c l w1 (HL.out.below HB1.out) (by omega)).mono ?_; intro e w3 hx; obtain ⟨A', c', rfl, hO, hb3⟩ := hx; have HO := Lib.hid hO; have P2 := Lib.hid (M2.out.past hb3); have P3 := Lib.hid (M3.out.past hb3); have P4 := Lib.hid (M4.out.past hb3); have B3 := Lib.hid (below_from hb3 HB1.out HB1.out.size); have S3 := hb3.size; clear hO hb3 c2))
    have dl := deleteFuncHd w1.heap.size A' n c' l w3 45 #[.pointer (some ⟨w.heap.size + 1, 0, none⟩)] (fun x => decide (x.name = name)) HO.out (fun _ _ => by kernel_rfl) (fun x hx W hg => by
      refine (drop1_any x name (w.heap.size + 1) W ?_)
      refine ⟨fun i => (hg.cell_far ⟨w.heap.size + 1, i, none⟩ P3.out.lt ?_).trans (P3.out.cell i), fun i => (hg.frozen_far ⟨w.heap.size + 1, i, none⟩ P3.out.lt ?_).trans (P3.out.free i), Nat.lt_of_lt_of_le P3.out.lt hg.size⟩
      · exact fun e => by have : w1.heap.size ≤ w.heap.size + 1 := (HO.out.2.1.lt _ e.symm).1; omega
      · exact fun e => by have : w1.heap.size ≤ w.heap.size + 1 := (HO.out.2.1.lt _ e.symm).1; omega)
    refine dl.mono ?_
    intro e w5 hx
    obtain ⟨k, rfl, hk, hr, hg⟩ := hx
    have b35 : Below w1.heap.size w3 w5 := owns_below HO.out.2.1 hg S3
    have B5 := Lib.hid (B3.out.trans (b35.mono HB1.out.size))
    have R2 := P2.out.below b35 l2
    have c5 := R2.cell
    have m5 := R2.lt
    have R4 := Lib.hid (P4.out.below b35 l4)
    have c8 := R4.out.cell
    have f8 := R4.out.free
    have l8 := R4.out.lt
    have HR := Lib.hid (And.intro hk hr)
    clear hk hr hg b35 R2 dl
    go_wp2_with fail
    have gs := setCells_grown (w.heap.size + 1 + 1) [.int .i64 cap, .slice A' k c'] 0 w5
    have bs : Below w.heap.size w (w5.setCells (w.heap.size + 1 + 1) 0 [.int .i64 cap, .slice A' k c']) := B5.out.grown gs B5.out.size (fun q hq => by injection hq; omega)
    refine bodyPost_ret (v := .agg #[.int .i64 cap, .slice A' k c']) (by simp [results, Try.results25, go_sem, c8, l8]) rfl ⟨A', k, c', _, rfl, ?_, drop_vals, bs, fun b off e => Nat.le_trans HB1.out.size (HO.out.lt e).1, fun a ha => .inl (List.mem_filter.1 ha).1⟩
    have O5 : Own hdK 37 w5 w1.heap.size A' k c' (l.filter fun x => !decide (x.name = name)) := ⟨HR.out.1, HR.out.2, fun a ha => hdK.below (HL.out.each a (List.mem_filter.1 ha).1) B5.out⟩
    exact (O5.grown gs l4 (fun a ha => hdK.below (HL.out.each a (List.mem_filter.1 ha).1) bs)).sl
  · rw [h] at ck
    rw [h, if_neg (by decide), if_neg (by decide)]
    clear h
    go_enter Try.func25, Try.ntmps25
    go_wp2_with (go_at_call 15; refine ck.out.mono ?_; rintro e w1 ⟨rfl, hb1⟩; have HB1 := Lib.hid (below_from hb1 B0.out B0.out.size); have M4 := N4.out.past hb1; have c8 := M4.cell; have f8 := M4.free; have l8 := M4.lt; clear hb1)
    refine bodyPost_ret (v := .agg #[.int .i64 0, .slice none 0 0]) (by simp [results, Try.results25, go_sem, c8, l8]) rfl (CRes.nil rfl ?_)
    have B1 := HB1.out
    repeat (first | with_reducible exact B1 | (refine Below.setCell ?_ (by simp <;> omega) _) | (refine Below.alloc ?_ (by simp <;> omega) _))

end Go.Proofs.Ythjohjijcgiogaa
