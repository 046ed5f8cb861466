/- CacheUse of layer 16: the walk of what is not looked at, and what its loop needs. -/
import Derived.Test.YthjohjijcgiogaaLeastP
import Derived.Test.YthjohjijcgiogaaDrop
namespace Go.Proofs.Ythjohjijcgiogaa
open Go.RowKit


set_option maxHeartbeats 4000000 in
set_option maxRecDepth 100000 in
theorem use_out (cap : Int) (A : Option Addr) (n c : Nat) (l : List Hd) (name : ByteArray) (no : Int) (w : World) (hl : Hds w A n c l) (ho : fewC (l.map Hd.val) = false ∨ checkC cap (l.map Hd.val) = 1) :
    Calls Try.prog 8 #[.agg #[.int .i64 cap, .slice A n c], .string name, .int .i64 no] w fun e w' => e = .returned (.bool true) ∧ Below w.heap.size w w' := by
  have B0 := Lib.hid (below_alloc1 w (.cells #[.int .i64 cap, .slice A n c] 24))
  have N2 := Lib.hid (Has.newAt w #[.int .i64 cap, .slice A n c] 24 (g := w.heap.size) rfl)
  have FW := Lib.hid (fun w' (hb : Below w.heap.size w w') => few_any cap A n c l w' (hl.below hb))
  cases hf : fewC (l.map Hd.val) with
  | false =>
    rw [hf] at FW
    clear hl hf ho
    go_enter Try.func8, Try.ntmps8
    go_wp2_with (first | (go_at_call 11; refine (live_any _).mono ?_; rintro e w1 ⟨rfl, hb1⟩; have HB1 := Lib.hid (below_from hb1 B0.out B0.out.size); have M2 := Lib.hid (N2.out.past hb1); have c2 := M2.out.cell; have m2 := M2.out.lt; clear hb1) | (go_at_call 12; refine (FW.out _ HB1.out).mono ?_; rintro e w2 ⟨rfl, hb2⟩; have HB2 := Lib.hid (below_from hb2 HB1.out HB1.out.size); have M3 := Lib.hid (M2.out.past hb2); clear hb2 c2 m2; have c3 := M3.out.cell; have m3 := M3.out.lt))
    go_ret
    exact ⟨rfl, HB2.out⟩
  | true =>
    rw [hf] at FW ho
    have hn := (few_le hl hf).1
    have h1 : checkC cap (l.map Hd.val) = 1 := by rcases ho with h | h; cases h; exact h
    have CK := Lib.hid (fun w' (hb : Below w.heap.size w w') => check_any cap A n c l w' (hl.below hb) (by omega))
    rw [h1] at CK
    clear hl hf ho h1
    go_enter Try.func8, Try.ntmps8
    go_wp2_with (first | (go_at_call 11; refine (live_any _).mono ?_; rintro e w1 ⟨rfl, hb1⟩; have HB1 := Lib.hid (below_from hb1 B0.out B0.out.size); have M2 := Lib.hid (N2.out.past hb1); have c2 := M2.out.cell; have m2 := M2.out.lt; clear hb1) | (go_at_call 12; refine (FW.out _ HB1.out).mono ?_; rintro e w2 ⟨rfl, hb2⟩; have HB2 := Lib.hid (below_from hb2 HB1.out HB1.out.size); have M3 := Lib.hid (M2.out.past hb2); clear hb2 c2 m2; have c3 := M3.out.cell; have m3 := M3.out.lt) | (go_at_call 15; refine (CK.out _ HB2.out).mono ?_; rintro e w3 ⟨rfl, hb3⟩; have HB3 := Lib.hid (below_from hb3 HB2.out HB2.out.size); have M4 := Lib.hid (M3.out.past hb3); clear hb3 c3 m3; have c4 := M4.out.cell; have m4 := M4.out.lt))
    go_ret
    exact ⟨rfl, HB3.out⟩

/-- What the first of a cache's chunks is, where there is one. -/
theorem first_at {w : World} {A : Option Addr} {n c : Nat} {l : List Hd} {x : Ch} {r : List Ch} (h : Hds w A n c l) (hv : l.map Hd.val = x :: r) :
    ∃ k, n = k + 1 ∧ ∃ b off, A = some ⟨b, off, none⟩ ∧ ∀ w', Below w.heap.size w w' → w'.cell? ⟨b, off, none⟩ = some (.string x.name) ∧ w'.cell? ⟨b, off + 1, none⟩ = some (.int .i64 x.no) := by
  obtain ⟨xn, xo, xb⟩ := x
  exact first_of h hv

/-- A kept one's place. -/
theorem filter_place {α : Type} {p : α → Bool} {l : List α} {k : Nat} (hk : k < l.length) (hp : p l[k] = true) : (l.filter p)[((l.take k).filter p).length]? = some l[k] := by
  have e : l.filter p = (l.take k).filter p ++ (l[k] :: (l.drop (k + 1)).filter p) := by
    conv => lhs; rw [← List.take_append_drop k l, ← List.getElem_cons_drop hk, List.filter_append, List.filter_cons_of_pos hp]
  rw [e]
  simp

/-- One chunk in a slice of its own. -/
theorem hds_one {w : World} {g : Nat} {y : Hd} (h : Has w g #[.string y.name, .int .i64 y.no, .slice y.A y.n y.c]) (hi : Hd.In w y) : Hds w (some ⟨g, 0, none⟩) 1 1 [y] :=
  ⟨rfl, Nat.le_refl _, by omega, (fun h => by cases h), by
    have := Row.of_has h
    rw [List.flatMap_cons, List.flatMap_nil, List.append_nil]
    exact this, fun a ha => by rw [List.mem_singleton.1 ha]; exact hi⟩

end Go.Proofs.Ythjohjijcgiogaa
