/- cacheCuts, where what comes in is of bulk at most 1048576: the law answers true, and each argument reads as it did. -/
import Derived.Test.YthjohjijcgiogaaFrame
import Derived.Test.YthjohjijcgiogaaUpt
import Derived.Test.YthjohjijcgiogaaCutsL
namespace Go.Proofs.Ythjohjijcgiogaa
open Go.ChangeShapes Go.WideShapes Go.ChangeAt Go.RowKit

theorem opens_bslU {H : Type} {enc : TypeId × Value → H} : OpensU enc Try.prog bslK 34 (fun x => x.n) := by
  intro w base spare held fuel cs d ps h hw
  have c5 : Try.prog.cellsOf 5 = 1 := by kernel_rfl
  have one : ∃ v, cs = [v] := by
    rcases DataW.trod_slice Try.underlying34 h with ⟨e, _⟩ | ⟨a, len, cap, elems, rest, n, _, e, _⟩
    · exact ⟨_, e⟩
    · exact ⟨_, e⟩
  obtain ⟨v, rfl⟩ := one
  obtain ⟨A, n, c, l, rfl, hs, hn⟩ := opens_bytesU Try.underlying5 c5 Try.underlying34 h hw
  exact ⟨⟨A, n, c, l⟩, rfl, ⟨hs, by show n ≤ _; omega⟩, hn⟩
theorem flat_sum {w : World} {l : List Bsl} (h : ∀ x ∈ l, Bsl.In w x) : (l.map Bsl.bs).flatten.length = (l.map fun x => x.n).sum := by
  rw [List.length_flatten, List.map_map]
  congr 1
  exact List.map_congr_left fun x hx => (h x hx).sl.len

set_option maxRecDepth 100000 in
theorem cacheCuts_lifted (os : Os) (started : os.Started) (H : Type) (enc : TypeId × Value → H) (F0 : Stop.Interp) :
    ReturnsInHanded {} Try.checked os 9 .any ((Rows.OpenSpec.upto Rows.cacheCutsSpec).pre6 enc Try.prog Try.f9 Rows.cacheCutsUptoRow.domain false) (((Rows.OpenSpec.upto Rows.cacheCutsSpec).at F0).post enc Try.prog Try.f9 false true false false) := by
  refine returnsInHanded_of_cond (C := Try.checked) (s := Rows.OpenSpec.upto Rows.cacheCutsSpec) (k := Rows.uptoSmall) rfl Try.own started (by kernel_rfl) Try.func9
    (OpenSpec.witness (enc := enc) (C := Try.checked) (s := Rows.OpenSpec.upto Rows.cacheCutsSpec) (k := Rows.uptoSmall) rfl false ⟨#[], #[.slice none 0 0, .int .i64 0, .slice none 0 0], []⟩ 8 (by kernel_rfl) (by kernel_rfl) (by kernel_rfl)
      (x := ([.nil, .lit (.int .i64 0), .nil], [], [])) (by kernel_rfl) (by kernel_rfl) (by kernel_rfl)) ?_
  intro W base args ds gs before hval0 hW _ hk _
  have hval : ∀ (j : Nat) t v, Try.f9.params[j]? = some t → args[j]? = some v → Value.okWide Try.prog W .any base t v := hval0
  have hW' := hW
  obtain ⟨p, q, hA0, hV, rfl, hfz, hnd⟩ := hW
  have hA : DataW.TrodAll enc Try.prog W 0 (fun _ => true) true Try.f9.params.toList args.toList ds p := hA0
  rw [Try.params9] at hA hval
  obtain ⟨v0, v1, v2, d0, d1, d2, p0, p1, p2, rfl, rfl, rfl, h0, h1, h2⟩ := trodAll_three hA
  obtain ⟨rfl, rfl⟩ := trodVars_none hV
  have hbk : Rows.uptoBulk d0 + (Rows.uptoBulk d1 + (Rows.uptoBulk d2 + 0)) ≤ 1048576 := of_decide_eq_true hk
  have c5 : Try.prog.cellsOf 5 = 1 := by kernel_rfl
  have c34 : Try.prog.cellsOf 34 = 1 := by kernel_rfl
  obtain ⟨A0, n0, c0, rfl⟩ := okWide_slice Try.underlying34 (hval 0 34 v0 rfl rfl)
  obtain ⟨A2, n2, c2, rfl⟩ := okWide_slice Try.underlying48 (hval 2 48 v2 rfl rfl)
  obtain ⟨m1, rfl, _, _, wm1⟩ := open_int Try.underlying3 (hval 1 3 v1 rfl rfl) h1
  obtain ⟨f0, g0⟩ := h0
  obtain ⟨f2, g2⟩ := h2
  obtain ⟨A, n, c, bs, e0, hs0, hn0⟩ := opens_bytesU Try.underlying5 c5 Try.underlying34 g0 (by omega)
  obtain ⟨A', n', c', l, e2, hs2, hn2⟩ := opens_sliceU opens_bslU Try.underlying48 c34 g2 (by omega)
  injection e0 with e01 e02 e03
  subst e01 e02 e03
  injection e2 with e21 e22 e23
  subst e21 e22 e23
  refine (cutslaw_any A0 n0 c0 bs m1 A2 n2 c2 l W hs0 hs2 wm1 (fun _ => by rw [flat_sum hs2.each]; omega)).mono fun e W' ⟨he, hb⟩ => ?_
  subst he
  exact ⟨_, rfl, law_post Try.laidOut (by kernel_rfl) (by kernel_rfl) Try.underlying4 rfl rfl hW' hb⟩

theorem cacheCutsUpto_holds : Rows.CacheCutsUptoSaid :=
  OpenClaim.holds_of_cond 9 Try.f9 rfl rfl rfl rfl rfl rfl rfl ⟨rfl, rfl, rfl, rfl, rfl⟩ rfl rfl rfl rfl rfl (by kernel_rfl) Try.func9 (by kernel_rfl)
    (of_decide_eq_true (by kernel_rfl)) (by unfold Func.isWrapper; first | (rw [if_pos (by decide +kernel)]; kernel_rfl) | (rw [if_neg (by decide +kernel)]; exact ⟨rfl, rfl⟩))
    (fun os started H enc _ F0 => cacheCuts_lifted os started H enc F0)

end Go.Proofs.Ythjohjijcgiogaa
