/- QuotaBound: for every rate, time, and lists of numbers the law answers true, and each argument reads as it did. No condition. -/
import Derived.Test.YthmnojlenaddeaaBoundOpen
import Derived.Test.YthmnojlenaddeaaBound
namespace Go.Proofs.Ythmnojlenaddeaa
open Go.ChangeShapes Go.WideShapes Go.ChangeAt Go.RowKit Q

theorem bound_any (who : ByteArray) (rate burst now : Int) (A1 : Option Addr) (n1 c1 : Nat) (zs1 : List Int) (A2 : Option Addr) (n2 c2 : Nat) (zs2 : List Int) (w : World) (i1 : IntsAt w A1 n1 zs1) (i2 : IntsAt w A2 n2 zs2) :
    Calls Try.prog 5 #[.agg #[.string who, .int .i64 rate, .int .i64 burst], .int .i64 now, .slice A1 n1 c1, .slice A2 n2 c2] w fun e w' => e = .returned (.bool true) ∧ Below w.heap.size w w' := by
  by_cases h : newE who.size rate burst now = 0
  · by_cases h2 : n2 ≤ 60
    · by_cases h1 : n1 ≤ 60
      · exact bound_run who rate burst now A1 n1 c1 zs1 A2 n2 c2 zs2 w h h2 h1 i1 i2
      · exact bound_long1 who rate burst now A1 n1 c1 zs1 A2 n2 c2 zs2 w h h2 (by omega)
    · exact bound_long2 who rate burst now A1 n1 c1 zs1 A2 n2 c2 zs2 w h (by omega)
  · exact bound_err who rate burst now A1 n1 c1 zs1 A2 n2 c2 zs2 w h

set_option maxRecDepth 100000 in
theorem quotaBound_lifted (os : Os) (started : os.Started) (H : Type) (enc : TypeId × Value → H) :
    ReturnsInHanded {} Try.checked os 5 .any (Rows.quotaBoundSpec.pre6 enc Try.prog Try.f5 Rows.quotaBoundRow.domain false) (Rows.quotaBoundSpec.post enc Try.prog Try.f5 false true false false) := by
  refine returnsInHanded_of_change (C := Try.checked) Try.own started (by kernel_rfl) Try.func5
    (ChangeSpec.witness6 (enc := enc) (C := Try.checked) false ⟨#[], #[.agg #[.string ⟨#[]⟩, .int .i64 0, .int .i64 0], .int .i64 0, .slice none 0 0, .slice none 0 0], []⟩ 8 (by kernel_rfl) (by kernel_rfl) (by kernel_rfl) (by kernel_rfl)) ?_
  intro W base args ds gs before hval0 hW hcnd _
  have hval : ∀ (j : Nat) t v, Try.f5.params[j]? = some t → args[j]? = some v → Value.okWide Try.prog W .any base t v := hval0
  have hW' := hW
  obtain ⟨p, q, hA0, hV, rfl, hfz, hnd⟩ := hW
  have hA : DataW.TrodAll enc Try.prog W 0 (fun _ => true) true Try.f5.params.toList args.toList ds p := hA0
  rw [Try.params5] at hA hval
  obtain ⟨v0, v1, v2, v3, d0, d1, d2, d3, p0, p1, p2, p3, rfl, rfl, rfl, h0, h1, h2, h3⟩ := trodAll_four hA
  obtain ⟨rfl, rfl⟩ := trodVars_none hV
  obtain ⟨who, rate, burst, rfl⟩ := open_rate (hval 0 25 v0 rfl rfl) h0
  obtain ⟨now, rfl, _⟩ := open_num (hval 1 3 v1 rfl rfl) h1
  obtain ⟨A1, n1, c1, zs1, rfl, i1⟩ := open_nums (hval 2 37 v2 rfl rfl) h2
  obtain ⟨A2, n2, c2, zs2, rfl, i2⟩ := open_nums (hval 3 37 v3 rfl rfl) h3
  refine (bound_any who rate burst now A1 n1 c1 zs1 A2 n2 c2 zs2 W i1 i2).mono fun e W' ⟨he, hb⟩ => ?_
  subst he
  exact ⟨_, rfl, law_post Try.laidOut (by kernel_rfl) (by kernel_rfl) Try.underlying4 rfl rfl hW' hb⟩

theorem quotaBound_holds : Rows.QuotaBoundSaid :=
  OpenClaim.holds_of_wide 5 Try.f5 rfl rfl rfl rfl rfl rfl rfl ⟨rfl, rfl, rfl, rfl, rfl⟩ rfl rfl rfl rfl rfl (by kernel_rfl) Try.func5 (by kernel_rfl)
    (of_decide_eq_true (by kernel_rfl)) (by unfold Func.isWrapper; first | (rw [if_pos (by decide +kernel)]; kernel_rfl) | (rw [if_neg (by decide +kernel)]; exact ⟨rfl, rfl⟩))
    (fun os started H enc _ => quotaBound_lifted os started H enc)

end Go.Proofs.Ythmnojlenaddeaa
