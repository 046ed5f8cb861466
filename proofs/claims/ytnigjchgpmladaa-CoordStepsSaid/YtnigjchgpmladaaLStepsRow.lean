/- CoordSteps: for any coordinator, and what a producer says the law answers true, and each argument reads as it did. No condition. -/
import Derived.Test.YtnigjchgpmladaaFrame
import Derived.Test.YtnigjchgpmladaaLSteps
namespace Go.Proofs.Ytnigjchgpmladaa
open Go.ChangeShapes Go.WideShapes Go.ChangeAt Go.RowKit

set_option maxRecDepth 100000 in
theorem coordSteps_lifted (os : Os) (started : os.Started) (H : Type) (enc : TypeId × Value → H) :
    ReturnsInHanded {} Try.checked os 6 .any (Rows.coordStepsSpec.pre6 enc Try.prog Try.f6 Rows.coordStepsRow.domain false) (Rows.coordStepsSpec.post enc Try.prog Try.f6 false true false false) := by
  refine returnsInHanded_of_change_sized (C := Try.checked) Try.own started (by kernel_rfl) Try.func6
    (ChangeSpec.witness6 (enc := enc) (C := Try.checked) false ⟨#[], #[.agg #[.int .i64 0, .slice none 0 0], .agg #[.string ⟨#[]⟩, .int .i64 0, .int .i64 0, .string ⟨#[]⟩, .int .i64 0, .int .i64 0, .string ⟨#[]⟩, .bool false, .int .i64 0]], []⟩ 8 (by kernel_rfl) (by kernel_rfl) (by kernel_rfl) (by kernel_rfl)) ?_
  intro W base args ds gs before hval0 hW hcnd hsz _
  have hval : ∀ (j : Nat) t v, Try.f6.params[j]? = some t → args[j]? = some v → Value.okWide Try.prog W .any base t v := hval0
  have hW' := hW
  obtain ⟨p, q, hA0, hV, rfl, hfz, hnd⟩ := hW
  have hA : DataW.TrodAll enc Try.prog W 0 (fun _ => true) true Try.f6.params.toList args.toList ds p := hA0
  rw [Try.params6] at hA hval
  obtain ⟨v0, v1, d0, d1, p0, p1, rfl, rfl, rfl, h0, h1⟩ := trodAll_two hA
  obtain ⟨rfl, rfl⟩ := trodVars_none hV
  have hwt : ∀ (j : Nat) (t : TypeId) (d : DataW H), Try.f6.params.toList[j]? = some t → ([d0, d1] : List (DataW H))[j]? = some d → ∀ n ∈ d.weights Try.prog t, n ≤ reachBytes := fun j t d h1 h2 =>
    weights_param (P := Try.prog) hsz (j := j) (t := t) (d := d) (by rw [List.getElem?_append_left (List.getElem?_eq_some_iff.1 h1).1]; exact h1) (by rw [List.getElem?_append_left (List.getElem?_eq_some_iff.1 h2).1]; exact h2)
  obtain ⟨o0, rfl, ho0⟩ := open_tc (hval 0 24 v0 rfl rfl) h0 (hwt 0 24 d0 rfl rfl)
  obtain ⟨a1, rfl, ha1⟩ := open_ask (hval 1 47 v1 rfl rfl) h1 (hwt 1 47 d1 rfl rfl)
  refine (lsteps_any o0 a1 W ho0 ha1).mono fun e W' ⟨he, hb⟩ => ?_
  subst he
  exact ⟨_, rfl, law_post Try.laidOut (by kernel_rfl) (by kernel_rfl) Try.underlying4 rfl rfl hW' hb⟩

theorem coordSteps_holds : Rows.CoordStepsSaid :=
  OpenClaim.holds_of_wide 6 Try.f6 rfl rfl rfl rfl rfl rfl rfl ⟨rfl, rfl, rfl, rfl, rfl⟩ rfl rfl rfl rfl rfl (by kernel_rfl) Try.func6 (by kernel_rfl)
    (of_decide_eq_true (by kernel_rfl)) (by unfold Func.isWrapper; first | (rw [if_pos (by decide +kernel)]; kernel_rfl) | (rw [if_neg (by decide +kernel)]; exact ⟨rfl, rfl⟩))
    (fun os started H enc _ => coordSteps_lifted os started H enc)

end Go.Proofs.Ytnigjchgpmladaa
