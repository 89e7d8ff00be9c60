/-
  'sallyportlaw9.LegalMore' answers true at every input; no condition.
-/
import Derived.Test.YtdfafnelmpflgaaLj
set_option linter.unusedVariables false
namespace Go.Proofs.Ytdfafnelmpflgaa
open Go Go.Ev PV

theorem Try.own : ownKnob Try.prog.godebug = none := by kernel_rfl

theorem legalMore_lifted (os : Os) (started : os.Started) (H : Type) (enc : TypeId × Value → H) :
    ReturnsInHanded {} Try.checked os 10 .any (Rows.legalMoreSpec.pre6 enc Try.prog Try.f10 Rows.legalMoreRow.domain false) (Rows.legalMoreSpec.post enc Try.prog Try.f10 false true false false) := by
  refine returnsInHanded_of_change (C := Try.checked) Try.own started (by kernel_rfl) Try.func10
    (ChangeSpec.witness6 (enc := enc) (C := Try.checked) false ⟨#[], #[.agg (Array.replicate 32 (.int .u64 0) ++ #[.int .u64 0, .int .i64 0, .bool false] ++ Array.replicate 29 (.int .u64 0) ++ #[.int .u64 0]), .int .i64 0], []⟩ 8
      (by kernel_rfl) (by kernel_rfl) (by kernel_rfl) (by kernel_rfl)) ?_
  intro W base args ds gs before hval hW _ _
  refine plain_contract (P := Try.prog) sallyportlaw9_LegalMoreP (c := (Try.f10.body).getD .skip) (by kernel_rfl) (d := 8) (by kernel_rfl) (tb := 4) (by kernel_rfl) Try.underlying4 (by kernel_rfl) ?_
    (law_row_if sallyportlaw9_LegalMoreO fun g hg => ?_) W args ds gs before hval hW
  · intro ds hds
    match ds, hds with
    | [_, _], _ => rfl
  · refine ⟨legalMore_guard _ _ _ _ _ _ _, ?_⟩
    show AV.bl _ = AV.bl true
    rw [legalMore_true]

theorem legalMore_holds : Rows.LegalMoreSaid :=
  OpenClaim.holds_of_wide 10 Try.f10 rfl rfl rfl rfl rfl rfl rfl ⟨rfl, rfl, rfl, rfl, rfl⟩ rfl rfl rfl rfl rfl (by kernel_rfl) Try.func10 (by kernel_rfl)
    (of_decide_eq_true (by kernel_rfl)) (by unfold Func.isWrapper; first | (rw [if_pos (by decide +kernel)]; kernel_rfl) | (rw [if_neg (by decide +kernel)]; exact ⟨rfl, rfl⟩))
    (fun os started H enc _ => legalMore_lifted os started H enc)


end Go.Proofs.Ytdfafnelmpflgaa
