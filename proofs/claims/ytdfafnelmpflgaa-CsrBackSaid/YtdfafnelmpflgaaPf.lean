/-
  'sallyportlaw8.CsrBack' answers true at every input; no condition.
-/
import Derived.Test.YtdfafnelmpflgaaLf
set_option linter.unusedVariables false
namespace Go.Proofs.Ytdfafnelmpflgaa
open Go Go.Ev PV

theorem Try.own : ownKnob Try.prog.godebug = none := by kernel_rfl

theorem csrBack_lifted (os : Os) (started : os.Started) (H : Type) (enc : TypeId × Value → H) :
    ReturnsInHanded {} Try.checked os 4 .any (Rows.csrBackSpec.pre6 enc Try.prog Try.f4 Rows.csrBackRow.domain false) (Rows.csrBackSpec.post enc Try.prog Try.f4 false true false false) := by
  refine returnsInHanded_of_change (C := Try.checked) Try.own started (by kernel_rfl) Try.func4
    (ChangeSpec.witness6 (enc := enc) (C := Try.checked) false ⟨#[], #[.agg (Array.replicate 32 (.int .u64 0) ++ #[.int .u64 0, .int .i64 0, .bool false] ++ Array.replicate 29 (.int .u64 0) ++ #[.int .u64 0]), .int .u8 0, .int .u64 0], []⟩ 8
      (by kernel_rfl) (by kernel_rfl) (by kernel_rfl) (by kernel_rfl)) ?_
  intro W base args ds gs before hval hW _ _
  refine plain_contract (P := Try.prog) sallyportlaw8_CsrBackP (c := (Try.f4.body).getD .skip) (by kernel_rfl) (d := 8) (by kernel_rfl) (tb := 4) (by kernel_rfl) Try.underlying4 (by kernel_rfl) ?_
    (law_row_if sallyportlaw8_CsrBackO fun g hg => ?_) W args ds gs before hval hW
  · intro ds hds
    match ds, hds with
    | [_, _, _], _ => rfl
  · refine ⟨(csrBack_true _ _ _ _ _ _ _ _ (inR_u8 hg.2.2.2.1)).1, ?_⟩
    show AV.bl _ = AV.bl true
    rw [(csrBack_true _ _ _ _ _ _ _ _ (inR_u8 hg.2.2.2.1)).2]

theorem csrBack_holds : Rows.CsrBackSaid :=
  OpenClaim.holds_of_wide 4 Try.f4 rfl rfl rfl rfl rfl rfl rfl ⟨rfl, rfl, rfl, rfl, rfl⟩ rfl rfl rfl rfl rfl (by kernel_rfl) Try.func4 (by kernel_rfl)
    (of_decide_eq_true (by kernel_rfl)) (by unfold Func.isWrapper; first | (rw [if_pos (by decide +kernel)]; kernel_rfl) | (rw [if_neg (by decide +kernel)]; exact ⟨rfl, rfl⟩))
    (fun os started H enc _ => csrBack_lifted os started H enc)


end Go.Proofs.Ytdfafnelmpflgaa
