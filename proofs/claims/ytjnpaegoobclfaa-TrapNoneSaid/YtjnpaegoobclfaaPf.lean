/-
  'sallyportlaw16.TrapNone' answers true at every input; no condition.
-/
import Derived.Test.YtjnpaegoobclfaaLe
set_option linter.unusedVariables false
namespace Go.Proofs.Ytjnpaegoobclfaa
open Go Go.Ev PV

theorem Try.own : ownKnob Try.prog.godebug = none := by kernel_rfl

theorem trapNone_lifted (os : Os) (started : os.Started) (H : Type) (enc : TypeId × Value → H) :
    ReturnsInHanded {} Try.checked os 8 .any (Rows.trapNoneSpec.pre6 enc Try.prog Try.f8 Rows.trapNoneRow.domain false) (Rows.trapNoneSpec.post enc Try.prog Try.f8 false true false false) := by
  refine returnsInHanded_of_change (C := Try.checked) Try.own started (by kernel_rfl) Try.func8
    (ChangeSpec.witness6 (enc := enc) (C := Try.checked) false ⟨#[], #[.agg (Array.replicate 32 (.int .u64 0) ++ #[.int .u64 0, .int .i64 0, .bool false] ++ Array.replicate 29 (.int .u64 0) ++ #[.int .u64 0]), .agg #[.int .u64 0, .int .u64 0, .int .u64 0, .bool false], .int .i64 0], []⟩ 8
      (by kernel_rfl) (by kernel_rfl) (by kernel_rfl) (by kernel_rfl)) ?_
  intro W base args ds gs before hval hW _ _
  refine plain_contract (P := Try.prog) sallyportlaw16_TrapNoneP (c := (Try.f8.body).getD .skip) (by kernel_rfl) (d := 8) (by kernel_rfl) (tb := 4) (by kernel_rfl) Try.underlying4 (by kernel_rfl) ?_
    (law_row sallyportlaw16_TrapNoneO fun g hg => ?_) W args ds gs before hval hW
  · intro ds hds
    match ds, hds with
    | [_, _, _], _ => rfl
  · show AV.bl _ = AV.bl true
    rw [trapNone_true]

theorem trapNone_holds : Rows.TrapNoneSaid :=
  OpenClaim.holds_of_wide 8 Try.f8 rfl rfl rfl rfl rfl rfl rfl ⟨rfl, rfl, rfl, rfl, rfl⟩ rfl rfl rfl rfl rfl (by kernel_rfl) Try.func8 (by kernel_rfl)
    (of_decide_eq_true (by kernel_rfl)) (by unfold Func.isWrapper; first | (rw [if_pos (by decide +kernel)]; kernel_rfl) | (rw [if_neg (by decide +kernel)]; exact ⟨rfl, rfl⟩))
    (fun os started H enc _ => trapNone_lifted os started H enc)


end Go.Proofs.Ytjnpaegoobclfaa
