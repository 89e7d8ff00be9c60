/-
  'sallyportlaw9.LegalReads' answers true at every input; no condition.
-/
import Derived.Test.YtdfafnelmpflgaaLj
set_option linter.unusedVariables false
namespace Go.Proofs.Ytdfafnelmpflgaa
open Go Go.Ev PV

theorem Try.own : ownKnob Try.prog.godebug = none := by kernel_rfl

theorem legalReads_lifted (os : Os) (started : os.Started) (H : Type) (enc : TypeId × Value → H) :
    ReturnsInHanded {} Try.checked os 13 .any (Rows.legalReadsSpec.pre6 enc Try.prog Try.f13 Rows.legalReadsRow.domain false) (Rows.legalReadsSpec.post enc Try.prog Try.f13 false true false false) := by
  refine returnsInHanded_of_change (C := Try.checked) Try.own started (by kernel_rfl) Try.func13
    (ChangeSpec.witness6 (enc := enc) (C := Try.checked) false ⟨#[], #[.agg (Array.replicate 32 (.int .u64 0) ++ #[.int .u64 0, .int .i64 0, .bool false] ++ Array.replicate 29 (.int .u64 0) ++ #[.int .u64 0]), .int .u8 0, .int .u16 0, .int .u8 0], []⟩ 8
      (by kernel_rfl) (by kernel_rfl) (by kernel_rfl) (by kernel_rfl)) ?_
  intro W base args ds gs before hval hW _ _
  refine plain_contract (P := Try.prog) sallyportlaw9_LegalReadsP (c := (Try.f13.body).getD .skip) (by kernel_rfl) (d := 8) (by kernel_rfl) (tb := 4) (by kernel_rfl) Try.underlying4 (by kernel_rfl) ?_
    (law_row_if sallyportlaw9_LegalReadsO fun g hg => ?_) W args ds gs before hval hW
  · intro ds hds
    match ds, hds with
    | [_, _, _, _], _ => rfl
  · refine ⟨legalReads_guard _ _ _ _ _ _ _ _ _, ?_⟩
    show AV.bl _ = AV.bl true
    rw [legalReads_true _ _ _ _ _ _ _ _ _ (inR_u8 hg.2.2.2.1) (inR_u16 hg.2.2.2.2.1) (inR_u8 hg.2.2.2.2.2.1)]

theorem legalReads_holds : Rows.LegalReadsSaid :=
  OpenClaim.holds_of_wide 13 Try.f13 rfl rfl rfl rfl rfl rfl rfl ⟨rfl, rfl, rfl, rfl, rfl⟩ rfl rfl rfl rfl rfl (by kernel_rfl) Try.func13 (by kernel_rfl)
    (of_decide_eq_true (by kernel_rfl)) (by unfold Func.isWrapper; first | (rw [if_pos (by decide +kernel)]; kernel_rfl) | (rw [if_neg (by decide +kernel)]; exact ⟨rfl, rfl⟩))
    (fun os started H enc _ => legalReads_lifted os started H enc)


end Go.Proofs.Ytdfafnelmpflgaa
