/-
  'sallyportlaw3.DecodeTells' answers true at every input; no condition.
-/
import Derived.Test.YtigmhcafampfnaaLb
set_option linter.unusedVariables false
set_option maxRecDepth 100000
namespace Go.Proofs.Ytigmhcafampfnaa
open Go Go.Ev PV

theorem Try.own : ownKnob Try.prog.godebug = none := by kernel_rfl

theorem decodeTells_lifted (os : Os) (started : os.Started) (H : Type) (enc : TypeId × Value → H) :
    ReturnsInHanded {} Try.checked os 6 .any (Rows.decodeTellsSpec.pre6 enc Try.prog Try.f6 Rows.decodeTellsRow.domain false) (Rows.decodeTellsSpec.post enc Try.prog Try.f6 false true false false) := by
  refine returnsInHanded_of_change (C := Try.checked) Try.own started (by kernel_rfl) Try.func6
    (ChangeSpec.witness6 (enc := enc) (C := Try.checked) false ⟨#[], #[.int .u32 0, .int .i64 0], []⟩ 8
      (by kernel_rfl) (by kernel_rfl) (by kernel_rfl) (by kernel_rfl)) ?_
  intro W base args ds gs before hval hW _ _
  refine plain_contract (P := Try.prog) sallyportlaw3_DecodeTellsP (c := (Try.f6.body).getD .skip) (by kernel_rfl) (d := 8) (by kernel_rfl) (tb := 4) (by kernel_rfl) Try.underlying4 (by kernel_rfl) ?_
    (law_row sallyportlaw3_DecodeTellsO fun g hg => ?_) W args ds gs before hval hW
  · intro ds hds
    match ds, hds with
    | [_, _], _ => rfl
  · show AV.bl _ = AV.bl true
    rw [decodeTells_true (inR_u32 hg.2.2.1)]

theorem decodeTells_holds : Rows.DecodeTellsSaid :=
  OpenClaim.holds_of_wide 6 Try.f6 rfl rfl rfl rfl rfl rfl rfl ⟨rfl, rfl, rfl, rfl, rfl⟩ rfl rfl rfl rfl rfl (by kernel_rfl) Try.func6 (by kernel_rfl)
    (of_decide_eq_true (by kernel_rfl)) (by unfold Func.isWrapper; first | (rw [if_pos (by decide +kernel)]; kernel_rfl) | (rw [if_neg (by decide +kernel)]; exact ⟨rfl, rfl⟩))
    (fun os started H enc _ => decodeTells_lifted os started H enc)


end Go.Proofs.Ytigmhcafampfnaa
