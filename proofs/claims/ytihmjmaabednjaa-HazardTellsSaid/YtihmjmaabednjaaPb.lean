/-
  'sallyportlaw21.HazardTells' answers true at every input; no condition.
-/
import Derived.Test.YtihmjmaabednjaaLa
namespace Go.Proofs.Ytihmjmaabednjaa
open Go Go.Ev PV

theorem Try.own : ownKnob Try.prog.godebug = none := by kernel_rfl

theorem hazardTells_lifted (os : Os) (started : os.Started) (H : Type) (enc : TypeId × Value → H) :
    ReturnsInHanded {} Try.checked os 3 .any (Rows.hazardTellsSpec.pre6 enc Try.prog Try.f3 Rows.hazardTellsRow.domain false) (Rows.hazardTellsSpec.post enc Try.prog Try.f3 false true false false) := by
  refine returnsInHanded_of_change (C := Try.checked) Try.own started (by kernel_rfl) Try.func3
    (ChangeSpec.witness6 (enc := enc) (C := Try.checked) false ⟨#[], #[.agg #[.int .i64 0, .int .i64 0, .int .i64 0, .int .i64 0, .int .i64 0, .int .i64 0], .agg #[.int .i64 0, .int .i64 0, .int .i64 0, .int .i64 0, .int .i64 0, .int .i64 0], .int .i64 0], []⟩ 8
      (by kernel_rfl) (by kernel_rfl) (by kernel_rfl) (by kernel_rfl)) ?_
  intro W base args ds gs before hval hW _ _
  refine plain_contract (P := Try.prog) sallyportlaw21_HazardTellsP (c := (Try.f3.body).getD .skip) (by kernel_rfl) (d := 8) (by kernel_rfl) (tb := 4) (by kernel_rfl) Try.underlying4 (by kernel_rfl) ?_
    (law_row sallyportlaw21_HazardTellsO fun g hg => ?_) W args ds gs before hval hW
  · intro ds hds
    match ds, hds with
    | [_, _, _], _ => rfl
  · show AV.bl _ = AV.bl true
    rw [hazardTells_true]

theorem hazardTells_holds : Rows.HazardTellsSaid :=
  OpenClaim.holds_of_wide 3 Try.f3 rfl rfl rfl rfl rfl rfl rfl ⟨rfl, rfl, rfl, rfl, rfl⟩ rfl rfl rfl rfl rfl (by kernel_rfl) Try.func3 (by kernel_rfl)
    (of_decide_eq_true (by kernel_rfl)) (by unfold Func.isWrapper; first | (rw [if_pos (by decide +kernel)]; kernel_rfl) | (rw [if_neg (by decide +kernel)]; exact ⟨rfl, rfl⟩))
    (fun os started H enc _ => hazardTells_lifted os started H enc)

end Go.Proofs.Ytihmjmaabednjaa
