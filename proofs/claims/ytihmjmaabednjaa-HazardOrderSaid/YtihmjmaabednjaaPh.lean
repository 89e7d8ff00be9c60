/-
  HazardOrder as it is stated.
-/
import Derived.Test.YtihmjmaabednjaaOd
set_option linter.unusedVariables false
set_option maxRecDepth 100000
namespace Go.Proofs.Ytihmjmaabednjaa
open Go Go.Ev PV

theorem Try.own : ownKnob Try.prog.godebug = none := by kernel_rfl
theorem Try.lay : laidOutB Try.prog = true := by kernel_rfl

theorem hazardOrder_lifted (os : Os) (started : os.Started) (H : Type) (enc : TypeId × Value → H) :
    ReturnsInHanded {} Try.checked os 4 .any (Rows.hazardOrderSpec.pre6 enc Try.prog Try.f4 Rows.hazardOrderRow.domain false) (Rows.hazardOrderSpec.post enc Try.prog Try.f4 false true false false) := by
  refine returnsInHanded_of_change (C := Try.checked) Try.own started (by kernel_rfl) Try.func4
    (ChangeSpec.witness6 (enc := enc) (C := Try.checked) false ⟨#[], #[.slice none 0 0], []⟩ 8
      (by kernel_rfl) (by kernel_rfl) (by kernel_rfl) (by kernel_rfl)) ?_
  intro W base args ds gs before hval hW _ _
  refine mem_contract (P := Try.prog) (f := 4) ⟨Try.func4, of_decide_eq_true (by kernel_rfl)⟩ (c := (Try.f4.body).getD .skip) (by kernel_rfl) (d := 8) (by kernel_rfl) (tb := 4) (by kernel_rfl) Try.underlying4 (by kernel_rfl) ?_
    Try.lay (of_decide_eq_true (by kernel_rfl)) ho_law W args ds gs before hval hW
  intro ds hds
  match ds, hds with
  | [_], _ => rfl

theorem hazardOrder_holds : Rows.HazardOrderSaid :=
  OpenClaim.holds_of_wide 4 Try.f4 rfl rfl rfl rfl rfl rfl rfl ⟨rfl, rfl, rfl, rfl, rfl⟩ rfl rfl rfl rfl rfl (by kernel_rfl) Try.func4 (by kernel_rfl)
    (of_decide_eq_true (by kernel_rfl)) (by unfold Func.isWrapper; first | (rw [if_pos (by decide +kernel)]; kernel_rfl) | (rw [if_neg (by decide +kernel)]; exact ⟨rfl, rfl⟩))
    (fun os started H enc _ => hazardOrder_lifted os started H enc)

end Go.Proofs.Ytihmjmaabednjaa
