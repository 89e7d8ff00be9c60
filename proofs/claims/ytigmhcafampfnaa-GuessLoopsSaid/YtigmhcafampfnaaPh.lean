/-
  'sallyportlaw20.GuessLoops' answers true at every input; no condition.
-/
import Derived.Test.YtigmhcafampfnaaLc
set_option linter.unusedVariables false
set_option maxRecDepth 100000
namespace Go.Proofs.Ytigmhcafampfnaa
open Go Go.Ev PV

theorem Try.own : ownKnob Try.prog.godebug = none := by kernel_rfl

theorem guessLoops_lifted (os : Os) (started : os.Started) (H : Type) (enc : TypeId × Value → H) :
    ReturnsInHanded {} Try.checked os 5 .any (Rows.guessLoopsSpec.pre6 enc Try.prog Try.f5 Rows.guessLoopsRow.domain false) (Rows.guessLoopsSpec.post enc Try.prog Try.f5 false true false false) := by
  refine returnsInHanded_of_change (C := Try.checked) Try.own started (by kernel_rfl) Try.func5
    (ChangeSpec.witness6 (enc := enc) (C := Try.checked) false ⟨#[], #[.int .u64 0, .int .u16 0, .int .u8 0], []⟩ 8
      (by kernel_rfl) (by kernel_rfl) (by kernel_rfl) (by kernel_rfl)) ?_
  intro W base args ds gs before hval hW _ _
  refine plain_contract (P := Try.prog) sallyportlaw20_GuessLoopsP (c := (Try.f5.body).getD .skip) (by kernel_rfl) (d := 8) (by kernel_rfl) (tb := 4) (by kernel_rfl) Try.underlying4 (by kernel_rfl) ?_
    (law_row sallyportlaw20_GuessLoopsO fun g hg => ?_) W args ds gs before hval hW
  · intro ds hds
    match ds, hds with
    | [_, _, _], _ => rfl
  · show AV.bl _ = AV.bl true
    rw [guessLoops_true (inR_u64 hg.2.2.1) (inR_u16 hg.2.2.2.1) (inR_u8 hg.2.2.2.2.1)]

theorem guessLoops_holds : Rows.GuessLoopsSaid :=
  OpenClaim.holds_of_wide 5 Try.f5 rfl rfl rfl rfl rfl rfl rfl ⟨rfl, rfl, rfl, rfl, rfl⟩ rfl rfl rfl rfl rfl (by kernel_rfl) Try.func5 (by kernel_rfl)
    (of_decide_eq_true (by kernel_rfl)) (by unfold Func.isWrapper; first | (rw [if_pos (by decide +kernel)]; kernel_rfl) | (rw [if_neg (by decide +kernel)]; exact ⟨rfl, rfl⟩))
    (fun os started H enc _ => guessLoops_lifted os started H enc)


end Go.Proofs.Ytigmhcafampfnaa
