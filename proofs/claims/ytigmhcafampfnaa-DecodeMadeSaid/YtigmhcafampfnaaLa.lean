/-
  The plain law DecodeMade, of the printed functions.
-/
import Derived.Test.YtigmhcafampfnaaHg
import Derived.Test.YtigmhcafampfnaaGb
set_option linter.unusedVariables false
namespace Go.Proofs.Ytigmhcafampfnaa.PV
open Go Go.Ev

theorem decodeMade_true (op rd rs1 rs2 imm csr : Int) : sallyportlaw3_DecodeMade0 op rd rs1 rs2 imm csr = true := by
  unfold sallyportlaw3_DecodeMade0 sallyportref3_Encode1
  cases h : sallyportref3_Is0 op rd rs1 rs2 imm csr with
  | false => rfl
  | true =>
    obtain ⟨h0, h1, h2, h3, h4, h5, h6⟩ := dec_made h rfl
    rw [h0, h1, h2, h3, h4, h5, h6]
    simp [iEq_self]
end Go.Proofs.Ytigmhcafampfnaa.PV
