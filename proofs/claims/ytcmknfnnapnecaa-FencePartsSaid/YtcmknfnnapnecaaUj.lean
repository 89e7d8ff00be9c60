/-
  The check of known entries, evaluated. Printed by a program of the prover's own (wip/prt).
-/
import Derived.Test.YtcmknfnnapnecaaRows
import Derived.Test.YtcmknfnnapnecaaEvW
import Derived.Test.YtcmknfnnapnecaaUi
set_option linter.unusedVariables false
set_option linter.unusedSimpArgs false
namespace Go.Proofs.Ytcmknfnnapnecaa.PV
noncomputable section
open Go Go.Ev
/- known -/
def knownG  : Bool :=
  true
def knownV  : AV := .tup [.it .i64 0, .bl true]
theorem knownE (g : Nat → AV) : evFn Try.prog okT NPC (HH2 MTf MT2) RO NOV 101 false Try.f10 [] Mem.empty (finQ L0) = some (knownG , knownV ) := by kernel_rfl
theorem knownT  : knownG  = true := rfl

end
end Go.Proofs.Ytcmknfnnapnecaa.PV
