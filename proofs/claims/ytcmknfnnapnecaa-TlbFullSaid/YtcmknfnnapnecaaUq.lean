/-
  TlbFull, evaluated. Printed by a program of the prover's own (wip/prt).
-/
import Derived.Test.YtcmknfnnapnecaaRows
import Derived.Test.YtcmknfnnapnecaaEvW
import Derived.Test.YtcmknfnnapnecaaUp
set_option linter.unusedVariables false
set_option linter.unusedSimpArgs false
namespace Go.Proofs.Ytcmknfnnapnecaa.PV
noncomputable section
open Go Go.Ev
/- full -/
def full_c0 (Q : Ops) (W : FuW) (p : Int) : Bool :=
  !Q.hs
      (Q.fi
        (Q.fi (W.t fun j => { ok := false, v := false, page := 0, asid := 0, vmid := 0, frame := 0, bits := 0, host := 0, guest := 0 })
          { ok := true, v := false, page := 100, asid := 0, vmid := 0, frame := 0, bits := 0, host := 0, guest := 0 } p)
        { ok := false, v := false, page := 50, asid := 0, vmid := 0, frame := 0, bits := 0, host := 0, guest := 0 } 0)
      50 false 0 0
def full0 (Q : Ops) (W : FuW) (p : Int) : Bool :=
  full_c0 Q W p
def full0r (Q : Ops) (W : FuW) (p : Int) : Bool :=
  bif full_c0 Q W p then true else false
def fullG (Q : Ops) (W : FuW) (p : Int) : Bool :=
  iEq 0 0 &&
    ((Q.n
            (Q.fi (W.t fun j => { ok := false, v := false, page := 0, asid := 0, vmid := 0, frame := 0, bits := 0, host := 0, guest := 0 })
              { ok := true, v := false, page := 100, asid := 0, vmid := 0, frame := 0, bits := 0, host := 0, guest := 0 } p)).beq
        16 &&
      (iEq 0 0 &&
          W.ck
            (Q.el
              (Q.fi (W.t fun j => { ok := false, v := false, page := 0, asid := 0, vmid := 0, frame := 0, bits := 0, host := 0, guest := 0 })
                { ok := true, v := false, page := 100, asid := 0, vmid := 0, frame := 0, bits := 0, host := 0, guest := 0 } p))
            (iRem (iAdd IntKind.i64 (iRem p 16) 16) 16) &&
        true))
def fullV (Q : Ops) (W : FuW) (p : Int) : AV := .tup [.it .i64 0, .bl (full0 Q W p)]
def fullVr (Q : Ops) (W : FuW) (p : Int) : AV := .tup [.it .i64 0, .bl (full0r Q W p)]
theorem fullV_eq (Q : Ops) (W : FuW) (p : Int) : fullVr Q W p = fullV Q W p := by
  unfold fullVr fullV full0r full0
  first | (simp only [full_c0, Go.Ev.cS1, Go.Ev.cS2, Go.Ev.cS3, Go.Ev.cS4, Go.Ev.cS6, Go.Ev.cS7]; done) | (simp only [full_c0, Go.Ev.cS1, Go.Ev.cS2, Go.Ev.cS3, Go.Ev.cS4, Go.Ev.cS6, Go.Ev.cS7]; kernel_rfl)
theorem fullE (Q : Ops) (W : FuW) (p : Int) : evFn Try.prog okT NPC (HH2 (MTr Q) (MTq2 Q)) RW (fuOv W) 101 false Try.f5 [.it .i64 p] Mem.empty (finQ L0) = some (fullG Q W p, fullV Q W p) :=
  (by kernel_rfl : evFn Try.prog okT NPC (HH2 (MTr Q) (MTq2 Q)) RW (fuOv W) 101 false Try.f5 [.it .i64 p] Mem.empty (finQ L0) = some (fullG Q W p, fullVr Q W p)).trans (by rw [fullV_eq])

end
end Go.Proofs.Ytcmknfnnapnecaa.PV
