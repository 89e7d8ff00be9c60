/-
  TlbMarks, evaluated. Printed by a program of the prover's own (wip/prt).
-/
import Derived.Test.YtcmknfnnapnecaaRows
import Derived.Test.YtcmknfnnapnecaaEvW
import Derived.Test.YtcmknfnnapnecaaUl
set_option linter.unusedVariables false
set_option linter.unusedSimpArgs false
namespace Go.Proofs.Ytcmknfnnapnecaa.PV
noncomputable section
open Go Go.Ev
/- marks -/
def marks_c0 (Q : Ops) (W : MkW) (p : Int) (a : Int) (b : Int) : Bool :=
  !Q.hs (W.t8 (fun j => { ok := false, v := false, page := 0, asid := 0, vmid := 0, frame := 0, bits := 0, host := 0, guest := 0 }) (iConv IntKind.i64 p) a b) (iAdd IntKind.i64 (iConv IntKind.i64 p) 1)
      false (iConv IntKind.i64 a) (iConv IntKind.i64 b)
def marks_c1 (Q : Ops) (W : MkW) (p : Int) (a : Int) (b : Int) : Bool :=
  (Q.n (W.t8 (fun j => { ok := false, v := false, page := 0, asid := 0, vmid := 0, frame := 0, bits := 0, host := 0, guest := 0 }) (iConv IntKind.i64 p) a b)).beq 0
def marks_c2 (Q : Ops) (W : MkW) (p : Int) (a : Int) (b : Int) : Bool :=
  bif marks_c0 Q W p a b then false else false
def marks_c3 (Q : Ops) (W : MkW) (p : Int) (a : Int) (b : Int) : Bool :=
  !marks_c2 Q W p a b
def marks_c4 (Q : Ops) (W : MkW) (p : Int) (a : Int) (b : Int) : Bool :=
  Q.db (W.t8 (fun j => { ok := false, v := false, page := 0, asid := 0, vmid := 0, frame := 0, bits := 0, host := 0, guest := 0 }) (iConv IntKind.i64 p) a b) (W.e8 (iConv IntKind.i64 p) a b 3)
def marks_c5 (Q : Ops) (W : MkW) (p : Int) (a : Int) (b : Int) : Bool :=
  bif marks_c2 Q W p a b then marks_c4 Q W p a b else false
def marks_c6 (Q : Ops) (W : MkW) (p : Int) (a : Int) (b : Int) : Bool :=
  !marks_c5 Q W p a b
def marks_c7 (Q : Ops) (W : MkW) (p : Int) (a : Int) (b : Int) : Bool :=
  !Q.db (Q.dr (W.t8 (fun j => { ok := false, v := false, page := 0, asid := 0, vmid := 0, frame := 0, bits := 0, host := 0, guest := 0 }) (iConv IntKind.i64 p) a b) (W.e8 (iConv IntKind.i64 p) a b 3))
      (W.e8 (iConv IntKind.i64 p) a b 3)
def marks_c8 (Q : Ops) (W : MkW) (p : Int) (a : Int) (b : Int) : Bool :=
  bif marks_c5 Q W p a b then marks_c7 Q W p a b else false
def marks_c9 (Q : Ops) (W : MkW) (p : Int) (a : Int) (b : Int) : Bool :=
  bif marks_c0 Q W p a b then iEq (↑(Q.n (W.t8 (fun j => { ok := false, v := false, page := 0, asid := 0, vmid := 0, frame := 0, bits := 0, host := 0, guest := 0 }) (iConv IntKind.i64 p) a b))) 8
  else false
def marks_c10 (Q : Ops) (W : MkW) (p : Int) (a : Int) (b : Int) : Bool :=
  !marks_c9 Q W p a b
def marks_c11 (Q : Ops) (W : MkW) (p : Int) (a : Int) (b : Int) : Bool :=
  bif marks_c9 Q W p a b then marks_c4 Q W p a b else false
def marks_c12 (Q : Ops) (W : MkW) (p : Int) (a : Int) (b : Int) : Bool :=
  !marks_c11 Q W p a b
def marks_c13 (Q : Ops) (W : MkW) (p : Int) (a : Int) (b : Int) : Bool :=
  bif marks_c11 Q W p a b then marks_c7 Q W p a b else false
def marks_c14 (Q : Ops) (W : MkW) (p : Int) (a : Int) (b : Int) : Bool :=
  iEq
    (↑(Q.n
        (Q.dr
          (Q.dr (W.t8 (fun j => { ok := false, v := false, page := 0, asid := 0, vmid := 0, frame := 0, bits := 0, host := 0, guest := 0 }) (iConv IntKind.i64 p) a b) (W.e8 (iConv IntKind.i64 p) a b 3))
          (W.e8 (iConv IntKind.i64 p) a b 3))))
    7
def marks_c15 (Q : Ops) (W : MkW) (p : Int) (a : Int) (b : Int) : Bool :=
  bif marks_c13 Q W p a b then marks_c14 Q W p a b else false
def marks0r (Q : Ops) (W : MkW) (p : Int) (a : Int) (b : Int) : Int :=
  bif marks_c0 Q W p a b then
    bif marks_c1 Q W p a b then bif marks_c2 Q W p a b then bif marks_c5 Q W p a b then bif marks_c8 Q W p a b then 0 else 0 else 0 else 0
    else bif marks_c9 Q W p a b then bif marks_c11 Q W p a b then bif marks_c13 Q W p a b then 0 else 0 else 0 else 0
  else 0
def marks1 (Q : Ops) (W : MkW) (p : Int) (a : Int) (b : Int) : Bool :=
  bif marks_c0 Q W p a b then
    bif marks_c1 Q W p a b then
      bif false then
        bif bif false then marks_c4 Q W p a b else false then bif bif bif false then marks_c4 Q W p a b else false then marks_c7 Q W p a b else false then marks_c14 Q W p a b else false else false
      else false
    else bif marks_c9 Q W p a b then bif marks_c11 Q W p a b then marks_c15 Q W p a b else false else false
  else false
def marks1r (Q : Ops) (W : MkW) (p : Int) (a : Int) (b : Int) : Bool :=
  bif marks_c0 Q W p a b then
    bif marks_c1 Q W p a b then
      bif marks_c2 Q W p a b then bif marks_c5 Q W p a b then bif marks_c8 Q W p a b then bif marks_c8 Q W p a b then marks_c14 Q W p a b else false else false else false else false
    else bif marks_c9 Q W p a b then bif marks_c11 Q W p a b then bif marks_c13 Q W p a b then marks_c15 Q W p a b else false else false else false
  else false
def marksG (Q : Ops) (W : MkW) (p : Int) (a : Int) (b : Int) : Bool :=
  iEq 0 0 &&
    (iEq 0 0 &&
        W.lk (W.t8 (fun j => { ok := false, v := false, page := 0, asid := 0, vmid := 0, frame := 0, bits := 0, host := 0, guest := 0 }) (iConv IntKind.i64 p) a b) (W.e8 (iConv IntKind.i64 p) a b)
          (iConv IntKind.i64 p) &&
      bif marks_c0 Q W p a b then
        bif marks_c1 Q W p a b then
          (marks_c3 Q W p a b || true) &&
            bif marks_c2 Q W p a b then
              (marks_c6 Q W p a b || true) &&
                bif marks_c5 Q W p a b then bif marks_c8 Q W p a b then true else !marks_c8 Q W p a b && (!marks_c8 Q W p a b && true) else marks_c6 Q W p a b && (marks_c6 Q W p a b && true)
            else marks_c3 Q W p a b && true
        else
          (marks_c10 Q W p a b || true) &&
            bif marks_c9 Q W p a b then
              (marks_c12 Q W p a b || true) &&
                bif marks_c11 Q W p a b then bif marks_c13 Q W p a b then true else !marks_c13 Q W p a b && (!marks_c13 Q W p a b && true) else marks_c12 Q W p a b && (marks_c12 Q W p a b && true)
            else marks_c10 Q W p a b && true
      else !marks_c0 Q W p a b && (!marks_c0 Q W p a b && (!marks_c0 Q W p a b && true)))
def marksV (Q : Ops) (W : MkW) (p : Int) (a : Int) (b : Int) : AV := .tup [.it .i64 0, .bl (marks1 Q W p a b)]
def marksVr (Q : Ops) (W : MkW) (p : Int) (a : Int) (b : Int) : AV := .tup [.it .i64 (marks0r Q W p a b), .bl (marks1r Q W p a b)]
theorem marksV_eq (Q : Ops) (W : MkW) (p : Int) (a : Int) (b : Int) : marksVr Q W p a b = marksV Q W p a b := by
  unfold marksVr marksV marks0r marks1r marks1
  first | (simp only [marks_c0, marks_c1, marks_c2, marks_c3, marks_c4, marks_c5, marks_c6, marks_c7, marks_c8, marks_c9, marks_c10, marks_c11, marks_c12, marks_c13, marks_c14, marks_c15, Go.Ev.cS1, Go.Ev.cS2, Go.Ev.cS3, Go.Ev.cS4, Go.Ev.cS6, Go.Ev.cS7]; done) | (simp only [marks_c0, marks_c1, marks_c2, marks_c3, marks_c4, marks_c5, marks_c6, marks_c7, marks_c8, marks_c9, marks_c10, marks_c11, marks_c12, marks_c13, marks_c14, marks_c15, Go.Ev.cS1, Go.Ev.cS2, Go.Ev.cS3, Go.Ev.cS4, Go.Ev.cS6, Go.Ev.cS7]; kernel_rfl)
theorem marksE (Q : Ops) (W : MkW) (p : Int) (a : Int) (b : Int) : evFn Try.prog okT NPC (HH2 (MTq Q) (MTq2 Q)) RW (mkOvW W) 101 false Try.f4 [.it .u8 p, .it .u8 a, .it .u8 b] Mem.empty (finQ L0) = some (marksG Q W p a b, marksV Q W p a b) :=
  (by kernel_rfl : evFn Try.prog okT NPC (HH2 (MTq Q) (MTq2 Q)) RW (mkOvW W) 101 false Try.f4 [.it .u8 p, .it .u8 a, .it .u8 b] Mem.empty (finQ L0) = some (marksG Q W p a b, marksVr Q W p a b)).trans (by rw [marksV_eq])

end
end Go.Proofs.Ytcmknfnnapnecaa.PV
