/-
  What functions of the program and of the document yield, evaluated (sallyportlaw16.TrapHost .. sallyportlaw16.TrapGuest). Printed by a program of the prover's own (wip/prt).
-/
import Derived.Test.YtjnpaegoobclfaaRows
import Derived.Test.YtjnpaegoobclfaaEvW
import Derived.Test.YtjnpaegoobclfaaFa
import Derived.Test.YtjnpaegoobclfaaFb
set_option linter.unusedVariables false
set_option linter.unusedSimpArgs false
namespace Go.Proofs.Ytjnpaegoobclfaa.PV
noncomputable section
open Go Go.Ev
/- sallyport/sallyportlaw16.TrapHost -/
def sallyportlaw16_TrapHost_c0 (a0_X : Nat → Int) (a0_PC : Int) (a0_Level : Int) (a0_V : Bool) (a0_C : Nat → Int) (a0_Done : Int) (a1_Cause : Int) (a1_Value : Int) (a1_Place : Int) (a1_GVA : Bool) (a2 : Bool) : Int :=
  trap_Enter1 (fun i0 => sallyportref18_Clean0 (fun i0 => a0_X i0) a0_PC a0_Level a0_V (fun i0 => a0_C i0) a0_Done i0)
    (sallyportref18_Clean1 (fun i0 => a0_X i0) a0_PC a0_Level a0_V (fun i0 => a0_C i0) a0_Done) 0 true
    (fun i0 =>
      bif i0 == 0 then iAndNot IntKind.u64 (sallyportref18_Clean4 (fun i0 => a0_X i0) a0_PC a0_Level a0_V (fun i0 => a0_C i0) a0_Done 0) 4194304
      else sallyportref18_Clean4 (fun i0 => a0_X i0) a0_PC a0_Level a0_V (fun i0 => a0_C i0) a0_Done i0)
    a0_Done a1_Cause a1_Value a1_Place a1_GVA 1 false
def sallyportlaw16_TrapHost_c1 (a0_X : Nat → Int) (a0_PC : Int) (a0_Level : Int) (a0_V : Bool) (a0_C : Nat → Int) (a0_Done : Int) (a1_Cause : Int) (a1_Value : Int) (a1_Place : Int) (a1_GVA : Bool) (a2 : Bool) : Int :=
  trap_Enter2 (fun i0 => sallyportref18_Clean0 (fun i0 => a0_X i0) a0_PC a0_Level a0_V (fun i0 => a0_C i0) a0_Done i0)
    (sallyportref18_Clean1 (fun i0 => a0_X i0) a0_PC a0_Level a0_V (fun i0 => a0_C i0) a0_Done) 0 true
    (fun i0 =>
      bif i0 == 0 then iAndNot IntKind.u64 (sallyportref18_Clean4 (fun i0 => a0_X i0) a0_PC a0_Level a0_V (fun i0 => a0_C i0) a0_Done 0) 4194304
      else sallyportref18_Clean4 (fun i0 => a0_X i0) a0_PC a0_Level a0_V (fun i0 => a0_C i0) a0_Done i0)
    a0_Done a1_Cause a1_Value a1_Place a1_GVA 1 false
def sallyportlaw16_TrapHost_c2 (a0_X : Nat → Int) (a0_PC : Int) (a0_Level : Int) (a0_V : Bool) (a0_C : Nat → Int) (a0_Done : Int) (a1_Cause : Int) (a1_Value : Int) (a1_Place : Int) (a1_GVA : Bool) (a2 : Bool) : Bool :=
  trap_Enter3 (fun i0 => sallyportref18_Clean0 (fun i0 => a0_X i0) a0_PC a0_Level a0_V (fun i0 => a0_C i0) a0_Done i0)
    (sallyportref18_Clean1 (fun i0 => a0_X i0) a0_PC a0_Level a0_V (fun i0 => a0_C i0) a0_Done) 0 true
    (fun i0 =>
      bif i0 == 0 then iAndNot IntKind.u64 (sallyportref18_Clean4 (fun i0 => a0_X i0) a0_PC a0_Level a0_V (fun i0 => a0_C i0) a0_Done 0) 4194304
      else sallyportref18_Clean4 (fun i0 => a0_X i0) a0_PC a0_Level a0_V (fun i0 => a0_C i0) a0_Done i0)
    a0_Done a1_Cause a1_Value a1_Place a1_GVA 1 false
def sallyportlaw16_TrapHost_c3 (a0_X : Nat → Int) (a0_PC : Int) (a0_Level : Int) (a0_V : Bool) (a0_C : Nat → Int) (a0_Done : Int) (a1_Cause : Int) (a1_Value : Int) (a1_Place : Int) (a1_GVA : Bool) (a2 : Bool) : Nat → Int :=
  trap_Enter4 (fun i0 => sallyportref18_Clean0 (fun i0 => a0_X i0) a0_PC a0_Level a0_V (fun i0 => a0_C i0) a0_Done i0)
    (sallyportref18_Clean1 (fun i0 => a0_X i0) a0_PC a0_Level a0_V (fun i0 => a0_C i0) a0_Done) 0 true
    (fun i0 =>
      bif i0 == 0 then iAndNot IntKind.u64 (sallyportref18_Clean4 (fun i0 => a0_X i0) a0_PC a0_Level a0_V (fun i0 => a0_C i0) a0_Done 0) 4194304
      else sallyportref18_Clean4 (fun i0 => a0_X i0) a0_PC a0_Level a0_V (fun i0 => a0_C i0) a0_Done i0)
    a0_Done a1_Cause a1_Value a1_Place a1_GVA 1 false
def sallyportlaw16_TrapHost_c4 (a0_X : Nat → Int) (a0_PC : Int) (a0_Level : Int) (a0_V : Bool) (a0_C : Nat → Int) (a0_Done : Int) (a1_Cause : Int) (a1_Value : Int) (a1_Place : Int) (a1_GVA : Bool) (a2 : Bool) : Bool :=
  iNe (sallyportlaw16_TrapHost_c3 a0_X a0_PC a0_Level a0_V a0_C a0_Done a1_Cause a1_Value a1_Place a1_GVA a2 22)
    (sallyportref18_Clean4 (fun i0 => a0_X i0) a0_PC a0_Level a0_V (fun i0 => a0_C i0) a0_Done 22)
def sallyportlaw16_TrapHost_c5 (a0_X : Nat → Int) (a0_PC : Int) (a0_Level : Int) (a0_V : Bool) (a0_C : Nat → Int) (a0_Done : Int) (a1_Cause : Int) (a1_Value : Int) (a1_Place : Int) (a1_GVA : Bool) (a2 : Bool) : Nat → Int :=
  trap_Sret4 (fun i0 => sallyportref18_Clean0 (fun i0 => a0_X i0) a0_PC a0_Level a0_V (fun i0 => a0_C i0) a0_Done i0)
    (sallyportlaw16_TrapHost_c0 a0_X a0_PC a0_Level a0_V a0_C a0_Done a1_Cause a1_Value a1_Place a1_GVA a2)
    (sallyportlaw16_TrapHost_c1 a0_X a0_PC a0_Level a0_V a0_C a0_Done a1_Cause a1_Value a1_Place a1_GVA a2)
    (sallyportlaw16_TrapHost_c2 a0_X a0_PC a0_Level a0_V a0_C a0_Done a1_Cause a1_Value a1_Place a1_GVA a2)
    (fun i0 => sallyportlaw16_TrapHost_c3 a0_X a0_PC a0_Level a0_V a0_C a0_Done a1_Cause a1_Value a1_Place a1_GVA a2 i0) a0_Done
def sallyportlaw16_TrapHost_c6 (a0_X : Nat → Int) (a0_PC : Int) (a0_Level : Int) (a0_V : Bool) (a0_C : Nat → Int) (a0_Done : Int) (a1_Cause : Int) (a1_Value : Int) (a1_Place : Int) (a1_GVA : Bool) (a2 : Bool) : Bool :=
  iNe (sallyportlaw16_TrapHost_c3 a0_X a0_PC a0_Level a0_V a0_C a0_Done a1_Cause a1_Value a1_Place a1_GVA a2 23)
    (sallyportref18_Clean4 (fun i0 => a0_X i0) a0_PC a0_Level a0_V (fun i0 => a0_C i0) a0_Done 23)
def sallyportlaw16_TrapHost_c7 (a0_X : Nat → Int) (a0_PC : Int) (a0_Level : Int) (a0_V : Bool) (a0_C : Nat → Int) (a0_Done : Int) (a1_Cause : Int) (a1_Value : Int) (a1_Place : Int) (a1_GVA : Bool) (a2 : Bool) : Bool :=
  iNe (sallyportlaw16_TrapHost_c3 a0_X a0_PC a0_Level a0_V a0_C a0_Done a1_Cause a1_Value a1_Place a1_GVA a2 24)
    (sallyportref18_Clean4 (fun i0 => a0_X i0) a0_PC a0_Level a0_V (fun i0 => a0_C i0) a0_Done 24)
def sallyportlaw16_TrapHost_c8 (a0_X : Nat → Int) (a0_PC : Int) (a0_Level : Int) (a0_V : Bool) (a0_C : Nat → Int) (a0_Done : Int) (a1_Cause : Int) (a1_Value : Int) (a1_Place : Int) (a1_GVA : Bool) (a2 : Bool) : Bool :=
  iNe (sallyportlaw16_TrapHost_c3 a0_X a0_PC a0_Level a0_V a0_C a0_Done a1_Cause a1_Value a1_Place a1_GVA a2 25)
    (sallyportref18_Clean4 (fun i0 => a0_X i0) a0_PC a0_Level a0_V (fun i0 => a0_C i0) a0_Done 25)
def sallyportlaw16_TrapHost_c9 (a0_X : Nat → Int) (a0_PC : Int) (a0_Level : Int) (a0_V : Bool) (a0_C : Nat → Int) (a0_Done : Int) (a1_Cause : Int) (a1_Value : Int) (a1_Place : Int) (a1_GVA : Bool) (a2 : Bool) : Bool :=
  iNe (sallyportlaw16_TrapHost_c3 a0_X a0_PC a0_Level a0_V a0_C a0_Done a1_Cause a1_Value a1_Place a1_GVA a2 26)
    (sallyportref18_Clean4 (fun i0 => a0_X i0) a0_PC a0_Level a0_V (fun i0 => a0_C i0) a0_Done 26)
def sallyportlaw16_TrapHost_c10 (a0_X : Nat → Int) (a0_PC : Int) (a0_Level : Int) (a0_V : Bool) (a0_C : Nat → Int) (a0_Done : Int) (a1_Cause : Int) (a1_Value : Int) (a1_Place : Int) (a1_GVA : Bool) (a2 : Bool) : Bool :=
  iNe (sallyportlaw16_TrapHost_c3 a0_X a0_PC a0_Level a0_V a0_C a0_Done a1_Cause a1_Value a1_Place a1_GVA a2 27)
    (sallyportref18_Clean4 (fun i0 => a0_X i0) a0_PC a0_Level a0_V (fun i0 => a0_C i0) a0_Done 27)
def sallyportlaw16_TrapHost_c11 (a0_X : Nat → Int) (a0_PC : Int) (a0_Level : Int) (a0_V : Bool) (a0_C : Nat → Int) (a0_Done : Int) (a1_Cause : Int) (a1_Value : Int) (a1_Place : Int) (a1_GVA : Bool) (a2 : Bool) : Bool :=
  iNe (sallyportlaw16_TrapHost_c3 a0_X a0_PC a0_Level a0_V a0_C a0_Done a1_Cause a1_Value a1_Place a1_GVA a2 28)
    (sallyportref18_Clean4 (fun i0 => a0_X i0) a0_PC a0_Level a0_V (fun i0 => a0_C i0) a0_Done 28)
def sallyportlaw16_TrapHost_c12 (a0_X : Nat → Int) (a0_PC : Int) (a0_Level : Int) (a0_V : Bool) (a0_C : Nat → Int) (a0_Done : Int) (a1_Cause : Int) (a1_Value : Int) (a1_Place : Int) (a1_GVA : Bool) (a2 : Bool) : Bool :=
  bif !sallyportlaw16_TrapHost_c2 a0_X a0_PC a0_Level a0_V a0_C a0_Done a1_Cause a1_Value a1_Place a1_GVA a2 then
    iEq (sallyportlaw16_TrapHost_c1 a0_X a0_PC a0_Level a0_V a0_C a0_Done a1_Cause a1_Value a1_Place a1_GVA a2) 1
  else false
def sallyportlaw16_TrapHost_c13 (a0_X : Nat → Int) (a0_PC : Int) (a0_Level : Int) (a0_V : Bool) (a0_C : Nat → Int) (a0_Done : Int) (a1_Cause : Int) (a1_Value : Int) (a1_Place : Int) (a1_GVA : Bool) (a2 : Bool) : Bool :=
  bif sallyportlaw16_TrapHost_c12 a0_X a0_PC a0_Level a0_V a0_C a0_Done a1_Cause a1_Value a1_Place a1_GVA a2 then
    iEq (sallyportlaw16_TrapHost_c0 a0_X a0_PC a0_Level a0_V a0_C a0_Done a1_Cause a1_Value a1_Place a1_GVA a2)
      (sallyportref18_Clean4 (fun i0 => a0_X i0) a0_PC a0_Level a0_V (fun i0 => a0_C i0) a0_Done 10)
  else false
def sallyportlaw16_TrapHost_c14 (a0_X : Nat → Int) (a0_PC : Int) (a0_Level : Int) (a0_V : Bool) (a0_C : Nat → Int) (a0_Done : Int) (a1_Cause : Int) (a1_Value : Int) (a1_Place : Int) (a1_GVA : Bool) (a2 : Bool) : Bool :=
  bif sallyportlaw16_TrapHost_c13 a0_X a0_PC a0_Level a0_V a0_C a0_Done a1_Cause a1_Value a1_Place a1_GVA a2 then
    iEq (iAnd IntKind.u64 (iShr IntKind.u64 (sallyportlaw16_TrapHost_c3 a0_X a0_PC a0_Level a0_V a0_C a0_Done a1_Cause a1_Value a1_Place a1_GVA a2 16) 7) 1) 1
  else false
def sallyportlaw16_TrapHost_c15 (a0_X : Nat → Int) (a0_PC : Int) (a0_Level : Int) (a0_V : Bool) (a0_C : Nat → Int) (a0_Done : Int) (a1_Cause : Int) (a1_Value : Int) (a1_Place : Int) (a1_GVA : Bool) (a2 : Bool) : Bool :=
  bif sallyportlaw16_TrapHost_c14 a0_X a0_PC a0_Level a0_V a0_C a0_Done a1_Cause a1_Value a1_Place a1_GVA a2 then
    iEq (iAnd IntKind.u64 (iShr IntKind.u64 (sallyportlaw16_TrapHost_c3 a0_X a0_PC a0_Level a0_V a0_C a0_Done a1_Cause a1_Value a1_Place a1_GVA a2 16) 8) 1) 0
  else false
def sallyportlaw16_TrapHost_c16 (a0_X : Nat → Int) (a0_PC : Int) (a0_Level : Int) (a0_V : Bool) (a0_C : Nat → Int) (a0_Done : Int) (a1_Cause : Int) (a1_Value : Int) (a1_Place : Int) (a1_GVA : Bool) (a2 : Bool) : Bool :=
  bif sallyportlaw16_TrapHost_c15 a0_X a0_PC a0_Level a0_V a0_C a0_Done a1_Cause a1_Value a1_Place a1_GVA a2 then
    iEq (sallyportlaw16_TrapHost_c3 a0_X a0_PC a0_Level a0_V a0_C a0_Done a1_Cause a1_Value a1_Place a1_GVA a2 20) a1_Place
  else false
def sallyportlaw16_TrapHost_c17 (a0_X : Nat → Int) (a0_PC : Int) (a0_Level : Int) (a0_V : Bool) (a0_C : Nat → Int) (a0_Done : Int) (a1_Cause : Int) (a1_Value : Int) (a1_Place : Int) (a1_GVA : Bool) (a2 : Bool) : Bool :=
  bif sallyportlaw16_TrapHost_c16 a0_X a0_PC a0_Level a0_V a0_C a0_Done a1_Cause a1_Value a1_Place a1_GVA a2 then
    iEq (sallyportlaw16_TrapHost_c3 a0_X a0_PC a0_Level a0_V a0_C a0_Done a1_Cause a1_Value a1_Place a1_GVA a2 13) a1_Cause
  else false
def sallyportlaw16_TrapHost_c18 (a0_X : Nat → Int) (a0_PC : Int) (a0_Level : Int) (a0_V : Bool) (a0_C : Nat → Int) (a0_Done : Int) (a1_Cause : Int) (a1_Value : Int) (a1_Place : Int) (a1_GVA : Bool) (a2 : Bool) : Int :=
  trap_Enter1 (fun i0 => sallyportref18_Clean0 (fun i0 => a0_X i0) a0_PC a0_Level a0_V (fun i0 => a0_C i0) a0_Done i0)
    (sallyportref18_Clean1 (fun i0 => a0_X i0) a0_PC a0_Level a0_V (fun i0 => a0_C i0) a0_Done) 1 true
    (fun i0 =>
      bif i0 == 0 then iAndNot IntKind.u64 (sallyportref18_Clean4 (fun i0 => a0_X i0) a0_PC a0_Level a0_V (fun i0 => a0_C i0) a0_Done 0) 4194304
      else sallyportref18_Clean4 (fun i0 => a0_X i0) a0_PC a0_Level a0_V (fun i0 => a0_C i0) a0_Done i0)
    a0_Done a1_Cause a1_Value a1_Place a1_GVA 1 false
def sallyportlaw16_TrapHost_c19 (a0_X : Nat → Int) (a0_PC : Int) (a0_Level : Int) (a0_V : Bool) (a0_C : Nat → Int) (a0_Done : Int) (a1_Cause : Int) (a1_Value : Int) (a1_Place : Int) (a1_GVA : Bool) (a2 : Bool) : Int :=
  trap_Enter2 (fun i0 => sallyportref18_Clean0 (fun i0 => a0_X i0) a0_PC a0_Level a0_V (fun i0 => a0_C i0) a0_Done i0)
    (sallyportref18_Clean1 (fun i0 => a0_X i0) a0_PC a0_Level a0_V (fun i0 => a0_C i0) a0_Done) 1 true
    (fun i0 =>
      bif i0 == 0 then iAndNot IntKind.u64 (sallyportref18_Clean4 (fun i0 => a0_X i0) a0_PC a0_Level a0_V (fun i0 => a0_C i0) a0_Done 0) 4194304
      else sallyportref18_Clean4 (fun i0 => a0_X i0) a0_PC a0_Level a0_V (fun i0 => a0_C i0) a0_Done i0)
    a0_Done a1_Cause a1_Value a1_Place a1_GVA 1 false
def sallyportlaw16_TrapHost_c20 (a0_X : Nat → Int) (a0_PC : Int) (a0_Level : Int) (a0_V : Bool) (a0_C : Nat → Int) (a0_Done : Int) (a1_Cause : Int) (a1_Value : Int) (a1_Place : Int) (a1_GVA : Bool) (a2 : Bool) : Bool :=
  trap_Enter3 (fun i0 => sallyportref18_Clean0 (fun i0 => a0_X i0) a0_PC a0_Level a0_V (fun i0 => a0_C i0) a0_Done i0)
    (sallyportref18_Clean1 (fun i0 => a0_X i0) a0_PC a0_Level a0_V (fun i0 => a0_C i0) a0_Done) 1 true
    (fun i0 =>
      bif i0 == 0 then iAndNot IntKind.u64 (sallyportref18_Clean4 (fun i0 => a0_X i0) a0_PC a0_Level a0_V (fun i0 => a0_C i0) a0_Done 0) 4194304
      else sallyportref18_Clean4 (fun i0 => a0_X i0) a0_PC a0_Level a0_V (fun i0 => a0_C i0) a0_Done i0)
    a0_Done a1_Cause a1_Value a1_Place a1_GVA 1 false
def sallyportlaw16_TrapHost_c21 (a0_X : Nat → Int) (a0_PC : Int) (a0_Level : Int) (a0_V : Bool) (a0_C : Nat → Int) (a0_Done : Int) (a1_Cause : Int) (a1_Value : Int) (a1_Place : Int) (a1_GVA : Bool) (a2 : Bool) : Nat → Int :=
  trap_Enter4 (fun i0 => sallyportref18_Clean0 (fun i0 => a0_X i0) a0_PC a0_Level a0_V (fun i0 => a0_C i0) a0_Done i0)
    (sallyportref18_Clean1 (fun i0 => a0_X i0) a0_PC a0_Level a0_V (fun i0 => a0_C i0) a0_Done) 1 true
    (fun i0 =>
      bif i0 == 0 then iAndNot IntKind.u64 (sallyportref18_Clean4 (fun i0 => a0_X i0) a0_PC a0_Level a0_V (fun i0 => a0_C i0) a0_Done 0) 4194304
      else sallyportref18_Clean4 (fun i0 => a0_X i0) a0_PC a0_Level a0_V (fun i0 => a0_C i0) a0_Done i0)
    a0_Done a1_Cause a1_Value a1_Place a1_GVA 1 false
def sallyportlaw16_TrapHost_c22 (a0_X : Nat → Int) (a0_PC : Int) (a0_Level : Int) (a0_V : Bool) (a0_C : Nat → Int) (a0_Done : Int) (a1_Cause : Int) (a1_Value : Int) (a1_Place : Int) (a1_GVA : Bool) (a2 : Bool) : Bool :=
  iNe (sallyportlaw16_TrapHost_c21 a0_X a0_PC a0_Level a0_V a0_C a0_Done a1_Cause a1_Value a1_Place a1_GVA a2 22)
    (sallyportref18_Clean4 (fun i0 => a0_X i0) a0_PC a0_Level a0_V (fun i0 => a0_C i0) a0_Done 22)
def sallyportlaw16_TrapHost_c23 (a0_X : Nat → Int) (a0_PC : Int) (a0_Level : Int) (a0_V : Bool) (a0_C : Nat → Int) (a0_Done : Int) (a1_Cause : Int) (a1_Value : Int) (a1_Place : Int) (a1_GVA : Bool) (a2 : Bool) : Nat → Int :=
  trap_Sret4 (fun i0 => sallyportref18_Clean0 (fun i0 => a0_X i0) a0_PC a0_Level a0_V (fun i0 => a0_C i0) a0_Done i0)
    (sallyportlaw16_TrapHost_c18 a0_X a0_PC a0_Level a0_V a0_C a0_Done a1_Cause a1_Value a1_Place a1_GVA a2)
    (sallyportlaw16_TrapHost_c19 a0_X a0_PC a0_Level a0_V a0_C a0_Done a1_Cause a1_Value a1_Place a1_GVA a2)
    (sallyportlaw16_TrapHost_c20 a0_X a0_PC a0_Level a0_V a0_C a0_Done a1_Cause a1_Value a1_Place a1_GVA a2)
    (fun i0 => sallyportlaw16_TrapHost_c21 a0_X a0_PC a0_Level a0_V a0_C a0_Done a1_Cause a1_Value a1_Place a1_GVA a2 i0) a0_Done
def sallyportlaw16_TrapHost_c24 (a0_X : Nat → Int) (a0_PC : Int) (a0_Level : Int) (a0_V : Bool) (a0_C : Nat → Int) (a0_Done : Int) (a1_Cause : Int) (a1_Value : Int) (a1_Place : Int) (a1_GVA : Bool) (a2 : Bool) : Bool :=
  iNe (sallyportlaw16_TrapHost_c21 a0_X a0_PC a0_Level a0_V a0_C a0_Done a1_Cause a1_Value a1_Place a1_GVA a2 23)
    (sallyportref18_Clean4 (fun i0 => a0_X i0) a0_PC a0_Level a0_V (fun i0 => a0_C i0) a0_Done 23)
def sallyportlaw16_TrapHost_c25 (a0_X : Nat → Int) (a0_PC : Int) (a0_Level : Int) (a0_V : Bool) (a0_C : Nat → Int) (a0_Done : Int) (a1_Cause : Int) (a1_Value : Int) (a1_Place : Int) (a1_GVA : Bool) (a2 : Bool) : Bool :=
  iNe (sallyportlaw16_TrapHost_c21 a0_X a0_PC a0_Level a0_V a0_C a0_Done a1_Cause a1_Value a1_Place a1_GVA a2 24)
    (sallyportref18_Clean4 (fun i0 => a0_X i0) a0_PC a0_Level a0_V (fun i0 => a0_C i0) a0_Done 24)
def sallyportlaw16_TrapHost_c26 (a0_X : Nat → Int) (a0_PC : Int) (a0_Level : Int) (a0_V : Bool) (a0_C : Nat → Int) (a0_Done : Int) (a1_Cause : Int) (a1_Value : Int) (a1_Place : Int) (a1_GVA : Bool) (a2 : Bool) : Bool :=
  iNe (sallyportlaw16_TrapHost_c21 a0_X a0_PC a0_Level a0_V a0_C a0_Done a1_Cause a1_Value a1_Place a1_GVA a2 25)
    (sallyportref18_Clean4 (fun i0 => a0_X i0) a0_PC a0_Level a0_V (fun i0 => a0_C i0) a0_Done 25)
def sallyportlaw16_TrapHost_c27 (a0_X : Nat → Int) (a0_PC : Int) (a0_Level : Int) (a0_V : Bool) (a0_C : Nat → Int) (a0_Done : Int) (a1_Cause : Int) (a1_Value : Int) (a1_Place : Int) (a1_GVA : Bool) (a2 : Bool) : Bool :=
  iNe (sallyportlaw16_TrapHost_c21 a0_X a0_PC a0_Level a0_V a0_C a0_Done a1_Cause a1_Value a1_Place a1_GVA a2 26)
    (sallyportref18_Clean4 (fun i0 => a0_X i0) a0_PC a0_Level a0_V (fun i0 => a0_C i0) a0_Done 26)
def sallyportlaw16_TrapHost_c28 (a0_X : Nat → Int) (a0_PC : Int) (a0_Level : Int) (a0_V : Bool) (a0_C : Nat → Int) (a0_Done : Int) (a1_Cause : Int) (a1_Value : Int) (a1_Place : Int) (a1_GVA : Bool) (a2 : Bool) : Bool :=
  iNe (sallyportlaw16_TrapHost_c21 a0_X a0_PC a0_Level a0_V a0_C a0_Done a1_Cause a1_Value a1_Place a1_GVA a2 27)
    (sallyportref18_Clean4 (fun i0 => a0_X i0) a0_PC a0_Level a0_V (fun i0 => a0_C i0) a0_Done 27)
def sallyportlaw16_TrapHost_c29 (a0_X : Nat → Int) (a0_PC : Int) (a0_Level : Int) (a0_V : Bool) (a0_C : Nat → Int) (a0_Done : Int) (a1_Cause : Int) (a1_Value : Int) (a1_Place : Int) (a1_GVA : Bool) (a2 : Bool) : Bool :=
  iNe (sallyportlaw16_TrapHost_c21 a0_X a0_PC a0_Level a0_V a0_C a0_Done a1_Cause a1_Value a1_Place a1_GVA a2 28)
    (sallyportref18_Clean4 (fun i0 => a0_X i0) a0_PC a0_Level a0_V (fun i0 => a0_C i0) a0_Done 28)
def sallyportlaw16_TrapHost_c30 (a0_X : Nat → Int) (a0_PC : Int) (a0_Level : Int) (a0_V : Bool) (a0_C : Nat → Int) (a0_Done : Int) (a1_Cause : Int) (a1_Value : Int) (a1_Place : Int) (a1_GVA : Bool) (a2 : Bool) : Bool :=
  bif !sallyportlaw16_TrapHost_c20 a0_X a0_PC a0_Level a0_V a0_C a0_Done a1_Cause a1_Value a1_Place a1_GVA a2 then
    iEq (sallyportlaw16_TrapHost_c19 a0_X a0_PC a0_Level a0_V a0_C a0_Done a1_Cause a1_Value a1_Place a1_GVA a2) 1
  else false
def sallyportlaw16_TrapHost_c31 (a0_X : Nat → Int) (a0_PC : Int) (a0_Level : Int) (a0_V : Bool) (a0_C : Nat → Int) (a0_Done : Int) (a1_Cause : Int) (a1_Value : Int) (a1_Place : Int) (a1_GVA : Bool) (a2 : Bool) : Bool :=
  bif sallyportlaw16_TrapHost_c30 a0_X a0_PC a0_Level a0_V a0_C a0_Done a1_Cause a1_Value a1_Place a1_GVA a2 then
    iEq (sallyportlaw16_TrapHost_c18 a0_X a0_PC a0_Level a0_V a0_C a0_Done a1_Cause a1_Value a1_Place a1_GVA a2)
      (sallyportref18_Clean4 (fun i0 => a0_X i0) a0_PC a0_Level a0_V (fun i0 => a0_C i0) a0_Done 10)
  else false
def sallyportlaw16_TrapHost_c32 (a0_X : Nat → Int) (a0_PC : Int) (a0_Level : Int) (a0_V : Bool) (a0_C : Nat → Int) (a0_Done : Int) (a1_Cause : Int) (a1_Value : Int) (a1_Place : Int) (a1_GVA : Bool) (a2 : Bool) : Bool :=
  bif sallyportlaw16_TrapHost_c31 a0_X a0_PC a0_Level a0_V a0_C a0_Done a1_Cause a1_Value a1_Place a1_GVA a2 then
    iEq (iAnd IntKind.u64 (iShr IntKind.u64 (sallyportlaw16_TrapHost_c21 a0_X a0_PC a0_Level a0_V a0_C a0_Done a1_Cause a1_Value a1_Place a1_GVA a2 16) 7) 1) 1
  else false
def sallyportlaw16_TrapHost_c33 (a0_X : Nat → Int) (a0_PC : Int) (a0_Level : Int) (a0_V : Bool) (a0_C : Nat → Int) (a0_Done : Int) (a1_Cause : Int) (a1_Value : Int) (a1_Place : Int) (a1_GVA : Bool) (a2 : Bool) : Bool :=
  bif sallyportlaw16_TrapHost_c32 a0_X a0_PC a0_Level a0_V a0_C a0_Done a1_Cause a1_Value a1_Place a1_GVA a2 then
    iEq (iAnd IntKind.u64 (iShr IntKind.u64 (sallyportlaw16_TrapHost_c21 a0_X a0_PC a0_Level a0_V a0_C a0_Done a1_Cause a1_Value a1_Place a1_GVA a2 16) 8) 1) 1
  else false
def sallyportlaw16_TrapHost_c34 (a0_X : Nat → Int) (a0_PC : Int) (a0_Level : Int) (a0_V : Bool) (a0_C : Nat → Int) (a0_Done : Int) (a1_Cause : Int) (a1_Value : Int) (a1_Place : Int) (a1_GVA : Bool) (a2 : Bool) : Bool :=
  bif sallyportlaw16_TrapHost_c33 a0_X a0_PC a0_Level a0_V a0_C a0_Done a1_Cause a1_Value a1_Place a1_GVA a2 then
    iEq (sallyportlaw16_TrapHost_c21 a0_X a0_PC a0_Level a0_V a0_C a0_Done a1_Cause a1_Value a1_Place a1_GVA a2 20) a1_Place
  else false
def sallyportlaw16_TrapHost_c35 (a0_X : Nat → Int) (a0_PC : Int) (a0_Level : Int) (a0_V : Bool) (a0_C : Nat → Int) (a0_Done : Int) (a1_Cause : Int) (a1_Value : Int) (a1_Place : Int) (a1_GVA : Bool) (a2 : Bool) : Bool :=
  bif sallyportlaw16_TrapHost_c34 a0_X a0_PC a0_Level a0_V a0_C a0_Done a1_Cause a1_Value a1_Place a1_GVA a2 then
    iEq (sallyportlaw16_TrapHost_c21 a0_X a0_PC a0_Level a0_V a0_C a0_Done a1_Cause a1_Value a1_Place a1_GVA a2 13) a1_Cause
  else false
def sallyportlaw16_TrapHost0 (a0_X : Nat → Int) (a0_PC : Int) (a0_Level : Int) (a0_V : Bool) (a0_C : Nat → Int) (a0_Done : Int) (a1_Cause : Int) (a1_Value : Int) (a1_Place : Int) (a1_GVA : Bool) (a2 : Bool) : Bool :=
  bif a2 then
    bif
        bif
            bif
                bif
                    bif
                        !trap_Sret7 (fun i0 => sallyportref18_Clean0 (fun i0 => a0_X i0) a0_PC a0_Level a0_V (fun i0 => a0_C i0) a0_Done i0)
                            (sallyportlaw16_TrapHost_c0 a0_X a0_PC a0_Level a0_V a0_C a0_Done a1_Cause a1_Value a1_Place a1_GVA a2)
                            (sallyportlaw16_TrapHost_c1 a0_X a0_PC a0_Level a0_V a0_C a0_Done a1_Cause a1_Value a1_Place a1_GVA a2)
                            (sallyportlaw16_TrapHost_c2 a0_X a0_PC a0_Level a0_V a0_C a0_Done a1_Cause a1_Value a1_Place a1_GVA a2)
                            (fun i0 => sallyportlaw16_TrapHost_c3 a0_X a0_PC a0_Level a0_V a0_C a0_Done a1_Cause a1_Value a1_Place a1_GVA a2 i0) a0_Done then
                      true
                    else
                      iNe
                        (trap_Sret1 (fun i0 => sallyportref18_Clean0 (fun i0 => a0_X i0) a0_PC a0_Level a0_V (fun i0 => a0_C i0) a0_Done i0)
                          (sallyportlaw16_TrapHost_c0 a0_X a0_PC a0_Level a0_V a0_C a0_Done a1_Cause a1_Value a1_Place a1_GVA a2)
                          (sallyportlaw16_TrapHost_c1 a0_X a0_PC a0_Level a0_V a0_C a0_Done a1_Cause a1_Value a1_Place a1_GVA a2)
                          (sallyportlaw16_TrapHost_c2 a0_X a0_PC a0_Level a0_V a0_C a0_Done a1_Cause a1_Value a1_Place a1_GVA a2)
                          (fun i0 => sallyportlaw16_TrapHost_c3 a0_X a0_PC a0_Level a0_V a0_C a0_Done a1_Cause a1_Value a1_Place a1_GVA a2 i0) a0_Done)
                        (sallyportref18_Clean1 (fun i0 => a0_X i0) a0_PC a0_Level a0_V (fun i0 => a0_C i0) a0_Done) then
                  true
                else
                  iNe
                    (trap_Sret2 (fun i0 => sallyportref18_Clean0 (fun i0 => a0_X i0) a0_PC a0_Level a0_V (fun i0 => a0_C i0) a0_Done i0)
                      (sallyportlaw16_TrapHost_c0 a0_X a0_PC a0_Level a0_V a0_C a0_Done a1_Cause a1_Value a1_Place a1_GVA a2)
                      (sallyportlaw16_TrapHost_c1 a0_X a0_PC a0_Level a0_V a0_C a0_Done a1_Cause a1_Value a1_Place a1_GVA a2)
                      (sallyportlaw16_TrapHost_c2 a0_X a0_PC a0_Level a0_V a0_C a0_Done a1_Cause a1_Value a1_Place a1_GVA a2)
                      (fun i0 => sallyportlaw16_TrapHost_c3 a0_X a0_PC a0_Level a0_V a0_C a0_Done a1_Cause a1_Value a1_Place a1_GVA a2 i0) a0_Done)
                    0 then
              true
            else
              !trap_Sret3 (fun i0 => sallyportref18_Clean0 (fun i0 => a0_X i0) a0_PC a0_Level a0_V (fun i0 => a0_C i0) a0_Done i0)
                  (sallyportlaw16_TrapHost_c0 a0_X a0_PC a0_Level a0_V a0_C a0_Done a1_Cause a1_Value a1_Place a1_GVA a2)
                  (sallyportlaw16_TrapHost_c1 a0_X a0_PC a0_Level a0_V a0_C a0_Done a1_Cause a1_Value a1_Place a1_GVA a2)
                  (sallyportlaw16_TrapHost_c2 a0_X a0_PC a0_Level a0_V a0_C a0_Done a1_Cause a1_Value a1_Place a1_GVA a2)
                  (fun i0 => sallyportlaw16_TrapHost_c3 a0_X a0_PC a0_Level a0_V a0_C a0_Done a1_Cause a1_Value a1_Place a1_GVA a2 i0) a0_Done then
          true
        else
          !(List.range 32).all fun i =>
              iEq (sallyportref18_Clean0 (fun i0 => a0_X i0) a0_PC a0_Level a0_V (fun i0 => a0_C i0) a0_Done i)
                (sallyportref18_Clean0 (fun i0 => a0_X i0) a0_PC a0_Level a0_V (fun i0 => a0_C i0) a0_Done i) then
      false
    else
      bif
          bif sallyportlaw16_TrapHost_c4 a0_X a0_PC a0_Level a0_V a0_C a0_Done a1_Cause a1_Value a1_Place a1_GVA a2 then true
          else
            iNe (sallyportlaw16_TrapHost_c5 a0_X a0_PC a0_Level a0_V a0_C a0_Done a1_Cause a1_Value a1_Place a1_GVA a2 22)
              (sallyportref18_Clean4 (fun i0 => a0_X i0) a0_PC a0_Level a0_V (fun i0 => a0_C i0) a0_Done 22) then
        false
      else
        bif
            bif sallyportlaw16_TrapHost_c6 a0_X a0_PC a0_Level a0_V a0_C a0_Done a1_Cause a1_Value a1_Place a1_GVA a2 then true
            else
              iNe (sallyportlaw16_TrapHost_c5 a0_X a0_PC a0_Level a0_V a0_C a0_Done a1_Cause a1_Value a1_Place a1_GVA a2 23)
                (sallyportref18_Clean4 (fun i0 => a0_X i0) a0_PC a0_Level a0_V (fun i0 => a0_C i0) a0_Done 23) then
          false
        else
          bif
              bif sallyportlaw16_TrapHost_c7 a0_X a0_PC a0_Level a0_V a0_C a0_Done a1_Cause a1_Value a1_Place a1_GVA a2 then true
              else
                iNe (sallyportlaw16_TrapHost_c5 a0_X a0_PC a0_Level a0_V a0_C a0_Done a1_Cause a1_Value a1_Place a1_GVA a2 24)
                  (sallyportref18_Clean4 (fun i0 => a0_X i0) a0_PC a0_Level a0_V (fun i0 => a0_C i0) a0_Done 24) then
            false
          else
            bif
                bif sallyportlaw16_TrapHost_c8 a0_X a0_PC a0_Level a0_V a0_C a0_Done a1_Cause a1_Value a1_Place a1_GVA a2 then true
                else
                  iNe (sallyportlaw16_TrapHost_c5 a0_X a0_PC a0_Level a0_V a0_C a0_Done a1_Cause a1_Value a1_Place a1_GVA a2 25)
                    (sallyportref18_Clean4 (fun i0 => a0_X i0) a0_PC a0_Level a0_V (fun i0 => a0_C i0) a0_Done 25) then
              false
            else
              bif
                  bif sallyportlaw16_TrapHost_c9 a0_X a0_PC a0_Level a0_V a0_C a0_Done a1_Cause a1_Value a1_Place a1_GVA a2 then true
                  else
                    iNe (sallyportlaw16_TrapHost_c5 a0_X a0_PC a0_Level a0_V a0_C a0_Done a1_Cause a1_Value a1_Place a1_GVA a2 26)
                      (sallyportref18_Clean4 (fun i0 => a0_X i0) a0_PC a0_Level a0_V (fun i0 => a0_C i0) a0_Done 26) then
                false
              else
                bif
                    bif sallyportlaw16_TrapHost_c10 a0_X a0_PC a0_Level a0_V a0_C a0_Done a1_Cause a1_Value a1_Place a1_GVA a2 then true
                    else
                      iNe (sallyportlaw16_TrapHost_c5 a0_X a0_PC a0_Level a0_V a0_C a0_Done a1_Cause a1_Value a1_Place a1_GVA a2 27)
                        (sallyportref18_Clean4 (fun i0 => a0_X i0) a0_PC a0_Level a0_V (fun i0 => a0_C i0) a0_Done 27) then
                  false
                else
                  bif
                      bif sallyportlaw16_TrapHost_c11 a0_X a0_PC a0_Level a0_V a0_C a0_Done a1_Cause a1_Value a1_Place a1_GVA a2 then true
                      else
                        iNe (sallyportlaw16_TrapHost_c5 a0_X a0_PC a0_Level a0_V a0_C a0_Done a1_Cause a1_Value a1_Place a1_GVA a2 28)
                          (sallyportref18_Clean4 (fun i0 => a0_X i0) a0_PC a0_Level a0_V (fun i0 => a0_C i0) a0_Done 28) then
                    false
                  else
                    bif sallyportlaw16_TrapHost_c17 a0_X a0_PC a0_Level a0_V a0_C a0_Done a1_Cause a1_Value a1_Place a1_GVA a2 then
                      iEq (sallyportlaw16_TrapHost_c3 a0_X a0_PC a0_Level a0_V a0_C a0_Done a1_Cause a1_Value a1_Place a1_GVA a2 6)
                        (sallyportref18_Clean4 (fun i0 => a0_X i0) a0_PC a0_Level a0_V (fun i0 => a0_C i0) a0_Done 6)
                    else false
  else
    bif
        bif
            bif
                bif
                    bif
                        !trap_Sret7 (fun i0 => sallyportref18_Clean0 (fun i0 => a0_X i0) a0_PC a0_Level a0_V (fun i0 => a0_C i0) a0_Done i0)
                            (sallyportlaw16_TrapHost_c18 a0_X a0_PC a0_Level a0_V a0_C a0_Done a1_Cause a1_Value a1_Place a1_GVA a2)
                            (sallyportlaw16_TrapHost_c19 a0_X a0_PC a0_Level a0_V a0_C a0_Done a1_Cause a1_Value a1_Place a1_GVA a2)
                            (sallyportlaw16_TrapHost_c20 a0_X a0_PC a0_Level a0_V a0_C a0_Done a1_Cause a1_Value a1_Place a1_GVA a2)
                            (fun i0 => sallyportlaw16_TrapHost_c21 a0_X a0_PC a0_Level a0_V a0_C a0_Done a1_Cause a1_Value a1_Place a1_GVA a2 i0) a0_Done then
                      true
                    else
                      iNe
                        (trap_Sret1 (fun i0 => sallyportref18_Clean0 (fun i0 => a0_X i0) a0_PC a0_Level a0_V (fun i0 => a0_C i0) a0_Done i0)
                          (sallyportlaw16_TrapHost_c18 a0_X a0_PC a0_Level a0_V a0_C a0_Done a1_Cause a1_Value a1_Place a1_GVA a2)
                          (sallyportlaw16_TrapHost_c19 a0_X a0_PC a0_Level a0_V a0_C a0_Done a1_Cause a1_Value a1_Place a1_GVA a2)
                          (sallyportlaw16_TrapHost_c20 a0_X a0_PC a0_Level a0_V a0_C a0_Done a1_Cause a1_Value a1_Place a1_GVA a2)
                          (fun i0 => sallyportlaw16_TrapHost_c21 a0_X a0_PC a0_Level a0_V a0_C a0_Done a1_Cause a1_Value a1_Place a1_GVA a2 i0) a0_Done)
                        (sallyportref18_Clean1 (fun i0 => a0_X i0) a0_PC a0_Level a0_V (fun i0 => a0_C i0) a0_Done) then
                  true
                else
                  iNe
                    (trap_Sret2 (fun i0 => sallyportref18_Clean0 (fun i0 => a0_X i0) a0_PC a0_Level a0_V (fun i0 => a0_C i0) a0_Done i0)
                      (sallyportlaw16_TrapHost_c18 a0_X a0_PC a0_Level a0_V a0_C a0_Done a1_Cause a1_Value a1_Place a1_GVA a2)
                      (sallyportlaw16_TrapHost_c19 a0_X a0_PC a0_Level a0_V a0_C a0_Done a1_Cause a1_Value a1_Place a1_GVA a2)
                      (sallyportlaw16_TrapHost_c20 a0_X a0_PC a0_Level a0_V a0_C a0_Done a1_Cause a1_Value a1_Place a1_GVA a2)
                      (fun i0 => sallyportlaw16_TrapHost_c21 a0_X a0_PC a0_Level a0_V a0_C a0_Done a1_Cause a1_Value a1_Place a1_GVA a2 i0) a0_Done)
                    1 then
              true
            else
              !trap_Sret3 (fun i0 => sallyportref18_Clean0 (fun i0 => a0_X i0) a0_PC a0_Level a0_V (fun i0 => a0_C i0) a0_Done i0)
                  (sallyportlaw16_TrapHost_c18 a0_X a0_PC a0_Level a0_V a0_C a0_Done a1_Cause a1_Value a1_Place a1_GVA a2)
                  (sallyportlaw16_TrapHost_c19 a0_X a0_PC a0_Level a0_V a0_C a0_Done a1_Cause a1_Value a1_Place a1_GVA a2)
                  (sallyportlaw16_TrapHost_c20 a0_X a0_PC a0_Level a0_V a0_C a0_Done a1_Cause a1_Value a1_Place a1_GVA a2)
                  (fun i0 => sallyportlaw16_TrapHost_c21 a0_X a0_PC a0_Level a0_V a0_C a0_Done a1_Cause a1_Value a1_Place a1_GVA a2 i0) a0_Done then
          true
        else
          !(List.range 32).all fun i =>
              iEq (sallyportref18_Clean0 (fun i0 => a0_X i0) a0_PC a0_Level a0_V (fun i0 => a0_C i0) a0_Done i)
                (sallyportref18_Clean0 (fun i0 => a0_X i0) a0_PC a0_Level a0_V (fun i0 => a0_C i0) a0_Done i) then
      false
    else
      bif
          bif sallyportlaw16_TrapHost_c22 a0_X a0_PC a0_Level a0_V a0_C a0_Done a1_Cause a1_Value a1_Place a1_GVA a2 then true
          else
            iNe (sallyportlaw16_TrapHost_c23 a0_X a0_PC a0_Level a0_V a0_C a0_Done a1_Cause a1_Value a1_Place a1_GVA a2 22)
              (sallyportref18_Clean4 (fun i0 => a0_X i0) a0_PC a0_Level a0_V (fun i0 => a0_C i0) a0_Done 22) then
        false
      else
        bif
            bif sallyportlaw16_TrapHost_c24 a0_X a0_PC a0_Level a0_V a0_C a0_Done a1_Cause a1_Value a1_Place a1_GVA a2 then true
            else
              iNe (sallyportlaw16_TrapHost_c23 a0_X a0_PC a0_Level a0_V a0_C a0_Done a1_Cause a1_Value a1_Place a1_GVA a2 23)
                (sallyportref18_Clean4 (fun i0 => a0_X i0) a0_PC a0_Level a0_V (fun i0 => a0_C i0) a0_Done 23) then
          false
        else
          bif
              bif sallyportlaw16_TrapHost_c25 a0_X a0_PC a0_Level a0_V a0_C a0_Done a1_Cause a1_Value a1_Place a1_GVA a2 then true
              else
                iNe (sallyportlaw16_TrapHost_c23 a0_X a0_PC a0_Level a0_V a0_C a0_Done a1_Cause a1_Value a1_Place a1_GVA a2 24)
                  (sallyportref18_Clean4 (fun i0 => a0_X i0) a0_PC a0_Level a0_V (fun i0 => a0_C i0) a0_Done 24) then
            false
          else
            bif
                bif sallyportlaw16_TrapHost_c26 a0_X a0_PC a0_Level a0_V a0_C a0_Done a1_Cause a1_Value a1_Place a1_GVA a2 then true
                else
                  iNe (sallyportlaw16_TrapHost_c23 a0_X a0_PC a0_Level a0_V a0_C a0_Done a1_Cause a1_Value a1_Place a1_GVA a2 25)
                    (sallyportref18_Clean4 (fun i0 => a0_X i0) a0_PC a0_Level a0_V (fun i0 => a0_C i0) a0_Done 25) then
              false
            else
              bif
                  bif sallyportlaw16_TrapHost_c27 a0_X a0_PC a0_Level a0_V a0_C a0_Done a1_Cause a1_Value a1_Place a1_GVA a2 then true
                  else
                    iNe (sallyportlaw16_TrapHost_c23 a0_X a0_PC a0_Level a0_V a0_C a0_Done a1_Cause a1_Value a1_Place a1_GVA a2 26)
                      (sallyportref18_Clean4 (fun i0 => a0_X i0) a0_PC a0_Level a0_V (fun i0 => a0_C i0) a0_Done 26) then
                false
              else
                bif
                    bif sallyportlaw16_TrapHost_c28 a0_X a0_PC a0_Level a0_V a0_C a0_Done a1_Cause a1_Value a1_Place a1_GVA a2 then true
                    else
                      iNe (sallyportlaw16_TrapHost_c23 a0_X a0_PC a0_Level a0_V a0_C a0_Done a1_Cause a1_Value a1_Place a1_GVA a2 27)
                        (sallyportref18_Clean4 (fun i0 => a0_X i0) a0_PC a0_Level a0_V (fun i0 => a0_C i0) a0_Done 27) then
                  false
                else
                  bif
                      bif sallyportlaw16_TrapHost_c29 a0_X a0_PC a0_Level a0_V a0_C a0_Done a1_Cause a1_Value a1_Place a1_GVA a2 then true
                      else
                        iNe (sallyportlaw16_TrapHost_c23 a0_X a0_PC a0_Level a0_V a0_C a0_Done a1_Cause a1_Value a1_Place a1_GVA a2 28)
                          (sallyportref18_Clean4 (fun i0 => a0_X i0) a0_PC a0_Level a0_V (fun i0 => a0_C i0) a0_Done 28) then
                    false
                  else
                    bif sallyportlaw16_TrapHost_c35 a0_X a0_PC a0_Level a0_V a0_C a0_Done a1_Cause a1_Value a1_Place a1_GVA a2 then
                      iEq (sallyportlaw16_TrapHost_c21 a0_X a0_PC a0_Level a0_V a0_C a0_Done a1_Cause a1_Value a1_Place a1_GVA a2 6)
                        (sallyportref18_Clean4 (fun i0 => a0_X i0) a0_PC a0_Level a0_V (fun i0 => a0_C i0) a0_Done 6)
                    else false
def sallyportlaw16_TrapHostG (a0_X : Nat → Int) (a0_PC : Int) (a0_Level : Int) (a0_V : Bool) (a0_C : Nat → Int) (a0_Done : Int) (a1_Cause : Int) (a1_Value : Int) (a1_Place : Int) (a1_GVA : Bool) (a2 : Bool) : Bool :=
  bif a2 then
    bif
        bif
            bif
                bif
                    bif
                        !trap_Sret7 (fun i0 => sallyportref18_Clean0 (fun i0 => a0_X i0) a0_PC a0_Level a0_V (fun i0 => a0_C i0) a0_Done i0)
                            (sallyportlaw16_TrapHost_c0 a0_X a0_PC a0_Level a0_V a0_C a0_Done a1_Cause a1_Value a1_Place a1_GVA a2)
                            (sallyportlaw16_TrapHost_c1 a0_X a0_PC a0_Level a0_V a0_C a0_Done a1_Cause a1_Value a1_Place a1_GVA a2)
                            (sallyportlaw16_TrapHost_c2 a0_X a0_PC a0_Level a0_V a0_C a0_Done a1_Cause a1_Value a1_Place a1_GVA a2)
                            (fun i0 => sallyportlaw16_TrapHost_c3 a0_X a0_PC a0_Level a0_V a0_C a0_Done a1_Cause a1_Value a1_Place a1_GVA a2 i0) a0_Done then
                      true
                    else
                      iNe
                        (trap_Sret1 (fun i0 => sallyportref18_Clean0 (fun i0 => a0_X i0) a0_PC a0_Level a0_V (fun i0 => a0_C i0) a0_Done i0)
                          (sallyportlaw16_TrapHost_c0 a0_X a0_PC a0_Level a0_V a0_C a0_Done a1_Cause a1_Value a1_Place a1_GVA a2)
                          (sallyportlaw16_TrapHost_c1 a0_X a0_PC a0_Level a0_V a0_C a0_Done a1_Cause a1_Value a1_Place a1_GVA a2)
                          (sallyportlaw16_TrapHost_c2 a0_X a0_PC a0_Level a0_V a0_C a0_Done a1_Cause a1_Value a1_Place a1_GVA a2)
                          (fun i0 => sallyportlaw16_TrapHost_c3 a0_X a0_PC a0_Level a0_V a0_C a0_Done a1_Cause a1_Value a1_Place a1_GVA a2 i0) a0_Done)
                        (sallyportref18_Clean1 (fun i0 => a0_X i0) a0_PC a0_Level a0_V (fun i0 => a0_C i0) a0_Done) then
                  true
                else
                  iNe
                    (trap_Sret2 (fun i0 => sallyportref18_Clean0 (fun i0 => a0_X i0) a0_PC a0_Level a0_V (fun i0 => a0_C i0) a0_Done i0)
                      (sallyportlaw16_TrapHost_c0 a0_X a0_PC a0_Level a0_V a0_C a0_Done a1_Cause a1_Value a1_Place a1_GVA a2)
                      (sallyportlaw16_TrapHost_c1 a0_X a0_PC a0_Level a0_V a0_C a0_Done a1_Cause a1_Value a1_Place a1_GVA a2)
                      (sallyportlaw16_TrapHost_c2 a0_X a0_PC a0_Level a0_V a0_C a0_Done a1_Cause a1_Value a1_Place a1_GVA a2)
                      (fun i0 => sallyportlaw16_TrapHost_c3 a0_X a0_PC a0_Level a0_V a0_C a0_Done a1_Cause a1_Value a1_Place a1_GVA a2 i0) a0_Done)
                    0 then
              true
            else
              !trap_Sret3 (fun i0 => sallyportref18_Clean0 (fun i0 => a0_X i0) a0_PC a0_Level a0_V (fun i0 => a0_C i0) a0_Done i0)
                  (sallyportlaw16_TrapHost_c0 a0_X a0_PC a0_Level a0_V a0_C a0_Done a1_Cause a1_Value a1_Place a1_GVA a2)
                  (sallyportlaw16_TrapHost_c1 a0_X a0_PC a0_Level a0_V a0_C a0_Done a1_Cause a1_Value a1_Place a1_GVA a2)
                  (sallyportlaw16_TrapHost_c2 a0_X a0_PC a0_Level a0_V a0_C a0_Done a1_Cause a1_Value a1_Place a1_GVA a2)
                  (fun i0 => sallyportlaw16_TrapHost_c3 a0_X a0_PC a0_Level a0_V a0_C a0_Done a1_Cause a1_Value a1_Place a1_GVA a2 i0) a0_Done then
          true
        else
          !(List.range 32).all fun i =>
              iEq (sallyportref18_Clean0 (fun i0 => a0_X i0) a0_PC a0_Level a0_V (fun i0 => a0_C i0) a0_Done i)
                (sallyportref18_Clean0 (fun i0 => a0_X i0) a0_PC a0_Level a0_V (fun i0 => a0_C i0) a0_Done i) then
      true
    else
      (!!sallyportlaw16_TrapHost_c4 a0_X a0_PC a0_Level a0_V a0_C a0_Done a1_Cause a1_Value a1_Place a1_GVA a2 || true) &&
        ((!!sallyportlaw16_TrapHost_c4 a0_X a0_PC a0_Level a0_V a0_C a0_Done a1_Cause a1_Value a1_Place a1_GVA a2 || true) &&
          bif
              bif sallyportlaw16_TrapHost_c4 a0_X a0_PC a0_Level a0_V a0_C a0_Done a1_Cause a1_Value a1_Place a1_GVA a2 then true
              else
                iNe (sallyportlaw16_TrapHost_c5 a0_X a0_PC a0_Level a0_V a0_C a0_Done a1_Cause a1_Value a1_Place a1_GVA a2 22)
                  (sallyportref18_Clean4 (fun i0 => a0_X i0) a0_PC a0_Level a0_V (fun i0 => a0_C i0) a0_Done 22) then
            true
          else
            (!!sallyportlaw16_TrapHost_c6 a0_X a0_PC a0_Level a0_V a0_C a0_Done a1_Cause a1_Value a1_Place a1_GVA a2 || true) &&
              ((!!sallyportlaw16_TrapHost_c6 a0_X a0_PC a0_Level a0_V a0_C a0_Done a1_Cause a1_Value a1_Place a1_GVA a2 || true) &&
                bif
                    bif sallyportlaw16_TrapHost_c6 a0_X a0_PC a0_Level a0_V a0_C a0_Done a1_Cause a1_Value a1_Place a1_GVA a2 then true
                    else
                      iNe (sallyportlaw16_TrapHost_c5 a0_X a0_PC a0_Level a0_V a0_C a0_Done a1_Cause a1_Value a1_Place a1_GVA a2 23)
                        (sallyportref18_Clean4 (fun i0 => a0_X i0) a0_PC a0_Level a0_V (fun i0 => a0_C i0) a0_Done 23) then
                  true
                else
                  (!!sallyportlaw16_TrapHost_c7 a0_X a0_PC a0_Level a0_V a0_C a0_Done a1_Cause a1_Value a1_Place a1_GVA a2 || true) &&
                    ((!!sallyportlaw16_TrapHost_c7 a0_X a0_PC a0_Level a0_V a0_C a0_Done a1_Cause a1_Value a1_Place a1_GVA a2 || true) &&
                      bif
                          bif sallyportlaw16_TrapHost_c7 a0_X a0_PC a0_Level a0_V a0_C a0_Done a1_Cause a1_Value a1_Place a1_GVA a2 then true
                          else
                            iNe (sallyportlaw16_TrapHost_c5 a0_X a0_PC a0_Level a0_V a0_C a0_Done a1_Cause a1_Value a1_Place a1_GVA a2 24)
                              (sallyportref18_Clean4 (fun i0 => a0_X i0) a0_PC a0_Level a0_V (fun i0 => a0_C i0) a0_Done 24) then
                        true
                      else
                        (!!sallyportlaw16_TrapHost_c8 a0_X a0_PC a0_Level a0_V a0_C a0_Done a1_Cause a1_Value a1_Place a1_GVA a2 || true) &&
                          ((!!sallyportlaw16_TrapHost_c8 a0_X a0_PC a0_Level a0_V a0_C a0_Done a1_Cause a1_Value a1_Place a1_GVA a2 || true) &&
                            bif
                                bif sallyportlaw16_TrapHost_c8 a0_X a0_PC a0_Level a0_V a0_C a0_Done a1_Cause a1_Value a1_Place a1_GVA a2 then true
                                else
                                  iNe (sallyportlaw16_TrapHost_c5 a0_X a0_PC a0_Level a0_V a0_C a0_Done a1_Cause a1_Value a1_Place a1_GVA a2 25)
                                    (sallyportref18_Clean4 (fun i0 => a0_X i0) a0_PC a0_Level a0_V (fun i0 => a0_C i0) a0_Done 25) then
                              true
                            else
                              (!!sallyportlaw16_TrapHost_c9 a0_X a0_PC a0_Level a0_V a0_C a0_Done a1_Cause a1_Value a1_Place a1_GVA a2 || true) &&
                                ((!!sallyportlaw16_TrapHost_c9 a0_X a0_PC a0_Level a0_V a0_C a0_Done a1_Cause a1_Value a1_Place a1_GVA a2 || true) &&
                                  bif
                                      bif sallyportlaw16_TrapHost_c9 a0_X a0_PC a0_Level a0_V a0_C a0_Done a1_Cause a1_Value a1_Place a1_GVA a2 then true
                                      else
                                        iNe (sallyportlaw16_TrapHost_c5 a0_X a0_PC a0_Level a0_V a0_C a0_Done a1_Cause a1_Value a1_Place a1_GVA a2 26)
                                          (sallyportref18_Clean4 (fun i0 => a0_X i0) a0_PC a0_Level a0_V (fun i0 => a0_C i0) a0_Done 26) then
                                    true
                                  else
                                    (!!sallyportlaw16_TrapHost_c10 a0_X a0_PC a0_Level a0_V a0_C a0_Done a1_Cause a1_Value a1_Place a1_GVA a2 || true) &&
                                      ((!!sallyportlaw16_TrapHost_c10 a0_X a0_PC a0_Level a0_V a0_C a0_Done a1_Cause a1_Value a1_Place a1_GVA a2 || true) &&
                                        bif
                                            bif sallyportlaw16_TrapHost_c10 a0_X a0_PC a0_Level a0_V a0_C a0_Done a1_Cause a1_Value a1_Place a1_GVA a2 then true
                                            else
                                              iNe (sallyportlaw16_TrapHost_c5 a0_X a0_PC a0_Level a0_V a0_C a0_Done a1_Cause a1_Value a1_Place a1_GVA a2 27)
                                                (sallyportref18_Clean4 (fun i0 => a0_X i0) a0_PC a0_Level a0_V (fun i0 => a0_C i0) a0_Done 27) then
                                          true
                                        else
                                          (!!sallyportlaw16_TrapHost_c11 a0_X a0_PC a0_Level a0_V a0_C a0_Done a1_Cause a1_Value a1_Place a1_GVA a2 || true) &&
                                            ((!!sallyportlaw16_TrapHost_c11 a0_X a0_PC a0_Level a0_V a0_C a0_Done a1_Cause a1_Value a1_Place a1_GVA a2 || true) &&
                                              bif
                                                  bif sallyportlaw16_TrapHost_c11 a0_X a0_PC a0_Level a0_V a0_C a0_Done a1_Cause a1_Value a1_Place a1_GVA a2 then true
                                                  else
                                                    iNe (sallyportlaw16_TrapHost_c5 a0_X a0_PC a0_Level a0_V a0_C a0_Done a1_Cause a1_Value a1_Place a1_GVA a2 28)
                                                      (sallyportref18_Clean4 (fun i0 => a0_X i0) a0_PC a0_Level a0_V (fun i0 => a0_C i0) a0_Done 28) then
                                                true
                                              else
                                                (!sallyportlaw16_TrapHost_c12 a0_X a0_PC a0_Level a0_V a0_C a0_Done a1_Cause a1_Value a1_Place a1_GVA a2 || true) &&
                                                  ((!sallyportlaw16_TrapHost_c13 a0_X a0_PC a0_Level a0_V a0_C a0_Done a1_Cause a1_Value a1_Place a1_GVA a2 || true) &&
                                                    ((!sallyportlaw16_TrapHost_c14 a0_X a0_PC a0_Level a0_V a0_C a0_Done a1_Cause a1_Value a1_Place a1_GVA a2 || true) &&
                                                      ((!sallyportlaw16_TrapHost_c15 a0_X a0_PC a0_Level a0_V a0_C a0_Done a1_Cause a1_Value a1_Place a1_GVA a2 || true) &&
                                                        ((!sallyportlaw16_TrapHost_c16 a0_X a0_PC a0_Level a0_V a0_C a0_Done a1_Cause a1_Value a1_Place a1_GVA a2 || true) &&
                                                          ((!sallyportlaw16_TrapHost_c17 a0_X a0_PC a0_Level a0_V a0_C a0_Done a1_Cause a1_Value a1_Place a1_GVA a2 || true) &&
                                                            ((!sallyportlaw16_TrapHost_c17 a0_X a0_PC a0_Level a0_V a0_C a0_Done a1_Cause a1_Value a1_Place a1_GVA a2 || true) && true)))))))))))))
  else
    bif
        bif
            bif
                bif
                    bif
                        !trap_Sret7 (fun i0 => sallyportref18_Clean0 (fun i0 => a0_X i0) a0_PC a0_Level a0_V (fun i0 => a0_C i0) a0_Done i0)
                            (sallyportlaw16_TrapHost_c18 a0_X a0_PC a0_Level a0_V a0_C a0_Done a1_Cause a1_Value a1_Place a1_GVA a2)
                            (sallyportlaw16_TrapHost_c19 a0_X a0_PC a0_Level a0_V a0_C a0_Done a1_Cause a1_Value a1_Place a1_GVA a2)
                            (sallyportlaw16_TrapHost_c20 a0_X a0_PC a0_Level a0_V a0_C a0_Done a1_Cause a1_Value a1_Place a1_GVA a2)
                            (fun i0 => sallyportlaw16_TrapHost_c21 a0_X a0_PC a0_Level a0_V a0_C a0_Done a1_Cause a1_Value a1_Place a1_GVA a2 i0) a0_Done then
                      true
                    else
                      iNe
                        (trap_Sret1 (fun i0 => sallyportref18_Clean0 (fun i0 => a0_X i0) a0_PC a0_Level a0_V (fun i0 => a0_C i0) a0_Done i0)
                          (sallyportlaw16_TrapHost_c18 a0_X a0_PC a0_Level a0_V a0_C a0_Done a1_Cause a1_Value a1_Place a1_GVA a2)
                          (sallyportlaw16_TrapHost_c19 a0_X a0_PC a0_Level a0_V a0_C a0_Done a1_Cause a1_Value a1_Place a1_GVA a2)
                          (sallyportlaw16_TrapHost_c20 a0_X a0_PC a0_Level a0_V a0_C a0_Done a1_Cause a1_Value a1_Place a1_GVA a2)
                          (fun i0 => sallyportlaw16_TrapHost_c21 a0_X a0_PC a0_Level a0_V a0_C a0_Done a1_Cause a1_Value a1_Place a1_GVA a2 i0) a0_Done)
                        (sallyportref18_Clean1 (fun i0 => a0_X i0) a0_PC a0_Level a0_V (fun i0 => a0_C i0) a0_Done) then
                  true
                else
                  iNe
                    (trap_Sret2 (fun i0 => sallyportref18_Clean0 (fun i0 => a0_X i0) a0_PC a0_Level a0_V (fun i0 => a0_C i0) a0_Done i0)
                      (sallyportlaw16_TrapHost_c18 a0_X a0_PC a0_Level a0_V a0_C a0_Done a1_Cause a1_Value a1_Place a1_GVA a2)
                      (sallyportlaw16_TrapHost_c19 a0_X a0_PC a0_Level a0_V a0_C a0_Done a1_Cause a1_Value a1_Place a1_GVA a2)
                      (sallyportlaw16_TrapHost_c20 a0_X a0_PC a0_Level a0_V a0_C a0_Done a1_Cause a1_Value a1_Place a1_GVA a2)
                      (fun i0 => sallyportlaw16_TrapHost_c21 a0_X a0_PC a0_Level a0_V a0_C a0_Done a1_Cause a1_Value a1_Place a1_GVA a2 i0) a0_Done)
                    1 then
              true
            else
              !trap_Sret3 (fun i0 => sallyportref18_Clean0 (fun i0 => a0_X i0) a0_PC a0_Level a0_V (fun i0 => a0_C i0) a0_Done i0)
                  (sallyportlaw16_TrapHost_c18 a0_X a0_PC a0_Level a0_V a0_C a0_Done a1_Cause a1_Value a1_Place a1_GVA a2)
                  (sallyportlaw16_TrapHost_c19 a0_X a0_PC a0_Level a0_V a0_C a0_Done a1_Cause a1_Value a1_Place a1_GVA a2)
                  (sallyportlaw16_TrapHost_c20 a0_X a0_PC a0_Level a0_V a0_C a0_Done a1_Cause a1_Value a1_Place a1_GVA a2)
                  (fun i0 => sallyportlaw16_TrapHost_c21 a0_X a0_PC a0_Level a0_V a0_C a0_Done a1_Cause a1_Value a1_Place a1_GVA a2 i0) a0_Done then
          true
        else
          !(List.range 32).all fun i =>
              iEq (sallyportref18_Clean0 (fun i0 => a0_X i0) a0_PC a0_Level a0_V (fun i0 => a0_C i0) a0_Done i)
                (sallyportref18_Clean0 (fun i0 => a0_X i0) a0_PC a0_Level a0_V (fun i0 => a0_C i0) a0_Done i) then
      true
    else
      (!!sallyportlaw16_TrapHost_c22 a0_X a0_PC a0_Level a0_V a0_C a0_Done a1_Cause a1_Value a1_Place a1_GVA a2 || true) &&
        ((!!sallyportlaw16_TrapHost_c22 a0_X a0_PC a0_Level a0_V a0_C a0_Done a1_Cause a1_Value a1_Place a1_GVA a2 || true) &&
          bif
              bif sallyportlaw16_TrapHost_c22 a0_X a0_PC a0_Level a0_V a0_C a0_Done a1_Cause a1_Value a1_Place a1_GVA a2 then true
              else
                iNe (sallyportlaw16_TrapHost_c23 a0_X a0_PC a0_Level a0_V a0_C a0_Done a1_Cause a1_Value a1_Place a1_GVA a2 22)
                  (sallyportref18_Clean4 (fun i0 => a0_X i0) a0_PC a0_Level a0_V (fun i0 => a0_C i0) a0_Done 22) then
            true
          else
            (!!sallyportlaw16_TrapHost_c24 a0_X a0_PC a0_Level a0_V a0_C a0_Done a1_Cause a1_Value a1_Place a1_GVA a2 || true) &&
              ((!!sallyportlaw16_TrapHost_c24 a0_X a0_PC a0_Level a0_V a0_C a0_Done a1_Cause a1_Value a1_Place a1_GVA a2 || true) &&
                bif
                    bif sallyportlaw16_TrapHost_c24 a0_X a0_PC a0_Level a0_V a0_C a0_Done a1_Cause a1_Value a1_Place a1_GVA a2 then true
                    else
                      iNe (sallyportlaw16_TrapHost_c23 a0_X a0_PC a0_Level a0_V a0_C a0_Done a1_Cause a1_Value a1_Place a1_GVA a2 23)
                        (sallyportref18_Clean4 (fun i0 => a0_X i0) a0_PC a0_Level a0_V (fun i0 => a0_C i0) a0_Done 23) then
                  true
                else
                  (!!sallyportlaw16_TrapHost_c25 a0_X a0_PC a0_Level a0_V a0_C a0_Done a1_Cause a1_Value a1_Place a1_GVA a2 || true) &&
                    ((!!sallyportlaw16_TrapHost_c25 a0_X a0_PC a0_Level a0_V a0_C a0_Done a1_Cause a1_Value a1_Place a1_GVA a2 || true) &&
                      bif
                          bif sallyportlaw16_TrapHost_c25 a0_X a0_PC a0_Level a0_V a0_C a0_Done a1_Cause a1_Value a1_Place a1_GVA a2 then true
                          else
                            iNe (sallyportlaw16_TrapHost_c23 a0_X a0_PC a0_Level a0_V a0_C a0_Done a1_Cause a1_Value a1_Place a1_GVA a2 24)
                              (sallyportref18_Clean4 (fun i0 => a0_X i0) a0_PC a0_Level a0_V (fun i0 => a0_C i0) a0_Done 24) then
                        true
                      else
                        (!!sallyportlaw16_TrapHost_c26 a0_X a0_PC a0_Level a0_V a0_C a0_Done a1_Cause a1_Value a1_Place a1_GVA a2 || true) &&
                          ((!!sallyportlaw16_TrapHost_c26 a0_X a0_PC a0_Level a0_V a0_C a0_Done a1_Cause a1_Value a1_Place a1_GVA a2 || true) &&
                            bif
                                bif sallyportlaw16_TrapHost_c26 a0_X a0_PC a0_Level a0_V a0_C a0_Done a1_Cause a1_Value a1_Place a1_GVA a2 then true
                                else
                                  iNe (sallyportlaw16_TrapHost_c23 a0_X a0_PC a0_Level a0_V a0_C a0_Done a1_Cause a1_Value a1_Place a1_GVA a2 25)
                                    (sallyportref18_Clean4 (fun i0 => a0_X i0) a0_PC a0_Level a0_V (fun i0 => a0_C i0) a0_Done 25) then
                              true
                            else
                              (!!sallyportlaw16_TrapHost_c27 a0_X a0_PC a0_Level a0_V a0_C a0_Done a1_Cause a1_Value a1_Place a1_GVA a2 || true) &&
                                ((!!sallyportlaw16_TrapHost_c27 a0_X a0_PC a0_Level a0_V a0_C a0_Done a1_Cause a1_Value a1_Place a1_GVA a2 || true) &&
                                  bif
                                      bif sallyportlaw16_TrapHost_c27 a0_X a0_PC a0_Level a0_V a0_C a0_Done a1_Cause a1_Value a1_Place a1_GVA a2 then true
                                      else
                                        iNe (sallyportlaw16_TrapHost_c23 a0_X a0_PC a0_Level a0_V a0_C a0_Done a1_Cause a1_Value a1_Place a1_GVA a2 26)
                                          (sallyportref18_Clean4 (fun i0 => a0_X i0) a0_PC a0_Level a0_V (fun i0 => a0_C i0) a0_Done 26) then
                                    true
                                  else
                                    (!!sallyportlaw16_TrapHost_c28 a0_X a0_PC a0_Level a0_V a0_C a0_Done a1_Cause a1_Value a1_Place a1_GVA a2 || true) &&
                                      ((!!sallyportlaw16_TrapHost_c28 a0_X a0_PC a0_Level a0_V a0_C a0_Done a1_Cause a1_Value a1_Place a1_GVA a2 || true) &&
                                        bif
                                            bif sallyportlaw16_TrapHost_c28 a0_X a0_PC a0_Level a0_V a0_C a0_Done a1_Cause a1_Value a1_Place a1_GVA a2 then true
                                            else
                                              iNe (sallyportlaw16_TrapHost_c23 a0_X a0_PC a0_Level a0_V a0_C a0_Done a1_Cause a1_Value a1_Place a1_GVA a2 27)
                                                (sallyportref18_Clean4 (fun i0 => a0_X i0) a0_PC a0_Level a0_V (fun i0 => a0_C i0) a0_Done 27) then
                                          true
                                        else
                                          (!!sallyportlaw16_TrapHost_c29 a0_X a0_PC a0_Level a0_V a0_C a0_Done a1_Cause a1_Value a1_Place a1_GVA a2 || true) &&
                                            ((!!sallyportlaw16_TrapHost_c29 a0_X a0_PC a0_Level a0_V a0_C a0_Done a1_Cause a1_Value a1_Place a1_GVA a2 || true) &&
                                              bif
                                                  bif sallyportlaw16_TrapHost_c29 a0_X a0_PC a0_Level a0_V a0_C a0_Done a1_Cause a1_Value a1_Place a1_GVA a2 then true
                                                  else
                                                    iNe (sallyportlaw16_TrapHost_c23 a0_X a0_PC a0_Level a0_V a0_C a0_Done a1_Cause a1_Value a1_Place a1_GVA a2 28)
                                                      (sallyportref18_Clean4 (fun i0 => a0_X i0) a0_PC a0_Level a0_V (fun i0 => a0_C i0) a0_Done 28) then
                                                true
                                              else
                                                (!sallyportlaw16_TrapHost_c30 a0_X a0_PC a0_Level a0_V a0_C a0_Done a1_Cause a1_Value a1_Place a1_GVA a2 || true) &&
                                                  ((!sallyportlaw16_TrapHost_c31 a0_X a0_PC a0_Level a0_V a0_C a0_Done a1_Cause a1_Value a1_Place a1_GVA a2 || true) &&
                                                    ((!sallyportlaw16_TrapHost_c32 a0_X a0_PC a0_Level a0_V a0_C a0_Done a1_Cause a1_Value a1_Place a1_GVA a2 || true) &&
                                                      ((!sallyportlaw16_TrapHost_c33 a0_X a0_PC a0_Level a0_V a0_C a0_Done a1_Cause a1_Value a1_Place a1_GVA a2 || true) &&
                                                        ((!sallyportlaw16_TrapHost_c34 a0_X a0_PC a0_Level a0_V a0_C a0_Done a1_Cause a1_Value a1_Place a1_GVA a2 || true) &&
                                                          ((!sallyportlaw16_TrapHost_c35 a0_X a0_PC a0_Level a0_V a0_C a0_Done a1_Cause a1_Value a1_Place a1_GVA a2 || true) &&
                                                            ((!sallyportlaw16_TrapHost_c35 a0_X a0_PC a0_Level a0_V a0_C a0_Done a1_Cause a1_Value a1_Place a1_GVA a2 || true) && true)))))))))))))
def sallyportlaw16_TrapHostV (a0_X : Nat → Int) (a0_PC : Int) (a0_Level : Int) (a0_V : Bool) (a0_C : Nat → Int) (a0_Done : Int) (a1_Cause : Int) (a1_Value : Int) (a1_Place : Int) (a1_GVA : Bool) (a2 : Bool) : AV := .bl (sallyportlaw16_TrapHost0 a0_X a0_PC a0_Level a0_V a0_C a0_Done a1_Cause a1_Value a1_Place a1_GVA a2)
theorem sallyportlaw16_TrapHostE (g : Nat → AV) : pcOf Try.prog okT (lookR T9) (inl Try.prog okT (lookR T9) RO FS 100 ST 2) RO NOV 100 false Try.f5 (norms [(.agg [(.arr 32 (.int .u64)), (.int .u64), (.int .i64), .bool, (.arr 29 (.int .u64)), (.int .u64)]), (.agg [(.int .u64), (.int .u64), (.int .u64), .bool]), .bool] 0 g) = some (sallyportlaw16_TrapHostG (fun i0 => (((g 0).fld 0).ix i0).num) (((g 0).fld 1).num) (((g 0).fld 2).num) (((g 0).fld 3).bool) (fun i0 => (((g 0).fld 4).ix i0).num) (((g 0).fld 5).num) (((g 1).fld 0).num) (((g 1).fld 1).num) (((g 1).fld 2).num) (((g 1).fld 3).bool) ((g 2).bool), sallyportlaw16_TrapHostV (fun i0 => (((g 0).fld 0).ix i0).num) (((g 0).fld 1).num) (((g 0).fld 2).num) (((g 0).fld 3).bool) (fun i0 => (((g 0).fld 4).ix i0).num) (((g 0).fld 5).num) (((g 1).fld 0).num) (((g 1).fld 1).num) (((g 1).fld 2).num) (((g 1).fld 3).bool) ((g 2).bool)) := by kernel_rfl
theorem sallyportlaw16_TrapHostP : Plain Try.prog 5 Try.f5 := ⟨Try.func5, of_decide_eq_true (by kernel_rfl)⟩
theorem sallyportlaw16_TrapHostT (a0_X : Nat → Int) (a0_PC : Int) (a0_Level : Int) (a0_V : Bool) (a0_C : Nat → Int) (a0_Done : Int) (a1_Cause : Int) (a1_Value : Int) (a1_Place : Int) (a1_GVA : Bool) (a2 : Bool) : sallyportlaw16_TrapHostG a0_X a0_PC a0_Level a0_V a0_C a0_Done a1_Cause a1_Value a1_Place a1_GVA a2 = true := by first | (simp [sallyportlaw16_TrapHostG]; done) | (simp [sallyportlaw16_TrapHostG, Go.Ev.iEq, Go.Ev.iNe, Go.Ev.iLt, Go.Ev.iLe, Go.Ev.iIn]; omega)
theorem sallyportlaw16_TrapHostO : RowOk Try.prog 5 (rowF [(.agg [(.arr 32 (.int .u64)), (.int .u64), (.int .i64), .bool, (.arr 29 (.int .u64)), (.int .u64)]), (.agg [(.int .u64), (.int .u64), (.int .u64), .bool]), .bool] none fun g => sallyportlaw16_TrapHostV (fun i0 => (((g 0).fld 0).ix i0).num) (((g 0).fld 1).num) (((g 0).fld 2).num) (((g 0).fld 3).bool) (fun i0 => (((g 0).fld 4).ix i0).num) (((g 0).fld 5).num) (((g 1).fld 0).num) (((g 1).fld 1).num) (((g 1).fld 2).num) (((g 1).fld 3).bool) ((g 2).bool)) := rowT_ok fun g => pcOf_ok mix fair T9_ok (inl_ok mix fair T9_ok FS_ok 2) sallyportlaw16_TrapHostP (fun c _ => OvOk_none c) (sallyportlaw16_TrapHostE g) (sallyportlaw16_TrapHostT (fun i0 => (((g 0).fld 0).ix i0).num) (((g 0).fld 1).num) (((g 0).fld 2).num) (((g 0).fld 3).bool) (fun i0 => (((g 0).fld 4).ix i0).num) (((g 0).fld 5).num) (((g 1).fld 0).num) (((g 1).fld 1).num) (((g 1).fld 2).num) (((g 1).fld 3).bool) ((g 2).bool))
def T5 : List Row := (5, (rowF [(.agg [(.arr 32 (.int .u64)), (.int .u64), (.int .i64), .bool, (.arr 29 (.int .u64)), (.int .u64)]), (.agg [(.int .u64), (.int .u64), (.int .u64), .bool]), .bool] none fun g => sallyportlaw16_TrapHostV (fun i0 => (((g 0).fld 0).ix i0).num) (((g 0).fld 1).num) (((g 0).fld 2).num) (((g 0).fld 3).bool) (fun i0 => (((g 0).fld 4).ix i0).num) (((g 0).fld 5).num) (((g 1).fld 0).num) (((g 1).fld 1).num) (((g 1).fld 2).num) (((g 1).fld 3).bool) ((g 2).bool))) :: T9
theorem T5_ok : PSound Try.prog (lookR T5) := lookR_cons sallyportlaw16_TrapHostO T9_ok

/- sallyport/sallyportlaw16.TrapGuest -/
def sallyportlaw16_TrapGuest_c0 (a0_X : Nat → Int) (a0_PC : Int) (a0_Level : Int) (a0_V : Bool) (a0_C : Nat → Int) (a0_Done : Int) (a1_Cause : Int) (a1_Value : Int) (a1_Place : Int) (a1_GVA : Bool) (a2 : Bool) : Int :=
  trap_Enter1 (fun i0 => sallyportref18_Clean0 (fun i0 => a0_X i0) a0_PC a0_Level a0_V (fun i0 => a0_C i0) a0_Done i0)
    (sallyportref18_Clean1 (fun i0 => a0_X i0) a0_PC a0_Level a0_V (fun i0 => a0_C i0) a0_Done) 0 true
    (fun i0 =>
      bif i0 == 16 then iAndNot IntKind.u64 (sallyportref18_Clean4 (fun i0 => a0_X i0) a0_PC a0_Level a0_V (fun i0 => a0_C i0) a0_Done 16) 4194304
      else sallyportref18_Clean4 (fun i0 => a0_X i0) a0_PC a0_Level a0_V (fun i0 => a0_C i0) a0_Done i0)
    a0_Done a1_Cause a1_Value a1_Place a1_GVA 1 true
def sallyportlaw16_TrapGuest_c1 (a0_X : Nat → Int) (a0_PC : Int) (a0_Level : Int) (a0_V : Bool) (a0_C : Nat → Int) (a0_Done : Int) (a1_Cause : Int) (a1_Value : Int) (a1_Place : Int) (a1_GVA : Bool) (a2 : Bool) : Int :=
  trap_Enter2 (fun i0 => sallyportref18_Clean0 (fun i0 => a0_X i0) a0_PC a0_Level a0_V (fun i0 => a0_C i0) a0_Done i0)
    (sallyportref18_Clean1 (fun i0 => a0_X i0) a0_PC a0_Level a0_V (fun i0 => a0_C i0) a0_Done) 0 true
    (fun i0 =>
      bif i0 == 16 then iAndNot IntKind.u64 (sallyportref18_Clean4 (fun i0 => a0_X i0) a0_PC a0_Level a0_V (fun i0 => a0_C i0) a0_Done 16) 4194304
      else sallyportref18_Clean4 (fun i0 => a0_X i0) a0_PC a0_Level a0_V (fun i0 => a0_C i0) a0_Done i0)
    a0_Done a1_Cause a1_Value a1_Place a1_GVA 1 true
def sallyportlaw16_TrapGuest_c2 (a0_X : Nat → Int) (a0_PC : Int) (a0_Level : Int) (a0_V : Bool) (a0_C : Nat → Int) (a0_Done : Int) (a1_Cause : Int) (a1_Value : Int) (a1_Place : Int) (a1_GVA : Bool) (a2 : Bool) : Bool :=
  trap_Enter3 (fun i0 => sallyportref18_Clean0 (fun i0 => a0_X i0) a0_PC a0_Level a0_V (fun i0 => a0_C i0) a0_Done i0)
    (sallyportref18_Clean1 (fun i0 => a0_X i0) a0_PC a0_Level a0_V (fun i0 => a0_C i0) a0_Done) 0 true
    (fun i0 =>
      bif i0 == 16 then iAndNot IntKind.u64 (sallyportref18_Clean4 (fun i0 => a0_X i0) a0_PC a0_Level a0_V (fun i0 => a0_C i0) a0_Done 16) 4194304
      else sallyportref18_Clean4 (fun i0 => a0_X i0) a0_PC a0_Level a0_V (fun i0 => a0_C i0) a0_Done i0)
    a0_Done a1_Cause a1_Value a1_Place a1_GVA 1 true
def sallyportlaw16_TrapGuest_c3 (a0_X : Nat → Int) (a0_PC : Int) (a0_Level : Int) (a0_V : Bool) (a0_C : Nat → Int) (a0_Done : Int) (a1_Cause : Int) (a1_Value : Int) (a1_Place : Int) (a1_GVA : Bool) (a2 : Bool) : Nat → Int :=
  trap_Enter4 (fun i0 => sallyportref18_Clean0 (fun i0 => a0_X i0) a0_PC a0_Level a0_V (fun i0 => a0_C i0) a0_Done i0)
    (sallyportref18_Clean1 (fun i0 => a0_X i0) a0_PC a0_Level a0_V (fun i0 => a0_C i0) a0_Done) 0 true
    (fun i0 =>
      bif i0 == 16 then iAndNot IntKind.u64 (sallyportref18_Clean4 (fun i0 => a0_X i0) a0_PC a0_Level a0_V (fun i0 => a0_C i0) a0_Done 16) 4194304
      else sallyportref18_Clean4 (fun i0 => a0_X i0) a0_PC a0_Level a0_V (fun i0 => a0_C i0) a0_Done i0)
    a0_Done a1_Cause a1_Value a1_Place a1_GVA 1 true
def sallyportlaw16_TrapGuest_c4 (a0_X : Nat → Int) (a0_PC : Int) (a0_Level : Int) (a0_V : Bool) (a0_C : Nat → Int) (a0_Done : Int) (a1_Cause : Int) (a1_Value : Int) (a1_Place : Int) (a1_GVA : Bool) (a2 : Bool) : Bool :=
  bif
      bif
          bif
              bif
                  !trap_Sret7 (fun i0 => sallyportref18_Clean0 (fun i0 => a0_X i0) a0_PC a0_Level a0_V (fun i0 => a0_C i0) a0_Done i0)
                      (sallyportlaw16_TrapGuest_c0 a0_X a0_PC a0_Level a0_V a0_C a0_Done a1_Cause a1_Value a1_Place a1_GVA a2)
                      (sallyportlaw16_TrapGuest_c1 a0_X a0_PC a0_Level a0_V a0_C a0_Done a1_Cause a1_Value a1_Place a1_GVA a2)
                      (sallyportlaw16_TrapGuest_c2 a0_X a0_PC a0_Level a0_V a0_C a0_Done a1_Cause a1_Value a1_Place a1_GVA a2)
                      (fun i0 => sallyportlaw16_TrapGuest_c3 a0_X a0_PC a0_Level a0_V a0_C a0_Done a1_Cause a1_Value a1_Place a1_GVA a2 i0) a0_Done then
                true
              else
                iNe
                  (trap_Sret1 (fun i0 => sallyportref18_Clean0 (fun i0 => a0_X i0) a0_PC a0_Level a0_V (fun i0 => a0_C i0) a0_Done i0)
                    (sallyportlaw16_TrapGuest_c0 a0_X a0_PC a0_Level a0_V a0_C a0_Done a1_Cause a1_Value a1_Place a1_GVA a2)
                    (sallyportlaw16_TrapGuest_c1 a0_X a0_PC a0_Level a0_V a0_C a0_Done a1_Cause a1_Value a1_Place a1_GVA a2)
                    (sallyportlaw16_TrapGuest_c2 a0_X a0_PC a0_Level a0_V a0_C a0_Done a1_Cause a1_Value a1_Place a1_GVA a2)
                    (fun i0 => sallyportlaw16_TrapGuest_c3 a0_X a0_PC a0_Level a0_V a0_C a0_Done a1_Cause a1_Value a1_Place a1_GVA a2 i0) a0_Done)
                  (sallyportref18_Clean1 (fun i0 => a0_X i0) a0_PC a0_Level a0_V (fun i0 => a0_C i0) a0_Done) then
            true
          else
            iNe
              (trap_Sret2 (fun i0 => sallyportref18_Clean0 (fun i0 => a0_X i0) a0_PC a0_Level a0_V (fun i0 => a0_C i0) a0_Done i0)
                (sallyportlaw16_TrapGuest_c0 a0_X a0_PC a0_Level a0_V a0_C a0_Done a1_Cause a1_Value a1_Place a1_GVA a2)
                (sallyportlaw16_TrapGuest_c1 a0_X a0_PC a0_Level a0_V a0_C a0_Done a1_Cause a1_Value a1_Place a1_GVA a2)
                (sallyportlaw16_TrapGuest_c2 a0_X a0_PC a0_Level a0_V a0_C a0_Done a1_Cause a1_Value a1_Place a1_GVA a2)
                (fun i0 => sallyportlaw16_TrapGuest_c3 a0_X a0_PC a0_Level a0_V a0_C a0_Done a1_Cause a1_Value a1_Place a1_GVA a2 i0) a0_Done)
              0 then
        true
      else
        !trap_Sret3 (fun i0 => sallyportref18_Clean0 (fun i0 => a0_X i0) a0_PC a0_Level a0_V (fun i0 => a0_C i0) a0_Done i0)
            (sallyportlaw16_TrapGuest_c0 a0_X a0_PC a0_Level a0_V a0_C a0_Done a1_Cause a1_Value a1_Place a1_GVA a2)
            (sallyportlaw16_TrapGuest_c1 a0_X a0_PC a0_Level a0_V a0_C a0_Done a1_Cause a1_Value a1_Place a1_GVA a2)
            (sallyportlaw16_TrapGuest_c2 a0_X a0_PC a0_Level a0_V a0_C a0_Done a1_Cause a1_Value a1_Place a1_GVA a2)
            (fun i0 => sallyportlaw16_TrapGuest_c3 a0_X a0_PC a0_Level a0_V a0_C a0_Done a1_Cause a1_Value a1_Place a1_GVA a2 i0) a0_Done then
    true
  else !sallyportlaw16_TrapGuest_c2 a0_X a0_PC a0_Level a0_V a0_C a0_Done a1_Cause a1_Value a1_Place a1_GVA a2
def sallyportlaw16_TrapGuest_c5 (a0_X : Nat → Int) (a0_PC : Int) (a0_Level : Int) (a0_V : Bool) (a0_C : Nat → Int) (a0_Done : Int) (a1_Cause : Int) (a1_Value : Int) (a1_Place : Int) (a1_GVA : Bool) (a2 : Bool) : Bool :=
  iNe (sallyportlaw16_TrapGuest_c3 a0_X a0_PC a0_Level a0_V a0_C a0_Done a1_Cause a1_Value a1_Place a1_GVA a2 0)
    (sallyportref18_Clean4 (fun i0 => a0_X i0) a0_PC a0_Level a0_V (fun i0 => a0_C i0) a0_Done 0)
def sallyportlaw16_TrapGuest_c6 (a0_X : Nat → Int) (a0_PC : Int) (a0_Level : Int) (a0_V : Bool) (a0_C : Nat → Int) (a0_Done : Int) (a1_Cause : Int) (a1_Value : Int) (a1_Place : Int) (a1_GVA : Bool) (a2 : Bool) : Nat → Int :=
  trap_Sret4 (fun i0 => sallyportref18_Clean0 (fun i0 => a0_X i0) a0_PC a0_Level a0_V (fun i0 => a0_C i0) a0_Done i0)
    (sallyportlaw16_TrapGuest_c0 a0_X a0_PC a0_Level a0_V a0_C a0_Done a1_Cause a1_Value a1_Place a1_GVA a2)
    (sallyportlaw16_TrapGuest_c1 a0_X a0_PC a0_Level a0_V a0_C a0_Done a1_Cause a1_Value a1_Place a1_GVA a2)
    (sallyportlaw16_TrapGuest_c2 a0_X a0_PC a0_Level a0_V a0_C a0_Done a1_Cause a1_Value a1_Place a1_GVA a2)
    (fun i0 => sallyportlaw16_TrapGuest_c3 a0_X a0_PC a0_Level a0_V a0_C a0_Done a1_Cause a1_Value a1_Place a1_GVA a2 i0) a0_Done
def sallyportlaw16_TrapGuest_c7 (a0_X : Nat → Int) (a0_PC : Int) (a0_Level : Int) (a0_V : Bool) (a0_C : Nat → Int) (a0_Done : Int) (a1_Cause : Int) (a1_Value : Int) (a1_Place : Int) (a1_GVA : Bool) (a2 : Bool) : Bool :=
  iNe (sallyportlaw16_TrapGuest_c3 a0_X a0_PC a0_Level a0_V a0_C a0_Done a1_Cause a1_Value a1_Place a1_GVA a2 1)
    (sallyportref18_Clean4 (fun i0 => a0_X i0) a0_PC a0_Level a0_V (fun i0 => a0_C i0) a0_Done 1)
def sallyportlaw16_TrapGuest_c8 (a0_X : Nat → Int) (a0_PC : Int) (a0_Level : Int) (a0_V : Bool) (a0_C : Nat → Int) (a0_Done : Int) (a1_Cause : Int) (a1_Value : Int) (a1_Place : Int) (a1_GVA : Bool) (a2 : Bool) : Bool :=
  iNe (sallyportlaw16_TrapGuest_c3 a0_X a0_PC a0_Level a0_V a0_C a0_Done a1_Cause a1_Value a1_Place a1_GVA a2 2)
    (sallyportref18_Clean4 (fun i0 => a0_X i0) a0_PC a0_Level a0_V (fun i0 => a0_C i0) a0_Done 2)
def sallyportlaw16_TrapGuest_c9 (a0_X : Nat → Int) (a0_PC : Int) (a0_Level : Int) (a0_V : Bool) (a0_C : Nat → Int) (a0_Done : Int) (a1_Cause : Int) (a1_Value : Int) (a1_Place : Int) (a1_GVA : Bool) (a2 : Bool) : Bool :=
  iNe (sallyportlaw16_TrapGuest_c3 a0_X a0_PC a0_Level a0_V a0_C a0_Done a1_Cause a1_Value a1_Place a1_GVA a2 3)
    (sallyportref18_Clean4 (fun i0 => a0_X i0) a0_PC a0_Level a0_V (fun i0 => a0_C i0) a0_Done 3)
def sallyportlaw16_TrapGuest_c10 (a0_X : Nat → Int) (a0_PC : Int) (a0_Level : Int) (a0_V : Bool) (a0_C : Nat → Int) (a0_Done : Int) (a1_Cause : Int) (a1_Value : Int) (a1_Place : Int) (a1_GVA : Bool) (a2 : Bool) : Bool :=
  iNe (sallyportlaw16_TrapGuest_c3 a0_X a0_PC a0_Level a0_V a0_C a0_Done a1_Cause a1_Value a1_Place a1_GVA a2 4)
    (sallyportref18_Clean4 (fun i0 => a0_X i0) a0_PC a0_Level a0_V (fun i0 => a0_C i0) a0_Done 4)
def sallyportlaw16_TrapGuest_c11 (a0_X : Nat → Int) (a0_PC : Int) (a0_Level : Int) (a0_V : Bool) (a0_C : Nat → Int) (a0_Done : Int) (a1_Cause : Int) (a1_Value : Int) (a1_Place : Int) (a1_GVA : Bool) (a2 : Bool) : Bool :=
  iNe (sallyportlaw16_TrapGuest_c3 a0_X a0_PC a0_Level a0_V a0_C a0_Done a1_Cause a1_Value a1_Place a1_GVA a2 5)
    (sallyportref18_Clean4 (fun i0 => a0_X i0) a0_PC a0_Level a0_V (fun i0 => a0_C i0) a0_Done 5)
def sallyportlaw16_TrapGuest_c12 (a0_X : Nat → Int) (a0_PC : Int) (a0_Level : Int) (a0_V : Bool) (a0_C : Nat → Int) (a0_Done : Int) (a1_Cause : Int) (a1_Value : Int) (a1_Place : Int) (a1_GVA : Bool) (a2 : Bool) : Bool :=
  iNe (sallyportlaw16_TrapGuest_c3 a0_X a0_PC a0_Level a0_V a0_C a0_Done a1_Cause a1_Value a1_Place a1_GVA a2 6)
    (sallyportref18_Clean4 (fun i0 => a0_X i0) a0_PC a0_Level a0_V (fun i0 => a0_C i0) a0_Done 6)
def sallyportlaw16_TrapGuest_c13 (a0_X : Nat → Int) (a0_PC : Int) (a0_Level : Int) (a0_V : Bool) (a0_C : Nat → Int) (a0_Done : Int) (a1_Cause : Int) (a1_Value : Int) (a1_Place : Int) (a1_GVA : Bool) (a2 : Bool) : Bool :=
  iNe (sallyportlaw16_TrapGuest_c3 a0_X a0_PC a0_Level a0_V a0_C a0_Done a1_Cause a1_Value a1_Place a1_GVA a2 7)
    (sallyportref18_Clean4 (fun i0 => a0_X i0) a0_PC a0_Level a0_V (fun i0 => a0_C i0) a0_Done 7)
def sallyportlaw16_TrapGuest_c14 (a0_X : Nat → Int) (a0_PC : Int) (a0_Level : Int) (a0_V : Bool) (a0_C : Nat → Int) (a0_Done : Int) (a1_Cause : Int) (a1_Value : Int) (a1_Place : Int) (a1_GVA : Bool) (a2 : Bool) : Bool :=
  iNe (sallyportlaw16_TrapGuest_c3 a0_X a0_PC a0_Level a0_V a0_C a0_Done a1_Cause a1_Value a1_Place a1_GVA a2 8)
    (sallyportref18_Clean4 (fun i0 => a0_X i0) a0_PC a0_Level a0_V (fun i0 => a0_C i0) a0_Done 8)
def sallyportlaw16_TrapGuest_c15 (a0_X : Nat → Int) (a0_PC : Int) (a0_Level : Int) (a0_V : Bool) (a0_C : Nat → Int) (a0_Done : Int) (a1_Cause : Int) (a1_Value : Int) (a1_Place : Int) (a1_GVA : Bool) (a2 : Bool) : Bool :=
  iNe (sallyportlaw16_TrapGuest_c3 a0_X a0_PC a0_Level a0_V a0_C a0_Done a1_Cause a1_Value a1_Place a1_GVA a2 9)
    (sallyportref18_Clean4 (fun i0 => a0_X i0) a0_PC a0_Level a0_V (fun i0 => a0_C i0) a0_Done 9)
def sallyportlaw16_TrapGuest_c16 (a0_X : Nat → Int) (a0_PC : Int) (a0_Level : Int) (a0_V : Bool) (a0_C : Nat → Int) (a0_Done : Int) (a1_Cause : Int) (a1_Value : Int) (a1_Place : Int) (a1_GVA : Bool) (a2 : Bool) : Bool :=
  iNe (sallyportlaw16_TrapGuest_c3 a0_X a0_PC a0_Level a0_V a0_C a0_Done a1_Cause a1_Value a1_Place a1_GVA a2 10)
    (sallyportref18_Clean4 (fun i0 => a0_X i0) a0_PC a0_Level a0_V (fun i0 => a0_C i0) a0_Done 10)
def sallyportlaw16_TrapGuest_c17 (a0_X : Nat → Int) (a0_PC : Int) (a0_Level : Int) (a0_V : Bool) (a0_C : Nat → Int) (a0_Done : Int) (a1_Cause : Int) (a1_Value : Int) (a1_Place : Int) (a1_GVA : Bool) (a2 : Bool) : Bool :=
  iNe (sallyportlaw16_TrapGuest_c3 a0_X a0_PC a0_Level a0_V a0_C a0_Done a1_Cause a1_Value a1_Place a1_GVA a2 11)
    (sallyportref18_Clean4 (fun i0 => a0_X i0) a0_PC a0_Level a0_V (fun i0 => a0_C i0) a0_Done 11)
def sallyportlaw16_TrapGuest_c18 (a0_X : Nat → Int) (a0_PC : Int) (a0_Level : Int) (a0_V : Bool) (a0_C : Nat → Int) (a0_Done : Int) (a1_Cause : Int) (a1_Value : Int) (a1_Place : Int) (a1_GVA : Bool) (a2 : Bool) : Bool :=
  iNe (sallyportlaw16_TrapGuest_c3 a0_X a0_PC a0_Level a0_V a0_C a0_Done a1_Cause a1_Value a1_Place a1_GVA a2 12)
    (sallyportref18_Clean4 (fun i0 => a0_X i0) a0_PC a0_Level a0_V (fun i0 => a0_C i0) a0_Done 12)
def sallyportlaw16_TrapGuest_c19 (a0_X : Nat → Int) (a0_PC : Int) (a0_Level : Int) (a0_V : Bool) (a0_C : Nat → Int) (a0_Done : Int) (a1_Cause : Int) (a1_Value : Int) (a1_Place : Int) (a1_GVA : Bool) (a2 : Bool) : Bool :=
  iNe (sallyportlaw16_TrapGuest_c3 a0_X a0_PC a0_Level a0_V a0_C a0_Done a1_Cause a1_Value a1_Place a1_GVA a2 13)
    (sallyportref18_Clean4 (fun i0 => a0_X i0) a0_PC a0_Level a0_V (fun i0 => a0_C i0) a0_Done 13)
def sallyportlaw16_TrapGuest_c20 (a0_X : Nat → Int) (a0_PC : Int) (a0_Level : Int) (a0_V : Bool) (a0_C : Nat → Int) (a0_Done : Int) (a1_Cause : Int) (a1_Value : Int) (a1_Place : Int) (a1_GVA : Bool) (a2 : Bool) : Bool :=
  iNe (sallyportlaw16_TrapGuest_c3 a0_X a0_PC a0_Level a0_V a0_C a0_Done a1_Cause a1_Value a1_Place a1_GVA a2 14)
    (sallyportref18_Clean4 (fun i0 => a0_X i0) a0_PC a0_Level a0_V (fun i0 => a0_C i0) a0_Done 14)
def sallyportlaw16_TrapGuest_c21 (a0_X : Nat → Int) (a0_PC : Int) (a0_Level : Int) (a0_V : Bool) (a0_C : Nat → Int) (a0_Done : Int) (a1_Cause : Int) (a1_Value : Int) (a1_Place : Int) (a1_GVA : Bool) (a2 : Bool) : Bool :=
  iNe (sallyportlaw16_TrapGuest_c3 a0_X a0_PC a0_Level a0_V a0_C a0_Done a1_Cause a1_Value a1_Place a1_GVA a2 15)
    (sallyportref18_Clean4 (fun i0 => a0_X i0) a0_PC a0_Level a0_V (fun i0 => a0_C i0) a0_Done 15)
def sallyportlaw16_TrapGuest_c22 (a0_X : Nat → Int) (a0_PC : Int) (a0_Level : Int) (a0_V : Bool) (a0_C : Nat → Int) (a0_Done : Int) (a1_Cause : Int) (a1_Value : Int) (a1_Place : Int) (a1_GVA : Bool) (a2 : Bool) : Bool :=
  iNe (sallyportlaw16_TrapGuest_c3 a0_X a0_PC a0_Level a0_V a0_C a0_Done a1_Cause a1_Value a1_Place a1_GVA a2 16)
    (iAndNot IntKind.u64 (sallyportref18_Clean4 (fun i0 => a0_X i0) a0_PC a0_Level a0_V (fun i0 => a0_C i0) a0_Done 16) 4194304)
def sallyportlaw16_TrapGuest_c23 (a0_X : Nat → Int) (a0_PC : Int) (a0_Level : Int) (a0_V : Bool) (a0_C : Nat → Int) (a0_Done : Int) (a1_Cause : Int) (a1_Value : Int) (a1_Place : Int) (a1_GVA : Bool) (a2 : Bool) : Bool :=
  iNe (sallyportlaw16_TrapGuest_c3 a0_X a0_PC a0_Level a0_V a0_C a0_Done a1_Cause a1_Value a1_Place a1_GVA a2 17)
    (sallyportref18_Clean4 (fun i0 => a0_X i0) a0_PC a0_Level a0_V (fun i0 => a0_C i0) a0_Done 17)
def sallyportlaw16_TrapGuest_c24 (a0_X : Nat → Int) (a0_PC : Int) (a0_Level : Int) (a0_V : Bool) (a0_C : Nat → Int) (a0_Done : Int) (a1_Cause : Int) (a1_Value : Int) (a1_Place : Int) (a1_GVA : Bool) (a2 : Bool) : Bool :=
  iNe (sallyportlaw16_TrapGuest_c3 a0_X a0_PC a0_Level a0_V a0_C a0_Done a1_Cause a1_Value a1_Place a1_GVA a2 18)
    (sallyportref18_Clean4 (fun i0 => a0_X i0) a0_PC a0_Level a0_V (fun i0 => a0_C i0) a0_Done 18)
def sallyportlaw16_TrapGuest_c25 (a0_X : Nat → Int) (a0_PC : Int) (a0_Level : Int) (a0_V : Bool) (a0_C : Nat → Int) (a0_Done : Int) (a1_Cause : Int) (a1_Value : Int) (a1_Place : Int) (a1_GVA : Bool) (a2 : Bool) : Bool :=
  iNe (sallyportlaw16_TrapGuest_c3 a0_X a0_PC a0_Level a0_V a0_C a0_Done a1_Cause a1_Value a1_Place a1_GVA a2 19)
    (sallyportref18_Clean4 (fun i0 => a0_X i0) a0_PC a0_Level a0_V (fun i0 => a0_C i0) a0_Done 19)
def sallyportlaw16_TrapGuest_c26 (a0_X : Nat → Int) (a0_PC : Int) (a0_Level : Int) (a0_V : Bool) (a0_C : Nat → Int) (a0_Done : Int) (a1_Cause : Int) (a1_Value : Int) (a1_Place : Int) (a1_GVA : Bool) (a2 : Bool) : Bool :=
  iNe (sallyportlaw16_TrapGuest_c3 a0_X a0_PC a0_Level a0_V a0_C a0_Done a1_Cause a1_Value a1_Place a1_GVA a2 20)
    (sallyportref18_Clean4 (fun i0 => a0_X i0) a0_PC a0_Level a0_V (fun i0 => a0_C i0) a0_Done 20)
def sallyportlaw16_TrapGuest_c27 (a0_X : Nat → Int) (a0_PC : Int) (a0_Level : Int) (a0_V : Bool) (a0_C : Nat → Int) (a0_Done : Int) (a1_Cause : Int) (a1_Value : Int) (a1_Place : Int) (a1_GVA : Bool) (a2 : Bool) : Bool :=
  iNe (sallyportlaw16_TrapGuest_c3 a0_X a0_PC a0_Level a0_V a0_C a0_Done a1_Cause a1_Value a1_Place a1_GVA a2 21)
    (sallyportref18_Clean4 (fun i0 => a0_X i0) a0_PC a0_Level a0_V (fun i0 => a0_C i0) a0_Done 21)
def sallyportlaw16_TrapGuest_c28 (a0_X : Nat → Int) (a0_PC : Int) (a0_Level : Int) (a0_V : Bool) (a0_C : Nat → Int) (a0_Done : Int) (a1_Cause : Int) (a1_Value : Int) (a1_Place : Int) (a1_GVA : Bool) (a2 : Bool) : Bool :=
  iEq (sallyportlaw16_TrapGuest_c3 a0_X a0_PC a0_Level a0_V a0_C a0_Done a1_Cause a1_Value a1_Place a1_GVA a2 26) a1_Cause
def sallyportlaw16_TrapGuest_c29 (a0_X : Nat → Int) (a0_PC : Int) (a0_Level : Int) (a0_V : Bool) (a0_C : Nat → Int) (a0_Done : Int) (a1_Cause : Int) (a1_Value : Int) (a1_Place : Int) (a1_GVA : Bool) (a2 : Bool) : Bool :=
  bif
      bif sallyportlaw16_TrapGuest_c28 a0_X a0_PC a0_Level a0_V a0_C a0_Done a1_Cause a1_Value a1_Place a1_GVA a2 then
        iEq (sallyportlaw16_TrapGuest_c3 a0_X a0_PC a0_Level a0_V a0_C a0_Done a1_Cause a1_Value a1_Place a1_GVA a2 27) a1_Value
      else false then
    iEq (sallyportlaw16_TrapGuest_c1 a0_X a0_PC a0_Level a0_V a0_C a0_Done a1_Cause a1_Value a1_Place a1_GVA a2) 1
  else false
def sallyportlaw16_TrapGuest_c30 (a0_X : Nat → Int) (a0_PC : Int) (a0_Level : Int) (a0_V : Bool) (a0_C : Nat → Int) (a0_Done : Int) (a1_Cause : Int) (a1_Value : Int) (a1_Place : Int) (a1_GVA : Bool) (a2 : Bool) : Int :=
  trap_Enter1 (fun i0 => sallyportref18_Clean0 (fun i0 => a0_X i0) a0_PC a0_Level a0_V (fun i0 => a0_C i0) a0_Done i0)
    (sallyportref18_Clean1 (fun i0 => a0_X i0) a0_PC a0_Level a0_V (fun i0 => a0_C i0) a0_Done) 1 true
    (fun i0 =>
      bif i0 == 16 then iAndNot IntKind.u64 (sallyportref18_Clean4 (fun i0 => a0_X i0) a0_PC a0_Level a0_V (fun i0 => a0_C i0) a0_Done 16) 4194304
      else sallyportref18_Clean4 (fun i0 => a0_X i0) a0_PC a0_Level a0_V (fun i0 => a0_C i0) a0_Done i0)
    a0_Done a1_Cause a1_Value a1_Place a1_GVA 1 true
def sallyportlaw16_TrapGuest_c31 (a0_X : Nat → Int) (a0_PC : Int) (a0_Level : Int) (a0_V : Bool) (a0_C : Nat → Int) (a0_Done : Int) (a1_Cause : Int) (a1_Value : Int) (a1_Place : Int) (a1_GVA : Bool) (a2 : Bool) : Int :=
  trap_Enter2 (fun i0 => sallyportref18_Clean0 (fun i0 => a0_X i0) a0_PC a0_Level a0_V (fun i0 => a0_C i0) a0_Done i0)
    (sallyportref18_Clean1 (fun i0 => a0_X i0) a0_PC a0_Level a0_V (fun i0 => a0_C i0) a0_Done) 1 true
    (fun i0 =>
      bif i0 == 16 then iAndNot IntKind.u64 (sallyportref18_Clean4 (fun i0 => a0_X i0) a0_PC a0_Level a0_V (fun i0 => a0_C i0) a0_Done 16) 4194304
      else sallyportref18_Clean4 (fun i0 => a0_X i0) a0_PC a0_Level a0_V (fun i0 => a0_C i0) a0_Done i0)
    a0_Done a1_Cause a1_Value a1_Place a1_GVA 1 true
def sallyportlaw16_TrapGuest_c32 (a0_X : Nat → Int) (a0_PC : Int) (a0_Level : Int) (a0_V : Bool) (a0_C : Nat → Int) (a0_Done : Int) (a1_Cause : Int) (a1_Value : Int) (a1_Place : Int) (a1_GVA : Bool) (a2 : Bool) : Bool :=
  trap_Enter3 (fun i0 => sallyportref18_Clean0 (fun i0 => a0_X i0) a0_PC a0_Level a0_V (fun i0 => a0_C i0) a0_Done i0)
    (sallyportref18_Clean1 (fun i0 => a0_X i0) a0_PC a0_Level a0_V (fun i0 => a0_C i0) a0_Done) 1 true
    (fun i0 =>
      bif i0 == 16 then iAndNot IntKind.u64 (sallyportref18_Clean4 (fun i0 => a0_X i0) a0_PC a0_Level a0_V (fun i0 => a0_C i0) a0_Done 16) 4194304
      else sallyportref18_Clean4 (fun i0 => a0_X i0) a0_PC a0_Level a0_V (fun i0 => a0_C i0) a0_Done i0)
    a0_Done a1_Cause a1_Value a1_Place a1_GVA 1 true
def sallyportlaw16_TrapGuest_c33 (a0_X : Nat → Int) (a0_PC : Int) (a0_Level : Int) (a0_V : Bool) (a0_C : Nat → Int) (a0_Done : Int) (a1_Cause : Int) (a1_Value : Int) (a1_Place : Int) (a1_GVA : Bool) (a2 : Bool) : Nat → Int :=
  trap_Enter4 (fun i0 => sallyportref18_Clean0 (fun i0 => a0_X i0) a0_PC a0_Level a0_V (fun i0 => a0_C i0) a0_Done i0)
    (sallyportref18_Clean1 (fun i0 => a0_X i0) a0_PC a0_Level a0_V (fun i0 => a0_C i0) a0_Done) 1 true
    (fun i0 =>
      bif i0 == 16 then iAndNot IntKind.u64 (sallyportref18_Clean4 (fun i0 => a0_X i0) a0_PC a0_Level a0_V (fun i0 => a0_C i0) a0_Done 16) 4194304
      else sallyportref18_Clean4 (fun i0 => a0_X i0) a0_PC a0_Level a0_V (fun i0 => a0_C i0) a0_Done i0)
    a0_Done a1_Cause a1_Value a1_Place a1_GVA 1 true
def sallyportlaw16_TrapGuest_c34 (a0_X : Nat → Int) (a0_PC : Int) (a0_Level : Int) (a0_V : Bool) (a0_C : Nat → Int) (a0_Done : Int) (a1_Cause : Int) (a1_Value : Int) (a1_Place : Int) (a1_GVA : Bool) (a2 : Bool) : Bool :=
  bif
      bif
          bif
              bif
                  !trap_Sret7 (fun i0 => sallyportref18_Clean0 (fun i0 => a0_X i0) a0_PC a0_Level a0_V (fun i0 => a0_C i0) a0_Done i0)
                      (sallyportlaw16_TrapGuest_c30 a0_X a0_PC a0_Level a0_V a0_C a0_Done a1_Cause a1_Value a1_Place a1_GVA a2)
                      (sallyportlaw16_TrapGuest_c31 a0_X a0_PC a0_Level a0_V a0_C a0_Done a1_Cause a1_Value a1_Place a1_GVA a2)
                      (sallyportlaw16_TrapGuest_c32 a0_X a0_PC a0_Level a0_V a0_C a0_Done a1_Cause a1_Value a1_Place a1_GVA a2)
                      (fun i0 => sallyportlaw16_TrapGuest_c33 a0_X a0_PC a0_Level a0_V a0_C a0_Done a1_Cause a1_Value a1_Place a1_GVA a2 i0) a0_Done then
                true
              else
                iNe
                  (trap_Sret1 (fun i0 => sallyportref18_Clean0 (fun i0 => a0_X i0) a0_PC a0_Level a0_V (fun i0 => a0_C i0) a0_Done i0)
                    (sallyportlaw16_TrapGuest_c30 a0_X a0_PC a0_Level a0_V a0_C a0_Done a1_Cause a1_Value a1_Place a1_GVA a2)
                    (sallyportlaw16_TrapGuest_c31 a0_X a0_PC a0_Level a0_V a0_C a0_Done a1_Cause a1_Value a1_Place a1_GVA a2)
                    (sallyportlaw16_TrapGuest_c32 a0_X a0_PC a0_Level a0_V a0_C a0_Done a1_Cause a1_Value a1_Place a1_GVA a2)
                    (fun i0 => sallyportlaw16_TrapGuest_c33 a0_X a0_PC a0_Level a0_V a0_C a0_Done a1_Cause a1_Value a1_Place a1_GVA a2 i0) a0_Done)
                  (sallyportref18_Clean1 (fun i0 => a0_X i0) a0_PC a0_Level a0_V (fun i0 => a0_C i0) a0_Done) then
            true
          else
            iNe
              (trap_Sret2 (fun i0 => sallyportref18_Clean0 (fun i0 => a0_X i0) a0_PC a0_Level a0_V (fun i0 => a0_C i0) a0_Done i0)
                (sallyportlaw16_TrapGuest_c30 a0_X a0_PC a0_Level a0_V a0_C a0_Done a1_Cause a1_Value a1_Place a1_GVA a2)
                (sallyportlaw16_TrapGuest_c31 a0_X a0_PC a0_Level a0_V a0_C a0_Done a1_Cause a1_Value a1_Place a1_GVA a2)
                (sallyportlaw16_TrapGuest_c32 a0_X a0_PC a0_Level a0_V a0_C a0_Done a1_Cause a1_Value a1_Place a1_GVA a2)
                (fun i0 => sallyportlaw16_TrapGuest_c33 a0_X a0_PC a0_Level a0_V a0_C a0_Done a1_Cause a1_Value a1_Place a1_GVA a2 i0) a0_Done)
              1 then
        true
      else
        !trap_Sret3 (fun i0 => sallyportref18_Clean0 (fun i0 => a0_X i0) a0_PC a0_Level a0_V (fun i0 => a0_C i0) a0_Done i0)
            (sallyportlaw16_TrapGuest_c30 a0_X a0_PC a0_Level a0_V a0_C a0_Done a1_Cause a1_Value a1_Place a1_GVA a2)
            (sallyportlaw16_TrapGuest_c31 a0_X a0_PC a0_Level a0_V a0_C a0_Done a1_Cause a1_Value a1_Place a1_GVA a2)
            (sallyportlaw16_TrapGuest_c32 a0_X a0_PC a0_Level a0_V a0_C a0_Done a1_Cause a1_Value a1_Place a1_GVA a2)
            (fun i0 => sallyportlaw16_TrapGuest_c33 a0_X a0_PC a0_Level a0_V a0_C a0_Done a1_Cause a1_Value a1_Place a1_GVA a2 i0) a0_Done then
    true
  else !sallyportlaw16_TrapGuest_c32 a0_X a0_PC a0_Level a0_V a0_C a0_Done a1_Cause a1_Value a1_Place a1_GVA a2
def sallyportlaw16_TrapGuest_c35 (a0_X : Nat → Int) (a0_PC : Int) (a0_Level : Int) (a0_V : Bool) (a0_C : Nat → Int) (a0_Done : Int) (a1_Cause : Int) (a1_Value : Int) (a1_Place : Int) (a1_GVA : Bool) (a2 : Bool) : Bool :=
  iNe (sallyportlaw16_TrapGuest_c33 a0_X a0_PC a0_Level a0_V a0_C a0_Done a1_Cause a1_Value a1_Place a1_GVA a2 0)
    (sallyportref18_Clean4 (fun i0 => a0_X i0) a0_PC a0_Level a0_V (fun i0 => a0_C i0) a0_Done 0)
def sallyportlaw16_TrapGuest_c36 (a0_X : Nat → Int) (a0_PC : Int) (a0_Level : Int) (a0_V : Bool) (a0_C : Nat → Int) (a0_Done : Int) (a1_Cause : Int) (a1_Value : Int) (a1_Place : Int) (a1_GVA : Bool) (a2 : Bool) : Nat → Int :=
  trap_Sret4 (fun i0 => sallyportref18_Clean0 (fun i0 => a0_X i0) a0_PC a0_Level a0_V (fun i0 => a0_C i0) a0_Done i0)
    (sallyportlaw16_TrapGuest_c30 a0_X a0_PC a0_Level a0_V a0_C a0_Done a1_Cause a1_Value a1_Place a1_GVA a2)
    (sallyportlaw16_TrapGuest_c31 a0_X a0_PC a0_Level a0_V a0_C a0_Done a1_Cause a1_Value a1_Place a1_GVA a2)
    (sallyportlaw16_TrapGuest_c32 a0_X a0_PC a0_Level a0_V a0_C a0_Done a1_Cause a1_Value a1_Place a1_GVA a2)
    (fun i0 => sallyportlaw16_TrapGuest_c33 a0_X a0_PC a0_Level a0_V a0_C a0_Done a1_Cause a1_Value a1_Place a1_GVA a2 i0) a0_Done
def sallyportlaw16_TrapGuest_c37 (a0_X : Nat → Int) (a0_PC : Int) (a0_Level : Int) (a0_V : Bool) (a0_C : Nat → Int) (a0_Done : Int) (a1_Cause : Int) (a1_Value : Int) (a1_Place : Int) (a1_GVA : Bool) (a2 : Bool) : Bool :=
  iNe (sallyportlaw16_TrapGuest_c33 a0_X a0_PC a0_Level a0_V a0_C a0_Done a1_Cause a1_Value a1_Place a1_GVA a2 1)
    (sallyportref18_Clean4 (fun i0 => a0_X i0) a0_PC a0_Level a0_V (fun i0 => a0_C i0) a0_Done 1)
def sallyportlaw16_TrapGuest_c38 (a0_X : Nat → Int) (a0_PC : Int) (a0_Level : Int) (a0_V : Bool) (a0_C : Nat → Int) (a0_Done : Int) (a1_Cause : Int) (a1_Value : Int) (a1_Place : Int) (a1_GVA : Bool) (a2 : Bool) : Bool :=
  iNe (sallyportlaw16_TrapGuest_c33 a0_X a0_PC a0_Level a0_V a0_C a0_Done a1_Cause a1_Value a1_Place a1_GVA a2 2)
    (sallyportref18_Clean4 (fun i0 => a0_X i0) a0_PC a0_Level a0_V (fun i0 => a0_C i0) a0_Done 2)
def sallyportlaw16_TrapGuest_c39 (a0_X : Nat → Int) (a0_PC : Int) (a0_Level : Int) (a0_V : Bool) (a0_C : Nat → Int) (a0_Done : Int) (a1_Cause : Int) (a1_Value : Int) (a1_Place : Int) (a1_GVA : Bool) (a2 : Bool) : Bool :=
  iNe (sallyportlaw16_TrapGuest_c33 a0_X a0_PC a0_Level a0_V a0_C a0_Done a1_Cause a1_Value a1_Place a1_GVA a2 3)
    (sallyportref18_Clean4 (fun i0 => a0_X i0) a0_PC a0_Level a0_V (fun i0 => a0_C i0) a0_Done 3)
def sallyportlaw16_TrapGuest_c40 (a0_X : Nat → Int) (a0_PC : Int) (a0_Level : Int) (a0_V : Bool) (a0_C : Nat → Int) (a0_Done : Int) (a1_Cause : Int) (a1_Value : Int) (a1_Place : Int) (a1_GVA : Bool) (a2 : Bool) : Bool :=
  iNe (sallyportlaw16_TrapGuest_c33 a0_X a0_PC a0_Level a0_V a0_C a0_Done a1_Cause a1_Value a1_Place a1_GVA a2 4)
    (sallyportref18_Clean4 (fun i0 => a0_X i0) a0_PC a0_Level a0_V (fun i0 => a0_C i0) a0_Done 4)
def sallyportlaw16_TrapGuest_c41 (a0_X : Nat → Int) (a0_PC : Int) (a0_Level : Int) (a0_V : Bool) (a0_C : Nat → Int) (a0_Done : Int) (a1_Cause : Int) (a1_Value : Int) (a1_Place : Int) (a1_GVA : Bool) (a2 : Bool) : Bool :=
  iNe (sallyportlaw16_TrapGuest_c33 a0_X a0_PC a0_Level a0_V a0_C a0_Done a1_Cause a1_Value a1_Place a1_GVA a2 5)
    (sallyportref18_Clean4 (fun i0 => a0_X i0) a0_PC a0_Level a0_V (fun i0 => a0_C i0) a0_Done 5)
def sallyportlaw16_TrapGuest_c42 (a0_X : Nat → Int) (a0_PC : Int) (a0_Level : Int) (a0_V : Bool) (a0_C : Nat → Int) (a0_Done : Int) (a1_Cause : Int) (a1_Value : Int) (a1_Place : Int) (a1_GVA : Bool) (a2 : Bool) : Bool :=
  iNe (sallyportlaw16_TrapGuest_c33 a0_X a0_PC a0_Level a0_V a0_C a0_Done a1_Cause a1_Value a1_Place a1_GVA a2 6)
    (sallyportref18_Clean4 (fun i0 => a0_X i0) a0_PC a0_Level a0_V (fun i0 => a0_C i0) a0_Done 6)
def sallyportlaw16_TrapGuest_c43 (a0_X : Nat → Int) (a0_PC : Int) (a0_Level : Int) (a0_V : Bool) (a0_C : Nat → Int) (a0_Done : Int) (a1_Cause : Int) (a1_Value : Int) (a1_Place : Int) (a1_GVA : Bool) (a2 : Bool) : Bool :=
  iNe (sallyportlaw16_TrapGuest_c33 a0_X a0_PC a0_Level a0_V a0_C a0_Done a1_Cause a1_Value a1_Place a1_GVA a2 7)
    (sallyportref18_Clean4 (fun i0 => a0_X i0) a0_PC a0_Level a0_V (fun i0 => a0_C i0) a0_Done 7)
def sallyportlaw16_TrapGuest_c44 (a0_X : Nat → Int) (a0_PC : Int) (a0_Level : Int) (a0_V : Bool) (a0_C : Nat → Int) (a0_Done : Int) (a1_Cause : Int) (a1_Value : Int) (a1_Place : Int) (a1_GVA : Bool) (a2 : Bool) : Bool :=
  iNe (sallyportlaw16_TrapGuest_c33 a0_X a0_PC a0_Level a0_V a0_C a0_Done a1_Cause a1_Value a1_Place a1_GVA a2 8)
    (sallyportref18_Clean4 (fun i0 => a0_X i0) a0_PC a0_Level a0_V (fun i0 => a0_C i0) a0_Done 8)
def sallyportlaw16_TrapGuest_c45 (a0_X : Nat → Int) (a0_PC : Int) (a0_Level : Int) (a0_V : Bool) (a0_C : Nat → Int) (a0_Done : Int) (a1_Cause : Int) (a1_Value : Int) (a1_Place : Int) (a1_GVA : Bool) (a2 : Bool) : Bool :=
  iNe (sallyportlaw16_TrapGuest_c33 a0_X a0_PC a0_Level a0_V a0_C a0_Done a1_Cause a1_Value a1_Place a1_GVA a2 9)
    (sallyportref18_Clean4 (fun i0 => a0_X i0) a0_PC a0_Level a0_V (fun i0 => a0_C i0) a0_Done 9)
def sallyportlaw16_TrapGuest_c46 (a0_X : Nat → Int) (a0_PC : Int) (a0_Level : Int) (a0_V : Bool) (a0_C : Nat → Int) (a0_Done : Int) (a1_Cause : Int) (a1_Value : Int) (a1_Place : Int) (a1_GVA : Bool) (a2 : Bool) : Bool :=
  iNe (sallyportlaw16_TrapGuest_c33 a0_X a0_PC a0_Level a0_V a0_C a0_Done a1_Cause a1_Value a1_Place a1_GVA a2 10)
    (sallyportref18_Clean4 (fun i0 => a0_X i0) a0_PC a0_Level a0_V (fun i0 => a0_C i0) a0_Done 10)
def sallyportlaw16_TrapGuest_c47 (a0_X : Nat → Int) (a0_PC : Int) (a0_Level : Int) (a0_V : Bool) (a0_C : Nat → Int) (a0_Done : Int) (a1_Cause : Int) (a1_Value : Int) (a1_Place : Int) (a1_GVA : Bool) (a2 : Bool) : Bool :=
  iNe (sallyportlaw16_TrapGuest_c33 a0_X a0_PC a0_Level a0_V a0_C a0_Done a1_Cause a1_Value a1_Place a1_GVA a2 11)
    (sallyportref18_Clean4 (fun i0 => a0_X i0) a0_PC a0_Level a0_V (fun i0 => a0_C i0) a0_Done 11)
def sallyportlaw16_TrapGuest_c48 (a0_X : Nat → Int) (a0_PC : Int) (a0_Level : Int) (a0_V : Bool) (a0_C : Nat → Int) (a0_Done : Int) (a1_Cause : Int) (a1_Value : Int) (a1_Place : Int) (a1_GVA : Bool) (a2 : Bool) : Bool :=
  iNe (sallyportlaw16_TrapGuest_c33 a0_X a0_PC a0_Level a0_V a0_C a0_Done a1_Cause a1_Value a1_Place a1_GVA a2 12)
    (sallyportref18_Clean4 (fun i0 => a0_X i0) a0_PC a0_Level a0_V (fun i0 => a0_C i0) a0_Done 12)
def sallyportlaw16_TrapGuest_c49 (a0_X : Nat → Int) (a0_PC : Int) (a0_Level : Int) (a0_V : Bool) (a0_C : Nat → Int) (a0_Done : Int) (a1_Cause : Int) (a1_Value : Int) (a1_Place : Int) (a1_GVA : Bool) (a2 : Bool) : Bool :=
  iNe (sallyportlaw16_TrapGuest_c33 a0_X a0_PC a0_Level a0_V a0_C a0_Done a1_Cause a1_Value a1_Place a1_GVA a2 13)
    (sallyportref18_Clean4 (fun i0 => a0_X i0) a0_PC a0_Level a0_V (fun i0 => a0_C i0) a0_Done 13)
def sallyportlaw16_TrapGuest_c50 (a0_X : Nat → Int) (a0_PC : Int) (a0_Level : Int) (a0_V : Bool) (a0_C : Nat → Int) (a0_Done : Int) (a1_Cause : Int) (a1_Value : Int) (a1_Place : Int) (a1_GVA : Bool) (a2 : Bool) : Bool :=
  iNe (sallyportlaw16_TrapGuest_c33 a0_X a0_PC a0_Level a0_V a0_C a0_Done a1_Cause a1_Value a1_Place a1_GVA a2 14)
    (sallyportref18_Clean4 (fun i0 => a0_X i0) a0_PC a0_Level a0_V (fun i0 => a0_C i0) a0_Done 14)
def sallyportlaw16_TrapGuest_c51 (a0_X : Nat → Int) (a0_PC : Int) (a0_Level : Int) (a0_V : Bool) (a0_C : Nat → Int) (a0_Done : Int) (a1_Cause : Int) (a1_Value : Int) (a1_Place : Int) (a1_GVA : Bool) (a2 : Bool) : Bool :=
  iNe (sallyportlaw16_TrapGuest_c33 a0_X a0_PC a0_Level a0_V a0_C a0_Done a1_Cause a1_Value a1_Place a1_GVA a2 15)
    (sallyportref18_Clean4 (fun i0 => a0_X i0) a0_PC a0_Level a0_V (fun i0 => a0_C i0) a0_Done 15)
def sallyportlaw16_TrapGuest_c52 (a0_X : Nat → Int) (a0_PC : Int) (a0_Level : Int) (a0_V : Bool) (a0_C : Nat → Int) (a0_Done : Int) (a1_Cause : Int) (a1_Value : Int) (a1_Place : Int) (a1_GVA : Bool) (a2 : Bool) : Bool :=
  iNe (sallyportlaw16_TrapGuest_c33 a0_X a0_PC a0_Level a0_V a0_C a0_Done a1_Cause a1_Value a1_Place a1_GVA a2 16)
    (iAndNot IntKind.u64 (sallyportref18_Clean4 (fun i0 => a0_X i0) a0_PC a0_Level a0_V (fun i0 => a0_C i0) a0_Done 16) 4194304)
def sallyportlaw16_TrapGuest_c53 (a0_X : Nat → Int) (a0_PC : Int) (a0_Level : Int) (a0_V : Bool) (a0_C : Nat → Int) (a0_Done : Int) (a1_Cause : Int) (a1_Value : Int) (a1_Place : Int) (a1_GVA : Bool) (a2 : Bool) : Bool :=
  iNe (sallyportlaw16_TrapGuest_c33 a0_X a0_PC a0_Level a0_V a0_C a0_Done a1_Cause a1_Value a1_Place a1_GVA a2 17)
    (sallyportref18_Clean4 (fun i0 => a0_X i0) a0_PC a0_Level a0_V (fun i0 => a0_C i0) a0_Done 17)
def sallyportlaw16_TrapGuest_c54 (a0_X : Nat → Int) (a0_PC : Int) (a0_Level : Int) (a0_V : Bool) (a0_C : Nat → Int) (a0_Done : Int) (a1_Cause : Int) (a1_Value : Int) (a1_Place : Int) (a1_GVA : Bool) (a2 : Bool) : Bool :=
  iNe (sallyportlaw16_TrapGuest_c33 a0_X a0_PC a0_Level a0_V a0_C a0_Done a1_Cause a1_Value a1_Place a1_GVA a2 18)
    (sallyportref18_Clean4 (fun i0 => a0_X i0) a0_PC a0_Level a0_V (fun i0 => a0_C i0) a0_Done 18)
def sallyportlaw16_TrapGuest_c55 (a0_X : Nat → Int) (a0_PC : Int) (a0_Level : Int) (a0_V : Bool) (a0_C : Nat → Int) (a0_Done : Int) (a1_Cause : Int) (a1_Value : Int) (a1_Place : Int) (a1_GVA : Bool) (a2 : Bool) : Bool :=
  iNe (sallyportlaw16_TrapGuest_c33 a0_X a0_PC a0_Level a0_V a0_C a0_Done a1_Cause a1_Value a1_Place a1_GVA a2 19)
    (sallyportref18_Clean4 (fun i0 => a0_X i0) a0_PC a0_Level a0_V (fun i0 => a0_C i0) a0_Done 19)
def sallyportlaw16_TrapGuest_c56 (a0_X : Nat → Int) (a0_PC : Int) (a0_Level : Int) (a0_V : Bool) (a0_C : Nat → Int) (a0_Done : Int) (a1_Cause : Int) (a1_Value : Int) (a1_Place : Int) (a1_GVA : Bool) (a2 : Bool) : Bool :=
  iNe (sallyportlaw16_TrapGuest_c33 a0_X a0_PC a0_Level a0_V a0_C a0_Done a1_Cause a1_Value a1_Place a1_GVA a2 20)
    (sallyportref18_Clean4 (fun i0 => a0_X i0) a0_PC a0_Level a0_V (fun i0 => a0_C i0) a0_Done 20)
def sallyportlaw16_TrapGuest_c57 (a0_X : Nat → Int) (a0_PC : Int) (a0_Level : Int) (a0_V : Bool) (a0_C : Nat → Int) (a0_Done : Int) (a1_Cause : Int) (a1_Value : Int) (a1_Place : Int) (a1_GVA : Bool) (a2 : Bool) : Bool :=
  iNe (sallyportlaw16_TrapGuest_c33 a0_X a0_PC a0_Level a0_V a0_C a0_Done a1_Cause a1_Value a1_Place a1_GVA a2 21)
    (sallyportref18_Clean4 (fun i0 => a0_X i0) a0_PC a0_Level a0_V (fun i0 => a0_C i0) a0_Done 21)
def sallyportlaw16_TrapGuest_c58 (a0_X : Nat → Int) (a0_PC : Int) (a0_Level : Int) (a0_V : Bool) (a0_C : Nat → Int) (a0_Done : Int) (a1_Cause : Int) (a1_Value : Int) (a1_Place : Int) (a1_GVA : Bool) (a2 : Bool) : Bool :=
  iEq (sallyportlaw16_TrapGuest_c33 a0_X a0_PC a0_Level a0_V a0_C a0_Done a1_Cause a1_Value a1_Place a1_GVA a2 26) a1_Cause
def sallyportlaw16_TrapGuest_c59 (a0_X : Nat → Int) (a0_PC : Int) (a0_Level : Int) (a0_V : Bool) (a0_C : Nat → Int) (a0_Done : Int) (a1_Cause : Int) (a1_Value : Int) (a1_Place : Int) (a1_GVA : Bool) (a2 : Bool) : Bool :=
  bif
      bif sallyportlaw16_TrapGuest_c58 a0_X a0_PC a0_Level a0_V a0_C a0_Done a1_Cause a1_Value a1_Place a1_GVA a2 then
        iEq (sallyportlaw16_TrapGuest_c33 a0_X a0_PC a0_Level a0_V a0_C a0_Done a1_Cause a1_Value a1_Place a1_GVA a2 27) a1_Value
      else false then
    iEq (sallyportlaw16_TrapGuest_c31 a0_X a0_PC a0_Level a0_V a0_C a0_Done a1_Cause a1_Value a1_Place a1_GVA a2) 1
  else false
def sallyportlaw16_TrapGuest0 (a0_X : Nat → Int) (a0_PC : Int) (a0_Level : Int) (a0_V : Bool) (a0_C : Nat → Int) (a0_Done : Int) (a1_Cause : Int) (a1_Value : Int) (a1_Place : Int) (a1_GVA : Bool) (a2 : Bool) : Bool :=
  bif a2 then
    bif
        bif sallyportlaw16_TrapGuest_c4 a0_X a0_PC a0_Level a0_V a0_C a0_Done a1_Cause a1_Value a1_Place a1_GVA a2 then true
        else
          iNe (sallyportlaw16_TrapGuest_c0 a0_X a0_PC a0_Level a0_V a0_C a0_Done a1_Cause a1_Value a1_Place a1_GVA a2)
            (sallyportref18_Clean4 (fun i0 => a0_X i0) a0_PC a0_Level a0_V (fun i0 => a0_C i0) a0_Done 23) then
      false
    else
      bif
          bif sallyportlaw16_TrapGuest_c5 a0_X a0_PC a0_Level a0_V a0_C a0_Done a1_Cause a1_Value a1_Place a1_GVA a2 then true
          else
            iNe (sallyportlaw16_TrapGuest_c6 a0_X a0_PC a0_Level a0_V a0_C a0_Done a1_Cause a1_Value a1_Place a1_GVA a2 0)
              (sallyportref18_Clean4 (fun i0 => a0_X i0) a0_PC a0_Level a0_V (fun i0 => a0_C i0) a0_Done 0) then
        false
      else
        bif
            bif sallyportlaw16_TrapGuest_c7 a0_X a0_PC a0_Level a0_V a0_C a0_Done a1_Cause a1_Value a1_Place a1_GVA a2 then true
            else
              iNe (sallyportlaw16_TrapGuest_c6 a0_X a0_PC a0_Level a0_V a0_C a0_Done a1_Cause a1_Value a1_Place a1_GVA a2 1)
                (sallyportref18_Clean4 (fun i0 => a0_X i0) a0_PC a0_Level a0_V (fun i0 => a0_C i0) a0_Done 1) then
          false
        else
          bif
              bif sallyportlaw16_TrapGuest_c8 a0_X a0_PC a0_Level a0_V a0_C a0_Done a1_Cause a1_Value a1_Place a1_GVA a2 then true
              else
                iNe (sallyportlaw16_TrapGuest_c6 a0_X a0_PC a0_Level a0_V a0_C a0_Done a1_Cause a1_Value a1_Place a1_GVA a2 2)
                  (sallyportref18_Clean4 (fun i0 => a0_X i0) a0_PC a0_Level a0_V (fun i0 => a0_C i0) a0_Done 2) then
            false
          else
            bif
                bif sallyportlaw16_TrapGuest_c9 a0_X a0_PC a0_Level a0_V a0_C a0_Done a1_Cause a1_Value a1_Place a1_GVA a2 then true
                else
                  iNe (sallyportlaw16_TrapGuest_c6 a0_X a0_PC a0_Level a0_V a0_C a0_Done a1_Cause a1_Value a1_Place a1_GVA a2 3)
                    (sallyportref18_Clean4 (fun i0 => a0_X i0) a0_PC a0_Level a0_V (fun i0 => a0_C i0) a0_Done 3) then
              false
            else
              bif
                  bif sallyportlaw16_TrapGuest_c10 a0_X a0_PC a0_Level a0_V a0_C a0_Done a1_Cause a1_Value a1_Place a1_GVA a2 then true
                  else
                    iNe (sallyportlaw16_TrapGuest_c6 a0_X a0_PC a0_Level a0_V a0_C a0_Done a1_Cause a1_Value a1_Place a1_GVA a2 4)
                      (sallyportref18_Clean4 (fun i0 => a0_X i0) a0_PC a0_Level a0_V (fun i0 => a0_C i0) a0_Done 4) then
                false
              else
                bif
                    bif sallyportlaw16_TrapGuest_c11 a0_X a0_PC a0_Level a0_V a0_C a0_Done a1_Cause a1_Value a1_Place a1_GVA a2 then true
                    else
                      iNe (sallyportlaw16_TrapGuest_c6 a0_X a0_PC a0_Level a0_V a0_C a0_Done a1_Cause a1_Value a1_Place a1_GVA a2 5)
                        (sallyportref18_Clean4 (fun i0 => a0_X i0) a0_PC a0_Level a0_V (fun i0 => a0_C i0) a0_Done 5) then
                  false
                else
                  bif
                      bif sallyportlaw16_TrapGuest_c12 a0_X a0_PC a0_Level a0_V a0_C a0_Done a1_Cause a1_Value a1_Place a1_GVA a2 then true
                      else
                        iNe (sallyportlaw16_TrapGuest_c6 a0_X a0_PC a0_Level a0_V a0_C a0_Done a1_Cause a1_Value a1_Place a1_GVA a2 6)
                          (sallyportref18_Clean4 (fun i0 => a0_X i0) a0_PC a0_Level a0_V (fun i0 => a0_C i0) a0_Done 6) then
                    false
                  else
                    bif
                        bif sallyportlaw16_TrapGuest_c13 a0_X a0_PC a0_Level a0_V a0_C a0_Done a1_Cause a1_Value a1_Place a1_GVA a2 then true
                        else
                          iNe (sallyportlaw16_TrapGuest_c6 a0_X a0_PC a0_Level a0_V a0_C a0_Done a1_Cause a1_Value a1_Place a1_GVA a2 7)
                            (sallyportref18_Clean4 (fun i0 => a0_X i0) a0_PC a0_Level a0_V (fun i0 => a0_C i0) a0_Done 7) then
                      false
                    else
                      bif
                          bif sallyportlaw16_TrapGuest_c14 a0_X a0_PC a0_Level a0_V a0_C a0_Done a1_Cause a1_Value a1_Place a1_GVA a2 then true
                          else
                            iNe (sallyportlaw16_TrapGuest_c6 a0_X a0_PC a0_Level a0_V a0_C a0_Done a1_Cause a1_Value a1_Place a1_GVA a2 8)
                              (sallyportref18_Clean4 (fun i0 => a0_X i0) a0_PC a0_Level a0_V (fun i0 => a0_C i0) a0_Done 8) then
                        false
                      else
                        bif
                            bif sallyportlaw16_TrapGuest_c15 a0_X a0_PC a0_Level a0_V a0_C a0_Done a1_Cause a1_Value a1_Place a1_GVA a2 then true
                            else
                              iNe (sallyportlaw16_TrapGuest_c6 a0_X a0_PC a0_Level a0_V a0_C a0_Done a1_Cause a1_Value a1_Place a1_GVA a2 9)
                                (sallyportref18_Clean4 (fun i0 => a0_X i0) a0_PC a0_Level a0_V (fun i0 => a0_C i0) a0_Done 9) then
                          false
                        else
                          bif
                              bif sallyportlaw16_TrapGuest_c16 a0_X a0_PC a0_Level a0_V a0_C a0_Done a1_Cause a1_Value a1_Place a1_GVA a2 then true
                              else
                                iNe (sallyportlaw16_TrapGuest_c6 a0_X a0_PC a0_Level a0_V a0_C a0_Done a1_Cause a1_Value a1_Place a1_GVA a2 10)
                                  (sallyportref18_Clean4 (fun i0 => a0_X i0) a0_PC a0_Level a0_V (fun i0 => a0_C i0) a0_Done 10) then
                            false
                          else
                            bif
                                bif sallyportlaw16_TrapGuest_c17 a0_X a0_PC a0_Level a0_V a0_C a0_Done a1_Cause a1_Value a1_Place a1_GVA a2 then true
                                else
                                  iNe (sallyportlaw16_TrapGuest_c6 a0_X a0_PC a0_Level a0_V a0_C a0_Done a1_Cause a1_Value a1_Place a1_GVA a2 11)
                                    (sallyportref18_Clean4 (fun i0 => a0_X i0) a0_PC a0_Level a0_V (fun i0 => a0_C i0) a0_Done 11) then
                              false
                            else
                              bif
                                  bif sallyportlaw16_TrapGuest_c18 a0_X a0_PC a0_Level a0_V a0_C a0_Done a1_Cause a1_Value a1_Place a1_GVA a2 then true
                                  else
                                    iNe (sallyportlaw16_TrapGuest_c6 a0_X a0_PC a0_Level a0_V a0_C a0_Done a1_Cause a1_Value a1_Place a1_GVA a2 12)
                                      (sallyportref18_Clean4 (fun i0 => a0_X i0) a0_PC a0_Level a0_V (fun i0 => a0_C i0) a0_Done 12) then
                                false
                              else
                                bif
                                    bif sallyportlaw16_TrapGuest_c19 a0_X a0_PC a0_Level a0_V a0_C a0_Done a1_Cause a1_Value a1_Place a1_GVA a2 then true
                                    else
                                      iNe (sallyportlaw16_TrapGuest_c6 a0_X a0_PC a0_Level a0_V a0_C a0_Done a1_Cause a1_Value a1_Place a1_GVA a2 13)
                                        (sallyportref18_Clean4 (fun i0 => a0_X i0) a0_PC a0_Level a0_V (fun i0 => a0_C i0) a0_Done 13) then
                                  false
                                else
                                  bif
                                      bif sallyportlaw16_TrapGuest_c20 a0_X a0_PC a0_Level a0_V a0_C a0_Done a1_Cause a1_Value a1_Place a1_GVA a2 then true
                                      else
                                        iNe (sallyportlaw16_TrapGuest_c6 a0_X a0_PC a0_Level a0_V a0_C a0_Done a1_Cause a1_Value a1_Place a1_GVA a2 14)
                                          (sallyportref18_Clean4 (fun i0 => a0_X i0) a0_PC a0_Level a0_V (fun i0 => a0_C i0) a0_Done 14) then
                                    false
                                  else
                                    bif
                                        bif sallyportlaw16_TrapGuest_c21 a0_X a0_PC a0_Level a0_V a0_C a0_Done a1_Cause a1_Value a1_Place a1_GVA a2 then true
                                        else
                                          iNe (sallyportlaw16_TrapGuest_c6 a0_X a0_PC a0_Level a0_V a0_C a0_Done a1_Cause a1_Value a1_Place a1_GVA a2 15)
                                            (sallyportref18_Clean4 (fun i0 => a0_X i0) a0_PC a0_Level a0_V (fun i0 => a0_C i0) a0_Done 15) then
                                      false
                                    else
                                      bif
                                          bif sallyportlaw16_TrapGuest_c22 a0_X a0_PC a0_Level a0_V a0_C a0_Done a1_Cause a1_Value a1_Place a1_GVA a2 then true
                                          else
                                            iNe (sallyportlaw16_TrapGuest_c6 a0_X a0_PC a0_Level a0_V a0_C a0_Done a1_Cause a1_Value a1_Place a1_GVA a2 16)
                                              (iAndNot IntKind.u64 (sallyportref18_Clean4 (fun i0 => a0_X i0) a0_PC a0_Level a0_V (fun i0 => a0_C i0) a0_Done 16) 4194304) then
                                        false
                                      else
                                        bif
                                            bif sallyportlaw16_TrapGuest_c23 a0_X a0_PC a0_Level a0_V a0_C a0_Done a1_Cause a1_Value a1_Place a1_GVA a2 then true
                                            else
                                              iNe (sallyportlaw16_TrapGuest_c6 a0_X a0_PC a0_Level a0_V a0_C a0_Done a1_Cause a1_Value a1_Place a1_GVA a2 17)
                                                (sallyportref18_Clean4 (fun i0 => a0_X i0) a0_PC a0_Level a0_V (fun i0 => a0_C i0) a0_Done 17) then
                                          false
                                        else
                                          bif
                                              bif sallyportlaw16_TrapGuest_c24 a0_X a0_PC a0_Level a0_V a0_C a0_Done a1_Cause a1_Value a1_Place a1_GVA a2 then true
                                              else
                                                iNe (sallyportlaw16_TrapGuest_c6 a0_X a0_PC a0_Level a0_V a0_C a0_Done a1_Cause a1_Value a1_Place a1_GVA a2 18)
                                                  (sallyportref18_Clean4 (fun i0 => a0_X i0) a0_PC a0_Level a0_V (fun i0 => a0_C i0) a0_Done 18) then
                                            false
                                          else
                                            bif
                                                bif sallyportlaw16_TrapGuest_c25 a0_X a0_PC a0_Level a0_V a0_C a0_Done a1_Cause a1_Value a1_Place a1_GVA a2 then true
                                                else
                                                  iNe (sallyportlaw16_TrapGuest_c6 a0_X a0_PC a0_Level a0_V a0_C a0_Done a1_Cause a1_Value a1_Place a1_GVA a2 19)
                                                    (sallyportref18_Clean4 (fun i0 => a0_X i0) a0_PC a0_Level a0_V (fun i0 => a0_C i0) a0_Done 19) then
                                              false
                                            else
                                              bif
                                                  bif sallyportlaw16_TrapGuest_c26 a0_X a0_PC a0_Level a0_V a0_C a0_Done a1_Cause a1_Value a1_Place a1_GVA a2 then true
                                                  else
                                                    iNe (sallyportlaw16_TrapGuest_c6 a0_X a0_PC a0_Level a0_V a0_C a0_Done a1_Cause a1_Value a1_Place a1_GVA a2 20)
                                                      (sallyportref18_Clean4 (fun i0 => a0_X i0) a0_PC a0_Level a0_V (fun i0 => a0_C i0) a0_Done 20) then
                                                false
                                              else
                                                bif
                                                    bif sallyportlaw16_TrapGuest_c27 a0_X a0_PC a0_Level a0_V a0_C a0_Done a1_Cause a1_Value a1_Place a1_GVA a2 then true
                                                    else
                                                      iNe (sallyportlaw16_TrapGuest_c6 a0_X a0_PC a0_Level a0_V a0_C a0_Done a1_Cause a1_Value a1_Place a1_GVA a2 21)
                                                        (sallyportref18_Clean4 (fun i0 => a0_X i0) a0_PC a0_Level a0_V (fun i0 => a0_C i0) a0_Done 21) then
                                                  false
                                                else
                                                  bif sallyportlaw16_TrapGuest_c29 a0_X a0_PC a0_Level a0_V a0_C a0_Done a1_Cause a1_Value a1_Place a1_GVA a2 then
                                                    iEq
                                                      (iAnd IntKind.u64 (iShr IntKind.u64 (sallyportlaw16_TrapGuest_c6 a0_X a0_PC a0_Level a0_V a0_C a0_Done a1_Cause a1_Value a1_Place a1_GVA a2 22) 1)
                                                        1)
                                                      (iAnd IntKind.u64 (iShr IntKind.u64 (sallyportref18_Clean4 (fun i0 => a0_X i0) a0_PC a0_Level a0_V (fun i0 => a0_C i0) a0_Done 22) 1) 1)
                                                  else false
  else
    bif
        bif sallyportlaw16_TrapGuest_c34 a0_X a0_PC a0_Level a0_V a0_C a0_Done a1_Cause a1_Value a1_Place a1_GVA a2 then true
        else
          iNe (sallyportlaw16_TrapGuest_c30 a0_X a0_PC a0_Level a0_V a0_C a0_Done a1_Cause a1_Value a1_Place a1_GVA a2)
            (sallyportref18_Clean4 (fun i0 => a0_X i0) a0_PC a0_Level a0_V (fun i0 => a0_C i0) a0_Done 23) then
      false
    else
      bif
          bif sallyportlaw16_TrapGuest_c35 a0_X a0_PC a0_Level a0_V a0_C a0_Done a1_Cause a1_Value a1_Place a1_GVA a2 then true
          else
            iNe (sallyportlaw16_TrapGuest_c36 a0_X a0_PC a0_Level a0_V a0_C a0_Done a1_Cause a1_Value a1_Place a1_GVA a2 0)
              (sallyportref18_Clean4 (fun i0 => a0_X i0) a0_PC a0_Level a0_V (fun i0 => a0_C i0) a0_Done 0) then
        false
      else
        bif
            bif sallyportlaw16_TrapGuest_c37 a0_X a0_PC a0_Level a0_V a0_C a0_Done a1_Cause a1_Value a1_Place a1_GVA a2 then true
            else
              iNe (sallyportlaw16_TrapGuest_c36 a0_X a0_PC a0_Level a0_V a0_C a0_Done a1_Cause a1_Value a1_Place a1_GVA a2 1)
                (sallyportref18_Clean4 (fun i0 => a0_X i0) a0_PC a0_Level a0_V (fun i0 => a0_C i0) a0_Done 1) then
          false
        else
          bif
              bif sallyportlaw16_TrapGuest_c38 a0_X a0_PC a0_Level a0_V a0_C a0_Done a1_Cause a1_Value a1_Place a1_GVA a2 then true
              else
                iNe (sallyportlaw16_TrapGuest_c36 a0_X a0_PC a0_Level a0_V a0_C a0_Done a1_Cause a1_Value a1_Place a1_GVA a2 2)
                  (sallyportref18_Clean4 (fun i0 => a0_X i0) a0_PC a0_Level a0_V (fun i0 => a0_C i0) a0_Done 2) then
            false
          else
            bif
                bif sallyportlaw16_TrapGuest_c39 a0_X a0_PC a0_Level a0_V a0_C a0_Done a1_Cause a1_Value a1_Place a1_GVA a2 then true
                else
                  iNe (sallyportlaw16_TrapGuest_c36 a0_X a0_PC a0_Level a0_V a0_C a0_Done a1_Cause a1_Value a1_Place a1_GVA a2 3)
                    (sallyportref18_Clean4 (fun i0 => a0_X i0) a0_PC a0_Level a0_V (fun i0 => a0_C i0) a0_Done 3) then
              false
            else
              bif
                  bif sallyportlaw16_TrapGuest_c40 a0_X a0_PC a0_Level a0_V a0_C a0_Done a1_Cause a1_Value a1_Place a1_GVA a2 then true
                  else
                    iNe (sallyportlaw16_TrapGuest_c36 a0_X a0_PC a0_Level a0_V a0_C a0_Done a1_Cause a1_Value a1_Place a1_GVA a2 4)
                      (sallyportref18_Clean4 (fun i0 => a0_X i0) a0_PC a0_Level a0_V (fun i0 => a0_C i0) a0_Done 4) then
                false
              else
                bif
                    bif sallyportlaw16_TrapGuest_c41 a0_X a0_PC a0_Level a0_V a0_C a0_Done a1_Cause a1_Value a1_Place a1_GVA a2 then true
                    else
                      iNe (sallyportlaw16_TrapGuest_c36 a0_X a0_PC a0_Level a0_V a0_C a0_Done a1_Cause a1_Value a1_Place a1_GVA a2 5)
                        (sallyportref18_Clean4 (fun i0 => a0_X i0) a0_PC a0_Level a0_V (fun i0 => a0_C i0) a0_Done 5) then
                  false
                else
                  bif
                      bif sallyportlaw16_TrapGuest_c42 a0_X a0_PC a0_Level a0_V a0_C a0_Done a1_Cause a1_Value a1_Place a1_GVA a2 then true
                      else
                        iNe (sallyportlaw16_TrapGuest_c36 a0_X a0_PC a0_Level a0_V a0_C a0_Done a1_Cause a1_Value a1_Place a1_GVA a2 6)
                          (sallyportref18_Clean4 (fun i0 => a0_X i0) a0_PC a0_Level a0_V (fun i0 => a0_C i0) a0_Done 6) then
                    false
                  else
                    bif
                        bif sallyportlaw16_TrapGuest_c43 a0_X a0_PC a0_Level a0_V a0_C a0_Done a1_Cause a1_Value a1_Place a1_GVA a2 then true
                        else
                          iNe (sallyportlaw16_TrapGuest_c36 a0_X a0_PC a0_Level a0_V a0_C a0_Done a1_Cause a1_Value a1_Place a1_GVA a2 7)
                            (sallyportref18_Clean4 (fun i0 => a0_X i0) a0_PC a0_Level a0_V (fun i0 => a0_C i0) a0_Done 7) then
                      false
                    else
                      bif
                          bif sallyportlaw16_TrapGuest_c44 a0_X a0_PC a0_Level a0_V a0_C a0_Done a1_Cause a1_Value a1_Place a1_GVA a2 then true
                          else
                            iNe (sallyportlaw16_TrapGuest_c36 a0_X a0_PC a0_Level a0_V a0_C a0_Done a1_Cause a1_Value a1_Place a1_GVA a2 8)
                              (sallyportref18_Clean4 (fun i0 => a0_X i0) a0_PC a0_Level a0_V (fun i0 => a0_C i0) a0_Done 8) then
                        false
                      else
                        bif
                            bif sallyportlaw16_TrapGuest_c45 a0_X a0_PC a0_Level a0_V a0_C a0_Done a1_Cause a1_Value a1_Place a1_GVA a2 then true
                            else
                              iNe (sallyportlaw16_TrapGuest_c36 a0_X a0_PC a0_Level a0_V a0_C a0_Done a1_Cause a1_Value a1_Place a1_GVA a2 9)
                                (sallyportref18_Clean4 (fun i0 => a0_X i0) a0_PC a0_Level a0_V (fun i0 => a0_C i0) a0_Done 9) then
                          false
                        else
                          bif
                              bif sallyportlaw16_TrapGuest_c46 a0_X a0_PC a0_Level a0_V a0_C a0_Done a1_Cause a1_Value a1_Place a1_GVA a2 then true
                              else
                                iNe (sallyportlaw16_TrapGuest_c36 a0_X a0_PC a0_Level a0_V a0_C a0_Done a1_Cause a1_Value a1_Place a1_GVA a2 10)
                                  (sallyportref18_Clean4 (fun i0 => a0_X i0) a0_PC a0_Level a0_V (fun i0 => a0_C i0) a0_Done 10) then
                            false
                          else
                            bif
                                bif sallyportlaw16_TrapGuest_c47 a0_X a0_PC a0_Level a0_V a0_C a0_Done a1_Cause a1_Value a1_Place a1_GVA a2 then true
                                else
                                  iNe (sallyportlaw16_TrapGuest_c36 a0_X a0_PC a0_Level a0_V a0_C a0_Done a1_Cause a1_Value a1_Place a1_GVA a2 11)
                                    (sallyportref18_Clean4 (fun i0 => a0_X i0) a0_PC a0_Level a0_V (fun i0 => a0_C i0) a0_Done 11) then
                              false
                            else
                              bif
                                  bif sallyportlaw16_TrapGuest_c48 a0_X a0_PC a0_Level a0_V a0_C a0_Done a1_Cause a1_Value a1_Place a1_GVA a2 then true
                                  else
                                    iNe (sallyportlaw16_TrapGuest_c36 a0_X a0_PC a0_Level a0_V a0_C a0_Done a1_Cause a1_Value a1_Place a1_GVA a2 12)
                                      (sallyportref18_Clean4 (fun i0 => a0_X i0) a0_PC a0_Level a0_V (fun i0 => a0_C i0) a0_Done 12) then
                                false
                              else
                                bif
                                    bif sallyportlaw16_TrapGuest_c49 a0_X a0_PC a0_Level a0_V a0_C a0_Done a1_Cause a1_Value a1_Place a1_GVA a2 then true
                                    else
                                      iNe (sallyportlaw16_TrapGuest_c36 a0_X a0_PC a0_Level a0_V a0_C a0_Done a1_Cause a1_Value a1_Place a1_GVA a2 13)
                                        (sallyportref18_Clean4 (fun i0 => a0_X i0) a0_PC a0_Level a0_V (fun i0 => a0_C i0) a0_Done 13) then
                                  false
                                else
                                  bif
                                      bif sallyportlaw16_TrapGuest_c50 a0_X a0_PC a0_Level a0_V a0_C a0_Done a1_Cause a1_Value a1_Place a1_GVA a2 then true
                                      else
                                        iNe (sallyportlaw16_TrapGuest_c36 a0_X a0_PC a0_Level a0_V a0_C a0_Done a1_Cause a1_Value a1_Place a1_GVA a2 14)
                                          (sallyportref18_Clean4 (fun i0 => a0_X i0) a0_PC a0_Level a0_V (fun i0 => a0_C i0) a0_Done 14) then
                                    false
                                  else
                                    bif
                                        bif sallyportlaw16_TrapGuest_c51 a0_X a0_PC a0_Level a0_V a0_C a0_Done a1_Cause a1_Value a1_Place a1_GVA a2 then true
                                        else
                                          iNe (sallyportlaw16_TrapGuest_c36 a0_X a0_PC a0_Level a0_V a0_C a0_Done a1_Cause a1_Value a1_Place a1_GVA a2 15)
                                            (sallyportref18_Clean4 (fun i0 => a0_X i0) a0_PC a0_Level a0_V (fun i0 => a0_C i0) a0_Done 15) then
                                      false
                                    else
                                      bif
                                          bif sallyportlaw16_TrapGuest_c52 a0_X a0_PC a0_Level a0_V a0_C a0_Done a1_Cause a1_Value a1_Place a1_GVA a2 then true
                                          else
                                            iNe (sallyportlaw16_TrapGuest_c36 a0_X a0_PC a0_Level a0_V a0_C a0_Done a1_Cause a1_Value a1_Place a1_GVA a2 16)
                                              (iAndNot IntKind.u64 (sallyportref18_Clean4 (fun i0 => a0_X i0) a0_PC a0_Level a0_V (fun i0 => a0_C i0) a0_Done 16) 4194304) then
                                        false
                                      else
                                        bif
                                            bif sallyportlaw16_TrapGuest_c53 a0_X a0_PC a0_Level a0_V a0_C a0_Done a1_Cause a1_Value a1_Place a1_GVA a2 then true
                                            else
                                              iNe (sallyportlaw16_TrapGuest_c36 a0_X a0_PC a0_Level a0_V a0_C a0_Done a1_Cause a1_Value a1_Place a1_GVA a2 17)
                                                (sallyportref18_Clean4 (fun i0 => a0_X i0) a0_PC a0_Level a0_V (fun i0 => a0_C i0) a0_Done 17) then
                                          false
                                        else
                                          bif
                                              bif sallyportlaw16_TrapGuest_c54 a0_X a0_PC a0_Level a0_V a0_C a0_Done a1_Cause a1_Value a1_Place a1_GVA a2 then true
                                              else
                                                iNe (sallyportlaw16_TrapGuest_c36 a0_X a0_PC a0_Level a0_V a0_C a0_Done a1_Cause a1_Value a1_Place a1_GVA a2 18)
                                                  (sallyportref18_Clean4 (fun i0 => a0_X i0) a0_PC a0_Level a0_V (fun i0 => a0_C i0) a0_Done 18) then
                                            false
                                          else
                                            bif
                                                bif sallyportlaw16_TrapGuest_c55 a0_X a0_PC a0_Level a0_V a0_C a0_Done a1_Cause a1_Value a1_Place a1_GVA a2 then true
                                                else
                                                  iNe (sallyportlaw16_TrapGuest_c36 a0_X a0_PC a0_Level a0_V a0_C a0_Done a1_Cause a1_Value a1_Place a1_GVA a2 19)
                                                    (sallyportref18_Clean4 (fun i0 => a0_X i0) a0_PC a0_Level a0_V (fun i0 => a0_C i0) a0_Done 19) then
                                              false
                                            else
                                              bif
                                                  bif sallyportlaw16_TrapGuest_c56 a0_X a0_PC a0_Level a0_V a0_C a0_Done a1_Cause a1_Value a1_Place a1_GVA a2 then true
                                                  else
                                                    iNe (sallyportlaw16_TrapGuest_c36 a0_X a0_PC a0_Level a0_V a0_C a0_Done a1_Cause a1_Value a1_Place a1_GVA a2 20)
                                                      (sallyportref18_Clean4 (fun i0 => a0_X i0) a0_PC a0_Level a0_V (fun i0 => a0_C i0) a0_Done 20) then
                                                false
                                              else
                                                bif
                                                    bif sallyportlaw16_TrapGuest_c57 a0_X a0_PC a0_Level a0_V a0_C a0_Done a1_Cause a1_Value a1_Place a1_GVA a2 then true
                                                    else
                                                      iNe (sallyportlaw16_TrapGuest_c36 a0_X a0_PC a0_Level a0_V a0_C a0_Done a1_Cause a1_Value a1_Place a1_GVA a2 21)
                                                        (sallyportref18_Clean4 (fun i0 => a0_X i0) a0_PC a0_Level a0_V (fun i0 => a0_C i0) a0_Done 21) then
                                                  false
                                                else
                                                  bif sallyportlaw16_TrapGuest_c59 a0_X a0_PC a0_Level a0_V a0_C a0_Done a1_Cause a1_Value a1_Place a1_GVA a2 then
                                                    iEq
                                                      (iAnd IntKind.u64 (iShr IntKind.u64 (sallyportlaw16_TrapGuest_c36 a0_X a0_PC a0_Level a0_V a0_C a0_Done a1_Cause a1_Value a1_Place a1_GVA a2 22) 1)
                                                        1)
                                                      (iAnd IntKind.u64 (iShr IntKind.u64 (sallyportref18_Clean4 (fun i0 => a0_X i0) a0_PC a0_Level a0_V (fun i0 => a0_C i0) a0_Done 22) 1) 1)
                                                  else false
def sallyportlaw16_TrapGuestG (a0_X : Nat → Int) (a0_PC : Int) (a0_Level : Int) (a0_V : Bool) (a0_C : Nat → Int) (a0_Done : Int) (a1_Cause : Int) (a1_Value : Int) (a1_Place : Int) (a1_GVA : Bool) (a2 : Bool) : Bool :=
  bif a2 then
    (!!sallyportlaw16_TrapGuest_c4 a0_X a0_PC a0_Level a0_V a0_C a0_Done a1_Cause a1_Value a1_Place a1_GVA a2 || true) &&
      bif
          bif sallyportlaw16_TrapGuest_c4 a0_X a0_PC a0_Level a0_V a0_C a0_Done a1_Cause a1_Value a1_Place a1_GVA a2 then true
          else
            iNe (sallyportlaw16_TrapGuest_c0 a0_X a0_PC a0_Level a0_V a0_C a0_Done a1_Cause a1_Value a1_Place a1_GVA a2)
              (sallyportref18_Clean4 (fun i0 => a0_X i0) a0_PC a0_Level a0_V (fun i0 => a0_C i0) a0_Done 23) then
        true
      else
        (!!sallyportlaw16_TrapGuest_c5 a0_X a0_PC a0_Level a0_V a0_C a0_Done a1_Cause a1_Value a1_Place a1_GVA a2 || true) &&
          ((!!sallyportlaw16_TrapGuest_c5 a0_X a0_PC a0_Level a0_V a0_C a0_Done a1_Cause a1_Value a1_Place a1_GVA a2 || true) &&
            bif
                bif sallyportlaw16_TrapGuest_c5 a0_X a0_PC a0_Level a0_V a0_C a0_Done a1_Cause a1_Value a1_Place a1_GVA a2 then true
                else
                  iNe (sallyportlaw16_TrapGuest_c6 a0_X a0_PC a0_Level a0_V a0_C a0_Done a1_Cause a1_Value a1_Place a1_GVA a2 0)
                    (sallyportref18_Clean4 (fun i0 => a0_X i0) a0_PC a0_Level a0_V (fun i0 => a0_C i0) a0_Done 0) then
              true
            else
              (!!sallyportlaw16_TrapGuest_c7 a0_X a0_PC a0_Level a0_V a0_C a0_Done a1_Cause a1_Value a1_Place a1_GVA a2 || true) &&
                ((!!sallyportlaw16_TrapGuest_c7 a0_X a0_PC a0_Level a0_V a0_C a0_Done a1_Cause a1_Value a1_Place a1_GVA a2 || true) &&
                  bif
                      bif sallyportlaw16_TrapGuest_c7 a0_X a0_PC a0_Level a0_V a0_C a0_Done a1_Cause a1_Value a1_Place a1_GVA a2 then true
                      else
                        iNe (sallyportlaw16_TrapGuest_c6 a0_X a0_PC a0_Level a0_V a0_C a0_Done a1_Cause a1_Value a1_Place a1_GVA a2 1)
                          (sallyportref18_Clean4 (fun i0 => a0_X i0) a0_PC a0_Level a0_V (fun i0 => a0_C i0) a0_Done 1) then
                    true
                  else
                    (!!sallyportlaw16_TrapGuest_c8 a0_X a0_PC a0_Level a0_V a0_C a0_Done a1_Cause a1_Value a1_Place a1_GVA a2 || true) &&
                      ((!!sallyportlaw16_TrapGuest_c8 a0_X a0_PC a0_Level a0_V a0_C a0_Done a1_Cause a1_Value a1_Place a1_GVA a2 || true) &&
                        bif
                            bif sallyportlaw16_TrapGuest_c8 a0_X a0_PC a0_Level a0_V a0_C a0_Done a1_Cause a1_Value a1_Place a1_GVA a2 then true
                            else
                              iNe (sallyportlaw16_TrapGuest_c6 a0_X a0_PC a0_Level a0_V a0_C a0_Done a1_Cause a1_Value a1_Place a1_GVA a2 2)
                                (sallyportref18_Clean4 (fun i0 => a0_X i0) a0_PC a0_Level a0_V (fun i0 => a0_C i0) a0_Done 2) then
                          true
                        else
                          (!!sallyportlaw16_TrapGuest_c9 a0_X a0_PC a0_Level a0_V a0_C a0_Done a1_Cause a1_Value a1_Place a1_GVA a2 || true) &&
                            ((!!sallyportlaw16_TrapGuest_c9 a0_X a0_PC a0_Level a0_V a0_C a0_Done a1_Cause a1_Value a1_Place a1_GVA a2 || true) &&
                              bif
                                  bif sallyportlaw16_TrapGuest_c9 a0_X a0_PC a0_Level a0_V a0_C a0_Done a1_Cause a1_Value a1_Place a1_GVA a2 then true
                                  else
                                    iNe (sallyportlaw16_TrapGuest_c6 a0_X a0_PC a0_Level a0_V a0_C a0_Done a1_Cause a1_Value a1_Place a1_GVA a2 3)
                                      (sallyportref18_Clean4 (fun i0 => a0_X i0) a0_PC a0_Level a0_V (fun i0 => a0_C i0) a0_Done 3) then
                                true
                              else
                                (!!sallyportlaw16_TrapGuest_c10 a0_X a0_PC a0_Level a0_V a0_C a0_Done a1_Cause a1_Value a1_Place a1_GVA a2 || true) &&
                                  ((!!sallyportlaw16_TrapGuest_c10 a0_X a0_PC a0_Level a0_V a0_C a0_Done a1_Cause a1_Value a1_Place a1_GVA a2 || true) &&
                                    bif
                                        bif sallyportlaw16_TrapGuest_c10 a0_X a0_PC a0_Level a0_V a0_C a0_Done a1_Cause a1_Value a1_Place a1_GVA a2 then true
                                        else
                                          iNe (sallyportlaw16_TrapGuest_c6 a0_X a0_PC a0_Level a0_V a0_C a0_Done a1_Cause a1_Value a1_Place a1_GVA a2 4)
                                            (sallyportref18_Clean4 (fun i0 => a0_X i0) a0_PC a0_Level a0_V (fun i0 => a0_C i0) a0_Done 4) then
                                      true
                                    else
                                      (!!sallyportlaw16_TrapGuest_c11 a0_X a0_PC a0_Level a0_V a0_C a0_Done a1_Cause a1_Value a1_Place a1_GVA a2 || true) &&
                                        ((!!sallyportlaw16_TrapGuest_c11 a0_X a0_PC a0_Level a0_V a0_C a0_Done a1_Cause a1_Value a1_Place a1_GVA a2 || true) &&
                                          bif
                                              bif sallyportlaw16_TrapGuest_c11 a0_X a0_PC a0_Level a0_V a0_C a0_Done a1_Cause a1_Value a1_Place a1_GVA a2 then true
                                              else
                                                iNe (sallyportlaw16_TrapGuest_c6 a0_X a0_PC a0_Level a0_V a0_C a0_Done a1_Cause a1_Value a1_Place a1_GVA a2 5)
                                                  (sallyportref18_Clean4 (fun i0 => a0_X i0) a0_PC a0_Level a0_V (fun i0 => a0_C i0) a0_Done 5) then
                                            true
                                          else
                                            (!!sallyportlaw16_TrapGuest_c12 a0_X a0_PC a0_Level a0_V a0_C a0_Done a1_Cause a1_Value a1_Place a1_GVA a2 || true) &&
                                              ((!!sallyportlaw16_TrapGuest_c12 a0_X a0_PC a0_Level a0_V a0_C a0_Done a1_Cause a1_Value a1_Place a1_GVA a2 || true) &&
                                                bif
                                                    bif sallyportlaw16_TrapGuest_c12 a0_X a0_PC a0_Level a0_V a0_C a0_Done a1_Cause a1_Value a1_Place a1_GVA a2 then true
                                                    else
                                                      iNe (sallyportlaw16_TrapGuest_c6 a0_X a0_PC a0_Level a0_V a0_C a0_Done a1_Cause a1_Value a1_Place a1_GVA a2 6)
                                                        (sallyportref18_Clean4 (fun i0 => a0_X i0) a0_PC a0_Level a0_V (fun i0 => a0_C i0) a0_Done 6) then
                                                  true
                                                else
                                                  (!!sallyportlaw16_TrapGuest_c13 a0_X a0_PC a0_Level a0_V a0_C a0_Done a1_Cause a1_Value a1_Place a1_GVA a2 || true) &&
                                                    ((!!sallyportlaw16_TrapGuest_c13 a0_X a0_PC a0_Level a0_V a0_C a0_Done a1_Cause a1_Value a1_Place a1_GVA a2 || true) &&
                                                      bif
                                                          bif sallyportlaw16_TrapGuest_c13 a0_X a0_PC a0_Level a0_V a0_C a0_Done a1_Cause a1_Value a1_Place a1_GVA a2 then true
                                                          else
                                                            iNe (sallyportlaw16_TrapGuest_c6 a0_X a0_PC a0_Level a0_V a0_C a0_Done a1_Cause a1_Value a1_Place a1_GVA a2 7)
                                                              (sallyportref18_Clean4 (fun i0 => a0_X i0) a0_PC a0_Level a0_V (fun i0 => a0_C i0) a0_Done 7) then
                                                        true
                                                      else
                                                        (!!sallyportlaw16_TrapGuest_c14 a0_X a0_PC a0_Level a0_V a0_C a0_Done a1_Cause a1_Value a1_Place a1_GVA a2 || true) &&
                                                          ((!!sallyportlaw16_TrapGuest_c14 a0_X a0_PC a0_Level a0_V a0_C a0_Done a1_Cause a1_Value a1_Place a1_GVA a2 || true) &&
                                                            bif
                                                                bif sallyportlaw16_TrapGuest_c14 a0_X a0_PC a0_Level a0_V a0_C a0_Done a1_Cause a1_Value a1_Place a1_GVA a2 then true
                                                                else
                                                                  iNe (sallyportlaw16_TrapGuest_c6 a0_X a0_PC a0_Level a0_V a0_C a0_Done a1_Cause a1_Value a1_Place a1_GVA a2 8)
                                                                    (sallyportref18_Clean4 (fun i0 => a0_X i0) a0_PC a0_Level a0_V (fun i0 => a0_C i0) a0_Done 8) then
                                                              true
                                                            else
                                                              (!!sallyportlaw16_TrapGuest_c15 a0_X a0_PC a0_Level a0_V a0_C a0_Done a1_Cause a1_Value a1_Place a1_GVA a2 || true) &&
                                                                ((!!sallyportlaw16_TrapGuest_c15 a0_X a0_PC a0_Level a0_V a0_C a0_Done a1_Cause a1_Value a1_Place a1_GVA a2 || true) &&
                                                                  bif
                                                                      bif sallyportlaw16_TrapGuest_c15 a0_X a0_PC a0_Level a0_V a0_C a0_Done a1_Cause a1_Value a1_Place a1_GVA a2 then true
                                                                      else
                                                                        iNe (sallyportlaw16_TrapGuest_c6 a0_X a0_PC a0_Level a0_V a0_C a0_Done a1_Cause a1_Value a1_Place a1_GVA a2 9)
                                                                          (sallyportref18_Clean4 (fun i0 => a0_X i0) a0_PC a0_Level a0_V (fun i0 => a0_C i0) a0_Done 9) then
                                                                    true
                                                                  else
                                                                    (!!sallyportlaw16_TrapGuest_c16 a0_X a0_PC a0_Level a0_V a0_C a0_Done a1_Cause a1_Value a1_Place a1_GVA a2 || true) &&
                                                                      ((!!sallyportlaw16_TrapGuest_c16 a0_X a0_PC a0_Level a0_V a0_C a0_Done a1_Cause a1_Value a1_Place a1_GVA a2 || true) &&
                                                                        bif
                                                                            bif sallyportlaw16_TrapGuest_c16 a0_X a0_PC a0_Level a0_V a0_C a0_Done a1_Cause a1_Value a1_Place a1_GVA a2 then true
                                                                            else
                                                                              iNe (sallyportlaw16_TrapGuest_c6 a0_X a0_PC a0_Level a0_V a0_C a0_Done a1_Cause a1_Value a1_Place a1_GVA a2 10)
                                                                                (sallyportref18_Clean4 (fun i0 => a0_X i0) a0_PC a0_Level a0_V (fun i0 => a0_C i0) a0_Done 10) then
                                                                          true
                                                                        else
                                                                          (!!sallyportlaw16_TrapGuest_c17 a0_X a0_PC a0_Level a0_V a0_C a0_Done a1_Cause a1_Value a1_Place a1_GVA a2 || true) &&
                                                                            ((!!sallyportlaw16_TrapGuest_c17 a0_X a0_PC a0_Level a0_V a0_C a0_Done a1_Cause a1_Value a1_Place a1_GVA a2 || true) &&
                                                                              bif
                                                                                  bif sallyportlaw16_TrapGuest_c17 a0_X a0_PC a0_Level a0_V a0_C a0_Done a1_Cause a1_Value a1_Place a1_GVA a2 then true
                                                                                  else
                                                                                    iNe (sallyportlaw16_TrapGuest_c6 a0_X a0_PC a0_Level a0_V a0_C a0_Done a1_Cause a1_Value a1_Place a1_GVA a2 11)
                                                                                      (sallyportref18_Clean4 (fun i0 => a0_X i0) a0_PC a0_Level a0_V (fun i0 => a0_C i0) a0_Done 11) then
                                                                                true
                                                                              else
                                                                                (!!sallyportlaw16_TrapGuest_c18 a0_X a0_PC a0_Level a0_V a0_C a0_Done a1_Cause a1_Value a1_Place a1_GVA a2 || true) &&
                                                                                  ((!!sallyportlaw16_TrapGuest_c18 a0_X a0_PC a0_Level a0_V a0_C a0_Done a1_Cause a1_Value a1_Place a1_GVA a2 || true) &&
                                                                                    bif
                                                                                        bif sallyportlaw16_TrapGuest_c18 a0_X a0_PC a0_Level a0_V a0_C a0_Done a1_Cause a1_Value a1_Place a1_GVA a2 then
                                                                                          true
                                                                                        else
                                                                                          iNe (sallyportlaw16_TrapGuest_c6 a0_X a0_PC a0_Level a0_V a0_C a0_Done a1_Cause a1_Value a1_Place a1_GVA a2 12)
                                                                                            (sallyportref18_Clean4 (fun i0 => a0_X i0) a0_PC a0_Level a0_V (fun i0 => a0_C i0) a0_Done 12) then
                                                                                      true
                                                                                    else
                                                                                      (!!sallyportlaw16_TrapGuest_c19 a0_X a0_PC a0_Level a0_V a0_C a0_Done a1_Cause a1_Value a1_Place a1_GVA a2 ||
                                                                                          true) &&
                                                                                        ((!!sallyportlaw16_TrapGuest_c19 a0_X a0_PC a0_Level a0_V a0_C a0_Done a1_Cause a1_Value a1_Place a1_GVA a2 ||
                                                                                            true) &&
                                                                                          bif
                                                                                              bif
                                                                                                  sallyportlaw16_TrapGuest_c19 a0_X a0_PC a0_Level a0_V a0_C a0_Done a1_Cause a1_Value a1_Place a1_GVA
                                                                                                    a2 then
                                                                                                true
                                                                                              else
                                                                                                iNe
                                                                                                  (sallyportlaw16_TrapGuest_c6 a0_X a0_PC a0_Level a0_V a0_C a0_Done a1_Cause a1_Value a1_Place a1_GVA a2
                                                                                                    13)
                                                                                                  (sallyportref18_Clean4 (fun i0 => a0_X i0) a0_PC a0_Level a0_V (fun i0 => a0_C i0) a0_Done 13) then
                                                                                            true
                                                                                          else
                                                                                            (!!sallyportlaw16_TrapGuest_c20 a0_X a0_PC a0_Level a0_V a0_C a0_Done a1_Cause a1_Value a1_Place a1_GVA a2 ||
                                                                                                true) &&
                                                                                              ((!!sallyportlaw16_TrapGuest_c20 a0_X a0_PC a0_Level a0_V a0_C a0_Done a1_Cause a1_Value a1_Place a1_GVA
                                                                                                        a2 ||
                                                                                                  true) &&
                                                                                                bif
                                                                                                    bif
                                                                                                        sallyportlaw16_TrapGuest_c20 a0_X a0_PC a0_Level a0_V a0_C a0_Done a1_Cause a1_Value a1_Place
                                                                                                          a1_GVA a2 then
                                                                                                      true
                                                                                                    else
                                                                                                      iNe
                                                                                                        (sallyportlaw16_TrapGuest_c6 a0_X a0_PC a0_Level a0_V a0_C a0_Done a1_Cause a1_Value a1_Place
                                                                                                          a1_GVA a2 14)
                                                                                                        (sallyportref18_Clean4 (fun i0 => a0_X i0) a0_PC a0_Level a0_V (fun i0 => a0_C i0) a0_Done
                                                                                                          14) then
                                                                                                  true
                                                                                                else
                                                                                                  (!!sallyportlaw16_TrapGuest_c21 a0_X a0_PC a0_Level a0_V a0_C a0_Done a1_Cause a1_Value a1_Place a1_GVA
                                                                                                            a2 ||
                                                                                                      true) &&
                                                                                                    ((!!sallyportlaw16_TrapGuest_c21 a0_X a0_PC a0_Level a0_V a0_C a0_Done a1_Cause a1_Value a1_Place
                                                                                                              a1_GVA a2 ||
                                                                                                        true) &&
                                                                                                      bif
                                                                                                          bif
                                                                                                              sallyportlaw16_TrapGuest_c21 a0_X a0_PC a0_Level a0_V a0_C a0_Done a1_Cause a1_Value
                                                                                                                a1_Place a1_GVA a2 then
                                                                                                            true
                                                                                                          else
                                                                                                            iNe
                                                                                                              (sallyportlaw16_TrapGuest_c6 a0_X a0_PC a0_Level a0_V a0_C a0_Done a1_Cause a1_Value
                                                                                                                a1_Place a1_GVA a2 15)
                                                                                                              (sallyportref18_Clean4 (fun i0 => a0_X i0) a0_PC a0_Level a0_V (fun i0 => a0_C i0) a0_Done
                                                                                                                15) then
                                                                                                        true
                                                                                                      else
                                                                                                        (!!sallyportlaw16_TrapGuest_c22 a0_X a0_PC a0_Level a0_V a0_C a0_Done a1_Cause a1_Value a1_Place
                                                                                                                  a1_GVA a2 ||
                                                                                                            true) &&
                                                                                                          ((!!sallyportlaw16_TrapGuest_c22 a0_X a0_PC a0_Level a0_V a0_C a0_Done a1_Cause a1_Value
                                                                                                                    a1_Place a1_GVA a2 ||
                                                                                                              true) &&
                                                                                                            bif
                                                                                                                bif
                                                                                                                    sallyportlaw16_TrapGuest_c22 a0_X a0_PC a0_Level a0_V a0_C a0_Done a1_Cause a1_Value
                                                                                                                      a1_Place a1_GVA a2 then
                                                                                                                  true
                                                                                                                else
                                                                                                                  iNe
                                                                                                                    (sallyportlaw16_TrapGuest_c6 a0_X a0_PC a0_Level a0_V a0_C a0_Done a1_Cause a1_Value
                                                                                                                      a1_Place a1_GVA a2 16)
                                                                                                                    (iAndNot IntKind.u64
                                                                                                                      (sallyportref18_Clean4 (fun i0 => a0_X i0) a0_PC a0_Level a0_V (fun i0 => a0_C i0)
                                                                                                                        a0_Done 16)
                                                                                                                      4194304) then
                                                                                                              true
                                                                                                            else
                                                                                                              (!!sallyportlaw16_TrapGuest_c23 a0_X a0_PC a0_Level a0_V a0_C a0_Done a1_Cause a1_Value
                                                                                                                        a1_Place a1_GVA a2 ||
                                                                                                                  true) &&
                                                                                                                ((!!sallyportlaw16_TrapGuest_c23 a0_X a0_PC a0_Level a0_V a0_C a0_Done a1_Cause a1_Value
                                                                                                                          a1_Place a1_GVA a2 ||
                                                                                                                    true) &&
                                                                                                                  bif
                                                                                                                      bif
                                                                                                                          sallyportlaw16_TrapGuest_c23 a0_X a0_PC a0_Level a0_V a0_C a0_Done a1_Cause
                                                                                                                            a1_Value a1_Place a1_GVA a2 then
                                                                                                                        true
                                                                                                                      else
                                                                                                                        iNe
                                                                                                                          (sallyportlaw16_TrapGuest_c6 a0_X a0_PC a0_Level a0_V a0_C a0_Done a1_Cause
                                                                                                                            a1_Value a1_Place a1_GVA a2 17)
                                                                                                                          (sallyportref18_Clean4 (fun i0 => a0_X i0) a0_PC a0_Level a0_V
                                                                                                                            (fun i0 => a0_C i0) a0_Done 17) then
                                                                                                                    true
                                                                                                                  else
                                                                                                                    (!!sallyportlaw16_TrapGuest_c24 a0_X a0_PC a0_Level a0_V a0_C a0_Done a1_Cause
                                                                                                                              a1_Value a1_Place a1_GVA a2 ||
                                                                                                                        true) &&
                                                                                                                      ((!!sallyportlaw16_TrapGuest_c24 a0_X a0_PC a0_Level a0_V a0_C a0_Done a1_Cause
                                                                                                                                a1_Value a1_Place a1_GVA a2 ||
                                                                                                                          true) &&
                                                                                                                        bif
                                                                                                                            bif
                                                                                                                                sallyportlaw16_TrapGuest_c24 a0_X a0_PC a0_Level a0_V a0_C a0_Done
                                                                                                                                  a1_Cause a1_Value a1_Place a1_GVA a2 then
                                                                                                                              true
                                                                                                                            else
                                                                                                                              iNe
                                                                                                                                (sallyportlaw16_TrapGuest_c6 a0_X a0_PC a0_Level a0_V a0_C a0_Done
                                                                                                                                  a1_Cause a1_Value a1_Place a1_GVA a2 18)
                                                                                                                                (sallyportref18_Clean4 (fun i0 => a0_X i0) a0_PC a0_Level a0_V
                                                                                                                                  (fun i0 => a0_C i0) a0_Done 18) then
                                                                                                                          true
                                                                                                                        else
                                                                                                                          (!!sallyportlaw16_TrapGuest_c25 a0_X a0_PC a0_Level a0_V a0_C a0_Done a1_Cause
                                                                                                                                    a1_Value a1_Place a1_GVA a2 ||
                                                                                                                              true) &&
                                                                                                                            ((!!sallyportlaw16_TrapGuest_c25 a0_X a0_PC a0_Level a0_V a0_C a0_Done
                                                                                                                                      a1_Cause a1_Value a1_Place a1_GVA a2 ||
                                                                                                                                true) &&
                                                                                                                              bif
                                                                                                                                  bif
                                                                                                                                      sallyportlaw16_TrapGuest_c25 a0_X a0_PC a0_Level a0_V a0_C a0_Done
                                                                                                                                        a1_Cause a1_Value a1_Place a1_GVA a2 then
                                                                                                                                    true
                                                                                                                                  else
                                                                                                                                    iNe
                                                                                                                                      (sallyportlaw16_TrapGuest_c6 a0_X a0_PC a0_Level a0_V a0_C a0_Done
                                                                                                                                        a1_Cause a1_Value a1_Place a1_GVA a2 19)
                                                                                                                                      (sallyportref18_Clean4 (fun i0 => a0_X i0) a0_PC a0_Level a0_V
                                                                                                                                        (fun i0 => a0_C i0) a0_Done 19) then
                                                                                                                                true
                                                                                                                              else
                                                                                                                                (!!sallyportlaw16_TrapGuest_c26 a0_X a0_PC a0_Level a0_V a0_C a0_Done
                                                                                                                                          a1_Cause a1_Value a1_Place a1_GVA a2 ||
                                                                                                                                    true) &&
                                                                                                                                  ((!!sallyportlaw16_TrapGuest_c26 a0_X a0_PC a0_Level a0_V a0_C a0_Done
                                                                                                                                            a1_Cause a1_Value a1_Place a1_GVA a2 ||
                                                                                                                                      true) &&
                                                                                                                                    bif
                                                                                                                                        bif
                                                                                                                                            sallyportlaw16_TrapGuest_c26 a0_X a0_PC a0_Level a0_V a0_C
                                                                                                                                              a0_Done a1_Cause a1_Value a1_Place a1_GVA a2 then
                                                                                                                                          true
                                                                                                                                        else
                                                                                                                                          iNe
                                                                                                                                            (sallyportlaw16_TrapGuest_c6 a0_X a0_PC a0_Level a0_V a0_C
                                                                                                                                              a0_Done a1_Cause a1_Value a1_Place a1_GVA a2 20)
                                                                                                                                            (sallyportref18_Clean4 (fun i0 => a0_X i0) a0_PC a0_Level a0_V
                                                                                                                                              (fun i0 => a0_C i0) a0_Done 20) then
                                                                                                                                      true
                                                                                                                                    else
                                                                                                                                      (!!sallyportlaw16_TrapGuest_c27 a0_X a0_PC a0_Level a0_V a0_C
                                                                                                                                                a0_Done a1_Cause a1_Value a1_Place a1_GVA a2 ||
                                                                                                                                          true) &&
                                                                                                                                        ((!!sallyportlaw16_TrapGuest_c27 a0_X a0_PC a0_Level a0_V a0_C
                                                                                                                                                  a0_Done a1_Cause a1_Value a1_Place a1_GVA a2 ||
                                                                                                                                            true) &&
                                                                                                                                          bif
                                                                                                                                              bif
                                                                                                                                                  sallyportlaw16_TrapGuest_c27 a0_X a0_PC a0_Level a0_V
                                                                                                                                                    a0_C a0_Done a1_Cause a1_Value a1_Place a1_GVA a2 then
                                                                                                                                                true
                                                                                                                                              else
                                                                                                                                                iNe
                                                                                                                                                  (sallyportlaw16_TrapGuest_c6 a0_X a0_PC a0_Level a0_V
                                                                                                                                                    a0_C a0_Done a1_Cause a1_Value a1_Place a1_GVA a2 21)
                                                                                                                                                  (sallyportref18_Clean4 (fun i0 => a0_X i0) a0_PC
                                                                                                                                                    a0_Level a0_V (fun i0 => a0_C i0) a0_Done 21) then
                                                                                                                                            true
                                                                                                                                          else
                                                                                                                                            (!sallyportlaw16_TrapGuest_c28 a0_X a0_PC a0_Level a0_V a0_C
                                                                                                                                                    a0_Done a1_Cause a1_Value a1_Place a1_GVA a2 ||
                                                                                                                                                true) &&
                                                                                                                                              ((!sallyportlaw16_TrapGuest_c29 a0_X a0_PC a0_Level a0_V
                                                                                                                                                      a0_C a0_Done a1_Cause a1_Value a1_Place a1_GVA a2 ||
                                                                                                                                                  true) &&
                                                                                                                                                ((!sallyportlaw16_TrapGuest_c29 a0_X a0_PC a0_Level a0_V
                                                                                                                                                        a0_C a0_Done a1_Cause a1_Value a1_Place a1_GVA
                                                                                                                                                        a2 ||
                                                                                                                                                    true) &&
                                                                                                                                                  true))))))))))))))))))))))))
  else
    (!!sallyportlaw16_TrapGuest_c34 a0_X a0_PC a0_Level a0_V a0_C a0_Done a1_Cause a1_Value a1_Place a1_GVA a2 || true) &&
      bif
          bif sallyportlaw16_TrapGuest_c34 a0_X a0_PC a0_Level a0_V a0_C a0_Done a1_Cause a1_Value a1_Place a1_GVA a2 then true
          else
            iNe (sallyportlaw16_TrapGuest_c30 a0_X a0_PC a0_Level a0_V a0_C a0_Done a1_Cause a1_Value a1_Place a1_GVA a2)
              (sallyportref18_Clean4 (fun i0 => a0_X i0) a0_PC a0_Level a0_V (fun i0 => a0_C i0) a0_Done 23) then
        true
      else
        (!!sallyportlaw16_TrapGuest_c35 a0_X a0_PC a0_Level a0_V a0_C a0_Done a1_Cause a1_Value a1_Place a1_GVA a2 || true) &&
          ((!!sallyportlaw16_TrapGuest_c35 a0_X a0_PC a0_Level a0_V a0_C a0_Done a1_Cause a1_Value a1_Place a1_GVA a2 || true) &&
            bif
                bif sallyportlaw16_TrapGuest_c35 a0_X a0_PC a0_Level a0_V a0_C a0_Done a1_Cause a1_Value a1_Place a1_GVA a2 then true
                else
                  iNe (sallyportlaw16_TrapGuest_c36 a0_X a0_PC a0_Level a0_V a0_C a0_Done a1_Cause a1_Value a1_Place a1_GVA a2 0)
                    (sallyportref18_Clean4 (fun i0 => a0_X i0) a0_PC a0_Level a0_V (fun i0 => a0_C i0) a0_Done 0) then
              true
            else
              (!!sallyportlaw16_TrapGuest_c37 a0_X a0_PC a0_Level a0_V a0_C a0_Done a1_Cause a1_Value a1_Place a1_GVA a2 || true) &&
                ((!!sallyportlaw16_TrapGuest_c37 a0_X a0_PC a0_Level a0_V a0_C a0_Done a1_Cause a1_Value a1_Place a1_GVA a2 || true) &&
                  bif
                      bif sallyportlaw16_TrapGuest_c37 a0_X a0_PC a0_Level a0_V a0_C a0_Done a1_Cause a1_Value a1_Place a1_GVA a2 then true
                      else
                        iNe (sallyportlaw16_TrapGuest_c36 a0_X a0_PC a0_Level a0_V a0_C a0_Done a1_Cause a1_Value a1_Place a1_GVA a2 1)
                          (sallyportref18_Clean4 (fun i0 => a0_X i0) a0_PC a0_Level a0_V (fun i0 => a0_C i0) a0_Done 1) then
                    true
                  else
                    (!!sallyportlaw16_TrapGuest_c38 a0_X a0_PC a0_Level a0_V a0_C a0_Done a1_Cause a1_Value a1_Place a1_GVA a2 || true) &&
                      ((!!sallyportlaw16_TrapGuest_c38 a0_X a0_PC a0_Level a0_V a0_C a0_Done a1_Cause a1_Value a1_Place a1_GVA a2 || true) &&
                        bif
                            bif sallyportlaw16_TrapGuest_c38 a0_X a0_PC a0_Level a0_V a0_C a0_Done a1_Cause a1_Value a1_Place a1_GVA a2 then true
                            else
                              iNe (sallyportlaw16_TrapGuest_c36 a0_X a0_PC a0_Level a0_V a0_C a0_Done a1_Cause a1_Value a1_Place a1_GVA a2 2)
                                (sallyportref18_Clean4 (fun i0 => a0_X i0) a0_PC a0_Level a0_V (fun i0 => a0_C i0) a0_Done 2) then
                          true
                        else
                          (!!sallyportlaw16_TrapGuest_c39 a0_X a0_PC a0_Level a0_V a0_C a0_Done a1_Cause a1_Value a1_Place a1_GVA a2 || true) &&
                            ((!!sallyportlaw16_TrapGuest_c39 a0_X a0_PC a0_Level a0_V a0_C a0_Done a1_Cause a1_Value a1_Place a1_GVA a2 || true) &&
                              bif
                                  bif sallyportlaw16_TrapGuest_c39 a0_X a0_PC a0_Level a0_V a0_C a0_Done a1_Cause a1_Value a1_Place a1_GVA a2 then true
                                  else
                                    iNe (sallyportlaw16_TrapGuest_c36 a0_X a0_PC a0_Level a0_V a0_C a0_Done a1_Cause a1_Value a1_Place a1_GVA a2 3)
                                      (sallyportref18_Clean4 (fun i0 => a0_X i0) a0_PC a0_Level a0_V (fun i0 => a0_C i0) a0_Done 3) then
                                true
                              else
                                (!!sallyportlaw16_TrapGuest_c40 a0_X a0_PC a0_Level a0_V a0_C a0_Done a1_Cause a1_Value a1_Place a1_GVA a2 || true) &&
                                  ((!!sallyportlaw16_TrapGuest_c40 a0_X a0_PC a0_Level a0_V a0_C a0_Done a1_Cause a1_Value a1_Place a1_GVA a2 || true) &&
                                    bif
                                        bif sallyportlaw16_TrapGuest_c40 a0_X a0_PC a0_Level a0_V a0_C a0_Done a1_Cause a1_Value a1_Place a1_GVA a2 then true
                                        else
                                          iNe (sallyportlaw16_TrapGuest_c36 a0_X a0_PC a0_Level a0_V a0_C a0_Done a1_Cause a1_Value a1_Place a1_GVA a2 4)
                                            (sallyportref18_Clean4 (fun i0 => a0_X i0) a0_PC a0_Level a0_V (fun i0 => a0_C i0) a0_Done 4) then
                                      true
                                    else
                                      (!!sallyportlaw16_TrapGuest_c41 a0_X a0_PC a0_Level a0_V a0_C a0_Done a1_Cause a1_Value a1_Place a1_GVA a2 || true) &&
                                        ((!!sallyportlaw16_TrapGuest_c41 a0_X a0_PC a0_Level a0_V a0_C a0_Done a1_Cause a1_Value a1_Place a1_GVA a2 || true) &&
                                          bif
                                              bif sallyportlaw16_TrapGuest_c41 a0_X a0_PC a0_Level a0_V a0_C a0_Done a1_Cause a1_Value a1_Place a1_GVA a2 then true
                                              else
                                                iNe (sallyportlaw16_TrapGuest_c36 a0_X a0_PC a0_Level a0_V a0_C a0_Done a1_Cause a1_Value a1_Place a1_GVA a2 5)
                                                  (sallyportref18_Clean4 (fun i0 => a0_X i0) a0_PC a0_Level a0_V (fun i0 => a0_C i0) a0_Done 5) then
                                            true
                                          else
                                            (!!sallyportlaw16_TrapGuest_c42 a0_X a0_PC a0_Level a0_V a0_C a0_Done a1_Cause a1_Value a1_Place a1_GVA a2 || true) &&
                                              ((!!sallyportlaw16_TrapGuest_c42 a0_X a0_PC a0_Level a0_V a0_C a0_Done a1_Cause a1_Value a1_Place a1_GVA a2 || true) &&
                                                bif
                                                    bif sallyportlaw16_TrapGuest_c42 a0_X a0_PC a0_Level a0_V a0_C a0_Done a1_Cause a1_Value a1_Place a1_GVA a2 then true
                                                    else
                                                      iNe (sallyportlaw16_TrapGuest_c36 a0_X a0_PC a0_Level a0_V a0_C a0_Done a1_Cause a1_Value a1_Place a1_GVA a2 6)
                                                        (sallyportref18_Clean4 (fun i0 => a0_X i0) a0_PC a0_Level a0_V (fun i0 => a0_C i0) a0_Done 6) then
                                                  true
                                                else
                                                  (!!sallyportlaw16_TrapGuest_c43 a0_X a0_PC a0_Level a0_V a0_C a0_Done a1_Cause a1_Value a1_Place a1_GVA a2 || true) &&
                                                    ((!!sallyportlaw16_TrapGuest_c43 a0_X a0_PC a0_Level a0_V a0_C a0_Done a1_Cause a1_Value a1_Place a1_GVA a2 || true) &&
                                                      bif
                                                          bif sallyportlaw16_TrapGuest_c43 a0_X a0_PC a0_Level a0_V a0_C a0_Done a1_Cause a1_Value a1_Place a1_GVA a2 then true
                                                          else
                                                            iNe (sallyportlaw16_TrapGuest_c36 a0_X a0_PC a0_Level a0_V a0_C a0_Done a1_Cause a1_Value a1_Place a1_GVA a2 7)
                                                              (sallyportref18_Clean4 (fun i0 => a0_X i0) a0_PC a0_Level a0_V (fun i0 => a0_C i0) a0_Done 7) then
                                                        true
                                                      else
                                                        (!!sallyportlaw16_TrapGuest_c44 a0_X a0_PC a0_Level a0_V a0_C a0_Done a1_Cause a1_Value a1_Place a1_GVA a2 || true) &&
                                                          ((!!sallyportlaw16_TrapGuest_c44 a0_X a0_PC a0_Level a0_V a0_C a0_Done a1_Cause a1_Value a1_Place a1_GVA a2 || true) &&
                                                            bif
                                                                bif sallyportlaw16_TrapGuest_c44 a0_X a0_PC a0_Level a0_V a0_C a0_Done a1_Cause a1_Value a1_Place a1_GVA a2 then true
                                                                else
                                                                  iNe (sallyportlaw16_TrapGuest_c36 a0_X a0_PC a0_Level a0_V a0_C a0_Done a1_Cause a1_Value a1_Place a1_GVA a2 8)
                                                                    (sallyportref18_Clean4 (fun i0 => a0_X i0) a0_PC a0_Level a0_V (fun i0 => a0_C i0) a0_Done 8) then
                                                              true
                                                            else
                                                              (!!sallyportlaw16_TrapGuest_c45 a0_X a0_PC a0_Level a0_V a0_C a0_Done a1_Cause a1_Value a1_Place a1_GVA a2 || true) &&
                                                                ((!!sallyportlaw16_TrapGuest_c45 a0_X a0_PC a0_Level a0_V a0_C a0_Done a1_Cause a1_Value a1_Place a1_GVA a2 || true) &&
                                                                  bif
                                                                      bif sallyportlaw16_TrapGuest_c45 a0_X a0_PC a0_Level a0_V a0_C a0_Done a1_Cause a1_Value a1_Place a1_GVA a2 then true
                                                                      else
                                                                        iNe (sallyportlaw16_TrapGuest_c36 a0_X a0_PC a0_Level a0_V a0_C a0_Done a1_Cause a1_Value a1_Place a1_GVA a2 9)
                                                                          (sallyportref18_Clean4 (fun i0 => a0_X i0) a0_PC a0_Level a0_V (fun i0 => a0_C i0) a0_Done 9) then
                                                                    true
                                                                  else
                                                                    (!!sallyportlaw16_TrapGuest_c46 a0_X a0_PC a0_Level a0_V a0_C a0_Done a1_Cause a1_Value a1_Place a1_GVA a2 || true) &&
                                                                      ((!!sallyportlaw16_TrapGuest_c46 a0_X a0_PC a0_Level a0_V a0_C a0_Done a1_Cause a1_Value a1_Place a1_GVA a2 || true) &&
                                                                        bif
                                                                            bif sallyportlaw16_TrapGuest_c46 a0_X a0_PC a0_Level a0_V a0_C a0_Done a1_Cause a1_Value a1_Place a1_GVA a2 then true
                                                                            else
                                                                              iNe (sallyportlaw16_TrapGuest_c36 a0_X a0_PC a0_Level a0_V a0_C a0_Done a1_Cause a1_Value a1_Place a1_GVA a2 10)
                                                                                (sallyportref18_Clean4 (fun i0 => a0_X i0) a0_PC a0_Level a0_V (fun i0 => a0_C i0) a0_Done 10) then
                                                                          true
                                                                        else
                                                                          (!!sallyportlaw16_TrapGuest_c47 a0_X a0_PC a0_Level a0_V a0_C a0_Done a1_Cause a1_Value a1_Place a1_GVA a2 || true) &&
                                                                            ((!!sallyportlaw16_TrapGuest_c47 a0_X a0_PC a0_Level a0_V a0_C a0_Done a1_Cause a1_Value a1_Place a1_GVA a2 || true) &&
                                                                              bif
                                                                                  bif sallyportlaw16_TrapGuest_c47 a0_X a0_PC a0_Level a0_V a0_C a0_Done a1_Cause a1_Value a1_Place a1_GVA a2 then true
                                                                                  else
                                                                                    iNe (sallyportlaw16_TrapGuest_c36 a0_X a0_PC a0_Level a0_V a0_C a0_Done a1_Cause a1_Value a1_Place a1_GVA a2 11)
                                                                                      (sallyportref18_Clean4 (fun i0 => a0_X i0) a0_PC a0_Level a0_V (fun i0 => a0_C i0) a0_Done 11) then
                                                                                true
                                                                              else
                                                                                (!!sallyportlaw16_TrapGuest_c48 a0_X a0_PC a0_Level a0_V a0_C a0_Done a1_Cause a1_Value a1_Place a1_GVA a2 || true) &&
                                                                                  ((!!sallyportlaw16_TrapGuest_c48 a0_X a0_PC a0_Level a0_V a0_C a0_Done a1_Cause a1_Value a1_Place a1_GVA a2 || true) &&
                                                                                    bif
                                                                                        bif sallyportlaw16_TrapGuest_c48 a0_X a0_PC a0_Level a0_V a0_C a0_Done a1_Cause a1_Value a1_Place a1_GVA a2 then
                                                                                          true
                                                                                        else
                                                                                          iNe (sallyportlaw16_TrapGuest_c36 a0_X a0_PC a0_Level a0_V a0_C a0_Done a1_Cause a1_Value a1_Place a1_GVA a2 12)
                                                                                            (sallyportref18_Clean4 (fun i0 => a0_X i0) a0_PC a0_Level a0_V (fun i0 => a0_C i0) a0_Done 12) then
                                                                                      true
                                                                                    else
                                                                                      (!!sallyportlaw16_TrapGuest_c49 a0_X a0_PC a0_Level a0_V a0_C a0_Done a1_Cause a1_Value a1_Place a1_GVA a2 ||
                                                                                          true) &&
                                                                                        ((!!sallyportlaw16_TrapGuest_c49 a0_X a0_PC a0_Level a0_V a0_C a0_Done a1_Cause a1_Value a1_Place a1_GVA a2 ||
                                                                                            true) &&
                                                                                          bif
                                                                                              bif
                                                                                                  sallyportlaw16_TrapGuest_c49 a0_X a0_PC a0_Level a0_V a0_C a0_Done a1_Cause a1_Value a1_Place a1_GVA
                                                                                                    a2 then
                                                                                                true
                                                                                              else
                                                                                                iNe
                                                                                                  (sallyportlaw16_TrapGuest_c36 a0_X a0_PC a0_Level a0_V a0_C a0_Done a1_Cause a1_Value a1_Place a1_GVA a2
                                                                                                    13)
                                                                                                  (sallyportref18_Clean4 (fun i0 => a0_X i0) a0_PC a0_Level a0_V (fun i0 => a0_C i0) a0_Done 13) then
                                                                                            true
                                                                                          else
                                                                                            (!!sallyportlaw16_TrapGuest_c50 a0_X a0_PC a0_Level a0_V a0_C a0_Done a1_Cause a1_Value a1_Place a1_GVA a2 ||
                                                                                                true) &&
                                                                                              ((!!sallyportlaw16_TrapGuest_c50 a0_X a0_PC a0_Level a0_V a0_C a0_Done a1_Cause a1_Value a1_Place a1_GVA
                                                                                                        a2 ||
                                                                                                  true) &&
                                                                                                bif
                                                                                                    bif
                                                                                                        sallyportlaw16_TrapGuest_c50 a0_X a0_PC a0_Level a0_V a0_C a0_Done a1_Cause a1_Value a1_Place
                                                                                                          a1_GVA a2 then
                                                                                                      true
                                                                                                    else
                                                                                                      iNe
                                                                                                        (sallyportlaw16_TrapGuest_c36 a0_X a0_PC a0_Level a0_V a0_C a0_Done a1_Cause a1_Value a1_Place
                                                                                                          a1_GVA a2 14)
                                                                                                        (sallyportref18_Clean4 (fun i0 => a0_X i0) a0_PC a0_Level a0_V (fun i0 => a0_C i0) a0_Done
                                                                                                          14) then
                                                                                                  true
                                                                                                else
                                                                                                  (!!sallyportlaw16_TrapGuest_c51 a0_X a0_PC a0_Level a0_V a0_C a0_Done a1_Cause a1_Value a1_Place a1_GVA
                                                                                                            a2 ||
                                                                                                      true) &&
                                                                                                    ((!!sallyportlaw16_TrapGuest_c51 a0_X a0_PC a0_Level a0_V a0_C a0_Done a1_Cause a1_Value a1_Place
                                                                                                              a1_GVA a2 ||
                                                                                                        true) &&
                                                                                                      bif
                                                                                                          bif
                                                                                                              sallyportlaw16_TrapGuest_c51 a0_X a0_PC a0_Level a0_V a0_C a0_Done a1_Cause a1_Value
                                                                                                                a1_Place a1_GVA a2 then
                                                                                                            true
                                                                                                          else
                                                                                                            iNe
                                                                                                              (sallyportlaw16_TrapGuest_c36 a0_X a0_PC a0_Level a0_V a0_C a0_Done a1_Cause a1_Value
                                                                                                                a1_Place a1_GVA a2 15)
                                                                                                              (sallyportref18_Clean4 (fun i0 => a0_X i0) a0_PC a0_Level a0_V (fun i0 => a0_C i0) a0_Done
                                                                                                                15) then
                                                                                                        true
                                                                                                      else
                                                                                                        (!!sallyportlaw16_TrapGuest_c52 a0_X a0_PC a0_Level a0_V a0_C a0_Done a1_Cause a1_Value a1_Place
                                                                                                                  a1_GVA a2 ||
                                                                                                            true) &&
                                                                                                          ((!!sallyportlaw16_TrapGuest_c52 a0_X a0_PC a0_Level a0_V a0_C a0_Done a1_Cause a1_Value
                                                                                                                    a1_Place a1_GVA a2 ||
                                                                                                              true) &&
                                                                                                            bif
                                                                                                                bif
                                                                                                                    sallyportlaw16_TrapGuest_c52 a0_X a0_PC a0_Level a0_V a0_C a0_Done a1_Cause a1_Value
                                                                                                                      a1_Place a1_GVA a2 then
                                                                                                                  true
                                                                                                                else
                                                                                                                  iNe
                                                                                                                    (sallyportlaw16_TrapGuest_c36 a0_X a0_PC a0_Level a0_V a0_C a0_Done a1_Cause a1_Value
                                                                                                                      a1_Place a1_GVA a2 16)
                                                                                                                    (iAndNot IntKind.u64
                                                                                                                      (sallyportref18_Clean4 (fun i0 => a0_X i0) a0_PC a0_Level a0_V (fun i0 => a0_C i0)
                                                                                                                        a0_Done 16)
                                                                                                                      4194304) then
                                                                                                              true
                                                                                                            else
                                                                                                              (!!sallyportlaw16_TrapGuest_c53 a0_X a0_PC a0_Level a0_V a0_C a0_Done a1_Cause a1_Value
                                                                                                                        a1_Place a1_GVA a2 ||
                                                                                                                  true) &&
                                                                                                                ((!!sallyportlaw16_TrapGuest_c53 a0_X a0_PC a0_Level a0_V a0_C a0_Done a1_Cause a1_Value
                                                                                                                          a1_Place a1_GVA a2 ||
                                                                                                                    true) &&
                                                                                                                  bif
                                                                                                                      bif
                                                                                                                          sallyportlaw16_TrapGuest_c53 a0_X a0_PC a0_Level a0_V a0_C a0_Done a1_Cause
                                                                                                                            a1_Value a1_Place a1_GVA a2 then
                                                                                                                        true
                                                                                                                      else
                                                                                                                        iNe
                                                                                                                          (sallyportlaw16_TrapGuest_c36 a0_X a0_PC a0_Level a0_V a0_C a0_Done a1_Cause
                                                                                                                            a1_Value a1_Place a1_GVA a2 17)
                                                                                                                          (sallyportref18_Clean4 (fun i0 => a0_X i0) a0_PC a0_Level a0_V
                                                                                                                            (fun i0 => a0_C i0) a0_Done 17) then
                                                                                                                    true
                                                                                                                  else
                                                                                                                    (!!sallyportlaw16_TrapGuest_c54 a0_X a0_PC a0_Level a0_V a0_C a0_Done a1_Cause
                                                                                                                              a1_Value a1_Place a1_GVA a2 ||
                                                                                                                        true) &&
                                                                                                                      ((!!sallyportlaw16_TrapGuest_c54 a0_X a0_PC a0_Level a0_V a0_C a0_Done a1_Cause
                                                                                                                                a1_Value a1_Place a1_GVA a2 ||
                                                                                                                          true) &&
                                                                                                                        bif
                                                                                                                            bif
                                                                                                                                sallyportlaw16_TrapGuest_c54 a0_X a0_PC a0_Level a0_V a0_C a0_Done
                                                                                                                                  a1_Cause a1_Value a1_Place a1_GVA a2 then
                                                                                                                              true
                                                                                                                            else
                                                                                                                              iNe
                                                                                                                                (sallyportlaw16_TrapGuest_c36 a0_X a0_PC a0_Level a0_V a0_C a0_Done
                                                                                                                                  a1_Cause a1_Value a1_Place a1_GVA a2 18)
                                                                                                                                (sallyportref18_Clean4 (fun i0 => a0_X i0) a0_PC a0_Level a0_V
                                                                                                                                  (fun i0 => a0_C i0) a0_Done 18) then
                                                                                                                          true
                                                                                                                        else
                                                                                                                          (!!sallyportlaw16_TrapGuest_c55 a0_X a0_PC a0_Level a0_V a0_C a0_Done a1_Cause
                                                                                                                                    a1_Value a1_Place a1_GVA a2 ||
                                                                                                                              true) &&
                                                                                                                            ((!!sallyportlaw16_TrapGuest_c55 a0_X a0_PC a0_Level a0_V a0_C a0_Done
                                                                                                                                      a1_Cause a1_Value a1_Place a1_GVA a2 ||
                                                                                                                                true) &&
                                                                                                                              bif
                                                                                                                                  bif
                                                                                                                                      sallyportlaw16_TrapGuest_c55 a0_X a0_PC a0_Level a0_V a0_C a0_Done
                                                                                                                                        a1_Cause a1_Value a1_Place a1_GVA a2 then
                                                                                                                                    true
                                                                                                                                  else
                                                                                                                                    iNe
                                                                                                                                      (sallyportlaw16_TrapGuest_c36 a0_X a0_PC a0_Level a0_V a0_C a0_Done
                                                                                                                                        a1_Cause a1_Value a1_Place a1_GVA a2 19)
                                                                                                                                      (sallyportref18_Clean4 (fun i0 => a0_X i0) a0_PC a0_Level a0_V
                                                                                                                                        (fun i0 => a0_C i0) a0_Done 19) then
                                                                                                                                true
                                                                                                                              else
                                                                                                                                (!!sallyportlaw16_TrapGuest_c56 a0_X a0_PC a0_Level a0_V a0_C a0_Done
                                                                                                                                          a1_Cause a1_Value a1_Place a1_GVA a2 ||
                                                                                                                                    true) &&
                                                                                                                                  ((!!sallyportlaw16_TrapGuest_c56 a0_X a0_PC a0_Level a0_V a0_C a0_Done
                                                                                                                                            a1_Cause a1_Value a1_Place a1_GVA a2 ||
                                                                                                                                      true) &&
                                                                                                                                    bif
                                                                                                                                        bif
                                                                                                                                            sallyportlaw16_TrapGuest_c56 a0_X a0_PC a0_Level a0_V a0_C
                                                                                                                                              a0_Done a1_Cause a1_Value a1_Place a1_GVA a2 then
                                                                                                                                          true
                                                                                                                                        else
                                                                                                                                          iNe
                                                                                                                                            (sallyportlaw16_TrapGuest_c36 a0_X a0_PC a0_Level a0_V a0_C
                                                                                                                                              a0_Done a1_Cause a1_Value a1_Place a1_GVA a2 20)
                                                                                                                                            (sallyportref18_Clean4 (fun i0 => a0_X i0) a0_PC a0_Level a0_V
                                                                                                                                              (fun i0 => a0_C i0) a0_Done 20) then
                                                                                                                                      true
                                                                                                                                    else
                                                                                                                                      (!!sallyportlaw16_TrapGuest_c57 a0_X a0_PC a0_Level a0_V a0_C
                                                                                                                                                a0_Done a1_Cause a1_Value a1_Place a1_GVA a2 ||
                                                                                                                                          true) &&
                                                                                                                                        ((!!sallyportlaw16_TrapGuest_c57 a0_X a0_PC a0_Level a0_V a0_C
                                                                                                                                                  a0_Done a1_Cause a1_Value a1_Place a1_GVA a2 ||
                                                                                                                                            true) &&
                                                                                                                                          bif
                                                                                                                                              bif
                                                                                                                                                  sallyportlaw16_TrapGuest_c57 a0_X a0_PC a0_Level a0_V
                                                                                                                                                    a0_C a0_Done a1_Cause a1_Value a1_Place a1_GVA a2 then
                                                                                                                                                true
                                                                                                                                              else
                                                                                                                                                iNe
                                                                                                                                                  (sallyportlaw16_TrapGuest_c36 a0_X a0_PC a0_Level a0_V
                                                                                                                                                    a0_C a0_Done a1_Cause a1_Value a1_Place a1_GVA a2 21)
                                                                                                                                                  (sallyportref18_Clean4 (fun i0 => a0_X i0) a0_PC
                                                                                                                                                    a0_Level a0_V (fun i0 => a0_C i0) a0_Done 21) then
                                                                                                                                            true
                                                                                                                                          else
                                                                                                                                            (!sallyportlaw16_TrapGuest_c58 a0_X a0_PC a0_Level a0_V a0_C
                                                                                                                                                    a0_Done a1_Cause a1_Value a1_Place a1_GVA a2 ||
                                                                                                                                                true) &&
                                                                                                                                              ((!sallyportlaw16_TrapGuest_c59 a0_X a0_PC a0_Level a0_V
                                                                                                                                                      a0_C a0_Done a1_Cause a1_Value a1_Place a1_GVA a2 ||
                                                                                                                                                  true) &&
                                                                                                                                                ((!sallyportlaw16_TrapGuest_c59 a0_X a0_PC a0_Level a0_V
                                                                                                                                                        a0_C a0_Done a1_Cause a1_Value a1_Place a1_GVA
                                                                                                                                                        a2 ||
                                                                                                                                                    true) &&
                                                                                                                                                  true))))))))))))))))))))))))
def sallyportlaw16_TrapGuestV (a0_X : Nat → Int) (a0_PC : Int) (a0_Level : Int) (a0_V : Bool) (a0_C : Nat → Int) (a0_Done : Int) (a1_Cause : Int) (a1_Value : Int) (a1_Place : Int) (a1_GVA : Bool) (a2 : Bool) : AV := .bl (sallyportlaw16_TrapGuest0 a0_X a0_PC a0_Level a0_V a0_C a0_Done a1_Cause a1_Value a1_Place a1_GVA a2)
theorem sallyportlaw16_TrapGuestE (g : Nat → AV) : pcOf Try.prog okT (lookR T5) (inl Try.prog okT (lookR T5) RO FS 100 ST 2) RO NOV 100 false Try.f6 (norms [(.agg [(.arr 32 (.int .u64)), (.int .u64), (.int .i64), .bool, (.arr 29 (.int .u64)), (.int .u64)]), (.agg [(.int .u64), (.int .u64), (.int .u64), .bool]), .bool] 0 g) = some (sallyportlaw16_TrapGuestG (fun i0 => (((g 0).fld 0).ix i0).num) (((g 0).fld 1).num) (((g 0).fld 2).num) (((g 0).fld 3).bool) (fun i0 => (((g 0).fld 4).ix i0).num) (((g 0).fld 5).num) (((g 1).fld 0).num) (((g 1).fld 1).num) (((g 1).fld 2).num) (((g 1).fld 3).bool) ((g 2).bool), sallyportlaw16_TrapGuestV (fun i0 => (((g 0).fld 0).ix i0).num) (((g 0).fld 1).num) (((g 0).fld 2).num) (((g 0).fld 3).bool) (fun i0 => (((g 0).fld 4).ix i0).num) (((g 0).fld 5).num) (((g 1).fld 0).num) (((g 1).fld 1).num) (((g 1).fld 2).num) (((g 1).fld 3).bool) ((g 2).bool)) := by kernel_rfl
theorem sallyportlaw16_TrapGuestP : Plain Try.prog 6 Try.f6 := ⟨Try.func6, of_decide_eq_true (by kernel_rfl)⟩
theorem sallyportlaw16_TrapGuestT (a0_X : Nat → Int) (a0_PC : Int) (a0_Level : Int) (a0_V : Bool) (a0_C : Nat → Int) (a0_Done : Int) (a1_Cause : Int) (a1_Value : Int) (a1_Place : Int) (a1_GVA : Bool) (a2 : Bool) : sallyportlaw16_TrapGuestG a0_X a0_PC a0_Level a0_V a0_C a0_Done a1_Cause a1_Value a1_Place a1_GVA a2 = true := by first | (simp [sallyportlaw16_TrapGuestG]; done) | (simp [sallyportlaw16_TrapGuestG, Go.Ev.iEq, Go.Ev.iNe, Go.Ev.iLt, Go.Ev.iLe, Go.Ev.iIn]; omega)
theorem sallyportlaw16_TrapGuestO : RowOk Try.prog 6 (rowF [(.agg [(.arr 32 (.int .u64)), (.int .u64), (.int .i64), .bool, (.arr 29 (.int .u64)), (.int .u64)]), (.agg [(.int .u64), (.int .u64), (.int .u64), .bool]), .bool] none fun g => sallyportlaw16_TrapGuestV (fun i0 => (((g 0).fld 0).ix i0).num) (((g 0).fld 1).num) (((g 0).fld 2).num) (((g 0).fld 3).bool) (fun i0 => (((g 0).fld 4).ix i0).num) (((g 0).fld 5).num) (((g 1).fld 0).num) (((g 1).fld 1).num) (((g 1).fld 2).num) (((g 1).fld 3).bool) ((g 2).bool)) := rowT_ok fun g => pcOf_ok mix fair T5_ok (inl_ok mix fair T5_ok FS_ok 2) sallyportlaw16_TrapGuestP (fun c _ => OvOk_none c) (sallyportlaw16_TrapGuestE g) (sallyportlaw16_TrapGuestT (fun i0 => (((g 0).fld 0).ix i0).num) (((g 0).fld 1).num) (((g 0).fld 2).num) (((g 0).fld 3).bool) (fun i0 => (((g 0).fld 4).ix i0).num) (((g 0).fld 5).num) (((g 1).fld 0).num) (((g 1).fld 1).num) (((g 1).fld 2).num) (((g 1).fld 3).bool) ((g 2).bool))
def T6 : List Row := (6, (rowF [(.agg [(.arr 32 (.int .u64)), (.int .u64), (.int .i64), .bool, (.arr 29 (.int .u64)), (.int .u64)]), (.agg [(.int .u64), (.int .u64), (.int .u64), .bool]), .bool] none fun g => sallyportlaw16_TrapGuestV (fun i0 => (((g 0).fld 0).ix i0).num) (((g 0).fld 1).num) (((g 0).fld 2).num) (((g 0).fld 3).bool) (fun i0 => (((g 0).fld 4).ix i0).num) (((g 0).fld 5).num) (((g 1).fld 0).num) (((g 1).fld 1).num) (((g 1).fld 2).num) (((g 1).fld 3).bool) ((g 2).bool))) :: T5
theorem T6_ok : PSound Try.prog (lookR T6) := lookR_cons sallyportlaw16_TrapGuestO T5_ok

end
end Go.Proofs.Ytjnpaegoobclfaa.PV
