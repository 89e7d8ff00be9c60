/-
  What functions of the program and of the document yield, evaluated (sallyportlaw16.TrapNests .. sallyportlaw16.TrapNone). Printed by a program of the prover's own (wip/prt).
-/
import Derived.Test.YtjnpaegoobclfaaRows
import Derived.Test.YtjnpaegoobclfaaEvW
import Derived.Test.YtjnpaegoobclfaaFa
import Derived.Test.YtjnpaegoobclfaaFb
set_option linter.unusedVariables false
set_option linter.unusedSimpArgs false
namespace Go.Proofs.Ytjnpaegoobclfaa.PV
noncomputable section
open Go Go.Ev
/- sallyport/sallyportlaw16.TrapNests -/
def sallyportlaw16_TrapNests_c0 (a0_X : Nat → Int) (a0_PC : Int) (a0_Level : Int) (a0_V : Bool) (a0_C : Nat → Int) (a0_Done : Int) (a1_Cause : Int) (a1_Value : Int) (a1_Place : Int) (a1_GVA : Bool) (a2_Cause : Int) (a2_Value : Int) (a2_Place : Int) (a2_GVA : Bool) : Int :=
  trap_Enter1 (fun i0 => sallyportref18_Clean0 (fun i0 => a0_X i0) a0_PC a0_Level a0_V (fun i0 => a0_C i0) a0_Done i0)
    (sallyportref18_Clean1 (fun i0 => a0_X i0) a0_PC a0_Level a0_V (fun i0 => a0_C i0) a0_Done) 0 true
    (fun i0 =>
      bif i0 == 16 then iAndNot IntKind.u64 (sallyportref18_Clean4 (fun i0 => a0_X i0) a0_PC a0_Level a0_V (fun i0 => a0_C i0) a0_Done 16) 4194304
      else
        bif i0 == 0 then iAndNot IntKind.u64 (sallyportref18_Clean4 (fun i0 => a0_X i0) a0_PC a0_Level a0_V (fun i0 => a0_C i0) a0_Done 0) 4194304
        else sallyportref18_Clean4 (fun i0 => a0_X i0) a0_PC a0_Level a0_V (fun i0 => a0_C i0) a0_Done i0)
    a0_Done a1_Cause a1_Value a1_Place a1_GVA 1 true
def sallyportlaw16_TrapNests_c1 (a0_X : Nat → Int) (a0_PC : Int) (a0_Level : Int) (a0_V : Bool) (a0_C : Nat → Int) (a0_Done : Int) (a1_Cause : Int) (a1_Value : Int) (a1_Place : Int) (a1_GVA : Bool) (a2_Cause : Int) (a2_Value : Int) (a2_Place : Int) (a2_GVA : Bool) : Int :=
  trap_Enter2 (fun i0 => sallyportref18_Clean0 (fun i0 => a0_X i0) a0_PC a0_Level a0_V (fun i0 => a0_C i0) a0_Done i0)
    (sallyportref18_Clean1 (fun i0 => a0_X i0) a0_PC a0_Level a0_V (fun i0 => a0_C i0) a0_Done) 0 true
    (fun i0 =>
      bif i0 == 16 then iAndNot IntKind.u64 (sallyportref18_Clean4 (fun i0 => a0_X i0) a0_PC a0_Level a0_V (fun i0 => a0_C i0) a0_Done 16) 4194304
      else
        bif i0 == 0 then iAndNot IntKind.u64 (sallyportref18_Clean4 (fun i0 => a0_X i0) a0_PC a0_Level a0_V (fun i0 => a0_C i0) a0_Done 0) 4194304
        else sallyportref18_Clean4 (fun i0 => a0_X i0) a0_PC a0_Level a0_V (fun i0 => a0_C i0) a0_Done i0)
    a0_Done a1_Cause a1_Value a1_Place a1_GVA 1 true
def sallyportlaw16_TrapNests_c2 (a0_X : Nat → Int) (a0_PC : Int) (a0_Level : Int) (a0_V : Bool) (a0_C : Nat → Int) (a0_Done : Int) (a1_Cause : Int) (a1_Value : Int) (a1_Place : Int) (a1_GVA : Bool) (a2_Cause : Int) (a2_Value : Int) (a2_Place : Int) (a2_GVA : Bool) : Bool :=
  trap_Enter3 (fun i0 => sallyportref18_Clean0 (fun i0 => a0_X i0) a0_PC a0_Level a0_V (fun i0 => a0_C i0) a0_Done i0)
    (sallyportref18_Clean1 (fun i0 => a0_X i0) a0_PC a0_Level a0_V (fun i0 => a0_C i0) a0_Done) 0 true
    (fun i0 =>
      bif i0 == 16 then iAndNot IntKind.u64 (sallyportref18_Clean4 (fun i0 => a0_X i0) a0_PC a0_Level a0_V (fun i0 => a0_C i0) a0_Done 16) 4194304
      else
        bif i0 == 0 then iAndNot IntKind.u64 (sallyportref18_Clean4 (fun i0 => a0_X i0) a0_PC a0_Level a0_V (fun i0 => a0_C i0) a0_Done 0) 4194304
        else sallyportref18_Clean4 (fun i0 => a0_X i0) a0_PC a0_Level a0_V (fun i0 => a0_C i0) a0_Done i0)
    a0_Done a1_Cause a1_Value a1_Place a1_GVA 1 true
def sallyportlaw16_TrapNests_c3 (a0_X : Nat → Int) (a0_PC : Int) (a0_Level : Int) (a0_V : Bool) (a0_C : Nat → Int) (a0_Done : Int) (a1_Cause : Int) (a1_Value : Int) (a1_Place : Int) (a1_GVA : Bool) (a2_Cause : Int) (a2_Value : Int) (a2_Place : Int) (a2_GVA : Bool) : Int :=
  trap_Enter1 (fun i0 => sallyportref18_Clean0 (fun i0 => a0_X i0) a0_PC a0_Level a0_V (fun i0 => a0_C i0) a0_Done i0)
    (sallyportlaw16_TrapNests_c0 a0_X a0_PC a0_Level a0_V a0_C a0_Done a1_Cause a1_Value a1_Place a1_GVA a2_Cause a2_Value a2_Place a2_GVA)
    (sallyportlaw16_TrapNests_c1 a0_X a0_PC a0_Level a0_V a0_C a0_Done a1_Cause a1_Value a1_Place a1_GVA a2_Cause a2_Value a2_Place a2_GVA)
    (sallyportlaw16_TrapNests_c2 a0_X a0_PC a0_Level a0_V a0_C a0_Done a1_Cause a1_Value a1_Place a1_GVA a2_Cause a2_Value a2_Place a2_GVA)
    (fun i0 =>
      trap_Enter4 (fun i0 => sallyportref18_Clean0 (fun i0 => a0_X i0) a0_PC a0_Level a0_V (fun i0 => a0_C i0) a0_Done i0)
        (sallyportref18_Clean1 (fun i0 => a0_X i0) a0_PC a0_Level a0_V (fun i0 => a0_C i0) a0_Done) 0 true
        (fun i0 =>
          bif i0 == 16 then iAndNot IntKind.u64 (sallyportref18_Clean4 (fun i0 => a0_X i0) a0_PC a0_Level a0_V (fun i0 => a0_C i0) a0_Done 16) 4194304
          else
            bif i0 == 0 then iAndNot IntKind.u64 (sallyportref18_Clean4 (fun i0 => a0_X i0) a0_PC a0_Level a0_V (fun i0 => a0_C i0) a0_Done 0) 4194304
            else sallyportref18_Clean4 (fun i0 => a0_X i0) a0_PC a0_Level a0_V (fun i0 => a0_C i0) a0_Done i0)
        a0_Done a1_Cause a1_Value a1_Place a1_GVA 1 true i0)
    a0_Done a2_Cause a2_Value a2_Place a2_GVA 1 false
def sallyportlaw16_TrapNests_c4 (a0_X : Nat → Int) (a0_PC : Int) (a0_Level : Int) (a0_V : Bool) (a0_C : Nat → Int) (a0_Done : Int) (a1_Cause : Int) (a1_Value : Int) (a1_Place : Int) (a1_GVA : Bool) (a2_Cause : Int) (a2_Value : Int) (a2_Place : Int) (a2_GVA : Bool) : Int :=
  trap_Enter2 (fun i0 => sallyportref18_Clean0 (fun i0 => a0_X i0) a0_PC a0_Level a0_V (fun i0 => a0_C i0) a0_Done i0)
    (sallyportlaw16_TrapNests_c0 a0_X a0_PC a0_Level a0_V a0_C a0_Done a1_Cause a1_Value a1_Place a1_GVA a2_Cause a2_Value a2_Place a2_GVA)
    (sallyportlaw16_TrapNests_c1 a0_X a0_PC a0_Level a0_V a0_C a0_Done a1_Cause a1_Value a1_Place a1_GVA a2_Cause a2_Value a2_Place a2_GVA)
    (sallyportlaw16_TrapNests_c2 a0_X a0_PC a0_Level a0_V a0_C a0_Done a1_Cause a1_Value a1_Place a1_GVA a2_Cause a2_Value a2_Place a2_GVA)
    (fun i0 =>
      trap_Enter4 (fun i0 => sallyportref18_Clean0 (fun i0 => a0_X i0) a0_PC a0_Level a0_V (fun i0 => a0_C i0) a0_Done i0)
        (sallyportref18_Clean1 (fun i0 => a0_X i0) a0_PC a0_Level a0_V (fun i0 => a0_C i0) a0_Done) 0 true
        (fun i0 =>
          bif i0 == 16 then iAndNot IntKind.u64 (sallyportref18_Clean4 (fun i0 => a0_X i0) a0_PC a0_Level a0_V (fun i0 => a0_C i0) a0_Done 16) 4194304
          else
            bif i0 == 0 then iAndNot IntKind.u64 (sallyportref18_Clean4 (fun i0 => a0_X i0) a0_PC a0_Level a0_V (fun i0 => a0_C i0) a0_Done 0) 4194304
            else sallyportref18_Clean4 (fun i0 => a0_X i0) a0_PC a0_Level a0_V (fun i0 => a0_C i0) a0_Done i0)
        a0_Done a1_Cause a1_Value a1_Place a1_GVA 1 true i0)
    a0_Done a2_Cause a2_Value a2_Place a2_GVA 1 false
def sallyportlaw16_TrapNests_c5 (a0_X : Nat → Int) (a0_PC : Int) (a0_Level : Int) (a0_V : Bool) (a0_C : Nat → Int) (a0_Done : Int) (a1_Cause : Int) (a1_Value : Int) (a1_Place : Int) (a1_GVA : Bool) (a2_Cause : Int) (a2_Value : Int) (a2_Place : Int) (a2_GVA : Bool) : Bool :=
  trap_Enter3 (fun i0 => sallyportref18_Clean0 (fun i0 => a0_X i0) a0_PC a0_Level a0_V (fun i0 => a0_C i0) a0_Done i0)
    (sallyportlaw16_TrapNests_c0 a0_X a0_PC a0_Level a0_V a0_C a0_Done a1_Cause a1_Value a1_Place a1_GVA a2_Cause a2_Value a2_Place a2_GVA)
    (sallyportlaw16_TrapNests_c1 a0_X a0_PC a0_Level a0_V a0_C a0_Done a1_Cause a1_Value a1_Place a1_GVA a2_Cause a2_Value a2_Place a2_GVA)
    (sallyportlaw16_TrapNests_c2 a0_X a0_PC a0_Level a0_V a0_C a0_Done a1_Cause a1_Value a1_Place a1_GVA a2_Cause a2_Value a2_Place a2_GVA)
    (fun i0 =>
      trap_Enter4 (fun i0 => sallyportref18_Clean0 (fun i0 => a0_X i0) a0_PC a0_Level a0_V (fun i0 => a0_C i0) a0_Done i0)
        (sallyportref18_Clean1 (fun i0 => a0_X i0) a0_PC a0_Level a0_V (fun i0 => a0_C i0) a0_Done) 0 true
        (fun i0 =>
          bif i0 == 16 then iAndNot IntKind.u64 (sallyportref18_Clean4 (fun i0 => a0_X i0) a0_PC a0_Level a0_V (fun i0 => a0_C i0) a0_Done 16) 4194304
          else
            bif i0 == 0 then iAndNot IntKind.u64 (sallyportref18_Clean4 (fun i0 => a0_X i0) a0_PC a0_Level a0_V (fun i0 => a0_C i0) a0_Done 0) 4194304
            else sallyportref18_Clean4 (fun i0 => a0_X i0) a0_PC a0_Level a0_V (fun i0 => a0_C i0) a0_Done i0)
        a0_Done a1_Cause a1_Value a1_Place a1_GVA 1 true i0)
    a0_Done a2_Cause a2_Value a2_Place a2_GVA 1 false
def sallyportlaw16_TrapNests_c6 (a0_X : Nat → Int) (a0_PC : Int) (a0_Level : Int) (a0_V : Bool) (a0_C : Nat → Int) (a0_Done : Int) (a1_Cause : Int) (a1_Value : Int) (a1_Place : Int) (a1_GVA : Bool) (a2_Cause : Int) (a2_Value : Int) (a2_Place : Int) (a2_GVA : Bool) : Nat → Int :=
  trap_Enter4 (fun i0 => sallyportref18_Clean0 (fun i0 => a0_X i0) a0_PC a0_Level a0_V (fun i0 => a0_C i0) a0_Done i0)
    (sallyportlaw16_TrapNests_c0 a0_X a0_PC a0_Level a0_V a0_C a0_Done a1_Cause a1_Value a1_Place a1_GVA a2_Cause a2_Value a2_Place a2_GVA)
    (sallyportlaw16_TrapNests_c1 a0_X a0_PC a0_Level a0_V a0_C a0_Done a1_Cause a1_Value a1_Place a1_GVA a2_Cause a2_Value a2_Place a2_GVA)
    (sallyportlaw16_TrapNests_c2 a0_X a0_PC a0_Level a0_V a0_C a0_Done a1_Cause a1_Value a1_Place a1_GVA a2_Cause a2_Value a2_Place a2_GVA)
    (fun i0 =>
      trap_Enter4 (fun i0 => sallyportref18_Clean0 (fun i0 => a0_X i0) a0_PC a0_Level a0_V (fun i0 => a0_C i0) a0_Done i0)
        (sallyportref18_Clean1 (fun i0 => a0_X i0) a0_PC a0_Level a0_V (fun i0 => a0_C i0) a0_Done) 0 true
        (fun i0 =>
          bif i0 == 16 then iAndNot IntKind.u64 (sallyportref18_Clean4 (fun i0 => a0_X i0) a0_PC a0_Level a0_V (fun i0 => a0_C i0) a0_Done 16) 4194304
          else
            bif i0 == 0 then iAndNot IntKind.u64 (sallyportref18_Clean4 (fun i0 => a0_X i0) a0_PC a0_Level a0_V (fun i0 => a0_C i0) a0_Done 0) 4194304
            else sallyportref18_Clean4 (fun i0 => a0_X i0) a0_PC a0_Level a0_V (fun i0 => a0_C i0) a0_Done i0)
        a0_Done a1_Cause a1_Value a1_Place a1_GVA 1 true i0)
    a0_Done a2_Cause a2_Value a2_Place a2_GVA 1 false
def sallyportlaw16_TrapNests_c7 (a0_X : Nat → Int) (a0_PC : Int) (a0_Level : Int) (a0_V : Bool) (a0_C : Nat → Int) (a0_Done : Int) (a1_Cause : Int) (a1_Value : Int) (a1_Place : Int) (a1_GVA : Bool) (a2_Cause : Int) (a2_Value : Int) (a2_Place : Int) (a2_GVA : Bool) : Int :=
  trap_Sret1 (fun i0 => sallyportref18_Clean0 (fun i0 => a0_X i0) a0_PC a0_Level a0_V (fun i0 => a0_C i0) a0_Done i0)
    (sallyportlaw16_TrapNests_c3 a0_X a0_PC a0_Level a0_V a0_C a0_Done a1_Cause a1_Value a1_Place a1_GVA a2_Cause a2_Value a2_Place a2_GVA)
    (sallyportlaw16_TrapNests_c4 a0_X a0_PC a0_Level a0_V a0_C a0_Done a1_Cause a1_Value a1_Place a1_GVA a2_Cause a2_Value a2_Place a2_GVA)
    (sallyportlaw16_TrapNests_c5 a0_X a0_PC a0_Level a0_V a0_C a0_Done a1_Cause a1_Value a1_Place a1_GVA a2_Cause a2_Value a2_Place a2_GVA)
    (fun i0 => sallyportlaw16_TrapNests_c6 a0_X a0_PC a0_Level a0_V a0_C a0_Done a1_Cause a1_Value a1_Place a1_GVA a2_Cause a2_Value a2_Place a2_GVA i0) a0_Done
def sallyportlaw16_TrapNests_c8 (a0_X : Nat → Int) (a0_PC : Int) (a0_Level : Int) (a0_V : Bool) (a0_C : Nat → Int) (a0_Done : Int) (a1_Cause : Int) (a1_Value : Int) (a1_Place : Int) (a1_GVA : Bool) (a2_Cause : Int) (a2_Value : Int) (a2_Place : Int) (a2_GVA : Bool) : Int :=
  trap_Sret2 (fun i0 => sallyportref18_Clean0 (fun i0 => a0_X i0) a0_PC a0_Level a0_V (fun i0 => a0_C i0) a0_Done i0)
    (sallyportlaw16_TrapNests_c3 a0_X a0_PC a0_Level a0_V a0_C a0_Done a1_Cause a1_Value a1_Place a1_GVA a2_Cause a2_Value a2_Place a2_GVA)
    (sallyportlaw16_TrapNests_c4 a0_X a0_PC a0_Level a0_V a0_C a0_Done a1_Cause a1_Value a1_Place a1_GVA a2_Cause a2_Value a2_Place a2_GVA)
    (sallyportlaw16_TrapNests_c5 a0_X a0_PC a0_Level a0_V a0_C a0_Done a1_Cause a1_Value a1_Place a1_GVA a2_Cause a2_Value a2_Place a2_GVA)
    (fun i0 => sallyportlaw16_TrapNests_c6 a0_X a0_PC a0_Level a0_V a0_C a0_Done a1_Cause a1_Value a1_Place a1_GVA a2_Cause a2_Value a2_Place a2_GVA i0) a0_Done
def sallyportlaw16_TrapNests_c9 (a0_X : Nat → Int) (a0_PC : Int) (a0_Level : Int) (a0_V : Bool) (a0_C : Nat → Int) (a0_Done : Int) (a1_Cause : Int) (a1_Value : Int) (a1_Place : Int) (a1_GVA : Bool) (a2_Cause : Int) (a2_Value : Int) (a2_Place : Int) (a2_GVA : Bool) : Bool :=
  trap_Sret3 (fun i0 => sallyportref18_Clean0 (fun i0 => a0_X i0) a0_PC a0_Level a0_V (fun i0 => a0_C i0) a0_Done i0)
    (sallyportlaw16_TrapNests_c3 a0_X a0_PC a0_Level a0_V a0_C a0_Done a1_Cause a1_Value a1_Place a1_GVA a2_Cause a2_Value a2_Place a2_GVA)
    (sallyportlaw16_TrapNests_c4 a0_X a0_PC a0_Level a0_V a0_C a0_Done a1_Cause a1_Value a1_Place a1_GVA a2_Cause a2_Value a2_Place a2_GVA)
    (sallyportlaw16_TrapNests_c5 a0_X a0_PC a0_Level a0_V a0_C a0_Done a1_Cause a1_Value a1_Place a1_GVA a2_Cause a2_Value a2_Place a2_GVA)
    (fun i0 => sallyportlaw16_TrapNests_c6 a0_X a0_PC a0_Level a0_V a0_C a0_Done a1_Cause a1_Value a1_Place a1_GVA a2_Cause a2_Value a2_Place a2_GVA i0) a0_Done
def sallyportlaw16_TrapNests_c10 (a0_X : Nat → Int) (a0_PC : Int) (a0_Level : Int) (a0_V : Bool) (a0_C : Nat → Int) (a0_Done : Int) (a1_Cause : Int) (a1_Value : Int) (a1_Place : Int) (a1_GVA : Bool) (a2_Cause : Int) (a2_Value : Int) (a2_Place : Int) (a2_GVA : Bool) : Bool :=
  bif
      bif
          bif
              bif
                  bif
                      bif
                          bif
                              bif
                                  trap_Sret7 (fun i0 => sallyportref18_Clean0 (fun i0 => a0_X i0) a0_PC a0_Level a0_V (fun i0 => a0_C i0) a0_Done i0)
                                    (sallyportlaw16_TrapNests_c3 a0_X a0_PC a0_Level a0_V a0_C a0_Done a1_Cause a1_Value a1_Place a1_GVA a2_Cause a2_Value a2_Place a2_GVA)
                                    (sallyportlaw16_TrapNests_c4 a0_X a0_PC a0_Level a0_V a0_C a0_Done a1_Cause a1_Value a1_Place a1_GVA a2_Cause a2_Value a2_Place a2_GVA)
                                    (sallyportlaw16_TrapNests_c5 a0_X a0_PC a0_Level a0_V a0_C a0_Done a1_Cause a1_Value a1_Place a1_GVA a2_Cause a2_Value a2_Place a2_GVA)
                                    (fun i0 => sallyportlaw16_TrapNests_c6 a0_X a0_PC a0_Level a0_V a0_C a0_Done a1_Cause a1_Value a1_Place a1_GVA a2_Cause a2_Value a2_Place a2_GVA i0) a0_Done then
                                trap_Sret7 (fun i0 => sallyportref18_Clean0 (fun i0 => a0_X i0) a0_PC a0_Level a0_V (fun i0 => a0_C i0) a0_Done i0)
                                  (sallyportlaw16_TrapNests_c7 a0_X a0_PC a0_Level a0_V a0_C a0_Done a1_Cause a1_Value a1_Place a1_GVA a2_Cause a2_Value a2_Place a2_GVA)
                                  (sallyportlaw16_TrapNests_c8 a0_X a0_PC a0_Level a0_V a0_C a0_Done a1_Cause a1_Value a1_Place a1_GVA a2_Cause a2_Value a2_Place a2_GVA)
                                  (sallyportlaw16_TrapNests_c9 a0_X a0_PC a0_Level a0_V a0_C a0_Done a1_Cause a1_Value a1_Place a1_GVA a2_Cause a2_Value a2_Place a2_GVA)
                                  (fun i0 =>
                                    trap_Sret4 (fun i0 => sallyportref18_Clean0 (fun i0 => a0_X i0) a0_PC a0_Level a0_V (fun i0 => a0_C i0) a0_Done i0)
                                      (sallyportlaw16_TrapNests_c3 a0_X a0_PC a0_Level a0_V a0_C a0_Done a1_Cause a1_Value a1_Place a1_GVA a2_Cause a2_Value a2_Place a2_GVA)
                                      (sallyportlaw16_TrapNests_c4 a0_X a0_PC a0_Level a0_V a0_C a0_Done a1_Cause a1_Value a1_Place a1_GVA a2_Cause a2_Value a2_Place a2_GVA)
                                      (sallyportlaw16_TrapNests_c5 a0_X a0_PC a0_Level a0_V a0_C a0_Done a1_Cause a1_Value a1_Place a1_GVA a2_Cause a2_Value a2_Place a2_GVA)
                                      (fun i0 => sallyportlaw16_TrapNests_c6 a0_X a0_PC a0_Level a0_V a0_C a0_Done a1_Cause a1_Value a1_Place a1_GVA a2_Cause a2_Value a2_Place a2_GVA i0) a0_Done i0)
                                  a0_Done
                              else false then
                            iEq (sallyportlaw16_TrapNests_c7 a0_X a0_PC a0_Level a0_V a0_C a0_Done a1_Cause a1_Value a1_Place a1_GVA a2_Cause a2_Value a2_Place a2_GVA)
                              (sallyportlaw16_TrapNests_c0 a0_X a0_PC a0_Level a0_V a0_C a0_Done a1_Cause a1_Value a1_Place a1_GVA a2_Cause a2_Value a2_Place a2_GVA)
                          else false then
                        iEq (sallyportlaw16_TrapNests_c8 a0_X a0_PC a0_Level a0_V a0_C a0_Done a1_Cause a1_Value a1_Place a1_GVA a2_Cause a2_Value a2_Place a2_GVA) 1
                      else false then
                    sallyportlaw16_TrapNests_c9 a0_X a0_PC a0_Level a0_V a0_C a0_Done a1_Cause a1_Value a1_Place a1_GVA a2_Cause a2_Value a2_Place a2_GVA
                  else false then
                iEq
                  (trap_Sret1 (fun i0 => sallyportref18_Clean0 (fun i0 => a0_X i0) a0_PC a0_Level a0_V (fun i0 => a0_C i0) a0_Done i0)
                    (sallyportlaw16_TrapNests_c7 a0_X a0_PC a0_Level a0_V a0_C a0_Done a1_Cause a1_Value a1_Place a1_GVA a2_Cause a2_Value a2_Place a2_GVA)
                    (sallyportlaw16_TrapNests_c8 a0_X a0_PC a0_Level a0_V a0_C a0_Done a1_Cause a1_Value a1_Place a1_GVA a2_Cause a2_Value a2_Place a2_GVA)
                    (sallyportlaw16_TrapNests_c9 a0_X a0_PC a0_Level a0_V a0_C a0_Done a1_Cause a1_Value a1_Place a1_GVA a2_Cause a2_Value a2_Place a2_GVA)
                    (fun i0 =>
                      trap_Sret4 (fun i0 => sallyportref18_Clean0 (fun i0 => a0_X i0) a0_PC a0_Level a0_V (fun i0 => a0_C i0) a0_Done i0)
                        (sallyportlaw16_TrapNests_c3 a0_X a0_PC a0_Level a0_V a0_C a0_Done a1_Cause a1_Value a1_Place a1_GVA a2_Cause a2_Value a2_Place a2_GVA)
                        (sallyportlaw16_TrapNests_c4 a0_X a0_PC a0_Level a0_V a0_C a0_Done a1_Cause a1_Value a1_Place a1_GVA a2_Cause a2_Value a2_Place a2_GVA)
                        (sallyportlaw16_TrapNests_c5 a0_X a0_PC a0_Level a0_V a0_C a0_Done a1_Cause a1_Value a1_Place a1_GVA a2_Cause a2_Value a2_Place a2_GVA)
                        (fun i0 => sallyportlaw16_TrapNests_c6 a0_X a0_PC a0_Level a0_V a0_C a0_Done a1_Cause a1_Value a1_Place a1_GVA a2_Cause a2_Value a2_Place a2_GVA i0) a0_Done i0)
                    a0_Done)
                  (sallyportref18_Clean1 (fun i0 => a0_X i0) a0_PC a0_Level a0_V (fun i0 => a0_C i0) a0_Done)
              else false then
            iEq
              (trap_Sret2 (fun i0 => sallyportref18_Clean0 (fun i0 => a0_X i0) a0_PC a0_Level a0_V (fun i0 => a0_C i0) a0_Done i0)
                (sallyportlaw16_TrapNests_c7 a0_X a0_PC a0_Level a0_V a0_C a0_Done a1_Cause a1_Value a1_Place a1_GVA a2_Cause a2_Value a2_Place a2_GVA)
                (sallyportlaw16_TrapNests_c8 a0_X a0_PC a0_Level a0_V a0_C a0_Done a1_Cause a1_Value a1_Place a1_GVA a2_Cause a2_Value a2_Place a2_GVA)
                (sallyportlaw16_TrapNests_c9 a0_X a0_PC a0_Level a0_V a0_C a0_Done a1_Cause a1_Value a1_Place a1_GVA a2_Cause a2_Value a2_Place a2_GVA)
                (fun i0 =>
                  trap_Sret4 (fun i0 => sallyportref18_Clean0 (fun i0 => a0_X i0) a0_PC a0_Level a0_V (fun i0 => a0_C i0) a0_Done i0)
                    (sallyportlaw16_TrapNests_c3 a0_X a0_PC a0_Level a0_V a0_C a0_Done a1_Cause a1_Value a1_Place a1_GVA a2_Cause a2_Value a2_Place a2_GVA)
                    (sallyportlaw16_TrapNests_c4 a0_X a0_PC a0_Level a0_V a0_C a0_Done a1_Cause a1_Value a1_Place a1_GVA a2_Cause a2_Value a2_Place a2_GVA)
                    (sallyportlaw16_TrapNests_c5 a0_X a0_PC a0_Level a0_V a0_C a0_Done a1_Cause a1_Value a1_Place a1_GVA a2_Cause a2_Value a2_Place a2_GVA)
                    (fun i0 => sallyportlaw16_TrapNests_c6 a0_X a0_PC a0_Level a0_V a0_C a0_Done a1_Cause a1_Value a1_Place a1_GVA a2_Cause a2_Value a2_Place a2_GVA i0) a0_Done i0)
                a0_Done)
              0
          else false then
        trap_Sret3 (fun i0 => sallyportref18_Clean0 (fun i0 => a0_X i0) a0_PC a0_Level a0_V (fun i0 => a0_C i0) a0_Done i0)
          (sallyportlaw16_TrapNests_c7 a0_X a0_PC a0_Level a0_V a0_C a0_Done a1_Cause a1_Value a1_Place a1_GVA a2_Cause a2_Value a2_Place a2_GVA)
          (sallyportlaw16_TrapNests_c8 a0_X a0_PC a0_Level a0_V a0_C a0_Done a1_Cause a1_Value a1_Place a1_GVA a2_Cause a2_Value a2_Place a2_GVA)
          (sallyportlaw16_TrapNests_c9 a0_X a0_PC a0_Level a0_V a0_C a0_Done a1_Cause a1_Value a1_Place a1_GVA a2_Cause a2_Value a2_Place a2_GVA)
          (fun i0 =>
            trap_Sret4 (fun i0 => sallyportref18_Clean0 (fun i0 => a0_X i0) a0_PC a0_Level a0_V (fun i0 => a0_C i0) a0_Done i0)
              (sallyportlaw16_TrapNests_c3 a0_X a0_PC a0_Level a0_V a0_C a0_Done a1_Cause a1_Value a1_Place a1_GVA a2_Cause a2_Value a2_Place a2_GVA)
              (sallyportlaw16_TrapNests_c4 a0_X a0_PC a0_Level a0_V a0_C a0_Done a1_Cause a1_Value a1_Place a1_GVA a2_Cause a2_Value a2_Place a2_GVA)
              (sallyportlaw16_TrapNests_c5 a0_X a0_PC a0_Level a0_V a0_C a0_Done a1_Cause a1_Value a1_Place a1_GVA a2_Cause a2_Value a2_Place a2_GVA)
              (fun i0 => sallyportlaw16_TrapNests_c6 a0_X a0_PC a0_Level a0_V a0_C a0_Done a1_Cause a1_Value a1_Place a1_GVA a2_Cause a2_Value a2_Place a2_GVA i0) a0_Done i0)
          a0_Done
      else false then
    (List.range 32).all fun i =>
      iEq (sallyportref18_Clean0 (fun i0 => a0_X i0) a0_PC a0_Level a0_V (fun i0 => a0_C i0) a0_Done i) (sallyportref18_Clean0 (fun i0 => a0_X i0) a0_PC a0_Level a0_V (fun i0 => a0_C i0) a0_Done i)
  else false
def sallyportlaw16_TrapNests_c11 (a0_X : Nat → Int) (a0_PC : Int) (a0_Level : Int) (a0_V : Bool) (a0_C : Nat → Int) (a0_Done : Int) (a1_Cause : Int) (a1_Value : Int) (a1_Place : Int) (a1_GVA : Bool) (a2_Cause : Int) (a2_Value : Int) (a2_Place : Int) (a2_GVA : Bool) : Bool :=
  bif sallyportlaw16_TrapNests_c10 a0_X a0_PC a0_Level a0_V a0_C a0_Done a1_Cause a1_Value a1_Place a1_GVA a2_Cause a2_Value a2_Place a2_GVA then
    iEq (sallyportlaw16_TrapNests_c6 a0_X a0_PC a0_Level a0_V a0_C a0_Done a1_Cause a1_Value a1_Place a1_GVA a2_Cause a2_Value a2_Place a2_GVA 12)
      (sallyportref18_Clean4 (fun i0 => a0_X i0) a0_PC a0_Level a0_V (fun i0 => a0_C i0) a0_Done 23)
  else false
def sallyportlaw16_TrapNests0 (a0_X : Nat → Int) (a0_PC : Int) (a0_Level : Int) (a0_V : Bool) (a0_C : Nat → Int) (a0_Done : Int) (a1_Cause : Int) (a1_Value : Int) (a1_Place : Int) (a1_GVA : Bool) (a2_Cause : Int) (a2_Value : Int) (a2_Place : Int) (a2_GVA : Bool) : Bool :=
  bif sallyportlaw16_TrapNests_c11 a0_X a0_PC a0_Level a0_V a0_C a0_Done a1_Cause a1_Value a1_Place a1_GVA a2_Cause a2_Value a2_Place a2_GVA then
    iEq (sallyportlaw16_TrapNests_c6 a0_X a0_PC a0_Level a0_V a0_C a0_Done a1_Cause a1_Value a1_Place a1_GVA a2_Cause a2_Value a2_Place a2_GVA 25)
      (sallyportref18_Clean1 (fun i0 => a0_X i0) a0_PC a0_Level a0_V (fun i0 => a0_C i0) a0_Done)
  else false
def sallyportlaw16_TrapNestsG (a0_X : Nat → Int) (a0_PC : Int) (a0_Level : Int) (a0_V : Bool) (a0_C : Nat → Int) (a0_Done : Int) (a1_Cause : Int) (a1_Value : Int) (a1_Place : Int) (a1_GVA : Bool) (a2_Cause : Int) (a2_Value : Int) (a2_Place : Int) (a2_GVA : Bool) : Bool :=
  (!sallyportlaw16_TrapNests_c10 a0_X a0_PC a0_Level a0_V a0_C a0_Done a1_Cause a1_Value a1_Place a1_GVA a2_Cause a2_Value a2_Place a2_GVA || true) &&
    ((!sallyportlaw16_TrapNests_c10 a0_X a0_PC a0_Level a0_V a0_C a0_Done a1_Cause a1_Value a1_Place a1_GVA a2_Cause a2_Value a2_Place a2_GVA || true) &&
      ((!sallyportlaw16_TrapNests_c11 a0_X a0_PC a0_Level a0_V a0_C a0_Done a1_Cause a1_Value a1_Place a1_GVA a2_Cause a2_Value a2_Place a2_GVA || true) && true))
def sallyportlaw16_TrapNestsV (a0_X : Nat → Int) (a0_PC : Int) (a0_Level : Int) (a0_V : Bool) (a0_C : Nat → Int) (a0_Done : Int) (a1_Cause : Int) (a1_Value : Int) (a1_Place : Int) (a1_GVA : Bool) (a2_Cause : Int) (a2_Value : Int) (a2_Place : Int) (a2_GVA : Bool) : AV := .bl (sallyportlaw16_TrapNests0 a0_X a0_PC a0_Level a0_V a0_C a0_Done a1_Cause a1_Value a1_Place a1_GVA a2_Cause a2_Value a2_Place a2_GVA)
theorem sallyportlaw16_TrapNestsE (g : Nat → AV) : pcOf Try.prog okT (lookR T9) (inl Try.prog okT (lookR T9) RO FS 100 ST 2) RO NOV 100 false Try.f7 (norms [(.agg [(.arr 32 (.int .u64)), (.int .u64), (.int .i64), .bool, (.arr 29 (.int .u64)), (.int .u64)]), (.agg [(.int .u64), (.int .u64), (.int .u64), .bool]), (.agg [(.int .u64), (.int .u64), (.int .u64), .bool])] 0 g) = some (sallyportlaw16_TrapNestsG (fun i0 => (((g 0).fld 0).ix i0).num) (((g 0).fld 1).num) (((g 0).fld 2).num) (((g 0).fld 3).bool) (fun i0 => (((g 0).fld 4).ix i0).num) (((g 0).fld 5).num) (((g 1).fld 0).num) (((g 1).fld 1).num) (((g 1).fld 2).num) (((g 1).fld 3).bool) (((g 2).fld 0).num) (((g 2).fld 1).num) (((g 2).fld 2).num) (((g 2).fld 3).bool), sallyportlaw16_TrapNestsV (fun i0 => (((g 0).fld 0).ix i0).num) (((g 0).fld 1).num) (((g 0).fld 2).num) (((g 0).fld 3).bool) (fun i0 => (((g 0).fld 4).ix i0).num) (((g 0).fld 5).num) (((g 1).fld 0).num) (((g 1).fld 1).num) (((g 1).fld 2).num) (((g 1).fld 3).bool) (((g 2).fld 0).num) (((g 2).fld 1).num) (((g 2).fld 2).num) (((g 2).fld 3).bool)) := by kernel_rfl
theorem sallyportlaw16_TrapNestsP : Plain Try.prog 7 Try.f7 := ⟨Try.func7, of_decide_eq_true (by kernel_rfl)⟩
theorem sallyportlaw16_TrapNestsT (a0_X : Nat → Int) (a0_PC : Int) (a0_Level : Int) (a0_V : Bool) (a0_C : Nat → Int) (a0_Done : Int) (a1_Cause : Int) (a1_Value : Int) (a1_Place : Int) (a1_GVA : Bool) (a2_Cause : Int) (a2_Value : Int) (a2_Place : Int) (a2_GVA : Bool) : sallyportlaw16_TrapNestsG a0_X a0_PC a0_Level a0_V a0_C a0_Done a1_Cause a1_Value a1_Place a1_GVA a2_Cause a2_Value a2_Place a2_GVA = true := by first | (simp [sallyportlaw16_TrapNestsG]; done) | (simp [sallyportlaw16_TrapNestsG, Go.Ev.iEq, Go.Ev.iNe, Go.Ev.iLt, Go.Ev.iLe, Go.Ev.iIn]; omega)
theorem sallyportlaw16_TrapNestsO : RowOk Try.prog 7 (rowF [(.agg [(.arr 32 (.int .u64)), (.int .u64), (.int .i64), .bool, (.arr 29 (.int .u64)), (.int .u64)]), (.agg [(.int .u64), (.int .u64), (.int .u64), .bool]), (.agg [(.int .u64), (.int .u64), (.int .u64), .bool])] none fun g => sallyportlaw16_TrapNestsV (fun i0 => (((g 0).fld 0).ix i0).num) (((g 0).fld 1).num) (((g 0).fld 2).num) (((g 0).fld 3).bool) (fun i0 => (((g 0).fld 4).ix i0).num) (((g 0).fld 5).num) (((g 1).fld 0).num) (((g 1).fld 1).num) (((g 1).fld 2).num) (((g 1).fld 3).bool) (((g 2).fld 0).num) (((g 2).fld 1).num) (((g 2).fld 2).num) (((g 2).fld 3).bool)) := rowT_ok fun g => pcOf_ok mix fair T9_ok (inl_ok mix fair T9_ok FS_ok 2) sallyportlaw16_TrapNestsP (fun c _ => OvOk_none c) (sallyportlaw16_TrapNestsE g) (sallyportlaw16_TrapNestsT (fun i0 => (((g 0).fld 0).ix i0).num) (((g 0).fld 1).num) (((g 0).fld 2).num) (((g 0).fld 3).bool) (fun i0 => (((g 0).fld 4).ix i0).num) (((g 0).fld 5).num) (((g 1).fld 0).num) (((g 1).fld 1).num) (((g 1).fld 2).num) (((g 1).fld 3).bool) (((g 2).fld 0).num) (((g 2).fld 1).num) (((g 2).fld 2).num) (((g 2).fld 3).bool))
def T7 : List Row := (7, (rowF [(.agg [(.arr 32 (.int .u64)), (.int .u64), (.int .i64), .bool, (.arr 29 (.int .u64)), (.int .u64)]), (.agg [(.int .u64), (.int .u64), (.int .u64), .bool]), (.agg [(.int .u64), (.int .u64), (.int .u64), .bool])] none fun g => sallyportlaw16_TrapNestsV (fun i0 => (((g 0).fld 0).ix i0).num) (((g 0).fld 1).num) (((g 0).fld 2).num) (((g 0).fld 3).bool) (fun i0 => (((g 0).fld 4).ix i0).num) (((g 0).fld 5).num) (((g 1).fld 0).num) (((g 1).fld 1).num) (((g 1).fld 2).num) (((g 1).fld 3).bool) (((g 2).fld 0).num) (((g 2).fld 1).num) (((g 2).fld 2).num) (((g 2).fld 3).bool))) :: T9
theorem T7_ok : PSound Try.prog (lookR T7) := lookR_cons sallyportlaw16_TrapNestsO T9_ok

/- sallyport/sallyportlaw16.TrapNone -/
def sallyportlaw16_TrapNone_c0 (a0_X : Nat → Int) (a0_PC : Int) (a0_Level : Int) (a0_V : Bool) (a0_C : Nat → Int) (a0_Done : Int) (a1_Cause : Int) (a1_Value : Int) (a1_Place : Int) (a1_GVA : Bool) (a2 : Int) : Bool → Int :=
  trap_Enter1 (fun i0 => sallyportref18_Clean0 (fun i0 => a0_X i0) a0_PC a0_Level a0_V (fun i0 => a0_C i0) a0_Done i0)
    (sallyportref18_Clean1 (fun i0 => a0_X i0) a0_PC a0_Level a0_V (fun i0 => a0_C i0) a0_Done) (sallyportref18_Clean2 (fun i0 => a0_X i0) a0_PC a0_Level a0_V (fun i0 => a0_C i0) a0_Done)
    (sallyportref18_Clean3 (fun i0 => a0_X i0) a0_PC a0_Level a0_V (fun i0 => a0_C i0) a0_Done) (fun i0 => sallyportref18_Clean4 (fun i0 => a0_X i0) a0_PC a0_Level a0_V (fun i0 => a0_C i0) a0_Done i0)
    a0_Done a1_Cause a1_Value a1_Place a1_GVA a2
def sallyportlaw16_TrapNone_c1 (a0_X : Nat → Int) (a0_PC : Int) (a0_Level : Int) (a0_V : Bool) (a0_C : Nat → Int) (a0_Done : Int) (a1_Cause : Int) (a1_Value : Int) (a1_Place : Int) (a1_GVA : Bool) (a2 : Int) : Bool → Int :=
  trap_Enter2 (fun i0 => sallyportref18_Clean0 (fun i0 => a0_X i0) a0_PC a0_Level a0_V (fun i0 => a0_C i0) a0_Done i0)
    (sallyportref18_Clean1 (fun i0 => a0_X i0) a0_PC a0_Level a0_V (fun i0 => a0_C i0) a0_Done) (sallyportref18_Clean2 (fun i0 => a0_X i0) a0_PC a0_Level a0_V (fun i0 => a0_C i0) a0_Done)
    (sallyportref18_Clean3 (fun i0 => a0_X i0) a0_PC a0_Level a0_V (fun i0 => a0_C i0) a0_Done) (fun i0 => sallyportref18_Clean4 (fun i0 => a0_X i0) a0_PC a0_Level a0_V (fun i0 => a0_C i0) a0_Done i0)
    a0_Done a1_Cause a1_Value a1_Place a1_GVA a2
def sallyportlaw16_TrapNone_c2 (a0_X : Nat → Int) (a0_PC : Int) (a0_Level : Int) (a0_V : Bool) (a0_C : Nat → Int) (a0_Done : Int) (a1_Cause : Int) (a1_Value : Int) (a1_Place : Int) (a1_GVA : Bool) (a2 : Int) : Bool → Bool :=
  trap_Enter3 (fun i0 => sallyportref18_Clean0 (fun i0 => a0_X i0) a0_PC a0_Level a0_V (fun i0 => a0_C i0) a0_Done i0)
    (sallyportref18_Clean1 (fun i0 => a0_X i0) a0_PC a0_Level a0_V (fun i0 => a0_C i0) a0_Done) (sallyportref18_Clean2 (fun i0 => a0_X i0) a0_PC a0_Level a0_V (fun i0 => a0_C i0) a0_Done)
    (sallyportref18_Clean3 (fun i0 => a0_X i0) a0_PC a0_Level a0_V (fun i0 => a0_C i0) a0_Done) (fun i0 => sallyportref18_Clean4 (fun i0 => a0_X i0) a0_PC a0_Level a0_V (fun i0 => a0_C i0) a0_Done i0)
    a0_Done a1_Cause a1_Value a1_Place a1_GVA a2
def sallyportlaw16_TrapNone_c3 (a0_X : Nat → Int) (a0_PC : Int) (a0_Level : Int) (a0_V : Bool) (a0_C : Nat → Int) (a0_Done : Int) (a1_Cause : Int) (a1_Value : Int) (a1_Place : Int) (a1_GVA : Bool) (a2 : Int) : Bool :=
  trap_Mret7 (fun i0 => sallyportref18_Clean0 (fun i0 => a0_X i0) a0_PC a0_Level a0_V (fun i0 => a0_C i0) a0_Done i0)
    (sallyportref18_Clean1 (fun i0 => a0_X i0) a0_PC a0_Level a0_V (fun i0 => a0_C i0) a0_Done) (sallyportref18_Clean2 (fun i0 => a0_X i0) a0_PC a0_Level a0_V (fun i0 => a0_C i0) a0_Done)
    (sallyportref18_Clean3 (fun i0 => a0_X i0) a0_PC a0_Level a0_V (fun i0 => a0_C i0) a0_Done) (fun i0 => sallyportref18_Clean4 (fun i0 => a0_X i0) a0_PC a0_Level a0_V (fun i0 => a0_C i0) a0_Done i0)
    a0_Done
def sallyportlaw16_TrapNone_c4 (a0_X : Nat → Int) (a0_PC : Int) (a0_Level : Int) (a0_V : Bool) (a0_C : Nat → Int) (a0_Done : Int) (a1_Cause : Int) (a1_Value : Int) (a1_Place : Int) (a1_GVA : Bool) (a2 : Int) : Bool :=
  sallyportlaw16_TrapNone_c3 a0_X a0_PC a0_Level a0_V a0_C a0_Done a1_Cause a1_Value a1_Place a1_GVA a2 ==
    iEq (sallyportref18_Clean2 (fun i0 => a0_X i0) a0_PC a0_Level a0_V (fun i0 => a0_C i0) a0_Done) 3
def sallyportlaw16_TrapNone_c5 (a0_X : Nat → Int) (a0_PC : Int) (a0_Level : Int) (a0_V : Bool) (a0_C : Nat → Int) (a0_Done : Int) (a1_Cause : Int) (a1_Value : Int) (a1_Place : Int) (a1_GVA : Bool) (a2 : Int) : Bool :=
  iEq
    (trap_Sret6 (fun i0 => sallyportref18_Clean0 (fun i0 => a0_X i0) a0_PC a0_Level a0_V (fun i0 => a0_C i0) a0_Done i0)
      (sallyportref18_Clean1 (fun i0 => a0_X i0) a0_PC a0_Level a0_V (fun i0 => a0_C i0) a0_Done) 0 false
      (fun i0 => sallyportref18_Clean4 (fun i0 => a0_X i0) a0_PC a0_Level a0_V (fun i0 => a0_C i0) a0_Done i0) a0_Done)
    2
def sallyportlaw16_TrapNone0 (a0_X : Nat → Int) (a0_PC : Int) (a0_Level : Int) (a0_V : Bool) (a0_C : Nat → Int) (a0_Done : Int) (a1_Cause : Int) (a1_Value : Int) (a1_Place : Int) (a1_GVA : Bool) (a2 : Int) : Bool :=
  bif
      bif bif iNe a2 1 then iNe a2 3 else false then
        bif
            !(((List.range 32).all fun i =>
                  iEq (sallyportref18_Clean0 (fun i0 => a0_X i0) a0_PC a0_Level a0_V (fun i0 => a0_C i0) a0_Done i)
                    (sallyportref18_Clean0 (fun i0 => a0_X i0) a0_PC a0_Level a0_V (fun i0 => a0_C i0) a0_Done i)) &&
                (iEq (sallyportlaw16_TrapNone_c0 a0_X a0_PC a0_Level a0_V a0_C a0_Done a1_Cause a1_Value a1_Place a1_GVA a2 true)
                    (sallyportref18_Clean1 (fun i0 => a0_X i0) a0_PC a0_Level a0_V (fun i0 => a0_C i0) a0_Done) &&
                  (iEq (sallyportlaw16_TrapNone_c1 a0_X a0_PC a0_Level a0_V a0_C a0_Done a1_Cause a1_Value a1_Place a1_GVA a2 true)
                      (sallyportref18_Clean2 (fun i0 => a0_X i0) a0_PC a0_Level a0_V (fun i0 => a0_C i0) a0_Done) &&
                    (sallyportlaw16_TrapNone_c2 a0_X a0_PC a0_Level a0_V a0_C a0_Done a1_Cause a1_Value a1_Place a1_GVA a2 true ==
                        sallyportref18_Clean3 (fun i0 => a0_X i0) a0_PC a0_Level a0_V (fun i0 => a0_C i0) a0_Done &&
                      (((List.range 29).all fun i =>
                          iEq
                            (trap_Enter4 (fun i0 => sallyportref18_Clean0 (fun i0 => a0_X i0) a0_PC a0_Level a0_V (fun i0 => a0_C i0) a0_Done i0)
                              (sallyportref18_Clean1 (fun i0 => a0_X i0) a0_PC a0_Level a0_V (fun i0 => a0_C i0) a0_Done)
                              (sallyportref18_Clean2 (fun i0 => a0_X i0) a0_PC a0_Level a0_V (fun i0 => a0_C i0) a0_Done)
                              (sallyportref18_Clean3 (fun i0 => a0_X i0) a0_PC a0_Level a0_V (fun i0 => a0_C i0) a0_Done)
                              (fun i0 => sallyportref18_Clean4 (fun i0 => a0_X i0) a0_PC a0_Level a0_V (fun i0 => a0_C i0) a0_Done i0) a0_Done a1_Cause a1_Value a1_Place a1_GVA a2 true i)
                            (sallyportref18_Clean4 (fun i0 => a0_X i0) a0_PC a0_Level a0_V (fun i0 => a0_C i0) a0_Done i)) &&
                        iEq a0_Done a0_Done))))) then
          true
        else
          !(((List.range 32).all fun i =>
                iEq (sallyportref18_Clean0 (fun i0 => a0_X i0) a0_PC a0_Level a0_V (fun i0 => a0_C i0) a0_Done i)
                  (sallyportref18_Clean0 (fun i0 => a0_X i0) a0_PC a0_Level a0_V (fun i0 => a0_C i0) a0_Done i)) &&
              (iEq (sallyportlaw16_TrapNone_c0 a0_X a0_PC a0_Level a0_V a0_C a0_Done a1_Cause a1_Value a1_Place a1_GVA a2 false)
                  (sallyportref18_Clean1 (fun i0 => a0_X i0) a0_PC a0_Level a0_V (fun i0 => a0_C i0) a0_Done) &&
                (iEq (sallyportlaw16_TrapNone_c1 a0_X a0_PC a0_Level a0_V a0_C a0_Done a1_Cause a1_Value a1_Place a1_GVA a2 false)
                    (sallyportref18_Clean2 (fun i0 => a0_X i0) a0_PC a0_Level a0_V (fun i0 => a0_C i0) a0_Done) &&
                  (sallyportlaw16_TrapNone_c2 a0_X a0_PC a0_Level a0_V a0_C a0_Done a1_Cause a1_Value a1_Place a1_GVA a2 false ==
                      sallyportref18_Clean3 (fun i0 => a0_X i0) a0_PC a0_Level a0_V (fun i0 => a0_C i0) a0_Done &&
                    (((List.range 29).all fun i =>
                        iEq
                          (trap_Enter4 (fun i0 => sallyportref18_Clean0 (fun i0 => a0_X i0) a0_PC a0_Level a0_V (fun i0 => a0_C i0) a0_Done i0)
                            (sallyportref18_Clean1 (fun i0 => a0_X i0) a0_PC a0_Level a0_V (fun i0 => a0_C i0) a0_Done)
                            (sallyportref18_Clean2 (fun i0 => a0_X i0) a0_PC a0_Level a0_V (fun i0 => a0_C i0) a0_Done)
                            (sallyportref18_Clean3 (fun i0 => a0_X i0) a0_PC a0_Level a0_V (fun i0 => a0_C i0) a0_Done)
                            (fun i0 => sallyportref18_Clean4 (fun i0 => a0_X i0) a0_PC a0_Level a0_V (fun i0 => a0_C i0) a0_Done i0) a0_Done a1_Cause a1_Value a1_Place a1_GVA a2 false i)
                          (sallyportref18_Clean4 (fun i0 => a0_X i0) a0_PC a0_Level a0_V (fun i0 => a0_C i0) a0_Done i)) &&
                      iEq a0_Done a0_Done)))))
      else false then
    false
  else
    bif
        bif
            bif
                bif
                    bif
                        bif
                            ((List.range 32).all fun i =>
                                iEq (sallyportref18_Clean0 (fun i0 => a0_X i0) a0_PC a0_Level a0_V (fun i0 => a0_C i0) a0_Done i)
                                  (sallyportref18_Clean0 (fun i0 => a0_X i0) a0_PC a0_Level a0_V (fun i0 => a0_C i0) a0_Done i)) &&
                              (iEq
                                  (trap_Enter1 (fun i0 => sallyportref18_Clean0 (fun i0 => a0_X i0) a0_PC a0_Level a0_V (fun i0 => a0_C i0) a0_Done i0)
                                    (sallyportref18_Clean1 (fun i0 => a0_X i0) a0_PC a0_Level a0_V (fun i0 => a0_C i0) a0_Done) 0 false
                                    (fun i0 => sallyportref18_Clean4 (fun i0 => a0_X i0) a0_PC a0_Level a0_V (fun i0 => a0_C i0) a0_Done i0) a0_Done a1_Cause a1_Value a1_Place a1_GVA 1 true)
                                  (sallyportref18_Clean1 (fun i0 => a0_X i0) a0_PC a0_Level a0_V (fun i0 => a0_C i0) a0_Done) &&
                                (iEq
                                    (trap_Enter2 (fun i0 => sallyportref18_Clean0 (fun i0 => a0_X i0) a0_PC a0_Level a0_V (fun i0 => a0_C i0) a0_Done i0)
                                      (sallyportref18_Clean1 (fun i0 => a0_X i0) a0_PC a0_Level a0_V (fun i0 => a0_C i0) a0_Done) 0 false
                                      (fun i0 => sallyportref18_Clean4 (fun i0 => a0_X i0) a0_PC a0_Level a0_V (fun i0 => a0_C i0) a0_Done i0) a0_Done a1_Cause a1_Value a1_Place a1_GVA 1 true)
                                    0 &&
                                  (trap_Enter3 (fun i0 => sallyportref18_Clean0 (fun i0 => a0_X i0) a0_PC a0_Level a0_V (fun i0 => a0_C i0) a0_Done i0)
                                        (sallyportref18_Clean1 (fun i0 => a0_X i0) a0_PC a0_Level a0_V (fun i0 => a0_C i0) a0_Done) 0 false
                                        (fun i0 => sallyportref18_Clean4 (fun i0 => a0_X i0) a0_PC a0_Level a0_V (fun i0 => a0_C i0) a0_Done i0) a0_Done a1_Cause a1_Value a1_Place a1_GVA 1 true ==
                                      false &&
                                    (((List.range 29).all fun i =>
                                        iEq
                                          (trap_Enter4 (fun i0 => sallyportref18_Clean0 (fun i0 => a0_X i0) a0_PC a0_Level a0_V (fun i0 => a0_C i0) a0_Done i0)
                                            (sallyportref18_Clean1 (fun i0 => a0_X i0) a0_PC a0_Level a0_V (fun i0 => a0_C i0) a0_Done) 0 false
                                            (fun i0 => sallyportref18_Clean4 (fun i0 => a0_X i0) a0_PC a0_Level a0_V (fun i0 => a0_C i0) a0_Done i0) a0_Done a1_Cause a1_Value a1_Place a1_GVA 1 true i)
                                          (sallyportref18_Clean4 (fun i0 => a0_X i0) a0_PC a0_Level a0_V (fun i0 => a0_C i0) a0_Done i)) &&
                                      iEq a0_Done a0_Done)))) then
                          ((List.range 32).all fun i =>
                              iEq (sallyportref18_Clean0 (fun i0 => a0_X i0) a0_PC a0_Level a0_V (fun i0 => a0_C i0) a0_Done i)
                                (sallyportref18_Clean0 (fun i0 => a0_X i0) a0_PC a0_Level a0_V (fun i0 => a0_C i0) a0_Done i)) &&
                            (iEq
                                (trap_Enter1 (fun i0 => sallyportref18_Clean0 (fun i0 => a0_X i0) a0_PC a0_Level a0_V (fun i0 => a0_C i0) a0_Done i0)
                                  (sallyportref18_Clean1 (fun i0 => a0_X i0) a0_PC a0_Level a0_V (fun i0 => a0_C i0) a0_Done)
                                  (sallyportref18_Clean2 (fun i0 => a0_X i0) a0_PC a0_Level a0_V (fun i0 => a0_C i0) a0_Done)
                                  (sallyportref18_Clean3 (fun i0 => a0_X i0) a0_PC a0_Level a0_V (fun i0 => a0_C i0) a0_Done)
                                  (fun i0 => sallyportref18_Clean4 (fun i0 => a0_X i0) a0_PC a0_Level a0_V (fun i0 => a0_C i0) a0_Done i0) a0_Done a1_Cause a1_Value a1_Place a1_GVA 3 true)
                                (sallyportref18_Clean1 (fun i0 => a0_X i0) a0_PC a0_Level a0_V (fun i0 => a0_C i0) a0_Done) &&
                              (iEq
                                  (trap_Enter2 (fun i0 => sallyportref18_Clean0 (fun i0 => a0_X i0) a0_PC a0_Level a0_V (fun i0 => a0_C i0) a0_Done i0)
                                    (sallyportref18_Clean1 (fun i0 => a0_X i0) a0_PC a0_Level a0_V (fun i0 => a0_C i0) a0_Done)
                                    (sallyportref18_Clean2 (fun i0 => a0_X i0) a0_PC a0_Level a0_V (fun i0 => a0_C i0) a0_Done)
                                    (sallyportref18_Clean3 (fun i0 => a0_X i0) a0_PC a0_Level a0_V (fun i0 => a0_C i0) a0_Done)
                                    (fun i0 => sallyportref18_Clean4 (fun i0 => a0_X i0) a0_PC a0_Level a0_V (fun i0 => a0_C i0) a0_Done i0) a0_Done a1_Cause a1_Value a1_Place a1_GVA 3 true)
                                  (sallyportref18_Clean2 (fun i0 => a0_X i0) a0_PC a0_Level a0_V (fun i0 => a0_C i0) a0_Done) &&
                                (trap_Enter3 (fun i0 => sallyportref18_Clean0 (fun i0 => a0_X i0) a0_PC a0_Level a0_V (fun i0 => a0_C i0) a0_Done i0)
                                      (sallyportref18_Clean1 (fun i0 => a0_X i0) a0_PC a0_Level a0_V (fun i0 => a0_C i0) a0_Done)
                                      (sallyportref18_Clean2 (fun i0 => a0_X i0) a0_PC a0_Level a0_V (fun i0 => a0_C i0) a0_Done)
                                      (sallyportref18_Clean3 (fun i0 => a0_X i0) a0_PC a0_Level a0_V (fun i0 => a0_C i0) a0_Done)
                                      (fun i0 => sallyportref18_Clean4 (fun i0 => a0_X i0) a0_PC a0_Level a0_V (fun i0 => a0_C i0) a0_Done i0) a0_Done a1_Cause a1_Value a1_Place a1_GVA 3 true ==
                                    sallyportref18_Clean3 (fun i0 => a0_X i0) a0_PC a0_Level a0_V (fun i0 => a0_C i0) a0_Done &&
                                  (((List.range 29).all fun i =>
                                      iEq
                                        (trap_Enter4 (fun i0 => sallyportref18_Clean0 (fun i0 => a0_X i0) a0_PC a0_Level a0_V (fun i0 => a0_C i0) a0_Done i0)
                                          (sallyportref18_Clean1 (fun i0 => a0_X i0) a0_PC a0_Level a0_V (fun i0 => a0_C i0) a0_Done)
                                          (sallyportref18_Clean2 (fun i0 => a0_X i0) a0_PC a0_Level a0_V (fun i0 => a0_C i0) a0_Done)
                                          (sallyportref18_Clean3 (fun i0 => a0_X i0) a0_PC a0_Level a0_V (fun i0 => a0_C i0) a0_Done)
                                          (fun i0 => sallyportref18_Clean4 (fun i0 => a0_X i0) a0_PC a0_Level a0_V (fun i0 => a0_C i0) a0_Done i0) a0_Done a1_Cause a1_Value a1_Place a1_GVA 3 true i)
                                        (sallyportref18_Clean4 (fun i0 => a0_X i0) a0_PC a0_Level a0_V (fun i0 => a0_C i0) a0_Done i)) &&
                                    iEq a0_Done a0_Done))))
                        else false then
                      sallyportlaw16_TrapNone_c4 a0_X a0_PC a0_Level a0_V a0_C a0_Done a1_Cause a1_Value a1_Place a1_GVA a2
                    else false then
                  bif sallyportlaw16_TrapNone_c3 a0_X a0_PC a0_Level a0_V a0_C a0_Done a1_Cause a1_Value a1_Place a1_GVA a2 then true
                  else
                    ((List.range 32).all fun i =>
                        iEq (sallyportref18_Clean0 (fun i0 => a0_X i0) a0_PC a0_Level a0_V (fun i0 => a0_C i0) a0_Done i)
                          (sallyportref18_Clean0 (fun i0 => a0_X i0) a0_PC a0_Level a0_V (fun i0 => a0_C i0) a0_Done i)) &&
                      (iEq
                          (trap_Mret1 (fun i0 => sallyportref18_Clean0 (fun i0 => a0_X i0) a0_PC a0_Level a0_V (fun i0 => a0_C i0) a0_Done i0)
                            (sallyportref18_Clean1 (fun i0 => a0_X i0) a0_PC a0_Level a0_V (fun i0 => a0_C i0) a0_Done)
                            (sallyportref18_Clean2 (fun i0 => a0_X i0) a0_PC a0_Level a0_V (fun i0 => a0_C i0) a0_Done)
                            (sallyportref18_Clean3 (fun i0 => a0_X i0) a0_PC a0_Level a0_V (fun i0 => a0_C i0) a0_Done)
                            (fun i0 => sallyportref18_Clean4 (fun i0 => a0_X i0) a0_PC a0_Level a0_V (fun i0 => a0_C i0) a0_Done i0) a0_Done)
                          (sallyportref18_Clean1 (fun i0 => a0_X i0) a0_PC a0_Level a0_V (fun i0 => a0_C i0) a0_Done) &&
                        (iEq
                            (trap_Mret2 (fun i0 => sallyportref18_Clean0 (fun i0 => a0_X i0) a0_PC a0_Level a0_V (fun i0 => a0_C i0) a0_Done i0)
                              (sallyportref18_Clean1 (fun i0 => a0_X i0) a0_PC a0_Level a0_V (fun i0 => a0_C i0) a0_Done)
                              (sallyportref18_Clean2 (fun i0 => a0_X i0) a0_PC a0_Level a0_V (fun i0 => a0_C i0) a0_Done)
                              (sallyportref18_Clean3 (fun i0 => a0_X i0) a0_PC a0_Level a0_V (fun i0 => a0_C i0) a0_Done)
                              (fun i0 => sallyportref18_Clean4 (fun i0 => a0_X i0) a0_PC a0_Level a0_V (fun i0 => a0_C i0) a0_Done i0) a0_Done)
                            (sallyportref18_Clean2 (fun i0 => a0_X i0) a0_PC a0_Level a0_V (fun i0 => a0_C i0) a0_Done) &&
                          (trap_Mret3 (fun i0 => sallyportref18_Clean0 (fun i0 => a0_X i0) a0_PC a0_Level a0_V (fun i0 => a0_C i0) a0_Done i0)
                                (sallyportref18_Clean1 (fun i0 => a0_X i0) a0_PC a0_Level a0_V (fun i0 => a0_C i0) a0_Done)
                                (sallyportref18_Clean2 (fun i0 => a0_X i0) a0_PC a0_Level a0_V (fun i0 => a0_C i0) a0_Done)
                                (sallyportref18_Clean3 (fun i0 => a0_X i0) a0_PC a0_Level a0_V (fun i0 => a0_C i0) a0_Done)
                                (fun i0 => sallyportref18_Clean4 (fun i0 => a0_X i0) a0_PC a0_Level a0_V (fun i0 => a0_C i0) a0_Done i0) a0_Done ==
                              sallyportref18_Clean3 (fun i0 => a0_X i0) a0_PC a0_Level a0_V (fun i0 => a0_C i0) a0_Done &&
                            (((List.range 29).all fun i =>
                                iEq
                                  (trap_Mret4 (fun i0 => sallyportref18_Clean0 (fun i0 => a0_X i0) a0_PC a0_Level a0_V (fun i0 => a0_C i0) a0_Done i0)
                                    (sallyportref18_Clean1 (fun i0 => a0_X i0) a0_PC a0_Level a0_V (fun i0 => a0_C i0) a0_Done)
                                    (sallyportref18_Clean2 (fun i0 => a0_X i0) a0_PC a0_Level a0_V (fun i0 => a0_C i0) a0_Done)
                                    (sallyportref18_Clean3 (fun i0 => a0_X i0) a0_PC a0_Level a0_V (fun i0 => a0_C i0) a0_Done)
                                    (fun i0 => sallyportref18_Clean4 (fun i0 => a0_X i0) a0_PC a0_Level a0_V (fun i0 => a0_C i0) a0_Done i0) a0_Done i)
                                  (sallyportref18_Clean4 (fun i0 => a0_X i0) a0_PC a0_Level a0_V (fun i0 => a0_C i0) a0_Done i)) &&
                              iEq a0_Done a0_Done))))
                else false then
              !trap_Sret7 (fun i0 => sallyportref18_Clean0 (fun i0 => a0_X i0) a0_PC a0_Level a0_V (fun i0 => a0_C i0) a0_Done i0)
                  (sallyportref18_Clean1 (fun i0 => a0_X i0) a0_PC a0_Level a0_V (fun i0 => a0_C i0) a0_Done) 0 false
                  (fun i0 => sallyportref18_Clean4 (fun i0 => a0_X i0) a0_PC a0_Level a0_V (fun i0 => a0_C i0) a0_Done i0) a0_Done
            else false then
          ((List.range 32).all fun i =>
              iEq (sallyportref18_Clean0 (fun i0 => a0_X i0) a0_PC a0_Level a0_V (fun i0 => a0_C i0) a0_Done i)
                (sallyportref18_Clean0 (fun i0 => a0_X i0) a0_PC a0_Level a0_V (fun i0 => a0_C i0) a0_Done i)) &&
            (iEq
                (trap_Sret1 (fun i0 => sallyportref18_Clean0 (fun i0 => a0_X i0) a0_PC a0_Level a0_V (fun i0 => a0_C i0) a0_Done i0)
                  (sallyportref18_Clean1 (fun i0 => a0_X i0) a0_PC a0_Level a0_V (fun i0 => a0_C i0) a0_Done) 0 false
                  (fun i0 => sallyportref18_Clean4 (fun i0 => a0_X i0) a0_PC a0_Level a0_V (fun i0 => a0_C i0) a0_Done i0) a0_Done)
                (sallyportref18_Clean1 (fun i0 => a0_X i0) a0_PC a0_Level a0_V (fun i0 => a0_C i0) a0_Done) &&
              (iEq
                  (trap_Sret2 (fun i0 => sallyportref18_Clean0 (fun i0 => a0_X i0) a0_PC a0_Level a0_V (fun i0 => a0_C i0) a0_Done i0)
                    (sallyportref18_Clean1 (fun i0 => a0_X i0) a0_PC a0_Level a0_V (fun i0 => a0_C i0) a0_Done) 0 false
                    (fun i0 => sallyportref18_Clean4 (fun i0 => a0_X i0) a0_PC a0_Level a0_V (fun i0 => a0_C i0) a0_Done i0) a0_Done)
                  0 &&
                (trap_Sret3 (fun i0 => sallyportref18_Clean0 (fun i0 => a0_X i0) a0_PC a0_Level a0_V (fun i0 => a0_C i0) a0_Done i0)
                      (sallyportref18_Clean1 (fun i0 => a0_X i0) a0_PC a0_Level a0_V (fun i0 => a0_C i0) a0_Done) 0 false
                      (fun i0 => sallyportref18_Clean4 (fun i0 => a0_X i0) a0_PC a0_Level a0_V (fun i0 => a0_C i0) a0_Done i0) a0_Done ==
                    false &&
                  (((List.range 29).all fun i =>
                      iEq
                        (trap_Sret4 (fun i0 => sallyportref18_Clean0 (fun i0 => a0_X i0) a0_PC a0_Level a0_V (fun i0 => a0_C i0) a0_Done i0)
                          (sallyportref18_Clean1 (fun i0 => a0_X i0) a0_PC a0_Level a0_V (fun i0 => a0_C i0) a0_Done) 0 false
                          (fun i0 => sallyportref18_Clean4 (fun i0 => a0_X i0) a0_PC a0_Level a0_V (fun i0 => a0_C i0) a0_Done i0) a0_Done i)
                        (sallyportref18_Clean4 (fun i0 => a0_X i0) a0_PC a0_Level a0_V (fun i0 => a0_C i0) a0_Done i)) &&
                    iEq a0_Done a0_Done))))
        else false then
      sallyportlaw16_TrapNone_c5 a0_X a0_PC a0_Level a0_V a0_C a0_Done a1_Cause a1_Value a1_Place a1_GVA a2
    else false
def sallyportlaw16_TrapNone0r (a0_X : Nat → Int) (a0_PC : Int) (a0_Level : Int) (a0_V : Bool) (a0_C : Nat → Int) (a0_Done : Int) (a1_Cause : Int) (a1_Value : Int) (a1_Place : Int) (a1_GVA : Bool) (a2 : Int) : Bool :=
  bif
      bif bif iNe a2 1 then iNe a2 3 else false then
        bif
            !(((List.range 32).all fun i =>
                  iEq (sallyportref18_Clean0 (fun i0 => a0_X i0) a0_PC a0_Level a0_V (fun i0 => a0_C i0) a0_Done i)
                    (sallyportref18_Clean0 (fun i0 => a0_X i0) a0_PC a0_Level a0_V (fun i0 => a0_C i0) a0_Done i)) &&
                (iEq (sallyportlaw16_TrapNone_c0 a0_X a0_PC a0_Level a0_V a0_C a0_Done a1_Cause a1_Value a1_Place a1_GVA a2 true)
                    (sallyportref18_Clean1 (fun i0 => a0_X i0) a0_PC a0_Level a0_V (fun i0 => a0_C i0) a0_Done) &&
                  (iEq (sallyportlaw16_TrapNone_c1 a0_X a0_PC a0_Level a0_V a0_C a0_Done a1_Cause a1_Value a1_Place a1_GVA a2 true)
                      (sallyportref18_Clean2 (fun i0 => a0_X i0) a0_PC a0_Level a0_V (fun i0 => a0_C i0) a0_Done) &&
                    (sallyportlaw16_TrapNone_c2 a0_X a0_PC a0_Level a0_V a0_C a0_Done a1_Cause a1_Value a1_Place a1_GVA a2 true ==
                        sallyportref18_Clean3 (fun i0 => a0_X i0) a0_PC a0_Level a0_V (fun i0 => a0_C i0) a0_Done &&
                      (((List.range 29).all fun i =>
                          iEq
                            (trap_Enter4 (fun i0 => sallyportref18_Clean0 (fun i0 => a0_X i0) a0_PC a0_Level a0_V (fun i0 => a0_C i0) a0_Done i0)
                              (sallyportref18_Clean1 (fun i0 => a0_X i0) a0_PC a0_Level a0_V (fun i0 => a0_C i0) a0_Done)
                              (sallyportref18_Clean2 (fun i0 => a0_X i0) a0_PC a0_Level a0_V (fun i0 => a0_C i0) a0_Done)
                              (sallyportref18_Clean3 (fun i0 => a0_X i0) a0_PC a0_Level a0_V (fun i0 => a0_C i0) a0_Done)
                              (fun i0 => sallyportref18_Clean4 (fun i0 => a0_X i0) a0_PC a0_Level a0_V (fun i0 => a0_C i0) a0_Done i0) a0_Done a1_Cause a1_Value a1_Place a1_GVA a2 true i)
                            (sallyportref18_Clean4 (fun i0 => a0_X i0) a0_PC a0_Level a0_V (fun i0 => a0_C i0) a0_Done i)) &&
                        (iEq a0_Done a0_Done && true)))))) then
          true
        else
          !(((List.range 32).all fun i =>
                iEq (sallyportref18_Clean0 (fun i0 => a0_X i0) a0_PC a0_Level a0_V (fun i0 => a0_C i0) a0_Done i)
                  (sallyportref18_Clean0 (fun i0 => a0_X i0) a0_PC a0_Level a0_V (fun i0 => a0_C i0) a0_Done i)) &&
              (iEq (sallyportlaw16_TrapNone_c0 a0_X a0_PC a0_Level a0_V a0_C a0_Done a1_Cause a1_Value a1_Place a1_GVA a2 false)
                  (sallyportref18_Clean1 (fun i0 => a0_X i0) a0_PC a0_Level a0_V (fun i0 => a0_C i0) a0_Done) &&
                (iEq (sallyportlaw16_TrapNone_c1 a0_X a0_PC a0_Level a0_V a0_C a0_Done a1_Cause a1_Value a1_Place a1_GVA a2 false)
                    (sallyportref18_Clean2 (fun i0 => a0_X i0) a0_PC a0_Level a0_V (fun i0 => a0_C i0) a0_Done) &&
                  (sallyportlaw16_TrapNone_c2 a0_X a0_PC a0_Level a0_V a0_C a0_Done a1_Cause a1_Value a1_Place a1_GVA a2 false ==
                      sallyportref18_Clean3 (fun i0 => a0_X i0) a0_PC a0_Level a0_V (fun i0 => a0_C i0) a0_Done &&
                    (((List.range 29).all fun i =>
                        iEq
                          (trap_Enter4 (fun i0 => sallyportref18_Clean0 (fun i0 => a0_X i0) a0_PC a0_Level a0_V (fun i0 => a0_C i0) a0_Done i0)
                            (sallyportref18_Clean1 (fun i0 => a0_X i0) a0_PC a0_Level a0_V (fun i0 => a0_C i0) a0_Done)
                            (sallyportref18_Clean2 (fun i0 => a0_X i0) a0_PC a0_Level a0_V (fun i0 => a0_C i0) a0_Done)
                            (sallyportref18_Clean3 (fun i0 => a0_X i0) a0_PC a0_Level a0_V (fun i0 => a0_C i0) a0_Done)
                            (fun i0 => sallyportref18_Clean4 (fun i0 => a0_X i0) a0_PC a0_Level a0_V (fun i0 => a0_C i0) a0_Done i0) a0_Done a1_Cause a1_Value a1_Place a1_GVA a2 false i)
                          (sallyportref18_Clean4 (fun i0 => a0_X i0) a0_PC a0_Level a0_V (fun i0 => a0_C i0) a0_Done i)) &&
                      (iEq a0_Done a0_Done && true))))))
      else false then
    false
  else
    bif
        bif
            bif
                bif
                    bif
                        bif
                            ((List.range 32).all fun i =>
                                iEq (sallyportref18_Clean0 (fun i0 => a0_X i0) a0_PC a0_Level a0_V (fun i0 => a0_C i0) a0_Done i)
                                  (sallyportref18_Clean0 (fun i0 => a0_X i0) a0_PC a0_Level a0_V (fun i0 => a0_C i0) a0_Done i)) &&
                              (iEq
                                  (trap_Enter1 (fun i0 => sallyportref18_Clean0 (fun i0 => a0_X i0) a0_PC a0_Level a0_V (fun i0 => a0_C i0) a0_Done i0)
                                    (sallyportref18_Clean1 (fun i0 => a0_X i0) a0_PC a0_Level a0_V (fun i0 => a0_C i0) a0_Done) 0 false
                                    (fun i0 => sallyportref18_Clean4 (fun i0 => a0_X i0) a0_PC a0_Level a0_V (fun i0 => a0_C i0) a0_Done i0) a0_Done a1_Cause a1_Value a1_Place a1_GVA 1 true)
                                  (sallyportref18_Clean1 (fun i0 => a0_X i0) a0_PC a0_Level a0_V (fun i0 => a0_C i0) a0_Done) &&
                                (iEq
                                    (trap_Enter2 (fun i0 => sallyportref18_Clean0 (fun i0 => a0_X i0) a0_PC a0_Level a0_V (fun i0 => a0_C i0) a0_Done i0)
                                      (sallyportref18_Clean1 (fun i0 => a0_X i0) a0_PC a0_Level a0_V (fun i0 => a0_C i0) a0_Done) 0 false
                                      (fun i0 => sallyportref18_Clean4 (fun i0 => a0_X i0) a0_PC a0_Level a0_V (fun i0 => a0_C i0) a0_Done i0) a0_Done a1_Cause a1_Value a1_Place a1_GVA 1 true)
                                    0 &&
                                  (trap_Enter3 (fun i0 => sallyportref18_Clean0 (fun i0 => a0_X i0) a0_PC a0_Level a0_V (fun i0 => a0_C i0) a0_Done i0)
                                        (sallyportref18_Clean1 (fun i0 => a0_X i0) a0_PC a0_Level a0_V (fun i0 => a0_C i0) a0_Done) 0 false
                                        (fun i0 => sallyportref18_Clean4 (fun i0 => a0_X i0) a0_PC a0_Level a0_V (fun i0 => a0_C i0) a0_Done i0) a0_Done a1_Cause a1_Value a1_Place a1_GVA 1 true ==
                                      false &&
                                    (((List.range 29).all fun i =>
                                        iEq
                                          (trap_Enter4 (fun i0 => sallyportref18_Clean0 (fun i0 => a0_X i0) a0_PC a0_Level a0_V (fun i0 => a0_C i0) a0_Done i0)
                                            (sallyportref18_Clean1 (fun i0 => a0_X i0) a0_PC a0_Level a0_V (fun i0 => a0_C i0) a0_Done) 0 false
                                            (fun i0 => sallyportref18_Clean4 (fun i0 => a0_X i0) a0_PC a0_Level a0_V (fun i0 => a0_C i0) a0_Done i0) a0_Done a1_Cause a1_Value a1_Place a1_GVA 1 true i)
                                          (sallyportref18_Clean4 (fun i0 => a0_X i0) a0_PC a0_Level a0_V (fun i0 => a0_C i0) a0_Done i)) &&
                                      (iEq a0_Done a0_Done && true))))) then
                          ((List.range 32).all fun i =>
                              iEq (sallyportref18_Clean0 (fun i0 => a0_X i0) a0_PC a0_Level a0_V (fun i0 => a0_C i0) a0_Done i)
                                (sallyportref18_Clean0 (fun i0 => a0_X i0) a0_PC a0_Level a0_V (fun i0 => a0_C i0) a0_Done i)) &&
                            (iEq
                                (trap_Enter1 (fun i0 => sallyportref18_Clean0 (fun i0 => a0_X i0) a0_PC a0_Level a0_V (fun i0 => a0_C i0) a0_Done i0)
                                  (sallyportref18_Clean1 (fun i0 => a0_X i0) a0_PC a0_Level a0_V (fun i0 => a0_C i0) a0_Done)
                                  (sallyportref18_Clean2 (fun i0 => a0_X i0) a0_PC a0_Level a0_V (fun i0 => a0_C i0) a0_Done)
                                  (sallyportref18_Clean3 (fun i0 => a0_X i0) a0_PC a0_Level a0_V (fun i0 => a0_C i0) a0_Done)
                                  (fun i0 => sallyportref18_Clean4 (fun i0 => a0_X i0) a0_PC a0_Level a0_V (fun i0 => a0_C i0) a0_Done i0) a0_Done a1_Cause a1_Value a1_Place a1_GVA 3 true)
                                (sallyportref18_Clean1 (fun i0 => a0_X i0) a0_PC a0_Level a0_V (fun i0 => a0_C i0) a0_Done) &&
                              (iEq
                                  (trap_Enter2 (fun i0 => sallyportref18_Clean0 (fun i0 => a0_X i0) a0_PC a0_Level a0_V (fun i0 => a0_C i0) a0_Done i0)
                                    (sallyportref18_Clean1 (fun i0 => a0_X i0) a0_PC a0_Level a0_V (fun i0 => a0_C i0) a0_Done)
                                    (sallyportref18_Clean2 (fun i0 => a0_X i0) a0_PC a0_Level a0_V (fun i0 => a0_C i0) a0_Done)
                                    (sallyportref18_Clean3 (fun i0 => a0_X i0) a0_PC a0_Level a0_V (fun i0 => a0_C i0) a0_Done)
                                    (fun i0 => sallyportref18_Clean4 (fun i0 => a0_X i0) a0_PC a0_Level a0_V (fun i0 => a0_C i0) a0_Done i0) a0_Done a1_Cause a1_Value a1_Place a1_GVA 3 true)
                                  (sallyportref18_Clean2 (fun i0 => a0_X i0) a0_PC a0_Level a0_V (fun i0 => a0_C i0) a0_Done) &&
                                (trap_Enter3 (fun i0 => sallyportref18_Clean0 (fun i0 => a0_X i0) a0_PC a0_Level a0_V (fun i0 => a0_C i0) a0_Done i0)
                                      (sallyportref18_Clean1 (fun i0 => a0_X i0) a0_PC a0_Level a0_V (fun i0 => a0_C i0) a0_Done)
                                      (sallyportref18_Clean2 (fun i0 => a0_X i0) a0_PC a0_Level a0_V (fun i0 => a0_C i0) a0_Done)
                                      (sallyportref18_Clean3 (fun i0 => a0_X i0) a0_PC a0_Level a0_V (fun i0 => a0_C i0) a0_Done)
                                      (fun i0 => sallyportref18_Clean4 (fun i0 => a0_X i0) a0_PC a0_Level a0_V (fun i0 => a0_C i0) a0_Done i0) a0_Done a1_Cause a1_Value a1_Place a1_GVA 3 true ==
                                    sallyportref18_Clean3 (fun i0 => a0_X i0) a0_PC a0_Level a0_V (fun i0 => a0_C i0) a0_Done &&
                                  (((List.range 29).all fun i =>
                                      iEq
                                        (trap_Enter4 (fun i0 => sallyportref18_Clean0 (fun i0 => a0_X i0) a0_PC a0_Level a0_V (fun i0 => a0_C i0) a0_Done i0)
                                          (sallyportref18_Clean1 (fun i0 => a0_X i0) a0_PC a0_Level a0_V (fun i0 => a0_C i0) a0_Done)
                                          (sallyportref18_Clean2 (fun i0 => a0_X i0) a0_PC a0_Level a0_V (fun i0 => a0_C i0) a0_Done)
                                          (sallyportref18_Clean3 (fun i0 => a0_X i0) a0_PC a0_Level a0_V (fun i0 => a0_C i0) a0_Done)
                                          (fun i0 => sallyportref18_Clean4 (fun i0 => a0_X i0) a0_PC a0_Level a0_V (fun i0 => a0_C i0) a0_Done i0) a0_Done a1_Cause a1_Value a1_Place a1_GVA 3 true i)
                                        (sallyportref18_Clean4 (fun i0 => a0_X i0) a0_PC a0_Level a0_V (fun i0 => a0_C i0) a0_Done i)) &&
                                    (iEq a0_Done a0_Done && true)))))
                        else false then
                      sallyportlaw16_TrapNone_c4 a0_X a0_PC a0_Level a0_V a0_C a0_Done a1_Cause a1_Value a1_Place a1_GVA a2
                    else false then
                  bif sallyportlaw16_TrapNone_c3 a0_X a0_PC a0_Level a0_V a0_C a0_Done a1_Cause a1_Value a1_Place a1_GVA a2 then true
                  else
                    ((List.range 32).all fun i =>
                        iEq (sallyportref18_Clean0 (fun i0 => a0_X i0) a0_PC a0_Level a0_V (fun i0 => a0_C i0) a0_Done i)
                          (sallyportref18_Clean0 (fun i0 => a0_X i0) a0_PC a0_Level a0_V (fun i0 => a0_C i0) a0_Done i)) &&
                      (iEq
                          (trap_Mret1 (fun i0 => sallyportref18_Clean0 (fun i0 => a0_X i0) a0_PC a0_Level a0_V (fun i0 => a0_C i0) a0_Done i0)
                            (sallyportref18_Clean1 (fun i0 => a0_X i0) a0_PC a0_Level a0_V (fun i0 => a0_C i0) a0_Done)
                            (sallyportref18_Clean2 (fun i0 => a0_X i0) a0_PC a0_Level a0_V (fun i0 => a0_C i0) a0_Done)
                            (sallyportref18_Clean3 (fun i0 => a0_X i0) a0_PC a0_Level a0_V (fun i0 => a0_C i0) a0_Done)
                            (fun i0 => sallyportref18_Clean4 (fun i0 => a0_X i0) a0_PC a0_Level a0_V (fun i0 => a0_C i0) a0_Done i0) a0_Done)
                          (sallyportref18_Clean1 (fun i0 => a0_X i0) a0_PC a0_Level a0_V (fun i0 => a0_C i0) a0_Done) &&
                        (iEq
                            (trap_Mret2 (fun i0 => sallyportref18_Clean0 (fun i0 => a0_X i0) a0_PC a0_Level a0_V (fun i0 => a0_C i0) a0_Done i0)
                              (sallyportref18_Clean1 (fun i0 => a0_X i0) a0_PC a0_Level a0_V (fun i0 => a0_C i0) a0_Done)
                              (sallyportref18_Clean2 (fun i0 => a0_X i0) a0_PC a0_Level a0_V (fun i0 => a0_C i0) a0_Done)
                              (sallyportref18_Clean3 (fun i0 => a0_X i0) a0_PC a0_Level a0_V (fun i0 => a0_C i0) a0_Done)
                              (fun i0 => sallyportref18_Clean4 (fun i0 => a0_X i0) a0_PC a0_Level a0_V (fun i0 => a0_C i0) a0_Done i0) a0_Done)
                            (sallyportref18_Clean2 (fun i0 => a0_X i0) a0_PC a0_Level a0_V (fun i0 => a0_C i0) a0_Done) &&
                          (trap_Mret3 (fun i0 => sallyportref18_Clean0 (fun i0 => a0_X i0) a0_PC a0_Level a0_V (fun i0 => a0_C i0) a0_Done i0)
                                (sallyportref18_Clean1 (fun i0 => a0_X i0) a0_PC a0_Level a0_V (fun i0 => a0_C i0) a0_Done)
                                (sallyportref18_Clean2 (fun i0 => a0_X i0) a0_PC a0_Level a0_V (fun i0 => a0_C i0) a0_Done)
                                (sallyportref18_Clean3 (fun i0 => a0_X i0) a0_PC a0_Level a0_V (fun i0 => a0_C i0) a0_Done)
                                (fun i0 => sallyportref18_Clean4 (fun i0 => a0_X i0) a0_PC a0_Level a0_V (fun i0 => a0_C i0) a0_Done i0) a0_Done ==
                              sallyportref18_Clean3 (fun i0 => a0_X i0) a0_PC a0_Level a0_V (fun i0 => a0_C i0) a0_Done &&
                            (((List.range 29).all fun i =>
                                iEq
                                  (trap_Mret4 (fun i0 => sallyportref18_Clean0 (fun i0 => a0_X i0) a0_PC a0_Level a0_V (fun i0 => a0_C i0) a0_Done i0)
                                    (sallyportref18_Clean1 (fun i0 => a0_X i0) a0_PC a0_Level a0_V (fun i0 => a0_C i0) a0_Done)
                                    (sallyportref18_Clean2 (fun i0 => a0_X i0) a0_PC a0_Level a0_V (fun i0 => a0_C i0) a0_Done)
                                    (sallyportref18_Clean3 (fun i0 => a0_X i0) a0_PC a0_Level a0_V (fun i0 => a0_C i0) a0_Done)
                                    (fun i0 => sallyportref18_Clean4 (fun i0 => a0_X i0) a0_PC a0_Level a0_V (fun i0 => a0_C i0) a0_Done i0) a0_Done i)
                                  (sallyportref18_Clean4 (fun i0 => a0_X i0) a0_PC a0_Level a0_V (fun i0 => a0_C i0) a0_Done i)) &&
                              (iEq a0_Done a0_Done && true)))))
                else false then
              !trap_Sret7 (fun i0 => sallyportref18_Clean0 (fun i0 => a0_X i0) a0_PC a0_Level a0_V (fun i0 => a0_C i0) a0_Done i0)
                  (sallyportref18_Clean1 (fun i0 => a0_X i0) a0_PC a0_Level a0_V (fun i0 => a0_C i0) a0_Done) 0 false
                  (fun i0 => sallyportref18_Clean4 (fun i0 => a0_X i0) a0_PC a0_Level a0_V (fun i0 => a0_C i0) a0_Done i0) a0_Done
            else false then
          ((List.range 32).all fun i =>
              iEq (sallyportref18_Clean0 (fun i0 => a0_X i0) a0_PC a0_Level a0_V (fun i0 => a0_C i0) a0_Done i)
                (sallyportref18_Clean0 (fun i0 => a0_X i0) a0_PC a0_Level a0_V (fun i0 => a0_C i0) a0_Done i)) &&
            (iEq
                (trap_Sret1 (fun i0 => sallyportref18_Clean0 (fun i0 => a0_X i0) a0_PC a0_Level a0_V (fun i0 => a0_C i0) a0_Done i0)
                  (sallyportref18_Clean1 (fun i0 => a0_X i0) a0_PC a0_Level a0_V (fun i0 => a0_C i0) a0_Done) 0 false
                  (fun i0 => sallyportref18_Clean4 (fun i0 => a0_X i0) a0_PC a0_Level a0_V (fun i0 => a0_C i0) a0_Done i0) a0_Done)
                (sallyportref18_Clean1 (fun i0 => a0_X i0) a0_PC a0_Level a0_V (fun i0 => a0_C i0) a0_Done) &&
              (iEq
                  (trap_Sret2 (fun i0 => sallyportref18_Clean0 (fun i0 => a0_X i0) a0_PC a0_Level a0_V (fun i0 => a0_C i0) a0_Done i0)
                    (sallyportref18_Clean1 (fun i0 => a0_X i0) a0_PC a0_Level a0_V (fun i0 => a0_C i0) a0_Done) 0 false
                    (fun i0 => sallyportref18_Clean4 (fun i0 => a0_X i0) a0_PC a0_Level a0_V (fun i0 => a0_C i0) a0_Done i0) a0_Done)
                  0 &&
                (trap_Sret3 (fun i0 => sallyportref18_Clean0 (fun i0 => a0_X i0) a0_PC a0_Level a0_V (fun i0 => a0_C i0) a0_Done i0)
                      (sallyportref18_Clean1 (fun i0 => a0_X i0) a0_PC a0_Level a0_V (fun i0 => a0_C i0) a0_Done) 0 false
                      (fun i0 => sallyportref18_Clean4 (fun i0 => a0_X i0) a0_PC a0_Level a0_V (fun i0 => a0_C i0) a0_Done i0) a0_Done ==
                    false &&
                  (((List.range 29).all fun i =>
                      iEq
                        (trap_Sret4 (fun i0 => sallyportref18_Clean0 (fun i0 => a0_X i0) a0_PC a0_Level a0_V (fun i0 => a0_C i0) a0_Done i0)
                          (sallyportref18_Clean1 (fun i0 => a0_X i0) a0_PC a0_Level a0_V (fun i0 => a0_C i0) a0_Done) 0 false
                          (fun i0 => sallyportref18_Clean4 (fun i0 => a0_X i0) a0_PC a0_Level a0_V (fun i0 => a0_C i0) a0_Done i0) a0_Done i)
                        (sallyportref18_Clean4 (fun i0 => a0_X i0) a0_PC a0_Level a0_V (fun i0 => a0_C i0) a0_Done i)) &&
                    (iEq a0_Done a0_Done && true)))))
        else false then
      sallyportlaw16_TrapNone_c5 a0_X a0_PC a0_Level a0_V a0_C a0_Done a1_Cause a1_Value a1_Place a1_GVA a2
    else false
def sallyportlaw16_TrapNoneG (a0_X : Nat → Int) (a0_PC : Int) (a0_Level : Int) (a0_V : Bool) (a0_C : Nat → Int) (a0_Done : Int) (a1_Cause : Int) (a1_Value : Int) (a1_Place : Int) (a1_GVA : Bool) (a2 : Int) : Bool :=
  bif
      bif bif iNe a2 1 then iNe a2 3 else false then
        bif
            !(((List.range 32).all fun i =>
                  iEq (sallyportref18_Clean0 (fun i0 => a0_X i0) a0_PC a0_Level a0_V (fun i0 => a0_C i0) a0_Done i)
                    (sallyportref18_Clean0 (fun i0 => a0_X i0) a0_PC a0_Level a0_V (fun i0 => a0_C i0) a0_Done i)) &&
                (iEq (sallyportlaw16_TrapNone_c0 a0_X a0_PC a0_Level a0_V a0_C a0_Done a1_Cause a1_Value a1_Place a1_GVA a2 true)
                    (sallyportref18_Clean1 (fun i0 => a0_X i0) a0_PC a0_Level a0_V (fun i0 => a0_C i0) a0_Done) &&
                  (iEq (sallyportlaw16_TrapNone_c1 a0_X a0_PC a0_Level a0_V a0_C a0_Done a1_Cause a1_Value a1_Place a1_GVA a2 true)
                      (sallyportref18_Clean2 (fun i0 => a0_X i0) a0_PC a0_Level a0_V (fun i0 => a0_C i0) a0_Done) &&
                    (sallyportlaw16_TrapNone_c2 a0_X a0_PC a0_Level a0_V a0_C a0_Done a1_Cause a1_Value a1_Place a1_GVA a2 true ==
                        sallyportref18_Clean3 (fun i0 => a0_X i0) a0_PC a0_Level a0_V (fun i0 => a0_C i0) a0_Done &&
                      (((List.range 29).all fun i =>
                          iEq
                            (trap_Enter4 (fun i0 => sallyportref18_Clean0 (fun i0 => a0_X i0) a0_PC a0_Level a0_V (fun i0 => a0_C i0) a0_Done i0)
                              (sallyportref18_Clean1 (fun i0 => a0_X i0) a0_PC a0_Level a0_V (fun i0 => a0_C i0) a0_Done)
                              (sallyportref18_Clean2 (fun i0 => a0_X i0) a0_PC a0_Level a0_V (fun i0 => a0_C i0) a0_Done)
                              (sallyportref18_Clean3 (fun i0 => a0_X i0) a0_PC a0_Level a0_V (fun i0 => a0_C i0) a0_Done)
                              (fun i0 => sallyportref18_Clean4 (fun i0 => a0_X i0) a0_PC a0_Level a0_V (fun i0 => a0_C i0) a0_Done i0) a0_Done a1_Cause a1_Value a1_Place a1_GVA a2 true i)
                            (sallyportref18_Clean4 (fun i0 => a0_X i0) a0_PC a0_Level a0_V (fun i0 => a0_C i0) a0_Done i)) &&
                        (iEq a0_Done a0_Done && true)))))) then
          true
        else
          !(((List.range 32).all fun i =>
                iEq (sallyportref18_Clean0 (fun i0 => a0_X i0) a0_PC a0_Level a0_V (fun i0 => a0_C i0) a0_Done i)
                  (sallyportref18_Clean0 (fun i0 => a0_X i0) a0_PC a0_Level a0_V (fun i0 => a0_C i0) a0_Done i)) &&
              (iEq (sallyportlaw16_TrapNone_c0 a0_X a0_PC a0_Level a0_V a0_C a0_Done a1_Cause a1_Value a1_Place a1_GVA a2 false)
                  (sallyportref18_Clean1 (fun i0 => a0_X i0) a0_PC a0_Level a0_V (fun i0 => a0_C i0) a0_Done) &&
                (iEq (sallyportlaw16_TrapNone_c1 a0_X a0_PC a0_Level a0_V a0_C a0_Done a1_Cause a1_Value a1_Place a1_GVA a2 false)
                    (sallyportref18_Clean2 (fun i0 => a0_X i0) a0_PC a0_Level a0_V (fun i0 => a0_C i0) a0_Done) &&
                  (sallyportlaw16_TrapNone_c2 a0_X a0_PC a0_Level a0_V a0_C a0_Done a1_Cause a1_Value a1_Place a1_GVA a2 false ==
                      sallyportref18_Clean3 (fun i0 => a0_X i0) a0_PC a0_Level a0_V (fun i0 => a0_C i0) a0_Done &&
                    (((List.range 29).all fun i =>
                        iEq
                          (trap_Enter4 (fun i0 => sallyportref18_Clean0 (fun i0 => a0_X i0) a0_PC a0_Level a0_V (fun i0 => a0_C i0) a0_Done i0)
                            (sallyportref18_Clean1 (fun i0 => a0_X i0) a0_PC a0_Level a0_V (fun i0 => a0_C i0) a0_Done)
                            (sallyportref18_Clean2 (fun i0 => a0_X i0) a0_PC a0_Level a0_V (fun i0 => a0_C i0) a0_Done)
                            (sallyportref18_Clean3 (fun i0 => a0_X i0) a0_PC a0_Level a0_V (fun i0 => a0_C i0) a0_Done)
                            (fun i0 => sallyportref18_Clean4 (fun i0 => a0_X i0) a0_PC a0_Level a0_V (fun i0 => a0_C i0) a0_Done i0) a0_Done a1_Cause a1_Value a1_Place a1_GVA a2 false i)
                          (sallyportref18_Clean4 (fun i0 => a0_X i0) a0_PC a0_Level a0_V (fun i0 => a0_C i0) a0_Done i)) &&
                      (iEq a0_Done a0_Done && true))))))
      else false then
    true
  else true
theorem sallyportlaw16_TrapNone0_eq (a0_X : Nat → Int) (a0_PC : Int) (a0_Level : Int) (a0_V : Bool) (a0_C : Nat → Int) (a0_Done : Int) (a1_Cause : Int) (a1_Value : Int) (a1_Place : Int) (a1_GVA : Bool) (a2 : Int)  : sallyportlaw16_TrapNone0r a0_X a0_PC a0_Level a0_V a0_C a0_Done a1_Cause a1_Value a1_Place a1_GVA a2  = sallyportlaw16_TrapNone0 a0_X a0_PC a0_Level a0_V a0_C a0_Done a1_Cause a1_Value a1_Place a1_GVA a2  := by
  unfold sallyportlaw16_TrapNone0r
  first | (simp only [sallyportlaw16_TrapNone_c0, sallyportlaw16_TrapNone_c1, sallyportlaw16_TrapNone_c2, sallyportlaw16_TrapNone_c3, sallyportlaw16_TrapNone_c4, sallyportlaw16_TrapNone_c5, Go.Ev.cS1, Go.Ev.cS2, Go.Ev.cS3, Go.Ev.cS4, Go.Ev.cS6, Go.Ev.cS7]; done) | (simp only [sallyportlaw16_TrapNone_c0, sallyportlaw16_TrapNone_c1, sallyportlaw16_TrapNone_c2, sallyportlaw16_TrapNone_c3, sallyportlaw16_TrapNone_c4, sallyportlaw16_TrapNone_c5, Go.Ev.cS1, Go.Ev.cS2, Go.Ev.cS3, Go.Ev.cS4, Go.Ev.cS6, Go.Ev.cS7]; kernel_rfl)
def sallyportlaw16_TrapNoneV (a0_X : Nat → Int) (a0_PC : Int) (a0_Level : Int) (a0_V : Bool) (a0_C : Nat → Int) (a0_Done : Int) (a1_Cause : Int) (a1_Value : Int) (a1_Place : Int) (a1_GVA : Bool) (a2 : Int) : AV := .bl (sallyportlaw16_TrapNone0 a0_X a0_PC a0_Level a0_V a0_C a0_Done a1_Cause a1_Value a1_Place a1_GVA a2)
def sallyportlaw16_TrapNoneVr (a0_X : Nat → Int) (a0_PC : Int) (a0_Level : Int) (a0_V : Bool) (a0_C : Nat → Int) (a0_Done : Int) (a1_Cause : Int) (a1_Value : Int) (a1_Place : Int) (a1_GVA : Bool) (a2 : Int) : AV := .bl (sallyportlaw16_TrapNone0r a0_X a0_PC a0_Level a0_V a0_C a0_Done a1_Cause a1_Value a1_Place a1_GVA a2)
theorem sallyportlaw16_TrapNoneV_eq (a0_X : Nat → Int) (a0_PC : Int) (a0_Level : Int) (a0_V : Bool) (a0_C : Nat → Int) (a0_Done : Int) (a1_Cause : Int) (a1_Value : Int) (a1_Place : Int) (a1_GVA : Bool) (a2 : Int) : sallyportlaw16_TrapNoneVr a0_X a0_PC a0_Level a0_V a0_C a0_Done a1_Cause a1_Value a1_Place a1_GVA a2 = sallyportlaw16_TrapNoneV a0_X a0_PC a0_Level a0_V a0_C a0_Done a1_Cause a1_Value a1_Place a1_GVA a2 := by
  unfold sallyportlaw16_TrapNoneVr sallyportlaw16_TrapNoneV
  simp only [sallyportlaw16_TrapNone0_eq]
theorem sallyportlaw16_TrapNoneE (g : Nat → AV) : pcOf Try.prog okT (lookR T7) (inl Try.prog okT (lookR T7) RO FS 100 ST 2) RO NOV 100 false Try.f8 (norms [(.agg [(.arr 32 (.int .u64)), (.int .u64), (.int .i64), .bool, (.arr 29 (.int .u64)), (.int .u64)]), (.agg [(.int .u64), (.int .u64), (.int .u64), .bool]), (.int .i64)] 0 g) = some (sallyportlaw16_TrapNoneG (fun i0 => (((g 0).fld 0).ix i0).num) (((g 0).fld 1).num) (((g 0).fld 2).num) (((g 0).fld 3).bool) (fun i0 => (((g 0).fld 4).ix i0).num) (((g 0).fld 5).num) (((g 1).fld 0).num) (((g 1).fld 1).num) (((g 1).fld 2).num) (((g 1).fld 3).bool) ((g 2).num), sallyportlaw16_TrapNoneV (fun i0 => (((g 0).fld 0).ix i0).num) (((g 0).fld 1).num) (((g 0).fld 2).num) (((g 0).fld 3).bool) (fun i0 => (((g 0).fld 4).ix i0).num) (((g 0).fld 5).num) (((g 1).fld 0).num) (((g 1).fld 1).num) (((g 1).fld 2).num) (((g 1).fld 3).bool) ((g 2).num)) :=
  (by kernel_rfl : pcOf Try.prog okT (lookR T7) (inl Try.prog okT (lookR T7) RO FS 100 ST 2) RO NOV 100 false Try.f8 (norms [(.agg [(.arr 32 (.int .u64)), (.int .u64), (.int .i64), .bool, (.arr 29 (.int .u64)), (.int .u64)]), (.agg [(.int .u64), (.int .u64), (.int .u64), .bool]), (.int .i64)] 0 g) = some (sallyportlaw16_TrapNoneG (fun i0 => (((g 0).fld 0).ix i0).num) (((g 0).fld 1).num) (((g 0).fld 2).num) (((g 0).fld 3).bool) (fun i0 => (((g 0).fld 4).ix i0).num) (((g 0).fld 5).num) (((g 1).fld 0).num) (((g 1).fld 1).num) (((g 1).fld 2).num) (((g 1).fld 3).bool) ((g 2).num), sallyportlaw16_TrapNoneVr (fun i0 => (((g 0).fld 0).ix i0).num) (((g 0).fld 1).num) (((g 0).fld 2).num) (((g 0).fld 3).bool) (fun i0 => (((g 0).fld 4).ix i0).num) (((g 0).fld 5).num) (((g 1).fld 0).num) (((g 1).fld 1).num) (((g 1).fld 2).num) (((g 1).fld 3).bool) ((g 2).num))).trans (by rw [sallyportlaw16_TrapNoneV_eq])
theorem sallyportlaw16_TrapNoneP : Plain Try.prog 8 Try.f8 := ⟨Try.func8, of_decide_eq_true (by kernel_rfl)⟩
theorem sallyportlaw16_TrapNoneT (a0_X : Nat → Int) (a0_PC : Int) (a0_Level : Int) (a0_V : Bool) (a0_C : Nat → Int) (a0_Done : Int) (a1_Cause : Int) (a1_Value : Int) (a1_Place : Int) (a1_GVA : Bool) (a2 : Int) : sallyportlaw16_TrapNoneG a0_X a0_PC a0_Level a0_V a0_C a0_Done a1_Cause a1_Value a1_Place a1_GVA a2 = true := by
  unfold sallyportlaw16_TrapNoneG
  simp only [sallyportlaw16_TrapNone_c0, sallyportlaw16_TrapNone_c1, sallyportlaw16_TrapNone_c2, sallyportlaw16_TrapNone_c3, sallyportlaw16_TrapNone_c4, sallyportlaw16_TrapNone_c5, Go.Ev.cS1, Go.Ev.cS2, Go.Ev.cS3, Go.Ev.cS4, Go.Ev.cS6, Go.Ev.cS7]
theorem sallyportlaw16_TrapNoneO : RowOk Try.prog 8 (rowF [(.agg [(.arr 32 (.int .u64)), (.int .u64), (.int .i64), .bool, (.arr 29 (.int .u64)), (.int .u64)]), (.agg [(.int .u64), (.int .u64), (.int .u64), .bool]), (.int .i64)] none fun g => sallyportlaw16_TrapNoneV (fun i0 => (((g 0).fld 0).ix i0).num) (((g 0).fld 1).num) (((g 0).fld 2).num) (((g 0).fld 3).bool) (fun i0 => (((g 0).fld 4).ix i0).num) (((g 0).fld 5).num) (((g 1).fld 0).num) (((g 1).fld 1).num) (((g 1).fld 2).num) (((g 1).fld 3).bool) ((g 2).num)) := rowT_ok fun g => pcOf_ok mix fair T7_ok (inl_ok mix fair T7_ok FS_ok 2) sallyportlaw16_TrapNoneP (fun c _ => OvOk_none c) (sallyportlaw16_TrapNoneE g) (sallyportlaw16_TrapNoneT (fun i0 => (((g 0).fld 0).ix i0).num) (((g 0).fld 1).num) (((g 0).fld 2).num) (((g 0).fld 3).bool) (fun i0 => (((g 0).fld 4).ix i0).num) (((g 0).fld 5).num) (((g 1).fld 0).num) (((g 1).fld 1).num) (((g 1).fld 2).num) (((g 1).fld 3).bool) ((g 2).num))
def T8 : List Row := (8, (rowF [(.agg [(.arr 32 (.int .u64)), (.int .u64), (.int .i64), .bool, (.arr 29 (.int .u64)), (.int .u64)]), (.agg [(.int .u64), (.int .u64), (.int .u64), .bool]), (.int .i64)] none fun g => sallyportlaw16_TrapNoneV (fun i0 => (((g 0).fld 0).ix i0).num) (((g 0).fld 1).num) (((g 0).fld 2).num) (((g 0).fld 3).bool) (fun i0 => (((g 0).fld 4).ix i0).num) (((g 0).fld 5).num) (((g 1).fld 0).num) (((g 1).fld 1).num) (((g 1).fld 2).num) (((g 1).fld 3).bool) ((g 2).num))) :: T7
theorem T8_ok : PSound Try.prog (lookR T8) := lookR_cons sallyportlaw16_TrapNoneO T7_ok

end
end Go.Proofs.Ytjnpaegoobclfaa.PV
