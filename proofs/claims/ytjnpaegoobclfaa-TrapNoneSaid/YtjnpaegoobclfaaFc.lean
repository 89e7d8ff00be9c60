/-
  What functions of the program and of the document yield, evaluated (sallyportlaw16.TrapTells .. sallyportlaw16.TrapBack). Printed by a program of the prover's own (wip/prt).
-/
import Derived.Test.YtjnpaegoobclfaaRows
import Derived.Test.YtjnpaegoobclfaaEvW
import Derived.Test.YtjnpaegoobclfaaFa
import Derived.Test.YtjnpaegoobclfaaFb
set_option linter.unusedVariables false
set_option linter.unusedSimpArgs false
namespace Go.Proofs.Ytjnpaegoobclfaa.PV
noncomputable section
open Go Go.Ev
/- sallyport/sallyportlaw16.TrapTells -/
def sallyportlaw16_TrapTells_c0 (a0_X : Nat → Int) (a0_PC : Int) (a0_Level : Int) (a0_V : Bool) (a0_C : Nat → Int) (a0_Done : Int) (a1_Cause : Int) (a1_Value : Int) (a1_Place : Int) (a1_GVA : Bool) (a2 : Int) (a3 : Bool) : Bool :=
  iEq
    (trap_Mret6 (fun i0 => sallyportref18_Clean0 (fun i0 => a0_X i0) a0_PC a0_Level a0_V (fun i0 => a0_C i0) a0_Done i0)
      (sallyportref18_Clean1 (fun i0 => a0_X i0) a0_PC a0_Level a0_V (fun i0 => a0_C i0) a0_Done) (sallyportref18_Clean2 (fun i0 => a0_X i0) a0_PC a0_Level a0_V (fun i0 => a0_C i0) a0_Done)
      (sallyportref18_Clean3 (fun i0 => a0_X i0) a0_PC a0_Level a0_V (fun i0 => a0_C i0) a0_Done) (fun i0 => sallyportref18_Clean4 (fun i0 => a0_X i0) a0_PC a0_Level a0_V (fun i0 => a0_C i0) a0_Done i0)
      a0_Done)
    (sallyportref16_Mret6 (fun i0 => sallyportref18_Clean0 (fun i0 => a0_X i0) a0_PC a0_Level a0_V (fun i0 => a0_C i0) a0_Done i0)
      (sallyportref18_Clean1 (fun i0 => a0_X i0) a0_PC a0_Level a0_V (fun i0 => a0_C i0) a0_Done) (sallyportref18_Clean2 (fun i0 => a0_X i0) a0_PC a0_Level a0_V (fun i0 => a0_C i0) a0_Done)
      (sallyportref18_Clean3 (fun i0 => a0_X i0) a0_PC a0_Level a0_V (fun i0 => a0_C i0) a0_Done) (fun i0 => sallyportref18_Clean4 (fun i0 => a0_X i0) a0_PC a0_Level a0_V (fun i0 => a0_C i0) a0_Done i0)
      a0_Done)
def sallyportlaw16_TrapTells_c1 (a0_X : Nat → Int) (a0_PC : Int) (a0_Level : Int) (a0_V : Bool) (a0_C : Nat → Int) (a0_Done : Int) (a1_Cause : Int) (a1_Value : Int) (a1_Place : Int) (a1_GVA : Bool) (a2 : Int) (a3 : Bool) : Bool :=
  trap_Mret7 (fun i0 => sallyportref18_Clean0 (fun i0 => a0_X i0) a0_PC a0_Level a0_V (fun i0 => a0_C i0) a0_Done i0)
      (sallyportref18_Clean1 (fun i0 => a0_X i0) a0_PC a0_Level a0_V (fun i0 => a0_C i0) a0_Done) (sallyportref18_Clean2 (fun i0 => a0_X i0) a0_PC a0_Level a0_V (fun i0 => a0_C i0) a0_Done)
      (sallyportref18_Clean3 (fun i0 => a0_X i0) a0_PC a0_Level a0_V (fun i0 => a0_C i0) a0_Done) (fun i0 => sallyportref18_Clean4 (fun i0 => a0_X i0) a0_PC a0_Level a0_V (fun i0 => a0_C i0) a0_Done i0)
      a0_Done ==
    sallyportref16_Mret7 (fun i0 => sallyportref18_Clean0 (fun i0 => a0_X i0) a0_PC a0_Level a0_V (fun i0 => a0_C i0) a0_Done i0)
      (sallyportref18_Clean1 (fun i0 => a0_X i0) a0_PC a0_Level a0_V (fun i0 => a0_C i0) a0_Done) (sallyportref18_Clean2 (fun i0 => a0_X i0) a0_PC a0_Level a0_V (fun i0 => a0_C i0) a0_Done)
      (sallyportref18_Clean3 (fun i0 => a0_X i0) a0_PC a0_Level a0_V (fun i0 => a0_C i0) a0_Done) (fun i0 => sallyportref18_Clean4 (fun i0 => a0_X i0) a0_PC a0_Level a0_V (fun i0 => a0_C i0) a0_Done i0)
      a0_Done
def sallyportlaw16_TrapTells_c2 (a0_X : Nat → Int) (a0_PC : Int) (a0_Level : Int) (a0_V : Bool) (a0_C : Nat → Int) (a0_Done : Int) (a1_Cause : Int) (a1_Value : Int) (a1_Place : Int) (a1_GVA : Bool) (a2 : Int) (a3 : Bool) : Bool :=
  iEq
    (trap_Sret6 (fun i0 => sallyportref18_Clean0 (fun i0 => a0_X i0) a0_PC a0_Level a0_V (fun i0 => a0_C i0) a0_Done i0)
      (sallyportref18_Clean1 (fun i0 => a0_X i0) a0_PC a0_Level a0_V (fun i0 => a0_C i0) a0_Done) (sallyportref18_Clean2 (fun i0 => a0_X i0) a0_PC a0_Level a0_V (fun i0 => a0_C i0) a0_Done)
      (sallyportref18_Clean3 (fun i0 => a0_X i0) a0_PC a0_Level a0_V (fun i0 => a0_C i0) a0_Done) (fun i0 => sallyportref18_Clean4 (fun i0 => a0_X i0) a0_PC a0_Level a0_V (fun i0 => a0_C i0) a0_Done i0)
      a0_Done)
    (sallyportref16_Sret6 (fun i0 => sallyportref18_Clean0 (fun i0 => a0_X i0) a0_PC a0_Level a0_V (fun i0 => a0_C i0) a0_Done i0)
      (sallyportref18_Clean1 (fun i0 => a0_X i0) a0_PC a0_Level a0_V (fun i0 => a0_C i0) a0_Done) (sallyportref18_Clean2 (fun i0 => a0_X i0) a0_PC a0_Level a0_V (fun i0 => a0_C i0) a0_Done)
      (sallyportref18_Clean3 (fun i0 => a0_X i0) a0_PC a0_Level a0_V (fun i0 => a0_C i0) a0_Done) (fun i0 => sallyportref18_Clean4 (fun i0 => a0_X i0) a0_PC a0_Level a0_V (fun i0 => a0_C i0) a0_Done i0)
      a0_Done)
def sallyportlaw16_TrapTells_c3 (a0_X : Nat → Int) (a0_PC : Int) (a0_Level : Int) (a0_V : Bool) (a0_C : Nat → Int) (a0_Done : Int) (a1_Cause : Int) (a1_Value : Int) (a1_Place : Int) (a1_GVA : Bool) (a2 : Int) (a3 : Bool) : Bool :=
  trap_Sret7 (fun i0 => sallyportref18_Clean0 (fun i0 => a0_X i0) a0_PC a0_Level a0_V (fun i0 => a0_C i0) a0_Done i0)
      (sallyportref18_Clean1 (fun i0 => a0_X i0) a0_PC a0_Level a0_V (fun i0 => a0_C i0) a0_Done) (sallyportref18_Clean2 (fun i0 => a0_X i0) a0_PC a0_Level a0_V (fun i0 => a0_C i0) a0_Done)
      (sallyportref18_Clean3 (fun i0 => a0_X i0) a0_PC a0_Level a0_V (fun i0 => a0_C i0) a0_Done) (fun i0 => sallyportref18_Clean4 (fun i0 => a0_X i0) a0_PC a0_Level a0_V (fun i0 => a0_C i0) a0_Done i0)
      a0_Done ==
    sallyportref16_Sret7 (fun i0 => sallyportref18_Clean0 (fun i0 => a0_X i0) a0_PC a0_Level a0_V (fun i0 => a0_C i0) a0_Done i0)
      (sallyportref18_Clean1 (fun i0 => a0_X i0) a0_PC a0_Level a0_V (fun i0 => a0_C i0) a0_Done) (sallyportref18_Clean2 (fun i0 => a0_X i0) a0_PC a0_Level a0_V (fun i0 => a0_C i0) a0_Done)
      (sallyportref18_Clean3 (fun i0 => a0_X i0) a0_PC a0_Level a0_V (fun i0 => a0_C i0) a0_Done) (fun i0 => sallyportref18_Clean4 (fun i0 => a0_X i0) a0_PC a0_Level a0_V (fun i0 => a0_C i0) a0_Done i0)
      a0_Done
def sallyportlaw16_TrapTells0 (a0_X : Nat → Int) (a0_PC : Int) (a0_Level : Int) (a0_V : Bool) (a0_C : Nat → Int) (a0_Done : Int) (a1_Cause : Int) (a1_Value : Int) (a1_Place : Int) (a1_GVA : Bool) (a2 : Int) (a3 : Bool) : Bool :=
  bif
      bif
          bif
              bif
                  bif
                      bif
                          ((List.range 32).all fun i =>
                              iEq (sallyportref18_Clean0 (fun i0 => a0_X i0) a0_PC a0_Level a0_V (fun i0 => a0_C i0) a0_Done i)
                                (sallyportref18_Clean0 (fun i0 => a0_X i0) a0_PC a0_Level a0_V (fun i0 => a0_C i0) a0_Done i)) &&
                            (iEq
                                (trap_Enter1 (fun i0 => sallyportref18_Clean0 (fun i0 => a0_X i0) a0_PC a0_Level a0_V (fun i0 => a0_C i0) a0_Done i0)
                                  (sallyportref18_Clean1 (fun i0 => a0_X i0) a0_PC a0_Level a0_V (fun i0 => a0_C i0) a0_Done)
                                  (sallyportref18_Clean2 (fun i0 => a0_X i0) a0_PC a0_Level a0_V (fun i0 => a0_C i0) a0_Done)
                                  (sallyportref18_Clean3 (fun i0 => a0_X i0) a0_PC a0_Level a0_V (fun i0 => a0_C i0) a0_Done)
                                  (fun i0 => sallyportref18_Clean4 (fun i0 => a0_X i0) a0_PC a0_Level a0_V (fun i0 => a0_C i0) a0_Done i0) a0_Done a1_Cause a1_Value a1_Place a1_GVA a2 a3)
                                (sallyportref16_Enter1 (fun i0 => sallyportref18_Clean0 (fun i0 => a0_X i0) a0_PC a0_Level a0_V (fun i0 => a0_C i0) a0_Done i0)
                                  (sallyportref18_Clean1 (fun i0 => a0_X i0) a0_PC a0_Level a0_V (fun i0 => a0_C i0) a0_Done)
                                  (sallyportref18_Clean2 (fun i0 => a0_X i0) a0_PC a0_Level a0_V (fun i0 => a0_C i0) a0_Done)
                                  (sallyportref18_Clean3 (fun i0 => a0_X i0) a0_PC a0_Level a0_V (fun i0 => a0_C i0) a0_Done)
                                  (fun i0 => sallyportref18_Clean4 (fun i0 => a0_X i0) a0_PC a0_Level a0_V (fun i0 => a0_C i0) a0_Done i0) a0_Done a1_Cause a1_Value a1_Place a1_GVA a2 a3) &&
                              (iEq
                                  (trap_Enter2 (fun i0 => sallyportref18_Clean0 (fun i0 => a0_X i0) a0_PC a0_Level a0_V (fun i0 => a0_C i0) a0_Done i0)
                                    (sallyportref18_Clean1 (fun i0 => a0_X i0) a0_PC a0_Level a0_V (fun i0 => a0_C i0) a0_Done)
                                    (sallyportref18_Clean2 (fun i0 => a0_X i0) a0_PC a0_Level a0_V (fun i0 => a0_C i0) a0_Done)
                                    (sallyportref18_Clean3 (fun i0 => a0_X i0) a0_PC a0_Level a0_V (fun i0 => a0_C i0) a0_Done)
                                    (fun i0 => sallyportref18_Clean4 (fun i0 => a0_X i0) a0_PC a0_Level a0_V (fun i0 => a0_C i0) a0_Done i0) a0_Done a1_Cause a1_Value a1_Place a1_GVA a2 a3)
                                  (sallyportref16_Enter2 (fun i0 => sallyportref18_Clean0 (fun i0 => a0_X i0) a0_PC a0_Level a0_V (fun i0 => a0_C i0) a0_Done i0)
                                    (sallyportref18_Clean1 (fun i0 => a0_X i0) a0_PC a0_Level a0_V (fun i0 => a0_C i0) a0_Done)
                                    (sallyportref18_Clean2 (fun i0 => a0_X i0) a0_PC a0_Level a0_V (fun i0 => a0_C i0) a0_Done)
                                    (sallyportref18_Clean3 (fun i0 => a0_X i0) a0_PC a0_Level a0_V (fun i0 => a0_C i0) a0_Done)
                                    (fun i0 => sallyportref18_Clean4 (fun i0 => a0_X i0) a0_PC a0_Level a0_V (fun i0 => a0_C i0) a0_Done i0) a0_Done a1_Cause a1_Value a1_Place a1_GVA a2 a3) &&
                                (trap_Enter3 (fun i0 => sallyportref18_Clean0 (fun i0 => a0_X i0) a0_PC a0_Level a0_V (fun i0 => a0_C i0) a0_Done i0)
                                      (sallyportref18_Clean1 (fun i0 => a0_X i0) a0_PC a0_Level a0_V (fun i0 => a0_C i0) a0_Done)
                                      (sallyportref18_Clean2 (fun i0 => a0_X i0) a0_PC a0_Level a0_V (fun i0 => a0_C i0) a0_Done)
                                      (sallyportref18_Clean3 (fun i0 => a0_X i0) a0_PC a0_Level a0_V (fun i0 => a0_C i0) a0_Done)
                                      (fun i0 => sallyportref18_Clean4 (fun i0 => a0_X i0) a0_PC a0_Level a0_V (fun i0 => a0_C i0) a0_Done i0) a0_Done a1_Cause a1_Value a1_Place a1_GVA a2 a3 ==
                                    sallyportref16_Enter3 (fun i0 => sallyportref18_Clean0 (fun i0 => a0_X i0) a0_PC a0_Level a0_V (fun i0 => a0_C i0) a0_Done i0)
                                      (sallyportref18_Clean1 (fun i0 => a0_X i0) a0_PC a0_Level a0_V (fun i0 => a0_C i0) a0_Done)
                                      (sallyportref18_Clean2 (fun i0 => a0_X i0) a0_PC a0_Level a0_V (fun i0 => a0_C i0) a0_Done)
                                      (sallyportref18_Clean3 (fun i0 => a0_X i0) a0_PC a0_Level a0_V (fun i0 => a0_C i0) a0_Done)
                                      (fun i0 => sallyportref18_Clean4 (fun i0 => a0_X i0) a0_PC a0_Level a0_V (fun i0 => a0_C i0) a0_Done i0) a0_Done a1_Cause a1_Value a1_Place a1_GVA a2 a3 &&
                                  (((List.range 29).all fun i =>
                                      iEq
                                        (trap_Enter4 (fun i0 => sallyportref18_Clean0 (fun i0 => a0_X i0) a0_PC a0_Level a0_V (fun i0 => a0_C i0) a0_Done i0)
                                          (sallyportref18_Clean1 (fun i0 => a0_X i0) a0_PC a0_Level a0_V (fun i0 => a0_C i0) a0_Done)
                                          (sallyportref18_Clean2 (fun i0 => a0_X i0) a0_PC a0_Level a0_V (fun i0 => a0_C i0) a0_Done)
                                          (sallyportref18_Clean3 (fun i0 => a0_X i0) a0_PC a0_Level a0_V (fun i0 => a0_C i0) a0_Done)
                                          (fun i0 => sallyportref18_Clean4 (fun i0 => a0_X i0) a0_PC a0_Level a0_V (fun i0 => a0_C i0) a0_Done i0) a0_Done a1_Cause a1_Value a1_Place a1_GVA a2 a3 i)
                                        (sallyportref16_Enter4 (fun i0 => sallyportref18_Clean0 (fun i0 => a0_X i0) a0_PC a0_Level a0_V (fun i0 => a0_C i0) a0_Done i0)
                                          (sallyportref18_Clean1 (fun i0 => a0_X i0) a0_PC a0_Level a0_V (fun i0 => a0_C i0) a0_Done)
                                          (sallyportref18_Clean2 (fun i0 => a0_X i0) a0_PC a0_Level a0_V (fun i0 => a0_C i0) a0_Done)
                                          (sallyportref18_Clean3 (fun i0 => a0_X i0) a0_PC a0_Level a0_V (fun i0 => a0_C i0) a0_Done)
                                          (fun i0 => sallyportref18_Clean4 (fun i0 => a0_X i0) a0_PC a0_Level a0_V (fun i0 => a0_C i0) a0_Done i0) a0_Done a1_Cause a1_Value a1_Place a1_GVA a2 a3 i)) &&
                                    iEq a0_Done a0_Done)))) then
                        ((List.range 32).all fun i =>
                            iEq (sallyportref18_Clean0 (fun i0 => a0_X i0) a0_PC a0_Level a0_V (fun i0 => a0_C i0) a0_Done i)
                              (sallyportref18_Clean0 (fun i0 => a0_X i0) a0_PC a0_Level a0_V (fun i0 => a0_C i0) a0_Done i)) &&
                          (iEq
                              (trap_Mret1 (fun i0 => sallyportref18_Clean0 (fun i0 => a0_X i0) a0_PC a0_Level a0_V (fun i0 => a0_C i0) a0_Done i0)
                                (sallyportref18_Clean1 (fun i0 => a0_X i0) a0_PC a0_Level a0_V (fun i0 => a0_C i0) a0_Done)
                                (sallyportref18_Clean2 (fun i0 => a0_X i0) a0_PC a0_Level a0_V (fun i0 => a0_C i0) a0_Done)
                                (sallyportref18_Clean3 (fun i0 => a0_X i0) a0_PC a0_Level a0_V (fun i0 => a0_C i0) a0_Done)
                                (fun i0 => sallyportref18_Clean4 (fun i0 => a0_X i0) a0_PC a0_Level a0_V (fun i0 => a0_C i0) a0_Done i0) a0_Done)
                              (sallyportref16_Mret1 (fun i0 => sallyportref18_Clean0 (fun i0 => a0_X i0) a0_PC a0_Level a0_V (fun i0 => a0_C i0) a0_Done i0)
                                (sallyportref18_Clean1 (fun i0 => a0_X i0) a0_PC a0_Level a0_V (fun i0 => a0_C i0) a0_Done)
                                (sallyportref18_Clean2 (fun i0 => a0_X i0) a0_PC a0_Level a0_V (fun i0 => a0_C i0) a0_Done)
                                (sallyportref18_Clean3 (fun i0 => a0_X i0) a0_PC a0_Level a0_V (fun i0 => a0_C i0) a0_Done)
                                (fun i0 => sallyportref18_Clean4 (fun i0 => a0_X i0) a0_PC a0_Level a0_V (fun i0 => a0_C i0) a0_Done i0) a0_Done) &&
                            (iEq
                                (trap_Mret2 (fun i0 => sallyportref18_Clean0 (fun i0 => a0_X i0) a0_PC a0_Level a0_V (fun i0 => a0_C i0) a0_Done i0)
                                  (sallyportref18_Clean1 (fun i0 => a0_X i0) a0_PC a0_Level a0_V (fun i0 => a0_C i0) a0_Done)
                                  (sallyportref18_Clean2 (fun i0 => a0_X i0) a0_PC a0_Level a0_V (fun i0 => a0_C i0) a0_Done)
                                  (sallyportref18_Clean3 (fun i0 => a0_X i0) a0_PC a0_Level a0_V (fun i0 => a0_C i0) a0_Done)
                                  (fun i0 => sallyportref18_Clean4 (fun i0 => a0_X i0) a0_PC a0_Level a0_V (fun i0 => a0_C i0) a0_Done i0) a0_Done)
                                (sallyportref16_Mret2 (fun i0 => sallyportref18_Clean0 (fun i0 => a0_X i0) a0_PC a0_Level a0_V (fun i0 => a0_C i0) a0_Done i0)
                                  (sallyportref18_Clean1 (fun i0 => a0_X i0) a0_PC a0_Level a0_V (fun i0 => a0_C i0) a0_Done)
                                  (sallyportref18_Clean2 (fun i0 => a0_X i0) a0_PC a0_Level a0_V (fun i0 => a0_C i0) a0_Done)
                                  (sallyportref18_Clean3 (fun i0 => a0_X i0) a0_PC a0_Level a0_V (fun i0 => a0_C i0) a0_Done)
                                  (fun i0 => sallyportref18_Clean4 (fun i0 => a0_X i0) a0_PC a0_Level a0_V (fun i0 => a0_C i0) a0_Done i0) a0_Done) &&
                              (trap_Mret3 (fun i0 => sallyportref18_Clean0 (fun i0 => a0_X i0) a0_PC a0_Level a0_V (fun i0 => a0_C i0) a0_Done i0)
                                    (sallyportref18_Clean1 (fun i0 => a0_X i0) a0_PC a0_Level a0_V (fun i0 => a0_C i0) a0_Done)
                                    (sallyportref18_Clean2 (fun i0 => a0_X i0) a0_PC a0_Level a0_V (fun i0 => a0_C i0) a0_Done)
                                    (sallyportref18_Clean3 (fun i0 => a0_X i0) a0_PC a0_Level a0_V (fun i0 => a0_C i0) a0_Done)
                                    (fun i0 => sallyportref18_Clean4 (fun i0 => a0_X i0) a0_PC a0_Level a0_V (fun i0 => a0_C i0) a0_Done i0) a0_Done ==
                                  sallyportref16_Mret3 (fun i0 => sallyportref18_Clean0 (fun i0 => a0_X i0) a0_PC a0_Level a0_V (fun i0 => a0_C i0) a0_Done i0)
                                    (sallyportref18_Clean1 (fun i0 => a0_X i0) a0_PC a0_Level a0_V (fun i0 => a0_C i0) a0_Done)
                                    (sallyportref18_Clean2 (fun i0 => a0_X i0) a0_PC a0_Level a0_V (fun i0 => a0_C i0) a0_Done)
                                    (sallyportref18_Clean3 (fun i0 => a0_X i0) a0_PC a0_Level a0_V (fun i0 => a0_C i0) a0_Done)
                                    (fun i0 => sallyportref18_Clean4 (fun i0 => a0_X i0) a0_PC a0_Level a0_V (fun i0 => a0_C i0) a0_Done i0) a0_Done &&
                                (((List.range 29).all fun i =>
                                    iEq
                                      (trap_Mret4 (fun i0 => sallyportref18_Clean0 (fun i0 => a0_X i0) a0_PC a0_Level a0_V (fun i0 => a0_C i0) a0_Done i0)
                                        (sallyportref18_Clean1 (fun i0 => a0_X i0) a0_PC a0_Level a0_V (fun i0 => a0_C i0) a0_Done)
                                        (sallyportref18_Clean2 (fun i0 => a0_X i0) a0_PC a0_Level a0_V (fun i0 => a0_C i0) a0_Done)
                                        (sallyportref18_Clean3 (fun i0 => a0_X i0) a0_PC a0_Level a0_V (fun i0 => a0_C i0) a0_Done)
                                        (fun i0 => sallyportref18_Clean4 (fun i0 => a0_X i0) a0_PC a0_Level a0_V (fun i0 => a0_C i0) a0_Done i0) a0_Done i)
                                      (sallyportref16_Mret4 (fun i0 => sallyportref18_Clean0 (fun i0 => a0_X i0) a0_PC a0_Level a0_V (fun i0 => a0_C i0) a0_Done i0)
                                        (sallyportref18_Clean1 (fun i0 => a0_X i0) a0_PC a0_Level a0_V (fun i0 => a0_C i0) a0_Done)
                                        (sallyportref18_Clean2 (fun i0 => a0_X i0) a0_PC a0_Level a0_V (fun i0 => a0_C i0) a0_Done)
                                        (sallyportref18_Clean3 (fun i0 => a0_X i0) a0_PC a0_Level a0_V (fun i0 => a0_C i0) a0_Done)
                                        (fun i0 => sallyportref18_Clean4 (fun i0 => a0_X i0) a0_PC a0_Level a0_V (fun i0 => a0_C i0) a0_Done i0) a0_Done i)) &&
                                  iEq a0_Done a0_Done))))
                      else false then
                    sallyportlaw16_TrapTells_c0 a0_X a0_PC a0_Level a0_V a0_C a0_Done a1_Cause a1_Value a1_Place a1_GVA a2 a3
                  else false then
                sallyportlaw16_TrapTells_c1 a0_X a0_PC a0_Level a0_V a0_C a0_Done a1_Cause a1_Value a1_Place a1_GVA a2 a3
              else false then
            ((List.range 32).all fun i =>
                iEq (sallyportref18_Clean0 (fun i0 => a0_X i0) a0_PC a0_Level a0_V (fun i0 => a0_C i0) a0_Done i)
                  (sallyportref18_Clean0 (fun i0 => a0_X i0) a0_PC a0_Level a0_V (fun i0 => a0_C i0) a0_Done i)) &&
              (iEq
                  (trap_Sret1 (fun i0 => sallyportref18_Clean0 (fun i0 => a0_X i0) a0_PC a0_Level a0_V (fun i0 => a0_C i0) a0_Done i0)
                    (sallyportref18_Clean1 (fun i0 => a0_X i0) a0_PC a0_Level a0_V (fun i0 => a0_C i0) a0_Done)
                    (sallyportref18_Clean2 (fun i0 => a0_X i0) a0_PC a0_Level a0_V (fun i0 => a0_C i0) a0_Done)
                    (sallyportref18_Clean3 (fun i0 => a0_X i0) a0_PC a0_Level a0_V (fun i0 => a0_C i0) a0_Done)
                    (fun i0 => sallyportref18_Clean4 (fun i0 => a0_X i0) a0_PC a0_Level a0_V (fun i0 => a0_C i0) a0_Done i0) a0_Done)
                  (sallyportref16_Sret1 (fun i0 => sallyportref18_Clean0 (fun i0 => a0_X i0) a0_PC a0_Level a0_V (fun i0 => a0_C i0) a0_Done i0)
                    (sallyportref18_Clean1 (fun i0 => a0_X i0) a0_PC a0_Level a0_V (fun i0 => a0_C i0) a0_Done)
                    (sallyportref18_Clean2 (fun i0 => a0_X i0) a0_PC a0_Level a0_V (fun i0 => a0_C i0) a0_Done)
                    (sallyportref18_Clean3 (fun i0 => a0_X i0) a0_PC a0_Level a0_V (fun i0 => a0_C i0) a0_Done)
                    (fun i0 => sallyportref18_Clean4 (fun i0 => a0_X i0) a0_PC a0_Level a0_V (fun i0 => a0_C i0) a0_Done i0) a0_Done) &&
                (iEq
                    (trap_Sret2 (fun i0 => sallyportref18_Clean0 (fun i0 => a0_X i0) a0_PC a0_Level a0_V (fun i0 => a0_C i0) a0_Done i0)
                      (sallyportref18_Clean1 (fun i0 => a0_X i0) a0_PC a0_Level a0_V (fun i0 => a0_C i0) a0_Done)
                      (sallyportref18_Clean2 (fun i0 => a0_X i0) a0_PC a0_Level a0_V (fun i0 => a0_C i0) a0_Done)
                      (sallyportref18_Clean3 (fun i0 => a0_X i0) a0_PC a0_Level a0_V (fun i0 => a0_C i0) a0_Done)
                      (fun i0 => sallyportref18_Clean4 (fun i0 => a0_X i0) a0_PC a0_Level a0_V (fun i0 => a0_C i0) a0_Done i0) a0_Done)
                    (sallyportref16_Sret2 (fun i0 => sallyportref18_Clean0 (fun i0 => a0_X i0) a0_PC a0_Level a0_V (fun i0 => a0_C i0) a0_Done i0)
                      (sallyportref18_Clean1 (fun i0 => a0_X i0) a0_PC a0_Level a0_V (fun i0 => a0_C i0) a0_Done)
                      (sallyportref18_Clean2 (fun i0 => a0_X i0) a0_PC a0_Level a0_V (fun i0 => a0_C i0) a0_Done)
                      (sallyportref18_Clean3 (fun i0 => a0_X i0) a0_PC a0_Level a0_V (fun i0 => a0_C i0) a0_Done)
                      (fun i0 => sallyportref18_Clean4 (fun i0 => a0_X i0) a0_PC a0_Level a0_V (fun i0 => a0_C i0) a0_Done i0) a0_Done) &&
                  (trap_Sret3 (fun i0 => sallyportref18_Clean0 (fun i0 => a0_X i0) a0_PC a0_Level a0_V (fun i0 => a0_C i0) a0_Done i0)
                        (sallyportref18_Clean1 (fun i0 => a0_X i0) a0_PC a0_Level a0_V (fun i0 => a0_C i0) a0_Done)
                        (sallyportref18_Clean2 (fun i0 => a0_X i0) a0_PC a0_Level a0_V (fun i0 => a0_C i0) a0_Done)
                        (sallyportref18_Clean3 (fun i0 => a0_X i0) a0_PC a0_Level a0_V (fun i0 => a0_C i0) a0_Done)
                        (fun i0 => sallyportref18_Clean4 (fun i0 => a0_X i0) a0_PC a0_Level a0_V (fun i0 => a0_C i0) a0_Done i0) a0_Done ==
                      sallyportref16_Sret3 (fun i0 => sallyportref18_Clean0 (fun i0 => a0_X i0) a0_PC a0_Level a0_V (fun i0 => a0_C i0) a0_Done i0)
                        (sallyportref18_Clean1 (fun i0 => a0_X i0) a0_PC a0_Level a0_V (fun i0 => a0_C i0) a0_Done)
                        (sallyportref18_Clean2 (fun i0 => a0_X i0) a0_PC a0_Level a0_V (fun i0 => a0_C i0) a0_Done)
                        (sallyportref18_Clean3 (fun i0 => a0_X i0) a0_PC a0_Level a0_V (fun i0 => a0_C i0) a0_Done)
                        (fun i0 => sallyportref18_Clean4 (fun i0 => a0_X i0) a0_PC a0_Level a0_V (fun i0 => a0_C i0) a0_Done i0) a0_Done &&
                    (((List.range 29).all fun i =>
                        iEq
                          (trap_Sret4 (fun i0 => sallyportref18_Clean0 (fun i0 => a0_X i0) a0_PC a0_Level a0_V (fun i0 => a0_C i0) a0_Done i0)
                            (sallyportref18_Clean1 (fun i0 => a0_X i0) a0_PC a0_Level a0_V (fun i0 => a0_C i0) a0_Done)
                            (sallyportref18_Clean2 (fun i0 => a0_X i0) a0_PC a0_Level a0_V (fun i0 => a0_C i0) a0_Done)
                            (sallyportref18_Clean3 (fun i0 => a0_X i0) a0_PC a0_Level a0_V (fun i0 => a0_C i0) a0_Done)
                            (fun i0 => sallyportref18_Clean4 (fun i0 => a0_X i0) a0_PC a0_Level a0_V (fun i0 => a0_C i0) a0_Done i0) a0_Done i)
                          (sallyportref16_Sret4 (fun i0 => sallyportref18_Clean0 (fun i0 => a0_X i0) a0_PC a0_Level a0_V (fun i0 => a0_C i0) a0_Done i0)
                            (sallyportref18_Clean1 (fun i0 => a0_X i0) a0_PC a0_Level a0_V (fun i0 => a0_C i0) a0_Done)
                            (sallyportref18_Clean2 (fun i0 => a0_X i0) a0_PC a0_Level a0_V (fun i0 => a0_C i0) a0_Done)
                            (sallyportref18_Clean3 (fun i0 => a0_X i0) a0_PC a0_Level a0_V (fun i0 => a0_C i0) a0_Done)
                            (fun i0 => sallyportref18_Clean4 (fun i0 => a0_X i0) a0_PC a0_Level a0_V (fun i0 => a0_C i0) a0_Done i0) a0_Done i)) &&
                      iEq a0_Done a0_Done))))
          else false then
        sallyportlaw16_TrapTells_c2 a0_X a0_PC a0_Level a0_V a0_C a0_Done a1_Cause a1_Value a1_Place a1_GVA a2 a3
      else false then
    sallyportlaw16_TrapTells_c3 a0_X a0_PC a0_Level a0_V a0_C a0_Done a1_Cause a1_Value a1_Place a1_GVA a2 a3
  else false
def sallyportlaw16_TrapTells0r (a0_X : Nat → Int) (a0_PC : Int) (a0_Level : Int) (a0_V : Bool) (a0_C : Nat → Int) (a0_Done : Int) (a1_Cause : Int) (a1_Value : Int) (a1_Place : Int) (a1_GVA : Bool) (a2 : Int) (a3 : Bool) : Bool :=
  bif
      bif
          bif
              bif
                  bif
                      bif
                          ((List.range 32).all fun i =>
                              iEq (sallyportref18_Clean0 (fun i0 => a0_X i0) a0_PC a0_Level a0_V (fun i0 => a0_C i0) a0_Done i)
                                (sallyportref18_Clean0 (fun i0 => a0_X i0) a0_PC a0_Level a0_V (fun i0 => a0_C i0) a0_Done i)) &&
                            (iEq
                                (trap_Enter1 (fun i0 => sallyportref18_Clean0 (fun i0 => a0_X i0) a0_PC a0_Level a0_V (fun i0 => a0_C i0) a0_Done i0)
                                  (sallyportref18_Clean1 (fun i0 => a0_X i0) a0_PC a0_Level a0_V (fun i0 => a0_C i0) a0_Done)
                                  (sallyportref18_Clean2 (fun i0 => a0_X i0) a0_PC a0_Level a0_V (fun i0 => a0_C i0) a0_Done)
                                  (sallyportref18_Clean3 (fun i0 => a0_X i0) a0_PC a0_Level a0_V (fun i0 => a0_C i0) a0_Done)
                                  (fun i0 => sallyportref18_Clean4 (fun i0 => a0_X i0) a0_PC a0_Level a0_V (fun i0 => a0_C i0) a0_Done i0) a0_Done a1_Cause a1_Value a1_Place a1_GVA a2 a3)
                                (sallyportref16_Enter1 (fun i0 => sallyportref18_Clean0 (fun i0 => a0_X i0) a0_PC a0_Level a0_V (fun i0 => a0_C i0) a0_Done i0)
                                  (sallyportref18_Clean1 (fun i0 => a0_X i0) a0_PC a0_Level a0_V (fun i0 => a0_C i0) a0_Done)
                                  (sallyportref18_Clean2 (fun i0 => a0_X i0) a0_PC a0_Level a0_V (fun i0 => a0_C i0) a0_Done)
                                  (sallyportref18_Clean3 (fun i0 => a0_X i0) a0_PC a0_Level a0_V (fun i0 => a0_C i0) a0_Done)
                                  (fun i0 => sallyportref18_Clean4 (fun i0 => a0_X i0) a0_PC a0_Level a0_V (fun i0 => a0_C i0) a0_Done i0) a0_Done a1_Cause a1_Value a1_Place a1_GVA a2 a3) &&
                              (iEq
                                  (trap_Enter2 (fun i0 => sallyportref18_Clean0 (fun i0 => a0_X i0) a0_PC a0_Level a0_V (fun i0 => a0_C i0) a0_Done i0)
                                    (sallyportref18_Clean1 (fun i0 => a0_X i0) a0_PC a0_Level a0_V (fun i0 => a0_C i0) a0_Done)
                                    (sallyportref18_Clean2 (fun i0 => a0_X i0) a0_PC a0_Level a0_V (fun i0 => a0_C i0) a0_Done)
                                    (sallyportref18_Clean3 (fun i0 => a0_X i0) a0_PC a0_Level a0_V (fun i0 => a0_C i0) a0_Done)
                                    (fun i0 => sallyportref18_Clean4 (fun i0 => a0_X i0) a0_PC a0_Level a0_V (fun i0 => a0_C i0) a0_Done i0) a0_Done a1_Cause a1_Value a1_Place a1_GVA a2 a3)
                                  (sallyportref16_Enter2 (fun i0 => sallyportref18_Clean0 (fun i0 => a0_X i0) a0_PC a0_Level a0_V (fun i0 => a0_C i0) a0_Done i0)
                                    (sallyportref18_Clean1 (fun i0 => a0_X i0) a0_PC a0_Level a0_V (fun i0 => a0_C i0) a0_Done)
                                    (sallyportref18_Clean2 (fun i0 => a0_X i0) a0_PC a0_Level a0_V (fun i0 => a0_C i0) a0_Done)
                                    (sallyportref18_Clean3 (fun i0 => a0_X i0) a0_PC a0_Level a0_V (fun i0 => a0_C i0) a0_Done)
                                    (fun i0 => sallyportref18_Clean4 (fun i0 => a0_X i0) a0_PC a0_Level a0_V (fun i0 => a0_C i0) a0_Done i0) a0_Done a1_Cause a1_Value a1_Place a1_GVA a2 a3) &&
                                (trap_Enter3 (fun i0 => sallyportref18_Clean0 (fun i0 => a0_X i0) a0_PC a0_Level a0_V (fun i0 => a0_C i0) a0_Done i0)
                                      (sallyportref18_Clean1 (fun i0 => a0_X i0) a0_PC a0_Level a0_V (fun i0 => a0_C i0) a0_Done)
                                      (sallyportref18_Clean2 (fun i0 => a0_X i0) a0_PC a0_Level a0_V (fun i0 => a0_C i0) a0_Done)
                                      (sallyportref18_Clean3 (fun i0 => a0_X i0) a0_PC a0_Level a0_V (fun i0 => a0_C i0) a0_Done)
                                      (fun i0 => sallyportref18_Clean4 (fun i0 => a0_X i0) a0_PC a0_Level a0_V (fun i0 => a0_C i0) a0_Done i0) a0_Done a1_Cause a1_Value a1_Place a1_GVA a2 a3 ==
                                    sallyportref16_Enter3 (fun i0 => sallyportref18_Clean0 (fun i0 => a0_X i0) a0_PC a0_Level a0_V (fun i0 => a0_C i0) a0_Done i0)
                                      (sallyportref18_Clean1 (fun i0 => a0_X i0) a0_PC a0_Level a0_V (fun i0 => a0_C i0) a0_Done)
                                      (sallyportref18_Clean2 (fun i0 => a0_X i0) a0_PC a0_Level a0_V (fun i0 => a0_C i0) a0_Done)
                                      (sallyportref18_Clean3 (fun i0 => a0_X i0) a0_PC a0_Level a0_V (fun i0 => a0_C i0) a0_Done)
                                      (fun i0 => sallyportref18_Clean4 (fun i0 => a0_X i0) a0_PC a0_Level a0_V (fun i0 => a0_C i0) a0_Done i0) a0_Done a1_Cause a1_Value a1_Place a1_GVA a2 a3 &&
                                  (((List.range 29).all fun i =>
                                      iEq
                                        (trap_Enter4 (fun i0 => sallyportref18_Clean0 (fun i0 => a0_X i0) a0_PC a0_Level a0_V (fun i0 => a0_C i0) a0_Done i0)
                                          (sallyportref18_Clean1 (fun i0 => a0_X i0) a0_PC a0_Level a0_V (fun i0 => a0_C i0) a0_Done)
                                          (sallyportref18_Clean2 (fun i0 => a0_X i0) a0_PC a0_Level a0_V (fun i0 => a0_C i0) a0_Done)
                                          (sallyportref18_Clean3 (fun i0 => a0_X i0) a0_PC a0_Level a0_V (fun i0 => a0_C i0) a0_Done)
                                          (fun i0 => sallyportref18_Clean4 (fun i0 => a0_X i0) a0_PC a0_Level a0_V (fun i0 => a0_C i0) a0_Done i0) a0_Done a1_Cause a1_Value a1_Place a1_GVA a2 a3 i)
                                        (sallyportref16_Enter4 (fun i0 => sallyportref18_Clean0 (fun i0 => a0_X i0) a0_PC a0_Level a0_V (fun i0 => a0_C i0) a0_Done i0)
                                          (sallyportref18_Clean1 (fun i0 => a0_X i0) a0_PC a0_Level a0_V (fun i0 => a0_C i0) a0_Done)
                                          (sallyportref18_Clean2 (fun i0 => a0_X i0) a0_PC a0_Level a0_V (fun i0 => a0_C i0) a0_Done)
                                          (sallyportref18_Clean3 (fun i0 => a0_X i0) a0_PC a0_Level a0_V (fun i0 => a0_C i0) a0_Done)
                                          (fun i0 => sallyportref18_Clean4 (fun i0 => a0_X i0) a0_PC a0_Level a0_V (fun i0 => a0_C i0) a0_Done i0) a0_Done a1_Cause a1_Value a1_Place a1_GVA a2 a3 i)) &&
                                    (iEq a0_Done a0_Done && true))))) then
                        ((List.range 32).all fun i =>
                            iEq (sallyportref18_Clean0 (fun i0 => a0_X i0) a0_PC a0_Level a0_V (fun i0 => a0_C i0) a0_Done i)
                              (sallyportref18_Clean0 (fun i0 => a0_X i0) a0_PC a0_Level a0_V (fun i0 => a0_C i0) a0_Done i)) &&
                          (iEq
                              (trap_Mret1 (fun i0 => sallyportref18_Clean0 (fun i0 => a0_X i0) a0_PC a0_Level a0_V (fun i0 => a0_C i0) a0_Done i0)
                                (sallyportref18_Clean1 (fun i0 => a0_X i0) a0_PC a0_Level a0_V (fun i0 => a0_C i0) a0_Done)
                                (sallyportref18_Clean2 (fun i0 => a0_X i0) a0_PC a0_Level a0_V (fun i0 => a0_C i0) a0_Done)
                                (sallyportref18_Clean3 (fun i0 => a0_X i0) a0_PC a0_Level a0_V (fun i0 => a0_C i0) a0_Done)
                                (fun i0 => sallyportref18_Clean4 (fun i0 => a0_X i0) a0_PC a0_Level a0_V (fun i0 => a0_C i0) a0_Done i0) a0_Done)
                              (sallyportref16_Mret1 (fun i0 => sallyportref18_Clean0 (fun i0 => a0_X i0) a0_PC a0_Level a0_V (fun i0 => a0_C i0) a0_Done i0)
                                (sallyportref18_Clean1 (fun i0 => a0_X i0) a0_PC a0_Level a0_V (fun i0 => a0_C i0) a0_Done)
                                (sallyportref18_Clean2 (fun i0 => a0_X i0) a0_PC a0_Level a0_V (fun i0 => a0_C i0) a0_Done)
                                (sallyportref18_Clean3 (fun i0 => a0_X i0) a0_PC a0_Level a0_V (fun i0 => a0_C i0) a0_Done)
                                (fun i0 => sallyportref18_Clean4 (fun i0 => a0_X i0) a0_PC a0_Level a0_V (fun i0 => a0_C i0) a0_Done i0) a0_Done) &&
                            (iEq
                                (trap_Mret2 (fun i0 => sallyportref18_Clean0 (fun i0 => a0_X i0) a0_PC a0_Level a0_V (fun i0 => a0_C i0) a0_Done i0)
                                  (sallyportref18_Clean1 (fun i0 => a0_X i0) a0_PC a0_Level a0_V (fun i0 => a0_C i0) a0_Done)
                                  (sallyportref18_Clean2 (fun i0 => a0_X i0) a0_PC a0_Level a0_V (fun i0 => a0_C i0) a0_Done)
                                  (sallyportref18_Clean3 (fun i0 => a0_X i0) a0_PC a0_Level a0_V (fun i0 => a0_C i0) a0_Done)
                                  (fun i0 => sallyportref18_Clean4 (fun i0 => a0_X i0) a0_PC a0_Level a0_V (fun i0 => a0_C i0) a0_Done i0) a0_Done)
                                (sallyportref16_Mret2 (fun i0 => sallyportref18_Clean0 (fun i0 => a0_X i0) a0_PC a0_Level a0_V (fun i0 => a0_C i0) a0_Done i0)
                                  (sallyportref18_Clean1 (fun i0 => a0_X i0) a0_PC a0_Level a0_V (fun i0 => a0_C i0) a0_Done)
                                  (sallyportref18_Clean2 (fun i0 => a0_X i0) a0_PC a0_Level a0_V (fun i0 => a0_C i0) a0_Done)
                                  (sallyportref18_Clean3 (fun i0 => a0_X i0) a0_PC a0_Level a0_V (fun i0 => a0_C i0) a0_Done)
                                  (fun i0 => sallyportref18_Clean4 (fun i0 => a0_X i0) a0_PC a0_Level a0_V (fun i0 => a0_C i0) a0_Done i0) a0_Done) &&
                              (trap_Mret3 (fun i0 => sallyportref18_Clean0 (fun i0 => a0_X i0) a0_PC a0_Level a0_V (fun i0 => a0_C i0) a0_Done i0)
                                    (sallyportref18_Clean1 (fun i0 => a0_X i0) a0_PC a0_Level a0_V (fun i0 => a0_C i0) a0_Done)
                                    (sallyportref18_Clean2 (fun i0 => a0_X i0) a0_PC a0_Level a0_V (fun i0 => a0_C i0) a0_Done)
                                    (sallyportref18_Clean3 (fun i0 => a0_X i0) a0_PC a0_Level a0_V (fun i0 => a0_C i0) a0_Done)
                                    (fun i0 => sallyportref18_Clean4 (fun i0 => a0_X i0) a0_PC a0_Level a0_V (fun i0 => a0_C i0) a0_Done i0) a0_Done ==
                                  sallyportref16_Mret3 (fun i0 => sallyportref18_Clean0 (fun i0 => a0_X i0) a0_PC a0_Level a0_V (fun i0 => a0_C i0) a0_Done i0)
                                    (sallyportref18_Clean1 (fun i0 => a0_X i0) a0_PC a0_Level a0_V (fun i0 => a0_C i0) a0_Done)
                                    (sallyportref18_Clean2 (fun i0 => a0_X i0) a0_PC a0_Level a0_V (fun i0 => a0_C i0) a0_Done)
                                    (sallyportref18_Clean3 (fun i0 => a0_X i0) a0_PC a0_Level a0_V (fun i0 => a0_C i0) a0_Done)
                                    (fun i0 => sallyportref18_Clean4 (fun i0 => a0_X i0) a0_PC a0_Level a0_V (fun i0 => a0_C i0) a0_Done i0) a0_Done &&
                                (((List.range 29).all fun i =>
                                    iEq
                                      (trap_Mret4 (fun i0 => sallyportref18_Clean0 (fun i0 => a0_X i0) a0_PC a0_Level a0_V (fun i0 => a0_C i0) a0_Done i0)
                                        (sallyportref18_Clean1 (fun i0 => a0_X i0) a0_PC a0_Level a0_V (fun i0 => a0_C i0) a0_Done)
                                        (sallyportref18_Clean2 (fun i0 => a0_X i0) a0_PC a0_Level a0_V (fun i0 => a0_C i0) a0_Done)
                                        (sallyportref18_Clean3 (fun i0 => a0_X i0) a0_PC a0_Level a0_V (fun i0 => a0_C i0) a0_Done)
                                        (fun i0 => sallyportref18_Clean4 (fun i0 => a0_X i0) a0_PC a0_Level a0_V (fun i0 => a0_C i0) a0_Done i0) a0_Done i)
                                      (sallyportref16_Mret4 (fun i0 => sallyportref18_Clean0 (fun i0 => a0_X i0) a0_PC a0_Level a0_V (fun i0 => a0_C i0) a0_Done i0)
                                        (sallyportref18_Clean1 (fun i0 => a0_X i0) a0_PC a0_Level a0_V (fun i0 => a0_C i0) a0_Done)
                                        (sallyportref18_Clean2 (fun i0 => a0_X i0) a0_PC a0_Level a0_V (fun i0 => a0_C i0) a0_Done)
                                        (sallyportref18_Clean3 (fun i0 => a0_X i0) a0_PC a0_Level a0_V (fun i0 => a0_C i0) a0_Done)
                                        (fun i0 => sallyportref18_Clean4 (fun i0 => a0_X i0) a0_PC a0_Level a0_V (fun i0 => a0_C i0) a0_Done i0) a0_Done i)) &&
                                  (iEq a0_Done a0_Done && true)))))
                      else false then
                    sallyportlaw16_TrapTells_c0 a0_X a0_PC a0_Level a0_V a0_C a0_Done a1_Cause a1_Value a1_Place a1_GVA a2 a3
                  else false then
                sallyportlaw16_TrapTells_c1 a0_X a0_PC a0_Level a0_V a0_C a0_Done a1_Cause a1_Value a1_Place a1_GVA a2 a3
              else false then
            ((List.range 32).all fun i =>
                iEq (sallyportref18_Clean0 (fun i0 => a0_X i0) a0_PC a0_Level a0_V (fun i0 => a0_C i0) a0_Done i)
                  (sallyportref18_Clean0 (fun i0 => a0_X i0) a0_PC a0_Level a0_V (fun i0 => a0_C i0) a0_Done i)) &&
              (iEq
                  (trap_Sret1 (fun i0 => sallyportref18_Clean0 (fun i0 => a0_X i0) a0_PC a0_Level a0_V (fun i0 => a0_C i0) a0_Done i0)
                    (sallyportref18_Clean1 (fun i0 => a0_X i0) a0_PC a0_Level a0_V (fun i0 => a0_C i0) a0_Done)
                    (sallyportref18_Clean2 (fun i0 => a0_X i0) a0_PC a0_Level a0_V (fun i0 => a0_C i0) a0_Done)
                    (sallyportref18_Clean3 (fun i0 => a0_X i0) a0_PC a0_Level a0_V (fun i0 => a0_C i0) a0_Done)
                    (fun i0 => sallyportref18_Clean4 (fun i0 => a0_X i0) a0_PC a0_Level a0_V (fun i0 => a0_C i0) a0_Done i0) a0_Done)
                  (sallyportref16_Sret1 (fun i0 => sallyportref18_Clean0 (fun i0 => a0_X i0) a0_PC a0_Level a0_V (fun i0 => a0_C i0) a0_Done i0)
                    (sallyportref18_Clean1 (fun i0 => a0_X i0) a0_PC a0_Level a0_V (fun i0 => a0_C i0) a0_Done)
                    (sallyportref18_Clean2 (fun i0 => a0_X i0) a0_PC a0_Level a0_V (fun i0 => a0_C i0) a0_Done)
                    (sallyportref18_Clean3 (fun i0 => a0_X i0) a0_PC a0_Level a0_V (fun i0 => a0_C i0) a0_Done)
                    (fun i0 => sallyportref18_Clean4 (fun i0 => a0_X i0) a0_PC a0_Level a0_V (fun i0 => a0_C i0) a0_Done i0) a0_Done) &&
                (iEq
                    (trap_Sret2 (fun i0 => sallyportref18_Clean0 (fun i0 => a0_X i0) a0_PC a0_Level a0_V (fun i0 => a0_C i0) a0_Done i0)
                      (sallyportref18_Clean1 (fun i0 => a0_X i0) a0_PC a0_Level a0_V (fun i0 => a0_C i0) a0_Done)
                      (sallyportref18_Clean2 (fun i0 => a0_X i0) a0_PC a0_Level a0_V (fun i0 => a0_C i0) a0_Done)
                      (sallyportref18_Clean3 (fun i0 => a0_X i0) a0_PC a0_Level a0_V (fun i0 => a0_C i0) a0_Done)
                      (fun i0 => sallyportref18_Clean4 (fun i0 => a0_X i0) a0_PC a0_Level a0_V (fun i0 => a0_C i0) a0_Done i0) a0_Done)
                    (sallyportref16_Sret2 (fun i0 => sallyportref18_Clean0 (fun i0 => a0_X i0) a0_PC a0_Level a0_V (fun i0 => a0_C i0) a0_Done i0)
                      (sallyportref18_Clean1 (fun i0 => a0_X i0) a0_PC a0_Level a0_V (fun i0 => a0_C i0) a0_Done)
                      (sallyportref18_Clean2 (fun i0 => a0_X i0) a0_PC a0_Level a0_V (fun i0 => a0_C i0) a0_Done)
                      (sallyportref18_Clean3 (fun i0 => a0_X i0) a0_PC a0_Level a0_V (fun i0 => a0_C i0) a0_Done)
                      (fun i0 => sallyportref18_Clean4 (fun i0 => a0_X i0) a0_PC a0_Level a0_V (fun i0 => a0_C i0) a0_Done i0) a0_Done) &&
                  (trap_Sret3 (fun i0 => sallyportref18_Clean0 (fun i0 => a0_X i0) a0_PC a0_Level a0_V (fun i0 => a0_C i0) a0_Done i0)
                        (sallyportref18_Clean1 (fun i0 => a0_X i0) a0_PC a0_Level a0_V (fun i0 => a0_C i0) a0_Done)
                        (sallyportref18_Clean2 (fun i0 => a0_X i0) a0_PC a0_Level a0_V (fun i0 => a0_C i0) a0_Done)
                        (sallyportref18_Clean3 (fun i0 => a0_X i0) a0_PC a0_Level a0_V (fun i0 => a0_C i0) a0_Done)
                        (fun i0 => sallyportref18_Clean4 (fun i0 => a0_X i0) a0_PC a0_Level a0_V (fun i0 => a0_C i0) a0_Done i0) a0_Done ==
                      sallyportref16_Sret3 (fun i0 => sallyportref18_Clean0 (fun i0 => a0_X i0) a0_PC a0_Level a0_V (fun i0 => a0_C i0) a0_Done i0)
                        (sallyportref18_Clean1 (fun i0 => a0_X i0) a0_PC a0_Level a0_V (fun i0 => a0_C i0) a0_Done)
                        (sallyportref18_Clean2 (fun i0 => a0_X i0) a0_PC a0_Level a0_V (fun i0 => a0_C i0) a0_Done)
                        (sallyportref18_Clean3 (fun i0 => a0_X i0) a0_PC a0_Level a0_V (fun i0 => a0_C i0) a0_Done)
                        (fun i0 => sallyportref18_Clean4 (fun i0 => a0_X i0) a0_PC a0_Level a0_V (fun i0 => a0_C i0) a0_Done i0) a0_Done &&
                    (((List.range 29).all fun i =>
                        iEq
                          (trap_Sret4 (fun i0 => sallyportref18_Clean0 (fun i0 => a0_X i0) a0_PC a0_Level a0_V (fun i0 => a0_C i0) a0_Done i0)
                            (sallyportref18_Clean1 (fun i0 => a0_X i0) a0_PC a0_Level a0_V (fun i0 => a0_C i0) a0_Done)
                            (sallyportref18_Clean2 (fun i0 => a0_X i0) a0_PC a0_Level a0_V (fun i0 => a0_C i0) a0_Done)
                            (sallyportref18_Clean3 (fun i0 => a0_X i0) a0_PC a0_Level a0_V (fun i0 => a0_C i0) a0_Done)
                            (fun i0 => sallyportref18_Clean4 (fun i0 => a0_X i0) a0_PC a0_Level a0_V (fun i0 => a0_C i0) a0_Done i0) a0_Done i)
                          (sallyportref16_Sret4 (fun i0 => sallyportref18_Clean0 (fun i0 => a0_X i0) a0_PC a0_Level a0_V (fun i0 => a0_C i0) a0_Done i0)
                            (sallyportref18_Clean1 (fun i0 => a0_X i0) a0_PC a0_Level a0_V (fun i0 => a0_C i0) a0_Done)
                            (sallyportref18_Clean2 (fun i0 => a0_X i0) a0_PC a0_Level a0_V (fun i0 => a0_C i0) a0_Done)
                            (sallyportref18_Clean3 (fun i0 => a0_X i0) a0_PC a0_Level a0_V (fun i0 => a0_C i0) a0_Done)
                            (fun i0 => sallyportref18_Clean4 (fun i0 => a0_X i0) a0_PC a0_Level a0_V (fun i0 => a0_C i0) a0_Done i0) a0_Done i)) &&
                      (iEq a0_Done a0_Done && true)))))
          else false then
        sallyportlaw16_TrapTells_c2 a0_X a0_PC a0_Level a0_V a0_C a0_Done a1_Cause a1_Value a1_Place a1_GVA a2 a3
      else false then
    sallyportlaw16_TrapTells_c3 a0_X a0_PC a0_Level a0_V a0_C a0_Done a1_Cause a1_Value a1_Place a1_GVA a2 a3
  else false
def sallyportlaw16_TrapTellsG (a0_X : Nat → Int) (a0_PC : Int) (a0_Level : Int) (a0_V : Bool) (a0_C : Nat → Int) (a0_Done : Int) (a1_Cause : Int) (a1_Value : Int) (a1_Place : Int) (a1_GVA : Bool) (a2 : Int) (a3 : Bool) : Bool :=
  true
theorem sallyportlaw16_TrapTells0_eq (a0_X : Nat → Int) (a0_PC : Int) (a0_Level : Int) (a0_V : Bool) (a0_C : Nat → Int) (a0_Done : Int) (a1_Cause : Int) (a1_Value : Int) (a1_Place : Int) (a1_GVA : Bool) (a2 : Int) (a3 : Bool)  : sallyportlaw16_TrapTells0r a0_X a0_PC a0_Level a0_V a0_C a0_Done a1_Cause a1_Value a1_Place a1_GVA a2 a3  = sallyportlaw16_TrapTells0 a0_X a0_PC a0_Level a0_V a0_C a0_Done a1_Cause a1_Value a1_Place a1_GVA a2 a3  := by
  unfold sallyportlaw16_TrapTells0r
  first | (simp only [sallyportlaw16_TrapTells_c0, sallyportlaw16_TrapTells_c1, sallyportlaw16_TrapTells_c2, sallyportlaw16_TrapTells_c3, Go.Ev.cS1, Go.Ev.cS2, Go.Ev.cS3, Go.Ev.cS4, Go.Ev.cS6, Go.Ev.cS7]; done) | (simp only [sallyportlaw16_TrapTells_c0, sallyportlaw16_TrapTells_c1, sallyportlaw16_TrapTells_c2, sallyportlaw16_TrapTells_c3, Go.Ev.cS1, Go.Ev.cS2, Go.Ev.cS3, Go.Ev.cS4, Go.Ev.cS6, Go.Ev.cS7]; kernel_rfl)
def sallyportlaw16_TrapTellsV (a0_X : Nat → Int) (a0_PC : Int) (a0_Level : Int) (a0_V : Bool) (a0_C : Nat → Int) (a0_Done : Int) (a1_Cause : Int) (a1_Value : Int) (a1_Place : Int) (a1_GVA : Bool) (a2 : Int) (a3 : Bool) : AV := .bl (sallyportlaw16_TrapTells0 a0_X a0_PC a0_Level a0_V a0_C a0_Done a1_Cause a1_Value a1_Place a1_GVA a2 a3)
def sallyportlaw16_TrapTellsVr (a0_X : Nat → Int) (a0_PC : Int) (a0_Level : Int) (a0_V : Bool) (a0_C : Nat → Int) (a0_Done : Int) (a1_Cause : Int) (a1_Value : Int) (a1_Place : Int) (a1_GVA : Bool) (a2 : Int) (a3 : Bool) : AV := .bl (sallyportlaw16_TrapTells0r a0_X a0_PC a0_Level a0_V a0_C a0_Done a1_Cause a1_Value a1_Place a1_GVA a2 a3)
theorem sallyportlaw16_TrapTellsV_eq (a0_X : Nat → Int) (a0_PC : Int) (a0_Level : Int) (a0_V : Bool) (a0_C : Nat → Int) (a0_Done : Int) (a1_Cause : Int) (a1_Value : Int) (a1_Place : Int) (a1_GVA : Bool) (a2 : Int) (a3 : Bool) : sallyportlaw16_TrapTellsVr a0_X a0_PC a0_Level a0_V a0_C a0_Done a1_Cause a1_Value a1_Place a1_GVA a2 a3 = sallyportlaw16_TrapTellsV a0_X a0_PC a0_Level a0_V a0_C a0_Done a1_Cause a1_Value a1_Place a1_GVA a2 a3 := by
  unfold sallyportlaw16_TrapTellsVr sallyportlaw16_TrapTellsV
  simp only [sallyportlaw16_TrapTells0_eq]
theorem sallyportlaw16_TrapTellsE (g : Nat → AV) : pcOf Try.prog okT (lookR T9) (inl Try.prog okT (lookR T9) RO FS 100 ST 2) RO NOV 100 false Try.f3 (norms [(.agg [(.arr 32 (.int .u64)), (.int .u64), (.int .i64), .bool, (.arr 29 (.int .u64)), (.int .u64)]), (.agg [(.int .u64), (.int .u64), (.int .u64), .bool]), (.int .i64), .bool] 0 g) = some (sallyportlaw16_TrapTellsG (fun i0 => (((g 0).fld 0).ix i0).num) (((g 0).fld 1).num) (((g 0).fld 2).num) (((g 0).fld 3).bool) (fun i0 => (((g 0).fld 4).ix i0).num) (((g 0).fld 5).num) (((g 1).fld 0).num) (((g 1).fld 1).num) (((g 1).fld 2).num) (((g 1).fld 3).bool) ((g 2).num) ((g 3).bool), sallyportlaw16_TrapTellsV (fun i0 => (((g 0).fld 0).ix i0).num) (((g 0).fld 1).num) (((g 0).fld 2).num) (((g 0).fld 3).bool) (fun i0 => (((g 0).fld 4).ix i0).num) (((g 0).fld 5).num) (((g 1).fld 0).num) (((g 1).fld 1).num) (((g 1).fld 2).num) (((g 1).fld 3).bool) ((g 2).num) ((g 3).bool)) :=
  (by kernel_rfl : pcOf Try.prog okT (lookR T9) (inl Try.prog okT (lookR T9) RO FS 100 ST 2) RO NOV 100 false Try.f3 (norms [(.agg [(.arr 32 (.int .u64)), (.int .u64), (.int .i64), .bool, (.arr 29 (.int .u64)), (.int .u64)]), (.agg [(.int .u64), (.int .u64), (.int .u64), .bool]), (.int .i64), .bool] 0 g) = some (sallyportlaw16_TrapTellsG (fun i0 => (((g 0).fld 0).ix i0).num) (((g 0).fld 1).num) (((g 0).fld 2).num) (((g 0).fld 3).bool) (fun i0 => (((g 0).fld 4).ix i0).num) (((g 0).fld 5).num) (((g 1).fld 0).num) (((g 1).fld 1).num) (((g 1).fld 2).num) (((g 1).fld 3).bool) ((g 2).num) ((g 3).bool), sallyportlaw16_TrapTellsVr (fun i0 => (((g 0).fld 0).ix i0).num) (((g 0).fld 1).num) (((g 0).fld 2).num) (((g 0).fld 3).bool) (fun i0 => (((g 0).fld 4).ix i0).num) (((g 0).fld 5).num) (((g 1).fld 0).num) (((g 1).fld 1).num) (((g 1).fld 2).num) (((g 1).fld 3).bool) ((g 2).num) ((g 3).bool))).trans (by rw [sallyportlaw16_TrapTellsV_eq])
theorem sallyportlaw16_TrapTellsP : Plain Try.prog 3 Try.f3 := ⟨Try.func3, of_decide_eq_true (by kernel_rfl)⟩
theorem sallyportlaw16_TrapTellsT (a0_X : Nat → Int) (a0_PC : Int) (a0_Level : Int) (a0_V : Bool) (a0_C : Nat → Int) (a0_Done : Int) (a1_Cause : Int) (a1_Value : Int) (a1_Place : Int) (a1_GVA : Bool) (a2 : Int) (a3 : Bool) : sallyportlaw16_TrapTellsG a0_X a0_PC a0_Level a0_V a0_C a0_Done a1_Cause a1_Value a1_Place a1_GVA a2 a3 = true := rfl
theorem sallyportlaw16_TrapTellsO : RowOk Try.prog 3 (rowF [(.agg [(.arr 32 (.int .u64)), (.int .u64), (.int .i64), .bool, (.arr 29 (.int .u64)), (.int .u64)]), (.agg [(.int .u64), (.int .u64), (.int .u64), .bool]), (.int .i64), .bool] none fun g => sallyportlaw16_TrapTellsV (fun i0 => (((g 0).fld 0).ix i0).num) (((g 0).fld 1).num) (((g 0).fld 2).num) (((g 0).fld 3).bool) (fun i0 => (((g 0).fld 4).ix i0).num) (((g 0).fld 5).num) (((g 1).fld 0).num) (((g 1).fld 1).num) (((g 1).fld 2).num) (((g 1).fld 3).bool) ((g 2).num) ((g 3).bool)) := rowT_ok fun g => pcOf_ok mix fair T9_ok (inl_ok mix fair T9_ok FS_ok 2) sallyportlaw16_TrapTellsP (fun c _ => OvOk_none c) (sallyportlaw16_TrapTellsE g) (sallyportlaw16_TrapTellsT (fun i0 => (((g 0).fld 0).ix i0).num) (((g 0).fld 1).num) (((g 0).fld 2).num) (((g 0).fld 3).bool) (fun i0 => (((g 0).fld 4).ix i0).num) (((g 0).fld 5).num) (((g 1).fld 0).num) (((g 1).fld 1).num) (((g 1).fld 2).num) (((g 1).fld 3).bool) ((g 2).num) ((g 3).bool))
def T3 : List Row := (3, (rowF [(.agg [(.arr 32 (.int .u64)), (.int .u64), (.int .i64), .bool, (.arr 29 (.int .u64)), (.int .u64)]), (.agg [(.int .u64), (.int .u64), (.int .u64), .bool]), (.int .i64), .bool] none fun g => sallyportlaw16_TrapTellsV (fun i0 => (((g 0).fld 0).ix i0).num) (((g 0).fld 1).num) (((g 0).fld 2).num) (((g 0).fld 3).bool) (fun i0 => (((g 0).fld 4).ix i0).num) (((g 0).fld 5).num) (((g 1).fld 0).num) (((g 1).fld 1).num) (((g 1).fld 2).num) (((g 1).fld 3).bool) ((g 2).num) ((g 3).bool))) :: T9
theorem T3_ok : PSound Try.prog (lookR T3) := lookR_cons sallyportlaw16_TrapTellsO T9_ok

/- sallyport/sallyportlaw16.TrapBack -/
def sallyportlaw16_TrapBack_c0 (a0_X : Nat → Int) (a0_PC : Int) (a0_Level : Int) (a0_V : Bool) (a0_C : Nat → Int) (a0_Done : Int) (a1_Cause : Int) (a1_Value : Int) (a1_Place : Int) (a1_GVA : Bool) : Int :=
  trap_Enter1 (fun i0 => sallyportref18_Clean0 (fun i0 => a0_X i0) a0_PC a0_Level a0_V (fun i0 => a0_C i0) a0_Done i0)
    (sallyportref18_Clean1 (fun i0 => a0_X i0) a0_PC a0_Level a0_V (fun i0 => a0_C i0) a0_Done) (sallyportref18_Clean2 (fun i0 => a0_X i0) a0_PC a0_Level a0_V (fun i0 => a0_C i0) a0_Done)
    (sallyportref18_Clean3 (fun i0 => a0_X i0) a0_PC a0_Level a0_V (fun i0 => a0_C i0) a0_Done) (fun i0 => sallyportref18_Clean4 (fun i0 => a0_X i0) a0_PC a0_Level a0_V (fun i0 => a0_C i0) a0_Done i0)
    a0_Done a1_Cause a1_Value a1_Place a1_GVA 3 false
def sallyportlaw16_TrapBack_c1 (a0_X : Nat → Int) (a0_PC : Int) (a0_Level : Int) (a0_V : Bool) (a0_C : Nat → Int) (a0_Done : Int) (a1_Cause : Int) (a1_Value : Int) (a1_Place : Int) (a1_GVA : Bool) : Int :=
  trap_Enter2 (fun i0 => sallyportref18_Clean0 (fun i0 => a0_X i0) a0_PC a0_Level a0_V (fun i0 => a0_C i0) a0_Done i0)
    (sallyportref18_Clean1 (fun i0 => a0_X i0) a0_PC a0_Level a0_V (fun i0 => a0_C i0) a0_Done) (sallyportref18_Clean2 (fun i0 => a0_X i0) a0_PC a0_Level a0_V (fun i0 => a0_C i0) a0_Done)
    (sallyportref18_Clean3 (fun i0 => a0_X i0) a0_PC a0_Level a0_V (fun i0 => a0_C i0) a0_Done) (fun i0 => sallyportref18_Clean4 (fun i0 => a0_X i0) a0_PC a0_Level a0_V (fun i0 => a0_C i0) a0_Done i0)
    a0_Done a1_Cause a1_Value a1_Place a1_GVA 3 false
def sallyportlaw16_TrapBack_c2 (a0_X : Nat → Int) (a0_PC : Int) (a0_Level : Int) (a0_V : Bool) (a0_C : Nat → Int) (a0_Done : Int) (a1_Cause : Int) (a1_Value : Int) (a1_Place : Int) (a1_GVA : Bool) : Bool :=
  trap_Enter3 (fun i0 => sallyportref18_Clean0 (fun i0 => a0_X i0) a0_PC a0_Level a0_V (fun i0 => a0_C i0) a0_Done i0)
    (sallyportref18_Clean1 (fun i0 => a0_X i0) a0_PC a0_Level a0_V (fun i0 => a0_C i0) a0_Done) (sallyportref18_Clean2 (fun i0 => a0_X i0) a0_PC a0_Level a0_V (fun i0 => a0_C i0) a0_Done)
    (sallyportref18_Clean3 (fun i0 => a0_X i0) a0_PC a0_Level a0_V (fun i0 => a0_C i0) a0_Done) (fun i0 => sallyportref18_Clean4 (fun i0 => a0_X i0) a0_PC a0_Level a0_V (fun i0 => a0_C i0) a0_Done i0)
    a0_Done a1_Cause a1_Value a1_Place a1_GVA 3 false
def sallyportlaw16_TrapBack_c3 (a0_X : Nat → Int) (a0_PC : Int) (a0_Level : Int) (a0_V : Bool) (a0_C : Nat → Int) (a0_Done : Int) (a1_Cause : Int) (a1_Value : Int) (a1_Place : Int) (a1_GVA : Bool) : Nat → Int :=
  trap_Enter4 (fun i0 => sallyportref18_Clean0 (fun i0 => a0_X i0) a0_PC a0_Level a0_V (fun i0 => a0_C i0) a0_Done i0)
    (sallyportref18_Clean1 (fun i0 => a0_X i0) a0_PC a0_Level a0_V (fun i0 => a0_C i0) a0_Done) (sallyportref18_Clean2 (fun i0 => a0_X i0) a0_PC a0_Level a0_V (fun i0 => a0_C i0) a0_Done)
    (sallyportref18_Clean3 (fun i0 => a0_X i0) a0_PC a0_Level a0_V (fun i0 => a0_C i0) a0_Done) (fun i0 => sallyportref18_Clean4 (fun i0 => a0_X i0) a0_PC a0_Level a0_V (fun i0 => a0_C i0) a0_Done i0)
    a0_Done a1_Cause a1_Value a1_Place a1_GVA 3 false
def sallyportlaw16_TrapBack_c4 (a0_X : Nat → Int) (a0_PC : Int) (a0_Level : Int) (a0_V : Bool) (a0_C : Nat → Int) (a0_Done : Int) (a1_Cause : Int) (a1_Value : Int) (a1_Place : Int) (a1_GVA : Bool) : Bool :=
  bif iEq (sallyportlaw16_TrapBack_c1 a0_X a0_PC a0_Level a0_V a0_C a0_Done a1_Cause a1_Value a1_Place a1_GVA) 3 then
    !sallyportlaw16_TrapBack_c2 a0_X a0_PC a0_Level a0_V a0_C a0_Done a1_Cause a1_Value a1_Place a1_GVA
  else false
def sallyportlaw16_TrapBack_c5 (a0_X : Nat → Int) (a0_PC : Int) (a0_Level : Int) (a0_V : Bool) (a0_C : Nat → Int) (a0_Done : Int) (a1_Cause : Int) (a1_Value : Int) (a1_Place : Int) (a1_GVA : Bool) : Bool :=
  bif sallyportlaw16_TrapBack_c4 a0_X a0_PC a0_Level a0_V a0_C a0_Done a1_Cause a1_Value a1_Place a1_GVA then
    iEq (sallyportlaw16_TrapBack_c0 a0_X a0_PC a0_Level a0_V a0_C a0_Done a1_Cause a1_Value a1_Place a1_GVA) (sallyportref18_Clean4 (fun i0 => a0_X i0) a0_PC a0_Level a0_V (fun i0 => a0_C i0) a0_Done 4)
  else false
def sallyportlaw16_TrapBack_c6 (a0_X : Nat → Int) (a0_PC : Int) (a0_Level : Int) (a0_V : Bool) (a0_C : Nat → Int) (a0_Done : Int) (a1_Cause : Int) (a1_Value : Int) (a1_Place : Int) (a1_GVA : Bool) : Nat → Int :=
  trap_Mret4 (fun i0 => sallyportref18_Clean0 (fun i0 => a0_X i0) a0_PC a0_Level a0_V (fun i0 => a0_C i0) a0_Done i0)
    (sallyportlaw16_TrapBack_c0 a0_X a0_PC a0_Level a0_V a0_C a0_Done a1_Cause a1_Value a1_Place a1_GVA)
    (sallyportlaw16_TrapBack_c1 a0_X a0_PC a0_Level a0_V a0_C a0_Done a1_Cause a1_Value a1_Place a1_GVA)
    (sallyportlaw16_TrapBack_c2 a0_X a0_PC a0_Level a0_V a0_C a0_Done a1_Cause a1_Value a1_Place a1_GVA)
    (fun i0 => sallyportlaw16_TrapBack_c3 a0_X a0_PC a0_Level a0_V a0_C a0_Done a1_Cause a1_Value a1_Place a1_GVA i0) a0_Done
def sallyportlaw16_TrapBack_c7 (a0_X : Nat → Int) (a0_PC : Int) (a0_Level : Int) (a0_V : Bool) (a0_C : Nat → Int) (a0_Done : Int) (a1_Cause : Int) (a1_Value : Int) (a1_Place : Int) (a1_GVA : Bool) : Bool :=
  bif sallyportlaw16_TrapBack_c5 a0_X a0_PC a0_Level a0_V a0_C a0_Done a1_Cause a1_Value a1_Place a1_GVA then
    iEq (iAnd IntKind.u64 (iShr IntKind.u64 (sallyportlaw16_TrapBack_c6 a0_X a0_PC a0_Level a0_V a0_C a0_Done a1_Cause a1_Value a1_Place a1_GVA 0) 3) 1)
      (iAnd IntKind.u64 (iShr IntKind.u64 (sallyportref18_Clean4 (fun i0 => a0_X i0) a0_PC a0_Level a0_V (fun i0 => a0_C i0) a0_Done 0) 3) 1)
  else false
def sallyportlaw16_TrapBack_c8 (a0_X : Nat → Int) (a0_PC : Int) (a0_Level : Int) (a0_V : Bool) (a0_C : Nat → Int) (a0_Done : Int) (a1_Cause : Int) (a1_Value : Int) (a1_Place : Int) (a1_GVA : Bool) : Bool :=
  bif sallyportlaw16_TrapBack_c7 a0_X a0_PC a0_Level a0_V a0_C a0_Done a1_Cause a1_Value a1_Place a1_GVA then
    iEq (iAnd IntKind.u64 (iShr IntKind.u64 (sallyportlaw16_TrapBack_c3 a0_X a0_PC a0_Level a0_V a0_C a0_Done a1_Cause a1_Value a1_Place a1_GVA 0) 3) 1) 0
  else false
def sallyportlaw16_TrapBack_c9 (a0_X : Nat → Int) (a0_PC : Int) (a0_Level : Int) (a0_V : Bool) (a0_C : Nat → Int) (a0_Done : Int) (a1_Cause : Int) (a1_Value : Int) (a1_Place : Int) (a1_GVA : Bool) : Bool :=
  bif sallyportlaw16_TrapBack_c8 a0_X a0_PC a0_Level a0_V a0_C a0_Done a1_Cause a1_Value a1_Place a1_GVA then
    iEq (sallyportlaw16_TrapBack_c6 a0_X a0_PC a0_Level a0_V a0_C a0_Done a1_Cause a1_Value a1_Place a1_GVA 7) a1_Cause
  else false
def sallyportlaw16_TrapBack_c10 (a0_X : Nat → Int) (a0_PC : Int) (a0_Level : Int) (a0_V : Bool) (a0_C : Nat → Int) (a0_Done : Int) (a1_Cause : Int) (a1_Value : Int) (a1_Place : Int) (a1_GVA : Bool) : Bool :=
  bif sallyportlaw16_TrapBack_c9 a0_X a0_PC a0_Level a0_V a0_C a0_Done a1_Cause a1_Value a1_Place a1_GVA then
    iEq (sallyportlaw16_TrapBack_c6 a0_X a0_PC a0_Level a0_V a0_C a0_Done a1_Cause a1_Value a1_Place a1_GVA 10)
      (sallyportref18_Clean4 (fun i0 => a0_X i0) a0_PC a0_Level a0_V (fun i0 => a0_C i0) a0_Done 10)
  else false
def sallyportlaw16_TrapBack0 (a0_X : Nat → Int) (a0_PC : Int) (a0_Level : Int) (a0_V : Bool) (a0_C : Nat → Int) (a0_Done : Int) (a1_Cause : Int) (a1_Value : Int) (a1_Place : Int) (a1_GVA : Bool) : Bool :=
  bif
      bif
          bif
              bif
                  bif
                      bif
                          !trap_Mret7 (fun i0 => sallyportref18_Clean0 (fun i0 => a0_X i0) a0_PC a0_Level a0_V (fun i0 => a0_C i0) a0_Done i0)
                              (sallyportlaw16_TrapBack_c0 a0_X a0_PC a0_Level a0_V a0_C a0_Done a1_Cause a1_Value a1_Place a1_GVA)
                              (sallyportlaw16_TrapBack_c1 a0_X a0_PC a0_Level a0_V a0_C a0_Done a1_Cause a1_Value a1_Place a1_GVA)
                              (sallyportlaw16_TrapBack_c2 a0_X a0_PC a0_Level a0_V a0_C a0_Done a1_Cause a1_Value a1_Place a1_GVA)
                              (fun i0 => sallyportlaw16_TrapBack_c3 a0_X a0_PC a0_Level a0_V a0_C a0_Done a1_Cause a1_Value a1_Place a1_GVA i0) a0_Done then
                        true
                      else
                        iNe
                          (trap_Mret1 (fun i0 => sallyportref18_Clean0 (fun i0 => a0_X i0) a0_PC a0_Level a0_V (fun i0 => a0_C i0) a0_Done i0)
                            (sallyportlaw16_TrapBack_c0 a0_X a0_PC a0_Level a0_V a0_C a0_Done a1_Cause a1_Value a1_Place a1_GVA)
                            (sallyportlaw16_TrapBack_c1 a0_X a0_PC a0_Level a0_V a0_C a0_Done a1_Cause a1_Value a1_Place a1_GVA)
                            (sallyportlaw16_TrapBack_c2 a0_X a0_PC a0_Level a0_V a0_C a0_Done a1_Cause a1_Value a1_Place a1_GVA)
                            (fun i0 => sallyportlaw16_TrapBack_c3 a0_X a0_PC a0_Level a0_V a0_C a0_Done a1_Cause a1_Value a1_Place a1_GVA i0) a0_Done)
                          (sallyportref18_Clean1 (fun i0 => a0_X i0) a0_PC a0_Level a0_V (fun i0 => a0_C i0) a0_Done) then
                    true
                  else
                    iNe
                      (trap_Mret2 (fun i0 => sallyportref18_Clean0 (fun i0 => a0_X i0) a0_PC a0_Level a0_V (fun i0 => a0_C i0) a0_Done i0)
                        (sallyportlaw16_TrapBack_c0 a0_X a0_PC a0_Level a0_V a0_C a0_Done a1_Cause a1_Value a1_Place a1_GVA)
                        (sallyportlaw16_TrapBack_c1 a0_X a0_PC a0_Level a0_V a0_C a0_Done a1_Cause a1_Value a1_Place a1_GVA)
                        (sallyportlaw16_TrapBack_c2 a0_X a0_PC a0_Level a0_V a0_C a0_Done a1_Cause a1_Value a1_Place a1_GVA)
                        (fun i0 => sallyportlaw16_TrapBack_c3 a0_X a0_PC a0_Level a0_V a0_C a0_Done a1_Cause a1_Value a1_Place a1_GVA i0) a0_Done)
                      (sallyportref18_Clean2 (fun i0 => a0_X i0) a0_PC a0_Level a0_V (fun i0 => a0_C i0) a0_Done) then
                true
              else
                !trap_Mret3 (fun i0 => sallyportref18_Clean0 (fun i0 => a0_X i0) a0_PC a0_Level a0_V (fun i0 => a0_C i0) a0_Done i0)
                      (sallyportlaw16_TrapBack_c0 a0_X a0_PC a0_Level a0_V a0_C a0_Done a1_Cause a1_Value a1_Place a1_GVA)
                      (sallyportlaw16_TrapBack_c1 a0_X a0_PC a0_Level a0_V a0_C a0_Done a1_Cause a1_Value a1_Place a1_GVA)
                      (sallyportlaw16_TrapBack_c2 a0_X a0_PC a0_Level a0_V a0_C a0_Done a1_Cause a1_Value a1_Place a1_GVA)
                      (fun i0 => sallyportlaw16_TrapBack_c3 a0_X a0_PC a0_Level a0_V a0_C a0_Done a1_Cause a1_Value a1_Place a1_GVA i0) a0_Done ==
                    sallyportref18_Clean3 (fun i0 => a0_X i0) a0_PC a0_Level a0_V (fun i0 => a0_C i0) a0_Done then
            true
          else
            !(List.range 32).all fun i =>
                iEq (sallyportref18_Clean0 (fun i0 => a0_X i0) a0_PC a0_Level a0_V (fun i0 => a0_C i0) a0_Done i)
                  (sallyportref18_Clean0 (fun i0 => a0_X i0) a0_PC a0_Level a0_V (fun i0 => a0_C i0) a0_Done i) then
        true
      else iNe a0_Done a0_Done then
    false
  else
    bif sallyportlaw16_TrapBack_c10 a0_X a0_PC a0_Level a0_V a0_C a0_Done a1_Cause a1_Value a1_Place a1_GVA then
      iEq (sallyportlaw16_TrapBack_c6 a0_X a0_PC a0_Level a0_V a0_C a0_Done a1_Cause a1_Value a1_Place a1_GVA 22)
        (sallyportref18_Clean4 (fun i0 => a0_X i0) a0_PC a0_Level a0_V (fun i0 => a0_C i0) a0_Done 22)
    else false
def sallyportlaw16_TrapBackG (a0_X : Nat → Int) (a0_PC : Int) (a0_Level : Int) (a0_V : Bool) (a0_C : Nat → Int) (a0_Done : Int) (a1_Cause : Int) (a1_Value : Int) (a1_Place : Int) (a1_GVA : Bool) : Bool :=
  bif
      bif
          bif
              bif
                  bif
                      bif
                          !trap_Mret7 (fun i0 => sallyportref18_Clean0 (fun i0 => a0_X i0) a0_PC a0_Level a0_V (fun i0 => a0_C i0) a0_Done i0)
                              (sallyportlaw16_TrapBack_c0 a0_X a0_PC a0_Level a0_V a0_C a0_Done a1_Cause a1_Value a1_Place a1_GVA)
                              (sallyportlaw16_TrapBack_c1 a0_X a0_PC a0_Level a0_V a0_C a0_Done a1_Cause a1_Value a1_Place a1_GVA)
                              (sallyportlaw16_TrapBack_c2 a0_X a0_PC a0_Level a0_V a0_C a0_Done a1_Cause a1_Value a1_Place a1_GVA)
                              (fun i0 => sallyportlaw16_TrapBack_c3 a0_X a0_PC a0_Level a0_V a0_C a0_Done a1_Cause a1_Value a1_Place a1_GVA i0) a0_Done then
                        true
                      else
                        iNe
                          (trap_Mret1 (fun i0 => sallyportref18_Clean0 (fun i0 => a0_X i0) a0_PC a0_Level a0_V (fun i0 => a0_C i0) a0_Done i0)
                            (sallyportlaw16_TrapBack_c0 a0_X a0_PC a0_Level a0_V a0_C a0_Done a1_Cause a1_Value a1_Place a1_GVA)
                            (sallyportlaw16_TrapBack_c1 a0_X a0_PC a0_Level a0_V a0_C a0_Done a1_Cause a1_Value a1_Place a1_GVA)
                            (sallyportlaw16_TrapBack_c2 a0_X a0_PC a0_Level a0_V a0_C a0_Done a1_Cause a1_Value a1_Place a1_GVA)
                            (fun i0 => sallyportlaw16_TrapBack_c3 a0_X a0_PC a0_Level a0_V a0_C a0_Done a1_Cause a1_Value a1_Place a1_GVA i0) a0_Done)
                          (sallyportref18_Clean1 (fun i0 => a0_X i0) a0_PC a0_Level a0_V (fun i0 => a0_C i0) a0_Done) then
                    true
                  else
                    iNe
                      (trap_Mret2 (fun i0 => sallyportref18_Clean0 (fun i0 => a0_X i0) a0_PC a0_Level a0_V (fun i0 => a0_C i0) a0_Done i0)
                        (sallyportlaw16_TrapBack_c0 a0_X a0_PC a0_Level a0_V a0_C a0_Done a1_Cause a1_Value a1_Place a1_GVA)
                        (sallyportlaw16_TrapBack_c1 a0_X a0_PC a0_Level a0_V a0_C a0_Done a1_Cause a1_Value a1_Place a1_GVA)
                        (sallyportlaw16_TrapBack_c2 a0_X a0_PC a0_Level a0_V a0_C a0_Done a1_Cause a1_Value a1_Place a1_GVA)
                        (fun i0 => sallyportlaw16_TrapBack_c3 a0_X a0_PC a0_Level a0_V a0_C a0_Done a1_Cause a1_Value a1_Place a1_GVA i0) a0_Done)
                      (sallyportref18_Clean2 (fun i0 => a0_X i0) a0_PC a0_Level a0_V (fun i0 => a0_C i0) a0_Done) then
                true
              else
                !trap_Mret3 (fun i0 => sallyportref18_Clean0 (fun i0 => a0_X i0) a0_PC a0_Level a0_V (fun i0 => a0_C i0) a0_Done i0)
                      (sallyportlaw16_TrapBack_c0 a0_X a0_PC a0_Level a0_V a0_C a0_Done a1_Cause a1_Value a1_Place a1_GVA)
                      (sallyportlaw16_TrapBack_c1 a0_X a0_PC a0_Level a0_V a0_C a0_Done a1_Cause a1_Value a1_Place a1_GVA)
                      (sallyportlaw16_TrapBack_c2 a0_X a0_PC a0_Level a0_V a0_C a0_Done a1_Cause a1_Value a1_Place a1_GVA)
                      (fun i0 => sallyportlaw16_TrapBack_c3 a0_X a0_PC a0_Level a0_V a0_C a0_Done a1_Cause a1_Value a1_Place a1_GVA i0) a0_Done ==
                    sallyportref18_Clean3 (fun i0 => a0_X i0) a0_PC a0_Level a0_V (fun i0 => a0_C i0) a0_Done then
            true
          else
            !(List.range 32).all fun i =>
                iEq (sallyportref18_Clean0 (fun i0 => a0_X i0) a0_PC a0_Level a0_V (fun i0 => a0_C i0) a0_Done i)
                  (sallyportref18_Clean0 (fun i0 => a0_X i0) a0_PC a0_Level a0_V (fun i0 => a0_C i0) a0_Done i) then
        true
      else iNe a0_Done a0_Done then
    true
  else
    (!sallyportlaw16_TrapBack_c4 a0_X a0_PC a0_Level a0_V a0_C a0_Done a1_Cause a1_Value a1_Place a1_GVA || true) &&
      ((!sallyportlaw16_TrapBack_c5 a0_X a0_PC a0_Level a0_V a0_C a0_Done a1_Cause a1_Value a1_Place a1_GVA || true) &&
        ((!sallyportlaw16_TrapBack_c5 a0_X a0_PC a0_Level a0_V a0_C a0_Done a1_Cause a1_Value a1_Place a1_GVA || true) &&
          ((!sallyportlaw16_TrapBack_c7 a0_X a0_PC a0_Level a0_V a0_C a0_Done a1_Cause a1_Value a1_Place a1_GVA || true) &&
            ((!sallyportlaw16_TrapBack_c8 a0_X a0_PC a0_Level a0_V a0_C a0_Done a1_Cause a1_Value a1_Place a1_GVA || true) &&
              ((!sallyportlaw16_TrapBack_c9 a0_X a0_PC a0_Level a0_V a0_C a0_Done a1_Cause a1_Value a1_Place a1_GVA || true) &&
                ((!sallyportlaw16_TrapBack_c9 a0_X a0_PC a0_Level a0_V a0_C a0_Done a1_Cause a1_Value a1_Place a1_GVA || true) &&
                  ((!sallyportlaw16_TrapBack_c10 a0_X a0_PC a0_Level a0_V a0_C a0_Done a1_Cause a1_Value a1_Place a1_GVA || true) &&
                    ((!sallyportlaw16_TrapBack_c10 a0_X a0_PC a0_Level a0_V a0_C a0_Done a1_Cause a1_Value a1_Place a1_GVA || true) && true))))))))
def sallyportlaw16_TrapBackV (a0_X : Nat → Int) (a0_PC : Int) (a0_Level : Int) (a0_V : Bool) (a0_C : Nat → Int) (a0_Done : Int) (a1_Cause : Int) (a1_Value : Int) (a1_Place : Int) (a1_GVA : Bool) : AV := .bl (sallyportlaw16_TrapBack0 a0_X a0_PC a0_Level a0_V a0_C a0_Done a1_Cause a1_Value a1_Place a1_GVA)
theorem sallyportlaw16_TrapBackE (g : Nat → AV) : pcOf Try.prog okT (lookR T3) (inl Try.prog okT (lookR T3) RO FS 100 ST 2) RO NOV 100 false Try.f4 (norms [(.agg [(.arr 32 (.int .u64)), (.int .u64), (.int .i64), .bool, (.arr 29 (.int .u64)), (.int .u64)]), (.agg [(.int .u64), (.int .u64), (.int .u64), .bool])] 0 g) = some (sallyportlaw16_TrapBackG (fun i0 => (((g 0).fld 0).ix i0).num) (((g 0).fld 1).num) (((g 0).fld 2).num) (((g 0).fld 3).bool) (fun i0 => (((g 0).fld 4).ix i0).num) (((g 0).fld 5).num) (((g 1).fld 0).num) (((g 1).fld 1).num) (((g 1).fld 2).num) (((g 1).fld 3).bool), sallyportlaw16_TrapBackV (fun i0 => (((g 0).fld 0).ix i0).num) (((g 0).fld 1).num) (((g 0).fld 2).num) (((g 0).fld 3).bool) (fun i0 => (((g 0).fld 4).ix i0).num) (((g 0).fld 5).num) (((g 1).fld 0).num) (((g 1).fld 1).num) (((g 1).fld 2).num) (((g 1).fld 3).bool)) := by kernel_rfl
theorem sallyportlaw16_TrapBackP : Plain Try.prog 4 Try.f4 := ⟨Try.func4, of_decide_eq_true (by kernel_rfl)⟩
theorem sallyportlaw16_TrapBackT (a0_X : Nat → Int) (a0_PC : Int) (a0_Level : Int) (a0_V : Bool) (a0_C : Nat → Int) (a0_Done : Int) (a1_Cause : Int) (a1_Value : Int) (a1_Place : Int) (a1_GVA : Bool) : sallyportlaw16_TrapBackG a0_X a0_PC a0_Level a0_V a0_C a0_Done a1_Cause a1_Value a1_Place a1_GVA = true := by first | (simp [sallyportlaw16_TrapBackG]; done) | (simp [sallyportlaw16_TrapBackG, Go.Ev.iEq, Go.Ev.iNe, Go.Ev.iLt, Go.Ev.iLe, Go.Ev.iIn]; omega)
theorem sallyportlaw16_TrapBackO : RowOk Try.prog 4 (rowF [(.agg [(.arr 32 (.int .u64)), (.int .u64), (.int .i64), .bool, (.arr 29 (.int .u64)), (.int .u64)]), (.agg [(.int .u64), (.int .u64), (.int .u64), .bool])] none fun g => sallyportlaw16_TrapBackV (fun i0 => (((g 0).fld 0).ix i0).num) (((g 0).fld 1).num) (((g 0).fld 2).num) (((g 0).fld 3).bool) (fun i0 => (((g 0).fld 4).ix i0).num) (((g 0).fld 5).num) (((g 1).fld 0).num) (((g 1).fld 1).num) (((g 1).fld 2).num) (((g 1).fld 3).bool)) := rowT_ok fun g => pcOf_ok mix fair T3_ok (inl_ok mix fair T3_ok FS_ok 2) sallyportlaw16_TrapBackP (fun c _ => OvOk_none c) (sallyportlaw16_TrapBackE g) (sallyportlaw16_TrapBackT (fun i0 => (((g 0).fld 0).ix i0).num) (((g 0).fld 1).num) (((g 0).fld 2).num) (((g 0).fld 3).bool) (fun i0 => (((g 0).fld 4).ix i0).num) (((g 0).fld 5).num) (((g 1).fld 0).num) (((g 1).fld 1).num) (((g 1).fld 2).num) (((g 1).fld 3).bool))
def T4 : List Row := (4, (rowF [(.agg [(.arr 32 (.int .u64)), (.int .u64), (.int .i64), .bool, (.arr 29 (.int .u64)), (.int .u64)]), (.agg [(.int .u64), (.int .u64), (.int .u64), .bool])] none fun g => sallyportlaw16_TrapBackV (fun i0 => (((g 0).fld 0).ix i0).num) (((g 0).fld 1).num) (((g 0).fld 2).num) (((g 0).fld 3).bool) (fun i0 => (((g 0).fld 4).ix i0).num) (((g 0).fld 5).num) (((g 1).fld 0).num) (((g 1).fld 1).num) (((g 1).fld 2).num) (((g 1).fld 3).bool))) :: T3
theorem T4_ok : PSound Try.prog (lookR T4) := lookR_cons sallyportlaw16_TrapBackO T3_ok

end
end Go.Proofs.Ytjnpaegoobclfaa.PV
