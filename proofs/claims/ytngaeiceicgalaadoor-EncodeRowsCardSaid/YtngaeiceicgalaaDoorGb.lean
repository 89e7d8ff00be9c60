/-
  What functions of the program and of the document yield, evaluated (insn.Name .. encode.Encode). Printed by a program of the prover's own (wip/prt).
-/
import Derived.Test.YtngaeiceicgalaaDoorRows
import Derived.Test.YtngaeiceicgalaaDoorEvW
import Derived.Test.YtngaeiceicgalaaDoorGa
set_option linter.unusedVariables false
set_option linter.unusedSimpArgs false
namespace Go.Proofs.YtngaeiceicgalaaDoor.PV
noncomputable section
open Go Go.Ev
/- sallyport/insn.Name -/
def insn_Name0 (a0 : Int) : List UInt8 :=
  bif iEq (insn_Class0 a0) 0 then []
  else
    bif a0.toNat == 69 then [104, 115, 118, 46, 100]
    else
      bif a0.toNat == 68 then [104, 108, 118, 120, 46, 119, 117]
      else
        bif a0.toNat == 67 then [104, 108, 118, 46, 100]
        else
          bif a0.toNat == 66 then [104, 108, 118, 46, 119]
          else
            bif a0.toNat == 65 then [104, 102, 101, 110, 99, 101, 46, 103, 118, 109, 97]
            else
              bif a0.toNat == 64 then [104, 102, 101, 110, 99, 101, 46, 118, 118, 109, 97]
              else
                bif a0.toNat == 63 then [115, 102, 101, 110, 99, 101, 46, 118, 109, 97]
                else
                  bif a0.toNat == 62 then [119, 102, 105]
                  else
                    bif a0.toNat == 61 then [115, 114, 101, 116]
                    else
                      bif a0.toNat == 60 then [109, 114, 101, 116]
                      else
                        bif a0.toNat == 59 then [99, 115, 114, 114, 99, 105]
                        else
                          bif a0.toNat == 58 then [99, 115, 114, 114, 115, 105]
                          else
                            bif a0.toNat == 57 then [99, 115, 114, 114, 119, 105]
                            else
                              bif a0.toNat == 56 then [99, 115, 114, 114, 99]
                              else
                                bif a0.toNat == 55 then [99, 115, 114, 114, 115]
                                else
                                  bif a0.toNat == 54 then [99, 115, 114, 114, 119]
                                  else
                                    bif a0.toNat == 53 then [101, 98, 114, 101, 97, 107]
                                    else
                                      bif a0.toNat == 52 then [101, 99, 97, 108, 108]
                                      else
                                        bif a0.toNat == 51 then [102, 101, 110, 99, 101, 46, 105]
                                        else
                                          bif a0.toNat == 50 then [102, 101, 110, 99, 101]
                                          else
                                            bif a0.toNat == 49 then [115, 114, 97, 119]
                                            else
                                              bif a0.toNat == 48 then [115, 114, 108, 119]
                                              else
                                                bif a0.toNat == 47 then [115, 108, 108, 119]
                                                else
                                                  bif a0.toNat == 46 then [115, 117, 98, 119]
                                                  else
                                                    bif a0.toNat == 45 then [97, 100, 100, 119]
                                                    else
                                                      bif a0.toNat == 44 then [97, 110, 100]
                                                      else
                                                        bif a0.toNat == 43 then [111, 114]
                                                        else
                                                          bif a0.toNat == 42 then [115, 114, 97]
                                                          else
                                                            bif a0.toNat == 41 then [115, 114, 108]
                                                            else
                                                              bif a0.toNat == 40 then [120, 111, 114]
                                                              else
                                                                bif a0.toNat == 39 then [115, 108, 116, 117]
                                                                else
                                                                  bif a0.toNat == 38 then [115, 108, 116]
                                                                  else
                                                                    bif a0.toNat == 37 then [115, 108, 108]
                                                                    else
                                                                      bif a0.toNat == 36 then [115, 117, 98]
                                                                      else
                                                                        bif a0.toNat == 35 then [97, 100, 100]
                                                                        else
                                                                          bif a0.toNat == 34 then [115, 114, 97, 105, 119]
                                                                          else
                                                                            bif a0.toNat == 33 then [115, 114, 108, 105, 119]
                                                                            else
                                                                              bif a0.toNat == 32 then [115, 108, 108, 105, 119]
                                                                              else
                                                                                bif a0.toNat == 31 then [97, 100, 100, 105, 119]
                                                                                else
                                                                                  bif a0.toNat == 30 then [115, 114, 97, 105]
                                                                                  else
                                                                                    bif a0.toNat == 29 then [115, 114, 108, 105]
                                                                                    else
                                                                                      bif a0.toNat == 28 then [115, 108, 108, 105]
                                                                                      else
                                                                                        bif a0.toNat == 27 then [97, 110, 100, 105]
                                                                                        else
                                                                                          bif a0.toNat == 26 then [111, 114, 105]
                                                                                          else
                                                                                            bif a0.toNat == 25 then [120, 111, 114, 105]
                                                                                            else
                                                                                              bif a0.toNat == 24 then [115, 108, 116, 105, 117]
                                                                                              else
                                                                                                bif a0.toNat == 23 then [115, 108, 116, 105]
                                                                                                else
                                                                                                  bif a0.toNat == 22 then [97, 100, 100, 105]
                                                                                                  else
                                                                                                    bif a0.toNat == 21 then [115, 100]
                                                                                                    else
                                                                                                      bif a0.toNat == 20 then [115, 119]
                                                                                                      else
                                                                                                        bif a0.toNat == 19 then [115, 104]
                                                                                                        else
                                                                                                          bif a0.toNat == 18 then [115, 98]
                                                                                                          else
                                                                                                            bif a0.toNat == 17 then [108, 119, 117]
                                                                                                            else
                                                                                                              bif a0.toNat == 16 then [108, 104, 117]
                                                                                                              else
                                                                                                                bif a0.toNat == 15 then [108, 98, 117]
                                                                                                                else
                                                                                                                  bif a0.toNat == 14 then [108, 100]
                                                                                                                  else
                                                                                                                    bif a0.toNat == 13 then [108, 119]
                                                                                                                    else
                                                                                                                      bif a0.toNat == 12 then [108, 104]
                                                                                                                      else
                                                                                                                        bif a0.toNat == 11 then [108, 98]
                                                                                                                        else
                                                                                                                          bif a0.toNat == 10 then [98, 103, 101, 117]
                                                                                                                          else
                                                                                                                            bif a0.toNat == 9 then [98, 108, 116, 117]
                                                                                                                            else
                                                                                                                              bif a0.toNat == 8 then [98, 103, 101]
                                                                                                                              else
                                                                                                                                bif a0.toNat == 7 then [98, 108, 116]
                                                                                                                                else
                                                                                                                                  bif a0.toNat == 6 then [98, 110, 101]
                                                                                                                                  else
                                                                                                                                    bif a0.toNat == 5 then [98, 101, 113]
                                                                                                                                    else
                                                                                                                                      bif a0.toNat == 4 then [106, 97, 108, 114]
                                                                                                                                      else
                                                                                                                                        bif a0.toNat == 3 then [106, 97, 108]
                                                                                                                                        else
                                                                                                                                          bif a0.toNat == 2 then [97, 117, 105, 112, 99]
                                                                                                                                          else bif a0.toNat == 1 then [108, 117, 105] else []
def insn_NameG (a0 : Int) : Bool :=
  bif iEq (insn_Class0 a0) 0 then true else iIn a0 70 && true
def insn_NameV (a0 : Int) : AV := .st (insn_Name0 a0)
theorem insn_NameE (g : Nat → AV) : pcOf Tryd.prog okT (lookR T16) (inlO Tryd.prog okT (lookR T16) RO FS 400 ST (hOnce Tryd.prog 67 25 21) 8) RO NOV 100 false Tryd.f28 (norms [(.int .i64)] 0 g) = some (insn_NameG ((g 0).num), insn_NameV ((g 0).num)) := by kernel_rfl
theorem insn_NameP : Plain Tryd.prog 28 Tryd.f28 := ⟨Tryd.func28, of_decide_eq_true (by kernel_rfl)⟩
theorem insn_NameT (a0 : Int) : insn_NameG a0 = true := by
  unfold insn_NameG
  cases h : iEq (insn_Class0 a0) 0 with
  | true => rfl
  | false => rw [class_zero h]; rfl
theorem insn_NameO : RowOk Tryd.prog 28 (rowF [(.int .i64)] none fun g => insn_NameV ((g 0).num)) := rowT_ok fun g => pcOf_ok mix fair T16_ok (inlO_ok mix fair T16_ok FS_ok (fun _ h => hOnce_ok once_ok h) 8) insn_NameP (fun c _ => OvOk_none c) (insn_NameE g) (insn_NameT ((g 0).num))
def T28 : List Row := (28, (rowF [(.int .i64)] none fun g => insn_NameV ((g 0).num))) :: T16
theorem T28_ok : PSound Tryd.prog (lookR T28) := lookR_cons insn_NameO T16_ok

/- sallyport/sallyportref3.Name -/
def sallyportref3_Name0 (a0 : Int) : List UInt8 :=
  bif bif iLt a0 0 then true else iLe 70 a0 then []
  else
    bif a0.toNat == 69 then [104, 115, 118, 46, 100]
    else
      bif a0.toNat == 68 then [104, 108, 118, 120, 46, 119, 117]
      else
        bif a0.toNat == 67 then [104, 108, 118, 46, 100]
        else
          bif a0.toNat == 66 then [104, 108, 118, 46, 119]
          else
            bif a0.toNat == 65 then [104, 102, 101, 110, 99, 101, 46, 103, 118, 109, 97]
            else
              bif a0.toNat == 64 then [104, 102, 101, 110, 99, 101, 46, 118, 118, 109, 97]
              else
                bif a0.toNat == 63 then [115, 102, 101, 110, 99, 101, 46, 118, 109, 97]
                else
                  bif a0.toNat == 62 then [119, 102, 105]
                  else
                    bif a0.toNat == 61 then [115, 114, 101, 116]
                    else
                      bif a0.toNat == 60 then [109, 114, 101, 116]
                      else
                        bif a0.toNat == 59 then [99, 115, 114, 114, 99, 105]
                        else
                          bif a0.toNat == 58 then [99, 115, 114, 114, 115, 105]
                          else
                            bif a0.toNat == 57 then [99, 115, 114, 114, 119, 105]
                            else
                              bif a0.toNat == 56 then [99, 115, 114, 114, 99]
                              else
                                bif a0.toNat == 55 then [99, 115, 114, 114, 115]
                                else
                                  bif a0.toNat == 54 then [99, 115, 114, 114, 119]
                                  else
                                    bif a0.toNat == 53 then [101, 98, 114, 101, 97, 107]
                                    else
                                      bif a0.toNat == 52 then [101, 99, 97, 108, 108]
                                      else
                                        bif a0.toNat == 51 then [102, 101, 110, 99, 101, 46, 105]
                                        else
                                          bif a0.toNat == 50 then [102, 101, 110, 99, 101]
                                          else
                                            bif a0.toNat == 49 then [115, 114, 97, 119]
                                            else
                                              bif a0.toNat == 48 then [115, 114, 108, 119]
                                              else
                                                bif a0.toNat == 47 then [115, 108, 108, 119]
                                                else
                                                  bif a0.toNat == 46 then [115, 117, 98, 119]
                                                  else
                                                    bif a0.toNat == 45 then [97, 100, 100, 119]
                                                    else
                                                      bif a0.toNat == 44 then [97, 110, 100]
                                                      else
                                                        bif a0.toNat == 43 then [111, 114]
                                                        else
                                                          bif a0.toNat == 42 then [115, 114, 97]
                                                          else
                                                            bif a0.toNat == 41 then [115, 114, 108]
                                                            else
                                                              bif a0.toNat == 40 then [120, 111, 114]
                                                              else
                                                                bif a0.toNat == 39 then [115, 108, 116, 117]
                                                                else
                                                                  bif a0.toNat == 38 then [115, 108, 116]
                                                                  else
                                                                    bif a0.toNat == 37 then [115, 108, 108]
                                                                    else
                                                                      bif a0.toNat == 36 then [115, 117, 98]
                                                                      else
                                                                        bif a0.toNat == 35 then [97, 100, 100]
                                                                        else
                                                                          bif a0.toNat == 34 then [115, 114, 97, 105, 119]
                                                                          else
                                                                            bif a0.toNat == 33 then [115, 114, 108, 105, 119]
                                                                            else
                                                                              bif a0.toNat == 32 then [115, 108, 108, 105, 119]
                                                                              else
                                                                                bif a0.toNat == 31 then [97, 100, 100, 105, 119]
                                                                                else
                                                                                  bif a0.toNat == 30 then [115, 114, 97, 105]
                                                                                  else
                                                                                    bif a0.toNat == 29 then [115, 114, 108, 105]
                                                                                    else
                                                                                      bif a0.toNat == 28 then [115, 108, 108, 105]
                                                                                      else
                                                                                        bif a0.toNat == 27 then [97, 110, 100, 105]
                                                                                        else
                                                                                          bif a0.toNat == 26 then [111, 114, 105]
                                                                                          else
                                                                                            bif a0.toNat == 25 then [120, 111, 114, 105]
                                                                                            else
                                                                                              bif a0.toNat == 24 then [115, 108, 116, 105, 117]
                                                                                              else
                                                                                                bif a0.toNat == 23 then [115, 108, 116, 105]
                                                                                                else
                                                                                                  bif a0.toNat == 22 then [97, 100, 100, 105]
                                                                                                  else
                                                                                                    bif a0.toNat == 21 then [115, 100]
                                                                                                    else
                                                                                                      bif a0.toNat == 20 then [115, 119]
                                                                                                      else
                                                                                                        bif a0.toNat == 19 then [115, 104]
                                                                                                        else
                                                                                                          bif a0.toNat == 18 then [115, 98]
                                                                                                          else
                                                                                                            bif a0.toNat == 17 then [108, 119, 117]
                                                                                                            else
                                                                                                              bif a0.toNat == 16 then [108, 104, 117]
                                                                                                              else
                                                                                                                bif a0.toNat == 15 then [108, 98, 117]
                                                                                                                else
                                                                                                                  bif a0.toNat == 14 then [108, 100]
                                                                                                                  else
                                                                                                                    bif a0.toNat == 13 then [108, 119]
                                                                                                                    else
                                                                                                                      bif a0.toNat == 12 then [108, 104]
                                                                                                                      else
                                                                                                                        bif a0.toNat == 11 then [108, 98]
                                                                                                                        else
                                                                                                                          bif a0.toNat == 10 then [98, 103, 101, 117]
                                                                                                                          else
                                                                                                                            bif a0.toNat == 9 then [98, 108, 116, 117]
                                                                                                                            else
                                                                                                                              bif a0.toNat == 8 then [98, 103, 101]
                                                                                                                              else
                                                                                                                                bif a0.toNat == 7 then [98, 108, 116]
                                                                                                                                else
                                                                                                                                  bif a0.toNat == 6 then [98, 110, 101]
                                                                                                                                  else
                                                                                                                                    bif a0.toNat == 5 then [98, 101, 113]
                                                                                                                                    else
                                                                                                                                      bif a0.toNat == 4 then [106, 97, 108, 114]
                                                                                                                                      else
                                                                                                                                        bif a0.toNat == 3 then [106, 97, 108]
                                                                                                                                        else
                                                                                                                                          bif a0.toNat == 2 then [97, 117, 105, 112, 99]
                                                                                                                                          else bif a0.toNat == 1 then [108, 117, 105] else []
def sallyportref3_Name0r (a0 : Int) : List UInt8 :=
  bif bif iLt a0 0 then true else iLe 70 a0 then []
  else
    bif a0.toNat == 69 then [104, 115, 118, 46, 100]
    else
      bif a0.toNat == 68 then [104, 108, 118, 120, 46, 119, 117]
      else
        bif a0.toNat == 67 then [104, 108, 118, 46, 100]
        else
          bif a0.toNat == 66 then [104, 108, 118, 46, 119]
          else
            bif a0.toNat == 65 then [104, 102, 101, 110, 99, 101, 46, 103, 118, 109, 97]
            else
              bif a0.toNat == 64 then [104, 102, 101, 110, 99, 101, 46, 118, 118, 109, 97]
              else
                bif a0.toNat == 63 then [115, 102, 101, 110, 99, 101, 46, 118, 109, 97]
                else
                  bif a0.toNat == 62 then [119, 102, 105]
                  else
                    bif a0.toNat == 61 then [115, 114, 101, 116]
                    else
                      bif a0.toNat == 60 then [109, 114, 101, 116]
                      else
                        bif a0.toNat == 59 then [99, 115, 114, 114, 99, 105]
                        else
                          bif a0.toNat == 58 then [99, 115, 114, 114, 115, 105]
                          else
                            bif a0.toNat == 57 then [99, 115, 114, 114, 119, 105]
                            else
                              bif a0.toNat == 56 then [99, 115, 114, 114, 99]
                              else
                                bif a0.toNat == 55 then [99, 115, 114, 114, 115]
                                else
                                  bif a0.toNat == 54 then [99, 115, 114, 114, 119]
                                  else
                                    bif a0.toNat == 53 then [101, 98, 114, 101, 97, 107]
                                    else
                                      bif a0.toNat == 52 then [101, 99, 97, 108, 108]
                                      else
                                        bif a0.toNat == 51 then [102, 101, 110, 99, 101, 46, 105]
                                        else
                                          bif a0.toNat == 50 then [102, 101, 110, 99, 101]
                                          else
                                            bif a0.toNat == 49 then [115, 114, 97, 119]
                                            else
                                              bif a0.toNat == 48 then [115, 114, 108, 119]
                                              else
                                                bif a0.toNat == 47 then [115, 108, 108, 119]
                                                else
                                                  bif a0.toNat == 46 then [115, 117, 98, 119]
                                                  else
                                                    bif a0.toNat == 45 then [97, 100, 100, 119]
                                                    else
                                                      bif a0.toNat == 44 then [97, 110, 100]
                                                      else
                                                        bif a0.toNat == 43 then [111, 114]
                                                        else
                                                          bif a0.toNat == 42 then [115, 114, 97]
                                                          else
                                                            bif a0.toNat == 41 then [115, 114, 108]
                                                            else
                                                              bif a0.toNat == 40 then [120, 111, 114]
                                                              else
                                                                bif a0.toNat == 39 then [115, 108, 116, 117]
                                                                else
                                                                  bif a0.toNat == 38 then [115, 108, 116]
                                                                  else
                                                                    bif a0.toNat == 37 then [115, 108, 108]
                                                                    else
                                                                      bif a0.toNat == 36 then [115, 117, 98]
                                                                      else
                                                                        bif a0.toNat == 35 then [97, 100, 100]
                                                                        else
                                                                          bif a0.toNat == 34 then [115, 114, 97, 105, 119]
                                                                          else
                                                                            bif a0.toNat == 33 then [115, 114, 108, 105, 119]
                                                                            else
                                                                              bif a0.toNat == 32 then [115, 108, 108, 105, 119]
                                                                              else
                                                                                bif a0.toNat == 31 then [97, 100, 100, 105, 119]
                                                                                else
                                                                                  bif a0.toNat == 30 then [115, 114, 97, 105]
                                                                                  else
                                                                                    bif a0.toNat == 29 then [115, 114, 108, 105]
                                                                                    else
                                                                                      bif a0.toNat == 28 then [115, 108, 108, 105]
                                                                                      else
                                                                                        bif a0.toNat == 27 then [97, 110, 100, 105]
                                                                                        else
                                                                                          bif a0.toNat == 26 then [111, 114, 105]
                                                                                          else
                                                                                            bif a0.toNat == 25 then [120, 111, 114, 105]
                                                                                            else
                                                                                              bif a0.toNat == 24 then [115, 108, 116, 105, 117]
                                                                                              else
                                                                                                bif a0.toNat == 23 then [115, 108, 116, 105]
                                                                                                else
                                                                                                  bif a0.toNat == 22 then [97, 100, 100, 105]
                                                                                                  else
                                                                                                    bif a0.toNat == 21 then [115, 100]
                                                                                                    else
                                                                                                      bif a0.toNat == 20 then [115, 119]
                                                                                                      else
                                                                                                        bif a0.toNat == 19 then [115, 104]
                                                                                                        else
                                                                                                          bif a0.toNat == 18 then [115, 98]
                                                                                                          else
                                                                                                            bif a0.toNat == 17 then [108, 119, 117]
                                                                                                            else
                                                                                                              bif a0.toNat == 16 then [108, 104, 117]
                                                                                                              else
                                                                                                                bif a0.toNat == 15 then [108, 98, 117]
                                                                                                                else
                                                                                                                  bif a0.toNat == 14 then [108, 100]
                                                                                                                  else
                                                                                                                    bif a0.toNat == 13 then [108, 119]
                                                                                                                    else
                                                                                                                      bif a0.toNat == 12 then [108, 104]
                                                                                                                      else
                                                                                                                        bif a0.toNat == 11 then [108, 98]
                                                                                                                        else
                                                                                                                          bif a0.toNat == 10 then [98, 103, 101, 117]
                                                                                                                          else
                                                                                                                            bif a0.toNat == 9 then [98, 108, 116, 117]
                                                                                                                            else
                                                                                                                              bif a0.toNat == 8 then [98, 103, 101]
                                                                                                                              else
                                                                                                                                bif a0.toNat == 7 then [98, 108, 116]
                                                                                                                                else
                                                                                                                                  bif a0.toNat == 6 then [98, 110, 101]
                                                                                                                                  else
                                                                                                                                    bif a0.toNat == 5 then [98, 101, 113]
                                                                                                                                    else
                                                                                                                                      bif a0.toNat == 4 then [106, 97, 108, 114]
                                                                                                                                      else
                                                                                                                                        bif a0.toNat == 3 then [106, 97, 108]
                                                                                                                                        else
                                                                                                                                          bif a0.toNat == 2 then [97, 117, 105, 112, 99]
                                                                                                                                          else
                                                                                                                                            bif a0.toNat == 1 then [108, 117, 105]
                                                                                                                                            else bif a0.toNat == 0 then [] else []
def sallyportref3_NameG (a0 : Int) : Bool :=
  bif bif iLt a0 0 then true else iLe 70 a0 then true else iIn a0 70 && true
theorem sallyportref3_Name0_eq (a0 : Int)  : sallyportref3_Name0r a0  = sallyportref3_Name0 a0  := by
  unfold sallyportref3_Name0r
  first | (simp only [Go.Ev.cS1, Go.Ev.cS2, Go.Ev.cS3, Go.Ev.cS4, Go.Ev.cS6, Go.Ev.cS7]; done) | (simp only [Go.Ev.cS1, Go.Ev.cS2, Go.Ev.cS3, Go.Ev.cS4, Go.Ev.cS6, Go.Ev.cS7]; kernel_rfl)
def sallyportref3_NameV (a0 : Int) : AV := .st (sallyportref3_Name0 a0)
def sallyportref3_NameVr (a0 : Int) : AV := .st (sallyportref3_Name0r a0)
theorem sallyportref3_NameV_eq (a0 : Int) : sallyportref3_NameVr a0 = sallyportref3_NameV a0 := by
  unfold sallyportref3_NameVr sallyportref3_NameV
  simp only [sallyportref3_Name0_eq]
theorem sallyportref3_NameE (g : Nat → AV) : pcOf Tryd.prog okT (lookR T28) (inlO Tryd.prog okT (lookR T28) RO FS 400 ST (hOnce Tryd.prog 67 25 21) 8) RO NOV 100 false Tryd.f32 (norms [(.int .i64)] 0 g) = some (sallyportref3_NameG ((g 0).num), sallyportref3_NameV ((g 0).num)) :=
  (by kernel_rfl : pcOf Tryd.prog okT (lookR T28) (inlO Tryd.prog okT (lookR T28) RO FS 400 ST (hOnce Tryd.prog 67 25 21) 8) RO NOV 100 false Tryd.f32 (norms [(.int .i64)] 0 g) = some (sallyportref3_NameG ((g 0).num), sallyportref3_NameVr ((g 0).num))).trans (by rw [sallyportref3_NameV_eq])
theorem sallyportref3_NameP : Plain Tryd.prog 32 Tryd.f32 := ⟨Tryd.func32, of_decide_eq_true (by kernel_rfl)⟩
theorem sallyportref3_NameT (a0 : Int) : sallyportref3_NameG a0 = true := by first | (simp [sallyportref3_NameG]; done) | (simp [sallyportref3_NameG, Go.Ev.iEq, Go.Ev.iNe, Go.Ev.iLt, Go.Ev.iLe, Go.Ev.iIn]; omega)
theorem sallyportref3_NameO : RowOk Tryd.prog 32 (rowF [(.int .i64)] none fun g => sallyportref3_NameV ((g 0).num)) := rowT_ok fun g => pcOf_ok mix fair T28_ok (inlO_ok mix fair T28_ok FS_ok (fun _ h => hOnce_ok once_ok h) 8) sallyportref3_NameP (fun c _ => OvOk_none c) (sallyportref3_NameE g) (sallyportref3_NameT ((g 0).num))
def T32 : List Row := (32, (rowF [(.int .i64)] none fun g => sallyportref3_NameV ((g 0).num))) :: T28
theorem T32_ok : PSound Tryd.prog (lookR T32) := lookR_cons sallyportref3_NameO T28_ok

/- sallyport/encode.forms -/
def encode_forms0  : Nat → Int :=
  fun i0 => bif i0 == 69 then 115
  else
    bif i0 == 68 then 3145843
    else
      bif i0 == 67 then 115
      else
        bif i0 == 66 then 115
        else
          bif i0 == 65 then 115
          else
            bif i0 == 64 then 115
            else
              bif i0 == 63 then 115
              else
                bif i0 == 62 then 273678451
                else
                  bif i0 == 61 then 270532723
                  else
                    bif i0 == 60 then 807403635
                    else
                      bif i0 == 59 then 115
                      else
                        bif i0 == 58 then 115
                        else
                          bif i0 == 57 then 115
                          else
                            bif i0 == 56 then 115
                            else
                              bif i0 == 55 then 115
                              else
                                bif i0 == 54 then 115
                                else
                                  bif i0 == 53 then 1048691
                                  else
                                    bif i0 == 52 then 115
                                    else
                                      bif i0 == 51 then 15
                                      else
                                        bif i0 == 50 then 267386895
                                        else
                                          bif i0 == 49 then 59
                                          else
                                            bif i0 == 48 then 59
                                            else
                                              bif i0 == 47 then 59
                                              else
                                                bif i0 == 46 then 59
                                                else
                                                  bif i0 == 45 then 59
                                                  else
                                                    bif i0 == 44 then 51
                                                    else
                                                      bif i0 == 43 then 51
                                                      else
                                                        bif i0 == 42 then 51
                                                        else
                                                          bif i0 == 41 then 51
                                                          else
                                                            bif i0 == 40 then 51
                                                            else
                                                              bif i0 == 39 then 51
                                                              else
                                                                bif i0 == 38 then 51
                                                                else
                                                                  bif i0 == 37 then 51
                                                                  else
                                                                    bif i0 == 36 then 51
                                                                    else
                                                                      bif i0 == 35 then 51
                                                                      else
                                                                        bif i0 == 34 then 27
                                                                        else
                                                                          bif i0 == 33 then 27
                                                                          else
                                                                            bif i0 == 32 then 27
                                                                            else
                                                                              bif i0 == 31 then 27
                                                                              else
                                                                                bif i0 == 30 then 19
                                                                                else
                                                                                  bif i0 == 29 then 19
                                                                                  else
                                                                                    bif i0 == 28 then 19
                                                                                    else
                                                                                      bif i0 == 27 then 19
                                                                                      else
                                                                                        bif i0 == 26 then 19
                                                                                        else
                                                                                          bif i0 == 25 then 19
                                                                                          else
                                                                                            bif i0 == 24 then 19
                                                                                            else
                                                                                              bif i0 == 23 then 19
                                                                                              else
                                                                                                bif i0 == 22 then 19
                                                                                                else
                                                                                                  bif i0 == 21 then 35
                                                                                                  else
                                                                                                    bif i0 == 20 then 35
                                                                                                    else
                                                                                                      bif i0 == 19 then 35
                                                                                                      else
                                                                                                        bif i0 == 18 then 35
                                                                                                        else
                                                                                                          bif i0 == 17 then 3
                                                                                                          else
                                                                                                            bif i0 == 16 then 3
                                                                                                            else
                                                                                                              bif i0 == 15 then 3
                                                                                                              else
                                                                                                                bif i0 == 14 then 3
                                                                                                                else
                                                                                                                  bif i0 == 13 then 3
                                                                                                                  else
                                                                                                                    bif i0 == 12 then 3
                                                                                                                    else
                                                                                                                      bif i0 == 11 then 3
                                                                                                                      else
                                                                                                                        bif i0 == 10 then 99
                                                                                                                        else
                                                                                                                          bif i0 == 9 then 99
                                                                                                                          else
                                                                                                                            bif i0 == 8 then 99
                                                                                                                            else
                                                                                                                              bif i0 == 7 then 99
                                                                                                                              else
                                                                                                                                bif i0 == 6 then 99
                                                                                                                                else
                                                                                                                                  bif i0 == 5 then 99
                                                                                                                                  else
                                                                                                                                    bif i0 == 4 then 103
                                                                                                                                    else
                                                                                                                                      bif i0 == 3 then 111
                                                                                                                                      else bif i0 == 2 then 23 else bif i0 == 1 then 55 else 0
def encode_forms1  : Nat → Int :=
  fun i0 => bif i0 == 69 then 4
  else
    bif i0 == 68 then 4
    else
      bif i0 == 67 then 4
      else
        bif i0 == 66 then 4
        else
          bif i0 == 65 then 0
          else
            bif i0 == 64 then 0
            else
              bif i0 == 63 then 0
              else
                bif i0 == 62 then 0
                else
                  bif i0 == 61 then 0
                  else
                    bif i0 == 60 then 0
                    else
                      bif i0 == 59 then 7
                      else
                        bif i0 == 58 then 6
                        else
                          bif i0 == 57 then 5
                          else
                            bif i0 == 56 then 3
                            else
                              bif i0 == 55 then 2
                              else
                                bif i0 == 54 then 1
                                else
                                  bif i0 == 53 then 0
                                  else
                                    bif i0 == 52 then 0
                                    else
                                      bif i0 == 51 then 1
                                      else
                                        bif i0 == 50 then 0
                                        else
                                          bif i0 == 49 then 5
                                          else
                                            bif i0 == 48 then 5
                                            else
                                              bif i0 == 47 then 1
                                              else
                                                bif i0 == 46 then 0
                                                else
                                                  bif i0 == 45 then 0
                                                  else
                                                    bif i0 == 44 then 7
                                                    else
                                                      bif i0 == 43 then 6
                                                      else
                                                        bif i0 == 42 then 5
                                                        else
                                                          bif i0 == 41 then 5
                                                          else
                                                            bif i0 == 40 then 4
                                                            else
                                                              bif i0 == 39 then 3
                                                              else
                                                                bif i0 == 38 then 2
                                                                else
                                                                  bif i0 == 37 then 1
                                                                  else
                                                                    bif i0 == 36 then 0
                                                                    else
                                                                      bif i0 == 35 then 0
                                                                      else
                                                                        bif i0 == 34 then 5
                                                                        else
                                                                          bif i0 == 33 then 5
                                                                          else
                                                                            bif i0 == 32 then 1
                                                                            else
                                                                              bif i0 == 31 then 0
                                                                              else
                                                                                bif i0 == 30 then 5
                                                                                else
                                                                                  bif i0 == 29 then 5
                                                                                  else
                                                                                    bif i0 == 28 then 1
                                                                                    else
                                                                                      bif i0 == 27 then 7
                                                                                      else
                                                                                        bif i0 == 26 then 6
                                                                                        else
                                                                                          bif i0 == 25 then 4
                                                                                          else
                                                                                            bif i0 == 24 then 3
                                                                                            else
                                                                                              bif i0 == 23 then 2
                                                                                              else
                                                                                                bif i0 == 22 then 0
                                                                                                else
                                                                                                  bif i0 == 21 then 3
                                                                                                  else
                                                                                                    bif i0 == 20 then 2
                                                                                                    else
                                                                                                      bif i0 == 19 then 1
                                                                                                      else
                                                                                                        bif i0 == 18 then 0
                                                                                                        else
                                                                                                          bif i0 == 17 then 6
                                                                                                          else
                                                                                                            bif i0 == 16 then 5
                                                                                                            else
                                                                                                              bif i0 == 15 then 4
                                                                                                              else
                                                                                                                bif i0 == 14 then 3
                                                                                                                else
                                                                                                                  bif i0 == 13 then 2
                                                                                                                  else
                                                                                                                    bif i0 == 12 then 1
                                                                                                                    else
                                                                                                                      bif i0 == 11 then 0
                                                                                                                      else
                                                                                                                        bif i0 == 10 then 7
                                                                                                                        else
                                                                                                                          bif i0 == 9 then 6
                                                                                                                          else bif i0 == 8 then 5 else bif i0 == 7 then 4 else bif i0 == 6 then 1 else 0
def encode_forms1r  : Nat → Int :=
  fun i0 => bif i0 == 69 then 4
  else
    bif i0 == 68 then 4
    else
      bif i0 == 67 then 4
      else
        bif i0 == 66 then 4
        else
          bif i0 == 65 then 0
          else
            bif i0 == 64 then 0
            else
              bif i0 == 63 then 0
              else
                bif i0 == 62 then 0
                else
                  bif i0 == 61 then 0
                  else
                    bif i0 == 60 then 0
                    else
                      bif i0 == 59 then 7
                      else
                        bif i0 == 58 then 6
                        else
                          bif i0 == 57 then 5
                          else
                            bif i0 == 56 then 3
                            else
                              bif i0 == 55 then 2
                              else
                                bif i0 == 54 then 1
                                else
                                  bif i0 == 53 then 0
                                  else
                                    bif i0 == 52 then 0
                                    else
                                      bif i0 == 51 then 1
                                      else
                                        bif i0 == 50 then 0
                                        else
                                          bif i0 == 49 then 5
                                          else
                                            bif i0 == 48 then 5
                                            else
                                              bif i0 == 47 then 1
                                              else
                                                bif i0 == 46 then 0
                                                else
                                                  bif i0 == 45 then 0
                                                  else
                                                    bif i0 == 44 then 7
                                                    else
                                                      bif i0 == 43 then 6
                                                      else
                                                        bif i0 == 42 then 5
                                                        else
                                                          bif i0 == 41 then 5
                                                          else
                                                            bif i0 == 40 then 4
                                                            else
                                                              bif i0 == 39 then 3
                                                              else
                                                                bif i0 == 38 then 2
                                                                else
                                                                  bif i0 == 37 then 1
                                                                  else
                                                                    bif i0 == 36 then 0
                                                                    else
                                                                      bif i0 == 35 then 0
                                                                      else
                                                                        bif i0 == 34 then 5
                                                                        else
                                                                          bif i0 == 33 then 5
                                                                          else
                                                                            bif i0 == 32 then 1
                                                                            else
                                                                              bif i0 == 31 then 0
                                                                              else
                                                                                bif i0 == 30 then 5
                                                                                else
                                                                                  bif i0 == 29 then 5
                                                                                  else
                                                                                    bif i0 == 28 then 1
                                                                                    else
                                                                                      bif i0 == 27 then 7
                                                                                      else
                                                                                        bif i0 == 26 then 6
                                                                                        else
                                                                                          bif i0 == 25 then 4
                                                                                          else
                                                                                            bif i0 == 24 then 3
                                                                                            else
                                                                                              bif i0 == 23 then 2
                                                                                              else
                                                                                                bif i0 == 22 then 0
                                                                                                else
                                                                                                  bif i0 == 21 then 3
                                                                                                  else
                                                                                                    bif i0 == 20 then 2
                                                                                                    else
                                                                                                      bif i0 == 19 then 1
                                                                                                      else
                                                                                                        bif i0 == 18 then 0
                                                                                                        else
                                                                                                          bif i0 == 17 then 6
                                                                                                          else
                                                                                                            bif i0 == 16 then 5
                                                                                                            else
                                                                                                              bif i0 == 15 then 4
                                                                                                              else
                                                                                                                bif i0 == 14 then 3
                                                                                                                else
                                                                                                                  bif i0 == 13 then 2
                                                                                                                  else
                                                                                                                    bif i0 == 12 then 1
                                                                                                                    else
                                                                                                                      bif i0 == 11 then 0
                                                                                                                      else
                                                                                                                        bif i0 == 10 then 7
                                                                                                                        else
                                                                                                                          bif i0 == 9 then 6
                                                                                                                          else
                                                                                                                            bif i0 == 8 then 5
                                                                                                                            else
                                                                                                                              bif i0 == 7 then 4
                                                                                                                              else
                                                                                                                                bif i0 == 6 then 1
                                                                                                                                else
                                                                                                                                  bif i0 == 5 then 0
                                                                                                                                  else
                                                                                                                                    bif i0 == 4 then 0
                                                                                                                                    else
                                                                                                                                      bif i0 == 3 then 0
                                                                                                                                      else bif i0 == 2 then 0 else bif i0 == 1 then 0 else 0
def encode_forms2  : Nat → Int :=
  fun i0 => bif i0 == 69 then 55
  else
    bif i0 == 68 then 52
    else
      bif i0 == 67 then 54
      else
        bif i0 == 66 then 52
        else
          bif i0 == 65 then 49
          else
            bif i0 == 64 then 17
            else
              bif i0 == 63 then 9
              else
                bif i0 == 62 then 0
                else
                  bif i0 == 61 then 0
                  else
                    bif i0 == 60 then 0
                    else
                      bif i0 == 59 then 0
                      else
                        bif i0 == 58 then 0
                        else
                          bif i0 == 57 then 0
                          else
                            bif i0 == 56 then 0
                            else
                              bif i0 == 55 then 0
                              else
                                bif i0 == 54 then 0
                                else
                                  bif i0 == 53 then 0
                                  else
                                    bif i0 == 52 then 0
                                    else
                                      bif i0 == 51 then 0
                                      else
                                        bif i0 == 50 then 0
                                        else
                                          bif i0 == 49 then 32
                                          else
                                            bif i0 == 48 then 0
                                            else
                                              bif i0 == 47 then 0
                                              else
                                                bif i0 == 46 then 32
                                                else
                                                  bif i0 == 45 then 0
                                                  else
                                                    bif i0 == 44 then 0
                                                    else
                                                      bif i0 == 43 then 0
                                                      else
                                                        bif i0 == 42 then 32
                                                        else
                                                          bif i0 == 41 then 0
                                                          else
                                                            bif i0 == 40 then 0
                                                            else
                                                              bif i0 == 39 then 0
                                                              else
                                                                bif i0 == 38 then 0
                                                                else
                                                                  bif i0 == 37 then 0
                                                                  else
                                                                    bif i0 == 36 then 32
                                                                    else
                                                                      bif i0 == 35 then 0
                                                                      else
                                                                        bif i0 == 34 then 32 else bif i0 == 33 then 0 else bif i0 == 32 then 0 else bif i0 == 31 then 0 else bif i0 == 30 then 32 else 0
def encode_forms2r  : Nat → Int :=
  fun i0 => bif i0 == 69 then 55
  else
    bif i0 == 68 then 52
    else
      bif i0 == 67 then 54
      else
        bif i0 == 66 then 52
        else
          bif i0 == 65 then 49
          else
            bif i0 == 64 then 17
            else
              bif i0 == 63 then 9
              else
                bif i0 == 62 then 0
                else
                  bif i0 == 61 then 0
                  else
                    bif i0 == 60 then 0
                    else
                      bif i0 == 59 then 0
                      else
                        bif i0 == 58 then 0
                        else
                          bif i0 == 57 then 0
                          else
                            bif i0 == 56 then 0
                            else
                              bif i0 == 55 then 0
                              else
                                bif i0 == 54 then 0
                                else
                                  bif i0 == 53 then 0
                                  else
                                    bif i0 == 52 then 0
                                    else
                                      bif i0 == 51 then 0
                                      else
                                        bif i0 == 50 then 0
                                        else
                                          bif i0 == 49 then 32
                                          else
                                            bif i0 == 48 then 0
                                            else
                                              bif i0 == 47 then 0
                                              else
                                                bif i0 == 46 then 32
                                                else
                                                  bif i0 == 45 then 0
                                                  else
                                                    bif i0 == 44 then 0
                                                    else
                                                      bif i0 == 43 then 0
                                                      else
                                                        bif i0 == 42 then 32
                                                        else
                                                          bif i0 == 41 then 0
                                                          else
                                                            bif i0 == 40 then 0
                                                            else
                                                              bif i0 == 39 then 0
                                                              else
                                                                bif i0 == 38 then 0
                                                                else
                                                                  bif i0 == 37 then 0
                                                                  else
                                                                    bif i0 == 36 then 32
                                                                    else
                                                                      bif i0 == 35 then 0
                                                                      else
                                                                        bif i0 == 34 then 32
                                                                        else
                                                                          bif i0 == 33 then 0
                                                                          else
                                                                            bif i0 == 32 then 0
                                                                            else
                                                                              bif i0 == 31 then 0
                                                                              else
                                                                                bif i0 == 30 then 32
                                                                                else
                                                                                  bif i0 == 29 then 0
                                                                                  else
                                                                                    bif i0 == 28 then 0
                                                                                    else
                                                                                      bif i0 == 27 then 0
                                                                                      else
                                                                                        bif i0 == 26 then 0
                                                                                        else
                                                                                          bif i0 == 25 then 0
                                                                                          else
                                                                                            bif i0 == 24 then 0
                                                                                            else
                                                                                              bif i0 == 23 then 0
                                                                                              else
                                                                                                bif i0 == 22 then 0
                                                                                                else
                                                                                                  bif i0 == 21 then 0
                                                                                                  else
                                                                                                    bif i0 == 20 then 0
                                                                                                    else
                                                                                                      bif i0 == 19 then 0
                                                                                                      else
                                                                                                        bif i0 == 18 then 0
                                                                                                        else
                                                                                                          bif i0 == 17 then 0
                                                                                                          else
                                                                                                            bif i0 == 16 then 0
                                                                                                            else
                                                                                                              bif i0 == 15 then 0
                                                                                                              else
                                                                                                                bif i0 == 14 then 0
                                                                                                                else
                                                                                                                  bif i0 == 13 then 0
                                                                                                                  else
                                                                                                                    bif i0 == 12 then 0
                                                                                                                    else
                                                                                                                      bif i0 == 11 then 0
                                                                                                                      else
                                                                                                                        bif i0 == 10 then 0
                                                                                                                        else
                                                                                                                          bif i0 == 9 then 0
                                                                                                                          else
                                                                                                                            bif i0 == 8 then 0
                                                                                                                            else
                                                                                                                              bif i0 == 7 then 0
                                                                                                                              else
                                                                                                                                bif i0 == 6 then 0
                                                                                                                                else
                                                                                                                                  bif i0 == 5 then 0
                                                                                                                                  else
                                                                                                                                    bif i0 == 4 then 0
                                                                                                                                    else
                                                                                                                                      bif i0 == 3 then 0
                                                                                                                                      else bif i0 == 2 then 0 else bif i0 == 1 then 0 else 0
def encode_formsG  : Bool :=
  true
theorem encode_forms1_eq  (i0 : Nat) : encode_forms1r  i0 = encode_forms1  i0 := by
  unfold encode_forms1r
  first | (simp only [Go.Ev.cS1, Go.Ev.cS2, Go.Ev.cS3, Go.Ev.cS4, Go.Ev.cS6, Go.Ev.cS7]; done) | (simp only [Go.Ev.cS1, Go.Ev.cS2, Go.Ev.cS3, Go.Ev.cS4, Go.Ev.cS6, Go.Ev.cS7]; kernel_rfl)
theorem encode_forms2_eq  (i0 : Nat) : encode_forms2r  i0 = encode_forms2  i0 := by
  unfold encode_forms2r
  first | (simp only [Go.Ev.cS1, Go.Ev.cS2, Go.Ev.cS3, Go.Ev.cS4, Go.Ev.cS6, Go.Ev.cS7]; done) | (simp only [Go.Ev.cS1, Go.Ev.cS2, Go.Ev.cS3, Go.Ev.cS4, Go.Ev.cS6, Go.Ev.cS7]; kernel_rfl)
def encode_formsV  : AV := .arr 70 (.agg [(.int .u32), (.int .u32), (.int .u32)]) fun i0 => .agg [.it .u32 (encode_forms0 i0), .it .u32 (encode_forms1 i0), .it .u32 (encode_forms2 i0)]
def encode_formsVr  : AV := .arr 70 (.agg [(.int .u32), (.int .u32), (.int .u32)]) fun i0 => .agg [.it .u32 (encode_forms0 i0), .it .u32 (encode_forms1r i0), .it .u32 (encode_forms2r i0)]
theorem encode_formsV_eq  : encode_formsVr  = encode_formsV  := by
  unfold encode_formsVr encode_formsV
  simp only [encode_forms1_eq, encode_forms2_eq]
theorem encode_formsE (g : Nat → AV) : pcOf Tryd.prog okT (lookR T32) (inlO Tryd.prog okT (lookR T32) RO FS 400 ST (hOnce Tryd.prog 67 25 21) 8) RO NOV 100 false Tryd.f18 (norms [] 0 g) = some (encode_formsG , encode_formsV ) :=
  (by kernel_rfl : pcOf Tryd.prog okT (lookR T32) (inlO Tryd.prog okT (lookR T32) RO FS 400 ST (hOnce Tryd.prog 67 25 21) 8) RO NOV 100 false Tryd.f18 (norms [] 0 g) = some (encode_formsG , encode_formsVr )).trans (by rw [encode_formsV_eq])
theorem encode_formsP : Plain Tryd.prog 18 Tryd.f18 := ⟨Tryd.func18, of_decide_eq_true (by kernel_rfl)⟩
theorem encode_formsT  : encode_formsG  = true := rfl
theorem encode_formsO : RowOk Tryd.prog 18 (rowF [] none fun g => encode_formsV ) := rowT_ok fun g => pcOf_ok mix fair T32_ok (inlO_ok mix fair T32_ok FS_ok (fun _ h => hOnce_ok once_ok h) 8) encode_formsP (fun c _ => OvOk_none c) (encode_formsE g) (encode_formsT )
def T18 : List Row := (18, (rowF [] none fun g => encode_formsV )) :: T32
theorem T18_ok : PSound Tryd.prog (lookR T18) := lookR_cons encode_formsO T32_ok

/- sallyport/decode.Format -/
def decode_Format0 (a0 : Int) : Int :=
  bif iEq (insn_Class0 a0) 0 then 45
  else
    bif iEq (insn_Class0 a0) 1 then bif iEq a0 3 then 74 else bif iEq a0 4 then 73 else 85
    else
      bif iEq (insn_Class0 a0) 2 then 66
      else bif iEq (insn_Class0 a0) 4 then 83 else bif iEq (insn_Class0 a0) 6 then 82 else bif iEq (insn_Class0 a0) 11 then 82 else bif iEq (insn_Class0 a0) 12 then 82 else 73
def decode_Format0r (a0 : Int) : Int :=
  bif iEq (insn_Class0 a0) 0 then 45
  else
    bif iEq (insn_Class0 a0) 1 then bif iEq a0 3 then 74 else bif iEq a0 4 then 73 else 85
    else
      bif iEq (insn_Class0 a0) 2 then 66
      else
        bif iEq (insn_Class0 a0) 4 then 83
        else
          bif iEq (insn_Class0 a0) 6 then bif iEq (insn_Class0 a0) 6 then 82 else 73
          else bif iEq (insn_Class0 a0) 11 then bif iEq (insn_Class0 a0) 11 then 82 else 73 else bif iEq (insn_Class0 a0) 12 then 82 else 73
def decode_FormatG (a0 : Int) : Bool :=
  bif iEq (insn_Class0 a0) 0 then true
  else
    bif iEq (insn_Class0 a0) 1 then bif iEq a0 3 then true else bif iEq a0 4 then true else true
    else
      bif iEq (insn_Class0 a0) 2 then true
      else
        bif iEq (insn_Class0 a0) 4 then true
        else
          bif iEq (insn_Class0 a0) 6 then bif iEq (insn_Class0 a0) 6 then true else true
          else bif iEq (insn_Class0 a0) 11 then bif iEq (insn_Class0 a0) 11 then true else true else bif iEq (insn_Class0 a0) 12 then true else true
theorem decode_Format0_eq (a0 : Int)  : decode_Format0r a0  = decode_Format0 a0  := by
  unfold decode_Format0r
  first | (simp only [Go.Ev.cS1, Go.Ev.cS2, Go.Ev.cS3, Go.Ev.cS4, Go.Ev.cS6, Go.Ev.cS7]; done) | (simp only [Go.Ev.cS1, Go.Ev.cS2, Go.Ev.cS3, Go.Ev.cS4, Go.Ev.cS6, Go.Ev.cS7]; kernel_rfl)
def decode_FormatV (a0 : Int) : AV := .it .u8 (decode_Format0 a0)
def decode_FormatVr (a0 : Int) : AV := .it .u8 (decode_Format0r a0)
theorem decode_FormatV_eq (a0 : Int) : decode_FormatVr a0 = decode_FormatV a0 := by
  unfold decode_FormatVr decode_FormatV
  simp only [decode_Format0_eq]
theorem decode_FormatE (g : Nat → AV) : pcOf Tryd.prog okT (lookR T18) (inlO Tryd.prog okT (lookR T18) RO FS 400 ST (hOnce Tryd.prog 67 25 21) 8) RO NOV 100 false Tryd.f42 (norms [(.int .i64)] 0 g) = some (decode_FormatG ((g 0).num), decode_FormatV ((g 0).num)) :=
  (by kernel_rfl : pcOf Tryd.prog okT (lookR T18) (inlO Tryd.prog okT (lookR T18) RO FS 400 ST (hOnce Tryd.prog 67 25 21) 8) RO NOV 100 false Tryd.f42 (norms [(.int .i64)] 0 g) = some (decode_FormatG ((g 0).num), decode_FormatVr ((g 0).num))).trans (by rw [decode_FormatV_eq])
theorem decode_FormatP : Plain Tryd.prog 42 Tryd.f42 := ⟨Tryd.func42, of_decide_eq_true (by kernel_rfl)⟩
theorem decode_FormatT (a0 : Int) : decode_FormatG a0 = true := by
  unfold decode_FormatG
  simp only [Go.Ev.cS1, Go.Ev.cS2, Go.Ev.cS3, Go.Ev.cS4, Go.Ev.cS6, Go.Ev.cS7]
theorem decode_FormatO : RowOk Tryd.prog 42 (rowF [(.int .i64)] none fun g => decode_FormatV ((g 0).num)) := rowT_ok fun g => pcOf_ok mix fair T18_ok (inlO_ok mix fair T18_ok FS_ok (fun _ h => hOnce_ok once_ok h) 8) decode_FormatP (fun c _ => OvOk_none c) (decode_FormatE g) (decode_FormatT ((g 0).num))
def T42 : List Row := (42, (rowF [(.int .i64)] none fun g => decode_FormatV ((g 0).num))) :: T18
theorem T42_ok : PSound Tryd.prog (lookR T42) := lookR_cons decode_FormatO T18_ok

/- sallyport/encode.number -/
def encode_number0 (a0_Op : Int) (a0_Rd : Int) (a0_Rs1 : Int) (a0_Rs2 : Int) (a0_Imm : Int) (a0_CSR : Int) : Int :=
  bif iEq (decode_Format0 a0_Op) 85 then iShl IntKind.u32 (iConv IntKind.u32 (word_Bits0 (iConv IntKind.u64 a0_Imm) 12 20)) 12
  else
    bif iEq (decode_Format0 a0_Op) 74 then
      iOr IntKind.u32
        (iOr IntKind.u32
          (iOr IntKind.u32 (iShl IntKind.u32 (iConv IntKind.u32 (word_Bits0 (iConv IntKind.u64 a0_Imm) 20 1)) 31) (iShl IntKind.u32 (iConv IntKind.u32 (word_Bits0 (iConv IntKind.u64 a0_Imm) 12 8)) 12))
          (iShl IntKind.u32 (iConv IntKind.u32 (word_Bits0 (iConv IntKind.u64 a0_Imm) 11 1)) 20))
        (iShl IntKind.u32 (iConv IntKind.u32 (word_Bits0 (iConv IntKind.u64 a0_Imm) 1 10)) 21)
    else
      bif iEq (decode_Format0 a0_Op) 66 then
        iOr IntKind.u32
          (iOr IntKind.u32
            (iOr IntKind.u32 (iShl IntKind.u32 (iConv IntKind.u32 (word_Bits0 (iConv IntKind.u64 a0_Imm) 12 1)) 31) (iShl IntKind.u32 (iConv IntKind.u32 (word_Bits0 (iConv IntKind.u64 a0_Imm) 11 1)) 7))
            (iShl IntKind.u32 (iConv IntKind.u32 (word_Bits0 (iConv IntKind.u64 a0_Imm) 5 6)) 25))
          (iShl IntKind.u32 (iConv IntKind.u32 (word_Bits0 (iConv IntKind.u64 a0_Imm) 1 4)) 8)
      else
        bif iEq (decode_Format0 a0_Op) 83 then
          iOr IntKind.u32 (iShl IntKind.u32 (iConv IntKind.u32 (word_Bits0 (iConv IntKind.u64 a0_Imm) 5 7)) 25) (iShl IntKind.u32 (iConv IntKind.u32 (word_Bits0 (iConv IntKind.u64 a0_Imm) 0 5)) 7)
        else
          bif iEq (decode_Format0 a0_Op) 73 then
            bif iEq (insn_Class0 a0_Op) 9 then iShl IntKind.u32 (iConv IntKind.u32 (word_Bits0 (iConv IntKind.u64 a0_Imm) 0 5)) 15
            else iShl IntKind.u32 (iConv IntKind.u32 (word_Bits0 (iConv IntKind.u64 a0_Imm) 0 12)) 20
          else 0
def encode_numberG (a0_Op : Int) (a0_Rd : Int) (a0_Rs1 : Int) (a0_Rs2 : Int) (a0_Imm : Int) (a0_CSR : Int) : Bool :=
  bif iEq (decode_Format0 a0_Op) 85 then true
  else
    bif iEq (decode_Format0 a0_Op) 74 then true
    else
      bif iEq (decode_Format0 a0_Op) 66 then true else bif iEq (decode_Format0 a0_Op) 83 then true else bif iEq (decode_Format0 a0_Op) 73 then bif iEq (insn_Class0 a0_Op) 9 then true else true else true
def encode_numberV (a0_Op : Int) (a0_Rd : Int) (a0_Rs1 : Int) (a0_Rs2 : Int) (a0_Imm : Int) (a0_CSR : Int) : AV := .it .u32 (encode_number0 a0_Op a0_Rd a0_Rs1 a0_Rs2 a0_Imm a0_CSR)
theorem encode_numberE (g : Nat → AV) : pcOf Tryd.prog okT (lookR T42) (inlO Tryd.prog okT (lookR T42) RO FS 400 ST (hOnce Tryd.prog 67 25 21) 8) RO NOV 100 false Tryd.f19 (norms [(.agg [(.int .i64), (.int .i64), (.int .i64), (.int .i64), (.int .i64), (.int .i64)])] 0 g) = some (encode_numberG (((g 0).fld 0).num) (((g 0).fld 1).num) (((g 0).fld 2).num) (((g 0).fld 3).num) (((g 0).fld 4).num) (((g 0).fld 5).num), encode_numberV (((g 0).fld 0).num) (((g 0).fld 1).num) (((g 0).fld 2).num) (((g 0).fld 3).num) (((g 0).fld 4).num) (((g 0).fld 5).num)) := by kernel_rfl
theorem encode_numberP : Plain Tryd.prog 19 Tryd.f19 := ⟨Tryd.func19, of_decide_eq_true (by kernel_rfl)⟩
theorem encode_numberT (a0_Op : Int) (a0_Rd : Int) (a0_Rs1 : Int) (a0_Rs2 : Int) (a0_Imm : Int) (a0_CSR : Int) : encode_numberG a0_Op a0_Rd a0_Rs1 a0_Rs2 a0_Imm a0_CSR = true := by
  unfold encode_numberG
  simp only [Go.Ev.cS1, Go.Ev.cS2, Go.Ev.cS3, Go.Ev.cS4, Go.Ev.cS6, Go.Ev.cS7]
theorem encode_numberO : RowOk Tryd.prog 19 (rowF [(.agg [(.int .i64), (.int .i64), (.int .i64), (.int .i64), (.int .i64), (.int .i64)])] none fun g => encode_numberV (((g 0).fld 0).num) (((g 0).fld 1).num) (((g 0).fld 2).num) (((g 0).fld 3).num) (((g 0).fld 4).num) (((g 0).fld 5).num)) := rowT_ok fun g => pcOf_ok mix fair T42_ok (inlO_ok mix fair T42_ok FS_ok (fun _ h => hOnce_ok once_ok h) 8) encode_numberP (fun c _ => OvOk_none c) (encode_numberE g) (encode_numberT (((g 0).fld 0).num) (((g 0).fld 1).num) (((g 0).fld 2).num) (((g 0).fld 3).num) (((g 0).fld 4).num) (((g 0).fld 5).num))
def T19 : List Row := (19, (rowF [(.agg [(.int .i64), (.int .i64), (.int .i64), (.int .i64), (.int .i64), (.int .i64)])] none fun g => encode_numberV (((g 0).fld 0).num) (((g 0).fld 1).num) (((g 0).fld 2).num) (((g 0).fld 3).num) (((g 0).fld 4).num) (((g 0).fld 5).num))) :: T42
theorem T19_ok : PSound Tryd.prog (lookR T19) := lookR_cons encode_numberO T42_ok

/- sallyport/encode.Encode -/
def encode_Encode0 (a0_Op : Int) (a0_Rd : Int) (a0_Rs1 : Int) (a0_Rs2 : Int) (a0_Imm : Int) (a0_CSR : Int) : Int :=
  bif !insn_Is0 a0_Op a0_Rd a0_Rs1 a0_Rs2 a0_Imm a0_CSR then 0
  else
    iOr IntKind.u32
      (iOr IntKind.u32
        (iOr IntKind.u32
          (iOr IntKind.u32
            (iOr IntKind.u32 (iOr IntKind.u32 (iOr IntKind.u32 (encode_forms0 a0_Op.toNat) (iShl IntKind.u32 (encode_forms1 a0_Op.toNat) 12)) (iShl IntKind.u32 (encode_forms2 a0_Op.toNat) 25))
              (iShl IntKind.u32 (iConv IntKind.u32 a0_Rd) 7))
            (iShl IntKind.u32 (iConv IntKind.u32 a0_Rs1) 15))
          (iShl IntKind.u32 (iConv IntKind.u32 a0_Rs2) 20))
        (iShl IntKind.u32 (iConv IntKind.u32 a0_CSR) 20))
      (encode_number0 a0_Op a0_Rd a0_Rs1 a0_Rs2 a0_Imm a0_CSR)
def encode_Encode1 (a0_Op : Int) (a0_Rd : Int) (a0_Rs1 : Int) (a0_Rs2 : Int) (a0_Imm : Int) (a0_CSR : Int) : Int :=
  bif !insn_Is0 a0_Op a0_Rd a0_Rs1 a0_Rs2 a0_Imm a0_CSR then 40 else 0
def encode_EncodeG (a0_Op : Int) (a0_Rd : Int) (a0_Rs1 : Int) (a0_Rs2 : Int) (a0_Imm : Int) (a0_CSR : Int) : Bool :=
  bif !insn_Is0 a0_Op a0_Rd a0_Rs1 a0_Rs2 a0_Imm a0_CSR then true else iIn a0_Op 70 && true
def encode_EncodeV (a0_Op : Int) (a0_Rd : Int) (a0_Rs1 : Int) (a0_Rs2 : Int) (a0_Imm : Int) (a0_CSR : Int) : AV := .tup [.it .u32 (encode_Encode0 a0_Op a0_Rd a0_Rs1 a0_Rs2 a0_Imm a0_CSR), .it .i64 (encode_Encode1 a0_Op a0_Rd a0_Rs1 a0_Rs2 a0_Imm a0_CSR)]
theorem encode_EncodeE (g : Nat → AV) : pcOf Tryd.prog okT (lookR T19) (inlO Tryd.prog okT (lookR T19) RO FS 400 ST (hOnce Tryd.prog 67 25 21) 8) RO NOV 100 false Tryd.f10 (norms [(.agg [(.int .i64), (.int .i64), (.int .i64), (.int .i64), (.int .i64), (.int .i64)])] 0 g) = some (encode_EncodeG (((g 0).fld 0).num) (((g 0).fld 1).num) (((g 0).fld 2).num) (((g 0).fld 3).num) (((g 0).fld 4).num) (((g 0).fld 5).num), encode_EncodeV (((g 0).fld 0).num) (((g 0).fld 1).num) (((g 0).fld 2).num) (((g 0).fld 3).num) (((g 0).fld 4).num) (((g 0).fld 5).num)) := by kernel_rfl
theorem encode_EncodeP : Plain Tryd.prog 10 Tryd.f10 := ⟨Tryd.func10, of_decide_eq_true (by kernel_rfl)⟩
theorem encode_EncodeT (a0_Op : Int) (a0_Rd : Int) (a0_Rs1 : Int) (a0_Rs2 : Int) (a0_Imm : Int) (a0_CSR : Int) : encode_EncodeG a0_Op a0_Rd a0_Rs1 a0_Rs2 a0_Imm a0_CSR = true := by
  unfold encode_EncodeG
  cases h : insn_Is0 a0_Op a0_Rd a0_Rs1 a0_Rs2 a0_Imm a0_CSR with
  | false => rfl
  | true => rw [iis_op h]; rfl
theorem encode_EncodeO : RowOk Tryd.prog 10 (rowF [(.agg [(.int .i64), (.int .i64), (.int .i64), (.int .i64), (.int .i64), (.int .i64)])] none fun g => encode_EncodeV (((g 0).fld 0).num) (((g 0).fld 1).num) (((g 0).fld 2).num) (((g 0).fld 3).num) (((g 0).fld 4).num) (((g 0).fld 5).num)) := rowT_ok fun g => pcOf_ok mix fair T19_ok (inlO_ok mix fair T19_ok FS_ok (fun _ h => hOnce_ok once_ok h) 8) encode_EncodeP (fun c _ => OvOk_none c) (encode_EncodeE g) (encode_EncodeT (((g 0).fld 0).num) (((g 0).fld 1).num) (((g 0).fld 2).num) (((g 0).fld 3).num) (((g 0).fld 4).num) (((g 0).fld 5).num))
def T10 : List Row := (10, (rowF [(.agg [(.int .i64), (.int .i64), (.int .i64), (.int .i64), (.int .i64), (.int .i64)])] none fun g => encode_EncodeV (((g 0).fld 0).num) (((g 0).fld 1).num) (((g 0).fld 2).num) (((g 0).fld 3).num) (((g 0).fld 4).num) (((g 0).fld 5).num))) :: T19
theorem T10_ok : PSound Tryd.prog (lookR T10) := lookR_cons encode_EncodeO T19_ok

end
end Go.Proofs.YtngaeiceicgalaaDoor.PV
