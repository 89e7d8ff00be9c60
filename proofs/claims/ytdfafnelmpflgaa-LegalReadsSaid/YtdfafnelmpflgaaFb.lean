/-
  What functions of the document's layer 8 yield, evaluated, and the statements of layer 8. Printed by a program of the prover's own (wip/prt).
-/
import Derived.Test.YtdfafnelmpflgaaRows
import Derived.Test.YtdfafnelmpflgaaEvW
import Derived.Test.YtdfafnelmpflgaaFa
set_option linter.unusedVariables false
set_option linter.unusedSimpArgs false
namespace Go.Proofs.Ytdfafnelmpflgaa.PV
noncomputable section
open Go Go.Ev
/- sallyport/sallyportref8.Number -/
def sallyportref8_Number0 (a0 : Int) : Int :=
  bif bif iLt a0 0 then true else iLe 29 a0 then -1
  else
    bif a0.toNat == 28 then 640
    else
      bif a0.toNat == 27 then 579
      else
        bif a0.toNat == 26 then 578
        else
          bif a0.toNat == 25 then 577
          else
            bif a0.toNat == 24 then 576
            else
              bif a0.toNat == 23 then 517
              else
                bif a0.toNat == 22 then 512
                else
                  bif a0.toNat == 21 then 1664
                  else
                    bif a0.toNat == 20 then 1603
                    else
                      bif a0.toNat == 19 then 1605
                      else
                        bif a0.toNat == 18 then 1539
                        else
                          bif a0.toNat == 17 then 1538
                          else
                            bif a0.toNat == 16 then 1536
                            else
                              bif a0.toNat == 15 then 384
                              else
                                bif a0.toNat == 14 then 323
                                else
                                  bif a0.toNat == 13 then 322
                                  else
                                    bif a0.toNat == 12 then 321
                                    else
                                      bif a0.toNat == 11 then 320
                                      else
                                        bif a0.toNat == 10 then 261
                                        else
                                          bif a0.toNat == 9 then 843
                                          else
                                            bif a0.toNat == 8 then 835
                                            else
                                              bif a0.toNat == 7 then 834
                                              else
                                                bif a0.toNat == 6 then 833
                                                else
                                                  bif a0.toNat == 5 then 832
                                                  else
                                                    bif a0.toNat == 4 then 773
                                                    else bif a0.toNat == 3 then 772 else bif a0.toNat == 2 then 771 else bif a0.toNat == 1 then 770 else bif a0.toNat == 0 then 768 else 0
def sallyportref8_NumberG (a0 : Int) : Bool :=
  bif bif iLt a0 0 then true else iLe 29 a0 then true else iIn a0 29 && true
def sallyportref8_NumberV (a0 : Int) : AV := .it .i64 (sallyportref8_Number0 a0)
theorem sallyportref8_NumberE (g : Nat → AV) : pcOf Try.prog okT (lookR T49) (NOH) RO NOV 100 false Try.f22 (norms [(.int .i64)] 0 g) = some (sallyportref8_NumberG ((g 0).num), sallyportref8_NumberV ((g 0).num)) := by kernel_rfl
theorem sallyportref8_NumberP : Plain Try.prog 22 Try.f22 := ⟨Try.func22, of_decide_eq_true (by kernel_rfl)⟩
theorem sallyportref8_NumberT (a0 : Int) : sallyportref8_NumberG a0 = true := by
  unfold sallyportref8_NumberG
  cases h1 : iLt a0 0 with
  | true => simp
  | false =>
    cases h2 : iLe 29 a0 with
    | true => simp
    | false => rw [iIn_true.2 ⟨iLt_false.1 h1, iLe_false.1 h2⟩]; simp
theorem sallyportref8_NumberO : RowOk Try.prog 22 (rowF [(.int .i64)] none fun g => sallyportref8_NumberV ((g 0).num)) := rowT_ok fun g => pcOf_ok mix fair T49_ok (HSound_none) sallyportref8_NumberP (fun c _ => OvOk_none c) (sallyportref8_NumberE g) (sallyportref8_NumberT ((g 0).num))
def T22 : List Row := (22, (rowF [(.int .i64)] none fun g => sallyportref8_NumberV ((g 0).num))) :: T49
theorem T22_ok : PSound Try.prog (lookR T22) := lookR_cons sallyportref8_NumberO T49_ok

/- sallyport/sallyportref8.Index -/
def sallyportref8_Index0 (a0 : Int) : Int :=
  bif iEq 768 a0 then 0
  else
    bif iEq 770 a0 then 1
    else
      bif iEq 771 a0 then 2
      else
        bif iEq 772 a0 then 3
        else
          bif iEq 773 a0 then 4
          else
            bif iEq 832 a0 then 5
            else
              bif iEq 833 a0 then 6
              else
                bif iEq 834 a0 then 7
                else
                  bif iEq 835 a0 then 8
                  else
                    bif iEq 843 a0 then 9
                    else
                      bif iEq 261 a0 then 10
                      else
                        bif iEq 320 a0 then 11
                        else
                          bif iEq 321 a0 then 12
                          else
                            bif iEq 322 a0 then 13
                            else
                              bif iEq 323 a0 then 14
                              else
                                bif iEq 384 a0 then 15
                                else
                                  bif iEq 1536 a0 then 16
                                  else
                                    bif iEq 1538 a0 then 17
                                    else
                                      bif iEq 1539 a0 then 18
                                      else
                                        bif iEq 1605 a0 then 19
                                        else
                                          bif iEq 1603 a0 then 20
                                          else
                                            bif iEq 1664 a0 then 21
                                            else
                                              bif iEq 512 a0 then 22
                                              else
                                                bif iEq 517 a0 then 23
                                                else bif iEq 576 a0 then 24 else bif iEq 577 a0 then 25 else bif iEq 578 a0 then 26 else bif iEq 579 a0 then 27 else bif iEq 640 a0 then 28 else -1
def sallyportref8_IndexG (a0 : Int) : Bool :=
  bif iEq 768 a0 then true
  else
    bif iEq 770 a0 then true
    else
      bif iEq 771 a0 then true
      else
        bif iEq 772 a0 then true
        else
          bif iEq 773 a0 then true
          else
            bif iEq 832 a0 then true
            else
              bif iEq 833 a0 then true
              else
                bif iEq 834 a0 then true
                else
                  bif iEq 835 a0 then true
                  else
                    bif iEq 843 a0 then true
                    else
                      bif iEq 261 a0 then true
                      else
                        bif iEq 320 a0 then true
                        else
                          bif iEq 321 a0 then true
                          else
                            bif iEq 322 a0 then true
                            else
                              bif iEq 323 a0 then true
                              else
                                bif iEq 384 a0 then true
                                else
                                  bif iEq 1536 a0 then true
                                  else
                                    bif iEq 1538 a0 then true
                                    else
                                      bif iEq 1539 a0 then true
                                      else
                                        bif iEq 1605 a0 then true
                                        else
                                          bif iEq 1603 a0 then true
                                          else
                                            bif iEq 1664 a0 then true
                                            else
                                              bif iEq 512 a0 then true
                                              else
                                                bif iEq 517 a0 then true
                                                else
                                                  bif iEq 576 a0 then true
                                                  else bif iEq 577 a0 then true else bif iEq 578 a0 then true else bif iEq 579 a0 then true else bif iEq 640 a0 then true else true
def sallyportref8_IndexV (a0 : Int) : AV := .it .i64 (sallyportref8_Index0 a0)
theorem sallyportref8_IndexE (g : Nat → AV) : pcOf Try.prog okT (lookR T22) (NOH) RO NOV 100 false Try.f20 (norms [(.int .i64)] 0 g) = some (sallyportref8_IndexG ((g 0).num), sallyportref8_IndexV ((g 0).num)) := by kernel_rfl
theorem sallyportref8_IndexP : Plain Try.prog 20 Try.f20 := ⟨Try.func20, of_decide_eq_true (by kernel_rfl)⟩
theorem sallyportref8_IndexT (a0 : Int) : sallyportref8_IndexG a0 = true := by first | (simp [sallyportref8_IndexG]; done) | (simp [sallyportref8_IndexG, Go.Ev.iEq, Go.Ev.iNe, Go.Ev.iLt, Go.Ev.iLe, Go.Ev.iIn]; omega)
theorem sallyportref8_IndexO : RowOk Try.prog 20 (rowF [(.int .i64)] none fun g => sallyportref8_IndexV ((g 0).num)) := rowT_ok fun g => pcOf_ok mix fair T22_ok (HSound_none) sallyportref8_IndexP (fun c _ => OvOk_none c) (sallyportref8_IndexE g) (sallyportref8_IndexT ((g 0).num))
def T20 : List Row := (20, (rowF [(.int .i64)] none fun g => sallyportref8_IndexV ((g 0).num))) :: T22
theorem T20_ok : PSound Try.prog (lookR T20) := lookR_cons sallyportref8_IndexO T22_ok

theorem index_in' (n : Int) : -1 ≤ sallyportref8_Index0 n ∧ sallyportref8_Index0 n < 29 := by
  show (fun x : Int => -1 ≤ x ∧ x < 29) (sallyportref8_Index0 n)
  unfold sallyportref8_Index0
  repeat' (refine cond_all (p := fun x : Int => -1 ≤ x ∧ x < 29) ?_ ?_)
  all_goals decide
/- sallyport/sallyportref8.Mask -/
def sallyportref8_Mask0 (a0 : Int) : Int :=
  bif iEq a0 0 then 824641853866
  else
    bif iEq a0 1 then 15775231
    else
      bif iEq a0 2 then 544
      else
        bif iEq a0 3 then 1632
        else
          bif iEq a0 4 then
            bif iEq a0 4 then 18446744073709551612
            else
              bif iEq a0 15 then
                bif iEq a0 15 then 9223372036871487743
                else
                  bif iEq a0 16 then 7340992
                  else
                    bif iEq a0 17 then 45567
                    else
                      bif iEq a0 18 then bif iEq a0 18 then 1088 else bif iEq a0 22 then 786722 else bif bif iLt a0 0 then true else iLe 29 a0 then 0 else 18446744073709551615
                      else bif iEq a0 19 then 1088 else bif iEq a0 22 then 786722 else bif bif iLt a0 0 then true else iLe 29 a0 then 0 else 18446744073709551615
              else
                bif iEq a0 28 then
                  bif iEq a0 28 then 9223372036871487743
                  else
                    bif iEq a0 16 then 7340992
                    else
                      bif iEq a0 17 then 45567
                      else
                        bif iEq a0 18 then bif iEq a0 18 then 1088 else bif iEq a0 22 then 786722 else bif bif iLt a0 0 then true else iLe 29 a0 then 0 else 18446744073709551615
                        else bif iEq a0 19 then 1088 else bif iEq a0 22 then 786722 else bif bif iLt a0 0 then true else iLe 29 a0 then 0 else 18446744073709551615
                else
                  bif iEq a0 21 then 9223372036871487743
                  else
                    bif iEq a0 16 then 7340992
                    else
                      bif iEq a0 17 then 45567
                      else
                        bif iEq a0 18 then bif iEq a0 18 then 1088 else bif iEq a0 22 then 786722 else bif bif iLt a0 0 then true else iLe 29 a0 then 0 else 18446744073709551615
                        else bif iEq a0 19 then 1088 else bif iEq a0 22 then 786722 else bif bif iLt a0 0 then true else iLe 29 a0 then 0 else 18446744073709551615
          else
            bif iEq a0 10 then
              bif iEq a0 10 then 18446744073709551612
              else
                bif iEq a0 15 then
                  bif iEq a0 15 then 9223372036871487743
                  else
                    bif iEq a0 16 then 7340992
                    else
                      bif iEq a0 17 then 45567
                      else
                        bif iEq a0 18 then bif iEq a0 18 then 1088 else bif iEq a0 22 then 786722 else bif bif iLt a0 0 then true else iLe 29 a0 then 0 else 18446744073709551615
                        else bif iEq a0 19 then 1088 else bif iEq a0 22 then 786722 else bif bif iLt a0 0 then true else iLe 29 a0 then 0 else 18446744073709551615
                else
                  bif iEq a0 28 then
                    bif iEq a0 28 then 9223372036871487743
                    else
                      bif iEq a0 16 then 7340992
                      else
                        bif iEq a0 17 then 45567
                        else
                          bif iEq a0 18 then bif iEq a0 18 then 1088 else bif iEq a0 22 then 786722 else bif bif iLt a0 0 then true else iLe 29 a0 then 0 else 18446744073709551615
                          else bif iEq a0 19 then 1088 else bif iEq a0 22 then 786722 else bif bif iLt a0 0 then true else iLe 29 a0 then 0 else 18446744073709551615
                  else
                    bif iEq a0 21 then 9223372036871487743
                    else
                      bif iEq a0 16 then 7340992
                      else
                        bif iEq a0 17 then 45567
                        else
                          bif iEq a0 18 then bif iEq a0 18 then 1088 else bif iEq a0 22 then 786722 else bif bif iLt a0 0 then true else iLe 29 a0 then 0 else 18446744073709551615
                          else bif iEq a0 19 then 1088 else bif iEq a0 22 then 786722 else bif bif iLt a0 0 then true else iLe 29 a0 then 0 else 18446744073709551615
            else
              bif iEq a0 23 then
                bif iEq a0 23 then 18446744073709551612
                else
                  bif iEq a0 15 then
                    bif iEq a0 15 then 9223372036871487743
                    else
                      bif iEq a0 16 then 7340992
                      else
                        bif iEq a0 17 then 45567
                        else
                          bif iEq a0 18 then bif iEq a0 18 then 1088 else bif iEq a0 22 then 786722 else bif bif iLt a0 0 then true else iLe 29 a0 then 0 else 18446744073709551615
                          else bif iEq a0 19 then 1088 else bif iEq a0 22 then 786722 else bif bif iLt a0 0 then true else iLe 29 a0 then 0 else 18446744073709551615
                  else
                    bif iEq a0 28 then
                      bif iEq a0 28 then 9223372036871487743
                      else
                        bif iEq a0 16 then 7340992
                        else
                          bif iEq a0 17 then 45567
                          else
                            bif iEq a0 18 then bif iEq a0 18 then 1088 else bif iEq a0 22 then 786722 else bif bif iLt a0 0 then true else iLe 29 a0 then 0 else 18446744073709551615
                            else bif iEq a0 19 then 1088 else bif iEq a0 22 then 786722 else bif bif iLt a0 0 then true else iLe 29 a0 then 0 else 18446744073709551615
                    else
                      bif iEq a0 21 then 9223372036871487743
                      else
                        bif iEq a0 16 then 7340992
                        else
                          bif iEq a0 17 then 45567
                          else
                            bif iEq a0 18 then bif iEq a0 18 then 1088 else bif iEq a0 22 then 786722 else bif bif iLt a0 0 then true else iLe 29 a0 then 0 else 18446744073709551615
                            else bif iEq a0 19 then 1088 else bif iEq a0 22 then 786722 else bif bif iLt a0 0 then true else iLe 29 a0 then 0 else 18446744073709551615
              else
                bif iEq a0 6 then
                  bif iEq a0 6 then 18446744073709551612
                  else
                    bif iEq a0 15 then
                      bif iEq a0 15 then 9223372036871487743
                      else
                        bif iEq a0 16 then 7340992
                        else
                          bif iEq a0 17 then 45567
                          else
                            bif iEq a0 18 then bif iEq a0 18 then 1088 else bif iEq a0 22 then 786722 else bif bif iLt a0 0 then true else iLe 29 a0 then 0 else 18446744073709551615
                            else bif iEq a0 19 then 1088 else bif iEq a0 22 then 786722 else bif bif iLt a0 0 then true else iLe 29 a0 then 0 else 18446744073709551615
                    else
                      bif iEq a0 28 then
                        bif iEq a0 28 then 9223372036871487743
                        else
                          bif iEq a0 16 then 7340992
                          else
                            bif iEq a0 17 then 45567
                            else
                              bif iEq a0 18 then bif iEq a0 18 then 1088 else bif iEq a0 22 then 786722 else bif bif iLt a0 0 then true else iLe 29 a0 then 0 else 18446744073709551615
                              else bif iEq a0 19 then 1088 else bif iEq a0 22 then 786722 else bif bif iLt a0 0 then true else iLe 29 a0 then 0 else 18446744073709551615
                      else
                        bif iEq a0 21 then 9223372036871487743
                        else
                          bif iEq a0 16 then 7340992
                          else
                            bif iEq a0 17 then 45567
                            else
                              bif iEq a0 18 then bif iEq a0 18 then 1088 else bif iEq a0 22 then 786722 else bif bif iLt a0 0 then true else iLe 29 a0 then 0 else 18446744073709551615
                              else bif iEq a0 19 then 1088 else bif iEq a0 22 then 786722 else bif bif iLt a0 0 then true else iLe 29 a0 then 0 else 18446744073709551615
                else
                  bif iEq a0 12 then
                    bif iEq a0 12 then 18446744073709551612
                    else
                      bif iEq a0 15 then
                        bif iEq a0 15 then 9223372036871487743
                        else
                          bif iEq a0 16 then 7340992
                          else
                            bif iEq a0 17 then 45567
                            else
                              bif iEq a0 18 then bif iEq a0 18 then 1088 else bif iEq a0 22 then 786722 else bif bif iLt a0 0 then true else iLe 29 a0 then 0 else 18446744073709551615
                              else bif iEq a0 19 then 1088 else bif iEq a0 22 then 786722 else bif bif iLt a0 0 then true else iLe 29 a0 then 0 else 18446744073709551615
                      else
                        bif iEq a0 28 then
                          bif iEq a0 28 then 9223372036871487743
                          else
                            bif iEq a0 16 then 7340992
                            else
                              bif iEq a0 17 then 45567
                              else
                                bif iEq a0 18 then bif iEq a0 18 then 1088 else bif iEq a0 22 then 786722 else bif bif iLt a0 0 then true else iLe 29 a0 then 0 else 18446744073709551615
                                else bif iEq a0 19 then 1088 else bif iEq a0 22 then 786722 else bif bif iLt a0 0 then true else iLe 29 a0 then 0 else 18446744073709551615
                        else
                          bif iEq a0 21 then 9223372036871487743
                          else
                            bif iEq a0 16 then 7340992
                            else
                              bif iEq a0 17 then 45567
                              else
                                bif iEq a0 18 then bif iEq a0 18 then 1088 else bif iEq a0 22 then 786722 else bif bif iLt a0 0 then true else iLe 29 a0 then 0 else 18446744073709551615
                                else bif iEq a0 19 then 1088 else bif iEq a0 22 then 786722 else bif bif iLt a0 0 then true else iLe 29 a0 then 0 else 18446744073709551615
                  else
                    bif iEq a0 25 then 18446744073709551612
                    else
                      bif iEq a0 15 then
                        bif iEq a0 15 then 9223372036871487743
                        else
                          bif iEq a0 16 then 7340992
                          else
                            bif iEq a0 17 then 45567
                            else
                              bif iEq a0 18 then bif iEq a0 18 then 1088 else bif iEq a0 22 then 786722 else bif bif iLt a0 0 then true else iLe 29 a0 then 0 else 18446744073709551615
                              else bif iEq a0 19 then 1088 else bif iEq a0 22 then 786722 else bif bif iLt a0 0 then true else iLe 29 a0 then 0 else 18446744073709551615
                      else
                        bif iEq a0 28 then
                          bif iEq a0 28 then 9223372036871487743
                          else
                            bif iEq a0 16 then 7340992
                            else
                              bif iEq a0 17 then 45567
                              else
                                bif iEq a0 18 then bif iEq a0 18 then 1088 else bif iEq a0 22 then 786722 else bif bif iLt a0 0 then true else iLe 29 a0 then 0 else 18446744073709551615
                                else bif iEq a0 19 then 1088 else bif iEq a0 22 then 786722 else bif bif iLt a0 0 then true else iLe 29 a0 then 0 else 18446744073709551615
                        else
                          bif iEq a0 21 then 9223372036871487743
                          else
                            bif iEq a0 16 then 7340992
                            else
                              bif iEq a0 17 then 45567
                              else
                                bif iEq a0 18 then bif iEq a0 18 then 1088 else bif iEq a0 22 then 786722 else bif bif iLt a0 0 then true else iLe 29 a0 then 0 else 18446744073709551615
                                else bif iEq a0 19 then 1088 else bif iEq a0 22 then 786722 else bif bif iLt a0 0 then true else iLe 29 a0 then 0 else 18446744073709551615
def sallyportref8_MaskG (a0 : Int) : Bool :=
  bif iEq a0 0 then true
  else
    bif iEq a0 1 then true
    else
      bif iEq a0 2 then true
      else
        bif iEq a0 3 then true
        else
          bif iEq a0 4 then
            bif iEq a0 4 then true
            else
              bif iEq a0 15 then
                bif iEq a0 15 then true
                else
                  bif iEq a0 16 then true
                  else
                    bif iEq a0 17 then true
                    else
                      bif iEq a0 18 then bif iEq a0 18 then true else bif iEq a0 22 then true else bif bif iLt a0 0 then true else iLe 29 a0 then true else true
                      else bif iEq a0 19 then true else bif iEq a0 22 then true else bif bif iLt a0 0 then true else iLe 29 a0 then true else true
              else
                bif iEq a0 28 then
                  bif iEq a0 28 then true
                  else
                    bif iEq a0 16 then true
                    else
                      bif iEq a0 17 then true
                      else
                        bif iEq a0 18 then bif iEq a0 18 then true else bif iEq a0 22 then true else bif bif iLt a0 0 then true else iLe 29 a0 then true else true
                        else bif iEq a0 19 then true else bif iEq a0 22 then true else bif bif iLt a0 0 then true else iLe 29 a0 then true else true
                else
                  bif iEq a0 21 then true
                  else
                    bif iEq a0 16 then true
                    else
                      bif iEq a0 17 then true
                      else
                        bif iEq a0 18 then bif iEq a0 18 then true else bif iEq a0 22 then true else bif bif iLt a0 0 then true else iLe 29 a0 then true else true
                        else bif iEq a0 19 then true else bif iEq a0 22 then true else bif bif iLt a0 0 then true else iLe 29 a0 then true else true
          else
            bif iEq a0 10 then
              bif iEq a0 10 then true
              else
                bif iEq a0 15 then
                  bif iEq a0 15 then true
                  else
                    bif iEq a0 16 then true
                    else
                      bif iEq a0 17 then true
                      else
                        bif iEq a0 18 then bif iEq a0 18 then true else bif iEq a0 22 then true else bif bif iLt a0 0 then true else iLe 29 a0 then true else true
                        else bif iEq a0 19 then true else bif iEq a0 22 then true else bif bif iLt a0 0 then true else iLe 29 a0 then true else true
                else
                  bif iEq a0 28 then
                    bif iEq a0 28 then true
                    else
                      bif iEq a0 16 then true
                      else
                        bif iEq a0 17 then true
                        else
                          bif iEq a0 18 then bif iEq a0 18 then true else bif iEq a0 22 then true else bif bif iLt a0 0 then true else iLe 29 a0 then true else true
                          else bif iEq a0 19 then true else bif iEq a0 22 then true else bif bif iLt a0 0 then true else iLe 29 a0 then true else true
                  else
                    bif iEq a0 21 then true
                    else
                      bif iEq a0 16 then true
                      else
                        bif iEq a0 17 then true
                        else
                          bif iEq a0 18 then bif iEq a0 18 then true else bif iEq a0 22 then true else bif bif iLt a0 0 then true else iLe 29 a0 then true else true
                          else bif iEq a0 19 then true else bif iEq a0 22 then true else bif bif iLt a0 0 then true else iLe 29 a0 then true else true
            else
              bif iEq a0 23 then
                bif iEq a0 23 then true
                else
                  bif iEq a0 15 then
                    bif iEq a0 15 then true
                    else
                      bif iEq a0 16 then true
                      else
                        bif iEq a0 17 then true
                        else
                          bif iEq a0 18 then bif iEq a0 18 then true else bif iEq a0 22 then true else bif bif iLt a0 0 then true else iLe 29 a0 then true else true
                          else bif iEq a0 19 then true else bif iEq a0 22 then true else bif bif iLt a0 0 then true else iLe 29 a0 then true else true
                  else
                    bif iEq a0 28 then
                      bif iEq a0 28 then true
                      else
                        bif iEq a0 16 then true
                        else
                          bif iEq a0 17 then true
                          else
                            bif iEq a0 18 then bif iEq a0 18 then true else bif iEq a0 22 then true else bif bif iLt a0 0 then true else iLe 29 a0 then true else true
                            else bif iEq a0 19 then true else bif iEq a0 22 then true else bif bif iLt a0 0 then true else iLe 29 a0 then true else true
                    else
                      bif iEq a0 21 then true
                      else
                        bif iEq a0 16 then true
                        else
                          bif iEq a0 17 then true
                          else
                            bif iEq a0 18 then bif iEq a0 18 then true else bif iEq a0 22 then true else bif bif iLt a0 0 then true else iLe 29 a0 then true else true
                            else bif iEq a0 19 then true else bif iEq a0 22 then true else bif bif iLt a0 0 then true else iLe 29 a0 then true else true
              else
                bif iEq a0 6 then
                  bif iEq a0 6 then true
                  else
                    bif iEq a0 15 then
                      bif iEq a0 15 then true
                      else
                        bif iEq a0 16 then true
                        else
                          bif iEq a0 17 then true
                          else
                            bif iEq a0 18 then bif iEq a0 18 then true else bif iEq a0 22 then true else bif bif iLt a0 0 then true else iLe 29 a0 then true else true
                            else bif iEq a0 19 then true else bif iEq a0 22 then true else bif bif iLt a0 0 then true else iLe 29 a0 then true else true
                    else
                      bif iEq a0 28 then
                        bif iEq a0 28 then true
                        else
                          bif iEq a0 16 then true
                          else
                            bif iEq a0 17 then true
                            else
                              bif iEq a0 18 then bif iEq a0 18 then true else bif iEq a0 22 then true else bif bif iLt a0 0 then true else iLe 29 a0 then true else true
                              else bif iEq a0 19 then true else bif iEq a0 22 then true else bif bif iLt a0 0 then true else iLe 29 a0 then true else true
                      else
                        bif iEq a0 21 then true
                        else
                          bif iEq a0 16 then true
                          else
                            bif iEq a0 17 then true
                            else
                              bif iEq a0 18 then bif iEq a0 18 then true else bif iEq a0 22 then true else bif bif iLt a0 0 then true else iLe 29 a0 then true else true
                              else bif iEq a0 19 then true else bif iEq a0 22 then true else bif bif iLt a0 0 then true else iLe 29 a0 then true else true
                else
                  bif iEq a0 12 then
                    bif iEq a0 12 then true
                    else
                      bif iEq a0 15 then
                        bif iEq a0 15 then true
                        else
                          bif iEq a0 16 then true
                          else
                            bif iEq a0 17 then true
                            else
                              bif iEq a0 18 then bif iEq a0 18 then true else bif iEq a0 22 then true else bif bif iLt a0 0 then true else iLe 29 a0 then true else true
                              else bif iEq a0 19 then true else bif iEq a0 22 then true else bif bif iLt a0 0 then true else iLe 29 a0 then true else true
                      else
                        bif iEq a0 28 then
                          bif iEq a0 28 then true
                          else
                            bif iEq a0 16 then true
                            else
                              bif iEq a0 17 then true
                              else
                                bif iEq a0 18 then bif iEq a0 18 then true else bif iEq a0 22 then true else bif bif iLt a0 0 then true else iLe 29 a0 then true else true
                                else bif iEq a0 19 then true else bif iEq a0 22 then true else bif bif iLt a0 0 then true else iLe 29 a0 then true else true
                        else
                          bif iEq a0 21 then true
                          else
                            bif iEq a0 16 then true
                            else
                              bif iEq a0 17 then true
                              else
                                bif iEq a0 18 then bif iEq a0 18 then true else bif iEq a0 22 then true else bif bif iLt a0 0 then true else iLe 29 a0 then true else true
                                else bif iEq a0 19 then true else bif iEq a0 22 then true else bif bif iLt a0 0 then true else iLe 29 a0 then true else true
                  else
                    bif iEq a0 25 then true
                    else
                      bif iEq a0 15 then
                        bif iEq a0 15 then true
                        else
                          bif iEq a0 16 then true
                          else
                            bif iEq a0 17 then true
                            else
                              bif iEq a0 18 then bif iEq a0 18 then true else bif iEq a0 22 then true else bif bif iLt a0 0 then true else iLe 29 a0 then true else true
                              else bif iEq a0 19 then true else bif iEq a0 22 then true else bif bif iLt a0 0 then true else iLe 29 a0 then true else true
                      else
                        bif iEq a0 28 then
                          bif iEq a0 28 then true
                          else
                            bif iEq a0 16 then true
                            else
                              bif iEq a0 17 then true
                              else
                                bif iEq a0 18 then bif iEq a0 18 then true else bif iEq a0 22 then true else bif bif iLt a0 0 then true else iLe 29 a0 then true else true
                                else bif iEq a0 19 then true else bif iEq a0 22 then true else bif bif iLt a0 0 then true else iLe 29 a0 then true else true
                        else
                          bif iEq a0 21 then true
                          else
                            bif iEq a0 16 then true
                            else
                              bif iEq a0 17 then true
                              else
                                bif iEq a0 18 then bif iEq a0 18 then true else bif iEq a0 22 then true else bif bif iLt a0 0 then true else iLe 29 a0 then true else true
                                else bif iEq a0 19 then true else bif iEq a0 22 then true else bif bif iLt a0 0 then true else iLe 29 a0 then true else true
def sallyportref8_MaskV (a0 : Int) : AV := .it .u64 (sallyportref8_Mask0 a0)
theorem sallyportref8_MaskE (g : Nat → AV) : pcOf Try.prog okT (lookR T20) (inl Try.prog okT (lookR T20) RO FS 100 ST 2) RO NOV 100 false Try.f24 (norms [(.int .i64)] 0 g) = some (sallyportref8_MaskG ((g 0).num), sallyportref8_MaskV ((g 0).num)) := by kernel_rfl
theorem sallyportref8_MaskP : Plain Try.prog 24 Try.f24 := ⟨Try.func24, of_decide_eq_true (by kernel_rfl)⟩
theorem sallyportref8_MaskT (a0 : Int) : sallyportref8_MaskG a0 = true := by first | (simp [sallyportref8_MaskG]; done) | (simp [sallyportref8_MaskG, Go.Ev.iEq, Go.Ev.iNe, Go.Ev.iLt, Go.Ev.iLe, Go.Ev.iIn]; omega)
theorem sallyportref8_MaskO : RowOk Try.prog 24 (rowF [(.int .i64)] none fun g => sallyportref8_MaskV ((g 0).num)) := rowT_ok fun g => pcOf_ok mix fair T20_ok (inl_ok mix fair T20_ok FS_ok 2) sallyportref8_MaskP (fun c _ => OvOk_none c) (sallyportref8_MaskE g) (sallyportref8_MaskT ((g 0).num))
def T24 : List Row := (24, (rowF [(.int .i64)] none fun g => sallyportref8_MaskV ((g 0).num))) :: T20
theorem T24_ok : PSound Try.prog (lookR T24) := lookR_cons sallyportref8_MaskO T20_ok

/- sallyport/sallyportref8.Read -/
def sallyportref8_Read0 (a0_X : Nat → Int) (a0_PC : Int) (a0_Level : Int) (a0_V : Bool) (a0_C : Nat → Int) (a0_Done : Int) (a1 : Int) : Int :=
  bif iLe 0 (sallyportref8_Index0 a1) then a0_C (sallyportref8_Index0 a1).toNat
  else
    bif iEq a1 256 then iAnd IntKind.u64 (a0_C 0) 786722
    else bif iEq a1 260 then iAnd IntKind.u64 (a0_C 3) 544 else bif iEq a1 516 then iShr IntKind.u64 (iAnd IntKind.u64 (a0_C 3) 1088) 1 else bif iEq a1 3074 then a0_Done else 0
def sallyportref8_Read1 (a0_X : Nat → Int) (a0_PC : Int) (a0_Level : Int) (a0_V : Bool) (a0_C : Nat → Int) (a0_Done : Int) (a1 : Int) : Bool :=
  bif iLe 0 (sallyportref8_Index0 a1) then true else bif iEq a1 256 then true else bif iEq a1 260 then true else bif iEq a1 516 then true else bif iEq a1 3074 then true else false
def sallyportref8_ReadG (a0_X : Nat → Int) (a0_PC : Int) (a0_Level : Int) (a0_V : Bool) (a0_C : Nat → Int) (a0_Done : Int) (a1 : Int) : Bool :=
  bif iLe 0 (sallyportref8_Index0 a1) then iIn (sallyportref8_Index0 a1) 29 && true
  else bif iEq a1 256 then true else bif iEq a1 260 then true else bif iEq a1 516 then true else bif iEq a1 3074 then true else true
def sallyportref8_ReadV (a0_X : Nat → Int) (a0_PC : Int) (a0_Level : Int) (a0_V : Bool) (a0_C : Nat → Int) (a0_Done : Int) (a1 : Int) : AV := .tup [.it .u64 (sallyportref8_Read0 a0_X a0_PC a0_Level a0_V a0_C a0_Done a1), .bl (sallyportref8_Read1 a0_X a0_PC a0_Level a0_V a0_C a0_Done a1)]
theorem sallyportref8_ReadE (g : Nat → AV) : pcOf Try.prog okT (lookR T24) (inl Try.prog okT (lookR T24) RO FS 100 ST 2) RO NOV 100 false Try.f16 (norms [(.agg [(.arr 32 (.int .u64)), (.int .u64), (.int .i64), .bool, (.arr 29 (.int .u64)), (.int .u64)]), (.int .i64)] 0 g) = some (sallyportref8_ReadG (fun i0 => (((g 0).fld 0).ix i0).num) (((g 0).fld 1).num) (((g 0).fld 2).num) (((g 0).fld 3).bool) (fun i0 => (((g 0).fld 4).ix i0).num) (((g 0).fld 5).num) ((g 1).num), sallyportref8_ReadV (fun i0 => (((g 0).fld 0).ix i0).num) (((g 0).fld 1).num) (((g 0).fld 2).num) (((g 0).fld 3).bool) (fun i0 => (((g 0).fld 4).ix i0).num) (((g 0).fld 5).num) ((g 1).num)) := by kernel_rfl
theorem sallyportref8_ReadP : Plain Try.prog 16 Try.f16 := ⟨Try.func16, of_decide_eq_true (by kernel_rfl)⟩
theorem sallyportref8_ReadT (a0_X : Nat → Int) (a0_PC : Int) (a0_Level : Int) (a0_V : Bool) (a0_C : Nat → Int) (a0_Done : Int) (a1 : Int) : sallyportref8_ReadG a0_X a0_PC a0_Level a0_V a0_C a0_Done a1 = true := by
  unfold sallyportref8_ReadG
  have h := index_in' a1
  cases h1 : iLe 0 (sallyportref8_Index0 a1) with
  | true => rw [iIn_true.2 ⟨iLe_true.1 h1, h.2⟩]; simp
  | false => simp
theorem sallyportref8_ReadO : RowOk Try.prog 16 (rowF [(.agg [(.arr 32 (.int .u64)), (.int .u64), (.int .i64), .bool, (.arr 29 (.int .u64)), (.int .u64)]), (.int .i64)] none fun g => sallyportref8_ReadV (fun i0 => (((g 0).fld 0).ix i0).num) (((g 0).fld 1).num) (((g 0).fld 2).num) (((g 0).fld 3).bool) (fun i0 => (((g 0).fld 4).ix i0).num) (((g 0).fld 5).num) ((g 1).num)) := rowT_ok fun g => pcOf_ok mix fair T24_ok (inl_ok mix fair T24_ok FS_ok 2) sallyportref8_ReadP (fun c _ => OvOk_none c) (sallyportref8_ReadE g) (sallyportref8_ReadT (fun i0 => (((g 0).fld 0).ix i0).num) (((g 0).fld 1).num) (((g 0).fld 2).num) (((g 0).fld 3).bool) (fun i0 => (((g 0).fld 4).ix i0).num) (((g 0).fld 5).num) ((g 1).num))
def T16 : List Row := (16, (rowF [(.agg [(.arr 32 (.int .u64)), (.int .u64), (.int .i64), .bool, (.arr 29 (.int .u64)), (.int .u64)]), (.int .i64)] none fun g => sallyportref8_ReadV (fun i0 => (((g 0).fld 0).ix i0).num) (((g 0).fld 1).num) (((g 0).fld 2).num) (((g 0).fld 3).bool) (fun i0 => (((g 0).fld 4).ix i0).num) (((g 0).fld 5).num) ((g 1).num))) :: T24
theorem T16_ok : PSound Try.prog (lookR T16) := lookR_cons sallyportref8_ReadO T24_ok

/- sallyport/sallyportref8.put -/
def sallyportref8_put0 (a0 : Int) (a1 : Int) (a2 : Int) : Int :=
  iOr IntKind.u64 (iAndNot IntKind.u64 a0 a2) (iAnd IntKind.u64 a1 a2)
def sallyportref8_putG (a0 : Int) (a1 : Int) (a2 : Int) : Bool :=
  true
def sallyportref8_putV (a0 : Int) (a1 : Int) (a2 : Int) : AV := .it .u64 (sallyportref8_put0 a0 a1 a2)
theorem sallyportref8_putE (g : Nat → AV) : pcOf Try.prog okT (lookR T16) (NOH) RO NOV 100 false Try.f42 (norms [(.int .u64), (.int .u64), (.int .u64)] 0 g) = some (sallyportref8_putG ((g 0).num) ((g 1).num) ((g 2).num), sallyportref8_putV ((g 0).num) ((g 1).num) ((g 2).num)) := by kernel_rfl
theorem sallyportref8_putP : Plain Try.prog 42 Try.f42 := ⟨Try.func42, of_decide_eq_true (by kernel_rfl)⟩
theorem sallyportref8_putT (a0 : Int) (a1 : Int) (a2 : Int) : sallyportref8_putG a0 a1 a2 = true := rfl
theorem sallyportref8_putO : RowOk Try.prog 42 (rowF [(.int .u64), (.int .u64), (.int .u64)] none fun g => sallyportref8_putV ((g 0).num) ((g 1).num) ((g 2).num)) := rowT_ok fun g => pcOf_ok mix fair T16_ok (HSound_none) sallyportref8_putP (fun c _ => OvOk_none c) (sallyportref8_putE g) (sallyportref8_putT ((g 0).num) ((g 1).num) ((g 2).num))
def T42 : List Row := (42, (rowF [(.int .u64), (.int .u64), (.int .u64)] none fun g => sallyportref8_putV ((g 0).num) ((g 1).num) ((g 2).num))) :: T16
theorem T42_ok : PSound Try.prog (lookR T42) := lookR_cons sallyportref8_putO T16_ok

/- sallyport/sallyportref8.Mpp -/
def sallyportref8_Mpp0 (a0 : Int) : Int :=
  bif iEq (iAnd IntKind.u64 (iShr IntKind.u64 a0 11) 3) 2 then iAndNot IntKind.u64 a0 6144 else a0
def sallyportref8_MppG (a0 : Int) : Bool :=
  bif iEq (iAnd IntKind.u64 (iShr IntKind.u64 a0 11) 3) 2 then true else true
def sallyportref8_MppV (a0 : Int) : AV := .it .u64 (sallyportref8_Mpp0 a0)
theorem sallyportref8_MppE (g : Nat → AV) : pcOf Try.prog okT (lookR T42) (NOH) RO NOV 100 false Try.f43 (norms [(.int .u64)] 0 g) = some (sallyportref8_MppG ((g 0).num), sallyportref8_MppV ((g 0).num)) := by kernel_rfl
theorem sallyportref8_MppP : Plain Try.prog 43 Try.f43 := ⟨Try.func43, of_decide_eq_true (by kernel_rfl)⟩
theorem sallyportref8_MppT (a0 : Int) : sallyportref8_MppG a0 = true := by first | (simp [sallyportref8_MppG]; done) | (simp [sallyportref8_MppG, Go.Ev.iEq, Go.Ev.iNe, Go.Ev.iLt, Go.Ev.iLe, Go.Ev.iIn]; omega)
theorem sallyportref8_MppO : RowOk Try.prog 43 (rowF [(.int .u64)] none fun g => sallyportref8_MppV ((g 0).num)) := rowT_ok fun g => pcOf_ok mix fair T42_ok (HSound_none) sallyportref8_MppP (fun c _ => OvOk_none c) (sallyportref8_MppE g) (sallyportref8_MppT ((g 0).num))
def T43 : List Row := (43, (rowF [(.int .u64)] none fun g => sallyportref8_MppV ((g 0).num))) :: T42
theorem T43_ok : PSound Try.prog (lookR T43) := lookR_cons sallyportref8_MppO T42_ok

/- sallyport/sallyportref8.Write -/
def sallyportref8_Write0 (a0_X : Nat → Int) (a0_PC : Int) (a0_Level : Int) (a0_V : Bool) (a0_C : Nat → Int) (a0_Done : Int) (a1 : Int) (a2 : Int) : Nat → Int :=
  fun i0 => bif iLe 0 (sallyportref8_Index0 a1) then bif iEq (sallyportref8_Index0 a1) 0 then a0_X i0 else a0_X i0
  else bif iEq a1 256 then a0_X i0 else bif iEq a1 260 then a0_X i0 else bif iEq a1 516 then a0_X i0 else bif iEq a1 3074 then a0_X i0 else a0_X i0
def sallyportref8_Write1 (a0_X : Nat → Int) (a0_PC : Int) (a0_Level : Int) (a0_V : Bool) (a0_C : Nat → Int) (a0_Done : Int) (a1 : Int) (a2 : Int) : Int :=
  bif iLe 0 (sallyportref8_Index0 a1) then bif iEq (sallyportref8_Index0 a1) 0 then a0_PC else a0_PC
  else bif iEq a1 256 then a0_PC else bif iEq a1 260 then a0_PC else bif iEq a1 516 then a0_PC else bif iEq a1 3074 then a0_PC else a0_PC
def sallyportref8_Write2 (a0_X : Nat → Int) (a0_PC : Int) (a0_Level : Int) (a0_V : Bool) (a0_C : Nat → Int) (a0_Done : Int) (a1 : Int) (a2 : Int) : Int :=
  bif iLe 0 (sallyportref8_Index0 a1) then bif iEq (sallyportref8_Index0 a1) 0 then a0_Level else a0_Level
  else bif iEq a1 256 then a0_Level else bif iEq a1 260 then a0_Level else bif iEq a1 516 then a0_Level else bif iEq a1 3074 then a0_Level else a0_Level
def sallyportref8_Write3 (a0_X : Nat → Int) (a0_PC : Int) (a0_Level : Int) (a0_V : Bool) (a0_C : Nat → Int) (a0_Done : Int) (a1 : Int) (a2 : Int) : Bool :=
  bif iLe 0 (sallyportref8_Index0 a1) then bif iEq (sallyportref8_Index0 a1) 0 then a0_V else a0_V
  else bif iEq a1 256 then a0_V else bif iEq a1 260 then a0_V else bif iEq a1 516 then a0_V else bif iEq a1 3074 then a0_V else a0_V
def sallyportref8_Write4 (a0_X : Nat → Int) (a0_PC : Int) (a0_Level : Int) (a0_V : Bool) (a0_C : Nat → Int) (a0_Done : Int) (a1 : Int) (a2 : Int) : Nat → Int :=
  fun i0 => bif iLe 0 (sallyportref8_Index0 a1) then
    bif iEq (sallyportref8_Index0 a1) 0 then
      bif i0 == (sallyportref8_Index0 a1).toNat then
        sallyportref8_Mpp0
          (bif (sallyportref8_Index0 a1).toNat == (sallyportref8_Index0 a1).toNat then sallyportref8_put0 (a0_C (sallyportref8_Index0 a1).toNat) a2 (sallyportref8_Mask0 (sallyportref8_Index0 a1))
          else a0_C (sallyportref8_Index0 a1).toNat)
      else bif i0 == (sallyportref8_Index0 a1).toNat then sallyportref8_put0 (a0_C (sallyportref8_Index0 a1).toNat) a2 (sallyportref8_Mask0 (sallyportref8_Index0 a1)) else a0_C i0
    else bif i0 == (sallyportref8_Index0 a1).toNat then sallyportref8_put0 (a0_C (sallyportref8_Index0 a1).toNat) a2 (sallyportref8_Mask0 (sallyportref8_Index0 a1)) else a0_C i0
  else
    bif iEq a1 256 then bif i0 == 0 then sallyportref8_put0 (a0_C 0) a2 786722 else a0_C i0
    else
      bif iEq a1 260 then bif i0 == 3 then sallyportref8_put0 (a0_C 3) a2 544 else a0_C i0
      else bif iEq a1 516 then bif i0 == 3 then sallyportref8_put0 (a0_C 3) (iShl IntKind.u64 a2 1) 1088 else a0_C i0 else bif iEq a1 3074 then a0_C i0 else a0_C i0
def sallyportref8_Write5 (a0_X : Nat → Int) (a0_PC : Int) (a0_Level : Int) (a0_V : Bool) (a0_C : Nat → Int) (a0_Done : Int) (a1 : Int) (a2 : Int) : Int :=
  bif iLe 0 (sallyportref8_Index0 a1) then bif iEq (sallyportref8_Index0 a1) 0 then a0_Done else a0_Done
  else bif iEq a1 256 then a0_Done else bif iEq a1 260 then a0_Done else bif iEq a1 516 then a0_Done else bif iEq a1 3074 then a0_Done else a0_Done
def sallyportref8_Write6 (a0_X : Nat → Int) (a0_PC : Int) (a0_Level : Int) (a0_V : Bool) (a0_C : Nat → Int) (a0_Done : Int) (a1 : Int) (a2 : Int) : Bool :=
  bif iLe 0 (sallyportref8_Index0 a1) then bif iEq (sallyportref8_Index0 a1) 0 then true else true
  else bif iEq a1 256 then true else bif iEq a1 260 then true else bif iEq a1 516 then true else bif iEq a1 3074 then true else false
def sallyportref8_WriteG (a0_X : Nat → Int) (a0_PC : Int) (a0_Level : Int) (a0_V : Bool) (a0_C : Nat → Int) (a0_Done : Int) (a1 : Int) (a2 : Int) : Bool :=
  bif iLe 0 (sallyportref8_Index0 a1) then
    iIn (sallyportref8_Index0 a1) 29 &&
      (iIn (sallyportref8_Index0 a1) 29 && bif iEq (sallyportref8_Index0 a1) 0 then iIn (sallyportref8_Index0 a1) 29 && (iIn (sallyportref8_Index0 a1) 29 && true) else true)
  else bif iEq a1 256 then true else bif iEq a1 260 then true else bif iEq a1 516 then true else bif iEq a1 3074 then true else true
def sallyportref8_WriteV (a0_X : Nat → Int) (a0_PC : Int) (a0_Level : Int) (a0_V : Bool) (a0_C : Nat → Int) (a0_Done : Int) (a1 : Int) (a2 : Int) : AV := .tup [.agg [.arr 32 (.int .u64) fun i0 => .it .u64 (sallyportref8_Write0 a0_X a0_PC a0_Level a0_V a0_C a0_Done a1 a2 i0), .it .u64 (sallyportref8_Write1 a0_X a0_PC a0_Level a0_V a0_C a0_Done a1 a2), .it .i64 (sallyportref8_Write2 a0_X a0_PC a0_Level a0_V a0_C a0_Done a1 a2), .bl (sallyportref8_Write3 a0_X a0_PC a0_Level a0_V a0_C a0_Done a1 a2), .arr 29 (.int .u64) fun i0 => .it .u64 (sallyportref8_Write4 a0_X a0_PC a0_Level a0_V a0_C a0_Done a1 a2 i0), .it .u64 (sallyportref8_Write5 a0_X a0_PC a0_Level a0_V a0_C a0_Done a1 a2)], .bl (sallyportref8_Write6 a0_X a0_PC a0_Level a0_V a0_C a0_Done a1 a2)]
theorem sallyportref8_WriteE (g : Nat → AV) : pcOf Try.prog okT (lookR T43) (inl Try.prog okT (lookR T43) RO FS 100 ST 2) RO NOV 100 false Try.f18 (norms [(.agg [(.arr 32 (.int .u64)), (.int .u64), (.int .i64), .bool, (.arr 29 (.int .u64)), (.int .u64)]), (.int .i64), (.int .u64)] 0 g) = some (sallyportref8_WriteG (fun i0 => (((g 0).fld 0).ix i0).num) (((g 0).fld 1).num) (((g 0).fld 2).num) (((g 0).fld 3).bool) (fun i0 => (((g 0).fld 4).ix i0).num) (((g 0).fld 5).num) ((g 1).num) ((g 2).num), sallyportref8_WriteV (fun i0 => (((g 0).fld 0).ix i0).num) (((g 0).fld 1).num) (((g 0).fld 2).num) (((g 0).fld 3).bool) (fun i0 => (((g 0).fld 4).ix i0).num) (((g 0).fld 5).num) ((g 1).num) ((g 2).num)) := by kernel_rfl
theorem sallyportref8_WriteP : Plain Try.prog 18 Try.f18 := ⟨Try.func18, of_decide_eq_true (by kernel_rfl)⟩
theorem sallyportref8_WriteT (a0_X : Nat → Int) (a0_PC : Int) (a0_Level : Int) (a0_V : Bool) (a0_C : Nat → Int) (a0_Done : Int) (a1 : Int) (a2 : Int) : sallyportref8_WriteG a0_X a0_PC a0_Level a0_V a0_C a0_Done a1 a2 = true := by
  unfold sallyportref8_WriteG
  have h := index_in' a1
  cases h1 : iLe 0 (sallyportref8_Index0 a1) with
  | true => rw [iIn_true.2 ⟨iLe_true.1 h1, h.2⟩]; simp
  | false => simp
theorem sallyportref8_WriteO : RowOk Try.prog 18 (rowF [(.agg [(.arr 32 (.int .u64)), (.int .u64), (.int .i64), .bool, (.arr 29 (.int .u64)), (.int .u64)]), (.int .i64), (.int .u64)] none fun g => sallyportref8_WriteV (fun i0 => (((g 0).fld 0).ix i0).num) (((g 0).fld 1).num) (((g 0).fld 2).num) (((g 0).fld 3).bool) (fun i0 => (((g 0).fld 4).ix i0).num) (((g 0).fld 5).num) ((g 1).num) ((g 2).num)) := rowT_ok fun g => pcOf_ok mix fair T43_ok (inl_ok mix fair T43_ok FS_ok 2) sallyportref8_WriteP (fun c _ => OvOk_none c) (sallyportref8_WriteE g) (sallyportref8_WriteT (fun i0 => (((g 0).fld 0).ix i0).num) (((g 0).fld 1).num) (((g 0).fld 2).num) (((g 0).fld 3).bool) (fun i0 => (((g 0).fld 4).ix i0).num) (((g 0).fld 5).num) ((g 1).num) ((g 2).num))
def T18 : List Row := (18, (rowF [(.agg [(.arr 32 (.int .u64)), (.int .u64), (.int .i64), .bool, (.arr 29 (.int .u64)), (.int .u64)]), (.int .i64), (.int .u64)] none fun g => sallyportref8_WriteV (fun i0 => (((g 0).fld 0).ix i0).num) (((g 0).fld 1).num) (((g 0).fld 2).num) (((g 0).fld 3).bool) (fun i0 => (((g 0).fld 4).ix i0).num) (((g 0).fld 5).num) ((g 1).num) ((g 2).num))) :: T43
theorem T18_ok : PSound Try.prog (lookR T18) := lookR_cons sallyportref8_WriteO T43_ok

/- sallyport/sallyportref8.Pending -/
def sallyportref8_Pending0 (a0_X : Nat → Int) (a0_PC : Int) (a0_Level : Int) (a0_V : Bool) (a0_C : Nat → Int) (a0_Done : Int) (a1 : Bool) (a2 : Bool) : Int :=
  bif a1 then bif a2 then iOr IntKind.u64 (iOr IntKind.u64 (a0_C 19) 32) 512 else iOr IntKind.u64 (a0_C 19) 32 else bif a2 then iOr IntKind.u64 (a0_C 19) 512 else a0_C 19
def sallyportref8_PendingG (a0_X : Nat → Int) (a0_PC : Int) (a0_Level : Int) (a0_V : Bool) (a0_C : Nat → Int) (a0_Done : Int) (a1 : Bool) (a2 : Bool) : Bool :=
  bif a1 then bif a2 then true else true else bif a2 then true else true
def sallyportref8_PendingV (a0_X : Nat → Int) (a0_PC : Int) (a0_Level : Int) (a0_V : Bool) (a0_C : Nat → Int) (a0_Done : Int) (a1 : Bool) (a2 : Bool) : AV := .it .u64 (sallyportref8_Pending0 a0_X a0_PC a0_Level a0_V a0_C a0_Done a1 a2)
theorem sallyportref8_PendingE (g : Nat → AV) : pcOf Try.prog okT (lookR T18) (inl Try.prog okT (lookR T18) RO FS 100 ST 2) RO NOV 100 false Try.f28 (norms [(.agg [(.arr 32 (.int .u64)), (.int .u64), (.int .i64), .bool, (.arr 29 (.int .u64)), (.int .u64)]), .bool, .bool] 0 g) = some (sallyportref8_PendingG (fun i0 => (((g 0).fld 0).ix i0).num) (((g 0).fld 1).num) (((g 0).fld 2).num) (((g 0).fld 3).bool) (fun i0 => (((g 0).fld 4).ix i0).num) (((g 0).fld 5).num) ((g 1).bool) ((g 2).bool), sallyportref8_PendingV (fun i0 => (((g 0).fld 0).ix i0).num) (((g 0).fld 1).num) (((g 0).fld 2).num) (((g 0).fld 3).bool) (fun i0 => (((g 0).fld 4).ix i0).num) (((g 0).fld 5).num) ((g 1).bool) ((g 2).bool)) := by kernel_rfl
theorem sallyportref8_PendingP : Plain Try.prog 28 Try.f28 := ⟨Try.func28, of_decide_eq_true (by kernel_rfl)⟩
theorem sallyportref8_PendingT (a0_X : Nat → Int) (a0_PC : Int) (a0_Level : Int) (a0_V : Bool) (a0_C : Nat → Int) (a0_Done : Int) (a1 : Bool) (a2 : Bool) : sallyportref8_PendingG a0_X a0_PC a0_Level a0_V a0_C a0_Done a1 a2 = true := by first | (simp [sallyportref8_PendingG]; done) | (simp [sallyportref8_PendingG, Go.Ev.iEq, Go.Ev.iNe, Go.Ev.iLt, Go.Ev.iLe, Go.Ev.iIn]; omega)
theorem sallyportref8_PendingO : RowOk Try.prog 28 (rowF [(.agg [(.arr 32 (.int .u64)), (.int .u64), (.int .i64), .bool, (.arr 29 (.int .u64)), (.int .u64)]), .bool, .bool] none fun g => sallyportref8_PendingV (fun i0 => (((g 0).fld 0).ix i0).num) (((g 0).fld 1).num) (((g 0).fld 2).num) (((g 0).fld 3).bool) (fun i0 => (((g 0).fld 4).ix i0).num) (((g 0).fld 5).num) ((g 1).bool) ((g 2).bool)) := rowT_ok fun g => pcOf_ok mix fair T18_ok (inl_ok mix fair T18_ok FS_ok 2) sallyportref8_PendingP (fun c _ => OvOk_none c) (sallyportref8_PendingE g) (sallyportref8_PendingT (fun i0 => (((g 0).fld 0).ix i0).num) (((g 0).fld 1).num) (((g 0).fld 2).num) (((g 0).fld 3).bool) (fun i0 => (((g 0).fld 4).ix i0).num) (((g 0).fld 5).num) ((g 1).bool) ((g 2).bool))
def T28 : List Row := (28, (rowF [(.agg [(.arr 32 (.int .u64)), (.int .u64), (.int .i64), .bool, (.arr 29 (.int .u64)), (.int .u64)]), .bool, .bool] none fun g => sallyportref8_PendingV (fun i0 => (((g 0).fld 0).ix i0).num) (((g 0).fld 1).num) (((g 0).fld 2).num) (((g 0).fld 3).bool) (fun i0 => (((g 0).fld 4).ix i0).num) (((g 0).fld 5).num) ((g 1).bool) ((g 2).bool))) :: T18
theorem T28_ok : PSound Try.prog (lookR T28) := lookR_cons sallyportref8_PendingO T18_ok

/- sallyport/sallyportref8.Redirect -/
def sallyportref8_Redirect0 (a0 : Int) : Int :=
  bif iEq a0 256 then bif iEq a0 256 then iAdd IntKind.i64 a0 256 else a0
  else
    bif iEq a0 260 then bif iEq a0 260 then iAdd IntKind.i64 a0 256 else a0
    else
      bif iEq a0 261 then bif iEq a0 261 then iAdd IntKind.i64 a0 256 else a0
      else
        bif iEq a0 320 then bif iEq a0 320 then iAdd IntKind.i64 a0 256 else a0
        else
          bif iEq a0 321 then bif iEq a0 321 then iAdd IntKind.i64 a0 256 else a0
          else
            bif iEq a0 322 then bif iEq a0 322 then iAdd IntKind.i64 a0 256 else a0
            else bif iEq a0 323 then bif iEq a0 323 then iAdd IntKind.i64 a0 256 else a0 else bif iEq a0 384 then iAdd IntKind.i64 a0 256 else a0
def sallyportref8_RedirectG (a0 : Int) : Bool :=
  bif iEq a0 256 then bif iEq a0 256 then true else true
  else
    bif iEq a0 260 then bif iEq a0 260 then true else true
    else
      bif iEq a0 261 then bif iEq a0 261 then true else true
      else
        bif iEq a0 320 then bif iEq a0 320 then true else true
        else
          bif iEq a0 321 then bif iEq a0 321 then true else true
          else bif iEq a0 322 then bif iEq a0 322 then true else true else bif iEq a0 323 then bif iEq a0 323 then true else true else bif iEq a0 384 then true else true
def sallyportref8_RedirectV (a0 : Int) : AV := .it .i64 (sallyportref8_Redirect0 a0)
theorem sallyportref8_RedirectE (g : Nat → AV) : pcOf Try.prog okT (lookR T28) (NOH) RO NOV 100 false Try.f26 (norms [(.int .i64)] 0 g) = some (sallyportref8_RedirectG ((g 0).num), sallyportref8_RedirectV ((g 0).num)) := by kernel_rfl
theorem sallyportref8_RedirectP : Plain Try.prog 26 Try.f26 := ⟨Try.func26, of_decide_eq_true (by kernel_rfl)⟩
theorem sallyportref8_RedirectT (a0 : Int) : sallyportref8_RedirectG a0 = true := by first | (simp [sallyportref8_RedirectG]; done) | (simp [sallyportref8_RedirectG, Go.Ev.iEq, Go.Ev.iNe, Go.Ev.iLt, Go.Ev.iLe, Go.Ev.iIn]; omega)
theorem sallyportref8_RedirectO : RowOk Try.prog 26 (rowF [(.int .i64)] none fun g => sallyportref8_RedirectV ((g 0).num)) := rowT_ok fun g => pcOf_ok mix fair T28_ok (HSound_none) sallyportref8_RedirectP (fun c _ => OvOk_none c) (sallyportref8_RedirectE g) (sallyportref8_RedirectT ((g 0).num))
def T26 : List Row := (26, (rowF [(.int .i64)] none fun g => sallyportref8_RedirectV ((g 0).num))) :: T28
theorem T26_ok : PSound Try.prog (lookR T26) := lookR_cons sallyportref8_RedirectO T28_ok

/- sallyport/sallyportlaw8.known -/
def sallyportlaw8_knownG  : Bool :=
  true
def sallyportlaw8_knownV  : AV := .bl true
theorem sallyportlaw8_knownE (g : Nat → AV) : pcOf Try.prog okT (lookR T26) (inl Try.prog okT (lookR T26) RO FS 100 ST 2) RO NOV 100 true Try.f14 (norms [] 0 g) = some (sallyportlaw8_knownG , sallyportlaw8_knownV ) := by kernel_rfl
theorem sallyportlaw8_knownP : Plain Try.prog 14 Try.f14 := ⟨Try.func14, of_decide_eq_true (by kernel_rfl)⟩
theorem sallyportlaw8_knownT  : sallyportlaw8_knownG  = true := rfl
theorem sallyportlaw8_knownO : RowOk Try.prog 14 (rowF [] none fun g => sallyportlaw8_knownV ) := rowT_ok fun g => pcOf_ok mix fair T26_ok (inl_ok mix fair T26_ok FS_ok 2) sallyportlaw8_knownP (fun c _ => OvOk_none c) (sallyportlaw8_knownE g) (sallyportlaw8_knownT )
def T14 : List Row := (14, (rowF [] none fun g => sallyportlaw8_knownV )) :: T26
theorem T14_ok : PSound Try.prog (lookR T14) := lookR_cons sallyportlaw8_knownO T26_ok

/- sallyport/sallyportlaw8.CsrNumbers -/
def sallyportlaw8_CsrNumbers0 (a0 : Int) (a1 : Int) : Bool :=
  bif
      bif bif !iLe 0 (csr_Number0 a0) == bif iLe 0 a0 then iLt a0 29 else false then true else bif bif iLe 0 a0 then iLt a0 29 else false then iNe (csr_Index0 (csr_Number0 a0)) a0 else false then true
      else bif !bif iLe 0 a0 then iLt a0 29 else false then iNe (csr_Mask0 a0) 0 else false then
    false
  else
    bif iEq (csr_Number0 a0) (csr_Number0 a1) == bif iEq a0 a1 then true else bif iEq (csr_Number0 a0) (-1) then iEq (csr_Number0 a1) (-1) else false then
      bif iEq (csr_Index0 a0) (-1) then true else iEq (csr_Number0 (csr_Index0 a0)) a0
    else false
def sallyportlaw8_CsrNumbersG (a0 : Int) (a1 : Int) : Bool :=
  bif
      bif bif !iLe 0 (csr_Number0 a0) == bif iLe 0 a0 then iLt a0 29 else false then true else bif bif iLe 0 a0 then iLt a0 29 else false then iNe (csr_Index0 (csr_Number0 a0)) a0 else false then true
      else bif !bif iLe 0 a0 then iLt a0 29 else false then iNe (csr_Mask0 a0) 0 else false then
    true
  else true
def sallyportlaw8_CsrNumbersV (a0 : Int) (a1 : Int) : AV := .bl (sallyportlaw8_CsrNumbers0 a0 a1)
theorem sallyportlaw8_CsrNumbersE (g : Nat → AV) : pcOf Try.prog okT (lookR T14) (NOH) RO NOV 100 false Try.f6 (norms [(.int .i64), (.int .i64)] 0 g) = some (sallyportlaw8_CsrNumbersG ((g 0).num) ((g 1).num), sallyportlaw8_CsrNumbersV ((g 0).num) ((g 1).num)) := by kernel_rfl
theorem sallyportlaw8_CsrNumbersP : Plain Try.prog 6 Try.f6 := ⟨Try.func6, of_decide_eq_true (by kernel_rfl)⟩
theorem sallyportlaw8_CsrNumbersT (a0 : Int) (a1 : Int) : sallyportlaw8_CsrNumbersG a0 a1 = true := by first | (simp [sallyportlaw8_CsrNumbersG]; done) | (simp [sallyportlaw8_CsrNumbersG, Go.Ev.iEq, Go.Ev.iNe, Go.Ev.iLt, Go.Ev.iLe, Go.Ev.iIn]; omega)
theorem sallyportlaw8_CsrNumbersO : RowOk Try.prog 6 (rowF [(.int .i64), (.int .i64)] none fun g => sallyportlaw8_CsrNumbersV ((g 0).num) ((g 1).num)) := rowT_ok fun g => pcOf_ok mix fair T14_ok (HSound_none) sallyportlaw8_CsrNumbersP (fun c _ => OvOk_none c) (sallyportlaw8_CsrNumbersE g) (sallyportlaw8_CsrNumbersT ((g 0).num) ((g 1).num))
def T6 : List Row := (6, (rowF [(.int .i64), (.int .i64)] none fun g => sallyportlaw8_CsrNumbersV ((g 0).num) ((g 1).num))) :: T14
theorem T6_ok : PSound Try.prog (lookR T6) := lookR_cons sallyportlaw8_CsrNumbersO T14_ok

/- sallyport/sallyportlaw8.CsrGuests -/
def sallyportlaw8_CsrGuests0 (a0_X : Nat → Int) (a0_PC : Int) (a0_Level : Int) (a0_V : Bool) (a0_C : Nat → Int) (a0_Done : Int) (a1 : Int) (a2 : Int) : Bool :=
  bif iNe (csr_Redirect0 (csr_Redirect0 a1)) (csr_Redirect0 a1) then false
  else
    bif iEq (csr_Redirect0 a1) a1 then true
    else
      bif
          bif
              bif
                  bif
                      bif
                          bif csr_Write6 (fun i0 => a0_X i0) a0_PC a0_Level a0_V (fun i0 => a0_C i0) a0_Done (csr_Redirect0 a1) a2 then
                            csr_Read1 (fun i0 => a0_X i0) a0_PC a0_Level a0_V (fun i0 => a0_C i0) a0_Done a1
                          else false then
                        csr_Read1 (fun i0 => csr_Write0 (fun i0 => a0_X i0) a0_PC a0_Level a0_V (fun i0 => a0_C i0) a0_Done (csr_Redirect0 a1) a2 i0)
                          (csr_Write1 (fun i0 => a0_X i0) a0_PC a0_Level a0_V (fun i0 => a0_C i0) a0_Done (csr_Redirect0 a1) a2)
                          (csr_Write2 (fun i0 => a0_X i0) a0_PC a0_Level a0_V (fun i0 => a0_C i0) a0_Done (csr_Redirect0 a1) a2)
                          (csr_Write3 (fun i0 => a0_X i0) a0_PC a0_Level a0_V (fun i0 => a0_C i0) a0_Done (csr_Redirect0 a1) a2)
                          (fun i0 => csr_Write4 (fun i0 => a0_X i0) a0_PC a0_Level a0_V (fun i0 => a0_C i0) a0_Done (csr_Redirect0 a1) a2 i0)
                          (csr_Write5 (fun i0 => a0_X i0) a0_PC a0_Level a0_V (fun i0 => a0_C i0) a0_Done (csr_Redirect0 a1) a2) a1
                      else false then
                    iEq (csr_Read0 (fun i0 => a0_X i0) a0_PC a0_Level a0_V (fun i0 => a0_C i0) a0_Done a1)
                      (csr_Read0 (fun i0 => csr_Write0 (fun i0 => a0_X i0) a0_PC a0_Level a0_V (fun i0 => a0_C i0) a0_Done (csr_Redirect0 a1) a2 i0)
                        (csr_Write1 (fun i0 => a0_X i0) a0_PC a0_Level a0_V (fun i0 => a0_C i0) a0_Done (csr_Redirect0 a1) a2)
                        (csr_Write2 (fun i0 => a0_X i0) a0_PC a0_Level a0_V (fun i0 => a0_C i0) a0_Done (csr_Redirect0 a1) a2)
                        (csr_Write3 (fun i0 => a0_X i0) a0_PC a0_Level a0_V (fun i0 => a0_C i0) a0_Done (csr_Redirect0 a1) a2)
                        (fun i0 => csr_Write4 (fun i0 => a0_X i0) a0_PC a0_Level a0_V (fun i0 => a0_C i0) a0_Done (csr_Redirect0 a1) a2 i0)
                        (csr_Write5 (fun i0 => a0_X i0) a0_PC a0_Level a0_V (fun i0 => a0_C i0) a0_Done (csr_Redirect0 a1) a2) a1)
                  else false then
                iEq (csr_Redirect0 a1) (iAdd IntKind.i64 a1 256)
              else false then
            iLe 256 a1
          else false then
        iLt a1 512
      else false
def sallyportlaw8_CsrGuestsG (a0_X : Nat → Int) (a0_PC : Int) (a0_Level : Int) (a0_V : Bool) (a0_C : Nat → Int) (a0_Done : Int) (a1 : Int) (a2 : Int) : Bool :=
  bif iNe (csr_Redirect0 (csr_Redirect0 a1)) (csr_Redirect0 a1) then true else bif iEq (csr_Redirect0 a1) a1 then true else true
def sallyportlaw8_CsrGuestsV (a0_X : Nat → Int) (a0_PC : Int) (a0_Level : Int) (a0_V : Bool) (a0_C : Nat → Int) (a0_Done : Int) (a1 : Int) (a2 : Int) : AV := .bl (sallyportlaw8_CsrGuests0 a0_X a0_PC a0_Level a0_V a0_C a0_Done a1 a2)
theorem sallyportlaw8_CsrGuestsE (g : Nat → AV) : pcOf Try.prog okT (lookR T6) (NOH) RO NOV 100 false Try.f7 (norms [(.agg [(.arr 32 (.int .u64)), (.int .u64), (.int .i64), .bool, (.arr 29 (.int .u64)), (.int .u64)]), (.int .i64), (.int .u64)] 0 g) = some (sallyportlaw8_CsrGuestsG (fun i0 => (((g 0).fld 0).ix i0).num) (((g 0).fld 1).num) (((g 0).fld 2).num) (((g 0).fld 3).bool) (fun i0 => (((g 0).fld 4).ix i0).num) (((g 0).fld 5).num) ((g 1).num) ((g 2).num), sallyportlaw8_CsrGuestsV (fun i0 => (((g 0).fld 0).ix i0).num) (((g 0).fld 1).num) (((g 0).fld 2).num) (((g 0).fld 3).bool) (fun i0 => (((g 0).fld 4).ix i0).num) (((g 0).fld 5).num) ((g 1).num) ((g 2).num)) := by kernel_rfl
theorem sallyportlaw8_CsrGuestsP : Plain Try.prog 7 Try.f7 := ⟨Try.func7, of_decide_eq_true (by kernel_rfl)⟩
theorem sallyportlaw8_CsrGuestsT (a0_X : Nat → Int) (a0_PC : Int) (a0_Level : Int) (a0_V : Bool) (a0_C : Nat → Int) (a0_Done : Int) (a1 : Int) (a2 : Int) : sallyportlaw8_CsrGuestsG a0_X a0_PC a0_Level a0_V a0_C a0_Done a1 a2 = true := by first | (simp [sallyportlaw8_CsrGuestsG]; done) | (simp [sallyportlaw8_CsrGuestsG, Go.Ev.iEq, Go.Ev.iNe, Go.Ev.iLt, Go.Ev.iLe, Go.Ev.iIn]; omega)
theorem sallyportlaw8_CsrGuestsO : RowOk Try.prog 7 (rowF [(.agg [(.arr 32 (.int .u64)), (.int .u64), (.int .i64), .bool, (.arr 29 (.int .u64)), (.int .u64)]), (.int .i64), (.int .u64)] none fun g => sallyportlaw8_CsrGuestsV (fun i0 => (((g 0).fld 0).ix i0).num) (((g 0).fld 1).num) (((g 0).fld 2).num) (((g 0).fld 3).bool) (fun i0 => (((g 0).fld 4).ix i0).num) (((g 0).fld 5).num) ((g 1).num) ((g 2).num)) := rowT_ok fun g => pcOf_ok mix fair T6_ok (HSound_none) sallyportlaw8_CsrGuestsP (fun c _ => OvOk_none c) (sallyportlaw8_CsrGuestsE g) (sallyportlaw8_CsrGuestsT (fun i0 => (((g 0).fld 0).ix i0).num) (((g 0).fld 1).num) (((g 0).fld 2).num) (((g 0).fld 3).bool) (fun i0 => (((g 0).fld 4).ix i0).num) (((g 0).fld 5).num) ((g 1).num) ((g 2).num))
def T7 : List Row := (7, (rowF [(.agg [(.arr 32 (.int .u64)), (.int .u64), (.int .i64), .bool, (.arr 29 (.int .u64)), (.int .u64)]), (.int .i64), (.int .u64)] none fun g => sallyportlaw8_CsrGuestsV (fun i0 => (((g 0).fld 0).ix i0).num) (((g 0).fld 1).num) (((g 0).fld 2).num) (((g 0).fld 3).bool) (fun i0 => (((g 0).fld 4).ix i0).num) (((g 0).fld 5).num) ((g 1).num) ((g 2).num))) :: T6
theorem T7_ok : PSound Try.prog (lookR T7) := lookR_cons sallyportlaw8_CsrGuestsO T6_ok

/- sallyport/sallyportlaw8.CsrPending -/
def sallyportlaw8_CsrPending0 (a0_X : Nat → Int) (a0_PC : Int) (a0_Level : Int) (a0_V : Bool) (a0_C : Nat → Int) (a0_Done : Int) (a1 : Int) (a2 : Bool) (a3 : Bool) : Bool :=
  bif
      bif
          bif
              bif
                  bif csr_Write6 (fun i0 => a0_X i0) a0_PC a0_Level a0_V (fun i0 => bif i0 == 19 then iAnd IntKind.u64 (a0_C 19) 1088 else a0_C i0) a0_Done 1605 a1 then
                    iEq
                        (iAnd IntKind.u64
                          (iShr IntKind.u64
                            (csr_Pending0 (fun i0 => csr_Write0 (fun i0 => a0_X i0) a0_PC a0_Level a0_V (fun i0 => bif i0 == 19 then iAnd IntKind.u64 (a0_C 19) 1088 else a0_C i0) a0_Done 1605 a1 i0)
                              (csr_Write1 (fun i0 => a0_X i0) a0_PC a0_Level a0_V (fun i0 => bif i0 == 19 then iAnd IntKind.u64 (a0_C 19) 1088 else a0_C i0) a0_Done 1605 a1)
                              (csr_Write2 (fun i0 => a0_X i0) a0_PC a0_Level a0_V (fun i0 => bif i0 == 19 then iAnd IntKind.u64 (a0_C 19) 1088 else a0_C i0) a0_Done 1605 a1)
                              (csr_Write3 (fun i0 => a0_X i0) a0_PC a0_Level a0_V (fun i0 => bif i0 == 19 then iAnd IntKind.u64 (a0_C 19) 1088 else a0_C i0) a0_Done 1605 a1)
                              (fun i0 => csr_Write4 (fun i0 => a0_X i0) a0_PC a0_Level a0_V (fun i0 => bif i0 == 19 then iAnd IntKind.u64 (a0_C 19) 1088 else a0_C i0) a0_Done 1605 a1 i0)
                              (csr_Write5 (fun i0 => a0_X i0) a0_PC a0_Level a0_V (fun i0 => bif i0 == 19 then iAnd IntKind.u64 (a0_C 19) 1088 else a0_C i0) a0_Done 1605 a1) a2 a3)
                            5)
                          1)
                        1 ==
                      a2
                  else false then
                iEq
                    (iAnd IntKind.u64
                      (iShr IntKind.u64
                        (csr_Pending0 (fun i0 => csr_Write0 (fun i0 => a0_X i0) a0_PC a0_Level a0_V (fun i0 => bif i0 == 19 then iAnd IntKind.u64 (a0_C 19) 1088 else a0_C i0) a0_Done 1605 a1 i0)
                          (csr_Write1 (fun i0 => a0_X i0) a0_PC a0_Level a0_V (fun i0 => bif i0 == 19 then iAnd IntKind.u64 (a0_C 19) 1088 else a0_C i0) a0_Done 1605 a1)
                          (csr_Write2 (fun i0 => a0_X i0) a0_PC a0_Level a0_V (fun i0 => bif i0 == 19 then iAnd IntKind.u64 (a0_C 19) 1088 else a0_C i0) a0_Done 1605 a1)
                          (csr_Write3 (fun i0 => a0_X i0) a0_PC a0_Level a0_V (fun i0 => bif i0 == 19 then iAnd IntKind.u64 (a0_C 19) 1088 else a0_C i0) a0_Done 1605 a1)
                          (fun i0 => csr_Write4 (fun i0 => a0_X i0) a0_PC a0_Level a0_V (fun i0 => bif i0 == 19 then iAnd IntKind.u64 (a0_C 19) 1088 else a0_C i0) a0_Done 1605 a1 i0)
                          (csr_Write5 (fun i0 => a0_X i0) a0_PC a0_Level a0_V (fun i0 => bif i0 == 19 then iAnd IntKind.u64 (a0_C 19) 1088 else a0_C i0) a0_Done 1605 a1) a2 a3)
                        9)
                      1)
                    1 ==
                  a3
              else false then
            iEq
              (iAndNot IntKind.u64
                (csr_Pending0 (fun i0 => csr_Write0 (fun i0 => a0_X i0) a0_PC a0_Level a0_V (fun i0 => bif i0 == 19 then iAnd IntKind.u64 (a0_C 19) 1088 else a0_C i0) a0_Done 1605 a1 i0)
                  (csr_Write1 (fun i0 => a0_X i0) a0_PC a0_Level a0_V (fun i0 => bif i0 == 19 then iAnd IntKind.u64 (a0_C 19) 1088 else a0_C i0) a0_Done 1605 a1)
                  (csr_Write2 (fun i0 => a0_X i0) a0_PC a0_Level a0_V (fun i0 => bif i0 == 19 then iAnd IntKind.u64 (a0_C 19) 1088 else a0_C i0) a0_Done 1605 a1)
                  (csr_Write3 (fun i0 => a0_X i0) a0_PC a0_Level a0_V (fun i0 => bif i0 == 19 then iAnd IntKind.u64 (a0_C 19) 1088 else a0_C i0) a0_Done 1605 a1)
                  (fun i0 => csr_Write4 (fun i0 => a0_X i0) a0_PC a0_Level a0_V (fun i0 => bif i0 == 19 then iAnd IntKind.u64 (a0_C 19) 1088 else a0_C i0) a0_Done 1605 a1 i0)
                  (csr_Write5 (fun i0 => a0_X i0) a0_PC a0_Level a0_V (fun i0 => bif i0 == 19 then iAnd IntKind.u64 (a0_C 19) 1088 else a0_C i0) a0_Done 1605 a1) a2 a3)
                1632)
              0
          else false then
        iEq
          (iAnd IntKind.u64
            (iShr IntKind.u64
              (csr_Pending0 (fun i0 => csr_Write0 (fun i0 => a0_X i0) a0_PC a0_Level a0_V (fun i0 => bif i0 == 19 then iAnd IntKind.u64 (a0_C 19) 1088 else a0_C i0) a0_Done 1605 a1 i0)
                (csr_Write1 (fun i0 => a0_X i0) a0_PC a0_Level a0_V (fun i0 => bif i0 == 19 then iAnd IntKind.u64 (a0_C 19) 1088 else a0_C i0) a0_Done 1605 a1)
                (csr_Write2 (fun i0 => a0_X i0) a0_PC a0_Level a0_V (fun i0 => bif i0 == 19 then iAnd IntKind.u64 (a0_C 19) 1088 else a0_C i0) a0_Done 1605 a1)
                (csr_Write3 (fun i0 => a0_X i0) a0_PC a0_Level a0_V (fun i0 => bif i0 == 19 then iAnd IntKind.u64 (a0_C 19) 1088 else a0_C i0) a0_Done 1605 a1)
                (fun i0 => csr_Write4 (fun i0 => a0_X i0) a0_PC a0_Level a0_V (fun i0 => bif i0 == 19 then iAnd IntKind.u64 (a0_C 19) 1088 else a0_C i0) a0_Done 1605 a1 i0)
                (csr_Write5 (fun i0 => a0_X i0) a0_PC a0_Level a0_V (fun i0 => bif i0 == 19 then iAnd IntKind.u64 (a0_C 19) 1088 else a0_C i0) a0_Done 1605 a1) a2 a3)
              6)
            1)
          (iAnd IntKind.u64 (iShr IntKind.u64 a1 6) 1)
      else false then
    iEq
      (iAnd IntKind.u64
        (iShr IntKind.u64
          (csr_Pending0 (fun i0 => csr_Write0 (fun i0 => a0_X i0) a0_PC a0_Level a0_V (fun i0 => bif i0 == 19 then iAnd IntKind.u64 (a0_C 19) 1088 else a0_C i0) a0_Done 1605 a1 i0)
            (csr_Write1 (fun i0 => a0_X i0) a0_PC a0_Level a0_V (fun i0 => bif i0 == 19 then iAnd IntKind.u64 (a0_C 19) 1088 else a0_C i0) a0_Done 1605 a1)
            (csr_Write2 (fun i0 => a0_X i0) a0_PC a0_Level a0_V (fun i0 => bif i0 == 19 then iAnd IntKind.u64 (a0_C 19) 1088 else a0_C i0) a0_Done 1605 a1)
            (csr_Write3 (fun i0 => a0_X i0) a0_PC a0_Level a0_V (fun i0 => bif i0 == 19 then iAnd IntKind.u64 (a0_C 19) 1088 else a0_C i0) a0_Done 1605 a1)
            (fun i0 => csr_Write4 (fun i0 => a0_X i0) a0_PC a0_Level a0_V (fun i0 => bif i0 == 19 then iAnd IntKind.u64 (a0_C 19) 1088 else a0_C i0) a0_Done 1605 a1 i0)
            (csr_Write5 (fun i0 => a0_X i0) a0_PC a0_Level a0_V (fun i0 => bif i0 == 19 then iAnd IntKind.u64 (a0_C 19) 1088 else a0_C i0) a0_Done 1605 a1) a2 a3)
          10)
        1)
      (iAnd IntKind.u64 (iShr IntKind.u64 a1 10) 1)
  else false
def sallyportlaw8_CsrPendingG (a0_X : Nat → Int) (a0_PC : Int) (a0_Level : Int) (a0_V : Bool) (a0_C : Nat → Int) (a0_Done : Int) (a1 : Int) (a2 : Bool) (a3 : Bool) : Bool :=
  true
def sallyportlaw8_CsrPendingV (a0_X : Nat → Int) (a0_PC : Int) (a0_Level : Int) (a0_V : Bool) (a0_C : Nat → Int) (a0_Done : Int) (a1 : Int) (a2 : Bool) (a3 : Bool) : AV := .bl (sallyportlaw8_CsrPending0 a0_X a0_PC a0_Level a0_V a0_C a0_Done a1 a2 a3)
theorem sallyportlaw8_CsrPendingE (g : Nat → AV) : pcOf Try.prog okT (lookR T7) (NOH) RO NOV 100 false Try.f8 (norms [(.agg [(.arr 32 (.int .u64)), (.int .u64), (.int .i64), .bool, (.arr 29 (.int .u64)), (.int .u64)]), (.int .u64), .bool, .bool] 0 g) = some (sallyportlaw8_CsrPendingG (fun i0 => (((g 0).fld 0).ix i0).num) (((g 0).fld 1).num) (((g 0).fld 2).num) (((g 0).fld 3).bool) (fun i0 => (((g 0).fld 4).ix i0).num) (((g 0).fld 5).num) ((g 1).num) ((g 2).bool) ((g 3).bool), sallyportlaw8_CsrPendingV (fun i0 => (((g 0).fld 0).ix i0).num) (((g 0).fld 1).num) (((g 0).fld 2).num) (((g 0).fld 3).bool) (fun i0 => (((g 0).fld 4).ix i0).num) (((g 0).fld 5).num) ((g 1).num) ((g 2).bool) ((g 3).bool)) := by kernel_rfl
theorem sallyportlaw8_CsrPendingP : Plain Try.prog 8 Try.f8 := ⟨Try.func8, of_decide_eq_true (by kernel_rfl)⟩
theorem sallyportlaw8_CsrPendingT (a0_X : Nat → Int) (a0_PC : Int) (a0_Level : Int) (a0_V : Bool) (a0_C : Nat → Int) (a0_Done : Int) (a1 : Int) (a2 : Bool) (a3 : Bool) : sallyportlaw8_CsrPendingG a0_X a0_PC a0_Level a0_V a0_C a0_Done a1 a2 a3 = true := rfl
theorem sallyportlaw8_CsrPendingO : RowOk Try.prog 8 (rowF [(.agg [(.arr 32 (.int .u64)), (.int .u64), (.int .i64), .bool, (.arr 29 (.int .u64)), (.int .u64)]), (.int .u64), .bool, .bool] none fun g => sallyportlaw8_CsrPendingV (fun i0 => (((g 0).fld 0).ix i0).num) (((g 0).fld 1).num) (((g 0).fld 2).num) (((g 0).fld 3).bool) (fun i0 => (((g 0).fld 4).ix i0).num) (((g 0).fld 5).num) ((g 1).num) ((g 2).bool) ((g 3).bool)) := rowT_ok fun g => pcOf_ok mix fair T7_ok (HSound_none) sallyportlaw8_CsrPendingP (fun c _ => OvOk_none c) (sallyportlaw8_CsrPendingE g) (sallyportlaw8_CsrPendingT (fun i0 => (((g 0).fld 0).ix i0).num) (((g 0).fld 1).num) (((g 0).fld 2).num) (((g 0).fld 3).bool) (fun i0 => (((g 0).fld 4).ix i0).num) (((g 0).fld 5).num) ((g 1).num) ((g 2).bool) ((g 3).bool))
def T8 : List Row := (8, (rowF [(.agg [(.arr 32 (.int .u64)), (.int .u64), (.int .i64), .bool, (.arr 29 (.int .u64)), (.int .u64)]), (.int .u64), .bool, .bool] none fun g => sallyportlaw8_CsrPendingV (fun i0 => (((g 0).fld 0).ix i0).num) (((g 0).fld 1).num) (((g 0).fld 2).num) (((g 0).fld 3).bool) (fun i0 => (((g 0).fld 4).ix i0).num) (((g 0).fld 5).num) ((g 1).num) ((g 2).bool) ((g 3).bool))) :: T7
theorem T8_ok : PSound Try.prog (lookR T8) := lookR_cons sallyportlaw8_CsrPendingO T7_ok

/- sallyport/sallyportlaw8.CsrTells -/
def sallyportlaw8_CsrTells0 (a0_X : Nat → Int) (a0_PC : Int) (a0_Level : Int) (a0_V : Bool) (a0_C : Nat → Int) (a0_Done : Int) (a1 : Int) (a2 : Int) (a3 : Int) (a4 : Bool) (a5 : Bool) : Bool :=
  bif
      bif
          bif
              bif
                  bif
                      bif
                          bif
                              bif
                                  iEq (csr_Read0 (fun i0 => a0_X i0) a0_PC a0_Level a0_V (fun i0 => a0_C i0) a0_Done a1)
                                    (sallyportref8_Read0 (fun i0 => a0_X i0) a0_PC a0_Level a0_V (fun i0 => a0_C i0) a0_Done a1) then
                                csr_Read1 (fun i0 => a0_X i0) a0_PC a0_Level a0_V (fun i0 => a0_C i0) a0_Done a1 ==
                                  sallyportref8_Read1 (fun i0 => a0_X i0) a0_PC a0_Level a0_V (fun i0 => a0_C i0) a0_Done a1
                              else false then
                            ((List.range 32).all fun i =>
                                iEq (csr_Write0 (fun i0 => a0_X i0) a0_PC a0_Level a0_V (fun i0 => a0_C i0) a0_Done a1 a3 i)
                                  (sallyportref8_Write0 (fun i0 => a0_X i0) a0_PC a0_Level a0_V (fun i0 => a0_C i0) a0_Done a1 a3 i)) &&
                              (iEq (csr_Write1 (fun i0 => a0_X i0) a0_PC a0_Level a0_V (fun i0 => a0_C i0) a0_Done a1 a3)
                                  (sallyportref8_Write1 (fun i0 => a0_X i0) a0_PC a0_Level a0_V (fun i0 => a0_C i0) a0_Done a1 a3) &&
                                (iEq (csr_Write2 (fun i0 => a0_X i0) a0_PC a0_Level a0_V (fun i0 => a0_C i0) a0_Done a1 a3)
                                    (sallyportref8_Write2 (fun i0 => a0_X i0) a0_PC a0_Level a0_V (fun i0 => a0_C i0) a0_Done a1 a3) &&
                                  (csr_Write3 (fun i0 => a0_X i0) a0_PC a0_Level a0_V (fun i0 => a0_C i0) a0_Done a1 a3 ==
                                      sallyportref8_Write3 (fun i0 => a0_X i0) a0_PC a0_Level a0_V (fun i0 => a0_C i0) a0_Done a1 a3 &&
                                    (((List.range 29).all fun i =>
                                        iEq (csr_Write4 (fun i0 => a0_X i0) a0_PC a0_Level a0_V (fun i0 => a0_C i0) a0_Done a1 a3 i)
                                          (sallyportref8_Write4 (fun i0 => a0_X i0) a0_PC a0_Level a0_V (fun i0 => a0_C i0) a0_Done a1 a3 i)) &&
                                      (iEq (csr_Write5 (fun i0 => a0_X i0) a0_PC a0_Level a0_V (fun i0 => a0_C i0) a0_Done a1 a3)
                                          (sallyportref8_Write5 (fun i0 => a0_X i0) a0_PC a0_Level a0_V (fun i0 => a0_C i0) a0_Done a1 a3) &&
                                        true)))))
                          else false then
                        csr_Write6 (fun i0 => a0_X i0) a0_PC a0_Level a0_V (fun i0 => a0_C i0) a0_Done a1 a3 ==
                          sallyportref8_Write6 (fun i0 => a0_X i0) a0_PC a0_Level a0_V (fun i0 => a0_C i0) a0_Done a1 a3
                      else false then
                    iEq (csr_Index0 a1) (sallyportref8_Index0 a1)
                  else false then
                iEq (csr_Number0 a2) (sallyportref8_Number0 a2)
              else false then
            iEq (csr_Mask0 a2) (sallyportref8_Mask0 a2)
          else false then
        iEq (csr_Redirect0 a1) (sallyportref8_Redirect0 a1)
      else false then
    iEq (csr_Pending0 (fun i0 => a0_X i0) a0_PC a0_Level a0_V (fun i0 => a0_C i0) a0_Done a4 a5) (sallyportref8_Pending0 (fun i0 => a0_X i0) a0_PC a0_Level a0_V (fun i0 => a0_C i0) a0_Done a4 a5)
  else false
def sallyportlaw8_CsrTellsG (a0_X : Nat → Int) (a0_PC : Int) (a0_Level : Int) (a0_V : Bool) (a0_C : Nat → Int) (a0_Done : Int) (a1 : Int) (a2 : Int) (a3 : Int) (a4 : Bool) (a5 : Bool) : Bool :=
  true
def sallyportlaw8_CsrTellsV (a0_X : Nat → Int) (a0_PC : Int) (a0_Level : Int) (a0_V : Bool) (a0_C : Nat → Int) (a0_Done : Int) (a1 : Int) (a2 : Int) (a3 : Int) (a4 : Bool) (a5 : Bool) : AV := .bl (sallyportlaw8_CsrTells0 a0_X a0_PC a0_Level a0_V a0_C a0_Done a1 a2 a3 a4 a5)
theorem sallyportlaw8_CsrTellsE (g : Nat → AV) : pcOf Try.prog okT (lookR T8) (NOH) RO NOV 100 false Try.f3 (norms [(.agg [(.arr 32 (.int .u64)), (.int .u64), (.int .i64), .bool, (.arr 29 (.int .u64)), (.int .u64)]), (.int .i64), (.int .i64), (.int .u64), .bool, .bool] 0 g) = some (sallyportlaw8_CsrTellsG (fun i0 => (((g 0).fld 0).ix i0).num) (((g 0).fld 1).num) (((g 0).fld 2).num) (((g 0).fld 3).bool) (fun i0 => (((g 0).fld 4).ix i0).num) (((g 0).fld 5).num) ((g 1).num) ((g 2).num) ((g 3).num) ((g 4).bool) ((g 5).bool), sallyportlaw8_CsrTellsV (fun i0 => (((g 0).fld 0).ix i0).num) (((g 0).fld 1).num) (((g 0).fld 2).num) (((g 0).fld 3).bool) (fun i0 => (((g 0).fld 4).ix i0).num) (((g 0).fld 5).num) ((g 1).num) ((g 2).num) ((g 3).num) ((g 4).bool) ((g 5).bool)) := by kernel_rfl
theorem sallyportlaw8_CsrTellsP : Plain Try.prog 3 Try.f3 := ⟨Try.func3, of_decide_eq_true (by kernel_rfl)⟩
theorem sallyportlaw8_CsrTellsT (a0_X : Nat → Int) (a0_PC : Int) (a0_Level : Int) (a0_V : Bool) (a0_C : Nat → Int) (a0_Done : Int) (a1 : Int) (a2 : Int) (a3 : Int) (a4 : Bool) (a5 : Bool) : sallyportlaw8_CsrTellsG a0_X a0_PC a0_Level a0_V a0_C a0_Done a1 a2 a3 a4 a5 = true := rfl
theorem sallyportlaw8_CsrTellsO : RowOk Try.prog 3 (rowF [(.agg [(.arr 32 (.int .u64)), (.int .u64), (.int .i64), .bool, (.arr 29 (.int .u64)), (.int .u64)]), (.int .i64), (.int .i64), (.int .u64), .bool, .bool] none fun g => sallyportlaw8_CsrTellsV (fun i0 => (((g 0).fld 0).ix i0).num) (((g 0).fld 1).num) (((g 0).fld 2).num) (((g 0).fld 3).bool) (fun i0 => (((g 0).fld 4).ix i0).num) (((g 0).fld 5).num) ((g 1).num) ((g 2).num) ((g 3).num) ((g 4).bool) ((g 5).bool)) := rowT_ok fun g => pcOf_ok mix fair T8_ok (HSound_none) sallyportlaw8_CsrTellsP (fun c _ => OvOk_none c) (sallyportlaw8_CsrTellsE g) (sallyportlaw8_CsrTellsT (fun i0 => (((g 0).fld 0).ix i0).num) (((g 0).fld 1).num) (((g 0).fld 2).num) (((g 0).fld 3).bool) (fun i0 => (((g 0).fld 4).ix i0).num) (((g 0).fld 5).num) ((g 1).num) ((g 2).num) ((g 3).num) ((g 4).bool) ((g 5).bool))
def T3 : List Row := (3, (rowF [(.agg [(.arr 32 (.int .u64)), (.int .u64), (.int .i64), .bool, (.arr 29 (.int .u64)), (.int .u64)]), (.int .i64), (.int .i64), (.int .u64), .bool, .bool] none fun g => sallyportlaw8_CsrTellsV (fun i0 => (((g 0).fld 0).ix i0).num) (((g 0).fld 1).num) (((g 0).fld 2).num) (((g 0).fld 3).bool) (fun i0 => (((g 0).fld 4).ix i0).num) (((g 0).fld 5).num) ((g 1).num) ((g 2).num) ((g 3).num) ((g 4).bool) ((g 5).bool))) :: T8
theorem T3_ok : PSound Try.prog (lookR T3) := lookR_cons sallyportlaw8_CsrTellsO T8_ok

/- sallyport/sallyportlaw8.CsrViews -/
def sallyportlaw8_CsrViews0 (a0_X : Nat → Int) (a0_PC : Int) (a0_Level : Int) (a0_V : Bool) (a0_C : Nat → Int) (a0_Done : Int) (a1 : Int) : Bool :=
  bif
      bif
          bif
              bif
                  bif
                      bif
                          bif !csr_Write6 (fun i0 => a0_X i0) a0_PC a0_Level a0_V (fun i0 => a0_C i0) a0_Done 256 a1 then true
                          else
                            !csr_Read1 (fun i0 => csr_Write0 (fun i0 => a0_X i0) a0_PC a0_Level a0_V (fun i0 => a0_C i0) a0_Done 256 a1 i0)
                                (csr_Write1 (fun i0 => a0_X i0) a0_PC a0_Level a0_V (fun i0 => a0_C i0) a0_Done 256 a1)
                                (csr_Write2 (fun i0 => a0_X i0) a0_PC a0_Level a0_V (fun i0 => a0_C i0) a0_Done 256 a1)
                                (csr_Write3 (fun i0 => a0_X i0) a0_PC a0_Level a0_V (fun i0 => a0_C i0) a0_Done 256 a1)
                                (fun i0 => csr_Write4 (fun i0 => a0_X i0) a0_PC a0_Level a0_V (fun i0 => a0_C i0) a0_Done 256 a1 i0)
                                (csr_Write5 (fun i0 => a0_X i0) a0_PC a0_Level a0_V (fun i0 => a0_C i0) a0_Done 256 a1) 256 then
                        true
                      else !csr_Write6 (fun i0 => a0_X i0) a0_PC a0_Level a0_V (fun i0 => a0_C i0) a0_Done 516 a1 then
                    true
                  else
                    !csr_Read1 (fun i0 => csr_Write0 (fun i0 => a0_X i0) a0_PC a0_Level a0_V (fun i0 => a0_C i0) a0_Done 516 a1 i0)
                        (csr_Write1 (fun i0 => a0_X i0) a0_PC a0_Level a0_V (fun i0 => a0_C i0) a0_Done 516 a1) (csr_Write2 (fun i0 => a0_X i0) a0_PC a0_Level a0_V (fun i0 => a0_C i0) a0_Done 516 a1)
                        (csr_Write3 (fun i0 => a0_X i0) a0_PC a0_Level a0_V (fun i0 => a0_C i0) a0_Done 516 a1)
                        (fun i0 => csr_Write4 (fun i0 => a0_X i0) a0_PC a0_Level a0_V (fun i0 => a0_C i0) a0_Done 516 a1 i0)
                        (csr_Write5 (fun i0 => a0_X i0) a0_PC a0_Level a0_V (fun i0 => a0_C i0) a0_Done 516 a1) 516 then
                true
              else
                !csr_Read1 (fun i0 => csr_Write0 (fun i0 => a0_X i0) a0_PC a0_Level a0_V (fun i0 => a0_C i0) a0_Done 516 a1 i0)
                    (csr_Write1 (fun i0 => a0_X i0) a0_PC a0_Level a0_V (fun i0 => a0_C i0) a0_Done 516 a1) (csr_Write2 (fun i0 => a0_X i0) a0_PC a0_Level a0_V (fun i0 => a0_C i0) a0_Done 516 a1)
                    (csr_Write3 (fun i0 => a0_X i0) a0_PC a0_Level a0_V (fun i0 => a0_C i0) a0_Done 516 a1)
                    (fun i0 => csr_Write4 (fun i0 => a0_X i0) a0_PC a0_Level a0_V (fun i0 => a0_C i0) a0_Done 516 a1 i0)
                    (csr_Write5 (fun i0 => a0_X i0) a0_PC a0_Level a0_V (fun i0 => a0_C i0) a0_Done 516 a1) 260 then
            true
          else !csr_Write6 (fun i0 => a0_X i0) a0_PC a0_Level a0_V (fun i0 => a0_C i0) a0_Done 3074 a1 then
        true
      else
        !(((List.range 32).all fun i => iEq (csr_Write0 (fun i0 => a0_X i0) a0_PC a0_Level a0_V (fun i0 => a0_C i0) a0_Done 3074 a1 i) (a0_X i)) &&
            (iEq (csr_Write1 (fun i0 => a0_X i0) a0_PC a0_Level a0_V (fun i0 => a0_C i0) a0_Done 3074 a1) a0_PC &&
              (iEq (csr_Write2 (fun i0 => a0_X i0) a0_PC a0_Level a0_V (fun i0 => a0_C i0) a0_Done 3074 a1) a0_Level &&
                (csr_Write3 (fun i0 => a0_X i0) a0_PC a0_Level a0_V (fun i0 => a0_C i0) a0_Done 3074 a1 == a0_V &&
                  (((List.range 29).all fun i => iEq (csr_Write4 (fun i0 => a0_X i0) a0_PC a0_Level a0_V (fun i0 => a0_C i0) a0_Done 3074 a1 i) (a0_C i)) &&
                    (iEq (csr_Write5 (fun i0 => a0_X i0) a0_PC a0_Level a0_V (fun i0 => a0_C i0) a0_Done 3074 a1) a0_Done && true)))))) then
    false
  else
    bif
        bif
            bif
                bif
                    iEq
                      (csr_Read0 (fun i0 => csr_Write0 (fun i0 => a0_X i0) a0_PC a0_Level a0_V (fun i0 => a0_C i0) a0_Done 256 a1 i0)
                        (csr_Write1 (fun i0 => a0_X i0) a0_PC a0_Level a0_V (fun i0 => a0_C i0) a0_Done 256 a1) (csr_Write2 (fun i0 => a0_X i0) a0_PC a0_Level a0_V (fun i0 => a0_C i0) a0_Done 256 a1)
                        (csr_Write3 (fun i0 => a0_X i0) a0_PC a0_Level a0_V (fun i0 => a0_C i0) a0_Done 256 a1)
                        (fun i0 => csr_Write4 (fun i0 => a0_X i0) a0_PC a0_Level a0_V (fun i0 => a0_C i0) a0_Done 256 a1 i0)
                        (csr_Write5 (fun i0 => a0_X i0) a0_PC a0_Level a0_V (fun i0 => a0_C i0) a0_Done 256 a1) 256)
                      (iAnd IntKind.u64 a1 786722) then
                  iEq (iAndNot IntKind.u64 (csr_Write4 (fun i0 => a0_X i0) a0_PC a0_Level a0_V (fun i0 => a0_C i0) a0_Done 256 a1 0) 786722) (iAndNot IntKind.u64 (a0_C 0) 786722)
                else false then
              iEq
                (csr_Read0 (fun i0 => csr_Write0 (fun i0 => a0_X i0) a0_PC a0_Level a0_V (fun i0 => a0_C i0) a0_Done 516 a1 i0)
                  (csr_Write1 (fun i0 => a0_X i0) a0_PC a0_Level a0_V (fun i0 => a0_C i0) a0_Done 516 a1) (csr_Write2 (fun i0 => a0_X i0) a0_PC a0_Level a0_V (fun i0 => a0_C i0) a0_Done 516 a1)
                  (csr_Write3 (fun i0 => a0_X i0) a0_PC a0_Level a0_V (fun i0 => a0_C i0) a0_Done 516 a1)
                  (fun i0 => csr_Write4 (fun i0 => a0_X i0) a0_PC a0_Level a0_V (fun i0 => a0_C i0) a0_Done 516 a1 i0)
                  (csr_Write5 (fun i0 => a0_X i0) a0_PC a0_Level a0_V (fun i0 => a0_C i0) a0_Done 516 a1) 516)
                (iAnd IntKind.u64 a1 544)
            else false then
          iEq
            (csr_Read0 (fun i0 => csr_Write0 (fun i0 => a0_X i0) a0_PC a0_Level a0_V (fun i0 => a0_C i0) a0_Done 516 a1 i0)
              (csr_Write1 (fun i0 => a0_X i0) a0_PC a0_Level a0_V (fun i0 => a0_C i0) a0_Done 516 a1) (csr_Write2 (fun i0 => a0_X i0) a0_PC a0_Level a0_V (fun i0 => a0_C i0) a0_Done 516 a1)
              (csr_Write3 (fun i0 => a0_X i0) a0_PC a0_Level a0_V (fun i0 => a0_C i0) a0_Done 516 a1) (fun i0 => csr_Write4 (fun i0 => a0_X i0) a0_PC a0_Level a0_V (fun i0 => a0_C i0) a0_Done 516 a1 i0)
              (csr_Write5 (fun i0 => a0_X i0) a0_PC a0_Level a0_V (fun i0 => a0_C i0) a0_Done 516 a1) 260)
            (iAnd IntKind.u64 (a0_C 3) 544)
        else false then
      iEq (iAndNot IntKind.u64 (csr_Write4 (fun i0 => a0_X i0) a0_PC a0_Level a0_V (fun i0 => a0_C i0) a0_Done 516 a1 3) 1088) (iAndNot IntKind.u64 (a0_C 3) 1088)
    else false
def sallyportlaw8_CsrViewsG (a0_X : Nat → Int) (a0_PC : Int) (a0_Level : Int) (a0_V : Bool) (a0_C : Nat → Int) (a0_Done : Int) (a1 : Int) : Bool :=
  bif
      bif
          bif
              bif
                  bif
                      bif
                          bif !csr_Write6 (fun i0 => a0_X i0) a0_PC a0_Level a0_V (fun i0 => a0_C i0) a0_Done 256 a1 then true
                          else
                            !csr_Read1 (fun i0 => csr_Write0 (fun i0 => a0_X i0) a0_PC a0_Level a0_V (fun i0 => a0_C i0) a0_Done 256 a1 i0)
                                (csr_Write1 (fun i0 => a0_X i0) a0_PC a0_Level a0_V (fun i0 => a0_C i0) a0_Done 256 a1)
                                (csr_Write2 (fun i0 => a0_X i0) a0_PC a0_Level a0_V (fun i0 => a0_C i0) a0_Done 256 a1)
                                (csr_Write3 (fun i0 => a0_X i0) a0_PC a0_Level a0_V (fun i0 => a0_C i0) a0_Done 256 a1)
                                (fun i0 => csr_Write4 (fun i0 => a0_X i0) a0_PC a0_Level a0_V (fun i0 => a0_C i0) a0_Done 256 a1 i0)
                                (csr_Write5 (fun i0 => a0_X i0) a0_PC a0_Level a0_V (fun i0 => a0_C i0) a0_Done 256 a1) 256 then
                        true
                      else !csr_Write6 (fun i0 => a0_X i0) a0_PC a0_Level a0_V (fun i0 => a0_C i0) a0_Done 516 a1 then
                    true
                  else
                    !csr_Read1 (fun i0 => csr_Write0 (fun i0 => a0_X i0) a0_PC a0_Level a0_V (fun i0 => a0_C i0) a0_Done 516 a1 i0)
                        (csr_Write1 (fun i0 => a0_X i0) a0_PC a0_Level a0_V (fun i0 => a0_C i0) a0_Done 516 a1) (csr_Write2 (fun i0 => a0_X i0) a0_PC a0_Level a0_V (fun i0 => a0_C i0) a0_Done 516 a1)
                        (csr_Write3 (fun i0 => a0_X i0) a0_PC a0_Level a0_V (fun i0 => a0_C i0) a0_Done 516 a1)
                        (fun i0 => csr_Write4 (fun i0 => a0_X i0) a0_PC a0_Level a0_V (fun i0 => a0_C i0) a0_Done 516 a1 i0)
                        (csr_Write5 (fun i0 => a0_X i0) a0_PC a0_Level a0_V (fun i0 => a0_C i0) a0_Done 516 a1) 516 then
                true
              else
                !csr_Read1 (fun i0 => csr_Write0 (fun i0 => a0_X i0) a0_PC a0_Level a0_V (fun i0 => a0_C i0) a0_Done 516 a1 i0)
                    (csr_Write1 (fun i0 => a0_X i0) a0_PC a0_Level a0_V (fun i0 => a0_C i0) a0_Done 516 a1) (csr_Write2 (fun i0 => a0_X i0) a0_PC a0_Level a0_V (fun i0 => a0_C i0) a0_Done 516 a1)
                    (csr_Write3 (fun i0 => a0_X i0) a0_PC a0_Level a0_V (fun i0 => a0_C i0) a0_Done 516 a1)
                    (fun i0 => csr_Write4 (fun i0 => a0_X i0) a0_PC a0_Level a0_V (fun i0 => a0_C i0) a0_Done 516 a1 i0)
                    (csr_Write5 (fun i0 => a0_X i0) a0_PC a0_Level a0_V (fun i0 => a0_C i0) a0_Done 516 a1) 260 then
            true
          else !csr_Write6 (fun i0 => a0_X i0) a0_PC a0_Level a0_V (fun i0 => a0_C i0) a0_Done 3074 a1 then
        true
      else
        !(((List.range 32).all fun i => iEq (csr_Write0 (fun i0 => a0_X i0) a0_PC a0_Level a0_V (fun i0 => a0_C i0) a0_Done 3074 a1 i) (a0_X i)) &&
            (iEq (csr_Write1 (fun i0 => a0_X i0) a0_PC a0_Level a0_V (fun i0 => a0_C i0) a0_Done 3074 a1) a0_PC &&
              (iEq (csr_Write2 (fun i0 => a0_X i0) a0_PC a0_Level a0_V (fun i0 => a0_C i0) a0_Done 3074 a1) a0_Level &&
                (csr_Write3 (fun i0 => a0_X i0) a0_PC a0_Level a0_V (fun i0 => a0_C i0) a0_Done 3074 a1 == a0_V &&
                  (((List.range 29).all fun i => iEq (csr_Write4 (fun i0 => a0_X i0) a0_PC a0_Level a0_V (fun i0 => a0_C i0) a0_Done 3074 a1 i) (a0_C i)) &&
                    (iEq (csr_Write5 (fun i0 => a0_X i0) a0_PC a0_Level a0_V (fun i0 => a0_C i0) a0_Done 3074 a1) a0_Done && true)))))) then
    true
  else
    (!iEq
            (csr_Read0 (fun i0 => csr_Write0 (fun i0 => a0_X i0) a0_PC a0_Level a0_V (fun i0 => a0_C i0) a0_Done 256 a1 i0)
              (csr_Write1 (fun i0 => a0_X i0) a0_PC a0_Level a0_V (fun i0 => a0_C i0) a0_Done 256 a1) (csr_Write2 (fun i0 => a0_X i0) a0_PC a0_Level a0_V (fun i0 => a0_C i0) a0_Done 256 a1)
              (csr_Write3 (fun i0 => a0_X i0) a0_PC a0_Level a0_V (fun i0 => a0_C i0) a0_Done 256 a1) (fun i0 => csr_Write4 (fun i0 => a0_X i0) a0_PC a0_Level a0_V (fun i0 => a0_C i0) a0_Done 256 a1 i0)
              (csr_Write5 (fun i0 => a0_X i0) a0_PC a0_Level a0_V (fun i0 => a0_C i0) a0_Done 256 a1) 256)
            (iAnd IntKind.u64 a1 786722) ||
        true) &&
      ((!iEq
              (csr_Read0 (fun i0 => csr_Write0 (fun i0 => a0_X i0) a0_PC a0_Level a0_V (fun i0 => a0_C i0) a0_Done 256 a1 i0)
                (csr_Write1 (fun i0 => a0_X i0) a0_PC a0_Level a0_V (fun i0 => a0_C i0) a0_Done 256 a1) (csr_Write2 (fun i0 => a0_X i0) a0_PC a0_Level a0_V (fun i0 => a0_C i0) a0_Done 256 a1)
                (csr_Write3 (fun i0 => a0_X i0) a0_PC a0_Level a0_V (fun i0 => a0_C i0) a0_Done 256 a1)
                (fun i0 => csr_Write4 (fun i0 => a0_X i0) a0_PC a0_Level a0_V (fun i0 => a0_C i0) a0_Done 256 a1 i0)
                (csr_Write5 (fun i0 => a0_X i0) a0_PC a0_Level a0_V (fun i0 => a0_C i0) a0_Done 256 a1) 256)
              (iAnd IntKind.u64 a1 786722) ||
          true) &&
        (((!bif
                  bif
                      iEq
                        (csr_Read0 (fun i0 => csr_Write0 (fun i0 => a0_X i0) a0_PC a0_Level a0_V (fun i0 => a0_C i0) a0_Done 256 a1 i0)
                          (csr_Write1 (fun i0 => a0_X i0) a0_PC a0_Level a0_V (fun i0 => a0_C i0) a0_Done 256 a1) (csr_Write2 (fun i0 => a0_X i0) a0_PC a0_Level a0_V (fun i0 => a0_C i0) a0_Done 256 a1)
                          (csr_Write3 (fun i0 => a0_X i0) a0_PC a0_Level a0_V (fun i0 => a0_C i0) a0_Done 256 a1)
                          (fun i0 => csr_Write4 (fun i0 => a0_X i0) a0_PC a0_Level a0_V (fun i0 => a0_C i0) a0_Done 256 a1 i0)
                          (csr_Write5 (fun i0 => a0_X i0) a0_PC a0_Level a0_V (fun i0 => a0_C i0) a0_Done 256 a1) 256)
                        (iAnd IntKind.u64 a1 786722) then
                    iEq (iAndNot IntKind.u64 (csr_Write4 (fun i0 => a0_X i0) a0_PC a0_Level a0_V (fun i0 => a0_C i0) a0_Done 256 a1 0) 786722) (iAndNot IntKind.u64 (a0_C 0) 786722)
                  else false then
                iEq
                  (csr_Read0 (fun i0 => csr_Write0 (fun i0 => a0_X i0) a0_PC a0_Level a0_V (fun i0 => a0_C i0) a0_Done 516 a1 i0)
                    (csr_Write1 (fun i0 => a0_X i0) a0_PC a0_Level a0_V (fun i0 => a0_C i0) a0_Done 516 a1) (csr_Write2 (fun i0 => a0_X i0) a0_PC a0_Level a0_V (fun i0 => a0_C i0) a0_Done 516 a1)
                    (csr_Write3 (fun i0 => a0_X i0) a0_PC a0_Level a0_V (fun i0 => a0_C i0) a0_Done 516 a1)
                    (fun i0 => csr_Write4 (fun i0 => a0_X i0) a0_PC a0_Level a0_V (fun i0 => a0_C i0) a0_Done 516 a1 i0)
                    (csr_Write5 (fun i0 => a0_X i0) a0_PC a0_Level a0_V (fun i0 => a0_C i0) a0_Done 516 a1) 516)
                  (iAnd IntKind.u64 a1 544)
              else false) ||
            true) &&
          (((!bif
                    bif
                        bif
                            iEq
                              (csr_Read0 (fun i0 => csr_Write0 (fun i0 => a0_X i0) a0_PC a0_Level a0_V (fun i0 => a0_C i0) a0_Done 256 a1 i0)
                                (csr_Write1 (fun i0 => a0_X i0) a0_PC a0_Level a0_V (fun i0 => a0_C i0) a0_Done 256 a1)
                                (csr_Write2 (fun i0 => a0_X i0) a0_PC a0_Level a0_V (fun i0 => a0_C i0) a0_Done 256 a1)
                                (csr_Write3 (fun i0 => a0_X i0) a0_PC a0_Level a0_V (fun i0 => a0_C i0) a0_Done 256 a1)
                                (fun i0 => csr_Write4 (fun i0 => a0_X i0) a0_PC a0_Level a0_V (fun i0 => a0_C i0) a0_Done 256 a1 i0)
                                (csr_Write5 (fun i0 => a0_X i0) a0_PC a0_Level a0_V (fun i0 => a0_C i0) a0_Done 256 a1) 256)
                              (iAnd IntKind.u64 a1 786722) then
                          iEq (iAndNot IntKind.u64 (csr_Write4 (fun i0 => a0_X i0) a0_PC a0_Level a0_V (fun i0 => a0_C i0) a0_Done 256 a1 0) 786722) (iAndNot IntKind.u64 (a0_C 0) 786722)
                        else false then
                      iEq
                        (csr_Read0 (fun i0 => csr_Write0 (fun i0 => a0_X i0) a0_PC a0_Level a0_V (fun i0 => a0_C i0) a0_Done 516 a1 i0)
                          (csr_Write1 (fun i0 => a0_X i0) a0_PC a0_Level a0_V (fun i0 => a0_C i0) a0_Done 516 a1) (csr_Write2 (fun i0 => a0_X i0) a0_PC a0_Level a0_V (fun i0 => a0_C i0) a0_Done 516 a1)
                          (csr_Write3 (fun i0 => a0_X i0) a0_PC a0_Level a0_V (fun i0 => a0_C i0) a0_Done 516 a1)
                          (fun i0 => csr_Write4 (fun i0 => a0_X i0) a0_PC a0_Level a0_V (fun i0 => a0_C i0) a0_Done 516 a1 i0)
                          (csr_Write5 (fun i0 => a0_X i0) a0_PC a0_Level a0_V (fun i0 => a0_C i0) a0_Done 516 a1) 516)
                        (iAnd IntKind.u64 a1 544)
                    else false then
                  iEq
                    (csr_Read0 (fun i0 => csr_Write0 (fun i0 => a0_X i0) a0_PC a0_Level a0_V (fun i0 => a0_C i0) a0_Done 516 a1 i0)
                      (csr_Write1 (fun i0 => a0_X i0) a0_PC a0_Level a0_V (fun i0 => a0_C i0) a0_Done 516 a1) (csr_Write2 (fun i0 => a0_X i0) a0_PC a0_Level a0_V (fun i0 => a0_C i0) a0_Done 516 a1)
                      (csr_Write3 (fun i0 => a0_X i0) a0_PC a0_Level a0_V (fun i0 => a0_C i0) a0_Done 516 a1)
                      (fun i0 => csr_Write4 (fun i0 => a0_X i0) a0_PC a0_Level a0_V (fun i0 => a0_C i0) a0_Done 516 a1 i0)
                      (csr_Write5 (fun i0 => a0_X i0) a0_PC a0_Level a0_V (fun i0 => a0_C i0) a0_Done 516 a1) 260)
                    (iAnd IntKind.u64 (a0_C 3) 544)
                else false) ||
              true) &&
            (((!bif
                      bif
                          bif
                              iEq
                                (csr_Read0 (fun i0 => csr_Write0 (fun i0 => a0_X i0) a0_PC a0_Level a0_V (fun i0 => a0_C i0) a0_Done 256 a1 i0)
                                  (csr_Write1 (fun i0 => a0_X i0) a0_PC a0_Level a0_V (fun i0 => a0_C i0) a0_Done 256 a1)
                                  (csr_Write2 (fun i0 => a0_X i0) a0_PC a0_Level a0_V (fun i0 => a0_C i0) a0_Done 256 a1)
                                  (csr_Write3 (fun i0 => a0_X i0) a0_PC a0_Level a0_V (fun i0 => a0_C i0) a0_Done 256 a1)
                                  (fun i0 => csr_Write4 (fun i0 => a0_X i0) a0_PC a0_Level a0_V (fun i0 => a0_C i0) a0_Done 256 a1 i0)
                                  (csr_Write5 (fun i0 => a0_X i0) a0_PC a0_Level a0_V (fun i0 => a0_C i0) a0_Done 256 a1) 256)
                                (iAnd IntKind.u64 a1 786722) then
                            iEq (iAndNot IntKind.u64 (csr_Write4 (fun i0 => a0_X i0) a0_PC a0_Level a0_V (fun i0 => a0_C i0) a0_Done 256 a1 0) 786722) (iAndNot IntKind.u64 (a0_C 0) 786722)
                          else false then
                        iEq
                          (csr_Read0 (fun i0 => csr_Write0 (fun i0 => a0_X i0) a0_PC a0_Level a0_V (fun i0 => a0_C i0) a0_Done 516 a1 i0)
                            (csr_Write1 (fun i0 => a0_X i0) a0_PC a0_Level a0_V (fun i0 => a0_C i0) a0_Done 516 a1)
                            (csr_Write2 (fun i0 => a0_X i0) a0_PC a0_Level a0_V (fun i0 => a0_C i0) a0_Done 516 a1)
                            (csr_Write3 (fun i0 => a0_X i0) a0_PC a0_Level a0_V (fun i0 => a0_C i0) a0_Done 516 a1)
                            (fun i0 => csr_Write4 (fun i0 => a0_X i0) a0_PC a0_Level a0_V (fun i0 => a0_C i0) a0_Done 516 a1 i0)
                            (csr_Write5 (fun i0 => a0_X i0) a0_PC a0_Level a0_V (fun i0 => a0_C i0) a0_Done 516 a1) 516)
                          (iAnd IntKind.u64 a1 544)
                      else false then
                    iEq
                      (csr_Read0 (fun i0 => csr_Write0 (fun i0 => a0_X i0) a0_PC a0_Level a0_V (fun i0 => a0_C i0) a0_Done 516 a1 i0)
                        (csr_Write1 (fun i0 => a0_X i0) a0_PC a0_Level a0_V (fun i0 => a0_C i0) a0_Done 516 a1) (csr_Write2 (fun i0 => a0_X i0) a0_PC a0_Level a0_V (fun i0 => a0_C i0) a0_Done 516 a1)
                        (csr_Write3 (fun i0 => a0_X i0) a0_PC a0_Level a0_V (fun i0 => a0_C i0) a0_Done 516 a1)
                        (fun i0 => csr_Write4 (fun i0 => a0_X i0) a0_PC a0_Level a0_V (fun i0 => a0_C i0) a0_Done 516 a1 i0)
                        (csr_Write5 (fun i0 => a0_X i0) a0_PC a0_Level a0_V (fun i0 => a0_C i0) a0_Done 516 a1) 260)
                      (iAnd IntKind.u64 (a0_C 3) 544)
                  else false) ||
                true) &&
              true))))
def sallyportlaw8_CsrViewsV (a0_X : Nat → Int) (a0_PC : Int) (a0_Level : Int) (a0_V : Bool) (a0_C : Nat → Int) (a0_Done : Int) (a1 : Int) : AV := .bl (sallyportlaw8_CsrViews0 a0_X a0_PC a0_Level a0_V a0_C a0_Done a1)
theorem sallyportlaw8_CsrViewsE (g : Nat → AV) : pcOf Try.prog okT (lookR T3) (NOH) RO NOV 100 false Try.f5 (norms [(.agg [(.arr 32 (.int .u64)), (.int .u64), (.int .i64), .bool, (.arr 29 (.int .u64)), (.int .u64)]), (.int .u64)] 0 g) = some (sallyportlaw8_CsrViewsG (fun i0 => (((g 0).fld 0).ix i0).num) (((g 0).fld 1).num) (((g 0).fld 2).num) (((g 0).fld 3).bool) (fun i0 => (((g 0).fld 4).ix i0).num) (((g 0).fld 5).num) ((g 1).num), sallyportlaw8_CsrViewsV (fun i0 => (((g 0).fld 0).ix i0).num) (((g 0).fld 1).num) (((g 0).fld 2).num) (((g 0).fld 3).bool) (fun i0 => (((g 0).fld 4).ix i0).num) (((g 0).fld 5).num) ((g 1).num)) := by kernel_rfl
theorem sallyportlaw8_CsrViewsP : Plain Try.prog 5 Try.f5 := ⟨Try.func5, of_decide_eq_true (by kernel_rfl)⟩
theorem sallyportlaw8_CsrViewsT (a0_X : Nat → Int) (a0_PC : Int) (a0_Level : Int) (a0_V : Bool) (a0_C : Nat → Int) (a0_Done : Int) (a1 : Int) : sallyportlaw8_CsrViewsG a0_X a0_PC a0_Level a0_V a0_C a0_Done a1 = true := by first | (simp [sallyportlaw8_CsrViewsG]; done) | (simp [sallyportlaw8_CsrViewsG, Go.Ev.iEq, Go.Ev.iNe, Go.Ev.iLt, Go.Ev.iLe, Go.Ev.iIn]; omega)
theorem sallyportlaw8_CsrViewsO : RowOk Try.prog 5 (rowF [(.agg [(.arr 32 (.int .u64)), (.int .u64), (.int .i64), .bool, (.arr 29 (.int .u64)), (.int .u64)]), (.int .u64)] none fun g => sallyportlaw8_CsrViewsV (fun i0 => (((g 0).fld 0).ix i0).num) (((g 0).fld 1).num) (((g 0).fld 2).num) (((g 0).fld 3).bool) (fun i0 => (((g 0).fld 4).ix i0).num) (((g 0).fld 5).num) ((g 1).num)) := rowT_ok fun g => pcOf_ok mix fair T3_ok (HSound_none) sallyportlaw8_CsrViewsP (fun c _ => OvOk_none c) (sallyportlaw8_CsrViewsE g) (sallyportlaw8_CsrViewsT (fun i0 => (((g 0).fld 0).ix i0).num) (((g 0).fld 1).num) (((g 0).fld 2).num) (((g 0).fld 3).bool) (fun i0 => (((g 0).fld 4).ix i0).num) (((g 0).fld 5).num) ((g 1).num))
def T5 : List Row := (5, (rowF [(.agg [(.arr 32 (.int .u64)), (.int .u64), (.int .i64), .bool, (.arr 29 (.int .u64)), (.int .u64)]), (.int .u64)] none fun g => sallyportlaw8_CsrViewsV (fun i0 => (((g 0).fld 0).ix i0).num) (((g 0).fld 1).num) (((g 0).fld 2).num) (((g 0).fld 3).bool) (fun i0 => (((g 0).fld 4).ix i0).num) (((g 0).fld 5).num) ((g 1).num))) :: T3
theorem T5_ok : PSound Try.prog (lookR T5) := lookR_cons sallyportlaw8_CsrViewsO T3_ok

/- sallyport/sallyportlaw8.CsrBack -/
def sallyportlaw8_CsrBack0 (a0_X : Nat → Int) (a0_PC : Int) (a0_Level : Int) (a0_V : Bool) (a0_C : Nat → Int) (a0_Done : Int) (a1 : Int) (a2 : Int) : Bool :=
  bif
      bif iEq (iRem (iConv IntKind.i64 a1) 29) 0 then
        iEq
          (iAnd IntKind.u64
            (iShr IntKind.u64
              (iOr IntKind.u64 (iAndNot IntKind.u64 (a0_C (iRem (iConv IntKind.i64 a1) 29).toNat) (csr_Mask0 (iRem (iConv IntKind.i64 a1) 29)))
                (iAnd IntKind.u64 a2 (csr_Mask0 (iRem (iConv IntKind.i64 a1) 29))))
              11)
            3)
          2
      else false then
    bif
        bif
            bif
                bif csr_Write6 (fun i0 => a0_X i0) a0_PC a0_Level a0_V (fun i0 => a0_C i0) a0_Done (csr_Number0 (iRem (iConv IntKind.i64 a1) 29)) a2 then
                  csr_Read1 (fun i0 => csr_Write0 (fun i0 => a0_X i0) a0_PC a0_Level a0_V (fun i0 => a0_C i0) a0_Done (csr_Number0 (iRem (iConv IntKind.i64 a1) 29)) a2 i0)
                    (csr_Write1 (fun i0 => a0_X i0) a0_PC a0_Level a0_V (fun i0 => a0_C i0) a0_Done (csr_Number0 (iRem (iConv IntKind.i64 a1) 29)) a2)
                    (csr_Write2 (fun i0 => a0_X i0) a0_PC a0_Level a0_V (fun i0 => a0_C i0) a0_Done (csr_Number0 (iRem (iConv IntKind.i64 a1) 29)) a2)
                    (csr_Write3 (fun i0 => a0_X i0) a0_PC a0_Level a0_V (fun i0 => a0_C i0) a0_Done (csr_Number0 (iRem (iConv IntKind.i64 a1) 29)) a2)
                    (fun i0 => csr_Write4 (fun i0 => a0_X i0) a0_PC a0_Level a0_V (fun i0 => a0_C i0) a0_Done (csr_Number0 (iRem (iConv IntKind.i64 a1) 29)) a2 i0)
                    (csr_Write5 (fun i0 => a0_X i0) a0_PC a0_Level a0_V (fun i0 => a0_C i0) a0_Done (csr_Number0 (iRem (iConv IntKind.i64 a1) 29)) a2) (csr_Number0 (iRem (iConv IntKind.i64 a1) 29))
                else false then
              iEq
                (csr_Read0 (fun i0 => csr_Write0 (fun i0 => a0_X i0) a0_PC a0_Level a0_V (fun i0 => a0_C i0) a0_Done (csr_Number0 (iRem (iConv IntKind.i64 a1) 29)) a2 i0)
                  (csr_Write1 (fun i0 => a0_X i0) a0_PC a0_Level a0_V (fun i0 => a0_C i0) a0_Done (csr_Number0 (iRem (iConv IntKind.i64 a1) 29)) a2)
                  (csr_Write2 (fun i0 => a0_X i0) a0_PC a0_Level a0_V (fun i0 => a0_C i0) a0_Done (csr_Number0 (iRem (iConv IntKind.i64 a1) 29)) a2)
                  (csr_Write3 (fun i0 => a0_X i0) a0_PC a0_Level a0_V (fun i0 => a0_C i0) a0_Done (csr_Number0 (iRem (iConv IntKind.i64 a1) 29)) a2)
                  (fun i0 => csr_Write4 (fun i0 => a0_X i0) a0_PC a0_Level a0_V (fun i0 => a0_C i0) a0_Done (csr_Number0 (iRem (iConv IntKind.i64 a1) 29)) a2 i0)
                  (csr_Write5 (fun i0 => a0_X i0) a0_PC a0_Level a0_V (fun i0 => a0_C i0) a0_Done (csr_Number0 (iRem (iConv IntKind.i64 a1) 29)) a2) (csr_Number0 (iRem (iConv IntKind.i64 a1) 29)))
                (iAndNot IntKind.u64
                  (iOr IntKind.u64 (iAndNot IntKind.u64 (a0_C (iRem (iConv IntKind.i64 a1) 29).toNat) (csr_Mask0 (iRem (iConv IntKind.i64 a1) 29)))
                    (iAnd IntKind.u64 a2 (csr_Mask0 (iRem (iConv IntKind.i64 a1) 29))))
                  6144)
            else false then
          ((List.range 32).all fun i => iEq (csr_Write0 (fun i0 => a0_X i0) a0_PC a0_Level a0_V (fun i0 => a0_C i0) a0_Done (csr_Number0 (iRem (iConv IntKind.i64 a1) 29)) a2 i) (a0_X i)) &&
            (iEq (csr_Write1 (fun i0 => a0_X i0) a0_PC a0_Level a0_V (fun i0 => a0_C i0) a0_Done (csr_Number0 (iRem (iConv IntKind.i64 a1) 29)) a2) a0_PC &&
              (iEq (csr_Write2 (fun i0 => a0_X i0) a0_PC a0_Level a0_V (fun i0 => a0_C i0) a0_Done (csr_Number0 (iRem (iConv IntKind.i64 a1) 29)) a2) a0_Level &&
                (csr_Write3 (fun i0 => a0_X i0) a0_PC a0_Level a0_V (fun i0 => a0_C i0) a0_Done (csr_Number0 (iRem (iConv IntKind.i64 a1) 29)) a2 == a0_V &&
                  (((List.range 29).all fun i =>
                      iEq (csr_Write4 (fun i0 => a0_X i0) a0_PC a0_Level a0_V (fun i0 => a0_C i0) a0_Done (csr_Number0 (iRem (iConv IntKind.i64 a1) 29)) a2 i)
                        (bif i == (iRem (iConv IntKind.i64 a1) 29).toNat then
                          iAndNot IntKind.u64
                            (iOr IntKind.u64 (iAndNot IntKind.u64 (a0_C (iRem (iConv IntKind.i64 a1) 29).toNat) (csr_Mask0 (iRem (iConv IntKind.i64 a1) 29)))
                              (iAnd IntKind.u64 a2 (csr_Mask0 (iRem (iConv IntKind.i64 a1) 29))))
                            6144
                        else a0_C i)) &&
                    (iEq (csr_Write5 (fun i0 => a0_X i0) a0_PC a0_Level a0_V (fun i0 => a0_C i0) a0_Done (csr_Number0 (iRem (iConv IntKind.i64 a1) 29)) a2) a0_Done && true)))))
        else false then
      iEq (csr_Index0 (csr_Number0 (iRem (iConv IntKind.i64 a1) 29))) (iRem (iConv IntKind.i64 a1) 29)
    else false
  else
    bif
        bif
            bif
                bif csr_Write6 (fun i0 => a0_X i0) a0_PC a0_Level a0_V (fun i0 => a0_C i0) a0_Done (csr_Number0 (iRem (iConv IntKind.i64 a1) 29)) a2 then
                  csr_Read1 (fun i0 => csr_Write0 (fun i0 => a0_X i0) a0_PC a0_Level a0_V (fun i0 => a0_C i0) a0_Done (csr_Number0 (iRem (iConv IntKind.i64 a1) 29)) a2 i0)
                    (csr_Write1 (fun i0 => a0_X i0) a0_PC a0_Level a0_V (fun i0 => a0_C i0) a0_Done (csr_Number0 (iRem (iConv IntKind.i64 a1) 29)) a2)
                    (csr_Write2 (fun i0 => a0_X i0) a0_PC a0_Level a0_V (fun i0 => a0_C i0) a0_Done (csr_Number0 (iRem (iConv IntKind.i64 a1) 29)) a2)
                    (csr_Write3 (fun i0 => a0_X i0) a0_PC a0_Level a0_V (fun i0 => a0_C i0) a0_Done (csr_Number0 (iRem (iConv IntKind.i64 a1) 29)) a2)
                    (fun i0 => csr_Write4 (fun i0 => a0_X i0) a0_PC a0_Level a0_V (fun i0 => a0_C i0) a0_Done (csr_Number0 (iRem (iConv IntKind.i64 a1) 29)) a2 i0)
                    (csr_Write5 (fun i0 => a0_X i0) a0_PC a0_Level a0_V (fun i0 => a0_C i0) a0_Done (csr_Number0 (iRem (iConv IntKind.i64 a1) 29)) a2) (csr_Number0 (iRem (iConv IntKind.i64 a1) 29))
                else false then
              iEq
                (csr_Read0 (fun i0 => csr_Write0 (fun i0 => a0_X i0) a0_PC a0_Level a0_V (fun i0 => a0_C i0) a0_Done (csr_Number0 (iRem (iConv IntKind.i64 a1) 29)) a2 i0)
                  (csr_Write1 (fun i0 => a0_X i0) a0_PC a0_Level a0_V (fun i0 => a0_C i0) a0_Done (csr_Number0 (iRem (iConv IntKind.i64 a1) 29)) a2)
                  (csr_Write2 (fun i0 => a0_X i0) a0_PC a0_Level a0_V (fun i0 => a0_C i0) a0_Done (csr_Number0 (iRem (iConv IntKind.i64 a1) 29)) a2)
                  (csr_Write3 (fun i0 => a0_X i0) a0_PC a0_Level a0_V (fun i0 => a0_C i0) a0_Done (csr_Number0 (iRem (iConv IntKind.i64 a1) 29)) a2)
                  (fun i0 => csr_Write4 (fun i0 => a0_X i0) a0_PC a0_Level a0_V (fun i0 => a0_C i0) a0_Done (csr_Number0 (iRem (iConv IntKind.i64 a1) 29)) a2 i0)
                  (csr_Write5 (fun i0 => a0_X i0) a0_PC a0_Level a0_V (fun i0 => a0_C i0) a0_Done (csr_Number0 (iRem (iConv IntKind.i64 a1) 29)) a2) (csr_Number0 (iRem (iConv IntKind.i64 a1) 29)))
                (iOr IntKind.u64 (iAndNot IntKind.u64 (a0_C (iRem (iConv IntKind.i64 a1) 29).toNat) (csr_Mask0 (iRem (iConv IntKind.i64 a1) 29)))
                  (iAnd IntKind.u64 a2 (csr_Mask0 (iRem (iConv IntKind.i64 a1) 29))))
            else false then
          ((List.range 32).all fun i => iEq (csr_Write0 (fun i0 => a0_X i0) a0_PC a0_Level a0_V (fun i0 => a0_C i0) a0_Done (csr_Number0 (iRem (iConv IntKind.i64 a1) 29)) a2 i) (a0_X i)) &&
            (iEq (csr_Write1 (fun i0 => a0_X i0) a0_PC a0_Level a0_V (fun i0 => a0_C i0) a0_Done (csr_Number0 (iRem (iConv IntKind.i64 a1) 29)) a2) a0_PC &&
              (iEq (csr_Write2 (fun i0 => a0_X i0) a0_PC a0_Level a0_V (fun i0 => a0_C i0) a0_Done (csr_Number0 (iRem (iConv IntKind.i64 a1) 29)) a2) a0_Level &&
                (csr_Write3 (fun i0 => a0_X i0) a0_PC a0_Level a0_V (fun i0 => a0_C i0) a0_Done (csr_Number0 (iRem (iConv IntKind.i64 a1) 29)) a2 == a0_V &&
                  (((List.range 29).all fun i =>
                      iEq (csr_Write4 (fun i0 => a0_X i0) a0_PC a0_Level a0_V (fun i0 => a0_C i0) a0_Done (csr_Number0 (iRem (iConv IntKind.i64 a1) 29)) a2 i)
                        (bif i == (iRem (iConv IntKind.i64 a1) 29).toNat then
                          iOr IntKind.u64 (iAndNot IntKind.u64 (a0_C (iRem (iConv IntKind.i64 a1) 29).toNat) (csr_Mask0 (iRem (iConv IntKind.i64 a1) 29)))
                            (iAnd IntKind.u64 a2 (csr_Mask0 (iRem (iConv IntKind.i64 a1) 29)))
                        else a0_C i)) &&
                    (iEq (csr_Write5 (fun i0 => a0_X i0) a0_PC a0_Level a0_V (fun i0 => a0_C i0) a0_Done (csr_Number0 (iRem (iConv IntKind.i64 a1) 29)) a2) a0_Done && true)))))
        else false then
      iEq (csr_Index0 (csr_Number0 (iRem (iConv IntKind.i64 a1) 29))) (iRem (iConv IntKind.i64 a1) 29)
    else false
def sallyportlaw8_CsrBackG (a0_X : Nat → Int) (a0_PC : Int) (a0_Level : Int) (a0_V : Bool) (a0_C : Nat → Int) (a0_Done : Int) (a1 : Int) (a2 : Int) : Bool :=
  iIn (iRem (iConv IntKind.i64 a1) 29) 29 &&
    bif
        bif iEq (iRem (iConv IntKind.i64 a1) 29) 0 then
          iEq
            (iAnd IntKind.u64
              (iShr IntKind.u64
                (iOr IntKind.u64 (iAndNot IntKind.u64 (a0_C (iRem (iConv IntKind.i64 a1) 29).toNat) (csr_Mask0 (iRem (iConv IntKind.i64 a1) 29)))
                  (iAnd IntKind.u64 a2 (csr_Mask0 (iRem (iConv IntKind.i64 a1) 29))))
                11)
              3)
            2
        else false then
      iIn (iRem (iConv IntKind.i64 a1) 29) 29 && true
    else iIn (iRem (iConv IntKind.i64 a1) 29) 29 && true
def sallyportlaw8_CsrBackV (a0_X : Nat → Int) (a0_PC : Int) (a0_Level : Int) (a0_V : Bool) (a0_C : Nat → Int) (a0_Done : Int) (a1 : Int) (a2 : Int) : AV := .bl (sallyportlaw8_CsrBack0 a0_X a0_PC a0_Level a0_V a0_C a0_Done a1 a2)
theorem sallyportlaw8_CsrBackE (g : Nat → AV) : pcOf Try.prog okT (lookR T5) (NOH) RO NOV 100 false Try.f4 (norms [(.agg [(.arr 32 (.int .u64)), (.int .u64), (.int .i64), .bool, (.arr 29 (.int .u64)), (.int .u64)]), (.int .u8), (.int .u64)] 0 g) = some (sallyportlaw8_CsrBackG (fun i0 => (((g 0).fld 0).ix i0).num) (((g 0).fld 1).num) (((g 0).fld 2).num) (((g 0).fld 3).bool) (fun i0 => (((g 0).fld 4).ix i0).num) (((g 0).fld 5).num) ((g 1).num) ((g 2).num), sallyportlaw8_CsrBackV (fun i0 => (((g 0).fld 0).ix i0).num) (((g 0).fld 1).num) (((g 0).fld 2).num) (((g 0).fld 3).bool) (fun i0 => (((g 0).fld 4).ix i0).num) (((g 0).fld 5).num) ((g 1).num) ((g 2).num)) := by kernel_rfl
theorem sallyportlaw8_CsrBackP : Plain Try.prog 4 Try.f4 := ⟨Try.func4, of_decide_eq_true (by kernel_rfl)⟩
theorem sallyportlaw8_CsrBackO : RowOk Try.prog 4 (rowF [(.agg [(.arr 32 (.int .u64)), (.int .u64), (.int .i64), .bool, (.arr 29 (.int .u64)), (.int .u64)]), (.int .u8), (.int .u64)] (some fun g => sallyportlaw8_CsrBackG (fun i0 => (((g 0).fld 0).ix i0).num) (((g 0).fld 1).num) (((g 0).fld 2).num) (((g 0).fld 3).bool) (fun i0 => (((g 0).fld 4).ix i0).num) (((g 0).fld 5).num) ((g 1).num) ((g 2).num)) fun g => sallyportlaw8_CsrBackV (fun i0 => (((g 0).fld 0).ix i0).num) (((g 0).fld 1).num) (((g 0).fld 2).num) (((g 0).fld 3).bool) (fun i0 => (((g 0).fld 4).ix i0).num) (((g 0).fld 5).num) ((g 1).num) ((g 2).num)) := rowF_ok fun g hg => pcOf_ok mix fair T5_ok (HSound_none) sallyportlaw8_CsrBackP (fun c _ => OvOk_none c) (sallyportlaw8_CsrBackE g) hg
def T4 : List Row := (4, (rowF [(.agg [(.arr 32 (.int .u64)), (.int .u64), (.int .i64), .bool, (.arr 29 (.int .u64)), (.int .u64)]), (.int .u8), (.int .u64)] (some fun g => sallyportlaw8_CsrBackG (fun i0 => (((g 0).fld 0).ix i0).num) (((g 0).fld 1).num) (((g 0).fld 2).num) (((g 0).fld 3).bool) (fun i0 => (((g 0).fld 4).ix i0).num) (((g 0).fld 5).num) ((g 1).num) ((g 2).num)) fun g => sallyportlaw8_CsrBackV (fun i0 => (((g 0).fld 0).ix i0).num) (((g 0).fld 1).num) (((g 0).fld 2).num) (((g 0).fld 3).bool) (fun i0 => (((g 0).fld 4).ix i0).num) (((g 0).fld 5).num) ((g 1).num) ((g 2).num))) :: T5
theorem T4_ok : PSound Try.prog (lookR T4) := lookR_cons sallyportlaw8_CsrBackO T5_ok

end
end Go.Proofs.Ytdfafnelmpflgaa.PV
