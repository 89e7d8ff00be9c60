/-
  What functions of the program yield, evaluated: words, registers of control (word, csr), the document's registers (sallyportref8). Printed by a program of the prover's own (wip/prt).
-/
import Derived.Test.YtdfafnelmpflgaaRows
import Derived.Test.YtdfafnelmpflgaaEvW
set_option linter.unusedVariables false
set_option linter.unusedSimpArgs false
namespace Go.Proofs.Ytdfafnelmpflgaa.PV
noncomputable section
open Go Go.Ev
def okT : List TypeId := [26, 43]
theorem fair : Go.Ev.Fair Try.prog okT :=
  ⟨fun t h => by
    simp only [okT, List.contains_cons, List.contains_nil, Bool.or_false, Bool.or_eq_true, beq_iff_eq] at h
    rcases h with rfl | rfl
    · exact Try.stoodInHeld26
    · exact Try.stoodInHeld43
   , fun t h => by
    simp only [okT, List.contains_cons, List.contains_nil, Bool.or_false, Bool.or_eq_true, beq_iff_eq] at h
    rcases h with rfl | rfl
    · exact Try.eqGuardType26
    · exact Try.eqGuardType43
  ⟩
theorem mix : Try.prog.follows .mixedOrders = true := Checked.mixed Try.checked
def RO : FuncId → Bool := fun _ => true
abbrev NOV : Ov := fun _ _ _ _ => none
abbrev NOH : Hd := fun _ _ _ _ => none
def T0 : List Row := []
theorem T0_ok : PSound Try.prog (lookR T0) := lookR_nil
def FS : List FuncId := [40, 45]
theorem FS_ok : Names Try.prog FS := names_of (by kernel_rfl)
def ST : FuncId → Bool := fun _ => false
/- sallyport/word.mask -/
def word_mask0 (a0 : Int) : Int :=
  bif iLe 64 a0 then 18446744073709551615 else iSub IntKind.u64 (iShl IntKind.u64 1 a0) 1
def word_maskG (a0 : Int) : Bool :=
  bif iLe 64 a0 then true else iLe 0 a0 && true
def word_maskV (a0 : Int) : AV := .it .u64 (word_mask0 a0)
theorem word_maskE (g : Nat → AV) : pcOf Try.prog okT (lookR T0) (NOH) RO NOV 100 false Try.f70 (norms [(.int .i64)] 0 g) = some (word_maskG ((g 0).num), word_maskV ((g 0).num)) := by kernel_rfl
theorem word_maskP : Plain Try.prog 70 Try.f70 := ⟨Try.func70, of_decide_eq_true (by kernel_rfl)⟩
theorem word_maskO : RowOk Try.prog 70 (rowF [(.int .i64)] (some fun g => word_maskG ((g 0).num)) fun g => word_maskV ((g 0).num)) := rowF_ok fun g hg => pcOf_ok mix fair T0_ok (HSound_none) word_maskP (fun c _ => OvOk_none c) (word_maskE g) hg
def T70 : List Row := (70, (rowF [(.int .i64)] (some fun g => word_maskG ((g 0).num)) fun g => word_maskV ((g 0).num))) :: T0
theorem T70_ok : PSound Try.prog (lookR T70) := lookR_cons word_maskO T0_ok

/- sallyport/word.part -/
def word_part0 (a0 : Int) (a1 : Int) : Int :=
  iMin (iMax a0 0) 63
def word_part1 (a0 : Int) (a1 : Int) : Int :=
  iMin (iMax a1 0) (iSub IntKind.i64 64 (iMin (iMax a0 0) 63))
def word_partG (a0 : Int) (a1 : Int) : Bool :=
  true
def word_partV (a0 : Int) (a1 : Int) : AV := .tup [.it .i64 (word_part0 a0 a1), .it .i64 (word_part1 a0 a1)]
theorem word_partE (g : Nat → AV) : pcOf Try.prog okT (lookR T70) (NOH) RO NOV 100 false Try.f69 (norms [(.int .i64), (.int .i64)] 0 g) = some (word_partG ((g 0).num) ((g 1).num), word_partV ((g 0).num) ((g 1).num)) := by kernel_rfl
theorem word_partP : Plain Try.prog 69 Try.f69 := ⟨Try.func69, of_decide_eq_true (by kernel_rfl)⟩
theorem word_partT (a0 : Int) (a1 : Int) : word_partG a0 a1 = true := rfl
theorem word_partO : RowOk Try.prog 69 (rowF [(.int .i64), (.int .i64)] none fun g => word_partV ((g 0).num) ((g 1).num)) := rowT_ok fun g => pcOf_ok mix fair T70_ok (HSound_none) word_partP (fun c _ => OvOk_none c) (word_partE g) (word_partT ((g 0).num) ((g 1).num))
def T69 : List Row := (69, (rowF [(.int .i64), (.int .i64)] none fun g => word_partV ((g 0).num) ((g 1).num))) :: T70
theorem T69_ok : PSound Try.prog (lookR T69) := lookR_cons word_partO T70_ok

theorem part0_in (a b : Int) : 0 ≤ word_part0 a b ∧ word_part0 a b ≤ 63 := by
  unfold word_part0; rw [iMin_eq, iMax_eq]; split <;> split <;> omega
theorem part1_in (a b : Int) : 0 ≤ word_part1 a b ∧ word_part1 a b ≤ 64 - word_part0 a b := by
  have h := part0_in a b
  have e : word_part1 a b = iMin (iMax b 0) (iSub .i64 64 (word_part0 a b)) := rfl
  rw [e, iSub_i64 (by omega) (by omega), iMin_eq, iMax_eq]; split <;> split <;> omega
/- sallyport/word.Bits -/
def word_Bits0 (a0 : Int) (a1 : Int) (a2 : Int) : Int :=
  iAnd IntKind.u64 (iShr IntKind.u64 a0 (word_part0 a1 a2)) (word_mask0 (word_part1 a1 a2))
def word_BitsG (a0 : Int) (a1 : Int) (a2 : Int) : Bool :=
  iLe 0 (word_part0 a1 a2) && (word_maskG (word_part1 a1 a2) && true)
def word_BitsV (a0 : Int) (a1 : Int) (a2 : Int) : AV := .it .u64 (word_Bits0 a0 a1 a2)
theorem word_BitsE (g : Nat → AV) : pcOf Try.prog okT (lookR T69) (NOH) RO NOV 100 false Try.f64 (norms [(.int .u64), (.int .i64), (.int .i64)] 0 g) = some (word_BitsG ((g 0).num) ((g 1).num) ((g 2).num), word_BitsV ((g 0).num) ((g 1).num) ((g 2).num)) := by kernel_rfl
theorem word_BitsP : Plain Try.prog 64 Try.f64 := ⟨Try.func64, of_decide_eq_true (by kernel_rfl)⟩
theorem word_BitsT (a0 : Int) (a1 : Int) (a2 : Int) : word_BitsG a0 a1 a2 = true := by unfold word_BitsG word_maskG; have h0 := part0_in a1 a2; have h1 := part1_in a1 a2; simp [iLe_true.2 h0.1, iLe_true.2 h1.1]
theorem word_BitsO : RowOk Try.prog 64 (rowF [(.int .u64), (.int .i64), (.int .i64)] none fun g => word_BitsV ((g 0).num) ((g 1).num) ((g 2).num)) := rowT_ok fun g => pcOf_ok mix fair T69_ok (HSound_none) word_BitsP (fun c _ => OvOk_none c) (word_BitsE g) (word_BitsT ((g 0).num) ((g 1).num) ((g 2).num))
def T64 : List Row := (64, (rowF [(.int .u64), (.int .i64), (.int .i64)] none fun g => word_BitsV ((g 0).num) ((g 1).num) ((g 2).num))) :: T69
theorem T64_ok : PSound Try.prog (lookR T64) := lookR_cons word_BitsO T69_ok

/- sallyport/word.Set -/
def word_Set0 (a0 : Int) (a1 : Int) (a2 : Int) (a3 : Int) : Int :=
  iOr IntKind.u64 (iAndNot IntKind.u64 a0 (iShl IntKind.u64 (word_mask0 (word_part1 a1 a2)) (word_part0 a1 a2)))
    (iShl IntKind.u64 (iAnd IntKind.u64 a3 (word_mask0 (word_part1 a1 a2))) (word_part0 a1 a2))
def word_SetG (a0 : Int) (a1 : Int) (a2 : Int) (a3 : Int) : Bool :=
  word_maskG (word_part1 a1 a2) && (iLe 0 (word_part0 a1 a2) && (word_maskG (word_part1 a1 a2) && (iLe 0 (word_part0 a1 a2) && true)))
def word_SetV (a0 : Int) (a1 : Int) (a2 : Int) (a3 : Int) : AV := .it .u64 (word_Set0 a0 a1 a2 a3)
theorem word_SetE (g : Nat → AV) : pcOf Try.prog okT (lookR T64) (NOH) RO NOV 100 false Try.f65 (norms [(.int .u64), (.int .i64), (.int .i64), (.int .u64)] 0 g) = some (word_SetG ((g 0).num) ((g 1).num) ((g 2).num) ((g 3).num), word_SetV ((g 0).num) ((g 1).num) ((g 2).num) ((g 3).num)) := by kernel_rfl
theorem word_SetP : Plain Try.prog 65 Try.f65 := ⟨Try.func65, of_decide_eq_true (by kernel_rfl)⟩
theorem word_SetT (a0 : Int) (a1 : Int) (a2 : Int) (a3 : Int) : word_SetG a0 a1 a2 a3 = true := by unfold word_SetG word_maskG; have h0 := part0_in a1 a2; have h1 := part1_in a1 a2; simp [iLe_true.2 h0.1, iLe_true.2 h1.1]
theorem word_SetO : RowOk Try.prog 65 (rowF [(.int .u64), (.int .i64), (.int .i64), (.int .u64)] none fun g => word_SetV ((g 0).num) ((g 1).num) ((g 2).num) ((g 3).num)) := rowT_ok fun g => pcOf_ok mix fair T64_ok (HSound_none) word_SetP (fun c _ => OvOk_none c) (word_SetE g) (word_SetT ((g 0).num) ((g 1).num) ((g 2).num) ((g 3).num))
def T65 : List Row := (65, (rowF [(.int .u64), (.int .i64), (.int .i64), (.int .u64)] none fun g => word_SetV ((g 0).num) ((g 1).num) ((g 2).num) ((g 3).num))) :: T64
theorem T65_ok : PSound Try.prog (lookR T65) := lookR_cons word_SetO T64_ok

/- sallyport/csr.guests -/
def csr_guestsG  : Bool :=
  true
def csr_guestsV  : AV := .it .u64 786722
theorem csr_guestsE (g : Nat → AV) : pcOf Try.prog okT (lookR T65) (inl Try.prog okT (lookR T65) RO FS 100 ST 2) RO NOV 100 false Try.f39 (norms [] 0 g) = some (csr_guestsG , csr_guestsV ) := by kernel_rfl
theorem csr_guestsP : Plain Try.prog 39 Try.f39 := ⟨Try.func39, of_decide_eq_true (by kernel_rfl)⟩
theorem csr_guestsT  : csr_guestsG  = true := rfl
theorem csr_guestsO : RowOk Try.prog 39 (rowF [] none fun g => csr_guestsV ) := rowT_ok fun g => pcOf_ok mix fair T65_ok (inl_ok mix fair T65_ok FS_ok 2) csr_guestsP (fun c _ => OvOk_none c) (csr_guestsE g) (csr_guestsT )
def T39 : List Row := (39, (rowF [] none fun g => csr_guestsV )) :: T65
theorem T39_ok : PSound Try.prog (lookR T39) := lookR_cons csr_guestsO T65_ok

/- sallyport/csr.rows -/
def csr_rows0  : Nat → Int :=
  fun i0 => bif i0 == 28 then 640
  else
    bif i0 == 27 then 579
    else
      bif i0 == 26 then 578
      else
        bif i0 == 25 then 577
        else
          bif i0 == 24 then 576
          else
            bif i0 == 23 then 517
            else
              bif i0 == 22 then 512
              else
                bif i0 == 21 then 1664
                else
                  bif i0 == 20 then 1603
                  else
                    bif i0 == 19 then 1605
                    else
                      bif i0 == 18 then 1539
                      else
                        bif i0 == 17 then 1538
                        else
                          bif i0 == 16 then 1536
                          else
                            bif i0 == 15 then 384
                            else
                              bif i0 == 14 then 323
                              else
                                bif i0 == 13 then 322
                                else
                                  bif i0 == 12 then 321
                                  else
                                    bif i0 == 11 then 320
                                    else
                                      bif i0 == 10 then 261
                                      else
                                        bif i0 == 9 then 843
                                        else
                                          bif i0 == 8 then 835
                                          else
                                            bif i0 == 7 then 834
                                            else
                                              bif i0 == 6 then 833
                                              else
                                                bif i0 == 5 then 832
                                                else bif i0 == 4 then 773 else bif i0 == 3 then 772 else bif i0 == 2 then 771 else bif i0 == 1 then 770 else bif i0 == 0 then 768 else 0
def csr_rows1  : Nat → Int :=
  fun i0 => bif i0 == 28 then 9223372036871487743
  else
    bif i0 == 27 then 18446744073709551615
    else
      bif i0 == 26 then 18446744073709551615
      else
        bif i0 == 25 then 18446744073709551612
        else
          bif i0 == 24 then 18446744073709551615
          else
            bif i0 == 23 then 18446744073709551612
            else
              bif i0 == 22 then 786722
              else
                bif i0 == 21 then 9223372036871487743
                else
                  bif i0 == 20 then 18446744073709551615
                  else
                    bif i0 == 19 then 1088
                    else
                      bif i0 == 18 then 1088
                      else
                        bif i0 == 17 then 45567
                        else
                          bif i0 == 16 then 7340992
                          else
                            bif i0 == 15 then 9223372036871487743
                            else
                              bif i0 == 14 then 18446744073709551615
                              else
                                bif i0 == 13 then 18446744073709551615
                                else
                                  bif i0 == 12 then 18446744073709551612
                                  else
                                    bif i0 == 11 then 18446744073709551615
                                    else
                                      bif i0 == 10 then 18446744073709551612
                                      else
                                        bif i0 == 9 then 18446744073709551615
                                        else
                                          bif i0 == 8 then 18446744073709551615
                                          else
                                            bif i0 == 7 then 18446744073709551615
                                            else
                                              bif i0 == 6 then 18446744073709551612
                                              else
                                                bif i0 == 5 then 18446744073709551615
                                                else
                                                  bif i0 == 4 then 18446744073709551612
                                                  else bif i0 == 3 then 1632 else bif i0 == 2 then 544 else bif i0 == 1 then 15775231 else bif i0 == 0 then 824641853866 else 0
def csr_rowsG  : Bool :=
  true
def csr_rowsV  : AV := .arr 29 (.agg [(.int .i64), (.int .u64)]) fun i0 => .agg [.it .i64 (csr_rows0 i0), .it .u64 (csr_rows1 i0)]
theorem csr_rowsE (g : Nat → AV) : pcOf Try.prog okT (lookR T39) (inl Try.prog okT (lookR T39) RO FS 100 ST 2) RO NOV 100 false Try.f44 (norms [] 0 g) = some (csr_rowsG , csr_rowsV ) := by kernel_rfl
theorem csr_rowsP : Plain Try.prog 44 Try.f44 := ⟨Try.func44, of_decide_eq_true (by kernel_rfl)⟩
theorem csr_rowsT  : csr_rowsG  = true := rfl
theorem csr_rowsO : RowOk Try.prog 44 (rowF [] none fun g => csr_rowsV ) := rowT_ok fun g => pcOf_ok mix fair T39_ok (inl_ok mix fair T39_ok FS_ok 2) csr_rowsP (fun c _ => OvOk_none c) (csr_rowsE g) (csr_rowsT )
def T44 : List Row := (44, (rowF [] none fun g => csr_rowsV )) :: T39
theorem T44_ok : PSound Try.prog (lookR T44) := lookR_cons csr_rowsO T39_ok

/- sallyport/csr.Index -/
def csr_Index0 (a0 : Int) : Int :=
  bif iEq 768 a0 then 0
  else
    bif iEq 770 a0 then 1
    else
      bif iEq 771 a0 then 2
      else
        bif iEq 772 a0 then 3
        else
          bif iEq 773 a0 then 4
          else
            bif iEq 832 a0 then 5
            else
              bif iEq 833 a0 then 6
              else
                bif iEq 834 a0 then 7
                else
                  bif iEq 835 a0 then 8
                  else
                    bif iEq 843 a0 then 9
                    else
                      bif iEq 261 a0 then 10
                      else
                        bif iEq 320 a0 then 11
                        else
                          bif iEq 321 a0 then 12
                          else
                            bif iEq 322 a0 then 13
                            else
                              bif iEq 323 a0 then 14
                              else
                                bif iEq 384 a0 then 15
                                else
                                  bif iEq 1536 a0 then 16
                                  else
                                    bif iEq 1538 a0 then 17
                                    else
                                      bif iEq 1539 a0 then 18
                                      else
                                        bif iEq 1605 a0 then 19
                                        else
                                          bif iEq 1603 a0 then 20
                                          else
                                            bif iEq 1664 a0 then 21
                                            else
                                              bif iEq 512 a0 then 22
                                              else
                                                bif iEq 517 a0 then 23
                                                else bif iEq 576 a0 then 24 else bif iEq 577 a0 then 25 else bif iEq 578 a0 then 26 else bif iEq 579 a0 then 27 else bif iEq 640 a0 then 28 else -1
def csr_IndexG (a0 : Int) : Bool :=
  bif iEq 768 a0 then true
  else
    bif iEq 770 a0 then true
    else
      bif iEq 771 a0 then true
      else
        bif iEq 772 a0 then true
        else
          bif iEq 773 a0 then true
          else
            bif iEq 832 a0 then true
            else
              bif iEq 833 a0 then true
              else
                bif iEq 834 a0 then true
                else
                  bif iEq 835 a0 then true
                  else
                    bif iEq 843 a0 then true
                    else
                      bif iEq 261 a0 then true
                      else
                        bif iEq 320 a0 then true
                        else
                          bif iEq 321 a0 then true
                          else
                            bif iEq 322 a0 then true
                            else
                              bif iEq 323 a0 then true
                              else
                                bif iEq 384 a0 then true
                                else
                                  bif iEq 1536 a0 then true
                                  else
                                    bif iEq 1538 a0 then true
                                    else
                                      bif iEq 1539 a0 then true
                                      else
                                        bif iEq 1605 a0 then true
                                        else
                                          bif iEq 1603 a0 then true
                                          else
                                            bif iEq 1664 a0 then true
                                            else
                                              bif iEq 512 a0 then true
                                              else
                                                bif iEq 517 a0 then true
                                                else
                                                  bif iEq 576 a0 then true
                                                  else bif iEq 577 a0 then true else bif iEq 578 a0 then true else bif iEq 579 a0 then true else bif iEq 640 a0 then true else true
def csr_IndexV (a0 : Int) : AV := .it .i64 (csr_Index0 a0)
theorem csr_IndexE (g : Nat → AV) : pcOf Try.prog okT (lookR T44) (NOH) RO NOV 100 false Try.f19 (norms [(.int .i64)] 0 g) = some (csr_IndexG ((g 0).num), csr_IndexV ((g 0).num)) := by kernel_rfl
theorem csr_IndexP : Plain Try.prog 19 Try.f19 := ⟨Try.func19, of_decide_eq_true (by kernel_rfl)⟩
theorem csr_IndexT (a0 : Int) : csr_IndexG a0 = true := by first | (simp [csr_IndexG]; done) | (simp [csr_IndexG, Go.Ev.iEq, Go.Ev.iNe, Go.Ev.iLt, Go.Ev.iLe, Go.Ev.iIn]; omega)
theorem csr_IndexO : RowOk Try.prog 19 (rowF [(.int .i64)] none fun g => csr_IndexV ((g 0).num)) := rowT_ok fun g => pcOf_ok mix fair T44_ok (HSound_none) csr_IndexP (fun c _ => OvOk_none c) (csr_IndexE g) (csr_IndexT ((g 0).num))
def T19 : List Row := (19, (rowF [(.int .i64)] none fun g => csr_IndexV ((g 0).num))) :: T44
theorem T19_ok : PSound Try.prog (lookR T19) := lookR_cons csr_IndexO T44_ok

theorem index_in (n : Int) : -1 ≤ csr_Index0 n ∧ csr_Index0 n < 29 := by
  show (fun x : Int => -1 ≤ x ∧ x < 29) (csr_Index0 n)
  unfold csr_Index0
  repeat' (refine cond_all (p := fun x : Int => -1 ≤ x ∧ x < 29) ?_ ?_)
  all_goals decide
/- sallyport/csr.Number -/
def csr_Number0 (a0 : Int) : Int :=
  bif bif iLt a0 0 then true else iLe 29 a0 then -1 else csr_rows0 a0.toNat
def csr_NumberG (a0 : Int) : Bool :=
  bif bif iLt a0 0 then true else iLe 29 a0 then true else iIn a0 29 && true
def csr_NumberV (a0 : Int) : AV := .it .i64 (csr_Number0 a0)
theorem csr_NumberE (g : Nat → AV) : pcOf Try.prog okT (lookR T19) (NOH) RO NOV 100 false Try.f21 (norms [(.int .i64)] 0 g) = some (csr_NumberG ((g 0).num), csr_NumberV ((g 0).num)) := by kernel_rfl
theorem csr_NumberP : Plain Try.prog 21 Try.f21 := ⟨Try.func21, of_decide_eq_true (by kernel_rfl)⟩
theorem csr_NumberT (a0 : Int) : csr_NumberG a0 = true := by
  unfold csr_NumberG
  cases h1 : iLt a0 0 with
  | true => simp
  | false =>
    cases h2 : iLe 29 a0 with
    | true => simp
    | false => rw [iIn_true.2 ⟨iLt_false.1 h1, iLe_false.1 h2⟩]; simp
theorem csr_NumberO : RowOk Try.prog 21 (rowF [(.int .i64)] none fun g => csr_NumberV ((g 0).num)) := rowT_ok fun g => pcOf_ok mix fair T19_ok (HSound_none) csr_NumberP (fun c _ => OvOk_none c) (csr_NumberE g) (csr_NumberT ((g 0).num))
def T21 : List Row := (21, (rowF [(.int .i64)] none fun g => csr_NumberV ((g 0).num))) :: T19
theorem T21_ok : PSound Try.prog (lookR T21) := lookR_cons csr_NumberO T19_ok

/- sallyport/csr.Mask -/
def csr_Mask0 (a0 : Int) : Int :=
  bif bif iLt a0 0 then true else iLe 29 a0 then 0 else csr_rows1 a0.toNat
def csr_MaskG (a0 : Int) : Bool :=
  bif bif iLt a0 0 then true else iLe 29 a0 then true else iIn a0 29 && true
def csr_MaskV (a0 : Int) : AV := .it .u64 (csr_Mask0 a0)
theorem csr_MaskE (g : Nat → AV) : pcOf Try.prog okT (lookR T21) (NOH) RO NOV 100 false Try.f23 (norms [(.int .i64)] 0 g) = some (csr_MaskG ((g 0).num), csr_MaskV ((g 0).num)) := by kernel_rfl
theorem csr_MaskP : Plain Try.prog 23 Try.f23 := ⟨Try.func23, of_decide_eq_true (by kernel_rfl)⟩
theorem csr_MaskT (a0 : Int) : csr_MaskG a0 = true := by
  unfold csr_MaskG
  cases h1 : iLt a0 0 with
  | true => simp
  | false =>
    cases h2 : iLe 29 a0 with
    | true => simp
    | false => rw [iIn_true.2 ⟨iLt_false.1 h1, iLe_false.1 h2⟩]; simp
theorem csr_MaskO : RowOk Try.prog 23 (rowF [(.int .i64)] none fun g => csr_MaskV ((g 0).num)) := rowT_ok fun g => pcOf_ok mix fair T21_ok (HSound_none) csr_MaskP (fun c _ => OvOk_none c) (csr_MaskE g) (csr_MaskT ((g 0).num))
def T23 : List Row := (23, (rowF [(.int .i64)] none fun g => csr_MaskV ((g 0).num))) :: T21
theorem T23_ok : PSound Try.prog (lookR T23) := lookR_cons csr_MaskO T21_ok

/- sallyport/csr.Is -/
def csr_Is0 (a0 : Int) : Bool :=
  bif bif bif bif iEq a0 256 then true else iEq a0 260 then true else iEq a0 516 then true else iEq a0 3074 then true else iLe 0 (csr_Index0 a0)
def csr_IsG (a0 : Int) : Bool :=
  true
def csr_IsV (a0 : Int) : AV := .bl (csr_Is0 a0)
theorem csr_IsE (g : Nat → AV) : pcOf Try.prog okT (lookR T23) (NOH) RO NOV 100 false Try.f46 (norms [(.int .i64)] 0 g) = some (csr_IsG ((g 0).num), csr_IsV ((g 0).num)) := by kernel_rfl
theorem csr_IsP : Plain Try.prog 46 Try.f46 := ⟨Try.func46, of_decide_eq_true (by kernel_rfl)⟩
theorem csr_IsT (a0 : Int) : csr_IsG a0 = true := rfl
theorem csr_IsO : RowOk Try.prog 46 (rowF [(.int .i64)] none fun g => csr_IsV ((g 0).num)) := rowT_ok fun g => pcOf_ok mix fair T23_ok (HSound_none) csr_IsP (fun c _ => OvOk_none c) (csr_IsE g) (csr_IsT ((g 0).num))
def T46 : List Row := (46, (rowF [(.int .i64)] none fun g => csr_IsV ((g 0).num))) :: T23
theorem T46_ok : PSound Try.prog (lookR T46) := lookR_cons csr_IsO T23_ok

/- sallyport/csr.Read -/
def csr_Read0 (a0_X : Nat → Int) (a0_PC : Int) (a0_Level : Int) (a0_V : Bool) (a0_C : Nat → Int) (a0_Done : Int) (a1 : Int) : Int :=
  bif iEq a1 256 then iAnd IntKind.u64 (a0_C 0) 786722
  else
    bif iEq a1 260 then iAnd IntKind.u64 (a0_C 3) 544
    else bif iEq a1 516 then iShr IntKind.u64 (iAnd IntKind.u64 (a0_C 3) 1088) 1 else bif iEq a1 3074 then a0_Done else bif iLe 0 (csr_Index0 a1) then a0_C (csr_Index0 a1).toNat else 0
def csr_Read1 (a0_X : Nat → Int) (a0_PC : Int) (a0_Level : Int) (a0_V : Bool) (a0_C : Nat → Int) (a0_Done : Int) (a1 : Int) : Bool :=
  bif iEq a1 256 then true else bif iEq a1 260 then true else bif iEq a1 516 then true else bif iEq a1 3074 then true else bif iLe 0 (csr_Index0 a1) then true else false
def csr_ReadG (a0_X : Nat → Int) (a0_PC : Int) (a0_Level : Int) (a0_V : Bool) (a0_C : Nat → Int) (a0_Done : Int) (a1 : Int) : Bool :=
  bif iEq a1 256 then true else bif iEq a1 260 then true else bif iEq a1 516 then true else bif iEq a1 3074 then true else bif iLe 0 (csr_Index0 a1) then iIn (csr_Index0 a1) 29 && true else true
def csr_ReadV (a0_X : Nat → Int) (a0_PC : Int) (a0_Level : Int) (a0_V : Bool) (a0_C : Nat → Int) (a0_Done : Int) (a1 : Int) : AV := .tup [.it .u64 (csr_Read0 a0_X a0_PC a0_Level a0_V a0_C a0_Done a1), .bl (csr_Read1 a0_X a0_PC a0_Level a0_V a0_C a0_Done a1)]
theorem csr_ReadE (g : Nat → AV) : pcOf Try.prog okT (lookR T46) (inl Try.prog okT (lookR T46) RO FS 100 ST 2) RO NOV 100 false Try.f15 (norms [(.agg [(.arr 32 (.int .u64)), (.int .u64), (.int .i64), .bool, (.arr 29 (.int .u64)), (.int .u64)]), (.int .i64)] 0 g) = some (csr_ReadG (fun i0 => (((g 0).fld 0).ix i0).num) (((g 0).fld 1).num) (((g 0).fld 2).num) (((g 0).fld 3).bool) (fun i0 => (((g 0).fld 4).ix i0).num) (((g 0).fld 5).num) ((g 1).num), csr_ReadV (fun i0 => (((g 0).fld 0).ix i0).num) (((g 0).fld 1).num) (((g 0).fld 2).num) (((g 0).fld 3).bool) (fun i0 => (((g 0).fld 4).ix i0).num) (((g 0).fld 5).num) ((g 1).num)) := by kernel_rfl
theorem csr_ReadP : Plain Try.prog 15 Try.f15 := ⟨Try.func15, of_decide_eq_true (by kernel_rfl)⟩
theorem csr_ReadT (a0_X : Nat → Int) (a0_PC : Int) (a0_Level : Int) (a0_V : Bool) (a0_C : Nat → Int) (a0_Done : Int) (a1 : Int) : csr_ReadG a0_X a0_PC a0_Level a0_V a0_C a0_Done a1 = true := by
  unfold csr_ReadG
  have h := index_in a1
  cases h1 : iLe 0 (csr_Index0 a1) with
  | true => rw [iIn_true.2 ⟨iLe_true.1 h1, h.2⟩]; simp
  | false => simp
theorem csr_ReadO : RowOk Try.prog 15 (rowF [(.agg [(.arr 32 (.int .u64)), (.int .u64), (.int .i64), .bool, (.arr 29 (.int .u64)), (.int .u64)]), (.int .i64)] none fun g => csr_ReadV (fun i0 => (((g 0).fld 0).ix i0).num) (((g 0).fld 1).num) (((g 0).fld 2).num) (((g 0).fld 3).bool) (fun i0 => (((g 0).fld 4).ix i0).num) (((g 0).fld 5).num) ((g 1).num)) := rowT_ok fun g => pcOf_ok mix fair T46_ok (inl_ok mix fair T46_ok FS_ok 2) csr_ReadP (fun c _ => OvOk_none c) (csr_ReadE g) (csr_ReadT (fun i0 => (((g 0).fld 0).ix i0).num) (((g 0).fld 1).num) (((g 0).fld 2).num) (((g 0).fld 3).bool) (fun i0 => (((g 0).fld 4).ix i0).num) (((g 0).fld 5).num) ((g 1).num))
def T15 : List Row := (15, (rowF [(.agg [(.arr 32 (.int .u64)), (.int .u64), (.int .i64), .bool, (.arr 29 (.int .u64)), (.int .u64)]), (.int .i64)] none fun g => csr_ReadV (fun i0 => (((g 0).fld 0).ix i0).num) (((g 0).fld 1).num) (((g 0).fld 2).num) (((g 0).fld 3).bool) (fun i0 => (((g 0).fld 4).ix i0).num) (((g 0).fld 5).num) ((g 1).num))) :: T46
theorem T15_ok : PSound Try.prog (lookR T15) := lookR_cons csr_ReadO T46_ok

/- sallyport/csr.With -/
def csr_With0 (a0_X : Nat → Int) (a0_PC : Int) (a0_Level : Int) (a0_V : Bool) (a0_C : Nat → Int) (a0_Done : Int) (a1 : Int) (a2 : Int) (a3 : Int) : Nat → Int :=
  fun i0 => bif bif iEq a1 0 then iEq (word_Bits0 (iAnd IntKind.u64 a3 a2) 11 2) 2 else false then a0_X i0 else a0_X i0
def csr_With1 (a0_X : Nat → Int) (a0_PC : Int) (a0_Level : Int) (a0_V : Bool) (a0_C : Nat → Int) (a0_Done : Int) (a1 : Int) (a2 : Int) (a3 : Int) : Int :=
  bif bif iEq a1 0 then iEq (word_Bits0 (iAnd IntKind.u64 a3 a2) 11 2) 2 else false then a0_PC else a0_PC
def csr_With2 (a0_X : Nat → Int) (a0_PC : Int) (a0_Level : Int) (a0_V : Bool) (a0_C : Nat → Int) (a0_Done : Int) (a1 : Int) (a2 : Int) (a3 : Int) : Int :=
  bif bif iEq a1 0 then iEq (word_Bits0 (iAnd IntKind.u64 a3 a2) 11 2) 2 else false then a0_Level else a0_Level
def csr_With3 (a0_X : Nat → Int) (a0_PC : Int) (a0_Level : Int) (a0_V : Bool) (a0_C : Nat → Int) (a0_Done : Int) (a1 : Int) (a2 : Int) (a3 : Int) : Bool :=
  bif bif iEq a1 0 then iEq (word_Bits0 (iAnd IntKind.u64 a3 a2) 11 2) 2 else false then a0_V else a0_V
def csr_With4 (a0_X : Nat → Int) (a0_PC : Int) (a0_Level : Int) (a0_V : Bool) (a0_C : Nat → Int) (a0_Done : Int) (a1 : Int) (a2 : Int) (a3 : Int) : Nat → Int :=
  fun i0 => bif bif iEq a1 0 then iEq (word_Bits0 (iAnd IntKind.u64 a3 a2) 11 2) 2 else false then
    bif i0 == a1.toNat then iOr IntKind.u64 (iAndNot IntKind.u64 (a0_C a1.toNat) a2) (word_Set0 (iAnd IntKind.u64 a3 a2) 11 2 0) else a0_C i0
  else bif i0 == a1.toNat then iOr IntKind.u64 (iAndNot IntKind.u64 (a0_C a1.toNat) a2) (iAnd IntKind.u64 a3 a2) else a0_C i0
def csr_With5 (a0_X : Nat → Int) (a0_PC : Int) (a0_Level : Int) (a0_V : Bool) (a0_C : Nat → Int) (a0_Done : Int) (a1 : Int) (a2 : Int) (a3 : Int) : Int :=
  bif bif iEq a1 0 then iEq (word_Bits0 (iAnd IntKind.u64 a3 a2) 11 2) 2 else false then a0_Done else a0_Done
def csr_WithG (a0_X : Nat → Int) (a0_PC : Int) (a0_Level : Int) (a0_V : Bool) (a0_C : Nat → Int) (a0_Done : Int) (a1 : Int) (a2 : Int) (a3 : Int) : Bool :=
  bif bif iEq a1 0 then iEq (word_Bits0 (iAnd IntKind.u64 a3 a2) 11 2) 2 else false then iIn a1 29 && (iIn a1 29 && true) else iIn a1 29 && (iIn a1 29 && true)
def csr_WithV (a0_X : Nat → Int) (a0_PC : Int) (a0_Level : Int) (a0_V : Bool) (a0_C : Nat → Int) (a0_Done : Int) (a1 : Int) (a2 : Int) (a3 : Int) : AV := .agg [.arr 32 (.int .u64) fun i0 => .it .u64 (csr_With0 a0_X a0_PC a0_Level a0_V a0_C a0_Done a1 a2 a3 i0), .it .u64 (csr_With1 a0_X a0_PC a0_Level a0_V a0_C a0_Done a1 a2 a3), .it .i64 (csr_With2 a0_X a0_PC a0_Level a0_V a0_C a0_Done a1 a2 a3), .bl (csr_With3 a0_X a0_PC a0_Level a0_V a0_C a0_Done a1 a2 a3), .arr 29 (.int .u64) fun i0 => .it .u64 (csr_With4 a0_X a0_PC a0_Level a0_V a0_C a0_Done a1 a2 a3 i0), .it .u64 (csr_With5 a0_X a0_PC a0_Level a0_V a0_C a0_Done a1 a2 a3)]
theorem csr_WithE (g : Nat → AV) : pcOf Try.prog okT (lookR T15) (NOH) RO NOV 100 false Try.f41 (norms [(.agg [(.arr 32 (.int .u64)), (.int .u64), (.int .i64), .bool, (.arr 29 (.int .u64)), (.int .u64)]), (.int .i64), (.int .u64), (.int .u64)] 0 g) = some (csr_WithG (fun i0 => (((g 0).fld 0).ix i0).num) (((g 0).fld 1).num) (((g 0).fld 2).num) (((g 0).fld 3).bool) (fun i0 => (((g 0).fld 4).ix i0).num) (((g 0).fld 5).num) ((g 1).num) ((g 2).num) ((g 3).num), csr_WithV (fun i0 => (((g 0).fld 0).ix i0).num) (((g 0).fld 1).num) (((g 0).fld 2).num) (((g 0).fld 3).bool) (fun i0 => (((g 0).fld 4).ix i0).num) (((g 0).fld 5).num) ((g 1).num) ((g 2).num) ((g 3).num)) := by kernel_rfl
theorem csr_WithP : Plain Try.prog 41 Try.f41 := ⟨Try.func41, of_decide_eq_true (by kernel_rfl)⟩
theorem csr_WithO : RowOk Try.prog 41 (rowF [(.agg [(.arr 32 (.int .u64)), (.int .u64), (.int .i64), .bool, (.arr 29 (.int .u64)), (.int .u64)]), (.int .i64), (.int .u64), (.int .u64)] (some fun g => csr_WithG (fun i0 => (((g 0).fld 0).ix i0).num) (((g 0).fld 1).num) (((g 0).fld 2).num) (((g 0).fld 3).bool) (fun i0 => (((g 0).fld 4).ix i0).num) (((g 0).fld 5).num) ((g 1).num) ((g 2).num) ((g 3).num)) fun g => csr_WithV (fun i0 => (((g 0).fld 0).ix i0).num) (((g 0).fld 1).num) (((g 0).fld 2).num) (((g 0).fld 3).bool) (fun i0 => (((g 0).fld 4).ix i0).num) (((g 0).fld 5).num) ((g 1).num) ((g 2).num) ((g 3).num)) := rowF_ok fun g hg => pcOf_ok mix fair T15_ok (HSound_none) csr_WithP (fun c _ => OvOk_none c) (csr_WithE g) hg
def T41 : List Row := (41, (rowF [(.agg [(.arr 32 (.int .u64)), (.int .u64), (.int .i64), .bool, (.arr 29 (.int .u64)), (.int .u64)]), (.int .i64), (.int .u64), (.int .u64)] (some fun g => csr_WithG (fun i0 => (((g 0).fld 0).ix i0).num) (((g 0).fld 1).num) (((g 0).fld 2).num) (((g 0).fld 3).bool) (fun i0 => (((g 0).fld 4).ix i0).num) (((g 0).fld 5).num) ((g 1).num) ((g 2).num) ((g 3).num)) fun g => csr_WithV (fun i0 => (((g 0).fld 0).ix i0).num) (((g 0).fld 1).num) (((g 0).fld 2).num) (((g 0).fld 3).bool) (fun i0 => (((g 0).fld 4).ix i0).num) (((g 0).fld 5).num) ((g 1).num) ((g 2).num) ((g 3).num))) :: T15
theorem T41_ok : PSound Try.prog (lookR T41) := lookR_cons csr_WithO T15_ok

/- sallyport/csr.Write -/
def csr_Write0 (a0_X : Nat → Int) (a0_PC : Int) (a0_Level : Int) (a0_V : Bool) (a0_C : Nat → Int) (a0_Done : Int) (a1 : Int) (a2 : Int) : Nat → Int :=
  fun i0 => bif iEq a1 256 then csr_With0 (fun i0 => a0_X i0) a0_PC a0_Level a0_V (fun i0 => a0_C i0) a0_Done 0 786722 a2 i0
  else
    bif iEq a1 260 then csr_With0 (fun i0 => a0_X i0) a0_PC a0_Level a0_V (fun i0 => a0_C i0) a0_Done 3 544 a2 i0
    else
      bif iEq a1 516 then csr_With0 (fun i0 => a0_X i0) a0_PC a0_Level a0_V (fun i0 => a0_C i0) a0_Done 3 1088 (iShl IntKind.u64 a2 1) i0
      else
        bif iEq a1 3074 then a0_X i0
        else bif iLt (csr_Index0 a1) 0 then a0_X i0 else csr_With0 (fun i0 => a0_X i0) a0_PC a0_Level a0_V (fun i0 => a0_C i0) a0_Done (csr_Index0 a1) (csr_Mask0 (csr_Index0 a1)) a2 i0
def csr_Write1 (a0_X : Nat → Int) (a0_PC : Int) (a0_Level : Int) (a0_V : Bool) (a0_C : Nat → Int) (a0_Done : Int) (a1 : Int) (a2 : Int) : Int :=
  bif iEq a1 256 then csr_With1 (fun i0 => a0_X i0) a0_PC a0_Level a0_V (fun i0 => a0_C i0) a0_Done 0 786722 a2
  else
    bif iEq a1 260 then csr_With1 (fun i0 => a0_X i0) a0_PC a0_Level a0_V (fun i0 => a0_C i0) a0_Done 3 544 a2
    else
      bif iEq a1 516 then csr_With1 (fun i0 => a0_X i0) a0_PC a0_Level a0_V (fun i0 => a0_C i0) a0_Done 3 1088 (iShl IntKind.u64 a2 1)
      else
        bif iEq a1 3074 then a0_PC
        else bif iLt (csr_Index0 a1) 0 then a0_PC else csr_With1 (fun i0 => a0_X i0) a0_PC a0_Level a0_V (fun i0 => a0_C i0) a0_Done (csr_Index0 a1) (csr_Mask0 (csr_Index0 a1)) a2
def csr_Write2 (a0_X : Nat → Int) (a0_PC : Int) (a0_Level : Int) (a0_V : Bool) (a0_C : Nat → Int) (a0_Done : Int) (a1 : Int) (a2 : Int) : Int :=
  bif iEq a1 256 then csr_With2 (fun i0 => a0_X i0) a0_PC a0_Level a0_V (fun i0 => a0_C i0) a0_Done 0 786722 a2
  else
    bif iEq a1 260 then csr_With2 (fun i0 => a0_X i0) a0_PC a0_Level a0_V (fun i0 => a0_C i0) a0_Done 3 544 a2
    else
      bif iEq a1 516 then csr_With2 (fun i0 => a0_X i0) a0_PC a0_Level a0_V (fun i0 => a0_C i0) a0_Done 3 1088 (iShl IntKind.u64 a2 1)
      else
        bif iEq a1 3074 then a0_Level
        else bif iLt (csr_Index0 a1) 0 then a0_Level else csr_With2 (fun i0 => a0_X i0) a0_PC a0_Level a0_V (fun i0 => a0_C i0) a0_Done (csr_Index0 a1) (csr_Mask0 (csr_Index0 a1)) a2
def csr_Write3 (a0_X : Nat → Int) (a0_PC : Int) (a0_Level : Int) (a0_V : Bool) (a0_C : Nat → Int) (a0_Done : Int) (a1 : Int) (a2 : Int) : Bool :=
  bif iEq a1 256 then csr_With3 (fun i0 => a0_X i0) a0_PC a0_Level a0_V (fun i0 => a0_C i0) a0_Done 0 786722 a2
  else
    bif iEq a1 260 then csr_With3 (fun i0 => a0_X i0) a0_PC a0_Level a0_V (fun i0 => a0_C i0) a0_Done 3 544 a2
    else
      bif iEq a1 516 then csr_With3 (fun i0 => a0_X i0) a0_PC a0_Level a0_V (fun i0 => a0_C i0) a0_Done 3 1088 (iShl IntKind.u64 a2 1)
      else
        bif iEq a1 3074 then a0_V
        else bif iLt (csr_Index0 a1) 0 then a0_V else csr_With3 (fun i0 => a0_X i0) a0_PC a0_Level a0_V (fun i0 => a0_C i0) a0_Done (csr_Index0 a1) (csr_Mask0 (csr_Index0 a1)) a2
def csr_Write4 (a0_X : Nat → Int) (a0_PC : Int) (a0_Level : Int) (a0_V : Bool) (a0_C : Nat → Int) (a0_Done : Int) (a1 : Int) (a2 : Int) : Nat → Int :=
  fun i0 => bif iEq a1 256 then csr_With4 (fun i0 => a0_X i0) a0_PC a0_Level a0_V (fun i0 => a0_C i0) a0_Done 0 786722 a2 i0
  else
    bif iEq a1 260 then csr_With4 (fun i0 => a0_X i0) a0_PC a0_Level a0_V (fun i0 => a0_C i0) a0_Done 3 544 a2 i0
    else
      bif iEq a1 516 then csr_With4 (fun i0 => a0_X i0) a0_PC a0_Level a0_V (fun i0 => a0_C i0) a0_Done 3 1088 (iShl IntKind.u64 a2 1) i0
      else
        bif iEq a1 3074 then a0_C i0
        else bif iLt (csr_Index0 a1) 0 then a0_C i0 else csr_With4 (fun i0 => a0_X i0) a0_PC a0_Level a0_V (fun i0 => a0_C i0) a0_Done (csr_Index0 a1) (csr_Mask0 (csr_Index0 a1)) a2 i0
def csr_Write5 (a0_X : Nat → Int) (a0_PC : Int) (a0_Level : Int) (a0_V : Bool) (a0_C : Nat → Int) (a0_Done : Int) (a1 : Int) (a2 : Int) : Int :=
  bif iEq a1 256 then csr_With5 (fun i0 => a0_X i0) a0_PC a0_Level a0_V (fun i0 => a0_C i0) a0_Done 0 786722 a2
  else
    bif iEq a1 260 then csr_With5 (fun i0 => a0_X i0) a0_PC a0_Level a0_V (fun i0 => a0_C i0) a0_Done 3 544 a2
    else
      bif iEq a1 516 then csr_With5 (fun i0 => a0_X i0) a0_PC a0_Level a0_V (fun i0 => a0_C i0) a0_Done 3 1088 (iShl IntKind.u64 a2 1)
      else
        bif iEq a1 3074 then a0_Done
        else bif iLt (csr_Index0 a1) 0 then a0_Done else csr_With5 (fun i0 => a0_X i0) a0_PC a0_Level a0_V (fun i0 => a0_C i0) a0_Done (csr_Index0 a1) (csr_Mask0 (csr_Index0 a1)) a2
def csr_Write6 (a0_X : Nat → Int) (a0_PC : Int) (a0_Level : Int) (a0_V : Bool) (a0_C : Nat → Int) (a0_Done : Int) (a1 : Int) (a2 : Int) : Bool :=
  bif iEq a1 256 then true else bif iEq a1 260 then true else bif iEq a1 516 then true else bif iEq a1 3074 then true else bif iLt (csr_Index0 a1) 0 then false else true
def csr_WriteG (a0_X : Nat → Int) (a0_PC : Int) (a0_Level : Int) (a0_V : Bool) (a0_C : Nat → Int) (a0_Done : Int) (a1 : Int) (a2 : Int) : Bool :=
  bif iEq a1 256 then csr_WithG (fun i0 => a0_X i0) a0_PC a0_Level a0_V (fun i0 => a0_C i0) a0_Done 0 786722 a2 && true
  else
    bif iEq a1 260 then csr_WithG (fun i0 => a0_X i0) a0_PC a0_Level a0_V (fun i0 => a0_C i0) a0_Done 3 544 a2 && true
    else
      bif iEq a1 516 then csr_WithG (fun i0 => a0_X i0) a0_PC a0_Level a0_V (fun i0 => a0_C i0) a0_Done 3 1088 (iShl IntKind.u64 a2 1) && true
      else
        bif iEq a1 3074 then true
        else bif iLt (csr_Index0 a1) 0 then true else csr_WithG (fun i0 => a0_X i0) a0_PC a0_Level a0_V (fun i0 => a0_C i0) a0_Done (csr_Index0 a1) (csr_Mask0 (csr_Index0 a1)) a2 && true
def csr_WriteV (a0_X : Nat → Int) (a0_PC : Int) (a0_Level : Int) (a0_V : Bool) (a0_C : Nat → Int) (a0_Done : Int) (a1 : Int) (a2 : Int) : AV := .tup [.agg [.arr 32 (.int .u64) fun i0 => .it .u64 (csr_Write0 a0_X a0_PC a0_Level a0_V a0_C a0_Done a1 a2 i0), .it .u64 (csr_Write1 a0_X a0_PC a0_Level a0_V a0_C a0_Done a1 a2), .it .i64 (csr_Write2 a0_X a0_PC a0_Level a0_V a0_C a0_Done a1 a2), .bl (csr_Write3 a0_X a0_PC a0_Level a0_V a0_C a0_Done a1 a2), .arr 29 (.int .u64) fun i0 => .it .u64 (csr_Write4 a0_X a0_PC a0_Level a0_V a0_C a0_Done a1 a2 i0), .it .u64 (csr_Write5 a0_X a0_PC a0_Level a0_V a0_C a0_Done a1 a2)], .bl (csr_Write6 a0_X a0_PC a0_Level a0_V a0_C a0_Done a1 a2)]
theorem csr_WriteE (g : Nat → AV) : pcOf Try.prog okT (lookR T41) (inl Try.prog okT (lookR T41) RO FS 100 ST 2) RO NOV 100 false Try.f17 (norms [(.agg [(.arr 32 (.int .u64)), (.int .u64), (.int .i64), .bool, (.arr 29 (.int .u64)), (.int .u64)]), (.int .i64), (.int .u64)] 0 g) = some (csr_WriteG (fun i0 => (((g 0).fld 0).ix i0).num) (((g 0).fld 1).num) (((g 0).fld 2).num) (((g 0).fld 3).bool) (fun i0 => (((g 0).fld 4).ix i0).num) (((g 0).fld 5).num) ((g 1).num) ((g 2).num), csr_WriteV (fun i0 => (((g 0).fld 0).ix i0).num) (((g 0).fld 1).num) (((g 0).fld 2).num) (((g 0).fld 3).bool) (fun i0 => (((g 0).fld 4).ix i0).num) (((g 0).fld 5).num) ((g 1).num) ((g 2).num)) := by kernel_rfl
theorem csr_WriteP : Plain Try.prog 17 Try.f17 := ⟨Try.func17, of_decide_eq_true (by kernel_rfl)⟩
theorem csr_WriteT (a0_X : Nat → Int) (a0_PC : Int) (a0_Level : Int) (a0_V : Bool) (a0_C : Nat → Int) (a0_Done : Int) (a1 : Int) (a2 : Int) : csr_WriteG a0_X a0_PC a0_Level a0_V a0_C a0_Done a1 a2 = true := by
  unfold csr_WriteG csr_WithG
  have h := index_in a1
  have i0 : iIn 0 29 = true := by decide
  have i3 : iIn 3 29 = true := by decide
  rw [i0, i3]
  cases h1 : iLt (csr_Index0 a1) 0 with
  | false => rw [iIn_true.2 ⟨iLt_false.1 h1, h.2⟩]; simp
  | true => simp
theorem csr_WriteO : RowOk Try.prog 17 (rowF [(.agg [(.arr 32 (.int .u64)), (.int .u64), (.int .i64), .bool, (.arr 29 (.int .u64)), (.int .u64)]), (.int .i64), (.int .u64)] none fun g => csr_WriteV (fun i0 => (((g 0).fld 0).ix i0).num) (((g 0).fld 1).num) (((g 0).fld 2).num) (((g 0).fld 3).bool) (fun i0 => (((g 0).fld 4).ix i0).num) (((g 0).fld 5).num) ((g 1).num) ((g 2).num)) := rowT_ok fun g => pcOf_ok mix fair T41_ok (inl_ok mix fair T41_ok FS_ok 2) csr_WriteP (fun c _ => OvOk_none c) (csr_WriteE g) (csr_WriteT (fun i0 => (((g 0).fld 0).ix i0).num) (((g 0).fld 1).num) (((g 0).fld 2).num) (((g 0).fld 3).bool) (fun i0 => (((g 0).fld 4).ix i0).num) (((g 0).fld 5).num) ((g 1).num) ((g 2).num))
def T17 : List Row := (17, (rowF [(.agg [(.arr 32 (.int .u64)), (.int .u64), (.int .i64), .bool, (.arr 29 (.int .u64)), (.int .u64)]), (.int .i64), (.int .u64)] none fun g => csr_WriteV (fun i0 => (((g 0).fld 0).ix i0).num) (((g 0).fld 1).num) (((g 0).fld 2).num) (((g 0).fld 3).bool) (fun i0 => (((g 0).fld 4).ix i0).num) (((g 0).fld 5).num) ((g 1).num) ((g 2).num))) :: T41
theorem T17_ok : PSound Try.prog (lookR T17) := lookR_cons csr_WriteO T41_ok

/- sallyport/csr.Pending -/
def csr_Pending0 (a0_X : Nat → Int) (a0_PC : Int) (a0_Level : Int) (a0_V : Bool) (a0_C : Nat → Int) (a0_Done : Int) (a1 : Bool) (a2 : Bool) : Int :=
  bif a1 then bif a2 then iOr IntKind.u64 (iOr IntKind.u64 (a0_C 19) 32) 512 else iOr IntKind.u64 (a0_C 19) 32 else bif a2 then iOr IntKind.u64 (a0_C 19) 512 else a0_C 19
def csr_PendingG (a0_X : Nat → Int) (a0_PC : Int) (a0_Level : Int) (a0_V : Bool) (a0_C : Nat → Int) (a0_Done : Int) (a1 : Bool) (a2 : Bool) : Bool :=
  bif a1 then bif a2 then true else true else bif a2 then true else true
def csr_PendingV (a0_X : Nat → Int) (a0_PC : Int) (a0_Level : Int) (a0_V : Bool) (a0_C : Nat → Int) (a0_Done : Int) (a1 : Bool) (a2 : Bool) : AV := .it .u64 (csr_Pending0 a0_X a0_PC a0_Level a0_V a0_C a0_Done a1 a2)
theorem csr_PendingE (g : Nat → AV) : pcOf Try.prog okT (lookR T17) (inl Try.prog okT (lookR T17) RO FS 100 ST 2) RO NOV 100 false Try.f27 (norms [(.agg [(.arr 32 (.int .u64)), (.int .u64), (.int .i64), .bool, (.arr 29 (.int .u64)), (.int .u64)]), .bool, .bool] 0 g) = some (csr_PendingG (fun i0 => (((g 0).fld 0).ix i0).num) (((g 0).fld 1).num) (((g 0).fld 2).num) (((g 0).fld 3).bool) (fun i0 => (((g 0).fld 4).ix i0).num) (((g 0).fld 5).num) ((g 1).bool) ((g 2).bool), csr_PendingV (fun i0 => (((g 0).fld 0).ix i0).num) (((g 0).fld 1).num) (((g 0).fld 2).num) (((g 0).fld 3).bool) (fun i0 => (((g 0).fld 4).ix i0).num) (((g 0).fld 5).num) ((g 1).bool) ((g 2).bool)) := by kernel_rfl
theorem csr_PendingP : Plain Try.prog 27 Try.f27 := ⟨Try.func27, of_decide_eq_true (by kernel_rfl)⟩
theorem csr_PendingT (a0_X : Nat → Int) (a0_PC : Int) (a0_Level : Int) (a0_V : Bool) (a0_C : Nat → Int) (a0_Done : Int) (a1 : Bool) (a2 : Bool) : csr_PendingG a0_X a0_PC a0_Level a0_V a0_C a0_Done a1 a2 = true := by first | (simp [csr_PendingG]; done) | (simp [csr_PendingG, Go.Ev.iEq, Go.Ev.iNe, Go.Ev.iLt, Go.Ev.iLe, Go.Ev.iIn]; omega)
theorem csr_PendingO : RowOk Try.prog 27 (rowF [(.agg [(.arr 32 (.int .u64)), (.int .u64), (.int .i64), .bool, (.arr 29 (.int .u64)), (.int .u64)]), .bool, .bool] none fun g => csr_PendingV (fun i0 => (((g 0).fld 0).ix i0).num) (((g 0).fld 1).num) (((g 0).fld 2).num) (((g 0).fld 3).bool) (fun i0 => (((g 0).fld 4).ix i0).num) (((g 0).fld 5).num) ((g 1).bool) ((g 2).bool)) := rowT_ok fun g => pcOf_ok mix fair T17_ok (inl_ok mix fair T17_ok FS_ok 2) csr_PendingP (fun c _ => OvOk_none c) (csr_PendingE g) (csr_PendingT (fun i0 => (((g 0).fld 0).ix i0).num) (((g 0).fld 1).num) (((g 0).fld 2).num) (((g 0).fld 3).bool) (fun i0 => (((g 0).fld 4).ix i0).num) (((g 0).fld 5).num) ((g 1).bool) ((g 2).bool))
def T27 : List Row := (27, (rowF [(.agg [(.arr 32 (.int .u64)), (.int .u64), (.int .i64), .bool, (.arr 29 (.int .u64)), (.int .u64)]), .bool, .bool] none fun g => csr_PendingV (fun i0 => (((g 0).fld 0).ix i0).num) (((g 0).fld 1).num) (((g 0).fld 2).num) (((g 0).fld 3).bool) (fun i0 => (((g 0).fld 4).ix i0).num) (((g 0).fld 5).num) ((g 1).bool) ((g 2).bool))) :: T17
theorem T27_ok : PSound Try.prog (lookR T27) := lookR_cons csr_PendingO T17_ok

/- sallyport/csr.Redirect -/
def csr_Redirect0 (a0 : Int) : Int :=
  bif iEq a0 256 then bif iEq a0 256 then iAdd IntKind.i64 a0 256 else a0
  else
    bif iEq a0 260 then bif iEq a0 260 then iAdd IntKind.i64 a0 256 else a0
    else
      bif iEq a0 261 then bif iEq a0 261 then iAdd IntKind.i64 a0 256 else a0
      else
        bif iEq a0 320 then bif iEq a0 320 then iAdd IntKind.i64 a0 256 else a0
        else
          bif iEq a0 321 then bif iEq a0 321 then iAdd IntKind.i64 a0 256 else a0
          else
            bif iEq a0 322 then bif iEq a0 322 then iAdd IntKind.i64 a0 256 else a0
            else bif iEq a0 323 then bif iEq a0 323 then iAdd IntKind.i64 a0 256 else a0 else bif iEq a0 384 then iAdd IntKind.i64 a0 256 else a0
def csr_RedirectG (a0 : Int) : Bool :=
  bif iEq a0 256 then bif iEq a0 256 then true else true
  else
    bif iEq a0 260 then bif iEq a0 260 then true else true
    else
      bif iEq a0 261 then bif iEq a0 261 then true else true
      else
        bif iEq a0 320 then bif iEq a0 320 then true else true
        else
          bif iEq a0 321 then bif iEq a0 321 then true else true
          else bif iEq a0 322 then bif iEq a0 322 then true else true else bif iEq a0 323 then bif iEq a0 323 then true else true else bif iEq a0 384 then true else true
def csr_RedirectV (a0 : Int) : AV := .it .i64 (csr_Redirect0 a0)
theorem csr_RedirectE (g : Nat → AV) : pcOf Try.prog okT (lookR T27) (NOH) RO NOV 100 false Try.f25 (norms [(.int .i64)] 0 g) = some (csr_RedirectG ((g 0).num), csr_RedirectV ((g 0).num)) := by kernel_rfl
theorem csr_RedirectP : Plain Try.prog 25 Try.f25 := ⟨Try.func25, of_decide_eq_true (by kernel_rfl)⟩
theorem csr_RedirectT (a0 : Int) : csr_RedirectG a0 = true := by first | (simp [csr_RedirectG]; done) | (simp [csr_RedirectG, Go.Ev.iEq, Go.Ev.iNe, Go.Ev.iLt, Go.Ev.iLe, Go.Ev.iIn]; omega)
theorem csr_RedirectO : RowOk Try.prog 25 (rowF [(.int .i64)] none fun g => csr_RedirectV ((g 0).num)) := rowT_ok fun g => pcOf_ok mix fair T27_ok (HSound_none) csr_RedirectP (fun c _ => OvOk_none c) (csr_RedirectE g) (csr_RedirectT ((g 0).num))
def T25 : List Row := (25, (rowF [(.int .i64)] none fun g => csr_RedirectV ((g 0).num))) :: T27
theorem T25_ok : PSound Try.prog (lookR T25) := lookR_cons csr_RedirectO T27_ok

/- sallyport/csr.Bit -/
def csr_Bit0 (a0_X : Nat → Int) (a0_PC : Int) (a0_Level : Int) (a0_V : Bool) (a0_C : Nat → Int) (a0_Done : Int) (a1 : Int) (a2 : Int) : Bool :=
  iEq (word_Bits0 (a0_C a1.toNat) a2 1) 1
def csr_BitG (a0_X : Nat → Int) (a0_PC : Int) (a0_Level : Int) (a0_V : Bool) (a0_C : Nat → Int) (a0_Done : Int) (a1 : Int) (a2 : Int) : Bool :=
  iIn a1 29 && true
def csr_BitV (a0_X : Nat → Int) (a0_PC : Int) (a0_Level : Int) (a0_V : Bool) (a0_C : Nat → Int) (a0_Done : Int) (a1 : Int) (a2 : Int) : AV := .bl (csr_Bit0 a0_X a0_PC a0_Level a0_V a0_C a0_Done a1 a2)
theorem csr_BitE (g : Nat → AV) : pcOf Try.prog okT (lookR T25) (NOH) RO NOV 100 false Try.f49 (norms [(.agg [(.arr 32 (.int .u64)), (.int .u64), (.int .i64), .bool, (.arr 29 (.int .u64)), (.int .u64)]), (.int .i64), (.int .i64)] 0 g) = some (csr_BitG (fun i0 => (((g 0).fld 0).ix i0).num) (((g 0).fld 1).num) (((g 0).fld 2).num) (((g 0).fld 3).bool) (fun i0 => (((g 0).fld 4).ix i0).num) (((g 0).fld 5).num) ((g 1).num) ((g 2).num), csr_BitV (fun i0 => (((g 0).fld 0).ix i0).num) (((g 0).fld 1).num) (((g 0).fld 2).num) (((g 0).fld 3).bool) (fun i0 => (((g 0).fld 4).ix i0).num) (((g 0).fld 5).num) ((g 1).num) ((g 2).num)) := by kernel_rfl
theorem csr_BitP : Plain Try.prog 49 Try.f49 := ⟨Try.func49, of_decide_eq_true (by kernel_rfl)⟩
theorem csr_BitO : RowOk Try.prog 49 (rowF [(.agg [(.arr 32 (.int .u64)), (.int .u64), (.int .i64), .bool, (.arr 29 (.int .u64)), (.int .u64)]), (.int .i64), (.int .i64)] (some fun g => csr_BitG (fun i0 => (((g 0).fld 0).ix i0).num) (((g 0).fld 1).num) (((g 0).fld 2).num) (((g 0).fld 3).bool) (fun i0 => (((g 0).fld 4).ix i0).num) (((g 0).fld 5).num) ((g 1).num) ((g 2).num)) fun g => csr_BitV (fun i0 => (((g 0).fld 0).ix i0).num) (((g 0).fld 1).num) (((g 0).fld 2).num) (((g 0).fld 3).bool) (fun i0 => (((g 0).fld 4).ix i0).num) (((g 0).fld 5).num) ((g 1).num) ((g 2).num)) := rowF_ok fun g hg => pcOf_ok mix fair T25_ok (HSound_none) csr_BitP (fun c _ => OvOk_none c) (csr_BitE g) hg
def T49 : List Row := (49, (rowF [(.agg [(.arr 32 (.int .u64)), (.int .u64), (.int .i64), .bool, (.arr 29 (.int .u64)), (.int .u64)]), (.int .i64), (.int .i64)] (some fun g => csr_BitG (fun i0 => (((g 0).fld 0).ix i0).num) (((g 0).fld 1).num) (((g 0).fld 2).num) (((g 0).fld 3).bool) (fun i0 => (((g 0).fld 4).ix i0).num) (((g 0).fld 5).num) ((g 1).num) ((g 2).num)) fun g => csr_BitV (fun i0 => (((g 0).fld 0).ix i0).num) (((g 0).fld 1).num) (((g 0).fld 2).num) (((g 0).fld 3).bool) (fun i0 => (((g 0).fld 4).ix i0).num) (((g 0).fld 5).num) ((g 1).num) ((g 2).num))) :: T25
theorem T49_ok : PSound Try.prog (lookR T49) := lookR_cons csr_BitO T25_ok

end
end Go.Proofs.Ytdfafnelmpflgaa.PV
