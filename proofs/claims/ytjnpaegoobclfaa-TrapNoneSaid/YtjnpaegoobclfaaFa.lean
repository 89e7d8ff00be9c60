/-
  What functions of the program and of the document yield, evaluated (sallyportref8.Mask .. sallyportref8.Insn). Printed by a program of the prover's own (wip/prt).
-/
import Derived.Test.YtjnpaegoobclfaaRows
import Derived.Test.YtjnpaegoobclfaaEvW
set_option linter.unusedVariables false
set_option linter.unusedSimpArgs false
namespace Go.Proofs.Ytjnpaegoobclfaa.PV
noncomputable section
open Go Go.Ev
def okT : List TypeId := [23, 26, 54]
theorem fair : Go.Ev.Fair Try.prog okT :=
  ⟨fun t h => by
    simp only [okT, List.contains_cons, List.contains_nil, Bool.or_false, Bool.or_eq_true, beq_iff_eq] at h
    rcases h with rfl | rfl | rfl
    · kernel_rfl
    · exact Try.stoodInHeld26
    · exact Try.stoodInHeld54
   , fun t h => by
    simp only [okT, List.contains_cons, List.contains_nil, Bool.or_false, Bool.or_eq_true, beq_iff_eq] at h
    rcases h with rfl | rfl | rfl
    · kernel_rfl
    · exact Try.eqGuardType26
    · exact Try.eqGuardType54
  ⟩
theorem mix : Try.prog.follows .mixedOrders = true := Checked.mixed Try.checked
def RO : FuncId → Bool := fun _ => true
abbrev NOV : Ov := fun _ _ _ _ => none
abbrev NOH : Hd := fun _ _ _ _ => none
def T0 : List Row := []
theorem T0_ok : PSound Try.prog (lookR T0) := lookR_nil
def FS : List FuncId := [66, 30]
theorem FS_ok : Names Try.prog FS := names_of (by kernel_rfl)
def ST : FuncId → Bool := fun _ => false
/- sallyport/sallyportref8.Mask -/
def sallyportref8_Mask_c0 (a0 : Int) : Bool :=
  bif iEq a0 16 then true
  else
    bif iEq a0 17 then true
    else
      bif iEq a0 18 then bif iEq a0 18 then true else bif iEq a0 22 then true else bif bif iLt a0 0 then true else iLe 29 a0 then true else true
      else bif iEq a0 19 then true else bif iEq a0 22 then true else bif bif iLt a0 0 then true else iLe 29 a0 then true else true
def sallyportref8_Mask_c1 (a0 : Int) : Bool :=
  bif iEq a0 15 then bif iEq a0 15 then true else sallyportref8_Mask_c0 a0
  else bif iEq a0 28 then bif iEq a0 28 then true else sallyportref8_Mask_c0 a0 else bif iEq a0 21 then true else sallyportref8_Mask_c0 a0
def sallyportref8_Mask_c2 (a0 : Int) : Int :=
  bif iEq a0 19 then 1088 else bif iEq a0 22 then 786722 else bif bif iLt a0 0 then true else iLe 29 a0 then 0 else 18446744073709551615
def sallyportref8_Mask_c3 (a0 : Int) : Int :=
  bif iEq a0 16 then 7340992
  else
    bif iEq a0 17 then 45567
    else bif iEq a0 18 then bif iEq a0 18 then 1088 else bif iEq a0 22 then 786722 else bif bif iLt a0 0 then true else iLe 29 a0 then 0 else 18446744073709551615 else sallyportref8_Mask_c2 a0
def sallyportref8_Mask_c4 (a0 : Int) : Int :=
  bif iEq a0 15 then bif iEq a0 15 then 9223372036871487743 else sallyportref8_Mask_c3 a0
  else bif iEq a0 28 then bif iEq a0 28 then 9223372036871487743 else sallyportref8_Mask_c3 a0 else bif iEq a0 21 then 9223372036871487743 else sallyportref8_Mask_c3 a0
def sallyportref8_Mask0 (a0 : Int) : Int :=
  bif iEq a0 0 then 824641853866
  else
    bif iEq a0 1 then 15775231
    else
      bif iEq a0 2 then 544
      else
        bif iEq a0 3 then 1632
        else
          bif iEq a0 4 then 18446744073709551612
          else
            bif iEq a0 10 then 18446744073709551612
            else
              bif iEq a0 23 then 18446744073709551612
              else
                bif iEq a0 6 then 18446744073709551612
                else
                  bif iEq a0 12 then 18446744073709551612
                  else
                    bif iEq a0 25 then 18446744073709551612
                    else
                      bif iEq a0 15 then 9223372036871487743
                      else
                        bif iEq a0 28 then 9223372036871487743
                        else bif iEq a0 21 then 9223372036871487743 else bif iEq a0 16 then 7340992 else bif iEq a0 17 then 45567 else bif iEq a0 18 then 1088 else sallyportref8_Mask_c2 a0
def sallyportref8_Mask0r (a0 : Int) : Int :=
  bif iEq a0 0 then 824641853866
  else
    bif iEq a0 1 then 15775231
    else
      bif iEq a0 2 then 544
      else
        bif iEq a0 3 then 1632
        else
          bif iEq a0 4 then bif iEq a0 4 then 18446744073709551612 else sallyportref8_Mask_c4 a0
          else
            bif iEq a0 10 then bif iEq a0 10 then 18446744073709551612 else sallyportref8_Mask_c4 a0
            else
              bif iEq a0 23 then bif iEq a0 23 then 18446744073709551612 else sallyportref8_Mask_c4 a0
              else
                bif iEq a0 6 then bif iEq a0 6 then 18446744073709551612 else sallyportref8_Mask_c4 a0
                else bif iEq a0 12 then bif iEq a0 12 then 18446744073709551612 else sallyportref8_Mask_c4 a0 else bif iEq a0 25 then 18446744073709551612 else sallyportref8_Mask_c4 a0
def sallyportref8_MaskG (a0 : Int) : Bool :=
  bif iEq a0 0 then true
  else
    bif iEq a0 1 then true
    else
      bif iEq a0 2 then true
      else
        bif iEq a0 3 then true
        else
          bif iEq a0 4 then bif iEq a0 4 then true else sallyportref8_Mask_c1 a0
          else
            bif iEq a0 10 then bif iEq a0 10 then true else sallyportref8_Mask_c1 a0
            else
              bif iEq a0 23 then bif iEq a0 23 then true else sallyportref8_Mask_c1 a0
              else
                bif iEq a0 6 then bif iEq a0 6 then true else sallyportref8_Mask_c1 a0
                else bif iEq a0 12 then bif iEq a0 12 then true else sallyportref8_Mask_c1 a0 else bif iEq a0 25 then true else sallyportref8_Mask_c1 a0
theorem sallyportref8_Mask0_eq (a0 : Int)  : sallyportref8_Mask0r a0  = sallyportref8_Mask0 a0  := by
  unfold sallyportref8_Mask0r
  first | (simp only [sallyportref8_Mask_c0, sallyportref8_Mask_c1, sallyportref8_Mask_c2, sallyportref8_Mask_c3, sallyportref8_Mask_c4, Go.Ev.cS1, Go.Ev.cS2, Go.Ev.cS3, Go.Ev.cS4, Go.Ev.cS6, Go.Ev.cS7]; done) | (simp only [sallyportref8_Mask_c0, sallyportref8_Mask_c1, sallyportref8_Mask_c2, sallyportref8_Mask_c3, sallyportref8_Mask_c4, Go.Ev.cS1, Go.Ev.cS2, Go.Ev.cS3, Go.Ev.cS4, Go.Ev.cS6, Go.Ev.cS7]; kernel_rfl)
def sallyportref8_MaskV (a0 : Int) : AV := .it .u64 (sallyportref8_Mask0 a0)
def sallyportref8_MaskVr (a0 : Int) : AV := .it .u64 (sallyportref8_Mask0r a0)
theorem sallyportref8_MaskV_eq (a0 : Int) : sallyportref8_MaskVr a0 = sallyportref8_MaskV a0 := by
  unfold sallyportref8_MaskVr sallyportref8_MaskV
  simp only [sallyportref8_Mask0_eq]
theorem sallyportref8_MaskE (g : Nat → AV) : pcOf Try.prog okT (lookR T0) (inl Try.prog okT (lookR T0) RO FS 100 ST 2) RO NOV 100 false Try.f17 (norms [(.int .i64)] 0 g) = some (sallyportref8_MaskG ((g 0).num), sallyportref8_MaskV ((g 0).num)) :=
  (by kernel_rfl : pcOf Try.prog okT (lookR T0) (inl Try.prog okT (lookR T0) RO FS 100 ST 2) RO NOV 100 false Try.f17 (norms [(.int .i64)] 0 g) = some (sallyportref8_MaskG ((g 0).num), sallyportref8_MaskVr ((g 0).num))).trans (by rw [sallyportref8_MaskV_eq])
theorem sallyportref8_MaskP : Plain Try.prog 17 Try.f17 := ⟨Try.func17, of_decide_eq_true (by kernel_rfl)⟩
theorem sallyportref8_MaskT (a0 : Int) : sallyportref8_MaskG a0 = true := by
  unfold sallyportref8_MaskG
  simp only [sallyportref8_Mask_c0, sallyportref8_Mask_c1, sallyportref8_Mask_c2, sallyportref8_Mask_c3, sallyportref8_Mask_c4, Go.Ev.cS1, Go.Ev.cS2, Go.Ev.cS3, Go.Ev.cS4, Go.Ev.cS6, Go.Ev.cS7]
theorem sallyportref8_MaskO : RowOk Try.prog 17 (rowF [(.int .i64)] none fun g => sallyportref8_MaskV ((g 0).num)) := rowT_ok fun g => pcOf_ok mix fair T0_ok (inl_ok mix fair T0_ok FS_ok 2) sallyportref8_MaskP (fun c _ => OvOk_none c) (sallyportref8_MaskE g) (sallyportref8_MaskT ((g 0).num))
def T17 : List Row := (17, (rowF [(.int .i64)] none fun g => sallyportref8_MaskV ((g 0).num))) :: T0
theorem T17_ok : PSound Try.prog (lookR T17) := lookR_cons sallyportref8_MaskO T0_ok

/- sallyport/sallyportref8.Mpp -/
def sallyportref8_Mpp0 (a0 : Int) : Int :=
  bif iEq (iAnd IntKind.u64 (iShr IntKind.u64 a0 11) 3) 2 then iAndNot IntKind.u64 a0 6144 else a0
def sallyportref8_MppG (a0 : Int) : Bool :=
  bif iEq (iAnd IntKind.u64 (iShr IntKind.u64 a0 11) 3) 2 then true else true
def sallyportref8_MppV (a0 : Int) : AV := .it .u64 (sallyportref8_Mpp0 a0)
theorem sallyportref8_MppE (g : Nat → AV) : pcOf Try.prog okT (lookR T17) (inl Try.prog okT (lookR T17) RO FS 100 ST 2) RO NOV 100 false Try.f18 (norms [(.int .u64)] 0 g) = some (sallyportref8_MppG ((g 0).num), sallyportref8_MppV ((g 0).num)) := by kernel_rfl
theorem sallyportref8_MppP : Plain Try.prog 18 Try.f18 := ⟨Try.func18, of_decide_eq_true (by kernel_rfl)⟩
theorem sallyportref8_MppT (a0 : Int) : sallyportref8_MppG a0 = true := by
  unfold sallyportref8_MppG
  simp only [Go.Ev.cS1, Go.Ev.cS2, Go.Ev.cS3, Go.Ev.cS4, Go.Ev.cS6, Go.Ev.cS7]
theorem sallyportref8_MppO : RowOk Try.prog 18 (rowF [(.int .u64)] none fun g => sallyportref8_MppV ((g 0).num)) := rowT_ok fun g => pcOf_ok mix fair T17_ok (inl_ok mix fair T17_ok FS_ok 2) sallyportref8_MppP (fun c _ => OvOk_none c) (sallyportref8_MppE g) (sallyportref8_MppT ((g 0).num))
def T18 : List Row := (18, (rowF [(.int .u64)] none fun g => sallyportref8_MppV ((g 0).num))) :: T17
theorem T18_ok : PSound Try.prog (lookR T18) := lookR_cons sallyportref8_MppO T17_ok

/- sallyport/sallyportref18.Clean -/
def sallyportref18_Clean0 (a0_X : Nat → Int) (a0_PC : Int) (a0_Level : Int) (a0_V : Bool) (a0_C : Nat → Int) (a0_Done : Int) : Nat → Int :=
  fun i0 => bif i0 == 0 then 0 else a0_X i0
def sallyportref18_Clean0r (a0_X : Nat → Int) (a0_PC : Int) (a0_Level : Int) (a0_V : Bool) (a0_C : Nat → Int) (a0_Done : Int) : Nat → Int :=
  fun i0 => bif bif bif iNe a0_Level 0 then iNe a0_Level 1 else false then iNe a0_Level 3 else false then bif i0 == 0 then 0 else a0_X i0
  else bif iEq a0_Level 3 then bif i0 == 0 then 0 else a0_X i0 else bif i0 == 0 then 0 else a0_X i0
def sallyportref18_Clean1 (a0_X : Nat → Int) (a0_PC : Int) (a0_Level : Int) (a0_V : Bool) (a0_C : Nat → Int) (a0_Done : Int) : Int :=
  iAndNot IntKind.u64 a0_PC 3
def sallyportref18_Clean1r (a0_X : Nat → Int) (a0_PC : Int) (a0_Level : Int) (a0_V : Bool) (a0_C : Nat → Int) (a0_Done : Int) : Int :=
  bif bif bif iNe a0_Level 0 then iNe a0_Level 1 else false then iNe a0_Level 3 else false then iAndNot IntKind.u64 a0_PC 3
  else bif iEq a0_Level 3 then iAndNot IntKind.u64 a0_PC 3 else iAndNot IntKind.u64 a0_PC 3
def sallyportref18_Clean2 (a0_X : Nat → Int) (a0_PC : Int) (a0_Level : Int) (a0_V : Bool) (a0_C : Nat → Int) (a0_Done : Int) : Int :=
  bif bif bif iNe a0_Level 0 then iNe a0_Level 1 else false then iNe a0_Level 3 else false then 3 else a0_Level
def sallyportref18_Clean2r (a0_X : Nat → Int) (a0_PC : Int) (a0_Level : Int) (a0_V : Bool) (a0_C : Nat → Int) (a0_Done : Int) : Int :=
  bif bif bif iNe a0_Level 0 then iNe a0_Level 1 else false then iNe a0_Level 3 else false then 3 else bif iEq a0_Level 3 then a0_Level else a0_Level
def sallyportref18_Clean3 (a0_X : Nat → Int) (a0_PC : Int) (a0_Level : Int) (a0_V : Bool) (a0_C : Nat → Int) (a0_Done : Int) : Bool :=
  bif bif bif iNe a0_Level 0 then iNe a0_Level 1 else false then iNe a0_Level 3 else false then false else bif iEq a0_Level 3 then false else a0_V
def sallyportref18_Clean4 (a0_X : Nat → Int) (a0_PC : Int) (a0_Level : Int) (a0_V : Bool) (a0_C : Nat → Int) (a0_Done : Int) : Nat → Int :=
  fun i0 => bif i0 == 0 then sallyportref8_Mpp0 (iAnd IntKind.u64 (a0_C 0) 824641853866)
  else
    bif i0 == 28 then iAnd IntKind.u64 (a0_C 28) 9223372036871487743
    else
      bif i0 == 27 then iAnd IntKind.u64 (a0_C 27) 18446744073709551615
      else
        bif i0 == 26 then iAnd IntKind.u64 (a0_C 26) 18446744073709551615
        else
          bif i0 == 25 then iAnd IntKind.u64 (a0_C 25) 18446744073709551612
          else
            bif i0 == 24 then iAnd IntKind.u64 (a0_C 24) 18446744073709551615
            else
              bif i0 == 23 then iAnd IntKind.u64 (a0_C 23) 18446744073709551612
              else
                bif i0 == 22 then iAnd IntKind.u64 (a0_C 22) 786722
                else
                  bif i0 == 21 then iAnd IntKind.u64 (a0_C 21) 9223372036871487743
                  else
                    bif i0 == 20 then iAnd IntKind.u64 (a0_C 20) 18446744073709551615
                    else
                      bif i0 == 19 then iAnd IntKind.u64 (a0_C 19) 1088
                      else
                        bif i0 == 18 then iAnd IntKind.u64 (a0_C 18) 1088
                        else
                          bif i0 == 17 then iAnd IntKind.u64 (a0_C 17) 45567
                          else
                            bif i0 == 16 then iAnd IntKind.u64 (a0_C 16) 7340992
                            else
                              bif i0 == 15 then iAnd IntKind.u64 (a0_C 15) 9223372036871487743
                              else
                                bif i0 == 14 then iAnd IntKind.u64 (a0_C 14) 18446744073709551615
                                else
                                  bif i0 == 13 then iAnd IntKind.u64 (a0_C 13) 18446744073709551615
                                  else
                                    bif i0 == 12 then iAnd IntKind.u64 (a0_C 12) 18446744073709551612
                                    else
                                      bif i0 == 11 then iAnd IntKind.u64 (a0_C 11) 18446744073709551615
                                      else
                                        bif i0 == 10 then iAnd IntKind.u64 (a0_C 10) 18446744073709551612
                                        else
                                          bif i0 == 9 then iAnd IntKind.u64 (a0_C 9) 18446744073709551615
                                          else
                                            bif i0 == 8 then iAnd IntKind.u64 (a0_C 8) 18446744073709551615
                                            else
                                              bif i0 == 7 then iAnd IntKind.u64 (a0_C 7) 18446744073709551615
                                              else
                                                bif i0 == 6 then iAnd IntKind.u64 (a0_C 6) 18446744073709551612
                                                else
                                                  bif i0 == 5 then iAnd IntKind.u64 (a0_C 5) 18446744073709551615
                                                  else
                                                    bif i0 == 4 then iAnd IntKind.u64 (a0_C 4) 18446744073709551612
                                                    else
                                                      bif i0 == 3 then iAnd IntKind.u64 (a0_C 3) 1632
                                                      else
                                                        bif i0 == 2 then iAnd IntKind.u64 (a0_C 2) 544
                                                        else bif i0 == 1 then iAnd IntKind.u64 (a0_C 1) 15775231 else bif i0 == 0 then iAnd IntKind.u64 (a0_C 0) 824641853866 else a0_C i0
def sallyportref18_Clean4r (a0_X : Nat → Int) (a0_PC : Int) (a0_Level : Int) (a0_V : Bool) (a0_C : Nat → Int) (a0_Done : Int) : Nat → Int :=
  fun i0 => bif bif bif iNe a0_Level 0 then iNe a0_Level 1 else false then iNe a0_Level 3 else false then
    bif i0 == 0 then sallyportref8_Mpp0 (iAnd IntKind.u64 (a0_C 0) 824641853866)
    else
      bif i0 == 28 then iAnd IntKind.u64 (a0_C 28) 9223372036871487743
      else
        bif i0 == 27 then iAnd IntKind.u64 (a0_C 27) 18446744073709551615
        else
          bif i0 == 26 then iAnd IntKind.u64 (a0_C 26) 18446744073709551615
          else
            bif i0 == 25 then iAnd IntKind.u64 (a0_C 25) 18446744073709551612
            else
              bif i0 == 24 then iAnd IntKind.u64 (a0_C 24) 18446744073709551615
              else
                bif i0 == 23 then iAnd IntKind.u64 (a0_C 23) 18446744073709551612
                else
                  bif i0 == 22 then iAnd IntKind.u64 (a0_C 22) 786722
                  else
                    bif i0 == 21 then iAnd IntKind.u64 (a0_C 21) 9223372036871487743
                    else
                      bif i0 == 20 then iAnd IntKind.u64 (a0_C 20) 18446744073709551615
                      else
                        bif i0 == 19 then iAnd IntKind.u64 (a0_C 19) 1088
                        else
                          bif i0 == 18 then iAnd IntKind.u64 (a0_C 18) 1088
                          else
                            bif i0 == 17 then iAnd IntKind.u64 (a0_C 17) 45567
                            else
                              bif i0 == 16 then iAnd IntKind.u64 (a0_C 16) 7340992
                              else
                                bif i0 == 15 then iAnd IntKind.u64 (a0_C 15) 9223372036871487743
                                else
                                  bif i0 == 14 then iAnd IntKind.u64 (a0_C 14) 18446744073709551615
                                  else
                                    bif i0 == 13 then iAnd IntKind.u64 (a0_C 13) 18446744073709551615
                                    else
                                      bif i0 == 12 then iAnd IntKind.u64 (a0_C 12) 18446744073709551612
                                      else
                                        bif i0 == 11 then iAnd IntKind.u64 (a0_C 11) 18446744073709551615
                                        else
                                          bif i0 == 10 then iAnd IntKind.u64 (a0_C 10) 18446744073709551612
                                          else
                                            bif i0 == 9 then iAnd IntKind.u64 (a0_C 9) 18446744073709551615
                                            else
                                              bif i0 == 8 then iAnd IntKind.u64 (a0_C 8) 18446744073709551615
                                              else
                                                bif i0 == 7 then iAnd IntKind.u64 (a0_C 7) 18446744073709551615
                                                else
                                                  bif i0 == 6 then iAnd IntKind.u64 (a0_C 6) 18446744073709551612
                                                  else
                                                    bif i0 == 5 then iAnd IntKind.u64 (a0_C 5) 18446744073709551615
                                                    else
                                                      bif i0 == 4 then iAnd IntKind.u64 (a0_C 4) 18446744073709551612
                                                      else
                                                        bif i0 == 3 then iAnd IntKind.u64 (a0_C 3) 1632
                                                        else
                                                          bif i0 == 2 then iAnd IntKind.u64 (a0_C 2) 544
                                                          else bif i0 == 1 then iAnd IntKind.u64 (a0_C 1) 15775231 else bif i0 == 0 then iAnd IntKind.u64 (a0_C 0) 824641853866 else a0_C i0
  else
    bif iEq a0_Level 3 then
      bif i0 == 0 then sallyportref8_Mpp0 (iAnd IntKind.u64 (a0_C 0) 824641853866)
      else
        bif i0 == 28 then iAnd IntKind.u64 (a0_C 28) 9223372036871487743
        else
          bif i0 == 27 then iAnd IntKind.u64 (a0_C 27) 18446744073709551615
          else
            bif i0 == 26 then iAnd IntKind.u64 (a0_C 26) 18446744073709551615
            else
              bif i0 == 25 then iAnd IntKind.u64 (a0_C 25) 18446744073709551612
              else
                bif i0 == 24 then iAnd IntKind.u64 (a0_C 24) 18446744073709551615
                else
                  bif i0 == 23 then iAnd IntKind.u64 (a0_C 23) 18446744073709551612
                  else
                    bif i0 == 22 then iAnd IntKind.u64 (a0_C 22) 786722
                    else
                      bif i0 == 21 then iAnd IntKind.u64 (a0_C 21) 9223372036871487743
                      else
                        bif i0 == 20 then iAnd IntKind.u64 (a0_C 20) 18446744073709551615
                        else
                          bif i0 == 19 then iAnd IntKind.u64 (a0_C 19) 1088
                          else
                            bif i0 == 18 then iAnd IntKind.u64 (a0_C 18) 1088
                            else
                              bif i0 == 17 then iAnd IntKind.u64 (a0_C 17) 45567
                              else
                                bif i0 == 16 then iAnd IntKind.u64 (a0_C 16) 7340992
                                else
                                  bif i0 == 15 then iAnd IntKind.u64 (a0_C 15) 9223372036871487743
                                  else
                                    bif i0 == 14 then iAnd IntKind.u64 (a0_C 14) 18446744073709551615
                                    else
                                      bif i0 == 13 then iAnd IntKind.u64 (a0_C 13) 18446744073709551615
                                      else
                                        bif i0 == 12 then iAnd IntKind.u64 (a0_C 12) 18446744073709551612
                                        else
                                          bif i0 == 11 then iAnd IntKind.u64 (a0_C 11) 18446744073709551615
                                          else
                                            bif i0 == 10 then iAnd IntKind.u64 (a0_C 10) 18446744073709551612
                                            else
                                              bif i0 == 9 then iAnd IntKind.u64 (a0_C 9) 18446744073709551615
                                              else
                                                bif i0 == 8 then iAnd IntKind.u64 (a0_C 8) 18446744073709551615
                                                else
                                                  bif i0 == 7 then iAnd IntKind.u64 (a0_C 7) 18446744073709551615
                                                  else
                                                    bif i0 == 6 then iAnd IntKind.u64 (a0_C 6) 18446744073709551612
                                                    else
                                                      bif i0 == 5 then iAnd IntKind.u64 (a0_C 5) 18446744073709551615
                                                      else
                                                        bif i0 == 4 then iAnd IntKind.u64 (a0_C 4) 18446744073709551612
                                                        else
                                                          bif i0 == 3 then iAnd IntKind.u64 (a0_C 3) 1632
                                                          else
                                                            bif i0 == 2 then iAnd IntKind.u64 (a0_C 2) 544
                                                            else bif i0 == 1 then iAnd IntKind.u64 (a0_C 1) 15775231 else bif i0 == 0 then iAnd IntKind.u64 (a0_C 0) 824641853866 else a0_C i0
    else
      bif i0 == 0 then sallyportref8_Mpp0 (iAnd IntKind.u64 (a0_C 0) 824641853866)
      else
        bif i0 == 28 then iAnd IntKind.u64 (a0_C 28) 9223372036871487743
        else
          bif i0 == 27 then iAnd IntKind.u64 (a0_C 27) 18446744073709551615
          else
            bif i0 == 26 then iAnd IntKind.u64 (a0_C 26) 18446744073709551615
            else
              bif i0 == 25 then iAnd IntKind.u64 (a0_C 25) 18446744073709551612
              else
                bif i0 == 24 then iAnd IntKind.u64 (a0_C 24) 18446744073709551615
                else
                  bif i0 == 23 then iAnd IntKind.u64 (a0_C 23) 18446744073709551612
                  else
                    bif i0 == 22 then iAnd IntKind.u64 (a0_C 22) 786722
                    else
                      bif i0 == 21 then iAnd IntKind.u64 (a0_C 21) 9223372036871487743
                      else
                        bif i0 == 20 then iAnd IntKind.u64 (a0_C 20) 18446744073709551615
                        else
                          bif i0 == 19 then iAnd IntKind.u64 (a0_C 19) 1088
                          else
                            bif i0 == 18 then iAnd IntKind.u64 (a0_C 18) 1088
                            else
                              bif i0 == 17 then iAnd IntKind.u64 (a0_C 17) 45567
                              else
                                bif i0 == 16 then iAnd IntKind.u64 (a0_C 16) 7340992
                                else
                                  bif i0 == 15 then iAnd IntKind.u64 (a0_C 15) 9223372036871487743
                                  else
                                    bif i0 == 14 then iAnd IntKind.u64 (a0_C 14) 18446744073709551615
                                    else
                                      bif i0 == 13 then iAnd IntKind.u64 (a0_C 13) 18446744073709551615
                                      else
                                        bif i0 == 12 then iAnd IntKind.u64 (a0_C 12) 18446744073709551612
                                        else
                                          bif i0 == 11 then iAnd IntKind.u64 (a0_C 11) 18446744073709551615
                                          else
                                            bif i0 == 10 then iAnd IntKind.u64 (a0_C 10) 18446744073709551612
                                            else
                                              bif i0 == 9 then iAnd IntKind.u64 (a0_C 9) 18446744073709551615
                                              else
                                                bif i0 == 8 then iAnd IntKind.u64 (a0_C 8) 18446744073709551615
                                                else
                                                  bif i0 == 7 then iAnd IntKind.u64 (a0_C 7) 18446744073709551615
                                                  else
                                                    bif i0 == 6 then iAnd IntKind.u64 (a0_C 6) 18446744073709551612
                                                    else
                                                      bif i0 == 5 then iAnd IntKind.u64 (a0_C 5) 18446744073709551615
                                                      else
                                                        bif i0 == 4 then iAnd IntKind.u64 (a0_C 4) 18446744073709551612
                                                        else
                                                          bif i0 == 3 then iAnd IntKind.u64 (a0_C 3) 1632
                                                          else
                                                            bif i0 == 2 then iAnd IntKind.u64 (a0_C 2) 544
                                                            else bif i0 == 1 then iAnd IntKind.u64 (a0_C 1) 15775231 else bif i0 == 0 then iAnd IntKind.u64 (a0_C 0) 824641853866 else a0_C i0
def sallyportref18_Clean5r (a0_X : Nat → Int) (a0_PC : Int) (a0_Level : Int) (a0_V : Bool) (a0_C : Nat → Int) (a0_Done : Int) : Int :=
  bif bif bif iNe a0_Level 0 then iNe a0_Level 1 else false then iNe a0_Level 3 else false then a0_Done else bif iEq a0_Level 3 then a0_Done else a0_Done
def sallyportref18_CleanG (a0_X : Nat → Int) (a0_PC : Int) (a0_Level : Int) (a0_V : Bool) (a0_C : Nat → Int) (a0_Done : Int) : Bool :=
  bif bif bif iNe a0_Level 0 then iNe a0_Level 1 else false then iNe a0_Level 3 else false then true else bif iEq a0_Level 3 then true else true
theorem sallyportref18_Clean0_eq (a0_X : Nat → Int) (a0_PC : Int) (a0_Level : Int) (a0_V : Bool) (a0_C : Nat → Int) (a0_Done : Int) (i0 : Nat) : sallyportref18_Clean0r a0_X a0_PC a0_Level a0_V a0_C a0_Done i0 = sallyportref18_Clean0 a0_X a0_PC a0_Level a0_V a0_C a0_Done i0 := by
  unfold sallyportref18_Clean0r
  first | (simp only [Go.Ev.cS1, Go.Ev.cS2, Go.Ev.cS3, Go.Ev.cS4, Go.Ev.cS6, Go.Ev.cS7]; done) | (simp only [Go.Ev.cS1, Go.Ev.cS2, Go.Ev.cS3, Go.Ev.cS4, Go.Ev.cS6, Go.Ev.cS7]; kernel_rfl)
theorem sallyportref18_Clean1_eq (a0_X : Nat → Int) (a0_PC : Int) (a0_Level : Int) (a0_V : Bool) (a0_C : Nat → Int) (a0_Done : Int)  : sallyportref18_Clean1r a0_X a0_PC a0_Level a0_V a0_C a0_Done  = sallyportref18_Clean1 a0_X a0_PC a0_Level a0_V a0_C a0_Done  := by
  unfold sallyportref18_Clean1r
  first | (simp only [Go.Ev.cS1, Go.Ev.cS2, Go.Ev.cS3, Go.Ev.cS4, Go.Ev.cS6, Go.Ev.cS7]; done) | (simp only [Go.Ev.cS1, Go.Ev.cS2, Go.Ev.cS3, Go.Ev.cS4, Go.Ev.cS6, Go.Ev.cS7]; kernel_rfl)
theorem sallyportref18_Clean2_eq (a0_X : Nat → Int) (a0_PC : Int) (a0_Level : Int) (a0_V : Bool) (a0_C : Nat → Int) (a0_Done : Int)  : sallyportref18_Clean2r a0_X a0_PC a0_Level a0_V a0_C a0_Done  = sallyportref18_Clean2 a0_X a0_PC a0_Level a0_V a0_C a0_Done  := by
  unfold sallyportref18_Clean2r
  first | (simp only [Go.Ev.cS1, Go.Ev.cS2, Go.Ev.cS3, Go.Ev.cS4, Go.Ev.cS6, Go.Ev.cS7]; done) | (simp only [Go.Ev.cS1, Go.Ev.cS2, Go.Ev.cS3, Go.Ev.cS4, Go.Ev.cS6, Go.Ev.cS7]; kernel_rfl)
theorem sallyportref18_Clean4_eq (a0_X : Nat → Int) (a0_PC : Int) (a0_Level : Int) (a0_V : Bool) (a0_C : Nat → Int) (a0_Done : Int) (i0 : Nat) : sallyportref18_Clean4r a0_X a0_PC a0_Level a0_V a0_C a0_Done i0 = sallyportref18_Clean4 a0_X a0_PC a0_Level a0_V a0_C a0_Done i0 := by
  unfold sallyportref18_Clean4r
  first | (simp only [Go.Ev.cS1, Go.Ev.cS2, Go.Ev.cS3, Go.Ev.cS4, Go.Ev.cS6, Go.Ev.cS7]; done) | (simp only [Go.Ev.cS1, Go.Ev.cS2, Go.Ev.cS3, Go.Ev.cS4, Go.Ev.cS6, Go.Ev.cS7]; kernel_rfl)
theorem sallyportref18_Clean5_eq (a0_X : Nat → Int) (a0_PC : Int) (a0_Level : Int) (a0_V : Bool) (a0_C : Nat → Int) (a0_Done : Int)  : sallyportref18_Clean5r a0_X a0_PC a0_Level a0_V a0_C a0_Done  = a0_Done := by
  unfold sallyportref18_Clean5r
  first | (simp only [Go.Ev.cS1, Go.Ev.cS2, Go.Ev.cS3, Go.Ev.cS4, Go.Ev.cS6, Go.Ev.cS7]; done) | (simp only [Go.Ev.cS1, Go.Ev.cS2, Go.Ev.cS3, Go.Ev.cS4, Go.Ev.cS6, Go.Ev.cS7]; kernel_rfl)
def sallyportref18_CleanV (a0_X : Nat → Int) (a0_PC : Int) (a0_Level : Int) (a0_V : Bool) (a0_C : Nat → Int) (a0_Done : Int) : AV := .agg [.arr 32 (.int .u64) fun i0 => .it .u64 (sallyportref18_Clean0 a0_X a0_PC a0_Level a0_V a0_C a0_Done i0), .it .u64 (sallyportref18_Clean1 a0_X a0_PC a0_Level a0_V a0_C a0_Done), .it .i64 (sallyportref18_Clean2 a0_X a0_PC a0_Level a0_V a0_C a0_Done), .bl (sallyportref18_Clean3 a0_X a0_PC a0_Level a0_V a0_C a0_Done), .arr 29 (.int .u64) fun i0 => .it .u64 (sallyportref18_Clean4 a0_X a0_PC a0_Level a0_V a0_C a0_Done i0), .it .u64 (a0_Done)]
def sallyportref18_CleanVr (a0_X : Nat → Int) (a0_PC : Int) (a0_Level : Int) (a0_V : Bool) (a0_C : Nat → Int) (a0_Done : Int) : AV := .agg [.arr 32 (.int .u64) fun i0 => .it .u64 (sallyportref18_Clean0r a0_X a0_PC a0_Level a0_V a0_C a0_Done i0), .it .u64 (sallyportref18_Clean1r a0_X a0_PC a0_Level a0_V a0_C a0_Done), .it .i64 (sallyportref18_Clean2r a0_X a0_PC a0_Level a0_V a0_C a0_Done), .bl (sallyportref18_Clean3 a0_X a0_PC a0_Level a0_V a0_C a0_Done), .arr 29 (.int .u64) fun i0 => .it .u64 (sallyportref18_Clean4r a0_X a0_PC a0_Level a0_V a0_C a0_Done i0), .it .u64 (sallyportref18_Clean5r a0_X a0_PC a0_Level a0_V a0_C a0_Done)]
theorem sallyportref18_CleanV_eq (a0_X : Nat → Int) (a0_PC : Int) (a0_Level : Int) (a0_V : Bool) (a0_C : Nat → Int) (a0_Done : Int) : sallyportref18_CleanVr a0_X a0_PC a0_Level a0_V a0_C a0_Done = sallyportref18_CleanV a0_X a0_PC a0_Level a0_V a0_C a0_Done := by
  unfold sallyportref18_CleanVr sallyportref18_CleanV
  simp only [sallyportref18_Clean0_eq, sallyportref18_Clean1_eq, sallyportref18_Clean2_eq, sallyportref18_Clean4_eq, sallyportref18_Clean5_eq]
theorem sallyportref18_CleanE (g : Nat → AV) : pcOf Try.prog okT (lookR T18) (inl Try.prog okT (lookR T18) RO FS 100 ST 2) RO NOV 100 false Try.f10 (norms [(.agg [(.arr 32 (.int .u64)), (.int .u64), (.int .i64), .bool, (.arr 29 (.int .u64)), (.int .u64)])] 0 g) = some (sallyportref18_CleanG (fun i0 => (((g 0).fld 0).ix i0).num) (((g 0).fld 1).num) (((g 0).fld 2).num) (((g 0).fld 3).bool) (fun i0 => (((g 0).fld 4).ix i0).num) (((g 0).fld 5).num), sallyportref18_CleanV (fun i0 => (((g 0).fld 0).ix i0).num) (((g 0).fld 1).num) (((g 0).fld 2).num) (((g 0).fld 3).bool) (fun i0 => (((g 0).fld 4).ix i0).num) (((g 0).fld 5).num)) :=
  (by kernel_rfl : pcOf Try.prog okT (lookR T18) (inl Try.prog okT (lookR T18) RO FS 100 ST 2) RO NOV 100 false Try.f10 (norms [(.agg [(.arr 32 (.int .u64)), (.int .u64), (.int .i64), .bool, (.arr 29 (.int .u64)), (.int .u64)])] 0 g) = some (sallyportref18_CleanG (fun i0 => (((g 0).fld 0).ix i0).num) (((g 0).fld 1).num) (((g 0).fld 2).num) (((g 0).fld 3).bool) (fun i0 => (((g 0).fld 4).ix i0).num) (((g 0).fld 5).num), sallyportref18_CleanVr (fun i0 => (((g 0).fld 0).ix i0).num) (((g 0).fld 1).num) (((g 0).fld 2).num) (((g 0).fld 3).bool) (fun i0 => (((g 0).fld 4).ix i0).num) (((g 0).fld 5).num))).trans (by rw [sallyportref18_CleanV_eq])
theorem sallyportref18_CleanP : Plain Try.prog 10 Try.f10 := ⟨Try.func10, of_decide_eq_true (by kernel_rfl)⟩
theorem sallyportref18_CleanT (a0_X : Nat → Int) (a0_PC : Int) (a0_Level : Int) (a0_V : Bool) (a0_C : Nat → Int) (a0_Done : Int) : sallyportref18_CleanG a0_X a0_PC a0_Level a0_V a0_C a0_Done = true := by
  unfold sallyportref18_CleanG
  simp only [Go.Ev.cS1, Go.Ev.cS2, Go.Ev.cS3, Go.Ev.cS4, Go.Ev.cS6, Go.Ev.cS7]
theorem sallyportref18_CleanO : RowOk Try.prog 10 (rowF [(.agg [(.arr 32 (.int .u64)), (.int .u64), (.int .i64), .bool, (.arr 29 (.int .u64)), (.int .u64)])] none fun g => sallyportref18_CleanV (fun i0 => (((g 0).fld 0).ix i0).num) (((g 0).fld 1).num) (((g 0).fld 2).num) (((g 0).fld 3).bool) (fun i0 => (((g 0).fld 4).ix i0).num) (((g 0).fld 5).num)) := rowT_ok fun g => pcOf_ok mix fair T18_ok (inl_ok mix fair T18_ok FS_ok 2) sallyportref18_CleanP (fun c _ => OvOk_none c) (sallyportref18_CleanE g) (sallyportref18_CleanT (fun i0 => (((g 0).fld 0).ix i0).num) (((g 0).fld 1).num) (((g 0).fld 2).num) (((g 0).fld 3).bool) (fun i0 => (((g 0).fld 4).ix i0).num) (((g 0).fld 5).num))
def T10 : List Row := (10, (rowF [(.agg [(.arr 32 (.int .u64)), (.int .u64), (.int .i64), .bool, (.arr 29 (.int .u64)), (.int .u64)])] none fun g => sallyportref18_CleanV (fun i0 => (((g 0).fld 0).ix i0).num) (((g 0).fld 1).num) (((g 0).fld 2).num) (((g 0).fld 3).bool) (fun i0 => (((g 0).fld 4).ix i0).num) (((g 0).fld 5).num))) :: T18
theorem T10_ok : PSound Try.prog (lookR T10) := lookR_cons sallyportref18_CleanO T18_ok

/- sallyport/insn.Class -/
def insn_Class0 (a0 : Int) : Int :=
  bif bif iLt a0 1 then true else iLe 70 a0 then 0
  else
    bif iLe a0 4 then 1
    else
      bif iLe a0 10 then 2
      else
        bif iLe a0 17 then 3
        else
          bif iLe a0 21 then 4
          else
            bif iLe a0 34 then 5
            else
              bif iLe a0 49 then 6 else bif iLe a0 51 then 7 else bif iLe a0 53 then 8 else bif iLe a0 59 then 9 else bif iLe a0 62 then 10 else bif iLe a0 65 then 11 else bif iLe a0 69 then 12 else 0
def insn_ClassG (a0 : Int) : Bool :=
  bif bif iLt a0 1 then true else iLe 70 a0 then true
  else
    bif iLe a0 4 then true
    else
      bif iLe a0 10 then true
      else
        bif iLe a0 17 then true
        else
          bif iLe a0 21 then true
          else
            bif iLe a0 34 then true
            else
              bif iLe a0 49 then true
              else bif iLe a0 51 then true else bif iLe a0 53 then true else bif iLe a0 59 then true else bif iLe a0 62 then true else bif iLe a0 65 then true else bif iLe a0 69 then true else true
def insn_ClassV (a0 : Int) : AV := .it .i64 (insn_Class0 a0)
theorem insn_ClassE (g : Nat → AV) : pcOf Try.prog okT (lookR T10) (inl Try.prog okT (lookR T10) RO FS 100 ST 2) RO NOV 100 false Try.f33 (norms [(.int .i64)] 0 g) = some (insn_ClassG ((g 0).num), insn_ClassV ((g 0).num)) := by kernel_rfl
theorem insn_ClassP : Plain Try.prog 33 Try.f33 := ⟨Try.func33, of_decide_eq_true (by kernel_rfl)⟩
theorem insn_ClassT (a0 : Int) : insn_ClassG a0 = true := by
  unfold insn_ClassG
  simp only [Go.Ev.cS1, Go.Ev.cS2, Go.Ev.cS3, Go.Ev.cS4, Go.Ev.cS6, Go.Ev.cS7]
theorem insn_ClassO : RowOk Try.prog 33 (rowF [(.int .i64)] none fun g => insn_ClassV ((g 0).num)) := rowT_ok fun g => pcOf_ok mix fair T10_ok (inl_ok mix fair T10_ok FS_ok 2) insn_ClassP (fun c _ => OvOk_none c) (insn_ClassE g) (insn_ClassT ((g 0).num))
def T33 : List Row := (33, (rowF [(.int .i64)] none fun g => insn_ClassV ((g 0).num))) :: T10
theorem T33_ok : PSound Try.prog (lookR T33) := lookR_cons insn_ClassO T10_ok

/- sallyport/insn.jumps -/
def insn_jumps0r (a0 : Int) : Bool :=
  bif iEq a0 3 then true else bif iEq a0 4 then true else true
def insn_jumps1r (a0 : Int) : Bool :=
  bif iEq a0 3 then false else bif iEq a0 4 then false else false
def insn_jumps2 (a0 : Int) : Bool :=
  bif iEq a0 3 then false else iEq a0 4
def insn_jumps2r (a0 : Int) : Bool :=
  bif iEq a0 3 then false else bif iEq a0 4 then true else false
def insn_jumps3r (a0 : Int) : Bool :=
  bif iEq a0 3 then false else bif iEq a0 4 then false else false
def insn_jumps4 (a0 : Int) : Int :=
  bif iEq a0 3 then -1048576 else bif iEq a0 4 then -2048 else -2147483648
def insn_jumps5 (a0 : Int) : Int :=
  bif iEq a0 3 then 1048574 else bif iEq a0 4 then 2047 else 2147479552
def insn_jumps6 (a0 : Int) : Int :=
  bif iEq a0 3 then 2 else bif iEq a0 4 then 1 else 4096
def insn_jumpsG (a0 : Int) : Bool :=
  bif iEq a0 3 then true else bif iEq a0 4 then true else true
theorem insn_jumps0_eq (a0 : Int)  : insn_jumps0r a0  = true := by
  unfold insn_jumps0r
  first | (simp only [Go.Ev.cS1, Go.Ev.cS2, Go.Ev.cS3, Go.Ev.cS4, Go.Ev.cS6, Go.Ev.cS7]; done) | (simp only [Go.Ev.cS1, Go.Ev.cS2, Go.Ev.cS3, Go.Ev.cS4, Go.Ev.cS6, Go.Ev.cS7]; kernel_rfl)
theorem insn_jumps1_eq (a0 : Int)  : insn_jumps1r a0  = false := by
  unfold insn_jumps1r
  first | (simp only [Go.Ev.cS1, Go.Ev.cS2, Go.Ev.cS3, Go.Ev.cS4, Go.Ev.cS6, Go.Ev.cS7]; done) | (simp only [Go.Ev.cS1, Go.Ev.cS2, Go.Ev.cS3, Go.Ev.cS4, Go.Ev.cS6, Go.Ev.cS7]; kernel_rfl)
theorem insn_jumps2_eq (a0 : Int)  : insn_jumps2r a0  = insn_jumps2 a0  := by
  unfold insn_jumps2r
  first | (simp only [Go.Ev.cS1, Go.Ev.cS2, Go.Ev.cS3, Go.Ev.cS4, Go.Ev.cS6, Go.Ev.cS7]; done) | (simp only [Go.Ev.cS1, Go.Ev.cS2, Go.Ev.cS3, Go.Ev.cS4, Go.Ev.cS6, Go.Ev.cS7]; kernel_rfl)
theorem insn_jumps3_eq (a0 : Int)  : insn_jumps3r a0  = false := by
  unfold insn_jumps3r
  first | (simp only [Go.Ev.cS1, Go.Ev.cS2, Go.Ev.cS3, Go.Ev.cS4, Go.Ev.cS6, Go.Ev.cS7]; done) | (simp only [Go.Ev.cS1, Go.Ev.cS2, Go.Ev.cS3, Go.Ev.cS4, Go.Ev.cS6, Go.Ev.cS7]; kernel_rfl)
def insn_jumpsV (a0 : Int) : AV := .agg [.bl true, .bl false, .bl (insn_jumps2 a0), .bl false, .it .i64 (insn_jumps4 a0), .it .i64 (insn_jumps5 a0), .it .i64 (insn_jumps6 a0)]
def insn_jumpsVr (a0 : Int) : AV := .agg [.bl (insn_jumps0r a0), .bl (insn_jumps1r a0), .bl (insn_jumps2r a0), .bl (insn_jumps3r a0), .it .i64 (insn_jumps4 a0), .it .i64 (insn_jumps5 a0), .it .i64 (insn_jumps6 a0)]
theorem insn_jumpsV_eq (a0 : Int) : insn_jumpsVr a0 = insn_jumpsV a0 := by
  unfold insn_jumpsVr insn_jumpsV
  simp only [insn_jumps0_eq, insn_jumps1_eq, insn_jumps2_eq, insn_jumps3_eq]
theorem insn_jumpsE (g : Nat → AV) : pcOf Try.prog okT (lookR T33) (inl Try.prog okT (lookR T33) RO FS 100 ST 2) RO NOV 100 false Try.f59 (norms [(.int .i64)] 0 g) = some (insn_jumpsG ((g 0).num), insn_jumpsV ((g 0).num)) :=
  (by kernel_rfl : pcOf Try.prog okT (lookR T33) (inl Try.prog okT (lookR T33) RO FS 100 ST 2) RO NOV 100 false Try.f59 (norms [(.int .i64)] 0 g) = some (insn_jumpsG ((g 0).num), insn_jumpsVr ((g 0).num))).trans (by rw [insn_jumpsV_eq])
theorem insn_jumpsP : Plain Try.prog 59 Try.f59 := ⟨Try.func59, of_decide_eq_true (by kernel_rfl)⟩
theorem insn_jumpsT (a0 : Int) : insn_jumpsG a0 = true := by
  unfold insn_jumpsG
  simp only [Go.Ev.cS1, Go.Ev.cS2, Go.Ev.cS3, Go.Ev.cS4, Go.Ev.cS6, Go.Ev.cS7]
theorem insn_jumpsO : RowOk Try.prog 59 (rowF [(.int .i64)] none fun g => insn_jumpsV ((g 0).num)) := rowT_ok fun g => pcOf_ok mix fair T33_ok (inl_ok mix fair T33_ok FS_ok 2) insn_jumpsP (fun c _ => OvOk_none c) (insn_jumpsE g) (insn_jumpsT ((g 0).num))
def T59 : List Row := (59, (rowF [(.int .i64)] none fun g => insn_jumpsV ((g 0).num))) :: T33
theorem T59_ok : PSound Try.prog (lookR T59) := lookR_cons insn_jumpsO T33_ok

/- sallyport/insn.withNumber -/
def insn_withNumber_c0 (a0 : Int) : Bool :=
  bif iEq a0 32 then bif iEq a0 32 then true else true else bif iEq a0 33 then bif iEq a0 33 then true else true else bif iEq a0 34 then true else true
def insn_withNumber_c1 (a0 : Int) : Bool :=
  bif iEq a0 28 then bif iEq a0 28 then true else insn_withNumber_c0 a0 else bif iEq a0 29 then bif iEq a0 29 then true else insn_withNumber_c0 a0 else bif iEq a0 30 then true else insn_withNumber_c0 a0
def insn_withNumber_c2 (a0 : Int) : Bool :=
  bif iEq a0 32 then bif iEq a0 32 then false else false else bif iEq a0 33 then bif iEq a0 33 then false else false else bif iEq a0 34 then false else false
def insn_withNumber_c3 (a0 : Int) : Bool :=
  bif iEq a0 28 then bif iEq a0 28 then false else insn_withNumber_c2 a0
  else bif iEq a0 29 then bif iEq a0 29 then false else insn_withNumber_c2 a0 else bif iEq a0 30 then false else insn_withNumber_c2 a0
def insn_withNumber_c4 (a0 : Int) : Int :=
  bif iEq a0 32 then bif iEq a0 32 then 0 else -2048 else bif iEq a0 33 then bif iEq a0 33 then 0 else -2048 else bif iEq a0 34 then 0 else -2048
def insn_withNumber_c5 (a0 : Int) : Int :=
  bif iEq a0 32 then bif iEq a0 32 then 31 else 2047 else bif iEq a0 33 then bif iEq a0 33 then 31 else 2047 else bif iEq a0 34 then 31 else 2047
def insn_withNumber_c6 (a0 : Int) : Int :=
  bif iEq a0 32 then bif iEq a0 32 then 1 else 1 else bif iEq a0 33 then bif iEq a0 33 then 1 else 1 else bif iEq a0 34 then 1 else 1
def insn_withNumber0r (a0 : Int) : Bool :=
  insn_withNumber_c1 a0
def insn_withNumber1r (a0 : Int) : Bool :=
  insn_withNumber_c3 a0
def insn_withNumber2r (a0 : Int) : Bool :=
  insn_withNumber_c1 a0
def insn_withNumber3r (a0 : Int) : Bool :=
  insn_withNumber_c3 a0
def insn_withNumber4 (a0 : Int) : Int :=
  bif iEq a0 28 then 0 else bif iEq a0 29 then 0 else bif iEq a0 30 then 0 else bif iEq a0 32 then 0 else bif iEq a0 33 then 0 else bif iEq a0 34 then 0 else -2048
def insn_withNumber4r (a0 : Int) : Int :=
  bif iEq a0 28 then bif iEq a0 28 then 0 else insn_withNumber_c4 a0 else bif iEq a0 29 then bif iEq a0 29 then 0 else insn_withNumber_c4 a0 else bif iEq a0 30 then 0 else insn_withNumber_c4 a0
def insn_withNumber5 (a0 : Int) : Int :=
  bif iEq a0 28 then 63 else bif iEq a0 29 then 63 else bif iEq a0 30 then 63 else bif iEq a0 32 then 31 else bif iEq a0 33 then 31 else bif iEq a0 34 then 31 else 2047
def insn_withNumber5r (a0 : Int) : Int :=
  bif iEq a0 28 then bif iEq a0 28 then 63 else insn_withNumber_c5 a0 else bif iEq a0 29 then bif iEq a0 29 then 63 else insn_withNumber_c5 a0 else bif iEq a0 30 then 63 else insn_withNumber_c5 a0
def insn_withNumber6r (a0 : Int) : Int :=
  bif iEq a0 28 then bif iEq a0 28 then 1 else insn_withNumber_c6 a0 else bif iEq a0 29 then bif iEq a0 29 then 1 else insn_withNumber_c6 a0 else bif iEq a0 30 then 1 else insn_withNumber_c6 a0
def insn_withNumberG (a0 : Int) : Bool :=
  insn_withNumber_c1 a0
theorem insn_withNumber0_eq (a0 : Int)  : insn_withNumber0r a0  = true := by
  unfold insn_withNumber0r
  first | (simp only [insn_withNumber_c0, insn_withNumber_c1, insn_withNumber_c2, insn_withNumber_c3, insn_withNumber_c4, insn_withNumber_c5, insn_withNumber_c6, Go.Ev.cS1, Go.Ev.cS2, Go.Ev.cS3, Go.Ev.cS4, Go.Ev.cS6, Go.Ev.cS7]; done) | (simp only [insn_withNumber_c0, insn_withNumber_c1, insn_withNumber_c2, insn_withNumber_c3, insn_withNumber_c4, insn_withNumber_c5, insn_withNumber_c6, Go.Ev.cS1, Go.Ev.cS2, Go.Ev.cS3, Go.Ev.cS4, Go.Ev.cS6, Go.Ev.cS7]; kernel_rfl)
theorem insn_withNumber1_eq (a0 : Int)  : insn_withNumber1r a0  = false := by
  unfold insn_withNumber1r
  first | (simp only [insn_withNumber_c0, insn_withNumber_c1, insn_withNumber_c2, insn_withNumber_c3, insn_withNumber_c4, insn_withNumber_c5, insn_withNumber_c6, Go.Ev.cS1, Go.Ev.cS2, Go.Ev.cS3, Go.Ev.cS4, Go.Ev.cS6, Go.Ev.cS7]; done) | (simp only [insn_withNumber_c0, insn_withNumber_c1, insn_withNumber_c2, insn_withNumber_c3, insn_withNumber_c4, insn_withNumber_c5, insn_withNumber_c6, Go.Ev.cS1, Go.Ev.cS2, Go.Ev.cS3, Go.Ev.cS4, Go.Ev.cS6, Go.Ev.cS7]; kernel_rfl)
theorem insn_withNumber2_eq (a0 : Int)  : insn_withNumber2r a0  = true := by
  unfold insn_withNumber2r
  first | (simp only [insn_withNumber_c0, insn_withNumber_c1, insn_withNumber_c2, insn_withNumber_c3, insn_withNumber_c4, insn_withNumber_c5, insn_withNumber_c6, Go.Ev.cS1, Go.Ev.cS2, Go.Ev.cS3, Go.Ev.cS4, Go.Ev.cS6, Go.Ev.cS7]; done) | (simp only [insn_withNumber_c0, insn_withNumber_c1, insn_withNumber_c2, insn_withNumber_c3, insn_withNumber_c4, insn_withNumber_c5, insn_withNumber_c6, Go.Ev.cS1, Go.Ev.cS2, Go.Ev.cS3, Go.Ev.cS4, Go.Ev.cS6, Go.Ev.cS7]; kernel_rfl)
theorem insn_withNumber3_eq (a0 : Int)  : insn_withNumber3r a0  = false := by
  unfold insn_withNumber3r
  first | (simp only [insn_withNumber_c0, insn_withNumber_c1, insn_withNumber_c2, insn_withNumber_c3, insn_withNumber_c4, insn_withNumber_c5, insn_withNumber_c6, Go.Ev.cS1, Go.Ev.cS2, Go.Ev.cS3, Go.Ev.cS4, Go.Ev.cS6, Go.Ev.cS7]; done) | (simp only [insn_withNumber_c0, insn_withNumber_c1, insn_withNumber_c2, insn_withNumber_c3, insn_withNumber_c4, insn_withNumber_c5, insn_withNumber_c6, Go.Ev.cS1, Go.Ev.cS2, Go.Ev.cS3, Go.Ev.cS4, Go.Ev.cS6, Go.Ev.cS7]; kernel_rfl)
theorem insn_withNumber4_eq (a0 : Int)  : insn_withNumber4r a0  = insn_withNumber4 a0  := by
  unfold insn_withNumber4r
  first | (simp only [insn_withNumber_c0, insn_withNumber_c1, insn_withNumber_c2, insn_withNumber_c3, insn_withNumber_c4, insn_withNumber_c5, insn_withNumber_c6, Go.Ev.cS1, Go.Ev.cS2, Go.Ev.cS3, Go.Ev.cS4, Go.Ev.cS6, Go.Ev.cS7]; done) | (simp only [insn_withNumber_c0, insn_withNumber_c1, insn_withNumber_c2, insn_withNumber_c3, insn_withNumber_c4, insn_withNumber_c5, insn_withNumber_c6, Go.Ev.cS1, Go.Ev.cS2, Go.Ev.cS3, Go.Ev.cS4, Go.Ev.cS6, Go.Ev.cS7]; kernel_rfl)
theorem insn_withNumber5_eq (a0 : Int)  : insn_withNumber5r a0  = insn_withNumber5 a0  := by
  unfold insn_withNumber5r
  first | (simp only [insn_withNumber_c0, insn_withNumber_c1, insn_withNumber_c2, insn_withNumber_c3, insn_withNumber_c4, insn_withNumber_c5, insn_withNumber_c6, Go.Ev.cS1, Go.Ev.cS2, Go.Ev.cS3, Go.Ev.cS4, Go.Ev.cS6, Go.Ev.cS7]; done) | (simp only [insn_withNumber_c0, insn_withNumber_c1, insn_withNumber_c2, insn_withNumber_c3, insn_withNumber_c4, insn_withNumber_c5, insn_withNumber_c6, Go.Ev.cS1, Go.Ev.cS2, Go.Ev.cS3, Go.Ev.cS4, Go.Ev.cS6, Go.Ev.cS7]; kernel_rfl)
theorem insn_withNumber6_eq (a0 : Int)  : insn_withNumber6r a0  = 1 := by
  unfold insn_withNumber6r
  first | (simp only [insn_withNumber_c0, insn_withNumber_c1, insn_withNumber_c2, insn_withNumber_c3, insn_withNumber_c4, insn_withNumber_c5, insn_withNumber_c6, Go.Ev.cS1, Go.Ev.cS2, Go.Ev.cS3, Go.Ev.cS4, Go.Ev.cS6, Go.Ev.cS7]; done) | (simp only [insn_withNumber_c0, insn_withNumber_c1, insn_withNumber_c2, insn_withNumber_c3, insn_withNumber_c4, insn_withNumber_c5, insn_withNumber_c6, Go.Ev.cS1, Go.Ev.cS2, Go.Ev.cS3, Go.Ev.cS4, Go.Ev.cS6, Go.Ev.cS7]; kernel_rfl)
def insn_withNumberV (a0 : Int) : AV := .agg [.bl true, .bl false, .bl true, .bl false, .it .i64 (insn_withNumber4 a0), .it .i64 (insn_withNumber5 a0), .it .i64 1]
def insn_withNumberVr (a0 : Int) : AV := .agg [.bl (insn_withNumber0r a0), .bl (insn_withNumber1r a0), .bl (insn_withNumber2r a0), .bl (insn_withNumber3r a0), .it .i64 (insn_withNumber4r a0), .it .i64 (insn_withNumber5r a0), .it .i64 (insn_withNumber6r a0)]
theorem insn_withNumberV_eq (a0 : Int) : insn_withNumberVr a0 = insn_withNumberV a0 := by
  unfold insn_withNumberVr insn_withNumberV
  simp only [insn_withNumber0_eq, insn_withNumber1_eq, insn_withNumber2_eq, insn_withNumber3_eq, insn_withNumber4_eq, insn_withNumber5_eq, insn_withNumber6_eq]
theorem insn_withNumberE (g : Nat → AV) : pcOf Try.prog okT (lookR T59) (inl Try.prog okT (lookR T59) RO FS 100 ST 2) RO NOV 100 false Try.f60 (norms [(.int .i64)] 0 g) = some (insn_withNumberG ((g 0).num), insn_withNumberV ((g 0).num)) :=
  (by kernel_rfl : pcOf Try.prog okT (lookR T59) (inl Try.prog okT (lookR T59) RO FS 100 ST 2) RO NOV 100 false Try.f60 (norms [(.int .i64)] 0 g) = some (insn_withNumberG ((g 0).num), insn_withNumberVr ((g 0).num))).trans (by rw [insn_withNumberV_eq])
theorem insn_withNumberP : Plain Try.prog 60 Try.f60 := ⟨Try.func60, of_decide_eq_true (by kernel_rfl)⟩
theorem insn_withNumberT (a0 : Int) : insn_withNumberG a0 = true := by
  unfold insn_withNumberG
  simp only [insn_withNumber_c0, insn_withNumber_c1, insn_withNumber_c2, insn_withNumber_c3, insn_withNumber_c4, insn_withNumber_c5, insn_withNumber_c6, Go.Ev.cS1, Go.Ev.cS2, Go.Ev.cS3, Go.Ev.cS4, Go.Ev.cS6, Go.Ev.cS7]
theorem insn_withNumberO : RowOk Try.prog 60 (rowF [(.int .i64)] none fun g => insn_withNumberV ((g 0).num)) := rowT_ok fun g => pcOf_ok mix fair T59_ok (inl_ok mix fair T59_ok FS_ok 2) insn_withNumberP (fun c _ => OvOk_none c) (insn_withNumberE g) (insn_withNumberT ((g 0).num))
def T60 : List Row := (60, (rowF [(.int .i64)] none fun g => insn_withNumberV ((g 0).num))) :: T59
theorem T60_ok : PSound Try.prog (lookR T60) := lookR_cons insn_withNumberO T59_ok

/- sallyport/insn.Of -/
def insn_Of_c0 (a0 : Int) : Int :=
  bif iEq (insn_Class0 a0) 11 then 0 else bif iEq (insn_Class0 a0) 12 then bif iEq a0 69 then 0 else 0 else 0
def insn_Of0 (a0 : Int) : Bool :=
  bif iEq (insn_Class0 a0) 1 then true
  else
    bif iEq (insn_Class0 a0) 2 then false
    else
      bif iEq (insn_Class0 a0) 3 then true
      else
        bif iEq (insn_Class0 a0) 4 then false
        else
          bif iEq (insn_Class0 a0) 5 then true
          else
            bif iEq (insn_Class0 a0) 6 then true
            else bif iEq (insn_Class0 a0) 9 then true else bif iEq (insn_Class0 a0) 11 then false else bif iEq (insn_Class0 a0) 12 then bif iEq a0 69 then false else true else false
def insn_Of0r (a0 : Int) : Bool :=
  bif iEq (insn_Class0 a0) 1 then true
  else
    bif iEq (insn_Class0 a0) 2 then false
    else
      bif iEq (insn_Class0 a0) 3 then true
      else
        bif iEq (insn_Class0 a0) 4 then false
        else
          bif iEq (insn_Class0 a0) 5 then true
          else
            bif iEq (insn_Class0 a0) 6 then true
            else
              bif iEq (insn_Class0 a0) 9 then bif iLe 57 a0 then true else true
              else bif iEq (insn_Class0 a0) 11 then false else bif iEq (insn_Class0 a0) 12 then bif iEq a0 69 then false else true else false
def insn_Of1 (a0 : Int) : Bool :=
  bif iEq (insn_Class0 a0) 1 then false
  else
    bif iEq (insn_Class0 a0) 2 then false
    else
      bif iEq (insn_Class0 a0) 3 then false else bif iEq (insn_Class0 a0) 4 then false else bif iEq (insn_Class0 a0) 5 then false else bif iEq (insn_Class0 a0) 6 then false else iEq (insn_Class0 a0) 9
def insn_Of1r (a0 : Int) : Bool :=
  bif iEq (insn_Class0 a0) 1 then false
  else
    bif iEq (insn_Class0 a0) 2 then false
    else
      bif iEq (insn_Class0 a0) 3 then false
      else
        bif iEq (insn_Class0 a0) 4 then false
        else
          bif iEq (insn_Class0 a0) 5 then false
          else
            bif iEq (insn_Class0 a0) 6 then false
            else
              bif iEq (insn_Class0 a0) 9 then bif iLe 57 a0 then true else true
              else bif iEq (insn_Class0 a0) 11 then false else bif iEq (insn_Class0 a0) 12 then bif iEq a0 69 then false else false else false
def insn_Of2 (a0 : Int) : Bool :=
  bif iEq (insn_Class0 a0) 1 then insn_jumps2 a0
  else
    bif iEq (insn_Class0 a0) 2 then true
    else
      bif iEq (insn_Class0 a0) 3 then true
      else
        bif iEq (insn_Class0 a0) 4 then true
        else
          bif iEq (insn_Class0 a0) 5 then true
          else bif iEq (insn_Class0 a0) 6 then true else bif iEq (insn_Class0 a0) 9 then bif iLe 57 a0 then false else true else bif iEq (insn_Class0 a0) 11 then true else iEq (insn_Class0 a0) 12
def insn_Of2r (a0 : Int) : Bool :=
  bif iEq (insn_Class0 a0) 1 then insn_jumps2 a0
  else
    bif iEq (insn_Class0 a0) 2 then true
    else
      bif iEq (insn_Class0 a0) 3 then true
      else
        bif iEq (insn_Class0 a0) 4 then true
        else
          bif iEq (insn_Class0 a0) 5 then true
          else
            bif iEq (insn_Class0 a0) 6 then true
            else
              bif iEq (insn_Class0 a0) 9 then bif iLe 57 a0 then false else true
              else bif iEq (insn_Class0 a0) 11 then true else bif iEq (insn_Class0 a0) 12 then bif iEq a0 69 then true else true else false
def insn_Of3 (a0 : Int) : Bool :=
  bif iEq (insn_Class0 a0) 1 then false
  else
    bif iEq (insn_Class0 a0) 2 then true
    else
      bif iEq (insn_Class0 a0) 3 then false
      else
        bif iEq (insn_Class0 a0) 4 then true
        else
          bif iEq (insn_Class0 a0) 5 then false
          else bif iEq (insn_Class0 a0) 6 then true else bif iEq (insn_Class0 a0) 9 then false else bif iEq (insn_Class0 a0) 11 then true else bif iEq (insn_Class0 a0) 12 then iEq a0 69 else false
def insn_Of3r (a0 : Int) : Bool :=
  bif iEq (insn_Class0 a0) 1 then false
  else
    bif iEq (insn_Class0 a0) 2 then true
    else
      bif iEq (insn_Class0 a0) 3 then false
      else
        bif iEq (insn_Class0 a0) 4 then true
        else
          bif iEq (insn_Class0 a0) 5 then false
          else
            bif iEq (insn_Class0 a0) 6 then true
            else
              bif iEq (insn_Class0 a0) 9 then bif iLe 57 a0 then false else false
              else bif iEq (insn_Class0 a0) 11 then true else bif iEq (insn_Class0 a0) 12 then bif iEq a0 69 then true else false else false
def insn_Of4 (a0 : Int) : Int :=
  bif iEq (insn_Class0 a0) 1 then insn_jumps4 a0
  else bif iEq (insn_Class0 a0) 2 then -4096 else bif iEq (insn_Class0 a0) 3 then -2048 else bif iEq (insn_Class0 a0) 4 then -2048 else bif iEq (insn_Class0 a0) 5 then insn_withNumber4 a0 else 0
def insn_Of4r (a0 : Int) : Int :=
  bif iEq (insn_Class0 a0) 1 then insn_jumps4 a0
  else
    bif iEq (insn_Class0 a0) 2 then -4096
    else
      bif iEq (insn_Class0 a0) 3 then -2048
      else
        bif iEq (insn_Class0 a0) 4 then -2048
        else bif iEq (insn_Class0 a0) 5 then insn_withNumber4 a0 else bif iEq (insn_Class0 a0) 6 then 0 else bif iEq (insn_Class0 a0) 9 then bif iLe 57 a0 then 0 else 0 else insn_Of_c0 a0
def insn_Of5 (a0 : Int) : Int :=
  bif iEq (insn_Class0 a0) 1 then insn_jumps5 a0
  else
    bif iEq (insn_Class0 a0) 2 then 4094
    else
      bif iEq (insn_Class0 a0) 3 then 2047
      else
        bif iEq (insn_Class0 a0) 4 then 2047
        else bif iEq (insn_Class0 a0) 5 then insn_withNumber5 a0 else bif iEq (insn_Class0 a0) 6 then 0 else bif iEq (insn_Class0 a0) 9 then bif iLe 57 a0 then 31 else 0 else 0
def insn_Of5r (a0 : Int) : Int :=
  bif iEq (insn_Class0 a0) 1 then insn_jumps5 a0
  else
    bif iEq (insn_Class0 a0) 2 then 4094
    else
      bif iEq (insn_Class0 a0) 3 then 2047
      else
        bif iEq (insn_Class0 a0) 4 then 2047
        else bif iEq (insn_Class0 a0) 5 then insn_withNumber5 a0 else bif iEq (insn_Class0 a0) 6 then 0 else bif iEq (insn_Class0 a0) 9 then bif iLe 57 a0 then 31 else 0 else insn_Of_c0 a0
def insn_Of6 (a0 : Int) : Int :=
  bif iEq (insn_Class0 a0) 1 then insn_jumps6 a0
  else
    bif iEq (insn_Class0 a0) 2 then 2
    else
      bif iEq (insn_Class0 a0) 3 then 1
      else bif iEq (insn_Class0 a0) 4 then 1 else bif iEq (insn_Class0 a0) 5 then 1 else bif iEq (insn_Class0 a0) 6 then 0 else bif iEq (insn_Class0 a0) 9 then bif iLe 57 a0 then 1 else 0 else 0
def insn_Of6r (a0 : Int) : Int :=
  bif iEq (insn_Class0 a0) 1 then insn_jumps6 a0
  else
    bif iEq (insn_Class0 a0) 2 then 2
    else
      bif iEq (insn_Class0 a0) 3 then 1
      else
        bif iEq (insn_Class0 a0) 4 then 1
        else bif iEq (insn_Class0 a0) 5 then 1 else bif iEq (insn_Class0 a0) 6 then 0 else bif iEq (insn_Class0 a0) 9 then bif iLe 57 a0 then 1 else 0 else insn_Of_c0 a0
def insn_OfG (a0 : Int) : Bool :=
  bif iEq (insn_Class0 a0) 1 then true
  else
    bif iEq (insn_Class0 a0) 2 then true
    else
      bif iEq (insn_Class0 a0) 3 then true
      else
        bif iEq (insn_Class0 a0) 4 then true
        else
          bif iEq (insn_Class0 a0) 5 then true
          else
            bif iEq (insn_Class0 a0) 6 then true
            else
              bif iEq (insn_Class0 a0) 9 then bif iLe 57 a0 then true else true
              else bif iEq (insn_Class0 a0) 11 then true else bif iEq (insn_Class0 a0) 12 then bif iEq a0 69 then true else true else true
theorem insn_Of0_eq (a0 : Int)  : insn_Of0r a0  = insn_Of0 a0  := by
  unfold insn_Of0r
  first | (simp only [insn_Of_c0, Go.Ev.cS1, Go.Ev.cS2, Go.Ev.cS3, Go.Ev.cS4, Go.Ev.cS6, Go.Ev.cS7]; done) | (simp only [insn_Of_c0, Go.Ev.cS1, Go.Ev.cS2, Go.Ev.cS3, Go.Ev.cS4, Go.Ev.cS6, Go.Ev.cS7]; kernel_rfl)
theorem insn_Of1_eq (a0 : Int)  : insn_Of1r a0  = insn_Of1 a0  := by
  unfold insn_Of1r
  first | (simp only [insn_Of_c0, Go.Ev.cS1, Go.Ev.cS2, Go.Ev.cS3, Go.Ev.cS4, Go.Ev.cS6, Go.Ev.cS7]; done) | (simp only [insn_Of_c0, Go.Ev.cS1, Go.Ev.cS2, Go.Ev.cS3, Go.Ev.cS4, Go.Ev.cS6, Go.Ev.cS7]; kernel_rfl)
theorem insn_Of2_eq (a0 : Int)  : insn_Of2r a0  = insn_Of2 a0  := by
  unfold insn_Of2r
  first | (simp only [insn_Of_c0, Go.Ev.cS1, Go.Ev.cS2, Go.Ev.cS3, Go.Ev.cS4, Go.Ev.cS6, Go.Ev.cS7]; done) | (simp only [insn_Of_c0, Go.Ev.cS1, Go.Ev.cS2, Go.Ev.cS3, Go.Ev.cS4, Go.Ev.cS6, Go.Ev.cS7]; kernel_rfl)
theorem insn_Of3_eq (a0 : Int)  : insn_Of3r a0  = insn_Of3 a0  := by
  unfold insn_Of3r
  first | (simp only [insn_Of_c0, Go.Ev.cS1, Go.Ev.cS2, Go.Ev.cS3, Go.Ev.cS4, Go.Ev.cS6, Go.Ev.cS7]; done) | (simp only [insn_Of_c0, Go.Ev.cS1, Go.Ev.cS2, Go.Ev.cS3, Go.Ev.cS4, Go.Ev.cS6, Go.Ev.cS7]; kernel_rfl)
theorem insn_Of4_eq (a0 : Int)  : insn_Of4r a0  = insn_Of4 a0  := by
  unfold insn_Of4r
  first | (simp only [insn_Of_c0, Go.Ev.cS1, Go.Ev.cS2, Go.Ev.cS3, Go.Ev.cS4, Go.Ev.cS6, Go.Ev.cS7]; done) | (simp only [insn_Of_c0, Go.Ev.cS1, Go.Ev.cS2, Go.Ev.cS3, Go.Ev.cS4, Go.Ev.cS6, Go.Ev.cS7]; kernel_rfl)
theorem insn_Of5_eq (a0 : Int)  : insn_Of5r a0  = insn_Of5 a0  := by
  unfold insn_Of5r
  first | (simp only [insn_Of_c0, Go.Ev.cS1, Go.Ev.cS2, Go.Ev.cS3, Go.Ev.cS4, Go.Ev.cS6, Go.Ev.cS7]; done) | (simp only [insn_Of_c0, Go.Ev.cS1, Go.Ev.cS2, Go.Ev.cS3, Go.Ev.cS4, Go.Ev.cS6, Go.Ev.cS7]; kernel_rfl)
theorem insn_Of6_eq (a0 : Int)  : insn_Of6r a0  = insn_Of6 a0  := by
  unfold insn_Of6r
  first | (simp only [insn_Of_c0, Go.Ev.cS1, Go.Ev.cS2, Go.Ev.cS3, Go.Ev.cS4, Go.Ev.cS6, Go.Ev.cS7]; done) | (simp only [insn_Of_c0, Go.Ev.cS1, Go.Ev.cS2, Go.Ev.cS3, Go.Ev.cS4, Go.Ev.cS6, Go.Ev.cS7]; kernel_rfl)
def insn_OfV (a0 : Int) : AV := .agg [.bl (insn_Of0 a0), .bl (insn_Of1 a0), .bl (insn_Of2 a0), .bl (insn_Of3 a0), .it .i64 (insn_Of4 a0), .it .i64 (insn_Of5 a0), .it .i64 (insn_Of6 a0)]
def insn_OfVr (a0 : Int) : AV := .agg [.bl (insn_Of0r a0), .bl (insn_Of1r a0), .bl (insn_Of2r a0), .bl (insn_Of3r a0), .it .i64 (insn_Of4r a0), .it .i64 (insn_Of5r a0), .it .i64 (insn_Of6r a0)]
theorem insn_OfV_eq (a0 : Int) : insn_OfVr a0 = insn_OfV a0 := by
  unfold insn_OfVr insn_OfV
  simp only [insn_Of0_eq, insn_Of1_eq, insn_Of2_eq, insn_Of3_eq, insn_Of4_eq, insn_Of5_eq, insn_Of6_eq]
theorem insn_OfE (g : Nat → AV) : pcOf Try.prog okT (lookR T60) (inl Try.prog okT (lookR T60) RO FS 100 ST 2) RO NOV 100 false Try.f50 (norms [(.int .i64)] 0 g) = some (insn_OfG ((g 0).num), insn_OfV ((g 0).num)) :=
  (by kernel_rfl : pcOf Try.prog okT (lookR T60) (inl Try.prog okT (lookR T60) RO FS 100 ST 2) RO NOV 100 false Try.f50 (norms [(.int .i64)] 0 g) = some (insn_OfG ((g 0).num), insn_OfVr ((g 0).num))).trans (by rw [insn_OfV_eq])
theorem insn_OfP : Plain Try.prog 50 Try.f50 := ⟨Try.func50, of_decide_eq_true (by kernel_rfl)⟩
theorem insn_OfT (a0 : Int) : insn_OfG a0 = true := by
  unfold insn_OfG
  simp only [insn_Of_c0, Go.Ev.cS1, Go.Ev.cS2, Go.Ev.cS3, Go.Ev.cS4, Go.Ev.cS6, Go.Ev.cS7]
theorem insn_OfO : RowOk Try.prog 50 (rowF [(.int .i64)] none fun g => insn_OfV ((g 0).num)) := rowT_ok fun g => pcOf_ok mix fair T60_ok (inl_ok mix fair T60_ok FS_ok 2) insn_OfP (fun c _ => OvOk_none c) (insn_OfE g) (insn_OfT ((g 0).num))
def T50 : List Row := (50, (rowF [(.int .i64)] none fun g => insn_OfV ((g 0).num))) :: T60
theorem T50_ok : PSound Try.prog (lookR T50) := lookR_cons insn_OfO T60_ok

/- sallyport/insn.field -/
def insn_field0 (a0 : Bool) (a1 : Int) (a2 : Int) : Bool :=
  bif iEq a1 0 then true else bif bif a0 then iLt 0 a1 else false then iLt a1 a2 else false
def insn_fieldG (a0 : Bool) (a1 : Int) (a2 : Int) : Bool :=
  true
def insn_fieldV (a0 : Bool) (a1 : Int) (a2 : Int) : AV := .bl (insn_field0 a0 a1 a2)
theorem insn_fieldE (g : Nat → AV) : pcOf Try.prog okT (lookR T50) (inl Try.prog okT (lookR T50) RO FS 100 ST 2) RO NOV 100 false Try.f51 (norms [.bool, (.int .i64), (.int .i64)] 0 g) = some (insn_fieldG ((g 0).bool) ((g 1).num) ((g 2).num), insn_fieldV ((g 0).bool) ((g 1).num) ((g 2).num)) := by kernel_rfl
theorem insn_fieldP : Plain Try.prog 51 Try.f51 := ⟨Try.func51, of_decide_eq_true (by kernel_rfl)⟩
theorem insn_fieldT (a0 : Bool) (a1 : Int) (a2 : Int) : insn_fieldG a0 a1 a2 = true := rfl
theorem insn_fieldO : RowOk Try.prog 51 (rowF [.bool, (.int .i64), (.int .i64)] none fun g => insn_fieldV ((g 0).bool) ((g 1).num) ((g 2).num)) := rowT_ok fun g => pcOf_ok mix fair T50_ok (inl_ok mix fair T50_ok FS_ok 2) insn_fieldP (fun c _ => OvOk_none c) (insn_fieldE g) (insn_fieldT ((g 0).bool) ((g 1).num) ((g 2).num))
def T51 : List Row := (51, (rowF [.bool, (.int .i64), (.int .i64)] none fun g => insn_fieldV ((g 0).bool) ((g 1).num) ((g 2).num))) :: T50
theorem T51_ok : PSound Try.prog (lookR T51) := lookR_cons insn_fieldO T50_ok

/- sallyport/insn.Is -/
def insn_Is0 (a0_Op : Int) (a0_Rd : Int) (a0_Rs1 : Int) (a0_Rs2 : Int) (a0_Imm : Int) (a0_CSR : Int) : Bool :=
  bif iEq (insn_Class0 a0_Op) 0 then false
  else
    bif
        bif bif iEq (insn_Of6 a0_Op) 0 then iNe a0_Imm 0 else false then true
        else bif iLt 0 (insn_Of6 a0_Op) then bif bif iLt a0_Imm (insn_Of4 a0_Op) then true else iLt (insn_Of5 a0_Op) a0_Imm then true else iNe (iRem a0_Imm (insn_Of6 a0_Op)) 0 else false then
      false
    else
      bif bif bif insn_field0 (insn_Of0 a0_Op) a0_Rd 32 then insn_field0 (insn_Of2 a0_Op) a0_Rs1 32 else false then insn_field0 (insn_Of3 a0_Op) a0_Rs2 32 else false then
        insn_field0 (insn_Of1 a0_Op) a0_CSR 4096
      else false
def insn_IsG (a0_Op : Int) (a0_Rd : Int) (a0_Rs1 : Int) (a0_Rs2 : Int) (a0_Imm : Int) (a0_CSR : Int) : Bool :=
  bif iEq (insn_Class0 a0_Op) 0 then true
  else
    (!((!bif iEq (insn_Of6 a0_Op) 0 then iNe a0_Imm 0 else false) && iLt 0 (insn_Of6 a0_Op) && !bif iLt a0_Imm (insn_Of4 a0_Op) then true else iLt (insn_Of5 a0_Op) a0_Imm) || iNe (insn_Of6 a0_Op) 0) &&
      bif
          bif bif iEq (insn_Of6 a0_Op) 0 then iNe a0_Imm 0 else false then true
          else bif iLt 0 (insn_Of6 a0_Op) then bif bif iLt a0_Imm (insn_Of4 a0_Op) then true else iLt (insn_Of5 a0_Op) a0_Imm then true else iNe (iRem a0_Imm (insn_Of6 a0_Op)) 0 else false then
        true
      else true
def insn_IsV (a0_Op : Int) (a0_Rd : Int) (a0_Rs1 : Int) (a0_Rs2 : Int) (a0_Imm : Int) (a0_CSR : Int) : AV := .bl (insn_Is0 a0_Op a0_Rd a0_Rs1 a0_Rs2 a0_Imm a0_CSR)
theorem insn_IsE (g : Nat → AV) : pcOf Try.prog okT (lookR T51) (inl Try.prog okT (lookR T51) RO FS 100 ST 2) RO NOV 100 false Try.f31 (norms [(.agg [(.int .i64), (.int .i64), (.int .i64), (.int .i64), (.int .i64), (.int .i64)])] 0 g) = some (insn_IsG (((g 0).fld 0).num) (((g 0).fld 1).num) (((g 0).fld 2).num) (((g 0).fld 3).num) (((g 0).fld 4).num) (((g 0).fld 5).num), insn_IsV (((g 0).fld 0).num) (((g 0).fld 1).num) (((g 0).fld 2).num) (((g 0).fld 3).num) (((g 0).fld 4).num) (((g 0).fld 5).num)) := by kernel_rfl
theorem insn_IsP : Plain Try.prog 31 Try.f31 := ⟨Try.func31, of_decide_eq_true (by kernel_rfl)⟩
theorem insn_IsT (a0_Op : Int) (a0_Rd : Int) (a0_Rs1 : Int) (a0_Rs2 : Int) (a0_Imm : Int) (a0_CSR : Int) : insn_IsG a0_Op a0_Rd a0_Rs1 a0_Rs2 a0_Imm a0_CSR = true := by first | (simp [insn_IsG]; done) | (simp [insn_IsG, Go.Ev.iEq, Go.Ev.iNe, Go.Ev.iLt, Go.Ev.iLe, Go.Ev.iIn]; omega)
theorem insn_IsO : RowOk Try.prog 31 (rowF [(.agg [(.int .i64), (.int .i64), (.int .i64), (.int .i64), (.int .i64), (.int .i64)])] none fun g => insn_IsV (((g 0).fld 0).num) (((g 0).fld 1).num) (((g 0).fld 2).num) (((g 0).fld 3).num) (((g 0).fld 4).num) (((g 0).fld 5).num)) := rowT_ok fun g => pcOf_ok mix fair T51_ok (inl_ok mix fair T51_ok FS_ok 2) insn_IsP (fun c _ => OvOk_none c) (insn_IsE g) (insn_IsT (((g 0).fld 0).num) (((g 0).fld 1).num) (((g 0).fld 2).num) (((g 0).fld 3).num) (((g 0).fld 4).num) (((g 0).fld 5).num))
def T31 : List Row := (31, (rowF [(.agg [(.int .i64), (.int .i64), (.int .i64), (.int .i64), (.int .i64), (.int .i64)])] none fun g => insn_IsV (((g 0).fld 0).num) (((g 0).fld 1).num) (((g 0).fld 2).num) (((g 0).fld 3).num) (((g 0).fld 4).num) (((g 0).fld 5).num))) :: T51
theorem T31_ok : PSound Try.prog (lookR T31) := lookR_cons insn_IsO T51_ok

/- sallyport/legal.Level -/
def legal_Level0 (a0_X : Nat → Int) (a0_PC : Int) (a0_Level : Int) (a0_V : Bool) (a0_C : Nat → Int) (a0_Done : Int) : Int :=
  bif bif iNe a0_Level 0 then iNe a0_Level 1 else false then 3 else bif a0_V then bif a0_Level.toNat == 1 then 5 else bif a0_Level.toNat == 0 then 4 else 0 else bif a0_Level.toNat == 1 then 1 else 0
def legal_Level0r (a0_X : Nat → Int) (a0_PC : Int) (a0_Level : Int) (a0_V : Bool) (a0_C : Nat → Int) (a0_Done : Int) : Int :=
  bif bif iNe a0_Level 0 then iNe a0_Level 1 else false then 3
  else bif a0_V then bif a0_Level.toNat == 1 then 5 else bif a0_Level.toNat == 0 then 4 else 0 else bif a0_Level.toNat == 1 then 1 else bif a0_Level.toNat == 0 then 0 else 0
def legal_LevelG (a0_X : Nat → Int) (a0_PC : Int) (a0_Level : Int) (a0_V : Bool) (a0_C : Nat → Int) (a0_Done : Int) : Bool :=
  bif bif iNe a0_Level 0 then iNe a0_Level 1 else false then true else bif a0_V then iIn a0_Level 2 && true else iIn a0_Level 2 && true
theorem legal_Level0_eq (a0_X : Nat → Int) (a0_PC : Int) (a0_Level : Int) (a0_V : Bool) (a0_C : Nat → Int) (a0_Done : Int)  : legal_Level0r a0_X a0_PC a0_Level a0_V a0_C a0_Done  = legal_Level0 a0_X a0_PC a0_Level a0_V a0_C a0_Done  := by
  unfold legal_Level0r
  first | (simp only [Go.Ev.cS1, Go.Ev.cS2, Go.Ev.cS3, Go.Ev.cS4, Go.Ev.cS6, Go.Ev.cS7]; done) | (simp only [Go.Ev.cS1, Go.Ev.cS2, Go.Ev.cS3, Go.Ev.cS4, Go.Ev.cS6, Go.Ev.cS7]; kernel_rfl)
def legal_LevelV (a0_X : Nat → Int) (a0_PC : Int) (a0_Level : Int) (a0_V : Bool) (a0_C : Nat → Int) (a0_Done : Int) : AV := .it .i64 (legal_Level0 a0_X a0_PC a0_Level a0_V a0_C a0_Done)
def legal_LevelVr (a0_X : Nat → Int) (a0_PC : Int) (a0_Level : Int) (a0_V : Bool) (a0_C : Nat → Int) (a0_Done : Int) : AV := .it .i64 (legal_Level0r a0_X a0_PC a0_Level a0_V a0_C a0_Done)
theorem legal_LevelV_eq (a0_X : Nat → Int) (a0_PC : Int) (a0_Level : Int) (a0_V : Bool) (a0_C : Nat → Int) (a0_Done : Int) : legal_LevelVr a0_X a0_PC a0_Level a0_V a0_C a0_Done = legal_LevelV a0_X a0_PC a0_Level a0_V a0_C a0_Done := by
  unfold legal_LevelVr legal_LevelV
  simp only [legal_Level0_eq]
theorem legal_LevelE (g : Nat → AV) : pcOf Try.prog okT (lookR T31) (inl Try.prog okT (lookR T31) RO FS 100 ST 2) RO NOV 100 false Try.f32 (norms [(.agg [(.arr 32 (.int .u64)), (.int .u64), (.int .i64), .bool, (.arr 29 (.int .u64)), (.int .u64)])] 0 g) = some (legal_LevelG (fun i0 => (((g 0).fld 0).ix i0).num) (((g 0).fld 1).num) (((g 0).fld 2).num) (((g 0).fld 3).bool) (fun i0 => (((g 0).fld 4).ix i0).num) (((g 0).fld 5).num), legal_LevelV (fun i0 => (((g 0).fld 0).ix i0).num) (((g 0).fld 1).num) (((g 0).fld 2).num) (((g 0).fld 3).bool) (fun i0 => (((g 0).fld 4).ix i0).num) (((g 0).fld 5).num)) :=
  (by kernel_rfl : pcOf Try.prog okT (lookR T31) (inl Try.prog okT (lookR T31) RO FS 100 ST 2) RO NOV 100 false Try.f32 (norms [(.agg [(.arr 32 (.int .u64)), (.int .u64), (.int .i64), .bool, (.arr 29 (.int .u64)), (.int .u64)])] 0 g) = some (legal_LevelG (fun i0 => (((g 0).fld 0).ix i0).num) (((g 0).fld 1).num) (((g 0).fld 2).num) (((g 0).fld 3).bool) (fun i0 => (((g 0).fld 4).ix i0).num) (((g 0).fld 5).num), legal_LevelVr (fun i0 => (((g 0).fld 0).ix i0).num) (((g 0).fld 1).num) (((g 0).fld 2).num) (((g 0).fld 3).bool) (fun i0 => (((g 0).fld 4).ix i0).num) (((g 0).fld 5).num))).trans (by rw [legal_LevelV_eq])
theorem legal_LevelP : Plain Try.prog 32 Try.f32 := ⟨Try.func32, of_decide_eq_true (by kernel_rfl)⟩
theorem legal_LevelT (a0_X : Nat → Int) (a0_PC : Int) (a0_Level : Int) (a0_V : Bool) (a0_C : Nat → Int) (a0_Done : Int) : legal_LevelG a0_X a0_PC a0_Level a0_V a0_C a0_Done = true := by first | (simp [legal_LevelG]; done) | (simp [legal_LevelG, Go.Ev.iEq, Go.Ev.iNe, Go.Ev.iLt, Go.Ev.iLe, Go.Ev.iIn]; omega)
theorem legal_LevelO : RowOk Try.prog 32 (rowF [(.agg [(.arr 32 (.int .u64)), (.int .u64), (.int .i64), .bool, (.arr 29 (.int .u64)), (.int .u64)])] none fun g => legal_LevelV (fun i0 => (((g 0).fld 0).ix i0).num) (((g 0).fld 1).num) (((g 0).fld 2).num) (((g 0).fld 3).bool) (fun i0 => (((g 0).fld 4).ix i0).num) (((g 0).fld 5).num)) := rowT_ok fun g => pcOf_ok mix fair T31_ok (inl_ok mix fair T31_ok FS_ok 2) legal_LevelP (fun c _ => OvOk_none c) (legal_LevelE g) (legal_LevelT (fun i0 => (((g 0).fld 0).ix i0).num) (((g 0).fld 1).num) (((g 0).fld 2).num) (((g 0).fld 3).bool) (fun i0 => (((g 0).fld 4).ix i0).num) (((g 0).fld 5).num))
def T32 : List Row := (32, (rowF [(.agg [(.arr 32 (.int .u64)), (.int .u64), (.int .i64), .bool, (.arr 29 (.int .u64)), (.int .u64)])] none fun g => legal_LevelV (fun i0 => (((g 0).fld 0).ix i0).num) (((g 0).fld 1).num) (((g 0).fld 2).num) (((g 0).fld 3).bool) (fun i0 => (((g 0).fld 4).ix i0).num) (((g 0).fld 5).num))) :: T31
theorem T32_ok : PSound Try.prog (lookR T32) := lookR_cons legal_LevelO T31_ok

/- sallyport/legal.Writes -/
def legal_Writes0 (a0_Op : Int) (a0_Rd : Int) (a0_Rs1 : Int) (a0_Rs2 : Int) (a0_Imm : Int) (a0_CSR : Int) : Bool :=
  bif bif bif iEq a0_Op 54 then true else iEq a0_Op 57 then true else iNe a0_Rs1 0 then true else iNe a0_Imm 0
def legal_WritesG (a0_Op : Int) (a0_Rd : Int) (a0_Rs1 : Int) (a0_Rs2 : Int) (a0_Imm : Int) (a0_CSR : Int) : Bool :=
  true
def legal_WritesV (a0_Op : Int) (a0_Rd : Int) (a0_Rs1 : Int) (a0_Rs2 : Int) (a0_Imm : Int) (a0_CSR : Int) : AV := .bl (legal_Writes0 a0_Op a0_Rd a0_Rs1 a0_Rs2 a0_Imm a0_CSR)
theorem legal_WritesE (g : Nat → AV) : pcOf Try.prog okT (lookR T32) (inl Try.prog okT (lookR T32) RO FS 100 ST 2) RO NOV 100 false Try.f35 (norms [(.agg [(.int .i64), (.int .i64), (.int .i64), (.int .i64), (.int .i64), (.int .i64)])] 0 g) = some (legal_WritesG (((g 0).fld 0).num) (((g 0).fld 1).num) (((g 0).fld 2).num) (((g 0).fld 3).num) (((g 0).fld 4).num) (((g 0).fld 5).num), legal_WritesV (((g 0).fld 0).num) (((g 0).fld 1).num) (((g 0).fld 2).num) (((g 0).fld 3).num) (((g 0).fld 4).num) (((g 0).fld 5).num)) := by kernel_rfl
theorem legal_WritesP : Plain Try.prog 35 Try.f35 := ⟨Try.func35, of_decide_eq_true (by kernel_rfl)⟩
theorem legal_WritesT (a0_Op : Int) (a0_Rd : Int) (a0_Rs1 : Int) (a0_Rs2 : Int) (a0_Imm : Int) (a0_CSR : Int) : legal_WritesG a0_Op a0_Rd a0_Rs1 a0_Rs2 a0_Imm a0_CSR = true := rfl
theorem legal_WritesO : RowOk Try.prog 35 (rowF [(.agg [(.int .i64), (.int .i64), (.int .i64), (.int .i64), (.int .i64), (.int .i64)])] none fun g => legal_WritesV (((g 0).fld 0).num) (((g 0).fld 1).num) (((g 0).fld 2).num) (((g 0).fld 3).num) (((g 0).fld 4).num) (((g 0).fld 5).num)) := rowT_ok fun g => pcOf_ok mix fair T32_ok (inl_ok mix fair T32_ok FS_ok 2) legal_WritesP (fun c _ => OvOk_none c) (legal_WritesE g) (legal_WritesT (((g 0).fld 0).num) (((g 0).fld 1).num) (((g 0).fld 2).num) (((g 0).fld 3).num) (((g 0).fld 4).num) (((g 0).fld 5).num))
def T35 : List Row := (35, (rowF [(.agg [(.int .i64), (.int .i64), (.int .i64), (.int .i64), (.int .i64), (.int .i64)])] none fun g => legal_WritesV (((g 0).fld 0).num) (((g 0).fld 1).num) (((g 0).fld 2).num) (((g 0).fld 3).num) (((g 0).fld 4).num) (((g 0).fld 5).num))) :: T32
theorem T35_ok : PSound Try.prog (lookR T35) := lookR_cons legal_WritesO T32_ok

/- sallyport/csr.guests -/
def csr_guestsG  : Bool :=
  true
def csr_guestsV  : AV := .it .u64 786722
theorem csr_guestsE (g : Nat → AV) : pcOf Try.prog okT (lookR T35) (inl Try.prog okT (lookR T35) RO FS 100 ST 2) RO NOV 100 false Try.f67 (norms [] 0 g) = some (csr_guestsG , csr_guestsV ) := by kernel_rfl
theorem csr_guestsP : Plain Try.prog 67 Try.f67 := ⟨Try.func67, of_decide_eq_true (by kernel_rfl)⟩
theorem csr_guestsT  : csr_guestsG  = true := rfl
theorem csr_guestsO : RowOk Try.prog 67 (rowF [] none fun g => csr_guestsV ) := rowT_ok fun g => pcOf_ok mix fair T35_ok (inl_ok mix fair T35_ok FS_ok 2) csr_guestsP (fun c _ => OvOk_none c) (csr_guestsE g) (csr_guestsT )
def T67 : List Row := (67, (rowF [] none fun g => csr_guestsV )) :: T35
theorem T67_ok : PSound Try.prog (lookR T67) := lookR_cons csr_guestsO T35_ok

/- sallyport/csr.rows -/
def csr_rows0  : Nat → Int :=
  fun i0 => bif i0 == 28 then 640
  else
    bif i0 == 27 then 579
    else
      bif i0 == 26 then 578
      else
        bif i0 == 25 then 577
        else
          bif i0 == 24 then 576
          else
            bif i0 == 23 then 517
            else
              bif i0 == 22 then 512
              else
                bif i0 == 21 then 1664
                else
                  bif i0 == 20 then 1603
                  else
                    bif i0 == 19 then 1605
                    else
                      bif i0 == 18 then 1539
                      else
                        bif i0 == 17 then 1538
                        else
                          bif i0 == 16 then 1536
                          else
                            bif i0 == 15 then 384
                            else
                              bif i0 == 14 then 323
                              else
                                bif i0 == 13 then 322
                                else
                                  bif i0 == 12 then 321
                                  else
                                    bif i0 == 11 then 320
                                    else
                                      bif i0 == 10 then 261
                                      else
                                        bif i0 == 9 then 843
                                        else
                                          bif i0 == 8 then 835
                                          else
                                            bif i0 == 7 then 834
                                            else
                                              bif i0 == 6 then 833
                                              else
                                                bif i0 == 5 then 832
                                                else bif i0 == 4 then 773 else bif i0 == 3 then 772 else bif i0 == 2 then 771 else bif i0 == 1 then 770 else bif i0 == 0 then 768 else 0
def csr_rows1  : Nat → Int :=
  fun i0 => bif i0 == 28 then 9223372036871487743
  else
    bif i0 == 27 then 18446744073709551615
    else
      bif i0 == 26 then 18446744073709551615
      else
        bif i0 == 25 then 18446744073709551612
        else
          bif i0 == 24 then 18446744073709551615
          else
            bif i0 == 23 then 18446744073709551612
            else
              bif i0 == 22 then 786722
              else
                bif i0 == 21 then 9223372036871487743
                else
                  bif i0 == 20 then 18446744073709551615
                  else
                    bif i0 == 19 then 1088
                    else
                      bif i0 == 18 then 1088
                      else
                        bif i0 == 17 then 45567
                        else
                          bif i0 == 16 then 7340992
                          else
                            bif i0 == 15 then 9223372036871487743
                            else
                              bif i0 == 14 then 18446744073709551615
                              else
                                bif i0 == 13 then 18446744073709551615
                                else
                                  bif i0 == 12 then 18446744073709551612
                                  else
                                    bif i0 == 11 then 18446744073709551615
                                    else
                                      bif i0 == 10 then 18446744073709551612
                                      else
                                        bif i0 == 9 then 18446744073709551615
                                        else
                                          bif i0 == 8 then 18446744073709551615
                                          else
                                            bif i0 == 7 then 18446744073709551615
                                            else
                                              bif i0 == 6 then 18446744073709551612
                                              else
                                                bif i0 == 5 then 18446744073709551615
                                                else
                                                  bif i0 == 4 then 18446744073709551612
                                                  else bif i0 == 3 then 1632 else bif i0 == 2 then 544 else bif i0 == 1 then 15775231 else bif i0 == 0 then 824641853866 else 0
def csr_rowsG  : Bool :=
  true
def csr_rowsV  : AV := .arr 29 (.agg [(.int .i64), (.int .u64)]) fun i0 => .agg [.it .i64 (csr_rows0 i0), .it .u64 (csr_rows1 i0)]
theorem csr_rowsE (g : Nat → AV) : pcOf Try.prog okT (lookR T67) (inl Try.prog okT (lookR T67) RO FS 100 ST 2) RO NOV 100 false Try.f64 (norms [] 0 g) = some (csr_rowsG , csr_rowsV ) := by kernel_rfl
theorem csr_rowsP : Plain Try.prog 64 Try.f64 := ⟨Try.func64, of_decide_eq_true (by kernel_rfl)⟩
theorem csr_rowsT  : csr_rowsG  = true := rfl
theorem csr_rowsO : RowOk Try.prog 64 (rowF [] none fun g => csr_rowsV ) := rowT_ok fun g => pcOf_ok mix fair T67_ok (inl_ok mix fair T67_ok FS_ok 2) csr_rowsP (fun c _ => OvOk_none c) (csr_rowsE g) (csr_rowsT )
def T64 : List Row := (64, (rowF [] none fun g => csr_rowsV )) :: T67
theorem T64_ok : PSound Try.prog (lookR T64) := lookR_cons csr_rowsO T67_ok

/- sallyport/csr.Index -/
def csr_Index0 (a0 : Int) : Int :=
  bif iEq 768 a0 then 0
  else
    bif iEq 770 a0 then 1
    else
      bif iEq 771 a0 then 2
      else
        bif iEq 772 a0 then 3
        else
          bif iEq 773 a0 then 4
          else
            bif iEq 832 a0 then 5
            else
              bif iEq 833 a0 then 6
              else
                bif iEq 834 a0 then 7
                else
                  bif iEq 835 a0 then 8
                  else
                    bif iEq 843 a0 then 9
                    else
                      bif iEq 261 a0 then 10
                      else
                        bif iEq 320 a0 then 11
                        else
                          bif iEq 321 a0 then 12
                          else
                            bif iEq 322 a0 then 13
                            else
                              bif iEq 323 a0 then 14
                              else
                                bif iEq 384 a0 then 15
                                else
                                  bif iEq 1536 a0 then 16
                                  else
                                    bif iEq 1538 a0 then 17
                                    else
                                      bif iEq 1539 a0 then 18
                                      else
                                        bif iEq 1605 a0 then 19
                                        else
                                          bif iEq 1603 a0 then 20
                                          else
                                            bif iEq 1664 a0 then 21
                                            else
                                              bif iEq 512 a0 then 22
                                              else
                                                bif iEq 517 a0 then 23
                                                else bif iEq 576 a0 then 24 else bif iEq 577 a0 then 25 else bif iEq 578 a0 then 26 else bif iEq 579 a0 then 27 else bif iEq 640 a0 then 28 else -1
def csr_IndexG (a0 : Int) : Bool :=
  bif iEq 768 a0 then true
  else
    bif iEq 770 a0 then true
    else
      bif iEq 771 a0 then true
      else
        bif iEq 772 a0 then true
        else
          bif iEq 773 a0 then true
          else
            bif iEq 832 a0 then true
            else
              bif iEq 833 a0 then true
              else
                bif iEq 834 a0 then true
                else
                  bif iEq 835 a0 then true
                  else
                    bif iEq 843 a0 then true
                    else
                      bif iEq 261 a0 then true
                      else
                        bif iEq 320 a0 then true
                        else
                          bif iEq 321 a0 then true
                          else
                            bif iEq 322 a0 then true
                            else
                              bif iEq 323 a0 then true
                              else
                                bif iEq 384 a0 then true
                                else
                                  bif iEq 1536 a0 then true
                                  else
                                    bif iEq 1538 a0 then true
                                    else
                                      bif iEq 1539 a0 then true
                                      else
                                        bif iEq 1605 a0 then true
                                        else
                                          bif iEq 1603 a0 then true
                                          else
                                            bif iEq 1664 a0 then true
                                            else
                                              bif iEq 512 a0 then true
                                              else
                                                bif iEq 517 a0 then true
                                                else
                                                  bif iEq 576 a0 then true
                                                  else bif iEq 577 a0 then true else bif iEq 578 a0 then true else bif iEq 579 a0 then true else bif iEq 640 a0 then true else true
def csr_IndexV (a0 : Int) : AV := .it .i64 (csr_Index0 a0)
theorem csr_IndexE (g : Nat → AV) : pcOf Try.prog okT (lookR T64) (inl Try.prog okT (lookR T64) RO FS 100 ST 2) RO NOV 100 false Try.f61 (norms [(.int .i64)] 0 g) = some (csr_IndexG ((g 0).num), csr_IndexV ((g 0).num)) := by kernel_rfl
theorem csr_IndexP : Plain Try.prog 61 Try.f61 := ⟨Try.func61, of_decide_eq_true (by kernel_rfl)⟩
theorem csr_IndexT (a0 : Int) : csr_IndexG a0 = true := by
  unfold csr_IndexG
  simp only [Go.Ev.cS1, Go.Ev.cS2, Go.Ev.cS3, Go.Ev.cS4, Go.Ev.cS6, Go.Ev.cS7]
theorem csr_IndexO : RowOk Try.prog 61 (rowF [(.int .i64)] none fun g => csr_IndexV ((g 0).num)) := rowT_ok fun g => pcOf_ok mix fair T64_ok (inl_ok mix fair T64_ok FS_ok 2) csr_IndexP (fun c _ => OvOk_none c) (csr_IndexE g) (csr_IndexT ((g 0).num))
def T61 : List Row := (61, (rowF [(.int .i64)] none fun g => csr_IndexV ((g 0).num))) :: T64
theorem T61_ok : PSound Try.prog (lookR T61) := lookR_cons csr_IndexO T64_ok

theorem index_in (n : Int) : -1 ≤ csr_Index0 n ∧ csr_Index0 n < 29 := by
  show (fun x : Int => -1 ≤ x ∧ x < 29) (csr_Index0 n)
  unfold csr_Index0
  repeat' (refine cond_all (p := fun x : Int => -1 ≤ x ∧ x < 29) ?_ ?_)
  all_goals decide
/- sallyport/csr.Is -/
def csr_Is0 (a0 : Int) : Bool :=
  bif bif bif bif iEq a0 256 then true else iEq a0 260 then true else iEq a0 516 then true else iEq a0 3074 then true else iLe 0 (csr_Index0 a0)
def csr_IsG (a0 : Int) : Bool :=
  true
def csr_IsV (a0 : Int) : AV := .bl (csr_Is0 a0)
theorem csr_IsE (g : Nat → AV) : pcOf Try.prog okT (lookR T61) (inl Try.prog okT (lookR T61) RO FS 100 ST 2) RO NOV 100 false Try.f52 (norms [(.int .i64)] 0 g) = some (csr_IsG ((g 0).num), csr_IsV ((g 0).num)) := by kernel_rfl
theorem csr_IsP : Plain Try.prog 52 Try.f52 := ⟨Try.func52, of_decide_eq_true (by kernel_rfl)⟩
theorem csr_IsT (a0 : Int) : csr_IsG a0 = true := rfl
theorem csr_IsO : RowOk Try.prog 52 (rowF [(.int .i64)] none fun g => csr_IsV ((g 0).num)) := rowT_ok fun g => pcOf_ok mix fair T61_ok (inl_ok mix fair T61_ok FS_ok 2) csr_IsP (fun c _ => OvOk_none c) (csr_IsE g) (csr_IsT ((g 0).num))
def T52 : List Row := (52, (rowF [(.int .i64)] none fun g => csr_IsV ((g 0).num))) :: T61
theorem T52_ok : PSound Try.prog (lookR T52) := lookR_cons csr_IsO T61_ok

/- sallyport/legal.ask -/
def legal_ask0 (a0 : Int) : Int :=
  iAnd IntKind.i64 (iShr IntKind.i64 a0 8) 3
def legal_askG (a0 : Int) : Bool :=
  true
def legal_askV (a0 : Int) : AV := .it .i64 (legal_ask0 a0)
theorem legal_askE (g : Nat → AV) : pcOf Try.prog okT (lookR T52) (inl Try.prog okT (lookR T52) RO FS 100 ST 2) RO NOV 100 false Try.f54 (norms [(.int .i64)] 0 g) = some (legal_askG ((g 0).num), legal_askV ((g 0).num)) := by kernel_rfl
theorem legal_askP : Plain Try.prog 54 Try.f54 := ⟨Try.func54, of_decide_eq_true (by kernel_rfl)⟩
theorem legal_askT (a0 : Int) : legal_askG a0 = true := rfl
theorem legal_askO : RowOk Try.prog 54 (rowF [(.int .i64)] none fun g => legal_askV ((g 0).num)) := rowT_ok fun g => pcOf_ok mix fair T52_ok (inl_ok mix fair T52_ok FS_ok 2) legal_askP (fun c _ => OvOk_none c) (legal_askE g) (legal_askT ((g 0).num))
def T54 : List Row := (54, (rowF [(.int .i64)] none fun g => legal_askV ((g 0).num))) :: T52
theorem T54_ok : PSound Try.prog (lookR T54) := lookR_cons legal_askO T52_ok

theorem ask_in (x : Int) : 0 ≤ iAnd .i64 x 3 ∧ iAnd .i64 x 3 < 4 := by
  unfold iAnd
  have h : (BitVec.ofInt IntKind.i64.bits x &&& BitVec.ofInt IntKind.i64.bits 3).toNat ≤ 3 := by
    rw [BitVec.toNat_and]
    exact Nat.and_le_right
  rw [wrapI (by omega) (by omega)]
  omega
/- sallyport/word.part -/
def word_part0 (a0 : Int) (a1 : Int) : Int :=
  iMin (iMax a0 0) 63
def word_part1 (a0 : Int) (a1 : Int) : Int :=
  iMin (iMax a1 0) (iSub IntKind.i64 64 (iMin (iMax a0 0) 63))
def word_partG (a0 : Int) (a1 : Int) : Bool :=
  true
def word_partV (a0 : Int) (a1 : Int) : AV := .tup [.it .i64 (word_part0 a0 a1), .it .i64 (word_part1 a0 a1)]
theorem word_partE (g : Nat → AV) : pcOf Try.prog okT (lookR T54) (inl Try.prog okT (lookR T54) RO FS 100 ST 2) RO NOV 100 false Try.f40 (norms [(.int .i64), (.int .i64)] 0 g) = some (word_partG ((g 0).num) ((g 1).num), word_partV ((g 0).num) ((g 1).num)) := by kernel_rfl
theorem word_partP : Plain Try.prog 40 Try.f40 := ⟨Try.func40, of_decide_eq_true (by kernel_rfl)⟩
theorem word_partT (a0 : Int) (a1 : Int) : word_partG a0 a1 = true := rfl
theorem word_partO : RowOk Try.prog 40 (rowF [(.int .i64), (.int .i64)] none fun g => word_partV ((g 0).num) ((g 1).num)) := rowT_ok fun g => pcOf_ok mix fair T54_ok (inl_ok mix fair T54_ok FS_ok 2) word_partP (fun c _ => OvOk_none c) (word_partE g) (word_partT ((g 0).num) ((g 1).num))
def T40 : List Row := (40, (rowF [(.int .i64), (.int .i64)] none fun g => word_partV ((g 0).num) ((g 1).num))) :: T54
theorem T40_ok : PSound Try.prog (lookR T40) := lookR_cons word_partO T54_ok

theorem part0_in (a b : Int) : 0 ≤ word_part0 a b ∧ word_part0 a b ≤ 63 := by
  unfold word_part0; rw [iMin_eq, iMax_eq]; split <;> split <;> omega
theorem part1_in (a b : Int) : 0 ≤ word_part1 a b ∧ word_part1 a b ≤ 64 - word_part0 a b := by
  have h := part0_in a b
  have e : word_part1 a b = iMin (iMax b 0) (iSub .i64 64 (word_part0 a b)) := rfl
  rw [e, iSub_i64 (by omega) (by omega), iMin_eq, iMax_eq]; split <;> split <;> omega
/- sallyport/word.mask -/
def word_mask0 (a0 : Int) : Int :=
  bif iLe 64 a0 then 18446744073709551615 else iSub IntKind.u64 (iShl IntKind.u64 1 a0) 1
def word_maskG (a0 : Int) : Bool :=
  bif iLe 64 a0 then true else iLe 0 a0 && true
def word_maskV (a0 : Int) : AV := .it .u64 (word_mask0 a0)
theorem word_maskE (g : Nat → AV) : pcOf Try.prog okT (lookR T40) (inl Try.prog okT (lookR T40) RO FS 100 ST 2) RO NOV 100 false Try.f41 (norms [(.int .i64)] 0 g) = some (word_maskG ((g 0).num), word_maskV ((g 0).num)) := by kernel_rfl
theorem word_maskP : Plain Try.prog 41 Try.f41 := ⟨Try.func41, of_decide_eq_true (by kernel_rfl)⟩
theorem word_maskO : RowOk Try.prog 41 (rowF [(.int .i64)] (some fun g => word_maskG ((g 0).num)) fun g => word_maskV ((g 0).num)) := rowF_ok fun g hg => pcOf_ok mix fair T40_ok (inl_ok mix fair T40_ok FS_ok 2) word_maskP (fun c _ => OvOk_none c) (word_maskE g) hg
def T41 : List Row := (41, (rowF [(.int .i64)] (some fun g => word_maskG ((g 0).num)) fun g => word_maskV ((g 0).num))) :: T40
theorem T41_ok : PSound Try.prog (lookR T41) := lookR_cons word_maskO T40_ok

/- sallyport/word.Bits -/
def word_Bits0 (a0 : Int) (a1 : Int) (a2 : Int) : Int :=
  iAnd IntKind.u64 (iShr IntKind.u64 a0 (word_part0 a1 a2)) (word_mask0 (word_part1 a1 a2))
def word_BitsG (a0 : Int) (a1 : Int) (a2 : Int) : Bool :=
  iLe 0 (word_part0 a1 a2) && (word_maskG (word_part1 a1 a2) && true)
def word_BitsV (a0 : Int) (a1 : Int) (a2 : Int) : AV := .it .u64 (word_Bits0 a0 a1 a2)
theorem word_BitsE (g : Nat → AV) : pcOf Try.prog okT (lookR T41) (inl Try.prog okT (lookR T41) RO FS 100 ST 2) RO NOV 100 false Try.f20 (norms [(.int .u64), (.int .i64), (.int .i64)] 0 g) = some (word_BitsG ((g 0).num) ((g 1).num) ((g 2).num), word_BitsV ((g 0).num) ((g 1).num) ((g 2).num)) := by kernel_rfl
theorem word_BitsP : Plain Try.prog 20 Try.f20 := ⟨Try.func20, of_decide_eq_true (by kernel_rfl)⟩
theorem word_BitsT (a0 : Int) (a1 : Int) (a2 : Int) : word_BitsG a0 a1 a2 = true := by unfold word_BitsG word_maskG; have h0 := part0_in a1 a2; have h1 := part1_in a1 a2; simp [iLe_true.2 h0.1, iLe_true.2 h1.1]
theorem word_BitsO : RowOk Try.prog 20 (rowF [(.int .u64), (.int .i64), (.int .i64)] none fun g => word_BitsV ((g 0).num) ((g 1).num) ((g 2).num)) := rowT_ok fun g => pcOf_ok mix fair T41_ok (inl_ok mix fair T41_ok FS_ok 2) word_BitsP (fun c _ => OvOk_none c) (word_BitsE g) (word_BitsT ((g 0).num) ((g 1).num) ((g 2).num))
def T20 : List Row := (20, (rowF [(.int .u64), (.int .i64), (.int .i64)] none fun g => word_BitsV ((g 0).num) ((g 1).num) ((g 2).num))) :: T41
theorem T20_ok : PSound Try.prog (lookR T20) := lookR_cons word_BitsO T41_ok

/- sallyport/csr.Bit -/
def csr_Bit0 (a0_X : Nat → Int) (a0_PC : Int) (a0_Level : Int) (a0_V : Bool) (a0_C : Nat → Int) (a0_Done : Int) (a1 : Int) (a2 : Int) : Bool :=
  iEq (word_Bits0 (a0_C a1.toNat) a2 1) 1
def csr_BitG (a0_X : Nat → Int) (a0_PC : Int) (a0_Level : Int) (a0_V : Bool) (a0_C : Nat → Int) (a0_Done : Int) (a1 : Int) (a2 : Int) : Bool :=
  iIn a1 29 && true
def csr_BitV (a0_X : Nat → Int) (a0_PC : Int) (a0_Level : Int) (a0_V : Bool) (a0_C : Nat → Int) (a0_Done : Int) (a1 : Int) (a2 : Int) : AV := .bl (csr_Bit0 a0_X a0_PC a0_Level a0_V a0_C a0_Done a1 a2)
theorem csr_BitE (g : Nat → AV) : pcOf Try.prog okT (lookR T20) (inl Try.prog okT (lookR T20) RO FS 100 ST 2) RO NOV 100 false Try.f21 (norms [(.agg [(.arr 32 (.int .u64)), (.int .u64), (.int .i64), .bool, (.arr 29 (.int .u64)), (.int .u64)]), (.int .i64), (.int .i64)] 0 g) = some (csr_BitG (fun i0 => (((g 0).fld 0).ix i0).num) (((g 0).fld 1).num) (((g 0).fld 2).num) (((g 0).fld 3).bool) (fun i0 => (((g 0).fld 4).ix i0).num) (((g 0).fld 5).num) ((g 1).num) ((g 2).num), csr_BitV (fun i0 => (((g 0).fld 0).ix i0).num) (((g 0).fld 1).num) (((g 0).fld 2).num) (((g 0).fld 3).bool) (fun i0 => (((g 0).fld 4).ix i0).num) (((g 0).fld 5).num) ((g 1).num) ((g 2).num)) := by kernel_rfl
theorem csr_BitP : Plain Try.prog 21 Try.f21 := ⟨Try.func21, of_decide_eq_true (by kernel_rfl)⟩
theorem csr_BitO : RowOk Try.prog 21 (rowF [(.agg [(.arr 32 (.int .u64)), (.int .u64), (.int .i64), .bool, (.arr 29 (.int .u64)), (.int .u64)]), (.int .i64), (.int .i64)] (some fun g => csr_BitG (fun i0 => (((g 0).fld 0).ix i0).num) (((g 0).fld 1).num) (((g 0).fld 2).num) (((g 0).fld 3).bool) (fun i0 => (((g 0).fld 4).ix i0).num) (((g 0).fld 5).num) ((g 1).num) ((g 2).num)) fun g => csr_BitV (fun i0 => (((g 0).fld 0).ix i0).num) (((g 0).fld 1).num) (((g 0).fld 2).num) (((g 0).fld 3).bool) (fun i0 => (((g 0).fld 4).ix i0).num) (((g 0).fld 5).num) ((g 1).num) ((g 2).num)) := rowF_ok fun g hg => pcOf_ok mix fair T20_ok (inl_ok mix fair T20_ok FS_ok 2) csr_BitP (fun c _ => OvOk_none c) (csr_BitE g) hg
def T21 : List Row := (21, (rowF [(.agg [(.arr 32 (.int .u64)), (.int .u64), (.int .i64), .bool, (.arr 29 (.int .u64)), (.int .u64)]), (.int .i64), (.int .i64)] (some fun g => csr_BitG (fun i0 => (((g 0).fld 0).ix i0).num) (((g 0).fld 1).num) (((g 0).fld 2).num) (((g 0).fld 3).bool) (fun i0 => (((g 0).fld 4).ix i0).num) (((g 0).fld 5).num) ((g 1).num) ((g 2).num)) fun g => csr_BitV (fun i0 => (((g 0).fld 0).ix i0).num) (((g 0).fld 1).num) (((g 0).fld 2).num) (((g 0).fld 3).bool) (fun i0 => (((g 0).fld 4).ix i0).num) (((g 0).fld 5).num) ((g 1).num) ((g 2).num))) :: T20
theorem T21_ok : PSound Try.prog (lookR T21) := lookR_cons csr_BitO T20_ok

/- sallyport/legal.because -/
def legal_because0 (a0 : Bool) (a1 : Int) : Int :=
  bif a0 then 0 else a1
def legal_because1r (a0 : Bool) (a1 : Int) : Bool :=
  bif a0 then true else false
def legal_becauseG (a0 : Bool) (a1 : Int) : Bool :=
  bif a0 then true else true
theorem legal_because1_eq (a0 : Bool) (a1 : Int)  : legal_because1r a0 a1  = a0 := by
  unfold legal_because1r
  first | (simp only [Go.Ev.cS1, Go.Ev.cS2, Go.Ev.cS3, Go.Ev.cS4, Go.Ev.cS6, Go.Ev.cS7]; done) | (simp only [Go.Ev.cS1, Go.Ev.cS2, Go.Ev.cS3, Go.Ev.cS4, Go.Ev.cS6, Go.Ev.cS7]; kernel_rfl)
def legal_becauseV (a0 : Bool) (a1 : Int) : AV := .tup [.it .u64 (legal_because0 a0 a1), .bl a0]
def legal_becauseVr (a0 : Bool) (a1 : Int) : AV := .tup [.it .u64 (legal_because0 a0 a1), .bl (legal_because1r a0 a1)]
theorem legal_becauseV_eq (a0 : Bool) (a1 : Int) : legal_becauseVr a0 a1 = legal_becauseV a0 a1 := by
  unfold legal_becauseVr legal_becauseV
  simp only [legal_because1_eq]
theorem legal_becauseE (g : Nat → AV) : pcOf Try.prog okT (lookR T21) (inl Try.prog okT (lookR T21) RO FS 100 ST 2) RO NOV 100 false Try.f36 (norms [.bool, (.int .u64)] 0 g) = some (legal_becauseG ((g 0).bool) ((g 1).num), legal_becauseV ((g 0).bool) ((g 1).num)) :=
  (by kernel_rfl : pcOf Try.prog okT (lookR T21) (inl Try.prog okT (lookR T21) RO FS 100 ST 2) RO NOV 100 false Try.f36 (norms [.bool, (.int .u64)] 0 g) = some (legal_becauseG ((g 0).bool) ((g 1).num), legal_becauseVr ((g 0).bool) ((g 1).num))).trans (by rw [legal_becauseV_eq])
theorem legal_becauseP : Plain Try.prog 36 Try.f36 := ⟨Try.func36, of_decide_eq_true (by kernel_rfl)⟩
theorem legal_becauseT (a0 : Bool) (a1 : Int) : legal_becauseG a0 a1 = true := by
  unfold legal_becauseG
  simp only [Go.Ev.cS1, Go.Ev.cS2, Go.Ev.cS3, Go.Ev.cS4, Go.Ev.cS6, Go.Ev.cS7]
theorem legal_becauseO : RowOk Try.prog 36 (rowF [.bool, (.int .u64)] none fun g => legal_becauseV ((g 0).bool) ((g 1).num)) := rowT_ok fun g => pcOf_ok mix fair T21_ok (inl_ok mix fair T21_ok FS_ok 2) legal_becauseP (fun c _ => OvOk_none c) (legal_becauseE g) (legal_becauseT ((g 0).bool) ((g 1).num))
def T36 : List Row := (36, (rowF [.bool, (.int .u64)] none fun g => legal_becauseV ((g 0).bool) ((g 1).num))) :: T21
theorem T36_ok : PSound Try.prog (lookR T36) := lookR_cons legal_becauseO T21_ok

/- sallyport/legal.guestCsr -/
def legal_guestCsr0 (a0_X : Nat → Int) (a0_PC : Int) (a0_Level : Int) (a0_V : Bool) (a0_C : Nat → Int) (a0_Done : Int) (a1 : Int) (a2 : Int) : Int :=
  bif iEq a2 3074 then 22
  else
    bif iEq (legal_ask0 a2) 3 then 2
    else
      bif bif iEq (legal_ask0 a2) 2 then true else iEq a1 4 then 22
      else legal_because0 (bif iNe a2 384 then true else !csr_Bit0 (fun i0 => a0_X i0) a0_PC a0_Level a0_V (fun i0 => a0_C i0) a0_Done 16 20) 22
def legal_guestCsr1 (a0_X : Nat → Int) (a0_PC : Int) (a0_Level : Int) (a0_V : Bool) (a0_C : Nat → Int) (a0_Done : Int) (a1 : Int) (a2 : Int) : Bool :=
  bif iEq a2 3074 then false
  else
    bif iEq (legal_ask0 a2) 3 then false
    else bif bif iEq (legal_ask0 a2) 2 then true else iEq a1 4 then false else bif iNe a2 384 then true else !csr_Bit0 (fun i0 => a0_X i0) a0_PC a0_Level a0_V (fun i0 => a0_C i0) a0_Done 16 20
def legal_guestCsrG (a0_X : Nat → Int) (a0_PC : Int) (a0_Level : Int) (a0_V : Bool) (a0_C : Nat → Int) (a0_Done : Int) (a1 : Int) (a2 : Int) : Bool :=
  bif iEq a2 3074 then true
  else
    bif iEq (legal_ask0 a2) 3 then true
    else bif bif iEq (legal_ask0 a2) 2 then true else iEq a1 4 then true else (!!iNe a2 384 || csr_BitG (fun i0 => a0_X i0) a0_PC a0_Level a0_V (fun i0 => a0_C i0) a0_Done 16 20) && true
def legal_guestCsrV (a0_X : Nat → Int) (a0_PC : Int) (a0_Level : Int) (a0_V : Bool) (a0_C : Nat → Int) (a0_Done : Int) (a1 : Int) (a2 : Int) : AV := .tup [.it .u64 (legal_guestCsr0 a0_X a0_PC a0_Level a0_V a0_C a0_Done a1 a2), .bl (legal_guestCsr1 a0_X a0_PC a0_Level a0_V a0_C a0_Done a1 a2)]
theorem legal_guestCsrE (g : Nat → AV) : pcOf Try.prog okT (lookR T36) (inl Try.prog okT (lookR T36) RO FS 100 ST 2) RO NOV 100 false Try.f53 (norms [(.agg [(.arr 32 (.int .u64)), (.int .u64), (.int .i64), .bool, (.arr 29 (.int .u64)), (.int .u64)]), (.int .i64), (.int .i64)] 0 g) = some (legal_guestCsrG (fun i0 => (((g 0).fld 0).ix i0).num) (((g 0).fld 1).num) (((g 0).fld 2).num) (((g 0).fld 3).bool) (fun i0 => (((g 0).fld 4).ix i0).num) (((g 0).fld 5).num) ((g 1).num) ((g 2).num), legal_guestCsrV (fun i0 => (((g 0).fld 0).ix i0).num) (((g 0).fld 1).num) (((g 0).fld 2).num) (((g 0).fld 3).bool) (fun i0 => (((g 0).fld 4).ix i0).num) (((g 0).fld 5).num) ((g 1).num) ((g 2).num)) := by kernel_rfl
theorem legal_guestCsrP : Plain Try.prog 53 Try.f53 := ⟨Try.func53, of_decide_eq_true (by kernel_rfl)⟩
theorem legal_guestCsrT (a0_X : Nat → Int) (a0_PC : Int) (a0_Level : Int) (a0_V : Bool) (a0_C : Nat → Int) (a0_Done : Int) (a1 : Int) (a2 : Int) : legal_guestCsrG a0_X a0_PC a0_Level a0_V a0_C a0_Done a1 a2 = true := by simp [legal_guestCsrG, csr_BitG, Go.Ev.iIn]
theorem legal_guestCsrO : RowOk Try.prog 53 (rowF [(.agg [(.arr 32 (.int .u64)), (.int .u64), (.int .i64), .bool, (.arr 29 (.int .u64)), (.int .u64)]), (.int .i64), (.int .i64)] none fun g => legal_guestCsrV (fun i0 => (((g 0).fld 0).ix i0).num) (((g 0).fld 1).num) (((g 0).fld 2).num) (((g 0).fld 3).bool) (fun i0 => (((g 0).fld 4).ix i0).num) (((g 0).fld 5).num) ((g 1).num) ((g 2).num)) := rowT_ok fun g => pcOf_ok mix fair T36_ok (inl_ok mix fair T36_ok FS_ok 2) legal_guestCsrP (fun c _ => OvOk_none c) (legal_guestCsrE g) (legal_guestCsrT (fun i0 => (((g 0).fld 0).ix i0).num) (((g 0).fld 1).num) (((g 0).fld 2).num) (((g 0).fld 3).bool) (fun i0 => (((g 0).fld 4).ix i0).num) (((g 0).fld 5).num) ((g 1).num) ((g 2).num))
def T53 : List Row := (53, (rowF [(.agg [(.arr 32 (.int .u64)), (.int .u64), (.int .i64), .bool, (.arr 29 (.int .u64)), (.int .u64)]), (.int .i64), (.int .i64)] none fun g => legal_guestCsrV (fun i0 => (((g 0).fld 0).ix i0).num) (((g 0).fld 1).num) (((g 0).fld 2).num) (((g 0).fld 3).bool) (fun i0 => (((g 0).fld 4).ix i0).num) (((g 0).fld 5).num) ((g 1).num) ((g 2).num))) :: T36
theorem T53_ok : PSound Try.prog (lookR T53) := lookR_cons legal_guestCsrO T36_ok

/- sallyport/legal.Csr -/
def legal_Csr_c0 (a0_X : Nat → Int) (a0_PC : Int) (a0_Level : Int) (a0_V : Bool) (a0_C : Nat → Int) (a0_Done : Int) (a1 : Int) (a2 : Bool) : Bool :=
  bif bif iEq a1 384 then iEq (legal_Level0 (fun i0 => a0_X i0) a0_PC a0_Level a0_V (fun i0 => a0_C i0) a0_Done) 1 else false then
    csr_Bit0 (fun i0 => a0_X i0) a0_PC a0_Level a0_V (fun i0 => a0_C i0) a0_Done 0 20
  else false
def legal_Csr_c1 (a0_X : Nat → Int) (a0_PC : Int) (a0_Level : Int) (a0_V : Bool) (a0_C : Nat → Int) (a0_Done : Int) (a1 : Int) (a2 : Bool) : Bool :=
  iLe (bif (legal_ask0 a1).toNat == 3 then 3 else bif (legal_ask0 a1).toNat == 2 then 1 else bif (legal_ask0 a1).toNat == 1 then 1 else 0)
    (legal_Level0 (fun i0 => a0_X i0) a0_PC a0_Level a0_V (fun i0 => a0_C i0) a0_Done)
def legal_Csr_c2 (a0_X : Nat → Int) (a0_PC : Int) (a0_Level : Int) (a0_V : Bool) (a0_C : Nat → Int) (a0_Done : Int) (a1 : Int) (a2 : Bool) : Bool :=
  iLe (bif (legal_ask0 a1).toNat == 3 then 3 else bif (legal_ask0 a1).toNat == 2 then 1 else bif (legal_ask0 a1).toNat == 1 then 1 else bif (legal_ask0 a1).toNat == 0 then 0 else 0)
    (legal_Level0 (fun i0 => a0_X i0) a0_PC a0_Level a0_V (fun i0 => a0_C i0) a0_Done)
def legal_Csr0 (a0_X : Nat → Int) (a0_PC : Int) (a0_Level : Int) (a0_V : Bool) (a0_C : Nat → Int) (a0_Done : Int) (a1 : Int) (a2 : Bool) : Int :=
  bif bif !csr_Is0 a1 then true else bif a2 then iLe 3072 a1 else false then 2
  else
    bif iLe 4 (legal_Level0 (fun i0 => a0_X i0) a0_PC a0_Level a0_V (fun i0 => a0_C i0) a0_Done) then
      legal_guestCsr0 (fun i0 => a0_X i0) a0_PC a0_Level a0_V (fun i0 => a0_C i0) a0_Done (legal_Level0 (fun i0 => a0_X i0) a0_PC a0_Level a0_V (fun i0 => a0_C i0) a0_Done) a1
    else
      bif iEq a1 3074 then legal_because0 (iLe 1 (legal_Level0 (fun i0 => a0_X i0) a0_PC a0_Level a0_V (fun i0 => a0_C i0) a0_Done)) 2
      else bif legal_Csr_c0 a0_X a0_PC a0_Level a0_V a0_C a0_Done a1 a2 then 2 else legal_because0 (legal_Csr_c1 a0_X a0_PC a0_Level a0_V a0_C a0_Done a1 a2) 2
def legal_Csr0r (a0_X : Nat → Int) (a0_PC : Int) (a0_Level : Int) (a0_V : Bool) (a0_C : Nat → Int) (a0_Done : Int) (a1 : Int) (a2 : Bool) : Int :=
  bif bif !csr_Is0 a1 then true else bif a2 then iLe 3072 a1 else false then 2
  else
    bif iLe 4 (legal_Level0 (fun i0 => a0_X i0) a0_PC a0_Level a0_V (fun i0 => a0_C i0) a0_Done) then
      legal_guestCsr0 (fun i0 => a0_X i0) a0_PC a0_Level a0_V (fun i0 => a0_C i0) a0_Done (legal_Level0 (fun i0 => a0_X i0) a0_PC a0_Level a0_V (fun i0 => a0_C i0) a0_Done) a1
    else
      bif iEq a1 3074 then legal_because0 (iLe 1 (legal_Level0 (fun i0 => a0_X i0) a0_PC a0_Level a0_V (fun i0 => a0_C i0) a0_Done)) 2
      else bif legal_Csr_c0 a0_X a0_PC a0_Level a0_V a0_C a0_Done a1 a2 then 2 else legal_because0 (legal_Csr_c2 a0_X a0_PC a0_Level a0_V a0_C a0_Done a1 a2) 2
def legal_Csr1 (a0_X : Nat → Int) (a0_PC : Int) (a0_Level : Int) (a0_V : Bool) (a0_C : Nat → Int) (a0_Done : Int) (a1 : Int) (a2 : Bool) : Bool :=
  bif bif !csr_Is0 a1 then true else bif a2 then iLe 3072 a1 else false then false
  else
    bif iLe 4 (legal_Level0 (fun i0 => a0_X i0) a0_PC a0_Level a0_V (fun i0 => a0_C i0) a0_Done) then
      legal_guestCsr1 (fun i0 => a0_X i0) a0_PC a0_Level a0_V (fun i0 => a0_C i0) a0_Done (legal_Level0 (fun i0 => a0_X i0) a0_PC a0_Level a0_V (fun i0 => a0_C i0) a0_Done) a1
    else
      bif iEq a1 3074 then iLe 1 (legal_Level0 (fun i0 => a0_X i0) a0_PC a0_Level a0_V (fun i0 => a0_C i0) a0_Done)
      else bif legal_Csr_c0 a0_X a0_PC a0_Level a0_V a0_C a0_Done a1 a2 then false else legal_Csr_c1 a0_X a0_PC a0_Level a0_V a0_C a0_Done a1 a2
def legal_Csr1r (a0_X : Nat → Int) (a0_PC : Int) (a0_Level : Int) (a0_V : Bool) (a0_C : Nat → Int) (a0_Done : Int) (a1 : Int) (a2 : Bool) : Bool :=
  bif bif !csr_Is0 a1 then true else bif a2 then iLe 3072 a1 else false then false
  else
    bif iLe 4 (legal_Level0 (fun i0 => a0_X i0) a0_PC a0_Level a0_V (fun i0 => a0_C i0) a0_Done) then
      legal_guestCsr1 (fun i0 => a0_X i0) a0_PC a0_Level a0_V (fun i0 => a0_C i0) a0_Done (legal_Level0 (fun i0 => a0_X i0) a0_PC a0_Level a0_V (fun i0 => a0_C i0) a0_Done) a1
    else
      bif iEq a1 3074 then iLe 1 (legal_Level0 (fun i0 => a0_X i0) a0_PC a0_Level a0_V (fun i0 => a0_C i0) a0_Done)
      else bif legal_Csr_c0 a0_X a0_PC a0_Level a0_V a0_C a0_Done a1 a2 then false else legal_Csr_c2 a0_X a0_PC a0_Level a0_V a0_C a0_Done a1 a2
def legal_CsrG (a0_X : Nat → Int) (a0_PC : Int) (a0_Level : Int) (a0_V : Bool) (a0_C : Nat → Int) (a0_Done : Int) (a1 : Int) (a2 : Bool) : Bool :=
  bif bif !csr_Is0 a1 then true else bif a2 then iLe 3072 a1 else false then true
  else
    bif iLe 4 (legal_Level0 (fun i0 => a0_X i0) a0_PC a0_Level a0_V (fun i0 => a0_C i0) a0_Done) then true
    else
      bif iEq a1 3074 then true
      else
        ((!bif iEq a1 384 then iEq (legal_Level0 (fun i0 => a0_X i0) a0_PC a0_Level a0_V (fun i0 => a0_C i0) a0_Done) 1 else false) ||
            csr_BitG (fun i0 => a0_X i0) a0_PC a0_Level a0_V (fun i0 => a0_C i0) a0_Done 0 20) &&
          bif legal_Csr_c0 a0_X a0_PC a0_Level a0_V a0_C a0_Done a1 a2 then true else iIn (legal_ask0 a1) 4 && true
theorem legal_Csr0_eq (a0_X : Nat → Int) (a0_PC : Int) (a0_Level : Int) (a0_V : Bool) (a0_C : Nat → Int) (a0_Done : Int) (a1 : Int) (a2 : Bool)  : legal_Csr0r a0_X a0_PC a0_Level a0_V a0_C a0_Done a1 a2  = legal_Csr0 a0_X a0_PC a0_Level a0_V a0_C a0_Done a1 a2  := by
  unfold legal_Csr0r
  first | (simp only [legal_Csr_c0, legal_Csr_c1, legal_Csr_c2, Go.Ev.cS1, Go.Ev.cS2, Go.Ev.cS3, Go.Ev.cS4, Go.Ev.cS6, Go.Ev.cS7]; done) | (simp only [legal_Csr_c0, legal_Csr_c1, legal_Csr_c2, Go.Ev.cS1, Go.Ev.cS2, Go.Ev.cS3, Go.Ev.cS4, Go.Ev.cS6, Go.Ev.cS7]; kernel_rfl)
theorem legal_Csr1_eq (a0_X : Nat → Int) (a0_PC : Int) (a0_Level : Int) (a0_V : Bool) (a0_C : Nat → Int) (a0_Done : Int) (a1 : Int) (a2 : Bool)  : legal_Csr1r a0_X a0_PC a0_Level a0_V a0_C a0_Done a1 a2  = legal_Csr1 a0_X a0_PC a0_Level a0_V a0_C a0_Done a1 a2  := by
  unfold legal_Csr1r
  first | (simp only [legal_Csr_c0, legal_Csr_c1, legal_Csr_c2, Go.Ev.cS1, Go.Ev.cS2, Go.Ev.cS3, Go.Ev.cS4, Go.Ev.cS6, Go.Ev.cS7]; done) | (simp only [legal_Csr_c0, legal_Csr_c1, legal_Csr_c2, Go.Ev.cS1, Go.Ev.cS2, Go.Ev.cS3, Go.Ev.cS4, Go.Ev.cS6, Go.Ev.cS7]; kernel_rfl)
def legal_CsrV (a0_X : Nat → Int) (a0_PC : Int) (a0_Level : Int) (a0_V : Bool) (a0_C : Nat → Int) (a0_Done : Int) (a1 : Int) (a2 : Bool) : AV := .tup [.it .u64 (legal_Csr0 a0_X a0_PC a0_Level a0_V a0_C a0_Done a1 a2), .bl (legal_Csr1 a0_X a0_PC a0_Level a0_V a0_C a0_Done a1 a2)]
def legal_CsrVr (a0_X : Nat → Int) (a0_PC : Int) (a0_Level : Int) (a0_V : Bool) (a0_C : Nat → Int) (a0_Done : Int) (a1 : Int) (a2 : Bool) : AV := .tup [.it .u64 (legal_Csr0r a0_X a0_PC a0_Level a0_V a0_C a0_Done a1 a2), .bl (legal_Csr1r a0_X a0_PC a0_Level a0_V a0_C a0_Done a1 a2)]
theorem legal_CsrV_eq (a0_X : Nat → Int) (a0_PC : Int) (a0_Level : Int) (a0_V : Bool) (a0_C : Nat → Int) (a0_Done : Int) (a1 : Int) (a2 : Bool) : legal_CsrVr a0_X a0_PC a0_Level a0_V a0_C a0_Done a1 a2 = legal_CsrV a0_X a0_PC a0_Level a0_V a0_C a0_Done a1 a2 := by
  unfold legal_CsrVr legal_CsrV
  simp only [legal_Csr0_eq, legal_Csr1_eq]
theorem legal_CsrE (g : Nat → AV) : pcOf Try.prog okT (lookR T53) (inl Try.prog okT (lookR T53) RO FS 100 ST 2) RO NOV 100 false Try.f34 (norms [(.agg [(.arr 32 (.int .u64)), (.int .u64), (.int .i64), .bool, (.arr 29 (.int .u64)), (.int .u64)]), (.int .i64), .bool] 0 g) = some (legal_CsrG (fun i0 => (((g 0).fld 0).ix i0).num) (((g 0).fld 1).num) (((g 0).fld 2).num) (((g 0).fld 3).bool) (fun i0 => (((g 0).fld 4).ix i0).num) (((g 0).fld 5).num) ((g 1).num) ((g 2).bool), legal_CsrV (fun i0 => (((g 0).fld 0).ix i0).num) (((g 0).fld 1).num) (((g 0).fld 2).num) (((g 0).fld 3).bool) (fun i0 => (((g 0).fld 4).ix i0).num) (((g 0).fld 5).num) ((g 1).num) ((g 2).bool)) :=
  (by kernel_rfl : pcOf Try.prog okT (lookR T53) (inl Try.prog okT (lookR T53) RO FS 100 ST 2) RO NOV 100 false Try.f34 (norms [(.agg [(.arr 32 (.int .u64)), (.int .u64), (.int .i64), .bool, (.arr 29 (.int .u64)), (.int .u64)]), (.int .i64), .bool] 0 g) = some (legal_CsrG (fun i0 => (((g 0).fld 0).ix i0).num) (((g 0).fld 1).num) (((g 0).fld 2).num) (((g 0).fld 3).bool) (fun i0 => (((g 0).fld 4).ix i0).num) (((g 0).fld 5).num) ((g 1).num) ((g 2).bool), legal_CsrVr (fun i0 => (((g 0).fld 0).ix i0).num) (((g 0).fld 1).num) (((g 0).fld 2).num) (((g 0).fld 3).bool) (fun i0 => (((g 0).fld 4).ix i0).num) (((g 0).fld 5).num) ((g 1).num) ((g 2).bool))).trans (by rw [legal_CsrV_eq])
theorem legal_CsrP : Plain Try.prog 34 Try.f34 := ⟨Try.func34, of_decide_eq_true (by kernel_rfl)⟩
theorem legal_CsrT (a0_X : Nat → Int) (a0_PC : Int) (a0_Level : Int) (a0_V : Bool) (a0_C : Nat → Int) (a0_Done : Int) (a1 : Int) (a2 : Bool) : legal_CsrG a0_X a0_PC a0_Level a0_V a0_C a0_Done a1 a2 = true := by
  have h := ask_in (iShr .i64 a1 8)
  have hi : iIn (legal_ask0 a1) 4 = true := iIn_true.2 h
  unfold legal_CsrG
  simp [hi, csr_BitG, show iIn 16 29 = true by decide, show iIn 0 29 = true by decide]
theorem legal_CsrO : RowOk Try.prog 34 (rowF [(.agg [(.arr 32 (.int .u64)), (.int .u64), (.int .i64), .bool, (.arr 29 (.int .u64)), (.int .u64)]), (.int .i64), .bool] none fun g => legal_CsrV (fun i0 => (((g 0).fld 0).ix i0).num) (((g 0).fld 1).num) (((g 0).fld 2).num) (((g 0).fld 3).bool) (fun i0 => (((g 0).fld 4).ix i0).num) (((g 0).fld 5).num) ((g 1).num) ((g 2).bool)) := rowT_ok fun g => pcOf_ok mix fair T53_ok (inl_ok mix fair T53_ok FS_ok 2) legal_CsrP (fun c _ => OvOk_none c) (legal_CsrE g) (legal_CsrT (fun i0 => (((g 0).fld 0).ix i0).num) (((g 0).fld 1).num) (((g 0).fld 2).num) (((g 0).fld 3).bool) (fun i0 => (((g 0).fld 4).ix i0).num) (((g 0).fld 5).num) ((g 1).num) ((g 2).bool))
def T34 : List Row := (34, (rowF [(.agg [(.arr 32 (.int .u64)), (.int .u64), (.int .i64), .bool, (.arr 29 (.int .u64)), (.int .u64)]), (.int .i64), .bool] none fun g => legal_CsrV (fun i0 => (((g 0).fld 0).ix i0).num) (((g 0).fld 1).num) (((g 0).fld 2).num) (((g 0).fld 3).bool) (fun i0 => (((g 0).fld 4).ix i0).num) (((g 0).fld 5).num) ((g 1).num) ((g 2).bool))) :: T53
theorem T34_ok : PSound Try.prog (lookR T34) := lookR_cons legal_CsrO T53_ok

/- sallyport/legal.plain -/
def legal_plain0 (a0_X : Nat → Int) (a0_PC : Int) (a0_Level : Int) (a0_V : Bool) (a0_C : Nat → Int) (a0_Done : Int) (a1 : Int) (a2 : Int) (a3 : Int) : Int :=
  bif iEq a1 0 then 2
  else
    bif iEq a1 4 then 22
    else
      bif iEq a1 1 then legal_because0 (!csr_Bit0 (fun i0 => a0_X i0) a0_PC a0_Level a0_V (fun i0 => a0_C i0) a0_Done 0 a2) 2
      else bif iEq a1 5 then legal_because0 (!csr_Bit0 (fun i0 => a0_X i0) a0_PC a0_Level a0_V (fun i0 => a0_C i0) a0_Done 16 a3) 22 else 0
def legal_plain1 (a0_X : Nat → Int) (a0_PC : Int) (a0_Level : Int) (a0_V : Bool) (a0_C : Nat → Int) (a0_Done : Int) (a1 : Int) (a2 : Int) (a3 : Int) : Bool :=
  bif iEq a1 0 then false
  else
    bif iEq a1 4 then false
    else
      bif iEq a1 1 then !csr_Bit0 (fun i0 => a0_X i0) a0_PC a0_Level a0_V (fun i0 => a0_C i0) a0_Done 0 a2
      else bif iEq a1 5 then !csr_Bit0 (fun i0 => a0_X i0) a0_PC a0_Level a0_V (fun i0 => a0_C i0) a0_Done 16 a3 else true
def legal_plainG (a0_X : Nat → Int) (a0_PC : Int) (a0_Level : Int) (a0_V : Bool) (a0_C : Nat → Int) (a0_Done : Int) (a1 : Int) (a2 : Int) (a3 : Int) : Bool :=
  bif iEq a1 0 then true
  else
    bif iEq a1 4 then true
    else
      bif iEq a1 1 then csr_BitG (fun i0 => a0_X i0) a0_PC a0_Level a0_V (fun i0 => a0_C i0) a0_Done 0 a2 && true
      else bif iEq a1 5 then csr_BitG (fun i0 => a0_X i0) a0_PC a0_Level a0_V (fun i0 => a0_C i0) a0_Done 16 a3 && true else true
def legal_plainV (a0_X : Nat → Int) (a0_PC : Int) (a0_Level : Int) (a0_V : Bool) (a0_C : Nat → Int) (a0_Done : Int) (a1 : Int) (a2 : Int) (a3 : Int) : AV := .tup [.it .u64 (legal_plain0 a0_X a0_PC a0_Level a0_V a0_C a0_Done a1 a2 a3), .bl (legal_plain1 a0_X a0_PC a0_Level a0_V a0_C a0_Done a1 a2 a3)]
theorem legal_plainE (g : Nat → AV) : pcOf Try.prog okT (lookR T34) (inl Try.prog okT (lookR T34) RO FS 100 ST 2) RO NOV 100 false Try.f37 (norms [(.agg [(.arr 32 (.int .u64)), (.int .u64), (.int .i64), .bool, (.arr 29 (.int .u64)), (.int .u64)]), (.int .i64), (.int .i64), (.int .i64)] 0 g) = some (legal_plainG (fun i0 => (((g 0).fld 0).ix i0).num) (((g 0).fld 1).num) (((g 0).fld 2).num) (((g 0).fld 3).bool) (fun i0 => (((g 0).fld 4).ix i0).num) (((g 0).fld 5).num) ((g 1).num) ((g 2).num) ((g 3).num), legal_plainV (fun i0 => (((g 0).fld 0).ix i0).num) (((g 0).fld 1).num) (((g 0).fld 2).num) (((g 0).fld 3).bool) (fun i0 => (((g 0).fld 4).ix i0).num) (((g 0).fld 5).num) ((g 1).num) ((g 2).num) ((g 3).num)) := by kernel_rfl
theorem legal_plainP : Plain Try.prog 37 Try.f37 := ⟨Try.func37, of_decide_eq_true (by kernel_rfl)⟩
theorem legal_plainT (a0_X : Nat → Int) (a0_PC : Int) (a0_Level : Int) (a0_V : Bool) (a0_C : Nat → Int) (a0_Done : Int) (a1 : Int) (a2 : Int) (a3 : Int) : legal_plainG a0_X a0_PC a0_Level a0_V a0_C a0_Done a1 a2 a3 = true := by simp [legal_plainG, csr_BitG, show iIn 16 29 = true by decide, show iIn 0 29 = true by decide]
theorem legal_plainO : RowOk Try.prog 37 (rowF [(.agg [(.arr 32 (.int .u64)), (.int .u64), (.int .i64), .bool, (.arr 29 (.int .u64)), (.int .u64)]), (.int .i64), (.int .i64), (.int .i64)] none fun g => legal_plainV (fun i0 => (((g 0).fld 0).ix i0).num) (((g 0).fld 1).num) (((g 0).fld 2).num) (((g 0).fld 3).bool) (fun i0 => (((g 0).fld 4).ix i0).num) (((g 0).fld 5).num) ((g 1).num) ((g 2).num) ((g 3).num)) := rowT_ok fun g => pcOf_ok mix fair T34_ok (inl_ok mix fair T34_ok FS_ok 2) legal_plainP (fun c _ => OvOk_none c) (legal_plainE g) (legal_plainT (fun i0 => (((g 0).fld 0).ix i0).num) (((g 0).fld 1).num) (((g 0).fld 2).num) (((g 0).fld 3).bool) (fun i0 => (((g 0).fld 4).ix i0).num) (((g 0).fld 5).num) ((g 1).num) ((g 2).num) ((g 3).num))
def T37 : List Row := (37, (rowF [(.agg [(.arr 32 (.int .u64)), (.int .u64), (.int .i64), .bool, (.arr 29 (.int .u64)), (.int .u64)]), (.int .i64), (.int .i64), (.int .i64)] none fun g => legal_plainV (fun i0 => (((g 0).fld 0).ix i0).num) (((g 0).fld 1).num) (((g 0).fld 2).num) (((g 0).fld 3).bool) (fun i0 => (((g 0).fld 4).ix i0).num) (((g 0).fld 5).num) ((g 1).num) ((g 2).num) ((g 3).num))) :: T34
theorem T37_ok : PSound Try.prog (lookR T37) := lookR_cons legal_plainO T34_ok

/- sallyport/legal.wfi -/
def legal_wfi_c0 (a0_X : Nat → Int) (a0_PC : Int) (a0_Level : Int) (a0_V : Bool) (a0_C : Nat → Int) (a0_Done : Int) (a1 : Int) : Bool :=
  bif iEq a1 4 then bif iEq a1 4 then true else true
  else
    (!iEq a1 5 || csr_BitG (fun i0 => a0_X i0) a0_PC a0_Level a0_V (fun i0 => a0_C i0) a0_Done 16 21) &&
      bif bif iEq a1 5 then csr_Bit0 (fun i0 => a0_X i0) a0_PC a0_Level a0_V (fun i0 => a0_C i0) a0_Done 16 21 else false then true else true
def legal_wfi_c1 (a0_X : Nat → Int) (a0_PC : Int) (a0_Level : Int) (a0_V : Bool) (a0_C : Nat → Int) (a0_Done : Int) (a1 : Int) : Int :=
  bif iEq a1 4 then bif iEq a1 4 then 22 else 0 else bif bif iEq a1 5 then csr_Bit0 (fun i0 => a0_X i0) a0_PC a0_Level a0_V (fun i0 => a0_C i0) a0_Done 16 21 else false then 22 else 0
def legal_wfi_c2 (a0_X : Nat → Int) (a0_PC : Int) (a0_Level : Int) (a0_V : Bool) (a0_C : Nat → Int) (a0_Done : Int) (a1 : Int) : Bool :=
  bif iEq a1 4 then bif iEq a1 4 then false else true else bif bif iEq a1 5 then csr_Bit0 (fun i0 => a0_X i0) a0_PC a0_Level a0_V (fun i0 => a0_C i0) a0_Done 16 21 else false then false else true
def legal_wfi0 (a0_X : Nat → Int) (a0_PC : Int) (a0_Level : Int) (a0_V : Bool) (a0_C : Nat → Int) (a0_Done : Int) (a1 : Int) : Int :=
  bif iEq a1 0 then 2
  else
    bif bif iNe a1 3 then csr_Bit0 (fun i0 => a0_X i0) a0_PC a0_Level a0_V (fun i0 => a0_C i0) a0_Done 0 21 else false then 2
    else bif iEq a1 4 then 22 else bif bif iEq a1 5 then csr_Bit0 (fun i0 => a0_X i0) a0_PC a0_Level a0_V (fun i0 => a0_C i0) a0_Done 16 21 else false then 22 else 0
def legal_wfi0r (a0_X : Nat → Int) (a0_PC : Int) (a0_Level : Int) (a0_V : Bool) (a0_C : Nat → Int) (a0_Done : Int) (a1 : Int) : Int :=
  bif iEq a1 0 then bif iEq a1 0 then 2 else legal_wfi_c1 a0_X a0_PC a0_Level a0_V a0_C a0_Done a1
  else bif bif iNe a1 3 then csr_Bit0 (fun i0 => a0_X i0) a0_PC a0_Level a0_V (fun i0 => a0_C i0) a0_Done 0 21 else false then 2 else legal_wfi_c1 a0_X a0_PC a0_Level a0_V a0_C a0_Done a1
def legal_wfi1 (a0_X : Nat → Int) (a0_PC : Int) (a0_Level : Int) (a0_V : Bool) (a0_C : Nat → Int) (a0_Done : Int) (a1 : Int) : Bool :=
  bif iEq a1 0 then false
  else
    bif bif iNe a1 3 then csr_Bit0 (fun i0 => a0_X i0) a0_PC a0_Level a0_V (fun i0 => a0_C i0) a0_Done 0 21 else false then false
    else bif iEq a1 4 then false else bif bif iEq a1 5 then csr_Bit0 (fun i0 => a0_X i0) a0_PC a0_Level a0_V (fun i0 => a0_C i0) a0_Done 16 21 else false then false else true
def legal_wfi1r (a0_X : Nat → Int) (a0_PC : Int) (a0_Level : Int) (a0_V : Bool) (a0_C : Nat → Int) (a0_Done : Int) (a1 : Int) : Bool :=
  bif iEq a1 0 then bif iEq a1 0 then false else legal_wfi_c2 a0_X a0_PC a0_Level a0_V a0_C a0_Done a1
  else bif bif iNe a1 3 then csr_Bit0 (fun i0 => a0_X i0) a0_PC a0_Level a0_V (fun i0 => a0_C i0) a0_Done 0 21 else false then false else legal_wfi_c2 a0_X a0_PC a0_Level a0_V a0_C a0_Done a1
def legal_wfiG (a0_X : Nat → Int) (a0_PC : Int) (a0_Level : Int) (a0_V : Bool) (a0_C : Nat → Int) (a0_Done : Int) (a1 : Int) : Bool :=
  bif iEq a1 0 then bif iEq a1 0 then true else legal_wfi_c0 a0_X a0_PC a0_Level a0_V a0_C a0_Done a1
  else
    (!iNe a1 3 || csr_BitG (fun i0 => a0_X i0) a0_PC a0_Level a0_V (fun i0 => a0_C i0) a0_Done 0 21) &&
      bif bif iNe a1 3 then csr_Bit0 (fun i0 => a0_X i0) a0_PC a0_Level a0_V (fun i0 => a0_C i0) a0_Done 0 21 else false then true else legal_wfi_c0 a0_X a0_PC a0_Level a0_V a0_C a0_Done a1
theorem legal_wfi0_eq (a0_X : Nat → Int) (a0_PC : Int) (a0_Level : Int) (a0_V : Bool) (a0_C : Nat → Int) (a0_Done : Int) (a1 : Int)  : legal_wfi0r a0_X a0_PC a0_Level a0_V a0_C a0_Done a1  = legal_wfi0 a0_X a0_PC a0_Level a0_V a0_C a0_Done a1  := by
  unfold legal_wfi0r
  first | (simp only [legal_wfi_c0, legal_wfi_c1, legal_wfi_c2, Go.Ev.cS1, Go.Ev.cS2, Go.Ev.cS3, Go.Ev.cS4, Go.Ev.cS6, Go.Ev.cS7]; done) | (simp only [legal_wfi_c0, legal_wfi_c1, legal_wfi_c2, Go.Ev.cS1, Go.Ev.cS2, Go.Ev.cS3, Go.Ev.cS4, Go.Ev.cS6, Go.Ev.cS7]; kernel_rfl)
theorem legal_wfi1_eq (a0_X : Nat → Int) (a0_PC : Int) (a0_Level : Int) (a0_V : Bool) (a0_C : Nat → Int) (a0_Done : Int) (a1 : Int)  : legal_wfi1r a0_X a0_PC a0_Level a0_V a0_C a0_Done a1  = legal_wfi1 a0_X a0_PC a0_Level a0_V a0_C a0_Done a1  := by
  unfold legal_wfi1r
  first | (simp only [legal_wfi_c0, legal_wfi_c1, legal_wfi_c2, Go.Ev.cS1, Go.Ev.cS2, Go.Ev.cS3, Go.Ev.cS4, Go.Ev.cS6, Go.Ev.cS7]; done) | (simp only [legal_wfi_c0, legal_wfi_c1, legal_wfi_c2, Go.Ev.cS1, Go.Ev.cS2, Go.Ev.cS3, Go.Ev.cS4, Go.Ev.cS6, Go.Ev.cS7]; kernel_rfl)
def legal_wfiV (a0_X : Nat → Int) (a0_PC : Int) (a0_Level : Int) (a0_V : Bool) (a0_C : Nat → Int) (a0_Done : Int) (a1 : Int) : AV := .tup [.it .u64 (legal_wfi0 a0_X a0_PC a0_Level a0_V a0_C a0_Done a1), .bl (legal_wfi1 a0_X a0_PC a0_Level a0_V a0_C a0_Done a1)]
def legal_wfiVr (a0_X : Nat → Int) (a0_PC : Int) (a0_Level : Int) (a0_V : Bool) (a0_C : Nat → Int) (a0_Done : Int) (a1 : Int) : AV := .tup [.it .u64 (legal_wfi0r a0_X a0_PC a0_Level a0_V a0_C a0_Done a1), .bl (legal_wfi1r a0_X a0_PC a0_Level a0_V a0_C a0_Done a1)]
theorem legal_wfiV_eq (a0_X : Nat → Int) (a0_PC : Int) (a0_Level : Int) (a0_V : Bool) (a0_C : Nat → Int) (a0_Done : Int) (a1 : Int) : legal_wfiVr a0_X a0_PC a0_Level a0_V a0_C a0_Done a1 = legal_wfiV a0_X a0_PC a0_Level a0_V a0_C a0_Done a1 := by
  unfold legal_wfiVr legal_wfiV
  simp only [legal_wfi0_eq, legal_wfi1_eq]
theorem legal_wfiE (g : Nat → AV) : pcOf Try.prog okT (lookR T37) (inl Try.prog okT (lookR T37) RO FS 100 ST 2) RO NOV 100 false Try.f38 (norms [(.agg [(.arr 32 (.int .u64)), (.int .u64), (.int .i64), .bool, (.arr 29 (.int .u64)), (.int .u64)]), (.int .i64)] 0 g) = some (legal_wfiG (fun i0 => (((g 0).fld 0).ix i0).num) (((g 0).fld 1).num) (((g 0).fld 2).num) (((g 0).fld 3).bool) (fun i0 => (((g 0).fld 4).ix i0).num) (((g 0).fld 5).num) ((g 1).num), legal_wfiV (fun i0 => (((g 0).fld 0).ix i0).num) (((g 0).fld 1).num) (((g 0).fld 2).num) (((g 0).fld 3).bool) (fun i0 => (((g 0).fld 4).ix i0).num) (((g 0).fld 5).num) ((g 1).num)) :=
  (by kernel_rfl : pcOf Try.prog okT (lookR T37) (inl Try.prog okT (lookR T37) RO FS 100 ST 2) RO NOV 100 false Try.f38 (norms [(.agg [(.arr 32 (.int .u64)), (.int .u64), (.int .i64), .bool, (.arr 29 (.int .u64)), (.int .u64)]), (.int .i64)] 0 g) = some (legal_wfiG (fun i0 => (((g 0).fld 0).ix i0).num) (((g 0).fld 1).num) (((g 0).fld 2).num) (((g 0).fld 3).bool) (fun i0 => (((g 0).fld 4).ix i0).num) (((g 0).fld 5).num) ((g 1).num), legal_wfiVr (fun i0 => (((g 0).fld 0).ix i0).num) (((g 0).fld 1).num) (((g 0).fld 2).num) (((g 0).fld 3).bool) (fun i0 => (((g 0).fld 4).ix i0).num) (((g 0).fld 5).num) ((g 1).num))).trans (by rw [legal_wfiV_eq])
theorem legal_wfiP : Plain Try.prog 38 Try.f38 := ⟨Try.func38, of_decide_eq_true (by kernel_rfl)⟩
theorem legal_wfiT (a0_X : Nat → Int) (a0_PC : Int) (a0_Level : Int) (a0_V : Bool) (a0_C : Nat → Int) (a0_Done : Int) (a1 : Int) : legal_wfiG a0_X a0_PC a0_Level a0_V a0_C a0_Done a1 = true := by first | simp [legal_wfiG, legal_wfi_c0, csr_BitG, show iIn 16 29 = true by decide, show iIn 0 29 = true by decide] | simp [legal_wfiG, csr_BitG, show iIn 16 29 = true by decide, show iIn 0 29 = true by decide]
theorem legal_wfiO : RowOk Try.prog 38 (rowF [(.agg [(.arr 32 (.int .u64)), (.int .u64), (.int .i64), .bool, (.arr 29 (.int .u64)), (.int .u64)]), (.int .i64)] none fun g => legal_wfiV (fun i0 => (((g 0).fld 0).ix i0).num) (((g 0).fld 1).num) (((g 0).fld 2).num) (((g 0).fld 3).bool) (fun i0 => (((g 0).fld 4).ix i0).num) (((g 0).fld 5).num) ((g 1).num)) := rowT_ok fun g => pcOf_ok mix fair T37_ok (inl_ok mix fair T37_ok FS_ok 2) legal_wfiP (fun c _ => OvOk_none c) (legal_wfiE g) (legal_wfiT (fun i0 => (((g 0).fld 0).ix i0).num) (((g 0).fld 1).num) (((g 0).fld 2).num) (((g 0).fld 3).bool) (fun i0 => (((g 0).fld 4).ix i0).num) (((g 0).fld 5).num) ((g 1).num))
def T38 : List Row := (38, (rowF [(.agg [(.arr 32 (.int .u64)), (.int .u64), (.int .i64), .bool, (.arr 29 (.int .u64)), (.int .u64)]), (.int .i64)] none fun g => legal_wfiV (fun i0 => (((g 0).fld 0).ix i0).num) (((g 0).fld 1).num) (((g 0).fld 2).num) (((g 0).fld 3).bool) (fun i0 => (((g 0).fld 4).ix i0).num) (((g 0).fld 5).num) ((g 1).num))) :: T37
theorem T38_ok : PSound Try.prog (lookR T38) := lookR_cons legal_wfiO T37_ok

/- sallyport/legal.guests -/
def legal_guests0 (a0_X : Nat → Int) (a0_PC : Int) (a0_Level : Int) (a0_V : Bool) (a0_C : Nat → Int) (a0_Done : Int) (a1 : Int) (a2 : Int) : Int :=
  bif iLe 4 a1 then 22
  else
    bif iEq a1 0 then legal_because0 (bif iEq (insn_Class0 a2) 12 then csr_Bit0 (fun i0 => a0_X i0) a0_PC a0_Level a0_V (fun i0 => a0_C i0) a0_Done 16 9 else false) 2
    else bif bif iEq a1 1 then iEq a2 65 else false then legal_because0 (!csr_Bit0 (fun i0 => a0_X i0) a0_PC a0_Level a0_V (fun i0 => a0_C i0) a0_Done 0 20) 2 else 0
def legal_guests1 (a0_X : Nat → Int) (a0_PC : Int) (a0_Level : Int) (a0_V : Bool) (a0_C : Nat → Int) (a0_Done : Int) (a1 : Int) (a2 : Int) : Bool :=
  bif iLe 4 a1 then false
  else
    bif iEq a1 0 then bif iEq (insn_Class0 a2) 12 then csr_Bit0 (fun i0 => a0_X i0) a0_PC a0_Level a0_V (fun i0 => a0_C i0) a0_Done 16 9 else false
    else bif bif iEq a1 1 then iEq a2 65 else false then !csr_Bit0 (fun i0 => a0_X i0) a0_PC a0_Level a0_V (fun i0 => a0_C i0) a0_Done 0 20 else true
def legal_guestsG (a0_X : Nat → Int) (a0_PC : Int) (a0_Level : Int) (a0_V : Bool) (a0_C : Nat → Int) (a0_Done : Int) (a1 : Int) (a2 : Int) : Bool :=
  bif iLe 4 a1 then true
  else
    bif iEq a1 0 then (!iEq (insn_Class0 a2) 12 || csr_BitG (fun i0 => a0_X i0) a0_PC a0_Level a0_V (fun i0 => a0_C i0) a0_Done 16 9) && true
    else bif bif iEq a1 1 then iEq a2 65 else false then csr_BitG (fun i0 => a0_X i0) a0_PC a0_Level a0_V (fun i0 => a0_C i0) a0_Done 0 20 && true else true
def legal_guestsV (a0_X : Nat → Int) (a0_PC : Int) (a0_Level : Int) (a0_V : Bool) (a0_C : Nat → Int) (a0_Done : Int) (a1 : Int) (a2 : Int) : AV := .tup [.it .u64 (legal_guests0 a0_X a0_PC a0_Level a0_V a0_C a0_Done a1 a2), .bl (legal_guests1 a0_X a0_PC a0_Level a0_V a0_C a0_Done a1 a2)]
theorem legal_guestsE (g : Nat → AV) : pcOf Try.prog okT (lookR T38) (inl Try.prog okT (lookR T38) RO FS 100 ST 2) RO NOV 100 false Try.f39 (norms [(.agg [(.arr 32 (.int .u64)), (.int .u64), (.int .i64), .bool, (.arr 29 (.int .u64)), (.int .u64)]), (.int .i64), (.int .i64)] 0 g) = some (legal_guestsG (fun i0 => (((g 0).fld 0).ix i0).num) (((g 0).fld 1).num) (((g 0).fld 2).num) (((g 0).fld 3).bool) (fun i0 => (((g 0).fld 4).ix i0).num) (((g 0).fld 5).num) ((g 1).num) ((g 2).num), legal_guestsV (fun i0 => (((g 0).fld 0).ix i0).num) (((g 0).fld 1).num) (((g 0).fld 2).num) (((g 0).fld 3).bool) (fun i0 => (((g 0).fld 4).ix i0).num) (((g 0).fld 5).num) ((g 1).num) ((g 2).num)) := by kernel_rfl
theorem legal_guestsP : Plain Try.prog 39 Try.f39 := ⟨Try.func39, of_decide_eq_true (by kernel_rfl)⟩
theorem legal_guestsT (a0_X : Nat → Int) (a0_PC : Int) (a0_Level : Int) (a0_V : Bool) (a0_C : Nat → Int) (a0_Done : Int) (a1 : Int) (a2 : Int) : legal_guestsG a0_X a0_PC a0_Level a0_V a0_C a0_Done a1 a2 = true := by simp [legal_guestsG, csr_BitG, show iIn 16 29 = true by decide, show iIn 0 29 = true by decide]
theorem legal_guestsO : RowOk Try.prog 39 (rowF [(.agg [(.arr 32 (.int .u64)), (.int .u64), (.int .i64), .bool, (.arr 29 (.int .u64)), (.int .u64)]), (.int .i64), (.int .i64)] none fun g => legal_guestsV (fun i0 => (((g 0).fld 0).ix i0).num) (((g 0).fld 1).num) (((g 0).fld 2).num) (((g 0).fld 3).bool) (fun i0 => (((g 0).fld 4).ix i0).num) (((g 0).fld 5).num) ((g 1).num) ((g 2).num)) := rowT_ok fun g => pcOf_ok mix fair T38_ok (inl_ok mix fair T38_ok FS_ok 2) legal_guestsP (fun c _ => OvOk_none c) (legal_guestsE g) (legal_guestsT (fun i0 => (((g 0).fld 0).ix i0).num) (((g 0).fld 1).num) (((g 0).fld 2).num) (((g 0).fld 3).bool) (fun i0 => (((g 0).fld 4).ix i0).num) (((g 0).fld 5).num) ((g 1).num) ((g 2).num))
def T39 : List Row := (39, (rowF [(.agg [(.arr 32 (.int .u64)), (.int .u64), (.int .i64), .bool, (.arr 29 (.int .u64)), (.int .u64)]), (.int .i64), (.int .i64)] none fun g => legal_guestsV (fun i0 => (((g 0).fld 0).ix i0).num) (((g 0).fld 1).num) (((g 0).fld 2).num) (((g 0).fld 3).bool) (fun i0 => (((g 0).fld 4).ix i0).num) (((g 0).fld 5).num) ((g 1).num) ((g 2).num))) :: T38
theorem T39_ok : PSound Try.prog (lookR T39) := lookR_cons legal_guestsO T38_ok

/- sallyport/legal.Insn -/
def legal_Insn0 (a0_X : Nat → Int) (a0_PC : Int) (a0_Level : Int) (a0_V : Bool) (a0_C : Nat → Int) (a0_Done : Int) (a1_Op : Int) (a1_Rd : Int) (a1_Rs1 : Int) (a1_Rs2 : Int) (a1_Imm : Int) (a1_CSR : Int) : Int :=
  bif !insn_Is0 a1_Op a1_Rd a1_Rs1 a1_Rs2 a1_Imm a1_CSR then 2
  else
    bif iEq (insn_Class0 a1_Op) 9 then legal_Csr0 (fun i0 => a0_X i0) a0_PC a0_Level a0_V (fun i0 => a0_C i0) a0_Done a1_CSR (legal_Writes0 a1_Op a1_Rd a1_Rs1 a1_Rs2 a1_Imm a1_CSR)
    else
      bif iEq a1_Op 60 then legal_because0 (iEq (legal_Level0 (fun i0 => a0_X i0) a0_PC a0_Level a0_V (fun i0 => a0_C i0) a0_Done) 3) 2
      else
        bif iEq a1_Op 61 then legal_plain0 (fun i0 => a0_X i0) a0_PC a0_Level a0_V (fun i0 => a0_C i0) a0_Done (legal_Level0 (fun i0 => a0_X i0) a0_PC a0_Level a0_V (fun i0 => a0_C i0) a0_Done) 22 22
        else
          bif iEq a1_Op 63 then legal_plain0 (fun i0 => a0_X i0) a0_PC a0_Level a0_V (fun i0 => a0_C i0) a0_Done (legal_Level0 (fun i0 => a0_X i0) a0_PC a0_Level a0_V (fun i0 => a0_C i0) a0_Done) 20 20
          else
            bif iEq a1_Op 62 then legal_wfi0 (fun i0 => a0_X i0) a0_PC a0_Level a0_V (fun i0 => a0_C i0) a0_Done (legal_Level0 (fun i0 => a0_X i0) a0_PC a0_Level a0_V (fun i0 => a0_C i0) a0_Done)
            else
              bif iEq a1_Op 64 then
                legal_guests0 (fun i0 => a0_X i0) a0_PC a0_Level a0_V (fun i0 => a0_C i0) a0_Done (legal_Level0 (fun i0 => a0_X i0) a0_PC a0_Level a0_V (fun i0 => a0_C i0) a0_Done) a1_Op
              else
                bif iEq a1_Op 65 then
                  legal_guests0 (fun i0 => a0_X i0) a0_PC a0_Level a0_V (fun i0 => a0_C i0) a0_Done (legal_Level0 (fun i0 => a0_X i0) a0_PC a0_Level a0_V (fun i0 => a0_C i0) a0_Done) a1_Op
                else
                  bif iEq (insn_Class0 a1_Op) 12 then
                    legal_guests0 (fun i0 => a0_X i0) a0_PC a0_Level a0_V (fun i0 => a0_C i0) a0_Done (legal_Level0 (fun i0 => a0_X i0) a0_PC a0_Level a0_V (fun i0 => a0_C i0) a0_Done) a1_Op
                  else 0
def legal_Insn0r (a0_X : Nat → Int) (a0_PC : Int) (a0_Level : Int) (a0_V : Bool) (a0_C : Nat → Int) (a0_Done : Int) (a1_Op : Int) (a1_Rd : Int) (a1_Rs1 : Int) (a1_Rs2 : Int) (a1_Imm : Int) (a1_CSR : Int) : Int :=
  bif !insn_Is0 a1_Op a1_Rd a1_Rs1 a1_Rs2 a1_Imm a1_CSR then 2
  else
    bif iEq (insn_Class0 a1_Op) 9 then legal_Csr0 (fun i0 => a0_X i0) a0_PC a0_Level a0_V (fun i0 => a0_C i0) a0_Done a1_CSR (legal_Writes0 a1_Op a1_Rd a1_Rs1 a1_Rs2 a1_Imm a1_CSR)
    else
      bif iEq a1_Op 60 then legal_because0 (iEq (legal_Level0 (fun i0 => a0_X i0) a0_PC a0_Level a0_V (fun i0 => a0_C i0) a0_Done) 3) 2
      else
        bif iEq a1_Op 61 then legal_plain0 (fun i0 => a0_X i0) a0_PC a0_Level a0_V (fun i0 => a0_C i0) a0_Done (legal_Level0 (fun i0 => a0_X i0) a0_PC a0_Level a0_V (fun i0 => a0_C i0) a0_Done) 22 22
        else
          bif iEq a1_Op 63 then legal_plain0 (fun i0 => a0_X i0) a0_PC a0_Level a0_V (fun i0 => a0_C i0) a0_Done (legal_Level0 (fun i0 => a0_X i0) a0_PC a0_Level a0_V (fun i0 => a0_C i0) a0_Done) 20 20
          else
            bif iEq a1_Op 62 then legal_wfi0 (fun i0 => a0_X i0) a0_PC a0_Level a0_V (fun i0 => a0_C i0) a0_Done (legal_Level0 (fun i0 => a0_X i0) a0_PC a0_Level a0_V (fun i0 => a0_C i0) a0_Done)
            else
              bif iEq a1_Op 64 then
                bif iEq a1_Op 64 then
                  legal_guests0 (fun i0 => a0_X i0) a0_PC a0_Level a0_V (fun i0 => a0_C i0) a0_Done (legal_Level0 (fun i0 => a0_X i0) a0_PC a0_Level a0_V (fun i0 => a0_C i0) a0_Done) a1_Op
                else 0
              else
                bif iEq a1_Op 65 then
                  bif iEq a1_Op 65 then
                    legal_guests0 (fun i0 => a0_X i0) a0_PC a0_Level a0_V (fun i0 => a0_C i0) a0_Done (legal_Level0 (fun i0 => a0_X i0) a0_PC a0_Level a0_V (fun i0 => a0_C i0) a0_Done) a1_Op
                  else 0
                else
                  bif iEq (insn_Class0 a1_Op) 12 then
                    legal_guests0 (fun i0 => a0_X i0) a0_PC a0_Level a0_V (fun i0 => a0_C i0) a0_Done (legal_Level0 (fun i0 => a0_X i0) a0_PC a0_Level a0_V (fun i0 => a0_C i0) a0_Done) a1_Op
                  else 0
def legal_Insn1 (a0_X : Nat → Int) (a0_PC : Int) (a0_Level : Int) (a0_V : Bool) (a0_C : Nat → Int) (a0_Done : Int) (a1_Op : Int) (a1_Rd : Int) (a1_Rs1 : Int) (a1_Rs2 : Int) (a1_Imm : Int) (a1_CSR : Int) : Bool :=
  bif !insn_Is0 a1_Op a1_Rd a1_Rs1 a1_Rs2 a1_Imm a1_CSR then false
  else
    bif iEq (insn_Class0 a1_Op) 9 then legal_Csr1 (fun i0 => a0_X i0) a0_PC a0_Level a0_V (fun i0 => a0_C i0) a0_Done a1_CSR (legal_Writes0 a1_Op a1_Rd a1_Rs1 a1_Rs2 a1_Imm a1_CSR)
    else
      bif iEq a1_Op 60 then iEq (legal_Level0 (fun i0 => a0_X i0) a0_PC a0_Level a0_V (fun i0 => a0_C i0) a0_Done) 3
      else
        bif iEq a1_Op 61 then legal_plain1 (fun i0 => a0_X i0) a0_PC a0_Level a0_V (fun i0 => a0_C i0) a0_Done (legal_Level0 (fun i0 => a0_X i0) a0_PC a0_Level a0_V (fun i0 => a0_C i0) a0_Done) 22 22
        else
          bif iEq a1_Op 63 then legal_plain1 (fun i0 => a0_X i0) a0_PC a0_Level a0_V (fun i0 => a0_C i0) a0_Done (legal_Level0 (fun i0 => a0_X i0) a0_PC a0_Level a0_V (fun i0 => a0_C i0) a0_Done) 20 20
          else
            bif iEq a1_Op 62 then legal_wfi1 (fun i0 => a0_X i0) a0_PC a0_Level a0_V (fun i0 => a0_C i0) a0_Done (legal_Level0 (fun i0 => a0_X i0) a0_PC a0_Level a0_V (fun i0 => a0_C i0) a0_Done)
            else
              bif iEq a1_Op 64 then
                legal_guests1 (fun i0 => a0_X i0) a0_PC a0_Level a0_V (fun i0 => a0_C i0) a0_Done (legal_Level0 (fun i0 => a0_X i0) a0_PC a0_Level a0_V (fun i0 => a0_C i0) a0_Done) a1_Op
              else
                bif iEq a1_Op 65 then
                  legal_guests1 (fun i0 => a0_X i0) a0_PC a0_Level a0_V (fun i0 => a0_C i0) a0_Done (legal_Level0 (fun i0 => a0_X i0) a0_PC a0_Level a0_V (fun i0 => a0_C i0) a0_Done) a1_Op
                else
                  bif iEq (insn_Class0 a1_Op) 12 then
                    legal_guests1 (fun i0 => a0_X i0) a0_PC a0_Level a0_V (fun i0 => a0_C i0) a0_Done (legal_Level0 (fun i0 => a0_X i0) a0_PC a0_Level a0_V (fun i0 => a0_C i0) a0_Done) a1_Op
                  else true
def legal_Insn1r (a0_X : Nat → Int) (a0_PC : Int) (a0_Level : Int) (a0_V : Bool) (a0_C : Nat → Int) (a0_Done : Int) (a1_Op : Int) (a1_Rd : Int) (a1_Rs1 : Int) (a1_Rs2 : Int) (a1_Imm : Int) (a1_CSR : Int) : Bool :=
  bif !insn_Is0 a1_Op a1_Rd a1_Rs1 a1_Rs2 a1_Imm a1_CSR then false
  else
    bif iEq (insn_Class0 a1_Op) 9 then legal_Csr1 (fun i0 => a0_X i0) a0_PC a0_Level a0_V (fun i0 => a0_C i0) a0_Done a1_CSR (legal_Writes0 a1_Op a1_Rd a1_Rs1 a1_Rs2 a1_Imm a1_CSR)
    else
      bif iEq a1_Op 60 then iEq (legal_Level0 (fun i0 => a0_X i0) a0_PC a0_Level a0_V (fun i0 => a0_C i0) a0_Done) 3
      else
        bif iEq a1_Op 61 then legal_plain1 (fun i0 => a0_X i0) a0_PC a0_Level a0_V (fun i0 => a0_C i0) a0_Done (legal_Level0 (fun i0 => a0_X i0) a0_PC a0_Level a0_V (fun i0 => a0_C i0) a0_Done) 22 22
        else
          bif iEq a1_Op 63 then legal_plain1 (fun i0 => a0_X i0) a0_PC a0_Level a0_V (fun i0 => a0_C i0) a0_Done (legal_Level0 (fun i0 => a0_X i0) a0_PC a0_Level a0_V (fun i0 => a0_C i0) a0_Done) 20 20
          else
            bif iEq a1_Op 62 then legal_wfi1 (fun i0 => a0_X i0) a0_PC a0_Level a0_V (fun i0 => a0_C i0) a0_Done (legal_Level0 (fun i0 => a0_X i0) a0_PC a0_Level a0_V (fun i0 => a0_C i0) a0_Done)
            else
              bif iEq a1_Op 64 then
                bif iEq a1_Op 64 then
                  legal_guests1 (fun i0 => a0_X i0) a0_PC a0_Level a0_V (fun i0 => a0_C i0) a0_Done (legal_Level0 (fun i0 => a0_X i0) a0_PC a0_Level a0_V (fun i0 => a0_C i0) a0_Done) a1_Op
                else true
              else
                bif iEq a1_Op 65 then
                  bif iEq a1_Op 65 then
                    legal_guests1 (fun i0 => a0_X i0) a0_PC a0_Level a0_V (fun i0 => a0_C i0) a0_Done (legal_Level0 (fun i0 => a0_X i0) a0_PC a0_Level a0_V (fun i0 => a0_C i0) a0_Done) a1_Op
                  else true
                else
                  bif iEq (insn_Class0 a1_Op) 12 then
                    legal_guests1 (fun i0 => a0_X i0) a0_PC a0_Level a0_V (fun i0 => a0_C i0) a0_Done (legal_Level0 (fun i0 => a0_X i0) a0_PC a0_Level a0_V (fun i0 => a0_C i0) a0_Done) a1_Op
                  else true
def legal_InsnG (a0_X : Nat → Int) (a0_PC : Int) (a0_Level : Int) (a0_V : Bool) (a0_C : Nat → Int) (a0_Done : Int) (a1_Op : Int) (a1_Rd : Int) (a1_Rs1 : Int) (a1_Rs2 : Int) (a1_Imm : Int) (a1_CSR : Int) : Bool :=
  bif !insn_Is0 a1_Op a1_Rd a1_Rs1 a1_Rs2 a1_Imm a1_CSR then true
  else
    bif iEq (insn_Class0 a1_Op) 9 then true
    else
      bif iEq a1_Op 60 then true
      else
        bif iEq a1_Op 61 then true
        else
          bif iEq a1_Op 63 then true
          else
            bif iEq a1_Op 62 then true
            else bif iEq a1_Op 64 then bif iEq a1_Op 64 then true else true else bif iEq a1_Op 65 then bif iEq a1_Op 65 then true else true else bif iEq (insn_Class0 a1_Op) 12 then true else true
theorem legal_Insn0_eq (a0_X : Nat → Int) (a0_PC : Int) (a0_Level : Int) (a0_V : Bool) (a0_C : Nat → Int) (a0_Done : Int) (a1_Op : Int) (a1_Rd : Int) (a1_Rs1 : Int) (a1_Rs2 : Int) (a1_Imm : Int) (a1_CSR : Int)  : legal_Insn0r a0_X a0_PC a0_Level a0_V a0_C a0_Done a1_Op a1_Rd a1_Rs1 a1_Rs2 a1_Imm a1_CSR  = legal_Insn0 a0_X a0_PC a0_Level a0_V a0_C a0_Done a1_Op a1_Rd a1_Rs1 a1_Rs2 a1_Imm a1_CSR  := by
  unfold legal_Insn0r
  first | (simp only [Go.Ev.cS1, Go.Ev.cS2, Go.Ev.cS3, Go.Ev.cS4, Go.Ev.cS6, Go.Ev.cS7]; done) | (simp only [Go.Ev.cS1, Go.Ev.cS2, Go.Ev.cS3, Go.Ev.cS4, Go.Ev.cS6, Go.Ev.cS7]; kernel_rfl)
theorem legal_Insn1_eq (a0_X : Nat → Int) (a0_PC : Int) (a0_Level : Int) (a0_V : Bool) (a0_C : Nat → Int) (a0_Done : Int) (a1_Op : Int) (a1_Rd : Int) (a1_Rs1 : Int) (a1_Rs2 : Int) (a1_Imm : Int) (a1_CSR : Int)  : legal_Insn1r a0_X a0_PC a0_Level a0_V a0_C a0_Done a1_Op a1_Rd a1_Rs1 a1_Rs2 a1_Imm a1_CSR  = legal_Insn1 a0_X a0_PC a0_Level a0_V a0_C a0_Done a1_Op a1_Rd a1_Rs1 a1_Rs2 a1_Imm a1_CSR  := by
  unfold legal_Insn1r
  first | (simp only [Go.Ev.cS1, Go.Ev.cS2, Go.Ev.cS3, Go.Ev.cS4, Go.Ev.cS6, Go.Ev.cS7]; done) | (simp only [Go.Ev.cS1, Go.Ev.cS2, Go.Ev.cS3, Go.Ev.cS4, Go.Ev.cS6, Go.Ev.cS7]; kernel_rfl)
def legal_InsnV (a0_X : Nat → Int) (a0_PC : Int) (a0_Level : Int) (a0_V : Bool) (a0_C : Nat → Int) (a0_Done : Int) (a1_Op : Int) (a1_Rd : Int) (a1_Rs1 : Int) (a1_Rs2 : Int) (a1_Imm : Int) (a1_CSR : Int) : AV := .tup [.it .u64 (legal_Insn0 a0_X a0_PC a0_Level a0_V a0_C a0_Done a1_Op a1_Rd a1_Rs1 a1_Rs2 a1_Imm a1_CSR), .bl (legal_Insn1 a0_X a0_PC a0_Level a0_V a0_C a0_Done a1_Op a1_Rd a1_Rs1 a1_Rs2 a1_Imm a1_CSR)]
def legal_InsnVr (a0_X : Nat → Int) (a0_PC : Int) (a0_Level : Int) (a0_V : Bool) (a0_C : Nat → Int) (a0_Done : Int) (a1_Op : Int) (a1_Rd : Int) (a1_Rs1 : Int) (a1_Rs2 : Int) (a1_Imm : Int) (a1_CSR : Int) : AV := .tup [.it .u64 (legal_Insn0r a0_X a0_PC a0_Level a0_V a0_C a0_Done a1_Op a1_Rd a1_Rs1 a1_Rs2 a1_Imm a1_CSR), .bl (legal_Insn1r a0_X a0_PC a0_Level a0_V a0_C a0_Done a1_Op a1_Rd a1_Rs1 a1_Rs2 a1_Imm a1_CSR)]
theorem legal_InsnV_eq (a0_X : Nat → Int) (a0_PC : Int) (a0_Level : Int) (a0_V : Bool) (a0_C : Nat → Int) (a0_Done : Int) (a1_Op : Int) (a1_Rd : Int) (a1_Rs1 : Int) (a1_Rs2 : Int) (a1_Imm : Int) (a1_CSR : Int) : legal_InsnVr a0_X a0_PC a0_Level a0_V a0_C a0_Done a1_Op a1_Rd a1_Rs1 a1_Rs2 a1_Imm a1_CSR = legal_InsnV a0_X a0_PC a0_Level a0_V a0_C a0_Done a1_Op a1_Rd a1_Rs1 a1_Rs2 a1_Imm a1_CSR := by
  unfold legal_InsnVr legal_InsnV
  simp only [legal_Insn0_eq, legal_Insn1_eq]
theorem legal_InsnE (g : Nat → AV) : pcOf Try.prog okT (lookR T39) (inl Try.prog okT (lookR T39) RO FS 100 ST 2) RO NOV 100 false Try.f19 (norms [(.agg [(.arr 32 (.int .u64)), (.int .u64), (.int .i64), .bool, (.arr 29 (.int .u64)), (.int .u64)]), (.agg [(.int .i64), (.int .i64), (.int .i64), (.int .i64), (.int .i64), (.int .i64)])] 0 g) = some (legal_InsnG (fun i0 => (((g 0).fld 0).ix i0).num) (((g 0).fld 1).num) (((g 0).fld 2).num) (((g 0).fld 3).bool) (fun i0 => (((g 0).fld 4).ix i0).num) (((g 0).fld 5).num) (((g 1).fld 0).num) (((g 1).fld 1).num) (((g 1).fld 2).num) (((g 1).fld 3).num) (((g 1).fld 4).num) (((g 1).fld 5).num), legal_InsnV (fun i0 => (((g 0).fld 0).ix i0).num) (((g 0).fld 1).num) (((g 0).fld 2).num) (((g 0).fld 3).bool) (fun i0 => (((g 0).fld 4).ix i0).num) (((g 0).fld 5).num) (((g 1).fld 0).num) (((g 1).fld 1).num) (((g 1).fld 2).num) (((g 1).fld 3).num) (((g 1).fld 4).num) (((g 1).fld 5).num)) :=
  (by kernel_rfl : pcOf Try.prog okT (lookR T39) (inl Try.prog okT (lookR T39) RO FS 100 ST 2) RO NOV 100 false Try.f19 (norms [(.agg [(.arr 32 (.int .u64)), (.int .u64), (.int .i64), .bool, (.arr 29 (.int .u64)), (.int .u64)]), (.agg [(.int .i64), (.int .i64), (.int .i64), (.int .i64), (.int .i64), (.int .i64)])] 0 g) = some (legal_InsnG (fun i0 => (((g 0).fld 0).ix i0).num) (((g 0).fld 1).num) (((g 0).fld 2).num) (((g 0).fld 3).bool) (fun i0 => (((g 0).fld 4).ix i0).num) (((g 0).fld 5).num) (((g 1).fld 0).num) (((g 1).fld 1).num) (((g 1).fld 2).num) (((g 1).fld 3).num) (((g 1).fld 4).num) (((g 1).fld 5).num), legal_InsnVr (fun i0 => (((g 0).fld 0).ix i0).num) (((g 0).fld 1).num) (((g 0).fld 2).num) (((g 0).fld 3).bool) (fun i0 => (((g 0).fld 4).ix i0).num) (((g 0).fld 5).num) (((g 1).fld 0).num) (((g 1).fld 1).num) (((g 1).fld 2).num) (((g 1).fld 3).num) (((g 1).fld 4).num) (((g 1).fld 5).num))).trans (by rw [legal_InsnV_eq])
theorem legal_InsnP : Plain Try.prog 19 Try.f19 := ⟨Try.func19, of_decide_eq_true (by kernel_rfl)⟩
theorem legal_InsnT (a0_X : Nat → Int) (a0_PC : Int) (a0_Level : Int) (a0_V : Bool) (a0_C : Nat → Int) (a0_Done : Int) (a1_Op : Int) (a1_Rd : Int) (a1_Rs1 : Int) (a1_Rs2 : Int) (a1_Imm : Int) (a1_CSR : Int) : legal_InsnG a0_X a0_PC a0_Level a0_V a0_C a0_Done a1_Op a1_Rd a1_Rs1 a1_Rs2 a1_Imm a1_CSR = true := by simp [legal_InsnG, csr_BitG, show iIn 16 29 = true by decide, show iIn 0 29 = true by decide]
theorem legal_InsnO : RowOk Try.prog 19 (rowF [(.agg [(.arr 32 (.int .u64)), (.int .u64), (.int .i64), .bool, (.arr 29 (.int .u64)), (.int .u64)]), (.agg [(.int .i64), (.int .i64), (.int .i64), (.int .i64), (.int .i64), (.int .i64)])] none fun g => legal_InsnV (fun i0 => (((g 0).fld 0).ix i0).num) (((g 0).fld 1).num) (((g 0).fld 2).num) (((g 0).fld 3).bool) (fun i0 => (((g 0).fld 4).ix i0).num) (((g 0).fld 5).num) (((g 1).fld 0).num) (((g 1).fld 1).num) (((g 1).fld 2).num) (((g 1).fld 3).num) (((g 1).fld 4).num) (((g 1).fld 5).num)) := rowT_ok fun g => pcOf_ok mix fair T39_ok (inl_ok mix fair T39_ok FS_ok 2) legal_InsnP (fun c _ => OvOk_none c) (legal_InsnE g) (legal_InsnT (fun i0 => (((g 0).fld 0).ix i0).num) (((g 0).fld 1).num) (((g 0).fld 2).num) (((g 0).fld 3).bool) (fun i0 => (((g 0).fld 4).ix i0).num) (((g 0).fld 5).num) (((g 1).fld 0).num) (((g 1).fld 1).num) (((g 1).fld 2).num) (((g 1).fld 3).num) (((g 1).fld 4).num) (((g 1).fld 5).num))
def T19 : List Row := (19, (rowF [(.agg [(.arr 32 (.int .u64)), (.int .u64), (.int .i64), .bool, (.arr 29 (.int .u64)), (.int .u64)]), (.agg [(.int .i64), (.int .i64), (.int .i64), (.int .i64), (.int .i64), (.int .i64)])] none fun g => legal_InsnV (fun i0 => (((g 0).fld 0).ix i0).num) (((g 0).fld 1).num) (((g 0).fld 2).num) (((g 0).fld 3).bool) (fun i0 => (((g 0).fld 4).ix i0).num) (((g 0).fld 5).num) (((g 1).fld 0).num) (((g 1).fld 1).num) (((g 1).fld 2).num) (((g 1).fld 3).num) (((g 1).fld 4).num) (((g 1).fld 5).num))) :: T39
theorem T19_ok : PSound Try.prog (lookR T19) := lookR_cons legal_InsnO T39_ok

/- sallyport/sallyportref3.Class -/
def sallyportref3_Class0 (a0 : Int) : Int :=
  bif bif iLt a0 1 then true else iLe 70 a0 then 0
  else
    bif iLe a0 4 then 1
    else
      bif iLe a0 10 then 2
      else
        bif iLe a0 17 then 3
        else
          bif iLe a0 21 then 4
          else bif iLe a0 34 then 5 else bif iLe a0 49 then 6 else bif iLe a0 51 then 7 else bif iLe a0 53 then 8 else bif iLe a0 59 then 9 else bif iLe a0 62 then 10 else bif iLe a0 65 then 11 else 12
def sallyportref3_ClassG (a0 : Int) : Bool :=
  bif bif iLt a0 1 then true else iLe 70 a0 then true
  else
    bif iLe a0 4 then true
    else
      bif iLe a0 10 then true
      else
        bif iLe a0 17 then true
        else
          bif iLe a0 21 then true
          else
            bif iLe a0 34 then true
            else bif iLe a0 49 then true else bif iLe a0 51 then true else bif iLe a0 53 then true else bif iLe a0 59 then true else bif iLe a0 62 then true else bif iLe a0 65 then true else true
def sallyportref3_ClassV (a0 : Int) : AV := .it .i64 (sallyportref3_Class0 a0)
theorem sallyportref3_ClassE (g : Nat → AV) : pcOf Try.prog okT (lookR T19) (inl Try.prog okT (lookR T19) RO FS 100 ST 2) RO NOV 100 false Try.f44 (norms [(.int .i64)] 0 g) = some (sallyportref3_ClassG ((g 0).num), sallyportref3_ClassV ((g 0).num)) := by kernel_rfl
theorem sallyportref3_ClassP : Plain Try.prog 44 Try.f44 := ⟨Try.func44, of_decide_eq_true (by kernel_rfl)⟩
theorem sallyportref3_ClassT (a0 : Int) : sallyportref3_ClassG a0 = true := by
  unfold sallyportref3_ClassG
  simp only [Go.Ev.cS1, Go.Ev.cS2, Go.Ev.cS3, Go.Ev.cS4, Go.Ev.cS6, Go.Ev.cS7]
theorem sallyportref3_ClassO : RowOk Try.prog 44 (rowF [(.int .i64)] none fun g => sallyportref3_ClassV ((g 0).num)) := rowT_ok fun g => pcOf_ok mix fair T19_ok (inl_ok mix fair T19_ok FS_ok 2) sallyportref3_ClassP (fun c _ => OvOk_none c) (sallyportref3_ClassE g) (sallyportref3_ClassT ((g 0).num))
def T44 : List Row := (44, (rowF [(.int .i64)] none fun g => sallyportref3_ClassV ((g 0).num))) :: T19
theorem T44_ok : PSound Try.prog (lookR T44) := lookR_cons sallyportref3_ClassO T19_ok

/- sallyport/sallyportref3.Parts -/
def sallyportref3_Parts_c0 (a0 : Int) : Bool :=
  bif iEq (sallyportref3_Class0 a0) 3 then
    bif iEq (sallyportref3_Class0 a0) 3 then true
    else
      bif iEq (sallyportref3_Class0 a0) 6 then true
      else bif iEq (sallyportref3_Class0 a0) 9 then true else bif iEq (sallyportref3_Class0 a0) 11 then true else bif iEq (sallyportref3_Class0 a0) 12 then true else true
  else
    bif iEq (sallyportref3_Class0 a0) 5 then true
    else
      bif iEq (sallyportref3_Class0 a0) 6 then true
      else bif iEq (sallyportref3_Class0 a0) 9 then true else bif iEq (sallyportref3_Class0 a0) 11 then true else bif iEq (sallyportref3_Class0 a0) 12 then true else true
def sallyportref3_Parts_c1 (a0 : Int) : Bool :=
  bif iEq (sallyportref3_Class0 a0) 6 then true
  else bif iEq (sallyportref3_Class0 a0) 9 then true else bif iEq (sallyportref3_Class0 a0) 11 then false else bif iEq (sallyportref3_Class0 a0) 12 then iNe a0 69 else false
def sallyportref3_Parts_c2 (a0 : Int) : Bool :=
  bif iEq (sallyportref3_Class0 a0) 5 then true else sallyportref3_Parts_c1 a0
def sallyportref3_Parts_c3 (a0 : Int) : Bool :=
  bif iEq (sallyportref3_Class0 a0) 3 then bif iEq (sallyportref3_Class0 a0) 3 then true else sallyportref3_Parts_c1 a0 else sallyportref3_Parts_c2 a0
def sallyportref3_Parts_c4 (a0 : Int) : Bool :=
  bif iEq (sallyportref3_Class0 a0) 6 then true
  else bif iEq (sallyportref3_Class0 a0) 9 then !iLe 57 a0 else bif iEq (sallyportref3_Class0 a0) 11 then true else bif iEq (sallyportref3_Class0 a0) 12 then true else false
def sallyportref3_Parts_c5 (a0 : Int) : Bool :=
  bif iEq (sallyportref3_Class0 a0) 3 then bif iEq (sallyportref3_Class0 a0) 3 then true else sallyportref3_Parts_c4 a0 else bif iEq (sallyportref3_Class0 a0) 5 then true else sallyportref3_Parts_c4 a0
def sallyportref3_Parts_c6 (a0 : Int) : Bool :=
  bif iEq (sallyportref3_Class0 a0) 6 then true
  else bif iEq (sallyportref3_Class0 a0) 9 then false else bif iEq (sallyportref3_Class0 a0) 11 then true else bif iEq (sallyportref3_Class0 a0) 12 then iEq a0 69 else false
def sallyportref3_Parts_c7 (a0 : Int) : Bool :=
  bif iEq (sallyportref3_Class0 a0) 5 then false else sallyportref3_Parts_c6 a0
def sallyportref3_Parts_c8 (a0 : Int) : Bool :=
  bif iEq (sallyportref3_Class0 a0) 3 then bif iEq (sallyportref3_Class0 a0) 3 then false else sallyportref3_Parts_c6 a0 else sallyportref3_Parts_c7 a0
def sallyportref3_Parts_c9 (a0 : Int) : Bool :=
  bif iEq (sallyportref3_Class0 a0) 3 then
    bif iEq (sallyportref3_Class0 a0) 3 then false
    else
      bif iEq (sallyportref3_Class0 a0) 6 then false
      else bif iEq (sallyportref3_Class0 a0) 9 then true else bif iEq (sallyportref3_Class0 a0) 11 then false else bif iEq (sallyportref3_Class0 a0) 12 then false else false
  else
    bif iEq (sallyportref3_Class0 a0) 5 then false
    else
      bif iEq (sallyportref3_Class0 a0) 6 then false
      else bif iEq (sallyportref3_Class0 a0) 9 then true else bif iEq (sallyportref3_Class0 a0) 11 then false else bif iEq (sallyportref3_Class0 a0) 12 then false else false
def sallyportref3_Parts_c10 (a0 : Int) : Bool :=
  bif iEq (sallyportref3_Class0 a0) 6 then false
  else bif iEq (sallyportref3_Class0 a0) 9 then iLe 57 a0 else bif iEq (sallyportref3_Class0 a0) 11 then false else bif iEq (sallyportref3_Class0 a0) 12 then false else false
def sallyportref3_Parts_c11 (a0 : Int) : Bool :=
  bif iEq (sallyportref3_Class0 a0) 3 then bif iEq (sallyportref3_Class0 a0) 3 then true else sallyportref3_Parts_c10 a0
  else bif iEq (sallyportref3_Class0 a0) 5 then true else sallyportref3_Parts_c10 a0
def sallyportref3_Parts0 (a0 : Int) : Bool :=
  bif iEq (sallyportref3_Class0 a0) 1 then true
  else bif iEq (sallyportref3_Class0 a0) 2 then false else bif iEq (sallyportref3_Class0 a0) 4 then false else bif iEq (sallyportref3_Class0 a0) 3 then true else sallyportref3_Parts_c2 a0
def sallyportref3_Parts0r (a0 : Int) : Bool :=
  bif iEq (sallyportref3_Class0 a0) 1 then true
  else
    bif iEq (sallyportref3_Class0 a0) 2 then bif iEq (sallyportref3_Class0 a0) 2 then false else sallyportref3_Parts_c3 a0
    else bif iEq (sallyportref3_Class0 a0) 4 then false else sallyportref3_Parts_c3 a0
def sallyportref3_Parts1 (a0 : Int) : Bool :=
  bif iEq (sallyportref3_Class0 a0) 1 then iEq a0 4
  else
    bif iEq (sallyportref3_Class0 a0) 2 then true
    else
      bif iEq (sallyportref3_Class0 a0) 4 then true
      else
        bif iEq (sallyportref3_Class0 a0) 3 then true
        else
          bif iEq (sallyportref3_Class0 a0) 5 then true
          else
            bif iEq (sallyportref3_Class0 a0) 6 then true
            else bif iEq (sallyportref3_Class0 a0) 9 then !iLe 57 a0 else bif iEq (sallyportref3_Class0 a0) 11 then true else iEq (sallyportref3_Class0 a0) 12
def sallyportref3_Parts1r (a0 : Int) : Bool :=
  bif iEq (sallyportref3_Class0 a0) 1 then iEq a0 4
  else
    bif iEq (sallyportref3_Class0 a0) 2 then bif iEq (sallyportref3_Class0 a0) 2 then true else sallyportref3_Parts_c5 a0
    else bif iEq (sallyportref3_Class0 a0) 4 then true else sallyportref3_Parts_c5 a0
def sallyportref3_Parts2 (a0 : Int) : Bool :=
  bif iEq (sallyportref3_Class0 a0) 1 then false
  else bif iEq (sallyportref3_Class0 a0) 2 then true else bif iEq (sallyportref3_Class0 a0) 4 then true else bif iEq (sallyportref3_Class0 a0) 3 then false else sallyportref3_Parts_c7 a0
def sallyportref3_Parts2r (a0 : Int) : Bool :=
  bif iEq (sallyportref3_Class0 a0) 1 then false
  else
    bif iEq (sallyportref3_Class0 a0) 2 then bif iEq (sallyportref3_Class0 a0) 2 then true else sallyportref3_Parts_c8 a0
    else bif iEq (sallyportref3_Class0 a0) 4 then true else sallyportref3_Parts_c8 a0
def sallyportref3_Parts3 (a0 : Int) : Bool :=
  bif iEq (sallyportref3_Class0 a0) 1 then false
  else
    bif iEq (sallyportref3_Class0 a0) 2 then false
    else
      bif iEq (sallyportref3_Class0 a0) 4 then false
      else bif iEq (sallyportref3_Class0 a0) 3 then false else bif iEq (sallyportref3_Class0 a0) 5 then false else bif iEq (sallyportref3_Class0 a0) 6 then false else iEq (sallyportref3_Class0 a0) 9
def sallyportref3_Parts3r (a0 : Int) : Bool :=
  bif iEq (sallyportref3_Class0 a0) 1 then false
  else
    bif iEq (sallyportref3_Class0 a0) 2 then bif iEq (sallyportref3_Class0 a0) 2 then false else sallyportref3_Parts_c9 a0
    else bif iEq (sallyportref3_Class0 a0) 4 then false else sallyportref3_Parts_c9 a0
def sallyportref3_Parts4 (a0 : Int) : Bool :=
  bif iEq (sallyportref3_Class0 a0) 1 then true
  else
    bif iEq (sallyportref3_Class0 a0) 2 then true
    else
      bif iEq (sallyportref3_Class0 a0) 4 then true
      else
        bif iEq (sallyportref3_Class0 a0) 3 then true
        else bif iEq (sallyportref3_Class0 a0) 5 then true else bif iEq (sallyportref3_Class0 a0) 6 then false else bif iEq (sallyportref3_Class0 a0) 9 then iLe 57 a0 else false
def sallyportref3_Parts4r (a0 : Int) : Bool :=
  bif iEq (sallyportref3_Class0 a0) 1 then true
  else
    bif iEq (sallyportref3_Class0 a0) 2 then bif iEq (sallyportref3_Class0 a0) 2 then true else sallyportref3_Parts_c11 a0
    else bif iEq (sallyportref3_Class0 a0) 4 then true else sallyportref3_Parts_c11 a0
def sallyportref3_PartsG (a0 : Int) : Bool :=
  bif iEq (sallyportref3_Class0 a0) 1 then true
  else
    bif iEq (sallyportref3_Class0 a0) 2 then bif iEq (sallyportref3_Class0 a0) 2 then true else sallyportref3_Parts_c0 a0
    else bif iEq (sallyportref3_Class0 a0) 4 then true else sallyportref3_Parts_c0 a0
theorem sallyportref3_Parts0_eq (a0 : Int)  : sallyportref3_Parts0r a0  = sallyportref3_Parts0 a0  := by
  unfold sallyportref3_Parts0r
  first | (simp only [sallyportref3_Parts_c0, sallyportref3_Parts_c1, sallyportref3_Parts_c2, sallyportref3_Parts_c3, sallyportref3_Parts_c4, sallyportref3_Parts_c5, sallyportref3_Parts_c6, sallyportref3_Parts_c7, sallyportref3_Parts_c8, sallyportref3_Parts_c9, sallyportref3_Parts_c10, sallyportref3_Parts_c11, Go.Ev.cS1, Go.Ev.cS2, Go.Ev.cS3, Go.Ev.cS4, Go.Ev.cS6, Go.Ev.cS7]; done) | (simp only [sallyportref3_Parts_c0, sallyportref3_Parts_c1, sallyportref3_Parts_c2, sallyportref3_Parts_c3, sallyportref3_Parts_c4, sallyportref3_Parts_c5, sallyportref3_Parts_c6, sallyportref3_Parts_c7, sallyportref3_Parts_c8, sallyportref3_Parts_c9, sallyportref3_Parts_c10, sallyportref3_Parts_c11, Go.Ev.cS1, Go.Ev.cS2, Go.Ev.cS3, Go.Ev.cS4, Go.Ev.cS6, Go.Ev.cS7]; kernel_rfl)
theorem sallyportref3_Parts1_eq (a0 : Int)  : sallyportref3_Parts1r a0  = sallyportref3_Parts1 a0  := by
  unfold sallyportref3_Parts1r
  first | (simp only [sallyportref3_Parts_c0, sallyportref3_Parts_c1, sallyportref3_Parts_c2, sallyportref3_Parts_c3, sallyportref3_Parts_c4, sallyportref3_Parts_c5, sallyportref3_Parts_c6, sallyportref3_Parts_c7, sallyportref3_Parts_c8, sallyportref3_Parts_c9, sallyportref3_Parts_c10, sallyportref3_Parts_c11, Go.Ev.cS1, Go.Ev.cS2, Go.Ev.cS3, Go.Ev.cS4, Go.Ev.cS6, Go.Ev.cS7]; done) | (simp only [sallyportref3_Parts_c0, sallyportref3_Parts_c1, sallyportref3_Parts_c2, sallyportref3_Parts_c3, sallyportref3_Parts_c4, sallyportref3_Parts_c5, sallyportref3_Parts_c6, sallyportref3_Parts_c7, sallyportref3_Parts_c8, sallyportref3_Parts_c9, sallyportref3_Parts_c10, sallyportref3_Parts_c11, Go.Ev.cS1, Go.Ev.cS2, Go.Ev.cS3, Go.Ev.cS4, Go.Ev.cS6, Go.Ev.cS7]; kernel_rfl)
theorem sallyportref3_Parts2_eq (a0 : Int)  : sallyportref3_Parts2r a0  = sallyportref3_Parts2 a0  := by
  unfold sallyportref3_Parts2r
  first | (simp only [sallyportref3_Parts_c0, sallyportref3_Parts_c1, sallyportref3_Parts_c2, sallyportref3_Parts_c3, sallyportref3_Parts_c4, sallyportref3_Parts_c5, sallyportref3_Parts_c6, sallyportref3_Parts_c7, sallyportref3_Parts_c8, sallyportref3_Parts_c9, sallyportref3_Parts_c10, sallyportref3_Parts_c11, Go.Ev.cS1, Go.Ev.cS2, Go.Ev.cS3, Go.Ev.cS4, Go.Ev.cS6, Go.Ev.cS7]; done) | (simp only [sallyportref3_Parts_c0, sallyportref3_Parts_c1, sallyportref3_Parts_c2, sallyportref3_Parts_c3, sallyportref3_Parts_c4, sallyportref3_Parts_c5, sallyportref3_Parts_c6, sallyportref3_Parts_c7, sallyportref3_Parts_c8, sallyportref3_Parts_c9, sallyportref3_Parts_c10, sallyportref3_Parts_c11, Go.Ev.cS1, Go.Ev.cS2, Go.Ev.cS3, Go.Ev.cS4, Go.Ev.cS6, Go.Ev.cS7]; kernel_rfl)
theorem sallyportref3_Parts3_eq (a0 : Int)  : sallyportref3_Parts3r a0  = sallyportref3_Parts3 a0  := by
  unfold sallyportref3_Parts3r
  first | (simp only [sallyportref3_Parts_c0, sallyportref3_Parts_c1, sallyportref3_Parts_c2, sallyportref3_Parts_c3, sallyportref3_Parts_c4, sallyportref3_Parts_c5, sallyportref3_Parts_c6, sallyportref3_Parts_c7, sallyportref3_Parts_c8, sallyportref3_Parts_c9, sallyportref3_Parts_c10, sallyportref3_Parts_c11, Go.Ev.cS1, Go.Ev.cS2, Go.Ev.cS3, Go.Ev.cS4, Go.Ev.cS6, Go.Ev.cS7]; done) | (simp only [sallyportref3_Parts_c0, sallyportref3_Parts_c1, sallyportref3_Parts_c2, sallyportref3_Parts_c3, sallyportref3_Parts_c4, sallyportref3_Parts_c5, sallyportref3_Parts_c6, sallyportref3_Parts_c7, sallyportref3_Parts_c8, sallyportref3_Parts_c9, sallyportref3_Parts_c10, sallyportref3_Parts_c11, Go.Ev.cS1, Go.Ev.cS2, Go.Ev.cS3, Go.Ev.cS4, Go.Ev.cS6, Go.Ev.cS7]; kernel_rfl)
theorem sallyportref3_Parts4_eq (a0 : Int)  : sallyportref3_Parts4r a0  = sallyportref3_Parts4 a0  := by
  unfold sallyportref3_Parts4r
  first | (simp only [sallyportref3_Parts_c0, sallyportref3_Parts_c1, sallyportref3_Parts_c2, sallyportref3_Parts_c3, sallyportref3_Parts_c4, sallyportref3_Parts_c5, sallyportref3_Parts_c6, sallyportref3_Parts_c7, sallyportref3_Parts_c8, sallyportref3_Parts_c9, sallyportref3_Parts_c10, sallyportref3_Parts_c11, Go.Ev.cS1, Go.Ev.cS2, Go.Ev.cS3, Go.Ev.cS4, Go.Ev.cS6, Go.Ev.cS7]; done) | (simp only [sallyportref3_Parts_c0, sallyportref3_Parts_c1, sallyportref3_Parts_c2, sallyportref3_Parts_c3, sallyportref3_Parts_c4, sallyportref3_Parts_c5, sallyportref3_Parts_c6, sallyportref3_Parts_c7, sallyportref3_Parts_c8, sallyportref3_Parts_c9, sallyportref3_Parts_c10, sallyportref3_Parts_c11, Go.Ev.cS1, Go.Ev.cS2, Go.Ev.cS3, Go.Ev.cS4, Go.Ev.cS6, Go.Ev.cS7]; kernel_rfl)
def sallyportref3_PartsV (a0 : Int) : AV := .tup [.bl (sallyportref3_Parts0 a0), .bl (sallyportref3_Parts1 a0), .bl (sallyportref3_Parts2 a0), .bl (sallyportref3_Parts3 a0), .bl (sallyportref3_Parts4 a0)]
def sallyportref3_PartsVr (a0 : Int) : AV := .tup [.bl (sallyportref3_Parts0r a0), .bl (sallyportref3_Parts1r a0), .bl (sallyportref3_Parts2r a0), .bl (sallyportref3_Parts3r a0), .bl (sallyportref3_Parts4r a0)]
theorem sallyportref3_PartsV_eq (a0 : Int) : sallyportref3_PartsVr a0 = sallyportref3_PartsV a0 := by
  unfold sallyportref3_PartsVr sallyportref3_PartsV
  simp only [sallyportref3_Parts0_eq, sallyportref3_Parts1_eq, sallyportref3_Parts2_eq, sallyportref3_Parts3_eq, sallyportref3_Parts4_eq]
theorem sallyportref3_PartsE (g : Nat → AV) : pcOf Try.prog okT (lookR T44) (inl Try.prog okT (lookR T44) RO FS 100 ST 2) RO NOV 100 false Try.f55 (norms [(.int .i64)] 0 g) = some (sallyportref3_PartsG ((g 0).num), sallyportref3_PartsV ((g 0).num)) :=
  (by kernel_rfl : pcOf Try.prog okT (lookR T44) (inl Try.prog okT (lookR T44) RO FS 100 ST 2) RO NOV 100 false Try.f55 (norms [(.int .i64)] 0 g) = some (sallyportref3_PartsG ((g 0).num), sallyportref3_PartsVr ((g 0).num))).trans (by rw [sallyportref3_PartsV_eq])
theorem sallyportref3_PartsP : Plain Try.prog 55 Try.f55 := ⟨Try.func55, of_decide_eq_true (by kernel_rfl)⟩
theorem sallyportref3_PartsT (a0 : Int) : sallyportref3_PartsG a0 = true := by
  unfold sallyportref3_PartsG
  simp only [sallyportref3_Parts_c0, sallyportref3_Parts_c1, sallyportref3_Parts_c2, sallyportref3_Parts_c3, sallyportref3_Parts_c4, sallyportref3_Parts_c5, sallyportref3_Parts_c6, sallyportref3_Parts_c7, sallyportref3_Parts_c8, sallyportref3_Parts_c9, sallyportref3_Parts_c10, sallyportref3_Parts_c11, Go.Ev.cS1, Go.Ev.cS2, Go.Ev.cS3, Go.Ev.cS4, Go.Ev.cS6, Go.Ev.cS7]
theorem sallyportref3_PartsO : RowOk Try.prog 55 (rowF [(.int .i64)] none fun g => sallyportref3_PartsV ((g 0).num)) := rowT_ok fun g => pcOf_ok mix fair T44_ok (inl_ok mix fair T44_ok FS_ok 2) sallyportref3_PartsP (fun c _ => OvOk_none c) (sallyportref3_PartsE g) (sallyportref3_PartsT ((g 0).num))
def T55 : List Row := (55, (rowF [(.int .i64)] none fun g => sallyportref3_PartsV ((g 0).num))) :: T44
theorem T55_ok : PSound Try.prog (lookR T55) := lookR_cons sallyportref3_PartsO T44_ok

/- sallyport/sallyportref3.reg -/
def sallyportref3_reg0 (a0 : Int) (a1 : Bool) : Bool :=
  bif iEq a0 0 then true else bif bif a1 then iLt 0 a0 else false then iLt a0 32 else false
def sallyportref3_regG (a0 : Int) (a1 : Bool) : Bool :=
  true
def sallyportref3_regV (a0 : Int) (a1 : Bool) : AV := .bl (sallyportref3_reg0 a0 a1)
theorem sallyportref3_regE (g : Nat → AV) : pcOf Try.prog okT (lookR T55) (inl Try.prog okT (lookR T55) RO FS 100 ST 2) RO NOV 100 false Try.f56 (norms [(.int .i64), .bool] 0 g) = some (sallyportref3_regG ((g 0).num) ((g 1).bool), sallyportref3_regV ((g 0).num) ((g 1).bool)) := by kernel_rfl
theorem sallyportref3_regP : Plain Try.prog 56 Try.f56 := ⟨Try.func56, of_decide_eq_true (by kernel_rfl)⟩
theorem sallyportref3_regT (a0 : Int) (a1 : Bool) : sallyportref3_regG a0 a1 = true := rfl
theorem sallyportref3_regO : RowOk Try.prog 56 (rowF [(.int .i64), .bool] none fun g => sallyportref3_regV ((g 0).num) ((g 1).bool)) := rowT_ok fun g => pcOf_ok mix fair T55_ok (inl_ok mix fair T55_ok FS_ok 2) sallyportref3_regP (fun c _ => OvOk_none c) (sallyportref3_regE g) (sallyportref3_regT ((g 0).num) ((g 1).bool))
def T56 : List Row := (56, (rowF [(.int .i64), .bool] none fun g => sallyportref3_regV ((g 0).num) ((g 1).bool))) :: T55
theorem T56_ok : PSound Try.prog (lookR T56) := lookR_cons sallyportref3_regO T55_ok

/- sallyport/sallyportref3.within -/
def sallyportref3_within0 (a0 : Int) (a1 : Int) (a2 : Int) (a3 : Int) : Bool :=
  bif bif iLe a1 a0 then iLe a0 a2 else false then iEq (iRem a0 a3) 0 else false
def sallyportref3_withinG (a0 : Int) (a1 : Int) (a2 : Int) (a3 : Int) : Bool :=
  ((!bif iLe a1 a0 then iLe a0 a2 else false) || iNe a3 0) && true
def sallyportref3_withinV (a0 : Int) (a1 : Int) (a2 : Int) (a3 : Int) : AV := .bl (sallyportref3_within0 a0 a1 a2 a3)
theorem sallyportref3_withinE (g : Nat → AV) : pcOf Try.prog okT (lookR T56) (inl Try.prog okT (lookR T56) RO FS 100 ST 2) RO NOV 100 false Try.f62 (norms [(.int .i64), (.int .i64), (.int .i64), (.int .i64)] 0 g) = some (sallyportref3_withinG ((g 0).num) ((g 1).num) ((g 2).num) ((g 3).num), sallyportref3_withinV ((g 0).num) ((g 1).num) ((g 2).num) ((g 3).num)) := by kernel_rfl
theorem sallyportref3_withinP : Plain Try.prog 62 Try.f62 := ⟨Try.func62, of_decide_eq_true (by kernel_rfl)⟩
theorem sallyportref3_withinO : RowOk Try.prog 62 (rowF [(.int .i64), (.int .i64), (.int .i64), (.int .i64)] (some fun g => sallyportref3_withinG ((g 0).num) ((g 1).num) ((g 2).num) ((g 3).num)) fun g => sallyportref3_withinV ((g 0).num) ((g 1).num) ((g 2).num) ((g 3).num)) := rowF_ok fun g hg => pcOf_ok mix fair T56_ok (inl_ok mix fair T56_ok FS_ok 2) sallyportref3_withinP (fun c _ => OvOk_none c) (sallyportref3_withinE g) hg
def T62 : List Row := (62, (rowF [(.int .i64), (.int .i64), (.int .i64), (.int .i64)] (some fun g => sallyportref3_withinG ((g 0).num) ((g 1).num) ((g 2).num) ((g 3).num)) fun g => sallyportref3_withinV ((g 0).num) ((g 1).num) ((g 2).num) ((g 3).num))) :: T56
theorem T62_ok : PSound Try.prog (lookR T62) := lookR_cons sallyportref3_withinO T56_ok

/- sallyport/sallyportref3.number -/
def sallyportref3_number0 (a0_Op : Int) (a0_Rd : Int) (a0_Rs1 : Int) (a0_Rs2 : Int) (a0_Imm : Int) (a0_CSR : Int) : Bool :=
  bif iLe a0_Op 2 then sallyportref3_within0 a0_Imm (-2147483648) 2147479552 4096
  else
    bif iEq a0_Op 3 then sallyportref3_within0 a0_Imm (-1048576) 1048574 2
    else
      bif iEq (sallyportref3_Class0 a0_Op) 2 then sallyportref3_within0 a0_Imm (-4096) 4094 2
      else
        bif bif iLe 28 a0_Op then iLe a0_Op 30 else false then sallyportref3_within0 a0_Imm 0 63 1
        else
          bif bif bif iLe 32 a0_Op then iLe a0_Op 34 else false then true else iEq (sallyportref3_Class0 a0_Op) 9 then sallyportref3_within0 a0_Imm 0 31 1
          else sallyportref3_within0 a0_Imm (-2048) 2047 1
def sallyportref3_numberG (a0_Op : Int) (a0_Rd : Int) (a0_Rs1 : Int) (a0_Rs2 : Int) (a0_Imm : Int) (a0_CSR : Int) : Bool :=
  bif iLe a0_Op 2 then sallyportref3_withinG a0_Imm (-2147483648) 2147479552 4096 && true
  else
    bif iEq a0_Op 3 then sallyportref3_withinG a0_Imm (-1048576) 1048574 2 && true
    else
      bif iEq (sallyportref3_Class0 a0_Op) 2 then sallyportref3_withinG a0_Imm (-4096) 4094 2 && true
      else
        bif bif iLe 28 a0_Op then iLe a0_Op 30 else false then sallyportref3_withinG a0_Imm 0 63 1 && true
        else
          bif bif bif iLe 32 a0_Op then iLe a0_Op 34 else false then true else iEq (sallyportref3_Class0 a0_Op) 9 then sallyportref3_withinG a0_Imm 0 31 1 && true
          else sallyportref3_withinG a0_Imm (-2048) 2047 1 && true
def sallyportref3_numberV (a0_Op : Int) (a0_Rd : Int) (a0_Rs1 : Int) (a0_Rs2 : Int) (a0_Imm : Int) (a0_CSR : Int) : AV := .bl (sallyportref3_number0 a0_Op a0_Rd a0_Rs1 a0_Rs2 a0_Imm a0_CSR)
theorem sallyportref3_numberE (g : Nat → AV) : pcOf Try.prog okT (lookR T62) (inl Try.prog okT (lookR T62) RO FS 100 ST 2) RO NOV 100 false Try.f57 (norms [(.agg [(.int .i64), (.int .i64), (.int .i64), (.int .i64), (.int .i64), (.int .i64)])] 0 g) = some (sallyportref3_numberG (((g 0).fld 0).num) (((g 0).fld 1).num) (((g 0).fld 2).num) (((g 0).fld 3).num) (((g 0).fld 4).num) (((g 0).fld 5).num), sallyportref3_numberV (((g 0).fld 0).num) (((g 0).fld 1).num) (((g 0).fld 2).num) (((g 0).fld 3).num) (((g 0).fld 4).num) (((g 0).fld 5).num)) := by kernel_rfl
theorem sallyportref3_numberP : Plain Try.prog 57 Try.f57 := ⟨Try.func57, of_decide_eq_true (by kernel_rfl)⟩
theorem sallyportref3_numberT (a0_Op : Int) (a0_Rd : Int) (a0_Rs1 : Int) (a0_Rs2 : Int) (a0_Imm : Int) (a0_CSR : Int) : sallyportref3_numberG a0_Op a0_Rd a0_Rs1 a0_Rs2 a0_Imm a0_CSR = true := by simp [sallyportref3_numberG, sallyportref3_withinG, Go.Ev.iNe]
theorem sallyportref3_numberO : RowOk Try.prog 57 (rowF [(.agg [(.int .i64), (.int .i64), (.int .i64), (.int .i64), (.int .i64), (.int .i64)])] none fun g => sallyportref3_numberV (((g 0).fld 0).num) (((g 0).fld 1).num) (((g 0).fld 2).num) (((g 0).fld 3).num) (((g 0).fld 4).num) (((g 0).fld 5).num)) := rowT_ok fun g => pcOf_ok mix fair T62_ok (inl_ok mix fair T62_ok FS_ok 2) sallyportref3_numberP (fun c _ => OvOk_none c) (sallyportref3_numberE g) (sallyportref3_numberT (((g 0).fld 0).num) (((g 0).fld 1).num) (((g 0).fld 2).num) (((g 0).fld 3).num) (((g 0).fld 4).num) (((g 0).fld 5).num))
def T57 : List Row := (57, (rowF [(.agg [(.int .i64), (.int .i64), (.int .i64), (.int .i64), (.int .i64), (.int .i64)])] none fun g => sallyportref3_numberV (((g 0).fld 0).num) (((g 0).fld 1).num) (((g 0).fld 2).num) (((g 0).fld 3).num) (((g 0).fld 4).num) (((g 0).fld 5).num))) :: T62
theorem T57_ok : PSound Try.prog (lookR T57) := lookR_cons sallyportref3_numberO T62_ok

/- sallyport/sallyportref3.Is -/
def sallyportref3_Is0 (a0_Op : Int) (a0_Rd : Int) (a0_Rs1 : Int) (a0_Rs2 : Int) (a0_Imm : Int) (a0_CSR : Int) : Bool :=
  bif iEq (sallyportref3_Class0 a0_Op) 0 then false
  else
    bif
        bif
            bif bif !sallyportref3_reg0 a0_Rd (sallyportref3_Parts0 a0_Op) then true else !sallyportref3_reg0 a0_Rs1 (sallyportref3_Parts1 a0_Op) then true
            else !sallyportref3_reg0 a0_Rs2 (sallyportref3_Parts2 a0_Op) then
          true
        else bif iNe a0_CSR 0 then bif bif !sallyportref3_Parts3 a0_Op then true else iLt a0_CSR 0 then true else iLt 4095 a0_CSR else false then
      false
    else bif !sallyportref3_Parts4 a0_Op then iEq a0_Imm 0 else sallyportref3_number0 a0_Op a0_Rd a0_Rs1 a0_Rs2 a0_Imm a0_CSR
def sallyportref3_IsG (a0_Op : Int) (a0_Rd : Int) (a0_Rs1 : Int) (a0_Rs2 : Int) (a0_Imm : Int) (a0_CSR : Int) : Bool :=
  bif iEq (sallyportref3_Class0 a0_Op) 0 then true
  else
    bif
        bif
            bif bif !sallyportref3_reg0 a0_Rd (sallyportref3_Parts0 a0_Op) then true else !sallyportref3_reg0 a0_Rs1 (sallyportref3_Parts1 a0_Op) then true
            else !sallyportref3_reg0 a0_Rs2 (sallyportref3_Parts2 a0_Op) then
          true
        else bif iNe a0_CSR 0 then bif bif !sallyportref3_Parts3 a0_Op then true else iLt a0_CSR 0 then true else iLt 4095 a0_CSR else false then
      true
    else bif !sallyportref3_Parts4 a0_Op then true else true
def sallyportref3_IsV (a0_Op : Int) (a0_Rd : Int) (a0_Rs1 : Int) (a0_Rs2 : Int) (a0_Imm : Int) (a0_CSR : Int) : AV := .bl (sallyportref3_Is0 a0_Op a0_Rd a0_Rs1 a0_Rs2 a0_Imm a0_CSR)
theorem sallyportref3_IsE (g : Nat → AV) : pcOf Try.prog okT (lookR T57) (inl Try.prog okT (lookR T57) RO FS 100 ST 2) RO NOV 100 false Try.f42 (norms [(.agg [(.int .i64), (.int .i64), (.int .i64), (.int .i64), (.int .i64), (.int .i64)])] 0 g) = some (sallyportref3_IsG (((g 0).fld 0).num) (((g 0).fld 1).num) (((g 0).fld 2).num) (((g 0).fld 3).num) (((g 0).fld 4).num) (((g 0).fld 5).num), sallyportref3_IsV (((g 0).fld 0).num) (((g 0).fld 1).num) (((g 0).fld 2).num) (((g 0).fld 3).num) (((g 0).fld 4).num) (((g 0).fld 5).num)) := by kernel_rfl
theorem sallyportref3_IsP : Plain Try.prog 42 Try.f42 := ⟨Try.func42, of_decide_eq_true (by kernel_rfl)⟩
theorem sallyportref3_IsT (a0_Op : Int) (a0_Rd : Int) (a0_Rs1 : Int) (a0_Rs2 : Int) (a0_Imm : Int) (a0_CSR : Int) : sallyportref3_IsG a0_Op a0_Rd a0_Rs1 a0_Rs2 a0_Imm a0_CSR = true := by
  unfold sallyportref3_IsG
  simp only [Go.Ev.cS1, Go.Ev.cS2, Go.Ev.cS3, Go.Ev.cS4, Go.Ev.cS6, Go.Ev.cS7]
theorem sallyportref3_IsO : RowOk Try.prog 42 (rowF [(.agg [(.int .i64), (.int .i64), (.int .i64), (.int .i64), (.int .i64), (.int .i64)])] none fun g => sallyportref3_IsV (((g 0).fld 0).num) (((g 0).fld 1).num) (((g 0).fld 2).num) (((g 0).fld 3).num) (((g 0).fld 4).num) (((g 0).fld 5).num)) := rowT_ok fun g => pcOf_ok mix fair T57_ok (inl_ok mix fair T57_ok FS_ok 2) sallyportref3_IsP (fun c _ => OvOk_none c) (sallyportref3_IsE g) (sallyportref3_IsT (((g 0).fld 0).num) (((g 0).fld 1).num) (((g 0).fld 2).num) (((g 0).fld 3).num) (((g 0).fld 4).num) (((g 0).fld 5).num))
def T42 : List Row := (42, (rowF [(.agg [(.int .i64), (.int .i64), (.int .i64), (.int .i64), (.int .i64), (.int .i64)])] none fun g => sallyportref3_IsV (((g 0).fld 0).num) (((g 0).fld 1).num) (((g 0).fld 2).num) (((g 0).fld 3).num) (((g 0).fld 4).num) (((g 0).fld 5).num))) :: T57
theorem T42_ok : PSound Try.prog (lookR T42) := lookR_cons sallyportref3_IsO T57_ok

/- sallyport/sallyportref8.Level -/
def sallyportref8_Level0 (a0_X : Nat → Int) (a0_PC : Int) (a0_Level : Int) (a0_V : Bool) (a0_C : Nat → Int) (a0_Done : Int) : Int :=
  bif bif iNe a0_Level 0 then iNe a0_Level 1 else false then 3 else bif a0_V then iAdd IntKind.i64 4 a0_Level else a0_Level
def sallyportref8_LevelG (a0_X : Nat → Int) (a0_PC : Int) (a0_Level : Int) (a0_V : Bool) (a0_C : Nat → Int) (a0_Done : Int) : Bool :=
  bif bif iNe a0_Level 0 then iNe a0_Level 1 else false then true else bif a0_V then true else true
def sallyportref8_LevelV (a0_X : Nat → Int) (a0_PC : Int) (a0_Level : Int) (a0_V : Bool) (a0_C : Nat → Int) (a0_Done : Int) : AV := .it .i64 (sallyportref8_Level0 a0_X a0_PC a0_Level a0_V a0_C a0_Done)
theorem sallyportref8_LevelE (g : Nat → AV) : pcOf Try.prog okT (lookR T42) (inl Try.prog okT (lookR T42) RO FS 100 ST 2) RO NOV 100 false Try.f43 (norms [(.agg [(.arr 32 (.int .u64)), (.int .u64), (.int .i64), .bool, (.arr 29 (.int .u64)), (.int .u64)])] 0 g) = some (sallyportref8_LevelG (fun i0 => (((g 0).fld 0).ix i0).num) (((g 0).fld 1).num) (((g 0).fld 2).num) (((g 0).fld 3).bool) (fun i0 => (((g 0).fld 4).ix i0).num) (((g 0).fld 5).num), sallyportref8_LevelV (fun i0 => (((g 0).fld 0).ix i0).num) (((g 0).fld 1).num) (((g 0).fld 2).num) (((g 0).fld 3).bool) (fun i0 => (((g 0).fld 4).ix i0).num) (((g 0).fld 5).num)) := by kernel_rfl
theorem sallyportref8_LevelP : Plain Try.prog 43 Try.f43 := ⟨Try.func43, of_decide_eq_true (by kernel_rfl)⟩
theorem sallyportref8_LevelT (a0_X : Nat → Int) (a0_PC : Int) (a0_Level : Int) (a0_V : Bool) (a0_C : Nat → Int) (a0_Done : Int) : sallyportref8_LevelG a0_X a0_PC a0_Level a0_V a0_C a0_Done = true := by
  unfold sallyportref8_LevelG
  simp only [Go.Ev.cS1, Go.Ev.cS2, Go.Ev.cS3, Go.Ev.cS4, Go.Ev.cS6, Go.Ev.cS7]
theorem sallyportref8_LevelO : RowOk Try.prog 43 (rowF [(.agg [(.arr 32 (.int .u64)), (.int .u64), (.int .i64), .bool, (.arr 29 (.int .u64)), (.int .u64)])] none fun g => sallyportref8_LevelV (fun i0 => (((g 0).fld 0).ix i0).num) (((g 0).fld 1).num) (((g 0).fld 2).num) (((g 0).fld 3).bool) (fun i0 => (((g 0).fld 4).ix i0).num) (((g 0).fld 5).num)) := rowT_ok fun g => pcOf_ok mix fair T42_ok (inl_ok mix fair T42_ok FS_ok 2) sallyportref8_LevelP (fun c _ => OvOk_none c) (sallyportref8_LevelE g) (sallyportref8_LevelT (fun i0 => (((g 0).fld 0).ix i0).num) (((g 0).fld 1).num) (((g 0).fld 2).num) (((g 0).fld 3).bool) (fun i0 => (((g 0).fld 4).ix i0).num) (((g 0).fld 5).num))
def T43 : List Row := (43, (rowF [(.agg [(.arr 32 (.int .u64)), (.int .u64), (.int .i64), .bool, (.arr 29 (.int .u64)), (.int .u64)])] none fun g => sallyportref8_LevelV (fun i0 => (((g 0).fld 0).ix i0).num) (((g 0).fld 1).num) (((g 0).fld 2).num) (((g 0).fld 3).bool) (fun i0 => (((g 0).fld 4).ix i0).num) (((g 0).fld 5).num))) :: T42
theorem T43_ok : PSound Try.prog (lookR T43) := lookR_cons sallyportref8_LevelO T42_ok

/- sallyport/sallyportref8.Writes -/
def sallyportref8_Writes0 (a0_Op : Int) (a0_Rd : Int) (a0_Rs1 : Int) (a0_Rs2 : Int) (a0_Imm : Int) (a0_CSR : Int) : Bool :=
  bif bif bif iEq a0_Op 54 then true else iEq a0_Op 57 then true else iNe a0_Rs1 0 then true else iNe a0_Imm 0
def sallyportref8_WritesG (a0_Op : Int) (a0_Rd : Int) (a0_Rs1 : Int) (a0_Rs2 : Int) (a0_Imm : Int) (a0_CSR : Int) : Bool :=
  true
def sallyportref8_WritesV (a0_Op : Int) (a0_Rd : Int) (a0_Rs1 : Int) (a0_Rs2 : Int) (a0_Imm : Int) (a0_CSR : Int) : AV := .bl (sallyportref8_Writes0 a0_Op a0_Rd a0_Rs1 a0_Rs2 a0_Imm a0_CSR)
theorem sallyportref8_WritesE (g : Nat → AV) : pcOf Try.prog okT (lookR T43) (inl Try.prog okT (lookR T43) RO FS 100 ST 2) RO NOV 100 false Try.f46 (norms [(.agg [(.int .i64), (.int .i64), (.int .i64), (.int .i64), (.int .i64), (.int .i64)])] 0 g) = some (sallyportref8_WritesG (((g 0).fld 0).num) (((g 0).fld 1).num) (((g 0).fld 2).num) (((g 0).fld 3).num) (((g 0).fld 4).num) (((g 0).fld 5).num), sallyportref8_WritesV (((g 0).fld 0).num) (((g 0).fld 1).num) (((g 0).fld 2).num) (((g 0).fld 3).num) (((g 0).fld 4).num) (((g 0).fld 5).num)) := by kernel_rfl
theorem sallyportref8_WritesP : Plain Try.prog 46 Try.f46 := ⟨Try.func46, of_decide_eq_true (by kernel_rfl)⟩
theorem sallyportref8_WritesT (a0_Op : Int) (a0_Rd : Int) (a0_Rs1 : Int) (a0_Rs2 : Int) (a0_Imm : Int) (a0_CSR : Int) : sallyportref8_WritesG a0_Op a0_Rd a0_Rs1 a0_Rs2 a0_Imm a0_CSR = true := rfl
theorem sallyportref8_WritesO : RowOk Try.prog 46 (rowF [(.agg [(.int .i64), (.int .i64), (.int .i64), (.int .i64), (.int .i64), (.int .i64)])] none fun g => sallyportref8_WritesV (((g 0).fld 0).num) (((g 0).fld 1).num) (((g 0).fld 2).num) (((g 0).fld 3).num) (((g 0).fld 4).num) (((g 0).fld 5).num)) := rowT_ok fun g => pcOf_ok mix fair T43_ok (inl_ok mix fair T43_ok FS_ok 2) sallyportref8_WritesP (fun c _ => OvOk_none c) (sallyportref8_WritesE g) (sallyportref8_WritesT (((g 0).fld 0).num) (((g 0).fld 1).num) (((g 0).fld 2).num) (((g 0).fld 3).num) (((g 0).fld 4).num) (((g 0).fld 5).num))
def T46 : List Row := (46, (rowF [(.agg [(.int .i64), (.int .i64), (.int .i64), (.int .i64), (.int .i64), (.int .i64)])] none fun g => sallyportref8_WritesV (((g 0).fld 0).num) (((g 0).fld 1).num) (((g 0).fld 2).num) (((g 0).fld 3).num) (((g 0).fld 4).num) (((g 0).fld 5).num))) :: T43
theorem T46_ok : PSound Try.prog (lookR T46) := lookR_cons sallyportref8_WritesO T43_ok

/- sallyport/sallyportref8.Number -/
def sallyportref8_Number0 (a0 : Int) : Int :=
  bif bif iLt a0 0 then true else iLe 29 a0 then -1
  else
    bif a0.toNat == 28 then 640
    else
      bif a0.toNat == 27 then 579
      else
        bif a0.toNat == 26 then 578
        else
          bif a0.toNat == 25 then 577
          else
            bif a0.toNat == 24 then 576
            else
              bif a0.toNat == 23 then 517
              else
                bif a0.toNat == 22 then 512
                else
                  bif a0.toNat == 21 then 1664
                  else
                    bif a0.toNat == 20 then 1603
                    else
                      bif a0.toNat == 19 then 1605
                      else
                        bif a0.toNat == 18 then 1539
                        else
                          bif a0.toNat == 17 then 1538
                          else
                            bif a0.toNat == 16 then 1536
                            else
                              bif a0.toNat == 15 then 384
                              else
                                bif a0.toNat == 14 then 323
                                else
                                  bif a0.toNat == 13 then 322
                                  else
                                    bif a0.toNat == 12 then 321
                                    else
                                      bif a0.toNat == 11 then 320
                                      else
                                        bif a0.toNat == 10 then 261
                                        else
                                          bif a0.toNat == 9 then 843
                                          else
                                            bif a0.toNat == 8 then 835
                                            else
                                              bif a0.toNat == 7 then 834
                                              else
                                                bif a0.toNat == 6 then 833
                                                else
                                                  bif a0.toNat == 5 then 832
                                                  else
                                                    bif a0.toNat == 4 then 773
                                                    else bif a0.toNat == 3 then 772 else bif a0.toNat == 2 then 771 else bif a0.toNat == 1 then 770 else bif a0.toNat == 0 then 768 else 0
def sallyportref8_NumberG (a0 : Int) : Bool :=
  bif bif iLt a0 0 then true else iLe 29 a0 then true else iIn a0 29 && true
def sallyportref8_NumberV (a0 : Int) : AV := .it .i64 (sallyportref8_Number0 a0)
theorem sallyportref8_NumberE (g : Nat → AV) : pcOf Try.prog okT (lookR T46) (inl Try.prog okT (lookR T46) RO FS 100 ST 2) RO NOV 100 false Try.f65 (norms [(.int .i64)] 0 g) = some (sallyportref8_NumberG ((g 0).num), sallyportref8_NumberV ((g 0).num)) := by kernel_rfl
theorem sallyportref8_NumberP : Plain Try.prog 65 Try.f65 := ⟨Try.func65, of_decide_eq_true (by kernel_rfl)⟩
theorem sallyportref8_NumberT (a0 : Int) : sallyportref8_NumberG a0 = true := by
  unfold sallyportref8_NumberG
  cases h1 : iLt a0 0 with
  | true => simp
  | false =>
    cases h2 : iLe 29 a0 with
    | true => simp
    | false => rw [iIn_true.2 ⟨iLt_false.1 h1, iLe_false.1 h2⟩]; simp
theorem sallyportref8_NumberO : RowOk Try.prog 65 (rowF [(.int .i64)] none fun g => sallyportref8_NumberV ((g 0).num)) := rowT_ok fun g => pcOf_ok mix fair T46_ok (inl_ok mix fair T46_ok FS_ok 2) sallyportref8_NumberP (fun c _ => OvOk_none c) (sallyportref8_NumberE g) (sallyportref8_NumberT ((g 0).num))
def T65 : List Row := (65, (rowF [(.int .i64)] none fun g => sallyportref8_NumberV ((g 0).num))) :: T46
theorem T65_ok : PSound Try.prog (lookR T65) := lookR_cons sallyportref8_NumberO T46_ok

/- sallyport/sallyportref8.Index -/
def sallyportref8_Index0 (a0 : Int) : Int :=
  bif iEq 768 a0 then 0
  else
    bif iEq 770 a0 then 1
    else
      bif iEq 771 a0 then 2
      else
        bif iEq 772 a0 then 3
        else
          bif iEq 773 a0 then 4
          else
            bif iEq 832 a0 then 5
            else
              bif iEq 833 a0 then 6
              else
                bif iEq 834 a0 then 7
                else
                  bif iEq 835 a0 then 8
                  else
                    bif iEq 843 a0 then 9
                    else
                      bif iEq 261 a0 then 10
                      else
                        bif iEq 320 a0 then 11
                        else
                          bif iEq 321 a0 then 12
                          else
                            bif iEq 322 a0 then 13
                            else
                              bif iEq 323 a0 then 14
                              else
                                bif iEq 384 a0 then 15
                                else
                                  bif iEq 1536 a0 then 16
                                  else
                                    bif iEq 1538 a0 then 17
                                    else
                                      bif iEq 1539 a0 then 18
                                      else
                                        bif iEq 1605 a0 then 19
                                        else
                                          bif iEq 1603 a0 then 20
                                          else
                                            bif iEq 1664 a0 then 21
                                            else
                                              bif iEq 512 a0 then 22
                                              else
                                                bif iEq 517 a0 then 23
                                                else bif iEq 576 a0 then 24 else bif iEq 577 a0 then 25 else bif iEq 578 a0 then 26 else bif iEq 579 a0 then 27 else bif iEq 640 a0 then 28 else -1
def sallyportref8_IndexG (a0 : Int) : Bool :=
  bif iEq 768 a0 then true
  else
    bif iEq 770 a0 then true
    else
      bif iEq 771 a0 then true
      else
        bif iEq 772 a0 then true
        else
          bif iEq 773 a0 then true
          else
            bif iEq 832 a0 then true
            else
              bif iEq 833 a0 then true
              else
                bif iEq 834 a0 then true
                else
                  bif iEq 835 a0 then true
                  else
                    bif iEq 843 a0 then true
                    else
                      bif iEq 261 a0 then true
                      else
                        bif iEq 320 a0 then true
                        else
                          bif iEq 321 a0 then true
                          else
                            bif iEq 322 a0 then true
                            else
                              bif iEq 323 a0 then true
                              else
                                bif iEq 384 a0 then true
                                else
                                  bif iEq 1536 a0 then true
                                  else
                                    bif iEq 1538 a0 then true
                                    else
                                      bif iEq 1539 a0 then true
                                      else
                                        bif iEq 1605 a0 then true
                                        else
                                          bif iEq 1603 a0 then true
                                          else
                                            bif iEq 1664 a0 then true
                                            else
                                              bif iEq 512 a0 then true
                                              else
                                                bif iEq 517 a0 then true
                                                else
                                                  bif iEq 576 a0 then true
                                                  else bif iEq 577 a0 then true else bif iEq 578 a0 then true else bif iEq 579 a0 then true else bif iEq 640 a0 then true else true
def sallyportref8_IndexV (a0 : Int) : AV := .it .i64 (sallyportref8_Index0 a0)
theorem sallyportref8_IndexE (g : Nat → AV) : pcOf Try.prog okT (lookR T65) (inl Try.prog okT (lookR T65) RO FS 100 ST 2) RO NOV 100 false Try.f63 (norms [(.int .i64)] 0 g) = some (sallyportref8_IndexG ((g 0).num), sallyportref8_IndexV ((g 0).num)) := by kernel_rfl
theorem sallyportref8_IndexP : Plain Try.prog 63 Try.f63 := ⟨Try.func63, of_decide_eq_true (by kernel_rfl)⟩
theorem sallyportref8_IndexT (a0 : Int) : sallyportref8_IndexG a0 = true := by
  unfold sallyportref8_IndexG
  simp only [Go.Ev.cS1, Go.Ev.cS2, Go.Ev.cS3, Go.Ev.cS4, Go.Ev.cS6, Go.Ev.cS7]
theorem sallyportref8_IndexO : RowOk Try.prog 63 (rowF [(.int .i64)] none fun g => sallyportref8_IndexV ((g 0).num)) := rowT_ok fun g => pcOf_ok mix fair T65_ok (inl_ok mix fair T65_ok FS_ok 2) sallyportref8_IndexP (fun c _ => OvOk_none c) (sallyportref8_IndexE g) (sallyportref8_IndexT ((g 0).num))
def T63 : List Row := (63, (rowF [(.int .i64)] none fun g => sallyportref8_IndexV ((g 0).num))) :: T65
theorem T63_ok : PSound Try.prog (lookR T63) := lookR_cons sallyportref8_IndexO T65_ok

theorem index_in' (n : Int) : -1 ≤ sallyportref8_Index0 n ∧ sallyportref8_Index0 n < 29 := by
  show (fun x : Int => -1 ≤ x ∧ x < 29) (sallyportref8_Index0 n)
  unfold sallyportref8_Index0
  repeat' (refine cond_all (p := fun x : Int => -1 ≤ x ∧ x < 29) ?_ ?_)
  all_goals decide
/- sallyport/sallyportref8.Read -/
def sallyportref8_Read0 (a0_X : Nat → Int) (a0_PC : Int) (a0_Level : Int) (a0_V : Bool) (a0_C : Nat → Int) (a0_Done : Int) (a1 : Int) : Int :=
  bif iLe 0 (sallyportref8_Index0 a1) then a0_C (sallyportref8_Index0 a1).toNat
  else
    bif iEq a1 256 then iAnd IntKind.u64 (a0_C 0) 786722
    else bif iEq a1 260 then iAnd IntKind.u64 (a0_C 3) 544 else bif iEq a1 516 then iShr IntKind.u64 (iAnd IntKind.u64 (a0_C 3) 1088) 1 else bif iEq a1 3074 then a0_Done else 0
def sallyportref8_Read1 (a0_X : Nat → Int) (a0_PC : Int) (a0_Level : Int) (a0_V : Bool) (a0_C : Nat → Int) (a0_Done : Int) (a1 : Int) : Bool :=
  bif iLe 0 (sallyportref8_Index0 a1) then true else bif iEq a1 256 then true else bif iEq a1 260 then true else bif iEq a1 516 then true else iEq a1 3074
def sallyportref8_Read1r (a0_X : Nat → Int) (a0_PC : Int) (a0_Level : Int) (a0_V : Bool) (a0_C : Nat → Int) (a0_Done : Int) (a1 : Int) : Bool :=
  bif iLe 0 (sallyportref8_Index0 a1) then true else bif iEq a1 256 then true else bif iEq a1 260 then true else bif iEq a1 516 then true else bif iEq a1 3074 then true else false
def sallyportref8_ReadG (a0_X : Nat → Int) (a0_PC : Int) (a0_Level : Int) (a0_V : Bool) (a0_C : Nat → Int) (a0_Done : Int) (a1 : Int) : Bool :=
  bif iLe 0 (sallyportref8_Index0 a1) then iIn (sallyportref8_Index0 a1) 29 && true
  else bif iEq a1 256 then true else bif iEq a1 260 then true else bif iEq a1 516 then true else bif iEq a1 3074 then true else true
theorem sallyportref8_Read1_eq (a0_X : Nat → Int) (a0_PC : Int) (a0_Level : Int) (a0_V : Bool) (a0_C : Nat → Int) (a0_Done : Int) (a1 : Int)  : sallyportref8_Read1r a0_X a0_PC a0_Level a0_V a0_C a0_Done a1  = sallyportref8_Read1 a0_X a0_PC a0_Level a0_V a0_C a0_Done a1  := by
  unfold sallyportref8_Read1r
  first | (simp only [Go.Ev.cS1, Go.Ev.cS2, Go.Ev.cS3, Go.Ev.cS4, Go.Ev.cS6, Go.Ev.cS7]; done) | (simp only [Go.Ev.cS1, Go.Ev.cS2, Go.Ev.cS3, Go.Ev.cS4, Go.Ev.cS6, Go.Ev.cS7]; kernel_rfl)
def sallyportref8_ReadV (a0_X : Nat → Int) (a0_PC : Int) (a0_Level : Int) (a0_V : Bool) (a0_C : Nat → Int) (a0_Done : Int) (a1 : Int) : AV := .tup [.it .u64 (sallyportref8_Read0 a0_X a0_PC a0_Level a0_V a0_C a0_Done a1), .bl (sallyportref8_Read1 a0_X a0_PC a0_Level a0_V a0_C a0_Done a1)]
def sallyportref8_ReadVr (a0_X : Nat → Int) (a0_PC : Int) (a0_Level : Int) (a0_V : Bool) (a0_C : Nat → Int) (a0_Done : Int) (a1 : Int) : AV := .tup [.it .u64 (sallyportref8_Read0 a0_X a0_PC a0_Level a0_V a0_C a0_Done a1), .bl (sallyportref8_Read1r a0_X a0_PC a0_Level a0_V a0_C a0_Done a1)]
theorem sallyportref8_ReadV_eq (a0_X : Nat → Int) (a0_PC : Int) (a0_Level : Int) (a0_V : Bool) (a0_C : Nat → Int) (a0_Done : Int) (a1 : Int) : sallyportref8_ReadVr a0_X a0_PC a0_Level a0_V a0_C a0_Done a1 = sallyportref8_ReadV a0_X a0_PC a0_Level a0_V a0_C a0_Done a1 := by
  unfold sallyportref8_ReadVr sallyportref8_ReadV
  simp only [sallyportref8_Read1_eq]
theorem sallyportref8_ReadE (g : Nat → AV) : pcOf Try.prog okT (lookR T63) (inl Try.prog okT (lookR T63) RO FS 100 ST 2) RO NOV 100 false Try.f58 (norms [(.agg [(.arr 32 (.int .u64)), (.int .u64), (.int .i64), .bool, (.arr 29 (.int .u64)), (.int .u64)]), (.int .i64)] 0 g) = some (sallyportref8_ReadG (fun i0 => (((g 0).fld 0).ix i0).num) (((g 0).fld 1).num) (((g 0).fld 2).num) (((g 0).fld 3).bool) (fun i0 => (((g 0).fld 4).ix i0).num) (((g 0).fld 5).num) ((g 1).num), sallyportref8_ReadV (fun i0 => (((g 0).fld 0).ix i0).num) (((g 0).fld 1).num) (((g 0).fld 2).num) (((g 0).fld 3).bool) (fun i0 => (((g 0).fld 4).ix i0).num) (((g 0).fld 5).num) ((g 1).num)) :=
  (by kernel_rfl : pcOf Try.prog okT (lookR T63) (inl Try.prog okT (lookR T63) RO FS 100 ST 2) RO NOV 100 false Try.f58 (norms [(.agg [(.arr 32 (.int .u64)), (.int .u64), (.int .i64), .bool, (.arr 29 (.int .u64)), (.int .u64)]), (.int .i64)] 0 g) = some (sallyportref8_ReadG (fun i0 => (((g 0).fld 0).ix i0).num) (((g 0).fld 1).num) (((g 0).fld 2).num) (((g 0).fld 3).bool) (fun i0 => (((g 0).fld 4).ix i0).num) (((g 0).fld 5).num) ((g 1).num), sallyportref8_ReadVr (fun i0 => (((g 0).fld 0).ix i0).num) (((g 0).fld 1).num) (((g 0).fld 2).num) (((g 0).fld 3).bool) (fun i0 => (((g 0).fld 4).ix i0).num) (((g 0).fld 5).num) ((g 1).num))).trans (by rw [sallyportref8_ReadV_eq])
theorem sallyportref8_ReadP : Plain Try.prog 58 Try.f58 := ⟨Try.func58, of_decide_eq_true (by kernel_rfl)⟩
theorem sallyportref8_ReadT (a0_X : Nat → Int) (a0_PC : Int) (a0_Level : Int) (a0_V : Bool) (a0_C : Nat → Int) (a0_Done : Int) (a1 : Int) : sallyportref8_ReadG a0_X a0_PC a0_Level a0_V a0_C a0_Done a1 = true := by
  unfold sallyportref8_ReadG
  have h := index_in' a1
  cases h1 : iLe 0 (sallyportref8_Index0 a1) with
  | true => rw [iIn_true.2 ⟨iLe_true.1 h1, h.2⟩]; simp
  | false => simp
theorem sallyportref8_ReadO : RowOk Try.prog 58 (rowF [(.agg [(.arr 32 (.int .u64)), (.int .u64), (.int .i64), .bool, (.arr 29 (.int .u64)), (.int .u64)]), (.int .i64)] none fun g => sallyportref8_ReadV (fun i0 => (((g 0).fld 0).ix i0).num) (((g 0).fld 1).num) (((g 0).fld 2).num) (((g 0).fld 3).bool) (fun i0 => (((g 0).fld 4).ix i0).num) (((g 0).fld 5).num) ((g 1).num)) := rowT_ok fun g => pcOf_ok mix fair T63_ok (inl_ok mix fair T63_ok FS_ok 2) sallyportref8_ReadP (fun c _ => OvOk_none c) (sallyportref8_ReadE g) (sallyportref8_ReadT (fun i0 => (((g 0).fld 0).ix i0).num) (((g 0).fld 1).num) (((g 0).fld 2).num) (((g 0).fld 3).bool) (fun i0 => (((g 0).fld 4).ix i0).num) (((g 0).fld 5).num) ((g 1).num))
def T58 : List Row := (58, (rowF [(.agg [(.arr 32 (.int .u64)), (.int .u64), (.int .i64), .bool, (.arr 29 (.int .u64)), (.int .u64)]), (.int .i64)] none fun g => sallyportref8_ReadV (fun i0 => (((g 0).fld 0).ix i0).num) (((g 0).fld 1).num) (((g 0).fld 2).num) (((g 0).fld 3).bool) (fun i0 => (((g 0).fld 4).ix i0).num) (((g 0).fld 5).num) ((g 1).num))) :: T63
theorem T58_ok : PSound Try.prog (lookR T58) := lookR_cons sallyportref8_ReadO T63_ok

/- sallyport/sallyportref8.Bit -/
def sallyportref8_Bit0 (a0_X : Nat → Int) (a0_PC : Int) (a0_Level : Int) (a0_V : Bool) (a0_C : Nat → Int) (a0_Done : Int) (a1 : Int) (a2 : Int) : Bool :=
  iEq (iAnd IntKind.u64 (iShr IntKind.u64 (a0_C a1.toNat) (iConv IntKind.u64 a2)) 1) 1
def sallyportref8_BitG (a0_X : Nat → Int) (a0_PC : Int) (a0_Level : Int) (a0_V : Bool) (a0_C : Nat → Int) (a0_Done : Int) (a1 : Int) (a2 : Int) : Bool :=
  iIn a1 29 && true
def sallyportref8_BitV (a0_X : Nat → Int) (a0_PC : Int) (a0_Level : Int) (a0_V : Bool) (a0_C : Nat → Int) (a0_Done : Int) (a1 : Int) (a2 : Int) : AV := .bl (sallyportref8_Bit0 a0_X a0_PC a0_Level a0_V a0_C a0_Done a1 a2)
theorem sallyportref8_BitE (g : Nat → AV) : pcOf Try.prog okT (lookR T58) (inl Try.prog okT (lookR T58) RO FS 100 ST 2) RO NOV 100 false Try.f49 (norms [(.agg [(.arr 32 (.int .u64)), (.int .u64), (.int .i64), .bool, (.arr 29 (.int .u64)), (.int .u64)]), (.int .i64), (.int .i64)] 0 g) = some (sallyportref8_BitG (fun i0 => (((g 0).fld 0).ix i0).num) (((g 0).fld 1).num) (((g 0).fld 2).num) (((g 0).fld 3).bool) (fun i0 => (((g 0).fld 4).ix i0).num) (((g 0).fld 5).num) ((g 1).num) ((g 2).num), sallyportref8_BitV (fun i0 => (((g 0).fld 0).ix i0).num) (((g 0).fld 1).num) (((g 0).fld 2).num) (((g 0).fld 3).bool) (fun i0 => (((g 0).fld 4).ix i0).num) (((g 0).fld 5).num) ((g 1).num) ((g 2).num)) := by kernel_rfl
theorem sallyportref8_BitP : Plain Try.prog 49 Try.f49 := ⟨Try.func49, of_decide_eq_true (by kernel_rfl)⟩
theorem sallyportref8_BitO : RowOk Try.prog 49 (rowF [(.agg [(.arr 32 (.int .u64)), (.int .u64), (.int .i64), .bool, (.arr 29 (.int .u64)), (.int .u64)]), (.int .i64), (.int .i64)] (some fun g => sallyportref8_BitG (fun i0 => (((g 0).fld 0).ix i0).num) (((g 0).fld 1).num) (((g 0).fld 2).num) (((g 0).fld 3).bool) (fun i0 => (((g 0).fld 4).ix i0).num) (((g 0).fld 5).num) ((g 1).num) ((g 2).num)) fun g => sallyportref8_BitV (fun i0 => (((g 0).fld 0).ix i0).num) (((g 0).fld 1).num) (((g 0).fld 2).num) (((g 0).fld 3).bool) (fun i0 => (((g 0).fld 4).ix i0).num) (((g 0).fld 5).num) ((g 1).num) ((g 2).num)) := rowF_ok fun g hg => pcOf_ok mix fair T58_ok (inl_ok mix fair T58_ok FS_ok 2) sallyportref8_BitP (fun c _ => OvOk_none c) (sallyportref8_BitE g) hg
def T49 : List Row := (49, (rowF [(.agg [(.arr 32 (.int .u64)), (.int .u64), (.int .i64), .bool, (.arr 29 (.int .u64)), (.int .u64)]), (.int .i64), (.int .i64)] (some fun g => sallyportref8_BitG (fun i0 => (((g 0).fld 0).ix i0).num) (((g 0).fld 1).num) (((g 0).fld 2).num) (((g 0).fld 3).bool) (fun i0 => (((g 0).fld 4).ix i0).num) (((g 0).fld 5).num) ((g 1).num) ((g 2).num)) fun g => sallyportref8_BitV (fun i0 => (((g 0).fld 0).ix i0).num) (((g 0).fld 1).num) (((g 0).fld 2).num) (((g 0).fld 3).bool) (fun i0 => (((g 0).fld 4).ix i0).num) (((g 0).fld 5).num) ((g 1).num) ((g 2).num))) :: T58
theorem T49_ok : PSound Try.prog (lookR T49) := lookR_cons sallyportref8_BitO T58_ok

/- sallyport/sallyportref8.need -/
def sallyportref8_need0 (a0 : Bool) : Int :=
  bif a0 then 0 else 2
def sallyportref8_need1r (a0 : Bool) : Bool :=
  bif a0 then true else false
def sallyportref8_needG (a0 : Bool) : Bool :=
  bif a0 then true else true
theorem sallyportref8_need1_eq (a0 : Bool)  : sallyportref8_need1r a0  = a0 := by
  unfold sallyportref8_need1r
  first | (simp only [Go.Ev.cS1, Go.Ev.cS2, Go.Ev.cS3, Go.Ev.cS4, Go.Ev.cS6, Go.Ev.cS7]; done) | (simp only [Go.Ev.cS1, Go.Ev.cS2, Go.Ev.cS3, Go.Ev.cS4, Go.Ev.cS6, Go.Ev.cS7]; kernel_rfl)
def sallyportref8_needV (a0 : Bool) : AV := .tup [.it .u64 (sallyportref8_need0 a0), .bl a0]
def sallyportref8_needVr (a0 : Bool) : AV := .tup [.it .u64 (sallyportref8_need0 a0), .bl (sallyportref8_need1r a0)]
theorem sallyportref8_needV_eq (a0 : Bool) : sallyportref8_needVr a0 = sallyportref8_needV a0 := by
  unfold sallyportref8_needVr sallyportref8_needV
  simp only [sallyportref8_need1_eq]
theorem sallyportref8_needE (g : Nat → AV) : pcOf Try.prog okT (lookR T49) (inl Try.prog okT (lookR T49) RO FS 100 ST 2) RO NOV 100 false Try.f47 (norms [.bool] 0 g) = some (sallyportref8_needG ((g 0).bool), sallyportref8_needV ((g 0).bool)) :=
  (by kernel_rfl : pcOf Try.prog okT (lookR T49) (inl Try.prog okT (lookR T49) RO FS 100 ST 2) RO NOV 100 false Try.f47 (norms [.bool] 0 g) = some (sallyportref8_needG ((g 0).bool), sallyportref8_needVr ((g 0).bool))).trans (by rw [sallyportref8_needV_eq])
theorem sallyportref8_needP : Plain Try.prog 47 Try.f47 := ⟨Try.func47, of_decide_eq_true (by kernel_rfl)⟩
theorem sallyportref8_needT (a0 : Bool) : sallyportref8_needG a0 = true := by
  unfold sallyportref8_needG
  simp only [Go.Ev.cS1, Go.Ev.cS2, Go.Ev.cS3, Go.Ev.cS4, Go.Ev.cS6, Go.Ev.cS7]
theorem sallyportref8_needO : RowOk Try.prog 47 (rowF [.bool] none fun g => sallyportref8_needV ((g 0).bool)) := rowT_ok fun g => pcOf_ok mix fair T49_ok (inl_ok mix fair T49_ok FS_ok 2) sallyportref8_needP (fun c _ => OvOk_none c) (sallyportref8_needE g) (sallyportref8_needT ((g 0).bool))
def T47 : List Row := (47, (rowF [.bool] none fun g => sallyportref8_needV ((g 0).bool))) :: T49
theorem T47_ok : PSound Try.prog (lookR T47) := lookR_cons sallyportref8_needO T49_ok

/- sallyport/sallyportref8.Csr -/
def sallyportref8_Csr_c0 (a0_X : Nat → Int) (a0_PC : Int) (a0_Level : Int) (a0_V : Bool) (a0_C : Nat → Int) (a0_Done : Int) (a1 : Int) (a2 : Bool) : Bool :=
  bif bif iEq a1 3074 then true else iEq (iAnd IntKind.i64 (iShr IntKind.i64 a1 8) 3) 2 then true else iNe (sallyportref8_Level0 (fun i0 => a0_X i0) a0_PC a0_Level a0_V (fun i0 => a0_C i0) a0_Done) 5
def sallyportref8_Csr_c1 (a0_X : Nat → Int) (a0_PC : Int) (a0_Level : Int) (a0_V : Bool) (a0_C : Nat → Int) (a0_Done : Int) (a1 : Int) (a2 : Bool) : Bool :=
  bif iLe 4 (sallyportref8_Level0 (fun i0 => a0_X i0) a0_PC a0_Level a0_V (fun i0 => a0_C i0) a0_Done) then
    bif sallyportref8_Csr_c0 a0_X a0_PC a0_Level a0_V a0_C a0_Done a1 a2 then true
    else bif iEq a1 384 then sallyportref8_Bit0 (fun i0 => a0_X i0) a0_PC a0_Level a0_V (fun i0 => a0_C i0) a0_Done 16 20 else false
  else false
def sallyportref8_Csr_c2 (a0_X : Nat → Int) (a0_PC : Int) (a0_Level : Int) (a0_V : Bool) (a0_C : Nat → Int) (a0_Done : Int) (a1 : Int) (a2 : Bool) : Bool :=
  bif bif iLt 0 (iAnd IntKind.i64 (iShr IntKind.i64 a1 8) 3) then iLt (sallyportref8_Level0 (fun i0 => a0_X i0) a0_PC a0_Level a0_V (fun i0 => a0_C i0) a0_Done) 1 else false then true
  else
    bif bif iEq a1 384 then iEq (sallyportref8_Level0 (fun i0 => a0_X i0) a0_PC a0_Level a0_V (fun i0 => a0_C i0) a0_Done) 1 else false then
      sallyportref8_Bit0 (fun i0 => a0_X i0) a0_PC a0_Level a0_V (fun i0 => a0_C i0) a0_Done 0 20
    else false
def sallyportref8_Csr0 (a0_X : Nat → Int) (a0_PC : Int) (a0_Level : Int) (a0_V : Bool) (a0_C : Nat → Int) (a0_Done : Int) (a1 : Int) (a2 : Bool) : Int :=
  bif bif !sallyportref8_Read1 (fun i0 => a0_X i0) a0_PC a0_Level a0_V (fun i0 => a0_C i0) a0_Done a1 then true else bif a2 then iLe 3072 a1 else false then 2
  else
    bif bif iLe 4 (sallyportref8_Level0 (fun i0 => a0_X i0) a0_PC a0_Level a0_V (fun i0 => a0_C i0) a0_Done) then iEq (iAnd IntKind.i64 (iShr IntKind.i64 a1 8) 3) 3 else false then 2
    else
      bif sallyportref8_Csr_c1 a0_X a0_PC a0_Level a0_V a0_C a0_Done a1 a2 then 22
      else
        bif iLe 4 (sallyportref8_Level0 (fun i0 => a0_X i0) a0_PC a0_Level a0_V (fun i0 => a0_C i0) a0_Done) then 0
        else
          bif iEq a1 3074 then sallyportref8_need0 (iLe 1 (sallyportref8_Level0 (fun i0 => a0_X i0) a0_PC a0_Level a0_V (fun i0 => a0_C i0) a0_Done))
          else
            bif iEq (iAnd IntKind.i64 (iShr IntKind.i64 a1 8) 3) 3 then sallyportref8_need0 (iEq (sallyportref8_Level0 (fun i0 => a0_X i0) a0_PC a0_Level a0_V (fun i0 => a0_C i0) a0_Done) 3)
            else bif sallyportref8_Csr_c2 a0_X a0_PC a0_Level a0_V a0_C a0_Done a1 a2 then 2 else 0
def sallyportref8_Csr1 (a0_X : Nat → Int) (a0_PC : Int) (a0_Level : Int) (a0_V : Bool) (a0_C : Nat → Int) (a0_Done : Int) (a1 : Int) (a2 : Bool) : Bool :=
  bif bif !sallyportref8_Read1 (fun i0 => a0_X i0) a0_PC a0_Level a0_V (fun i0 => a0_C i0) a0_Done a1 then true else bif a2 then iLe 3072 a1 else false then false
  else
    bif bif iLe 4 (sallyportref8_Level0 (fun i0 => a0_X i0) a0_PC a0_Level a0_V (fun i0 => a0_C i0) a0_Done) then iEq (iAnd IntKind.i64 (iShr IntKind.i64 a1 8) 3) 3 else false then false
    else
      bif sallyportref8_Csr_c1 a0_X a0_PC a0_Level a0_V a0_C a0_Done a1 a2 then false
      else
        bif iLe 4 (sallyportref8_Level0 (fun i0 => a0_X i0) a0_PC a0_Level a0_V (fun i0 => a0_C i0) a0_Done) then true
        else
          bif iEq a1 3074 then iLe 1 (sallyportref8_Level0 (fun i0 => a0_X i0) a0_PC a0_Level a0_V (fun i0 => a0_C i0) a0_Done)
          else
            bif iEq (iAnd IntKind.i64 (iShr IntKind.i64 a1 8) 3) 3 then iEq (sallyportref8_Level0 (fun i0 => a0_X i0) a0_PC a0_Level a0_V (fun i0 => a0_C i0) a0_Done) 3
            else bif sallyportref8_Csr_c2 a0_X a0_PC a0_Level a0_V a0_C a0_Done a1 a2 then false else true
def sallyportref8_CsrG (a0_X : Nat → Int) (a0_PC : Int) (a0_Level : Int) (a0_V : Bool) (a0_C : Nat → Int) (a0_Done : Int) (a1 : Int) (a2 : Bool) : Bool :=
  bif bif !sallyportref8_Read1 (fun i0 => a0_X i0) a0_PC a0_Level a0_V (fun i0 => a0_C i0) a0_Done a1 then true else bif a2 then iLe 3072 a1 else false then true
  else
    bif bif iLe 4 (sallyportref8_Level0 (fun i0 => a0_X i0) a0_PC a0_Level a0_V (fun i0 => a0_C i0) a0_Done) then iEq (iAnd IntKind.i64 (iShr IntKind.i64 a1 8) 3) 3 else false then true
    else
      (!(iLe 4 (sallyportref8_Level0 (fun i0 => a0_X i0) a0_PC a0_Level a0_V (fun i0 => a0_C i0) a0_Done) && !sallyportref8_Csr_c0 a0_X a0_PC a0_Level a0_V a0_C a0_Done a1 a2 && iEq a1 384) ||
          sallyportref8_BitG (fun i0 => a0_X i0) a0_PC a0_Level a0_V (fun i0 => a0_C i0) a0_Done 16 20) &&
        bif sallyportref8_Csr_c1 a0_X a0_PC a0_Level a0_V a0_C a0_Done a1 a2 then true
        else
          bif iLe 4 (sallyportref8_Level0 (fun i0 => a0_X i0) a0_PC a0_Level a0_V (fun i0 => a0_C i0) a0_Done) then true
          else
            bif iEq a1 3074 then true
            else
              bif iEq (iAnd IntKind.i64 (iShr IntKind.i64 a1 8) 3) 3 then true
              else
                (!((!bif iLt 0 (iAnd IntKind.i64 (iShr IntKind.i64 a1 8) 3) then iLt (sallyportref8_Level0 (fun i0 => a0_X i0) a0_PC a0_Level a0_V (fun i0 => a0_C i0) a0_Done) 1 else false) &&
                        bif iEq a1 384 then iEq (sallyportref8_Level0 (fun i0 => a0_X i0) a0_PC a0_Level a0_V (fun i0 => a0_C i0) a0_Done) 1 else false) ||
                    sallyportref8_BitG (fun i0 => a0_X i0) a0_PC a0_Level a0_V (fun i0 => a0_C i0) a0_Done 0 20) &&
                  bif sallyportref8_Csr_c2 a0_X a0_PC a0_Level a0_V a0_C a0_Done a1 a2 then true else true
def sallyportref8_CsrV (a0_X : Nat → Int) (a0_PC : Int) (a0_Level : Int) (a0_V : Bool) (a0_C : Nat → Int) (a0_Done : Int) (a1 : Int) (a2 : Bool) : AV := .tup [.it .u64 (sallyportref8_Csr0 a0_X a0_PC a0_Level a0_V a0_C a0_Done a1 a2), .bl (sallyportref8_Csr1 a0_X a0_PC a0_Level a0_V a0_C a0_Done a1 a2)]
theorem sallyportref8_CsrE (g : Nat → AV) : pcOf Try.prog okT (lookR T47) (inl Try.prog okT (lookR T47) RO FS 100 ST 2) RO NOV 100 false Try.f45 (norms [(.agg [(.arr 32 (.int .u64)), (.int .u64), (.int .i64), .bool, (.arr 29 (.int .u64)), (.int .u64)]), (.int .i64), .bool] 0 g) = some (sallyportref8_CsrG (fun i0 => (((g 0).fld 0).ix i0).num) (((g 0).fld 1).num) (((g 0).fld 2).num) (((g 0).fld 3).bool) (fun i0 => (((g 0).fld 4).ix i0).num) (((g 0).fld 5).num) ((g 1).num) ((g 2).bool), sallyportref8_CsrV (fun i0 => (((g 0).fld 0).ix i0).num) (((g 0).fld 1).num) (((g 0).fld 2).num) (((g 0).fld 3).bool) (fun i0 => (((g 0).fld 4).ix i0).num) (((g 0).fld 5).num) ((g 1).num) ((g 2).bool)) := by kernel_rfl
theorem sallyportref8_CsrP : Plain Try.prog 45 Try.f45 := ⟨Try.func45, of_decide_eq_true (by kernel_rfl)⟩
theorem sallyportref8_CsrT (a0_X : Nat → Int) (a0_PC : Int) (a0_Level : Int) (a0_V : Bool) (a0_C : Nat → Int) (a0_Done : Int) (a1 : Int) (a2 : Bool) : sallyportref8_CsrG a0_X a0_PC a0_Level a0_V a0_C a0_Done a1 a2 = true := by simp [sallyportref8_CsrG, sallyportref8_BitG, show iIn 16 29 = true by decide, show iIn 0 29 = true by decide]
theorem sallyportref8_CsrO : RowOk Try.prog 45 (rowF [(.agg [(.arr 32 (.int .u64)), (.int .u64), (.int .i64), .bool, (.arr 29 (.int .u64)), (.int .u64)]), (.int .i64), .bool] none fun g => sallyportref8_CsrV (fun i0 => (((g 0).fld 0).ix i0).num) (((g 0).fld 1).num) (((g 0).fld 2).num) (((g 0).fld 3).bool) (fun i0 => (((g 0).fld 4).ix i0).num) (((g 0).fld 5).num) ((g 1).num) ((g 2).bool)) := rowT_ok fun g => pcOf_ok mix fair T47_ok (inl_ok mix fair T47_ok FS_ok 2) sallyportref8_CsrP (fun c _ => OvOk_none c) (sallyportref8_CsrE g) (sallyportref8_CsrT (fun i0 => (((g 0).fld 0).ix i0).num) (((g 0).fld 1).num) (((g 0).fld 2).num) (((g 0).fld 3).bool) (fun i0 => (((g 0).fld 4).ix i0).num) (((g 0).fld 5).num) ((g 1).num) ((g 2).bool))
def T45 : List Row := (45, (rowF [(.agg [(.arr 32 (.int .u64)), (.int .u64), (.int .i64), .bool, (.arr 29 (.int .u64)), (.int .u64)]), (.int .i64), .bool] none fun g => sallyportref8_CsrV (fun i0 => (((g 0).fld 0).ix i0).num) (((g 0).fld 1).num) (((g 0).fld 2).num) (((g 0).fld 3).bool) (fun i0 => (((g 0).fld 4).ix i0).num) (((g 0).fld 5).num) ((g 1).num) ((g 2).bool))) :: T47
theorem T45_ok : PSound Try.prog (lookR T45) := lookR_cons sallyportref8_CsrO T47_ok

/- sallyport/sallyportref8.kept -/
def sallyportref8_kept0 (a0_X : Nat → Int) (a0_PC : Int) (a0_Level : Int) (a0_V : Bool) (a0_C : Nat → Int) (a0_Done : Int) (a1 : Int) (a2 : Int) : Int :=
  bif bif iEq a1 0 then true else bif iEq a1 1 then sallyportref8_Bit0 (fun i0 => a0_X i0) a0_PC a0_Level a0_V (fun i0 => a0_C i0) a0_Done 0 a2 else false then 2
  else bif bif iEq a1 4 then true else bif iEq a1 5 then sallyportref8_Bit0 (fun i0 => a0_X i0) a0_PC a0_Level a0_V (fun i0 => a0_C i0) a0_Done 16 a2 else false then 22 else 0
def sallyportref8_kept1 (a0_X : Nat → Int) (a0_PC : Int) (a0_Level : Int) (a0_V : Bool) (a0_C : Nat → Int) (a0_Done : Int) (a1 : Int) (a2 : Int) : Bool :=
  bif bif iEq a1 0 then true else bif iEq a1 1 then sallyportref8_Bit0 (fun i0 => a0_X i0) a0_PC a0_Level a0_V (fun i0 => a0_C i0) a0_Done 0 a2 else false then false
  else bif bif iEq a1 4 then true else bif iEq a1 5 then sallyportref8_Bit0 (fun i0 => a0_X i0) a0_PC a0_Level a0_V (fun i0 => a0_C i0) a0_Done 16 a2 else false then false else true
def sallyportref8_keptG (a0_X : Nat → Int) (a0_PC : Int) (a0_Level : Int) (a0_V : Bool) (a0_C : Nat → Int) (a0_Done : Int) (a1 : Int) (a2 : Int) : Bool :=
  (!(!iEq a1 0 && iEq a1 1) || sallyportref8_BitG (fun i0 => a0_X i0) a0_PC a0_Level a0_V (fun i0 => a0_C i0) a0_Done 0 a2) &&
    bif bif iEq a1 0 then true else bif iEq a1 1 then sallyportref8_Bit0 (fun i0 => a0_X i0) a0_PC a0_Level a0_V (fun i0 => a0_C i0) a0_Done 0 a2 else false then true
    else
      (!(!iEq a1 4 && iEq a1 5) || sallyportref8_BitG (fun i0 => a0_X i0) a0_PC a0_Level a0_V (fun i0 => a0_C i0) a0_Done 16 a2) &&
        bif bif iEq a1 4 then true else bif iEq a1 5 then sallyportref8_Bit0 (fun i0 => a0_X i0) a0_PC a0_Level a0_V (fun i0 => a0_C i0) a0_Done 16 a2 else false then true else true
def sallyportref8_keptV (a0_X : Nat → Int) (a0_PC : Int) (a0_Level : Int) (a0_V : Bool) (a0_C : Nat → Int) (a0_Done : Int) (a1 : Int) (a2 : Int) : AV := .tup [.it .u64 (sallyportref8_kept0 a0_X a0_PC a0_Level a0_V a0_C a0_Done a1 a2), .bl (sallyportref8_kept1 a0_X a0_PC a0_Level a0_V a0_C a0_Done a1 a2)]
theorem sallyportref8_keptE (g : Nat → AV) : pcOf Try.prog okT (lookR T45) (inl Try.prog okT (lookR T45) RO FS 100 ST 2) RO NOV 100 false Try.f48 (norms [(.agg [(.arr 32 (.int .u64)), (.int .u64), (.int .i64), .bool, (.arr 29 (.int .u64)), (.int .u64)]), (.int .i64), (.int .i64)] 0 g) = some (sallyportref8_keptG (fun i0 => (((g 0).fld 0).ix i0).num) (((g 0).fld 1).num) (((g 0).fld 2).num) (((g 0).fld 3).bool) (fun i0 => (((g 0).fld 4).ix i0).num) (((g 0).fld 5).num) ((g 1).num) ((g 2).num), sallyportref8_keptV (fun i0 => (((g 0).fld 0).ix i0).num) (((g 0).fld 1).num) (((g 0).fld 2).num) (((g 0).fld 3).bool) (fun i0 => (((g 0).fld 4).ix i0).num) (((g 0).fld 5).num) ((g 1).num) ((g 2).num)) := by kernel_rfl
theorem sallyportref8_keptP : Plain Try.prog 48 Try.f48 := ⟨Try.func48, of_decide_eq_true (by kernel_rfl)⟩
theorem sallyportref8_keptT (a0_X : Nat → Int) (a0_PC : Int) (a0_Level : Int) (a0_V : Bool) (a0_C : Nat → Int) (a0_Done : Int) (a1 : Int) (a2 : Int) : sallyportref8_keptG a0_X a0_PC a0_Level a0_V a0_C a0_Done a1 a2 = true := by simp [sallyportref8_keptG, sallyportref8_BitG, show iIn 16 29 = true by decide, show iIn 0 29 = true by decide]
theorem sallyportref8_keptO : RowOk Try.prog 48 (rowF [(.agg [(.arr 32 (.int .u64)), (.int .u64), (.int .i64), .bool, (.arr 29 (.int .u64)), (.int .u64)]), (.int .i64), (.int .i64)] none fun g => sallyportref8_keptV (fun i0 => (((g 0).fld 0).ix i0).num) (((g 0).fld 1).num) (((g 0).fld 2).num) (((g 0).fld 3).bool) (fun i0 => (((g 0).fld 4).ix i0).num) (((g 0).fld 5).num) ((g 1).num) ((g 2).num)) := rowT_ok fun g => pcOf_ok mix fair T45_ok (inl_ok mix fair T45_ok FS_ok 2) sallyportref8_keptP (fun c _ => OvOk_none c) (sallyportref8_keptE g) (sallyportref8_keptT (fun i0 => (((g 0).fld 0).ix i0).num) (((g 0).fld 1).num) (((g 0).fld 2).num) (((g 0).fld 3).bool) (fun i0 => (((g 0).fld 4).ix i0).num) (((g 0).fld 5).num) ((g 1).num) ((g 2).num))
def T48 : List Row := (48, (rowF [(.agg [(.arr 32 (.int .u64)), (.int .u64), (.int .i64), .bool, (.arr 29 (.int .u64)), (.int .u64)]), (.int .i64), (.int .i64)] none fun g => sallyportref8_keptV (fun i0 => (((g 0).fld 0).ix i0).num) (((g 0).fld 1).num) (((g 0).fld 2).num) (((g 0).fld 3).bool) (fun i0 => (((g 0).fld 4).ix i0).num) (((g 0).fld 5).num) ((g 1).num) ((g 2).num))) :: T45
theorem T48_ok : PSound Try.prog (lookR T48) := lookR_cons sallyportref8_keptO T45_ok

/- sallyport/sallyportref8.Insn -/
def sallyportref8_Insn_c0 (a0_X : Nat → Int) (a0_PC : Int) (a0_Level : Int) (a0_V : Bool) (a0_C : Nat → Int) (a0_Done : Int) (a1_Op : Int) (a1_Rd : Int) (a1_Rs1 : Int) (a1_Rs2 : Int) (a1_Imm : Int) (a1_CSR : Int) : Bool :=
  bif iEq (sallyportref8_Level0 (fun i0 => a0_X i0) a0_PC a0_Level a0_V (fun i0 => a0_C i0) a0_Done) 0 then true
  else
    bif iNe (sallyportref8_Level0 (fun i0 => a0_X i0) a0_PC a0_Level a0_V (fun i0 => a0_C i0) a0_Done) 3 then sallyportref8_Bit0 (fun i0 => a0_X i0) a0_PC a0_Level a0_V (fun i0 => a0_C i0) a0_Done 0 21
    else false
def sallyportref8_Insn_c1 (a0_X : Nat → Int) (a0_PC : Int) (a0_Level : Int) (a0_V : Bool) (a0_C : Nat → Int) (a0_Done : Int) (a1_Op : Int) (a1_Rd : Int) (a1_Rs1 : Int) (a1_Rs2 : Int) (a1_Imm : Int) (a1_CSR : Int) : Bool :=
  bif iEq (sallyportref8_Level0 (fun i0 => a0_X i0) a0_PC a0_Level a0_V (fun i0 => a0_C i0) a0_Done) 4 then true
  else
    bif iEq (sallyportref8_Level0 (fun i0 => a0_X i0) a0_PC a0_Level a0_V (fun i0 => a0_C i0) a0_Done) 5 then sallyportref8_Bit0 (fun i0 => a0_X i0) a0_PC a0_Level a0_V (fun i0 => a0_C i0) a0_Done 16 21
    else false
def sallyportref8_Insn_c2 (a0_X : Nat → Int) (a0_PC : Int) (a0_Level : Int) (a0_V : Bool) (a0_C : Nat → Int) (a0_Done : Int) (a1_Op : Int) (a1_Rd : Int) (a1_Rs1 : Int) (a1_Rs2 : Int) (a1_Imm : Int) (a1_CSR : Int) : Bool :=
  bif iEq (sallyportref8_Level0 (fun i0 => a0_X i0) a0_PC a0_Level a0_V (fun i0 => a0_C i0) a0_Done) 0 then
    bif iEq (sallyportref3_Class0 a1_Op) 11 then true else !sallyportref8_Bit0 (fun i0 => a0_X i0) a0_PC a0_Level a0_V (fun i0 => a0_C i0) a0_Done 16 9
  else false
def sallyportref8_Insn_c3 (a0_X : Nat → Int) (a0_PC : Int) (a0_Level : Int) (a0_V : Bool) (a0_C : Nat → Int) (a0_Done : Int) (a1_Op : Int) (a1_Rd : Int) (a1_Rs1 : Int) (a1_Rs2 : Int) (a1_Imm : Int) (a1_CSR : Int) : Bool :=
  bif sallyportref8_Insn_c2 a0_X a0_PC a0_Level a0_V a0_C a0_Done a1_Op a1_Rd a1_Rs1 a1_Rs2 a1_Imm a1_CSR then true
  else
    bif bif iEq a1_Op 65 then iEq (sallyportref8_Level0 (fun i0 => a0_X i0) a0_PC a0_Level a0_V (fun i0 => a0_C i0) a0_Done) 1 else false then
      sallyportref8_Bit0 (fun i0 => a0_X i0) a0_PC a0_Level a0_V (fun i0 => a0_C i0) a0_Done 0 20
    else false
def sallyportref8_Insn0 (a0_X : Nat → Int) (a0_PC : Int) (a0_Level : Int) (a0_V : Bool) (a0_C : Nat → Int) (a0_Done : Int) (a1_Op : Int) (a1_Rd : Int) (a1_Rs1 : Int) (a1_Rs2 : Int) (a1_Imm : Int) (a1_CSR : Int) : Int :=
  bif !sallyportref3_Is0 a1_Op a1_Rd a1_Rs1 a1_Rs2 a1_Imm a1_CSR then 2
  else
    bif iEq (sallyportref3_Class0 a1_Op) 9 then
      sallyportref8_Csr0 (fun i0 => a0_X i0) a0_PC a0_Level a0_V (fun i0 => a0_C i0) a0_Done a1_CSR (sallyportref8_Writes0 a1_Op a1_Rd a1_Rs1 a1_Rs2 a1_Imm a1_CSR)
    else
      bif iEq a1_Op 60 then sallyportref8_need0 (iEq (sallyportref8_Level0 (fun i0 => a0_X i0) a0_PC a0_Level a0_V (fun i0 => a0_C i0) a0_Done) 3)
      else
        bif iEq a1_Op 61 then
          sallyportref8_kept0 (fun i0 => a0_X i0) a0_PC a0_Level a0_V (fun i0 => a0_C i0) a0_Done (sallyportref8_Level0 (fun i0 => a0_X i0) a0_PC a0_Level a0_V (fun i0 => a0_C i0) a0_Done) 22
        else
          bif iEq a1_Op 63 then
            sallyportref8_kept0 (fun i0 => a0_X i0) a0_PC a0_Level a0_V (fun i0 => a0_C i0) a0_Done (sallyportref8_Level0 (fun i0 => a0_X i0) a0_PC a0_Level a0_V (fun i0 => a0_C i0) a0_Done) 20
          else
            bif iEq a1_Op 62 then
              bif sallyportref8_Insn_c0 a0_X a0_PC a0_Level a0_V a0_C a0_Done a1_Op a1_Rd a1_Rs1 a1_Rs2 a1_Imm a1_CSR then 2
              else bif sallyportref8_Insn_c1 a0_X a0_PC a0_Level a0_V a0_C a0_Done a1_Op a1_Rd a1_Rs1 a1_Rs2 a1_Imm a1_CSR then 22 else 0
            else
              bif bif iEq (sallyportref3_Class0 a1_Op) 11 then true else iEq (sallyportref3_Class0 a1_Op) 12 then
                bif iLe 4 (sallyportref8_Level0 (fun i0 => a0_X i0) a0_PC a0_Level a0_V (fun i0 => a0_C i0) a0_Done) then 22
                else bif sallyportref8_Insn_c3 a0_X a0_PC a0_Level a0_V a0_C a0_Done a1_Op a1_Rd a1_Rs1 a1_Rs2 a1_Imm a1_CSR then 2 else 0
              else 0
def sallyportref8_Insn1 (a0_X : Nat → Int) (a0_PC : Int) (a0_Level : Int) (a0_V : Bool) (a0_C : Nat → Int) (a0_Done : Int) (a1_Op : Int) (a1_Rd : Int) (a1_Rs1 : Int) (a1_Rs2 : Int) (a1_Imm : Int) (a1_CSR : Int) : Bool :=
  bif !sallyportref3_Is0 a1_Op a1_Rd a1_Rs1 a1_Rs2 a1_Imm a1_CSR then false
  else
    bif iEq (sallyportref3_Class0 a1_Op) 9 then
      sallyportref8_Csr1 (fun i0 => a0_X i0) a0_PC a0_Level a0_V (fun i0 => a0_C i0) a0_Done a1_CSR (sallyportref8_Writes0 a1_Op a1_Rd a1_Rs1 a1_Rs2 a1_Imm a1_CSR)
    else
      bif iEq a1_Op 60 then iEq (sallyportref8_Level0 (fun i0 => a0_X i0) a0_PC a0_Level a0_V (fun i0 => a0_C i0) a0_Done) 3
      else
        bif iEq a1_Op 61 then
          sallyportref8_kept1 (fun i0 => a0_X i0) a0_PC a0_Level a0_V (fun i0 => a0_C i0) a0_Done (sallyportref8_Level0 (fun i0 => a0_X i0) a0_PC a0_Level a0_V (fun i0 => a0_C i0) a0_Done) 22
        else
          bif iEq a1_Op 63 then
            sallyportref8_kept1 (fun i0 => a0_X i0) a0_PC a0_Level a0_V (fun i0 => a0_C i0) a0_Done (sallyportref8_Level0 (fun i0 => a0_X i0) a0_PC a0_Level a0_V (fun i0 => a0_C i0) a0_Done) 20
          else
            bif iEq a1_Op 62 then
              bif sallyportref8_Insn_c0 a0_X a0_PC a0_Level a0_V a0_C a0_Done a1_Op a1_Rd a1_Rs1 a1_Rs2 a1_Imm a1_CSR then false
              else bif sallyportref8_Insn_c1 a0_X a0_PC a0_Level a0_V a0_C a0_Done a1_Op a1_Rd a1_Rs1 a1_Rs2 a1_Imm a1_CSR then false else true
            else
              bif bif iEq (sallyportref3_Class0 a1_Op) 11 then true else iEq (sallyportref3_Class0 a1_Op) 12 then
                bif iLe 4 (sallyportref8_Level0 (fun i0 => a0_X i0) a0_PC a0_Level a0_V (fun i0 => a0_C i0) a0_Done) then false
                else bif sallyportref8_Insn_c3 a0_X a0_PC a0_Level a0_V a0_C a0_Done a1_Op a1_Rd a1_Rs1 a1_Rs2 a1_Imm a1_CSR then false else true
              else true
def sallyportref8_InsnG (a0_X : Nat → Int) (a0_PC : Int) (a0_Level : Int) (a0_V : Bool) (a0_C : Nat → Int) (a0_Done : Int) (a1_Op : Int) (a1_Rd : Int) (a1_Rs1 : Int) (a1_Rs2 : Int) (a1_Imm : Int) (a1_CSR : Int) : Bool :=
  bif !sallyportref3_Is0 a1_Op a1_Rd a1_Rs1 a1_Rs2 a1_Imm a1_CSR then true
  else
    bif iEq (sallyportref3_Class0 a1_Op) 9 then true
    else
      bif iEq a1_Op 60 then true
      else
        bif iEq a1_Op 61 then true
        else
          bif iEq a1_Op 63 then true
          else
            bif iEq a1_Op 62 then
              (!(!iEq (sallyportref8_Level0 (fun i0 => a0_X i0) a0_PC a0_Level a0_V (fun i0 => a0_C i0) a0_Done) 0 &&
                      iNe (sallyportref8_Level0 (fun i0 => a0_X i0) a0_PC a0_Level a0_V (fun i0 => a0_C i0) a0_Done) 3) ||
                  sallyportref8_BitG (fun i0 => a0_X i0) a0_PC a0_Level a0_V (fun i0 => a0_C i0) a0_Done 0 21) &&
                bif sallyportref8_Insn_c0 a0_X a0_PC a0_Level a0_V a0_C a0_Done a1_Op a1_Rd a1_Rs1 a1_Rs2 a1_Imm a1_CSR then true
                else
                  (!(!iEq (sallyportref8_Level0 (fun i0 => a0_X i0) a0_PC a0_Level a0_V (fun i0 => a0_C i0) a0_Done) 4 &&
                          iEq (sallyportref8_Level0 (fun i0 => a0_X i0) a0_PC a0_Level a0_V (fun i0 => a0_C i0) a0_Done) 5) ||
                      sallyportref8_BitG (fun i0 => a0_X i0) a0_PC a0_Level a0_V (fun i0 => a0_C i0) a0_Done 16 21) &&
                    bif sallyportref8_Insn_c1 a0_X a0_PC a0_Level a0_V a0_C a0_Done a1_Op a1_Rd a1_Rs1 a1_Rs2 a1_Imm a1_CSR then true else true
            else
              bif bif iEq (sallyportref3_Class0 a1_Op) 11 then true else iEq (sallyportref3_Class0 a1_Op) 12 then
                bif iLe 4 (sallyportref8_Level0 (fun i0 => a0_X i0) a0_PC a0_Level a0_V (fun i0 => a0_C i0) a0_Done) then true
                else
                  (!(iEq (sallyportref8_Level0 (fun i0 => a0_X i0) a0_PC a0_Level a0_V (fun i0 => a0_C i0) a0_Done) 0 && !iEq (sallyportref3_Class0 a1_Op) 11) ||
                      sallyportref8_BitG (fun i0 => a0_X i0) a0_PC a0_Level a0_V (fun i0 => a0_C i0) a0_Done 16 9) &&
                    ((!(!sallyportref8_Insn_c2 a0_X a0_PC a0_Level a0_V a0_C a0_Done a1_Op a1_Rd a1_Rs1 a1_Rs2 a1_Imm a1_CSR &&
                            bif iEq a1_Op 65 then iEq (sallyportref8_Level0 (fun i0 => a0_X i0) a0_PC a0_Level a0_V (fun i0 => a0_C i0) a0_Done) 1 else false) ||
                        sallyportref8_BitG (fun i0 => a0_X i0) a0_PC a0_Level a0_V (fun i0 => a0_C i0) a0_Done 0 20) &&
                      bif sallyportref8_Insn_c3 a0_X a0_PC a0_Level a0_V a0_C a0_Done a1_Op a1_Rd a1_Rs1 a1_Rs2 a1_Imm a1_CSR then true else true)
              else true
def sallyportref8_InsnV (a0_X : Nat → Int) (a0_PC : Int) (a0_Level : Int) (a0_V : Bool) (a0_C : Nat → Int) (a0_Done : Int) (a1_Op : Int) (a1_Rd : Int) (a1_Rs1 : Int) (a1_Rs2 : Int) (a1_Imm : Int) (a1_CSR : Int) : AV := .tup [.it .u64 (sallyportref8_Insn0 a0_X a0_PC a0_Level a0_V a0_C a0_Done a1_Op a1_Rd a1_Rs1 a1_Rs2 a1_Imm a1_CSR), .bl (sallyportref8_Insn1 a0_X a0_PC a0_Level a0_V a0_C a0_Done a1_Op a1_Rd a1_Rs1 a1_Rs2 a1_Imm a1_CSR)]
theorem sallyportref8_InsnE (g : Nat → AV) : pcOf Try.prog okT (lookR T48) (inl Try.prog okT (lookR T48) RO FS 100 ST 2) RO NOV 100 false Try.f25 (norms [(.agg [(.arr 32 (.int .u64)), (.int .u64), (.int .i64), .bool, (.arr 29 (.int .u64)), (.int .u64)]), (.agg [(.int .i64), (.int .i64), (.int .i64), (.int .i64), (.int .i64), (.int .i64)])] 0 g) = some (sallyportref8_InsnG (fun i0 => (((g 0).fld 0).ix i0).num) (((g 0).fld 1).num) (((g 0).fld 2).num) (((g 0).fld 3).bool) (fun i0 => (((g 0).fld 4).ix i0).num) (((g 0).fld 5).num) (((g 1).fld 0).num) (((g 1).fld 1).num) (((g 1).fld 2).num) (((g 1).fld 3).num) (((g 1).fld 4).num) (((g 1).fld 5).num), sallyportref8_InsnV (fun i0 => (((g 0).fld 0).ix i0).num) (((g 0).fld 1).num) (((g 0).fld 2).num) (((g 0).fld 3).bool) (fun i0 => (((g 0).fld 4).ix i0).num) (((g 0).fld 5).num) (((g 1).fld 0).num) (((g 1).fld 1).num) (((g 1).fld 2).num) (((g 1).fld 3).num) (((g 1).fld 4).num) (((g 1).fld 5).num)) := by kernel_rfl
theorem sallyportref8_InsnP : Plain Try.prog 25 Try.f25 := ⟨Try.func25, of_decide_eq_true (by kernel_rfl)⟩
theorem sallyportref8_InsnT (a0_X : Nat → Int) (a0_PC : Int) (a0_Level : Int) (a0_V : Bool) (a0_C : Nat → Int) (a0_Done : Int) (a1_Op : Int) (a1_Rd : Int) (a1_Rs1 : Int) (a1_Rs2 : Int) (a1_Imm : Int) (a1_CSR : Int) : sallyportref8_InsnG a0_X a0_PC a0_Level a0_V a0_C a0_Done a1_Op a1_Rd a1_Rs1 a1_Rs2 a1_Imm a1_CSR = true := by simp [sallyportref8_InsnG, sallyportref8_BitG, show iIn 16 29 = true by decide, show iIn 0 29 = true by decide]
theorem sallyportref8_InsnO : RowOk Try.prog 25 (rowF [(.agg [(.arr 32 (.int .u64)), (.int .u64), (.int .i64), .bool, (.arr 29 (.int .u64)), (.int .u64)]), (.agg [(.int .i64), (.int .i64), (.int .i64), (.int .i64), (.int .i64), (.int .i64)])] none fun g => sallyportref8_InsnV (fun i0 => (((g 0).fld 0).ix i0).num) (((g 0).fld 1).num) (((g 0).fld 2).num) (((g 0).fld 3).bool) (fun i0 => (((g 0).fld 4).ix i0).num) (((g 0).fld 5).num) (((g 1).fld 0).num) (((g 1).fld 1).num) (((g 1).fld 2).num) (((g 1).fld 3).num) (((g 1).fld 4).num) (((g 1).fld 5).num)) := rowT_ok fun g => pcOf_ok mix fair T48_ok (inl_ok mix fair T48_ok FS_ok 2) sallyportref8_InsnP (fun c _ => OvOk_none c) (sallyportref8_InsnE g) (sallyportref8_InsnT (fun i0 => (((g 0).fld 0).ix i0).num) (((g 0).fld 1).num) (((g 0).fld 2).num) (((g 0).fld 3).bool) (fun i0 => (((g 0).fld 4).ix i0).num) (((g 0).fld 5).num) (((g 1).fld 0).num) (((g 1).fld 1).num) (((g 1).fld 2).num) (((g 1).fld 3).num) (((g 1).fld 4).num) (((g 1).fld 5).num))
def T25 : List Row := (25, (rowF [(.agg [(.arr 32 (.int .u64)), (.int .u64), (.int .i64), .bool, (.arr 29 (.int .u64)), (.int .u64)]), (.agg [(.int .i64), (.int .i64), (.int .i64), (.int .i64), (.int .i64), (.int .i64)])] none fun g => sallyportref8_InsnV (fun i0 => (((g 0).fld 0).ix i0).num) (((g 0).fld 1).num) (((g 0).fld 2).num) (((g 0).fld 3).bool) (fun i0 => (((g 0).fld 4).ix i0).num) (((g 0).fld 5).num) (((g 1).fld 0).num) (((g 1).fld 1).num) (((g 1).fld 2).num) (((g 1).fld 3).num) (((g 1).fld 4).num) (((g 1).fld 5).num))) :: T48
theorem T25_ok : PSound Try.prog (lookR T25) := lookR_cons sallyportref8_InsnO T48_ok

end
end Go.Proofs.Ytjnpaegoobclfaa.PV
