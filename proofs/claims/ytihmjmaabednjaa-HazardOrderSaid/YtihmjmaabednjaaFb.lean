/-
  What functions of the document's layer 3 yield, evaluated, and the statement HazardTells. Printed by a program of the prover's own (wip/prt).
-/
import Derived.Test.YtihmjmaabednjaaRows
import Derived.Test.YtihmjmaabednjaaEvV
import Derived.Test.YtihmjmaabednjaaFa
set_option linter.unusedVariables false
set_option linter.unusedSimpArgs false
namespace Go.Proofs.Ytihmjmaabednjaa.PV
noncomputable section
open Go Go.Ev
/- sallyport/sallyportref3.Class -/
def sallyportref3_Class0 (a0 : Int) : Int :=
  bif bif iLt a0 1 then true else iLe 70 a0 then 0
  else
    bif iLe a0 4 then 1
    else
      bif iLe a0 10 then 2
      else
        bif iLe a0 17 then 3
        else
          bif iLe a0 21 then 4
          else bif iLe a0 34 then 5 else bif iLe a0 49 then 6 else bif iLe a0 51 then 7 else bif iLe a0 53 then 8 else bif iLe a0 59 then 9 else bif iLe a0 62 then 10 else bif iLe a0 65 then 11 else 12
def sallyportref3_ClassG (a0 : Int) : Bool :=
  bif bif iLt a0 1 then true else iLe 70 a0 then true
  else
    bif iLe a0 4 then true
    else
      bif iLe a0 10 then true
      else
        bif iLe a0 17 then true
        else
          bif iLe a0 21 then true
          else
            bif iLe a0 34 then true
            else bif iLe a0 49 then true else bif iLe a0 51 then true else bif iLe a0 53 then true else bif iLe a0 59 then true else bif iLe a0 62 then true else bif iLe a0 65 then true else true
def sallyportref3_ClassV (a0 : Int) : AV := .it .i64 (sallyportref3_Class0 a0)
theorem sallyportref3_ClassE (g : Nat → AV) : pcOf Try.prog okT (lookR T5) (NOH) RO NOV 100 false Try.f12 (norms [(.int .i64)] 0 g) = some (sallyportref3_ClassG ((g 0).num), sallyportref3_ClassV ((g 0).num)) := by kernel_rfl
theorem sallyportref3_ClassP : Plain Try.prog 12 Try.f12 := ⟨Try.func12, of_decide_eq_true (by kernel_rfl)⟩
theorem sallyportref3_ClassT (a0 : Int) : sallyportref3_ClassG a0 = true := by first | (simp [sallyportref3_ClassG]; done) | (simp [sallyportref3_ClassG, Go.Ev.iEq, Go.Ev.iNe, Go.Ev.iLt, Go.Ev.iLe, Go.Ev.iIn]; omega)
theorem sallyportref3_ClassO : RowOk Try.prog 12 (rowF [(.int .i64)] none fun g => sallyportref3_ClassV ((g 0).num)) := rowT_ok fun g => pcOf_ok mix fair T5_ok (HSound_none) sallyportref3_ClassP (fun c _ => OvOk_none c) (sallyportref3_ClassE g) (sallyportref3_ClassT ((g 0).num))
def T12 : List Row := (12, (rowF [(.int .i64)] none fun g => sallyportref3_ClassV ((g 0).num))) :: T5
theorem T12_ok : PSound Try.prog (lookR T12) := lookR_cons sallyportref3_ClassO T5_ok

/- sallyport/sallyportref3.reg -/
def sallyportref3_reg0 (a0 : Int) (a1 : Bool) : Bool :=
  bif iEq a0 0 then true else bif bif a1 then iLt 0 a0 else false then iLt a0 32 else false
def sallyportref3_regG (a0 : Int) (a1 : Bool) : Bool :=
  true
def sallyportref3_regV (a0 : Int) (a1 : Bool) : AV := .bl (sallyportref3_reg0 a0 a1)
theorem sallyportref3_regE (g : Nat → AV) : pcOf Try.prog okT (lookR T12) (NOH) RO NOV 100 false Try.f35 (norms [(.int .i64), .bool] 0 g) = some (sallyportref3_regG ((g 0).num) ((g 1).bool), sallyportref3_regV ((g 0).num) ((g 1).bool)) := by kernel_rfl
theorem sallyportref3_regP : Plain Try.prog 35 Try.f35 := ⟨Try.func35, of_decide_eq_true (by kernel_rfl)⟩
theorem sallyportref3_regT (a0 : Int) (a1 : Bool) : sallyportref3_regG a0 a1 = true := rfl
theorem sallyportref3_regO : RowOk Try.prog 35 (rowF [(.int .i64), .bool] none fun g => sallyportref3_regV ((g 0).num) ((g 1).bool)) := rowT_ok fun g => pcOf_ok mix fair T12_ok (HSound_none) sallyportref3_regP (fun c _ => OvOk_none c) (sallyportref3_regE g) (sallyportref3_regT ((g 0).num) ((g 1).bool))
def T35 : List Row := (35, (rowF [(.int .i64), .bool] none fun g => sallyportref3_regV ((g 0).num) ((g 1).bool))) :: T12
theorem T35_ok : PSound Try.prog (lookR T35) := lookR_cons sallyportref3_regO T12_ok

/- sallyport/sallyportref3.within -/
def sallyportref3_within0 (a0 : Int) (a1 : Int) (a2 : Int) (a3 : Int) : Bool :=
  bif bif iLe a1 a0 then iLe a0 a2 else false then iEq (iRem a0 a3) 0 else false
def sallyportref3_withinG (a0 : Int) (a1 : Int) (a2 : Int) (a3 : Int) : Bool :=
  ((!bif iLe a1 a0 then iLe a0 a2 else false) || iNe a3 0) && true
def sallyportref3_withinV (a0 : Int) (a1 : Int) (a2 : Int) (a3 : Int) : AV := .bl (sallyportref3_within0 a0 a1 a2 a3)
theorem sallyportref3_withinE (g : Nat → AV) : pcOf Try.prog okT (lookR T35) (NOH) RO NOV 100 false Try.f40 (norms [(.int .i64), (.int .i64), (.int .i64), (.int .i64)] 0 g) = some (sallyportref3_withinG ((g 0).num) ((g 1).num) ((g 2).num) ((g 3).num), sallyportref3_withinV ((g 0).num) ((g 1).num) ((g 2).num) ((g 3).num)) := by kernel_rfl
theorem sallyportref3_withinP : Plain Try.prog 40 Try.f40 := ⟨Try.func40, of_decide_eq_true (by kernel_rfl)⟩
theorem sallyportref3_withinO : RowOk Try.prog 40 (rowF [(.int .i64), (.int .i64), (.int .i64), (.int .i64)] (some fun g => sallyportref3_withinG ((g 0).num) ((g 1).num) ((g 2).num) ((g 3).num)) fun g => sallyportref3_withinV ((g 0).num) ((g 1).num) ((g 2).num) ((g 3).num)) := rowF_ok fun g hg => pcOf_ok mix fair T35_ok (HSound_none) sallyportref3_withinP (fun c _ => OvOk_none c) (sallyportref3_withinE g) hg
def T40 : List Row := (40, (rowF [(.int .i64), (.int .i64), (.int .i64), (.int .i64)] (some fun g => sallyportref3_withinG ((g 0).num) ((g 1).num) ((g 2).num) ((g 3).num)) fun g => sallyportref3_withinV ((g 0).num) ((g 1).num) ((g 2).num) ((g 3).num))) :: T35
theorem T40_ok : PSound Try.prog (lookR T40) := lookR_cons sallyportref3_withinO T35_ok

/- sallyport/sallyportref3.Parts -/
def sallyportref3_Parts0 (a0 : Int) : Bool :=
  bif iEq (sallyportref3_Class0 a0) 1 then true
  else
    bif iEq (sallyportref3_Class0 a0) 2 then
      bif iEq (sallyportref3_Class0 a0) 2 then false
      else
        bif iEq (sallyportref3_Class0 a0) 3 then
          bif iEq (sallyportref3_Class0 a0) 3 then true
          else
            bif iEq (sallyportref3_Class0 a0) 6 then true
            else bif iEq (sallyportref3_Class0 a0) 9 then true else bif iEq (sallyportref3_Class0 a0) 11 then false else bif iEq (sallyportref3_Class0 a0) 12 then iNe a0 69 else false
        else
          bif iEq (sallyportref3_Class0 a0) 5 then true
          else
            bif iEq (sallyportref3_Class0 a0) 6 then true
            else bif iEq (sallyportref3_Class0 a0) 9 then true else bif iEq (sallyportref3_Class0 a0) 11 then false else bif iEq (sallyportref3_Class0 a0) 12 then iNe a0 69 else false
    else
      bif iEq (sallyportref3_Class0 a0) 4 then false
      else
        bif iEq (sallyportref3_Class0 a0) 3 then
          bif iEq (sallyportref3_Class0 a0) 3 then true
          else
            bif iEq (sallyportref3_Class0 a0) 6 then true
            else bif iEq (sallyportref3_Class0 a0) 9 then true else bif iEq (sallyportref3_Class0 a0) 11 then false else bif iEq (sallyportref3_Class0 a0) 12 then iNe a0 69 else false
        else
          bif iEq (sallyportref3_Class0 a0) 5 then true
          else
            bif iEq (sallyportref3_Class0 a0) 6 then true
            else bif iEq (sallyportref3_Class0 a0) 9 then true else bif iEq (sallyportref3_Class0 a0) 11 then false else bif iEq (sallyportref3_Class0 a0) 12 then iNe a0 69 else false
def sallyportref3_Parts1 (a0 : Int) : Bool :=
  bif iEq (sallyportref3_Class0 a0) 1 then iEq a0 4
  else
    bif iEq (sallyportref3_Class0 a0) 2 then
      bif iEq (sallyportref3_Class0 a0) 2 then true
      else
        bif iEq (sallyportref3_Class0 a0) 3 then
          bif iEq (sallyportref3_Class0 a0) 3 then true
          else
            bif iEq (sallyportref3_Class0 a0) 6 then true
            else bif iEq (sallyportref3_Class0 a0) 9 then !iLe 57 a0 else bif iEq (sallyportref3_Class0 a0) 11 then true else bif iEq (sallyportref3_Class0 a0) 12 then true else false
        else
          bif iEq (sallyportref3_Class0 a0) 5 then true
          else
            bif iEq (sallyportref3_Class0 a0) 6 then true
            else bif iEq (sallyportref3_Class0 a0) 9 then !iLe 57 a0 else bif iEq (sallyportref3_Class0 a0) 11 then true else bif iEq (sallyportref3_Class0 a0) 12 then true else false
    else
      bif iEq (sallyportref3_Class0 a0) 4 then true
      else
        bif iEq (sallyportref3_Class0 a0) 3 then
          bif iEq (sallyportref3_Class0 a0) 3 then true
          else
            bif iEq (sallyportref3_Class0 a0) 6 then true
            else bif iEq (sallyportref3_Class0 a0) 9 then !iLe 57 a0 else bif iEq (sallyportref3_Class0 a0) 11 then true else bif iEq (sallyportref3_Class0 a0) 12 then true else false
        else
          bif iEq (sallyportref3_Class0 a0) 5 then true
          else
            bif iEq (sallyportref3_Class0 a0) 6 then true
            else bif iEq (sallyportref3_Class0 a0) 9 then !iLe 57 a0 else bif iEq (sallyportref3_Class0 a0) 11 then true else bif iEq (sallyportref3_Class0 a0) 12 then true else false
def sallyportref3_Parts2 (a0 : Int) : Bool :=
  bif iEq (sallyportref3_Class0 a0) 1 then false
  else
    bif iEq (sallyportref3_Class0 a0) 2 then
      bif iEq (sallyportref3_Class0 a0) 2 then true
      else
        bif iEq (sallyportref3_Class0 a0) 3 then
          bif iEq (sallyportref3_Class0 a0) 3 then false
          else
            bif iEq (sallyportref3_Class0 a0) 6 then true
            else bif iEq (sallyportref3_Class0 a0) 9 then false else bif iEq (sallyportref3_Class0 a0) 11 then true else bif iEq (sallyportref3_Class0 a0) 12 then iEq a0 69 else false
        else
          bif iEq (sallyportref3_Class0 a0) 5 then false
          else
            bif iEq (sallyportref3_Class0 a0) 6 then true
            else bif iEq (sallyportref3_Class0 a0) 9 then false else bif iEq (sallyportref3_Class0 a0) 11 then true else bif iEq (sallyportref3_Class0 a0) 12 then iEq a0 69 else false
    else
      bif iEq (sallyportref3_Class0 a0) 4 then true
      else
        bif iEq (sallyportref3_Class0 a0) 3 then
          bif iEq (sallyportref3_Class0 a0) 3 then false
          else
            bif iEq (sallyportref3_Class0 a0) 6 then true
            else bif iEq (sallyportref3_Class0 a0) 9 then false else bif iEq (sallyportref3_Class0 a0) 11 then true else bif iEq (sallyportref3_Class0 a0) 12 then iEq a0 69 else false
        else
          bif iEq (sallyportref3_Class0 a0) 5 then false
          else
            bif iEq (sallyportref3_Class0 a0) 6 then true
            else bif iEq (sallyportref3_Class0 a0) 9 then false else bif iEq (sallyportref3_Class0 a0) 11 then true else bif iEq (sallyportref3_Class0 a0) 12 then iEq a0 69 else false
def sallyportref3_Parts3 (a0 : Int) : Bool :=
  bif iEq (sallyportref3_Class0 a0) 1 then false
  else
    bif iEq (sallyportref3_Class0 a0) 2 then
      bif iEq (sallyportref3_Class0 a0) 2 then false
      else
        bif iEq (sallyportref3_Class0 a0) 3 then
          bif iEq (sallyportref3_Class0 a0) 3 then false
          else
            bif iEq (sallyportref3_Class0 a0) 6 then false
            else bif iEq (sallyportref3_Class0 a0) 9 then true else bif iEq (sallyportref3_Class0 a0) 11 then false else bif iEq (sallyportref3_Class0 a0) 12 then false else false
        else
          bif iEq (sallyportref3_Class0 a0) 5 then false
          else
            bif iEq (sallyportref3_Class0 a0) 6 then false
            else bif iEq (sallyportref3_Class0 a0) 9 then true else bif iEq (sallyportref3_Class0 a0) 11 then false else bif iEq (sallyportref3_Class0 a0) 12 then false else false
    else
      bif iEq (sallyportref3_Class0 a0) 4 then false
      else
        bif iEq (sallyportref3_Class0 a0) 3 then
          bif iEq (sallyportref3_Class0 a0) 3 then false
          else
            bif iEq (sallyportref3_Class0 a0) 6 then false
            else bif iEq (sallyportref3_Class0 a0) 9 then true else bif iEq (sallyportref3_Class0 a0) 11 then false else bif iEq (sallyportref3_Class0 a0) 12 then false else false
        else
          bif iEq (sallyportref3_Class0 a0) 5 then false
          else
            bif iEq (sallyportref3_Class0 a0) 6 then false
            else bif iEq (sallyportref3_Class0 a0) 9 then true else bif iEq (sallyportref3_Class0 a0) 11 then false else bif iEq (sallyportref3_Class0 a0) 12 then false else false
def sallyportref3_Parts4 (a0 : Int) : Bool :=
  bif iEq (sallyportref3_Class0 a0) 1 then true
  else
    bif iEq (sallyportref3_Class0 a0) 2 then
      bif iEq (sallyportref3_Class0 a0) 2 then true
      else
        bif iEq (sallyportref3_Class0 a0) 3 then
          bif iEq (sallyportref3_Class0 a0) 3 then true
          else
            bif iEq (sallyportref3_Class0 a0) 6 then false
            else bif iEq (sallyportref3_Class0 a0) 9 then iLe 57 a0 else bif iEq (sallyportref3_Class0 a0) 11 then false else bif iEq (sallyportref3_Class0 a0) 12 then false else false
        else
          bif iEq (sallyportref3_Class0 a0) 5 then true
          else
            bif iEq (sallyportref3_Class0 a0) 6 then false
            else bif iEq (sallyportref3_Class0 a0) 9 then iLe 57 a0 else bif iEq (sallyportref3_Class0 a0) 11 then false else bif iEq (sallyportref3_Class0 a0) 12 then false else false
    else
      bif iEq (sallyportref3_Class0 a0) 4 then true
      else
        bif iEq (sallyportref3_Class0 a0) 3 then
          bif iEq (sallyportref3_Class0 a0) 3 then true
          else
            bif iEq (sallyportref3_Class0 a0) 6 then false
            else bif iEq (sallyportref3_Class0 a0) 9 then iLe 57 a0 else bif iEq (sallyportref3_Class0 a0) 11 then false else bif iEq (sallyportref3_Class0 a0) 12 then false else false
        else
          bif iEq (sallyportref3_Class0 a0) 5 then true
          else
            bif iEq (sallyportref3_Class0 a0) 6 then false
            else bif iEq (sallyportref3_Class0 a0) 9 then iLe 57 a0 else bif iEq (sallyportref3_Class0 a0) 11 then false else bif iEq (sallyportref3_Class0 a0) 12 then false else false
def sallyportref3_PartsG (a0 : Int) : Bool :=
  bif iEq (sallyportref3_Class0 a0) 1 then true
  else
    bif iEq (sallyportref3_Class0 a0) 2 then
      bif iEq (sallyportref3_Class0 a0) 2 then true
      else
        bif iEq (sallyportref3_Class0 a0) 3 then
          bif iEq (sallyportref3_Class0 a0) 3 then true
          else
            bif iEq (sallyportref3_Class0 a0) 6 then true
            else bif iEq (sallyportref3_Class0 a0) 9 then true else bif iEq (sallyportref3_Class0 a0) 11 then true else bif iEq (sallyportref3_Class0 a0) 12 then true else true
        else
          bif iEq (sallyportref3_Class0 a0) 5 then true
          else
            bif iEq (sallyportref3_Class0 a0) 6 then true
            else bif iEq (sallyportref3_Class0 a0) 9 then true else bif iEq (sallyportref3_Class0 a0) 11 then true else bif iEq (sallyportref3_Class0 a0) 12 then true else true
    else
      bif iEq (sallyportref3_Class0 a0) 4 then true
      else
        bif iEq (sallyportref3_Class0 a0) 3 then
          bif iEq (sallyportref3_Class0 a0) 3 then true
          else
            bif iEq (sallyportref3_Class0 a0) 6 then true
            else bif iEq (sallyportref3_Class0 a0) 9 then true else bif iEq (sallyportref3_Class0 a0) 11 then true else bif iEq (sallyportref3_Class0 a0) 12 then true else true
        else
          bif iEq (sallyportref3_Class0 a0) 5 then true
          else
            bif iEq (sallyportref3_Class0 a0) 6 then true
            else bif iEq (sallyportref3_Class0 a0) 9 then true else bif iEq (sallyportref3_Class0 a0) 11 then true else bif iEq (sallyportref3_Class0 a0) 12 then true else true
def sallyportref3_PartsV (a0 : Int) : AV := .tup [.bl (sallyportref3_Parts0 a0), .bl (sallyportref3_Parts1 a0), .bl (sallyportref3_Parts2 a0), .bl (sallyportref3_Parts3 a0), .bl (sallyportref3_Parts4 a0)]
theorem sallyportref3_PartsE (g : Nat → AV) : pcOf Try.prog okT (lookR T40) (NOH) RO NOV 100 false Try.f34 (norms [(.int .i64)] 0 g) = some (sallyportref3_PartsG ((g 0).num), sallyportref3_PartsV ((g 0).num)) := by kernel_rfl
theorem sallyportref3_PartsP : Plain Try.prog 34 Try.f34 := ⟨Try.func34, of_decide_eq_true (by kernel_rfl)⟩
theorem sallyportref3_PartsT (a0 : Int) : sallyportref3_PartsG a0 = true := by first | (simp [sallyportref3_PartsG]; done) | (simp [sallyportref3_PartsG, Go.Ev.iEq, Go.Ev.iNe, Go.Ev.iLt, Go.Ev.iLe, Go.Ev.iIn]; omega)
theorem sallyportref3_PartsO : RowOk Try.prog 34 (rowF [(.int .i64)] none fun g => sallyportref3_PartsV ((g 0).num)) := rowT_ok fun g => pcOf_ok mix fair T40_ok (HSound_none) sallyportref3_PartsP (fun c _ => OvOk_none c) (sallyportref3_PartsE g) (sallyportref3_PartsT ((g 0).num))
def T34 : List Row := (34, (rowF [(.int .i64)] none fun g => sallyportref3_PartsV ((g 0).num))) :: T40
theorem T34_ok : PSound Try.prog (lookR T34) := lookR_cons sallyportref3_PartsO T40_ok

/- sallyport/sallyportref3.number -/
def sallyportref3_number0 (a0_Op : Int) (a0_Rd : Int) (a0_Rs1 : Int) (a0_Rs2 : Int) (a0_Imm : Int) (a0_CSR : Int) : Bool :=
  bif iLe a0_Op 2 then sallyportref3_within0 a0_Imm (-2147483648) 2147479552 4096
  else
    bif iEq a0_Op 3 then sallyportref3_within0 a0_Imm (-1048576) 1048574 2
    else
      bif iEq (sallyportref3_Class0 a0_Op) 2 then sallyportref3_within0 a0_Imm (-4096) 4094 2
      else
        bif bif iLe 28 a0_Op then iLe a0_Op 30 else false then sallyportref3_within0 a0_Imm 0 63 1
        else
          bif bif bif iLe 32 a0_Op then iLe a0_Op 34 else false then true else iEq (sallyportref3_Class0 a0_Op) 9 then sallyportref3_within0 a0_Imm 0 31 1
          else sallyportref3_within0 a0_Imm (-2048) 2047 1
def sallyportref3_numberG (a0_Op : Int) (a0_Rd : Int) (a0_Rs1 : Int) (a0_Rs2 : Int) (a0_Imm : Int) (a0_CSR : Int) : Bool :=
  bif iLe a0_Op 2 then sallyportref3_withinG a0_Imm (-2147483648) 2147479552 4096 && true
  else
    bif iEq a0_Op 3 then sallyportref3_withinG a0_Imm (-1048576) 1048574 2 && true
    else
      bif iEq (sallyportref3_Class0 a0_Op) 2 then sallyportref3_withinG a0_Imm (-4096) 4094 2 && true
      else
        bif bif iLe 28 a0_Op then iLe a0_Op 30 else false then sallyportref3_withinG a0_Imm 0 63 1 && true
        else
          bif bif bif iLe 32 a0_Op then iLe a0_Op 34 else false then true else iEq (sallyportref3_Class0 a0_Op) 9 then sallyportref3_withinG a0_Imm 0 31 1 && true
          else sallyportref3_withinG a0_Imm (-2048) 2047 1 && true
def sallyportref3_numberV (a0_Op : Int) (a0_Rd : Int) (a0_Rs1 : Int) (a0_Rs2 : Int) (a0_Imm : Int) (a0_CSR : Int) : AV := .bl (sallyportref3_number0 a0_Op a0_Rd a0_Rs1 a0_Rs2 a0_Imm a0_CSR)
theorem sallyportref3_numberE (g : Nat → AV) : pcOf Try.prog okT (lookR T34) (NOH) RO NOV 100 false Try.f36 (norms [(.agg [(.int .i64), (.int .i64), (.int .i64), (.int .i64), (.int .i64), (.int .i64)])] 0 g) = some (sallyportref3_numberG (((g 0).fld 0).num) (((g 0).fld 1).num) (((g 0).fld 2).num) (((g 0).fld 3).num) (((g 0).fld 4).num) (((g 0).fld 5).num), sallyportref3_numberV (((g 0).fld 0).num) (((g 0).fld 1).num) (((g 0).fld 2).num) (((g 0).fld 3).num) (((g 0).fld 4).num) (((g 0).fld 5).num)) := by kernel_rfl
theorem sallyportref3_numberP : Plain Try.prog 36 Try.f36 := ⟨Try.func36, of_decide_eq_true (by kernel_rfl)⟩
theorem sallyportref3_numberT (a0_Op : Int) (a0_Rd : Int) (a0_Rs1 : Int) (a0_Rs2 : Int) (a0_Imm : Int) (a0_CSR : Int) : sallyportref3_numberG a0_Op a0_Rd a0_Rs1 a0_Rs2 a0_Imm a0_CSR = true := by simp [sallyportref3_numberG, sallyportref3_withinG, Go.Ev.iNe]
theorem sallyportref3_numberO : RowOk Try.prog 36 (rowF [(.agg [(.int .i64), (.int .i64), (.int .i64), (.int .i64), (.int .i64), (.int .i64)])] none fun g => sallyportref3_numberV (((g 0).fld 0).num) (((g 0).fld 1).num) (((g 0).fld 2).num) (((g 0).fld 3).num) (((g 0).fld 4).num) (((g 0).fld 5).num)) := rowT_ok fun g => pcOf_ok mix fair T34_ok (HSound_none) sallyportref3_numberP (fun c _ => OvOk_none c) (sallyportref3_numberE g) (sallyportref3_numberT (((g 0).fld 0).num) (((g 0).fld 1).num) (((g 0).fld 2).num) (((g 0).fld 3).num) (((g 0).fld 4).num) (((g 0).fld 5).num))
def T36 : List Row := (36, (rowF [(.agg [(.int .i64), (.int .i64), (.int .i64), (.int .i64), (.int .i64), (.int .i64)])] none fun g => sallyportref3_numberV (((g 0).fld 0).num) (((g 0).fld 1).num) (((g 0).fld 2).num) (((g 0).fld 3).num) (((g 0).fld 4).num) (((g 0).fld 5).num))) :: T34
theorem T36_ok : PSound Try.prog (lookR T36) := lookR_cons sallyportref3_numberO T34_ok

/- sallyport/sallyportref3.Is -/
def sallyportref3_Is0 (a0_Op : Int) (a0_Rd : Int) (a0_Rs1 : Int) (a0_Rs2 : Int) (a0_Imm : Int) (a0_CSR : Int) : Bool :=
  bif iEq (sallyportref3_Class0 a0_Op) 0 then false
  else
    bif
        bif
            bif bif !sallyportref3_reg0 a0_Rd (sallyportref3_Parts0 a0_Op) then true else !sallyportref3_reg0 a0_Rs1 (sallyportref3_Parts1 a0_Op) then true
            else !sallyportref3_reg0 a0_Rs2 (sallyportref3_Parts2 a0_Op) then
          true
        else bif iNe a0_CSR 0 then bif bif !sallyportref3_Parts3 a0_Op then true else iLt a0_CSR 0 then true else iLt 4095 a0_CSR else false then
      false
    else bif !sallyportref3_Parts4 a0_Op then iEq a0_Imm 0 else sallyportref3_number0 a0_Op a0_Rd a0_Rs1 a0_Rs2 a0_Imm a0_CSR
def sallyportref3_IsG (a0_Op : Int) (a0_Rd : Int) (a0_Rs1 : Int) (a0_Rs2 : Int) (a0_Imm : Int) (a0_CSR : Int) : Bool :=
  bif iEq (sallyportref3_Class0 a0_Op) 0 then true
  else
    bif
        bif
            bif bif !sallyportref3_reg0 a0_Rd (sallyportref3_Parts0 a0_Op) then true else !sallyportref3_reg0 a0_Rs1 (sallyportref3_Parts1 a0_Op) then true
            else !sallyportref3_reg0 a0_Rs2 (sallyportref3_Parts2 a0_Op) then
          true
        else bif iNe a0_CSR 0 then bif bif !sallyportref3_Parts3 a0_Op then true else iLt a0_CSR 0 then true else iLt 4095 a0_CSR else false then
      true
    else bif !sallyportref3_Parts4 a0_Op then true else true
def sallyportref3_IsV (a0_Op : Int) (a0_Rd : Int) (a0_Rs1 : Int) (a0_Rs2 : Int) (a0_Imm : Int) (a0_CSR : Int) : AV := .bl (sallyportref3_Is0 a0_Op a0_Rd a0_Rs1 a0_Rs2 a0_Imm a0_CSR)
theorem sallyportref3_IsE (g : Nat → AV) : pcOf Try.prog okT (lookR T36) (NOH) RO NOV 100 false Try.f26 (norms [(.agg [(.int .i64), (.int .i64), (.int .i64), (.int .i64), (.int .i64), (.int .i64)])] 0 g) = some (sallyportref3_IsG (((g 0).fld 0).num) (((g 0).fld 1).num) (((g 0).fld 2).num) (((g 0).fld 3).num) (((g 0).fld 4).num) (((g 0).fld 5).num), sallyportref3_IsV (((g 0).fld 0).num) (((g 0).fld 1).num) (((g 0).fld 2).num) (((g 0).fld 3).num) (((g 0).fld 4).num) (((g 0).fld 5).num)) := by kernel_rfl
theorem sallyportref3_IsP : Plain Try.prog 26 Try.f26 := ⟨Try.func26, of_decide_eq_true (by kernel_rfl)⟩
theorem sallyportref3_IsT (a0_Op : Int) (a0_Rd : Int) (a0_Rs1 : Int) (a0_Rs2 : Int) (a0_Imm : Int) (a0_CSR : Int) : sallyportref3_IsG a0_Op a0_Rd a0_Rs1 a0_Rs2 a0_Imm a0_CSR = true := by first | (simp [sallyportref3_IsG]; done) | (simp [sallyportref3_IsG, Go.Ev.iEq, Go.Ev.iNe, Go.Ev.iLt, Go.Ev.iLe, Go.Ev.iIn]; omega)
theorem sallyportref3_IsO : RowOk Try.prog 26 (rowF [(.agg [(.int .i64), (.int .i64), (.int .i64), (.int .i64), (.int .i64), (.int .i64)])] none fun g => sallyportref3_IsV (((g 0).fld 0).num) (((g 0).fld 1).num) (((g 0).fld 2).num) (((g 0).fld 3).num) (((g 0).fld 4).num) (((g 0).fld 5).num)) := rowT_ok fun g => pcOf_ok mix fair T36_ok (HSound_none) sallyportref3_IsP (fun c _ => OvOk_none c) (sallyportref3_IsE g) (sallyportref3_IsT (((g 0).fld 0).num) (((g 0).fld 1).num) (((g 0).fld 2).num) (((g 0).fld 3).num) (((g 0).fld 4).num) (((g 0).fld 5).num))
def T26 : List Row := (26, (rowF [(.agg [(.int .i64), (.int .i64), (.int .i64), (.int .i64), (.int .i64), (.int .i64)])] none fun g => sallyportref3_IsV (((g 0).fld 0).num) (((g 0).fld 1).num) (((g 0).fld 2).num) (((g 0).fld 3).num) (((g 0).fld 4).num) (((g 0).fld 5).num))) :: T36
theorem T26_ok : PSound Try.prog (lookR T26) := lookR_cons sallyportref3_IsO T36_ok

/- sallyport/sallyportref3.Writes -/
def sallyportref3_Writes0 (a0_Op : Int) (a0_Rd : Int) (a0_Rs1 : Int) (a0_Rs2 : Int) (a0_Imm : Int) (a0_CSR : Int) : Int :=
  bif !sallyportref3_Is0 a0_Op a0_Rd a0_Rs1 a0_Rs2 a0_Imm a0_CSR then 0 else a0_Rd
def sallyportref3_WritesG (a0_Op : Int) (a0_Rd : Int) (a0_Rs1 : Int) (a0_Rs2 : Int) (a0_Imm : Int) (a0_CSR : Int) : Bool :=
  bif !sallyportref3_Is0 a0_Op a0_Rd a0_Rs1 a0_Rs2 a0_Imm a0_CSR then true else true
def sallyportref3_WritesV (a0_Op : Int) (a0_Rd : Int) (a0_Rs1 : Int) (a0_Rs2 : Int) (a0_Imm : Int) (a0_CSR : Int) : AV := .it .i64 (sallyportref3_Writes0 a0_Op a0_Rd a0_Rs1 a0_Rs2 a0_Imm a0_CSR)
theorem sallyportref3_WritesE (g : Nat → AV) : pcOf Try.prog okT (lookR T26) (NOH) RO NOV 100 false Try.f14 (norms [(.agg [(.int .i64), (.int .i64), (.int .i64), (.int .i64), (.int .i64), (.int .i64)])] 0 g) = some (sallyportref3_WritesG (((g 0).fld 0).num) (((g 0).fld 1).num) (((g 0).fld 2).num) (((g 0).fld 3).num) (((g 0).fld 4).num) (((g 0).fld 5).num), sallyportref3_WritesV (((g 0).fld 0).num) (((g 0).fld 1).num) (((g 0).fld 2).num) (((g 0).fld 3).num) (((g 0).fld 4).num) (((g 0).fld 5).num)) := by kernel_rfl
theorem sallyportref3_WritesP : Plain Try.prog 14 Try.f14 := ⟨Try.func14, of_decide_eq_true (by kernel_rfl)⟩
theorem sallyportref3_WritesT (a0_Op : Int) (a0_Rd : Int) (a0_Rs1 : Int) (a0_Rs2 : Int) (a0_Imm : Int) (a0_CSR : Int) : sallyportref3_WritesG a0_Op a0_Rd a0_Rs1 a0_Rs2 a0_Imm a0_CSR = true := by first | (simp [sallyportref3_WritesG]; done) | (simp [sallyportref3_WritesG, Go.Ev.iEq, Go.Ev.iNe, Go.Ev.iLt, Go.Ev.iLe, Go.Ev.iIn]; omega)
theorem sallyportref3_WritesO : RowOk Try.prog 14 (rowF [(.agg [(.int .i64), (.int .i64), (.int .i64), (.int .i64), (.int .i64), (.int .i64)])] none fun g => sallyportref3_WritesV (((g 0).fld 0).num) (((g 0).fld 1).num) (((g 0).fld 2).num) (((g 0).fld 3).num) (((g 0).fld 4).num) (((g 0).fld 5).num)) := rowT_ok fun g => pcOf_ok mix fair T26_ok (HSound_none) sallyportref3_WritesP (fun c _ => OvOk_none c) (sallyportref3_WritesE g) (sallyportref3_WritesT (((g 0).fld 0).num) (((g 0).fld 1).num) (((g 0).fld 2).num) (((g 0).fld 3).num) (((g 0).fld 4).num) (((g 0).fld 5).num))
def T14 : List Row := (14, (rowF [(.agg [(.int .i64), (.int .i64), (.int .i64), (.int .i64), (.int .i64), (.int .i64)])] none fun g => sallyportref3_WritesV (((g 0).fld 0).num) (((g 0).fld 1).num) (((g 0).fld 2).num) (((g 0).fld 3).num) (((g 0).fld 4).num) (((g 0).fld 5).num))) :: T26
theorem T14_ok : PSound Try.prog (lookR T14) := lookR_cons sallyportref3_WritesO T26_ok

/- sallyport/sallyportref3.Reads -/
def sallyportref3_Reads0 (a0_Op : Int) (a0_Rd : Int) (a0_Rs1 : Int) (a0_Rs2 : Int) (a0_Imm : Int) (a0_CSR : Int) : Int :=
  bif !sallyportref3_Is0 a0_Op a0_Rd a0_Rs1 a0_Rs2 a0_Imm a0_CSR then 0 else a0_Rs1
def sallyportref3_Reads1 (a0_Op : Int) (a0_Rd : Int) (a0_Rs1 : Int) (a0_Rs2 : Int) (a0_Imm : Int) (a0_CSR : Int) : Int :=
  bif !sallyportref3_Is0 a0_Op a0_Rd a0_Rs1 a0_Rs2 a0_Imm a0_CSR then 0 else a0_Rs2
def sallyportref3_ReadsG (a0_Op : Int) (a0_Rd : Int) (a0_Rs1 : Int) (a0_Rs2 : Int) (a0_Imm : Int) (a0_CSR : Int) : Bool :=
  bif !sallyportref3_Is0 a0_Op a0_Rd a0_Rs1 a0_Rs2 a0_Imm a0_CSR then true else true
def sallyportref3_ReadsV (a0_Op : Int) (a0_Rd : Int) (a0_Rs1 : Int) (a0_Rs2 : Int) (a0_Imm : Int) (a0_CSR : Int) : AV := .tup [.it .i64 (sallyportref3_Reads0 a0_Op a0_Rd a0_Rs1 a0_Rs2 a0_Imm a0_CSR), .it .i64 (sallyportref3_Reads1 a0_Op a0_Rd a0_Rs1 a0_Rs2 a0_Imm a0_CSR)]
theorem sallyportref3_ReadsE (g : Nat → AV) : pcOf Try.prog okT (lookR T14) (NOH) RO NOV 100 false Try.f20 (norms [(.agg [(.int .i64), (.int .i64), (.int .i64), (.int .i64), (.int .i64), (.int .i64)])] 0 g) = some (sallyportref3_ReadsG (((g 0).fld 0).num) (((g 0).fld 1).num) (((g 0).fld 2).num) (((g 0).fld 3).num) (((g 0).fld 4).num) (((g 0).fld 5).num), sallyportref3_ReadsV (((g 0).fld 0).num) (((g 0).fld 1).num) (((g 0).fld 2).num) (((g 0).fld 3).num) (((g 0).fld 4).num) (((g 0).fld 5).num)) := by kernel_rfl
theorem sallyportref3_ReadsP : Plain Try.prog 20 Try.f20 := ⟨Try.func20, of_decide_eq_true (by kernel_rfl)⟩
theorem sallyportref3_ReadsT (a0_Op : Int) (a0_Rd : Int) (a0_Rs1 : Int) (a0_Rs2 : Int) (a0_Imm : Int) (a0_CSR : Int) : sallyportref3_ReadsG a0_Op a0_Rd a0_Rs1 a0_Rs2 a0_Imm a0_CSR = true := by first | (simp [sallyportref3_ReadsG]; done) | (simp [sallyportref3_ReadsG, Go.Ev.iEq, Go.Ev.iNe, Go.Ev.iLt, Go.Ev.iLe, Go.Ev.iIn]; omega)
theorem sallyportref3_ReadsO : RowOk Try.prog 20 (rowF [(.agg [(.int .i64), (.int .i64), (.int .i64), (.int .i64), (.int .i64), (.int .i64)])] none fun g => sallyportref3_ReadsV (((g 0).fld 0).num) (((g 0).fld 1).num) (((g 0).fld 2).num) (((g 0).fld 3).num) (((g 0).fld 4).num) (((g 0).fld 5).num)) := rowT_ok fun g => pcOf_ok mix fair T14_ok (HSound_none) sallyportref3_ReadsP (fun c _ => OvOk_none c) (sallyportref3_ReadsE g) (sallyportref3_ReadsT (((g 0).fld 0).num) (((g 0).fld 1).num) (((g 0).fld 2).num) (((g 0).fld 3).num) (((g 0).fld 4).num) (((g 0).fld 5).num))
def T20 : List Row := (20, (rowF [(.agg [(.int .i64), (.int .i64), (.int .i64), (.int .i64), (.int .i64), (.int .i64)])] none fun g => sallyportref3_ReadsV (((g 0).fld 0).num) (((g 0).fld 1).num) (((g 0).fld 2).num) (((g 0).fld 3).num) (((g 0).fld 4).num) (((g 0).fld 5).num))) :: T14
theorem T20_ok : PSound Try.prog (lookR T20) := lookR_cons sallyportref3_ReadsO T14_ok

/- sallyport/sallyportlaw21.uses -/
def sallyportlaw21_uses0 (a0_Op : Int) (a0_Rd : Int) (a0_Rs1 : Int) (a0_Rs2 : Int) (a0_Imm : Int) (a0_CSR : Int) (a1 : Int) : Bool :=
  bif iNe a1 0 then bif iEq (sallyportref3_Reads0 a0_Op a0_Rd a0_Rs1 a0_Rs2 a0_Imm a0_CSR) a1 then true else iEq (sallyportref3_Reads1 a0_Op a0_Rd a0_Rs1 a0_Rs2 a0_Imm a0_CSR) a1 else false
def sallyportlaw21_usesG (a0_Op : Int) (a0_Rd : Int) (a0_Rs1 : Int) (a0_Rs2 : Int) (a0_Imm : Int) (a0_CSR : Int) (a1 : Int) : Bool :=
  true
def sallyportlaw21_usesV (a0_Op : Int) (a0_Rd : Int) (a0_Rs1 : Int) (a0_Rs2 : Int) (a0_Imm : Int) (a0_CSR : Int) (a1 : Int) : AV := .bl (sallyportlaw21_uses0 a0_Op a0_Rd a0_Rs1 a0_Rs2 a0_Imm a0_CSR a1)
theorem sallyportlaw21_usesE (g : Nat → AV) : pcOf Try.prog okT (lookR T20) (NOH) RO NOV 100 false Try.f13 (norms [(.agg [(.int .i64), (.int .i64), (.int .i64), (.int .i64), (.int .i64), (.int .i64)]), (.int .i64)] 0 g) = some (sallyportlaw21_usesG (((g 0).fld 0).num) (((g 0).fld 1).num) (((g 0).fld 2).num) (((g 0).fld 3).num) (((g 0).fld 4).num) (((g 0).fld 5).num) ((g 1).num), sallyportlaw21_usesV (((g 0).fld 0).num) (((g 0).fld 1).num) (((g 0).fld 2).num) (((g 0).fld 3).num) (((g 0).fld 4).num) (((g 0).fld 5).num) ((g 1).num)) := by kernel_rfl
theorem sallyportlaw21_usesP : Plain Try.prog 13 Try.f13 := ⟨Try.func13, of_decide_eq_true (by kernel_rfl)⟩
theorem sallyportlaw21_usesT (a0_Op : Int) (a0_Rd : Int) (a0_Rs1 : Int) (a0_Rs2 : Int) (a0_Imm : Int) (a0_CSR : Int) (a1 : Int) : sallyportlaw21_usesG a0_Op a0_Rd a0_Rs1 a0_Rs2 a0_Imm a0_CSR a1 = true := rfl
theorem sallyportlaw21_usesO : RowOk Try.prog 13 (rowF [(.agg [(.int .i64), (.int .i64), (.int .i64), (.int .i64), (.int .i64), (.int .i64)]), (.int .i64)] none fun g => sallyportlaw21_usesV (((g 0).fld 0).num) (((g 0).fld 1).num) (((g 0).fld 2).num) (((g 0).fld 3).num) (((g 0).fld 4).num) (((g 0).fld 5).num) ((g 1).num)) := rowT_ok fun g => pcOf_ok mix fair T20_ok (HSound_none) sallyportlaw21_usesP (fun c _ => OvOk_none c) (sallyportlaw21_usesE g) (sallyportlaw21_usesT (((g 0).fld 0).num) (((g 0).fld 1).num) (((g 0).fld 2).num) (((g 0).fld 3).num) (((g 0).fld 4).num) (((g 0).fld 5).num) ((g 1).num))
def T13 : List Row := (13, (rowF [(.agg [(.int .i64), (.int .i64), (.int .i64), (.int .i64), (.int .i64), (.int .i64)]), (.int .i64)] none fun g => sallyportlaw21_usesV (((g 0).fld 0).num) (((g 0).fld 1).num) (((g 0).fld 2).num) (((g 0).fld 3).num) (((g 0).fld 4).num) (((g 0).fld 5).num) ((g 1).num))) :: T20
theorem T13_ok : PSound Try.prog (lookR T13) := lookR_cons sallyportlaw21_usesO T20_ok

/- sallyport/sallyportlaw21.HazardTells -/
def sallyportlaw21_HazardTells0 (a0_Op : Int) (a0_Rd : Int) (a0_Rs1 : Int) (a0_Rs2 : Int) (a0_Imm : Int) (a0_CSR : Int) (a1_Op : Int) (a1_Rd : Int) (a1_Rs1 : Int) (a1_Rs2 : Int) (a1_Imm : Int) (a1_CSR : Int) (a2 : Int) : Bool :=
  bif
      bif
          bif hazard_Uses0 a1_Op a1_Rd a1_Rs1 a1_Rs2 a1_Imm a1_CSR a2 == sallyportlaw21_uses0 a1_Op a1_Rd a1_Rs1 a1_Rs2 a1_Imm a1_CSR a2 then
            hazard_Passes0 a0_Op a0_Rd a0_Rs1 a0_Rs2 a0_Imm a0_CSR a1_Op a1_Rd a1_Rs1 a1_Rs2 a1_Imm a1_CSR ==
              sallyportlaw21_uses0 a1_Op a1_Rd a1_Rs1 a1_Rs2 a1_Imm a1_CSR (sallyportref3_Writes0 a0_Op a0_Rd a0_Rs1 a0_Rs2 a0_Imm a0_CSR)
          else false then
        hazard_Waits0 a0_Op a0_Rd a0_Rs1 a0_Rs2 a0_Imm a0_CSR a1_Op a1_Rd a1_Rs1 a1_Rs2 a1_Imm a1_CSR ==
          bif sallyportlaw21_uses0 a1_Op a1_Rd a1_Rs1 a1_Rs2 a1_Imm a1_CSR (sallyportref3_Writes0 a0_Op a0_Rd a0_Rs1 a0_Rs2 a0_Imm a0_CSR) then
            bif iEq (sallyportref3_Class0 a0_Op) 3 then true else iEq (sallyportref3_Class0 a0_Op) 12
          else false
      else false then
    hazard_Alone0 a1_Op a1_Rd a1_Rs1 a1_Rs2 a1_Imm a1_CSR == bif iEq a1_Op 51 then true else iLe 8 (sallyportref3_Class0 a1_Op)
  else false
def sallyportlaw21_HazardTellsG (a0_Op : Int) (a0_Rd : Int) (a0_Rs1 : Int) (a0_Rs2 : Int) (a0_Imm : Int) (a0_CSR : Int) (a1_Op : Int) (a1_Rd : Int) (a1_Rs1 : Int) (a1_Rs2 : Int) (a1_Imm : Int) (a1_CSR : Int) (a2 : Int) : Bool :=
  true
def sallyportlaw21_HazardTellsV (a0_Op : Int) (a0_Rd : Int) (a0_Rs1 : Int) (a0_Rs2 : Int) (a0_Imm : Int) (a0_CSR : Int) (a1_Op : Int) (a1_Rd : Int) (a1_Rs1 : Int) (a1_Rs2 : Int) (a1_Imm : Int) (a1_CSR : Int) (a2 : Int) : AV := .bl (sallyportlaw21_HazardTells0 a0_Op a0_Rd a0_Rs1 a0_Rs2 a0_Imm a0_CSR a1_Op a1_Rd a1_Rs1 a1_Rs2 a1_Imm a1_CSR a2)
theorem sallyportlaw21_HazardTellsE (g : Nat → AV) : pcOf Try.prog okT (lookR T13) (NOH) RO NOV 100 false Try.f3 (norms [(.agg [(.int .i64), (.int .i64), (.int .i64), (.int .i64), (.int .i64), (.int .i64)]), (.agg [(.int .i64), (.int .i64), (.int .i64), (.int .i64), (.int .i64), (.int .i64)]), (.int .i64)] 0 g) = some (sallyportlaw21_HazardTellsG (((g 0).fld 0).num) (((g 0).fld 1).num) (((g 0).fld 2).num) (((g 0).fld 3).num) (((g 0).fld 4).num) (((g 0).fld 5).num) (((g 1).fld 0).num) (((g 1).fld 1).num) (((g 1).fld 2).num) (((g 1).fld 3).num) (((g 1).fld 4).num) (((g 1).fld 5).num) ((g 2).num), sallyportlaw21_HazardTellsV (((g 0).fld 0).num) (((g 0).fld 1).num) (((g 0).fld 2).num) (((g 0).fld 3).num) (((g 0).fld 4).num) (((g 0).fld 5).num) (((g 1).fld 0).num) (((g 1).fld 1).num) (((g 1).fld 2).num) (((g 1).fld 3).num) (((g 1).fld 4).num) (((g 1).fld 5).num) ((g 2).num)) := by kernel_rfl
theorem sallyportlaw21_HazardTellsP : Plain Try.prog 3 Try.f3 := ⟨Try.func3, of_decide_eq_true (by kernel_rfl)⟩
theorem sallyportlaw21_HazardTellsT (a0_Op : Int) (a0_Rd : Int) (a0_Rs1 : Int) (a0_Rs2 : Int) (a0_Imm : Int) (a0_CSR : Int) (a1_Op : Int) (a1_Rd : Int) (a1_Rs1 : Int) (a1_Rs2 : Int) (a1_Imm : Int) (a1_CSR : Int) (a2 : Int) : sallyportlaw21_HazardTellsG a0_Op a0_Rd a0_Rs1 a0_Rs2 a0_Imm a0_CSR a1_Op a1_Rd a1_Rs1 a1_Rs2 a1_Imm a1_CSR a2 = true := rfl
theorem sallyportlaw21_HazardTellsO : RowOk Try.prog 3 (rowF [(.agg [(.int .i64), (.int .i64), (.int .i64), (.int .i64), (.int .i64), (.int .i64)]), (.agg [(.int .i64), (.int .i64), (.int .i64), (.int .i64), (.int .i64), (.int .i64)]), (.int .i64)] none fun g => sallyportlaw21_HazardTellsV (((g 0).fld 0).num) (((g 0).fld 1).num) (((g 0).fld 2).num) (((g 0).fld 3).num) (((g 0).fld 4).num) (((g 0).fld 5).num) (((g 1).fld 0).num) (((g 1).fld 1).num) (((g 1).fld 2).num) (((g 1).fld 3).num) (((g 1).fld 4).num) (((g 1).fld 5).num) ((g 2).num)) := rowT_ok fun g => pcOf_ok mix fair T13_ok (HSound_none) sallyportlaw21_HazardTellsP (fun c _ => OvOk_none c) (sallyportlaw21_HazardTellsE g) (sallyportlaw21_HazardTellsT (((g 0).fld 0).num) (((g 0).fld 1).num) (((g 0).fld 2).num) (((g 0).fld 3).num) (((g 0).fld 4).num) (((g 0).fld 5).num) (((g 1).fld 0).num) (((g 1).fld 1).num) (((g 1).fld 2).num) (((g 1).fld 3).num) (((g 1).fld 4).num) (((g 1).fld 5).num) ((g 2).num))
def T3 : List Row := (3, (rowF [(.agg [(.int .i64), (.int .i64), (.int .i64), (.int .i64), (.int .i64), (.int .i64)]), (.agg [(.int .i64), (.int .i64), (.int .i64), (.int .i64), (.int .i64), (.int .i64)]), (.int .i64)] none fun g => sallyportlaw21_HazardTellsV (((g 0).fld 0).num) (((g 0).fld 1).num) (((g 0).fld 2).num) (((g 0).fld 3).num) (((g 0).fld 4).num) (((g 0).fld 5).num) (((g 1).fld 0).num) (((g 1).fld 1).num) (((g 1).fld 2).num) (((g 1).fld 3).num) (((g 1).fld 4).num) (((g 1).fld 5).num) ((g 2).num))) :: T13
theorem T3_ok : PSound Try.prog (lookR T3) := lookR_cons sallyportlaw21_HazardTellsO T13_ok

end
end Go.Proofs.Ytihmjmaabednjaa.PV
