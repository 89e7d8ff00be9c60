/-
  What functions of the program yield, evaluated: instructions (insn, sallyportref3), who may (legal, sallyportref8). Printed by a program of the prover's own (wip/prt).
-/
import Derived.Test.YtdfafnelmpflgaaRows
import Derived.Test.YtdfafnelmpflgaaEvW
import Derived.Test.YtdfafnelmpflgaaFb
set_option linter.unusedVariables false
set_option linter.unusedSimpArgs false
namespace Go.Proofs.Ytdfafnelmpflgaa.PV
noncomputable section
open Go Go.Ev
/- sallyport/insn.Class -/
def insn_Class0 (a0 : Int) : Int :=
  bif bif iLt a0 1 then true else iLe 70 a0 then 0
  else
    bif iLe a0 4 then 1
    else
      bif iLe a0 10 then 2
      else
        bif iLe a0 17 then 3
        else
          bif iLe a0 21 then 4
          else
            bif iLe a0 34 then 5
            else
              bif iLe a0 49 then 6 else bif iLe a0 51 then 7 else bif iLe a0 53 then 8 else bif iLe a0 59 then 9 else bif iLe a0 62 then 10 else bif iLe a0 65 then 11 else bif iLe a0 69 then 12 else 0
def insn_ClassG (a0 : Int) : Bool :=
  bif bif iLt a0 1 then true else iLe 70 a0 then true
  else
    bif iLe a0 4 then true
    else
      bif iLe a0 10 then true
      else
        bif iLe a0 17 then true
        else
          bif iLe a0 21 then true
          else
            bif iLe a0 34 then true
            else
              bif iLe a0 49 then true
              else bif iLe a0 51 then true else bif iLe a0 53 then true else bif iLe a0 59 then true else bif iLe a0 62 then true else bif iLe a0 65 then true else bif iLe a0 69 then true else true
def insn_ClassV (a0 : Int) : AV := .it .i64 (insn_Class0 a0)
theorem insn_ClassE (g : Nat → AV) : pcOf Try.prog okT (lookR T4) (NOH) RO NOV 100 false Try.f54 (norms [(.int .i64)] 0 g) = some (insn_ClassG ((g 0).num), insn_ClassV ((g 0).num)) := by kernel_rfl
theorem insn_ClassP : Plain Try.prog 54 Try.f54 := ⟨Try.func54, of_decide_eq_true (by kernel_rfl)⟩
theorem insn_ClassT (a0 : Int) : insn_ClassG a0 = true := by first | (simp [insn_ClassG]; done) | (simp [insn_ClassG, Go.Ev.iEq, Go.Ev.iNe, Go.Ev.iLt, Go.Ev.iLe, Go.Ev.iIn]; omega)
theorem insn_ClassO : RowOk Try.prog 54 (rowF [(.int .i64)] none fun g => insn_ClassV ((g 0).num)) := rowT_ok fun g => pcOf_ok mix fair T4_ok (HSound_none) insn_ClassP (fun c _ => OvOk_none c) (insn_ClassE g) (insn_ClassT ((g 0).num))
def T54 : List Row := (54, (rowF [(.int .i64)] none fun g => insn_ClassV ((g 0).num))) :: T4
theorem T54_ok : PSound Try.prog (lookR T54) := lookR_cons insn_ClassO T4_ok

/- sallyport/insn.field -/
def insn_field0 (a0 : Bool) (a1 : Int) (a2 : Int) : Bool :=
  bif iEq a1 0 then true else bif bif a0 then iLt 0 a1 else false then iLt a1 a2 else false
def insn_fieldG (a0 : Bool) (a1 : Int) (a2 : Int) : Bool :=
  true
def insn_fieldV (a0 : Bool) (a1 : Int) (a2 : Int) : AV := .bl (insn_field0 a0 a1 a2)
theorem insn_fieldE (g : Nat → AV) : pcOf Try.prog okT (lookR T54) (NOH) RO NOV 100 false Try.f67 (norms [.bool, (.int .i64), (.int .i64)] 0 g) = some (insn_fieldG ((g 0).bool) ((g 1).num) ((g 2).num), insn_fieldV ((g 0).bool) ((g 1).num) ((g 2).num)) := by kernel_rfl
theorem insn_fieldP : Plain Try.prog 67 Try.f67 := ⟨Try.func67, of_decide_eq_true (by kernel_rfl)⟩
theorem insn_fieldT (a0 : Bool) (a1 : Int) (a2 : Int) : insn_fieldG a0 a1 a2 = true := rfl
theorem insn_fieldO : RowOk Try.prog 67 (rowF [.bool, (.int .i64), (.int .i64)] none fun g => insn_fieldV ((g 0).bool) ((g 1).num) ((g 2).num)) := rowT_ok fun g => pcOf_ok mix fair T54_ok (HSound_none) insn_fieldP (fun c _ => OvOk_none c) (insn_fieldE g) (insn_fieldT ((g 0).bool) ((g 1).num) ((g 2).num))
def T67 : List Row := (67, (rowF [.bool, (.int .i64), (.int .i64)] none fun g => insn_fieldV ((g 0).bool) ((g 1).num) ((g 2).num))) :: T54
theorem T67_ok : PSound Try.prog (lookR T67) := lookR_cons insn_fieldO T54_ok

/- sallyport/insn.withNumber -/
def insn_withNumber0 (a0 : Int) : Bool :=
  bif iEq a0 28 then bif iEq a0 28 then true else bif iEq a0 32 then bif iEq a0 32 then true else true else bif iEq a0 33 then bif iEq a0 33 then true else true else bif iEq a0 34 then true else true
  else
    bif iEq a0 29 then bif iEq a0 29 then true else bif iEq a0 32 then bif iEq a0 32 then true else true else bif iEq a0 33 then bif iEq a0 33 then true else true else bif iEq a0 34 then true else true
    else bif iEq a0 30 then true else bif iEq a0 32 then bif iEq a0 32 then true else true else bif iEq a0 33 then bif iEq a0 33 then true else true else bif iEq a0 34 then true else true
def insn_withNumber1 (a0 : Int) : Bool :=
  bif iEq a0 28 then
    bif iEq a0 28 then false else bif iEq a0 32 then bif iEq a0 32 then false else false else bif iEq a0 33 then bif iEq a0 33 then false else false else bif iEq a0 34 then false else false
  else
    bif iEq a0 29 then
      bif iEq a0 29 then false else bif iEq a0 32 then bif iEq a0 32 then false else false else bif iEq a0 33 then bif iEq a0 33 then false else false else bif iEq a0 34 then false else false
    else bif iEq a0 30 then false else bif iEq a0 32 then bif iEq a0 32 then false else false else bif iEq a0 33 then bif iEq a0 33 then false else false else bif iEq a0 34 then false else false
def insn_withNumber2 (a0 : Int) : Bool :=
  bif iEq a0 28 then bif iEq a0 28 then true else bif iEq a0 32 then bif iEq a0 32 then true else true else bif iEq a0 33 then bif iEq a0 33 then true else true else bif iEq a0 34 then true else true
  else
    bif iEq a0 29 then bif iEq a0 29 then true else bif iEq a0 32 then bif iEq a0 32 then true else true else bif iEq a0 33 then bif iEq a0 33 then true else true else bif iEq a0 34 then true else true
    else bif iEq a0 30 then true else bif iEq a0 32 then bif iEq a0 32 then true else true else bif iEq a0 33 then bif iEq a0 33 then true else true else bif iEq a0 34 then true else true
def insn_withNumber3 (a0 : Int) : Bool :=
  bif iEq a0 28 then
    bif iEq a0 28 then false else bif iEq a0 32 then bif iEq a0 32 then false else false else bif iEq a0 33 then bif iEq a0 33 then false else false else bif iEq a0 34 then false else false
  else
    bif iEq a0 29 then
      bif iEq a0 29 then false else bif iEq a0 32 then bif iEq a0 32 then false else false else bif iEq a0 33 then bif iEq a0 33 then false else false else bif iEq a0 34 then false else false
    else bif iEq a0 30 then false else bif iEq a0 32 then bif iEq a0 32 then false else false else bif iEq a0 33 then bif iEq a0 33 then false else false else bif iEq a0 34 then false else false
def insn_withNumber4 (a0 : Int) : Int :=
  bif iEq a0 28 then bif iEq a0 28 then 0 else bif iEq a0 32 then bif iEq a0 32 then 0 else -2048 else bif iEq a0 33 then bif iEq a0 33 then 0 else -2048 else bif iEq a0 34 then 0 else -2048
  else
    bif iEq a0 29 then bif iEq a0 29 then 0 else bif iEq a0 32 then bif iEq a0 32 then 0 else -2048 else bif iEq a0 33 then bif iEq a0 33 then 0 else -2048 else bif iEq a0 34 then 0 else -2048
    else bif iEq a0 30 then 0 else bif iEq a0 32 then bif iEq a0 32 then 0 else -2048 else bif iEq a0 33 then bif iEq a0 33 then 0 else -2048 else bif iEq a0 34 then 0 else -2048
def insn_withNumber5 (a0 : Int) : Int :=
  bif iEq a0 28 then bif iEq a0 28 then 63 else bif iEq a0 32 then bif iEq a0 32 then 31 else 2047 else bif iEq a0 33 then bif iEq a0 33 then 31 else 2047 else bif iEq a0 34 then 31 else 2047
  else
    bif iEq a0 29 then bif iEq a0 29 then 63 else bif iEq a0 32 then bif iEq a0 32 then 31 else 2047 else bif iEq a0 33 then bif iEq a0 33 then 31 else 2047 else bif iEq a0 34 then 31 else 2047
    else bif iEq a0 30 then 63 else bif iEq a0 32 then bif iEq a0 32 then 31 else 2047 else bif iEq a0 33 then bif iEq a0 33 then 31 else 2047 else bif iEq a0 34 then 31 else 2047
def insn_withNumber6 (a0 : Int) : Int :=
  bif iEq a0 28 then bif iEq a0 28 then 1 else bif iEq a0 32 then bif iEq a0 32 then 1 else 1 else bif iEq a0 33 then bif iEq a0 33 then 1 else 1 else bif iEq a0 34 then 1 else 1
  else
    bif iEq a0 29 then bif iEq a0 29 then 1 else bif iEq a0 32 then bif iEq a0 32 then 1 else 1 else bif iEq a0 33 then bif iEq a0 33 then 1 else 1 else bif iEq a0 34 then 1 else 1
    else bif iEq a0 30 then 1 else bif iEq a0 32 then bif iEq a0 32 then 1 else 1 else bif iEq a0 33 then bif iEq a0 33 then 1 else 1 else bif iEq a0 34 then 1 else 1
def insn_withNumberG (a0 : Int) : Bool :=
  bif iEq a0 28 then bif iEq a0 28 then true else bif iEq a0 32 then bif iEq a0 32 then true else true else bif iEq a0 33 then bif iEq a0 33 then true else true else bif iEq a0 34 then true else true
  else
    bif iEq a0 29 then bif iEq a0 29 then true else bif iEq a0 32 then bif iEq a0 32 then true else true else bif iEq a0 33 then bif iEq a0 33 then true else true else bif iEq a0 34 then true else true
    else bif iEq a0 30 then true else bif iEq a0 32 then bif iEq a0 32 then true else true else bif iEq a0 33 then bif iEq a0 33 then true else true else bif iEq a0 34 then true else true
def insn_withNumberV (a0 : Int) : AV := .agg [.bl (insn_withNumber0 a0), .bl (insn_withNumber1 a0), .bl (insn_withNumber2 a0), .bl (insn_withNumber3 a0), .it .i64 (insn_withNumber4 a0), .it .i64 (insn_withNumber5 a0), .it .i64 (insn_withNumber6 a0)]
theorem insn_withNumberE (g : Nat → AV) : pcOf Try.prog okT (lookR T67) (NOH) RO NOV 100 false Try.f72 (norms [(.int .i64)] 0 g) = some (insn_withNumberG ((g 0).num), insn_withNumberV ((g 0).num)) := by kernel_rfl
theorem insn_withNumberP : Plain Try.prog 72 Try.f72 := ⟨Try.func72, of_decide_eq_true (by kernel_rfl)⟩
theorem insn_withNumberT (a0 : Int) : insn_withNumberG a0 = true := by first | (simp [insn_withNumberG]; done) | (simp [insn_withNumberG, Go.Ev.iEq, Go.Ev.iNe, Go.Ev.iLt, Go.Ev.iLe, Go.Ev.iIn]; omega)
theorem insn_withNumberO : RowOk Try.prog 72 (rowF [(.int .i64)] none fun g => insn_withNumberV ((g 0).num)) := rowT_ok fun g => pcOf_ok mix fair T67_ok (HSound_none) insn_withNumberP (fun c _ => OvOk_none c) (insn_withNumberE g) (insn_withNumberT ((g 0).num))
def T72 : List Row := (72, (rowF [(.int .i64)] none fun g => insn_withNumberV ((g 0).num))) :: T67
theorem T72_ok : PSound Try.prog (lookR T72) := lookR_cons insn_withNumberO T67_ok

/- sallyport/insn.jumps -/
def insn_jumps0 (a0 : Int) : Bool :=
  bif iEq a0 3 then true else bif iEq a0 4 then true else true
def insn_jumps1 (a0 : Int) : Bool :=
  bif iEq a0 3 then false else bif iEq a0 4 then false else false
def insn_jumps2 (a0 : Int) : Bool :=
  bif iEq a0 3 then false else bif iEq a0 4 then true else false
def insn_jumps3 (a0 : Int) : Bool :=
  bif iEq a0 3 then false else bif iEq a0 4 then false else false
def insn_jumps4 (a0 : Int) : Int :=
  bif iEq a0 3 then -1048576 else bif iEq a0 4 then -2048 else -2147483648
def insn_jumps5 (a0 : Int) : Int :=
  bif iEq a0 3 then 1048574 else bif iEq a0 4 then 2047 else 2147479552
def insn_jumps6 (a0 : Int) : Int :=
  bif iEq a0 3 then 2 else bif iEq a0 4 then 1 else 4096
def insn_jumpsG (a0 : Int) : Bool :=
  bif iEq a0 3 then true else bif iEq a0 4 then true else true
def insn_jumpsV (a0 : Int) : AV := .agg [.bl (insn_jumps0 a0), .bl (insn_jumps1 a0), .bl (insn_jumps2 a0), .bl (insn_jumps3 a0), .it .i64 (insn_jumps4 a0), .it .i64 (insn_jumps5 a0), .it .i64 (insn_jumps6 a0)]
theorem insn_jumpsE (g : Nat → AV) : pcOf Try.prog okT (lookR T72) (NOH) RO NOV 100 false Try.f71 (norms [(.int .i64)] 0 g) = some (insn_jumpsG ((g 0).num), insn_jumpsV ((g 0).num)) := by kernel_rfl
theorem insn_jumpsP : Plain Try.prog 71 Try.f71 := ⟨Try.func71, of_decide_eq_true (by kernel_rfl)⟩
theorem insn_jumpsT (a0 : Int) : insn_jumpsG a0 = true := by first | (simp [insn_jumpsG]; done) | (simp [insn_jumpsG, Go.Ev.iEq, Go.Ev.iNe, Go.Ev.iLt, Go.Ev.iLe, Go.Ev.iIn]; omega)
theorem insn_jumpsO : RowOk Try.prog 71 (rowF [(.int .i64)] none fun g => insn_jumpsV ((g 0).num)) := rowT_ok fun g => pcOf_ok mix fair T72_ok (HSound_none) insn_jumpsP (fun c _ => OvOk_none c) (insn_jumpsE g) (insn_jumpsT ((g 0).num))
def T71 : List Row := (71, (rowF [(.int .i64)] none fun g => insn_jumpsV ((g 0).num))) :: T72
theorem T71_ok : PSound Try.prog (lookR T71) := lookR_cons insn_jumpsO T72_ok

/- sallyport/insn.Of -/
def insn_Of0 (a0 : Int) : Bool :=
  bif iEq (insn_Class0 a0) 1 then insn_jumps0 a0
  else
    bif iEq (insn_Class0 a0) 2 then false
    else
      bif iEq (insn_Class0 a0) 3 then true
      else
        bif iEq (insn_Class0 a0) 4 then false
        else
          bif iEq (insn_Class0 a0) 5 then insn_withNumber0 a0
          else
            bif iEq (insn_Class0 a0) 6 then true
            else
              bif iEq (insn_Class0 a0) 9 then bif iLe 57 a0 then true else true
              else bif iEq (insn_Class0 a0) 11 then false else bif iEq (insn_Class0 a0) 12 then bif iEq a0 69 then false else true else false
def insn_Of1 (a0 : Int) : Bool :=
  bif iEq (insn_Class0 a0) 1 then insn_jumps1 a0
  else
    bif iEq (insn_Class0 a0) 2 then false
    else
      bif iEq (insn_Class0 a0) 3 then false
      else
        bif iEq (insn_Class0 a0) 4 then false
        else
          bif iEq (insn_Class0 a0) 5 then insn_withNumber1 a0
          else
            bif iEq (insn_Class0 a0) 6 then false
            else
              bif iEq (insn_Class0 a0) 9 then bif iLe 57 a0 then true else true
              else bif iEq (insn_Class0 a0) 11 then false else bif iEq (insn_Class0 a0) 12 then bif iEq a0 69 then false else false else false
def insn_Of2 (a0 : Int) : Bool :=
  bif iEq (insn_Class0 a0) 1 then insn_jumps2 a0
  else
    bif iEq (insn_Class0 a0) 2 then true
    else
      bif iEq (insn_Class0 a0) 3 then true
      else
        bif iEq (insn_Class0 a0) 4 then true
        else
          bif iEq (insn_Class0 a0) 5 then insn_withNumber2 a0
          else
            bif iEq (insn_Class0 a0) 6 then true
            else
              bif iEq (insn_Class0 a0) 9 then bif iLe 57 a0 then false else true
              else bif iEq (insn_Class0 a0) 11 then true else bif iEq (insn_Class0 a0) 12 then bif iEq a0 69 then true else true else false
def insn_Of3 (a0 : Int) : Bool :=
  bif iEq (insn_Class0 a0) 1 then insn_jumps3 a0
  else
    bif iEq (insn_Class0 a0) 2 then true
    else
      bif iEq (insn_Class0 a0) 3 then false
      else
        bif iEq (insn_Class0 a0) 4 then true
        else
          bif iEq (insn_Class0 a0) 5 then insn_withNumber3 a0
          else
            bif iEq (insn_Class0 a0) 6 then true
            else
              bif iEq (insn_Class0 a0) 9 then bif iLe 57 a0 then false else false
              else bif iEq (insn_Class0 a0) 11 then true else bif iEq (insn_Class0 a0) 12 then bif iEq a0 69 then true else false else false
def insn_Of4 (a0 : Int) : Int :=
  bif iEq (insn_Class0 a0) 1 then insn_jumps4 a0
  else
    bif iEq (insn_Class0 a0) 2 then -4096
    else
      bif iEq (insn_Class0 a0) 3 then -2048
      else
        bif iEq (insn_Class0 a0) 4 then -2048
        else
          bif iEq (insn_Class0 a0) 5 then insn_withNumber4 a0
          else
            bif iEq (insn_Class0 a0) 6 then 0
            else bif iEq (insn_Class0 a0) 9 then bif iLe 57 a0 then 0 else 0 else bif iEq (insn_Class0 a0) 11 then 0 else bif iEq (insn_Class0 a0) 12 then bif iEq a0 69 then 0 else 0 else 0
def insn_Of5 (a0 : Int) : Int :=
  bif iEq (insn_Class0 a0) 1 then insn_jumps5 a0
  else
    bif iEq (insn_Class0 a0) 2 then 4094
    else
      bif iEq (insn_Class0 a0) 3 then 2047
      else
        bif iEq (insn_Class0 a0) 4 then 2047
        else
          bif iEq (insn_Class0 a0) 5 then insn_withNumber5 a0
          else
            bif iEq (insn_Class0 a0) 6 then 0
            else bif iEq (insn_Class0 a0) 9 then bif iLe 57 a0 then 31 else 0 else bif iEq (insn_Class0 a0) 11 then 0 else bif iEq (insn_Class0 a0) 12 then bif iEq a0 69 then 0 else 0 else 0
def insn_Of6 (a0 : Int) : Int :=
  bif iEq (insn_Class0 a0) 1 then insn_jumps6 a0
  else
    bif iEq (insn_Class0 a0) 2 then 2
    else
      bif iEq (insn_Class0 a0) 3 then 1
      else
        bif iEq (insn_Class0 a0) 4 then 1
        else
          bif iEq (insn_Class0 a0) 5 then insn_withNumber6 a0
          else
            bif iEq (insn_Class0 a0) 6 then 0
            else bif iEq (insn_Class0 a0) 9 then bif iLe 57 a0 then 1 else 0 else bif iEq (insn_Class0 a0) 11 then 0 else bif iEq (insn_Class0 a0) 12 then bif iEq a0 69 then 0 else 0 else 0
def insn_OfG (a0 : Int) : Bool :=
  bif iEq (insn_Class0 a0) 1 then true
  else
    bif iEq (insn_Class0 a0) 2 then true
    else
      bif iEq (insn_Class0 a0) 3 then true
      else
        bif iEq (insn_Class0 a0) 4 then true
        else
          bif iEq (insn_Class0 a0) 5 then true
          else
            bif iEq (insn_Class0 a0) 6 then true
            else
              bif iEq (insn_Class0 a0) 9 then bif iLe 57 a0 then true else true
              else bif iEq (insn_Class0 a0) 11 then true else bif iEq (insn_Class0 a0) 12 then bif iEq a0 69 then true else true else true
def insn_OfV (a0 : Int) : AV := .agg [.bl (insn_Of0 a0), .bl (insn_Of1 a0), .bl (insn_Of2 a0), .bl (insn_Of3 a0), .it .i64 (insn_Of4 a0), .it .i64 (insn_Of5 a0), .it .i64 (insn_Of6 a0)]
theorem insn_OfE (g : Nat → AV) : pcOf Try.prog okT (lookR T71) (NOH) RO NOV 100 false Try.f66 (norms [(.int .i64)] 0 g) = some (insn_OfG ((g 0).num), insn_OfV ((g 0).num)) := by kernel_rfl
theorem insn_OfP : Plain Try.prog 66 Try.f66 := ⟨Try.func66, of_decide_eq_true (by kernel_rfl)⟩
theorem insn_OfT (a0 : Int) : insn_OfG a0 = true := by first | (simp [insn_OfG]; done) | (simp [insn_OfG, Go.Ev.iEq, Go.Ev.iNe, Go.Ev.iLt, Go.Ev.iLe, Go.Ev.iIn]; omega)
theorem insn_OfO : RowOk Try.prog 66 (rowF [(.int .i64)] none fun g => insn_OfV ((g 0).num)) := rowT_ok fun g => pcOf_ok mix fair T71_ok (HSound_none) insn_OfP (fun c _ => OvOk_none c) (insn_OfE g) (insn_OfT ((g 0).num))
def T66 : List Row := (66, (rowF [(.int .i64)] none fun g => insn_OfV ((g 0).num))) :: T71
theorem T66_ok : PSound Try.prog (lookR T66) := lookR_cons insn_OfO T71_ok

/- sallyport/insn.Is -/
def insn_Is0 (a0_Op : Int) (a0_Rd : Int) (a0_Rs1 : Int) (a0_Rs2 : Int) (a0_Imm : Int) (a0_CSR : Int) : Bool :=
  bif iEq (insn_Class0 a0_Op) 0 then false
  else
    bif
        bif bif iEq (insn_Of6 a0_Op) 0 then iNe a0_Imm 0 else false then true
        else bif iLt 0 (insn_Of6 a0_Op) then bif bif iLt a0_Imm (insn_Of4 a0_Op) then true else iLt (insn_Of5 a0_Op) a0_Imm then true else iNe (iRem a0_Imm (insn_Of6 a0_Op)) 0 else false then
      false
    else
      bif bif bif insn_field0 (insn_Of0 a0_Op) a0_Rd 32 then insn_field0 (insn_Of2 a0_Op) a0_Rs1 32 else false then insn_field0 (insn_Of3 a0_Op) a0_Rs2 32 else false then
        insn_field0 (insn_Of1 a0_Op) a0_CSR 4096
      else false
def insn_IsG (a0_Op : Int) (a0_Rd : Int) (a0_Rs1 : Int) (a0_Rs2 : Int) (a0_Imm : Int) (a0_CSR : Int) : Bool :=
  bif iEq (insn_Class0 a0_Op) 0 then true
  else
    (!((!bif iEq (insn_Of6 a0_Op) 0 then iNe a0_Imm 0 else false) && iLt 0 (insn_Of6 a0_Op) && !bif iLt a0_Imm (insn_Of4 a0_Op) then true else iLt (insn_Of5 a0_Op) a0_Imm) || iNe (insn_Of6 a0_Op) 0) &&
      bif
          bif bif iEq (insn_Of6 a0_Op) 0 then iNe a0_Imm 0 else false then true
          else bif iLt 0 (insn_Of6 a0_Op) then bif bif iLt a0_Imm (insn_Of4 a0_Op) then true else iLt (insn_Of5 a0_Op) a0_Imm then true else iNe (iRem a0_Imm (insn_Of6 a0_Op)) 0 else false then
        true
      else true
def insn_IsV (a0_Op : Int) (a0_Rd : Int) (a0_Rs1 : Int) (a0_Rs2 : Int) (a0_Imm : Int) (a0_CSR : Int) : AV := .bl (insn_Is0 a0_Op a0_Rd a0_Rs1 a0_Rs2 a0_Imm a0_CSR)
theorem insn_IsE (g : Nat → AV) : pcOf Try.prog okT (lookR T66) (NOH) RO NOV 100 false Try.f53 (norms [(.agg [(.int .i64), (.int .i64), (.int .i64), (.int .i64), (.int .i64), (.int .i64)])] 0 g) = some (insn_IsG (((g 0).fld 0).num) (((g 0).fld 1).num) (((g 0).fld 2).num) (((g 0).fld 3).num) (((g 0).fld 4).num) (((g 0).fld 5).num), insn_IsV (((g 0).fld 0).num) (((g 0).fld 1).num) (((g 0).fld 2).num) (((g 0).fld 3).num) (((g 0).fld 4).num) (((g 0).fld 5).num)) := by kernel_rfl
theorem insn_IsP : Plain Try.prog 53 Try.f53 := ⟨Try.func53, of_decide_eq_true (by kernel_rfl)⟩
theorem insn_IsT (a0_Op : Int) (a0_Rd : Int) (a0_Rs1 : Int) (a0_Rs2 : Int) (a0_Imm : Int) (a0_CSR : Int) : insn_IsG a0_Op a0_Rd a0_Rs1 a0_Rs2 a0_Imm a0_CSR = true := by first | (simp [insn_IsG]; done) | (simp [insn_IsG, Go.Ev.iEq, Go.Ev.iNe, Go.Ev.iLt, Go.Ev.iLe, Go.Ev.iIn]; omega)
theorem insn_IsO : RowOk Try.prog 53 (rowF [(.agg [(.int .i64), (.int .i64), (.int .i64), (.int .i64), (.int .i64), (.int .i64)])] none fun g => insn_IsV (((g 0).fld 0).num) (((g 0).fld 1).num) (((g 0).fld 2).num) (((g 0).fld 3).num) (((g 0).fld 4).num) (((g 0).fld 5).num)) := rowT_ok fun g => pcOf_ok mix fair T66_ok (HSound_none) insn_IsP (fun c _ => OvOk_none c) (insn_IsE g) (insn_IsT (((g 0).fld 0).num) (((g 0).fld 1).num) (((g 0).fld 2).num) (((g 0).fld 3).num) (((g 0).fld 4).num) (((g 0).fld 5).num))
def T53 : List Row := (53, (rowF [(.agg [(.int .i64), (.int .i64), (.int .i64), (.int .i64), (.int .i64), (.int .i64)])] none fun g => insn_IsV (((g 0).fld 0).num) (((g 0).fld 1).num) (((g 0).fld 2).num) (((g 0).fld 3).num) (((g 0).fld 4).num) (((g 0).fld 5).num))) :: T66
theorem T53_ok : PSound Try.prog (lookR T53) := lookR_cons insn_IsO T66_ok

/- sallyport/sallyportref3.Class -/
def sallyportref3_Class0 (a0 : Int) : Int :=
  bif bif iLt a0 1 then true else iLe 70 a0 then 0
  else
    bif iLe a0 4 then 1
    else
      bif iLe a0 10 then 2
      else
        bif iLe a0 17 then 3
        else
          bif iLe a0 21 then 4
          else bif iLe a0 34 then 5 else bif iLe a0 49 then 6 else bif iLe a0 51 then 7 else bif iLe a0 53 then 8 else bif iLe a0 59 then 9 else bif iLe a0 62 then 10 else bif iLe a0 65 then 11 else 12
def sallyportref3_ClassG (a0 : Int) : Bool :=
  bif bif iLt a0 1 then true else iLe 70 a0 then true
  else
    bif iLe a0 4 then true
    else
      bif iLe a0 10 then true
      else
        bif iLe a0 17 then true
        else
          bif iLe a0 21 then true
          else
            bif iLe a0 34 then true
            else bif iLe a0 49 then true else bif iLe a0 51 then true else bif iLe a0 53 then true else bif iLe a0 59 then true else bif iLe a0 62 then true else bif iLe a0 65 then true else true
def sallyportref3_ClassV (a0 : Int) : AV := .it .i64 (sallyportref3_Class0 a0)
theorem sallyportref3_ClassE (g : Nat → AV) : pcOf Try.prog okT (lookR T53) (NOH) RO NOV 100 false Try.f37 (norms [(.int .i64)] 0 g) = some (sallyportref3_ClassG ((g 0).num), sallyportref3_ClassV ((g 0).num)) := by kernel_rfl
theorem sallyportref3_ClassP : Plain Try.prog 37 Try.f37 := ⟨Try.func37, of_decide_eq_true (by kernel_rfl)⟩
theorem sallyportref3_ClassT (a0 : Int) : sallyportref3_ClassG a0 = true := by first | (simp [sallyportref3_ClassG]; done) | (simp [sallyportref3_ClassG, Go.Ev.iEq, Go.Ev.iNe, Go.Ev.iLt, Go.Ev.iLe, Go.Ev.iIn]; omega)
theorem sallyportref3_ClassO : RowOk Try.prog 37 (rowF [(.int .i64)] none fun g => sallyportref3_ClassV ((g 0).num)) := rowT_ok fun g => pcOf_ok mix fair T53_ok (HSound_none) sallyportref3_ClassP (fun c _ => OvOk_none c) (sallyportref3_ClassE g) (sallyportref3_ClassT ((g 0).num))
def T37 : List Row := (37, (rowF [(.int .i64)] none fun g => sallyportref3_ClassV ((g 0).num))) :: T53
theorem T37_ok : PSound Try.prog (lookR T37) := lookR_cons sallyportref3_ClassO T53_ok

/- sallyport/sallyportref3.reg -/
def sallyportref3_reg0 (a0 : Int) (a1 : Bool) : Bool :=
  bif iEq a0 0 then true else bif bif a1 then iLt 0 a0 else false then iLt a0 32 else false
def sallyportref3_regG (a0 : Int) (a1 : Bool) : Bool :=
  true
def sallyportref3_regV (a0 : Int) (a1 : Bool) : AV := .bl (sallyportref3_reg0 a0 a1)
theorem sallyportref3_regE (g : Nat → AV) : pcOf Try.prog okT (lookR T37) (NOH) RO NOV 100 false Try.f62 (norms [(.int .i64), .bool] 0 g) = some (sallyportref3_regG ((g 0).num) ((g 1).bool), sallyportref3_regV ((g 0).num) ((g 1).bool)) := by kernel_rfl
theorem sallyportref3_regP : Plain Try.prog 62 Try.f62 := ⟨Try.func62, of_decide_eq_true (by kernel_rfl)⟩
theorem sallyportref3_regT (a0 : Int) (a1 : Bool) : sallyportref3_regG a0 a1 = true := rfl
theorem sallyportref3_regO : RowOk Try.prog 62 (rowF [(.int .i64), .bool] none fun g => sallyportref3_regV ((g 0).num) ((g 1).bool)) := rowT_ok fun g => pcOf_ok mix fair T37_ok (HSound_none) sallyportref3_regP (fun c _ => OvOk_none c) (sallyportref3_regE g) (sallyportref3_regT ((g 0).num) ((g 1).bool))
def T62 : List Row := (62, (rowF [(.int .i64), .bool] none fun g => sallyportref3_regV ((g 0).num) ((g 1).bool))) :: T37
theorem T62_ok : PSound Try.prog (lookR T62) := lookR_cons sallyportref3_regO T37_ok

/- sallyport/sallyportref3.within -/
def sallyportref3_within0 (a0 : Int) (a1 : Int) (a2 : Int) (a3 : Int) : Bool :=
  bif bif iLe a1 a0 then iLe a0 a2 else false then iEq (iRem a0 a3) 0 else false
def sallyportref3_withinG (a0 : Int) (a1 : Int) (a2 : Int) (a3 : Int) : Bool :=
  ((!bif iLe a1 a0 then iLe a0 a2 else false) || iNe a3 0) && true
def sallyportref3_withinV (a0 : Int) (a1 : Int) (a2 : Int) (a3 : Int) : AV := .bl (sallyportref3_within0 a0 a1 a2 a3)
theorem sallyportref3_withinE (g : Nat → AV) : pcOf Try.prog okT (lookR T62) (NOH) RO NOV 100 false Try.f68 (norms [(.int .i64), (.int .i64), (.int .i64), (.int .i64)] 0 g) = some (sallyportref3_withinG ((g 0).num) ((g 1).num) ((g 2).num) ((g 3).num), sallyportref3_withinV ((g 0).num) ((g 1).num) ((g 2).num) ((g 3).num)) := by kernel_rfl
theorem sallyportref3_withinP : Plain Try.prog 68 Try.f68 := ⟨Try.func68, of_decide_eq_true (by kernel_rfl)⟩
theorem sallyportref3_withinO : RowOk Try.prog 68 (rowF [(.int .i64), (.int .i64), (.int .i64), (.int .i64)] (some fun g => sallyportref3_withinG ((g 0).num) ((g 1).num) ((g 2).num) ((g 3).num)) fun g => sallyportref3_withinV ((g 0).num) ((g 1).num) ((g 2).num) ((g 3).num)) := rowF_ok fun g hg => pcOf_ok mix fair T62_ok (HSound_none) sallyportref3_withinP (fun c _ => OvOk_none c) (sallyportref3_withinE g) hg
def T68 : List Row := (68, (rowF [(.int .i64), (.int .i64), (.int .i64), (.int .i64)] (some fun g => sallyportref3_withinG ((g 0).num) ((g 1).num) ((g 2).num) ((g 3).num)) fun g => sallyportref3_withinV ((g 0).num) ((g 1).num) ((g 2).num) ((g 3).num))) :: T62
theorem T68_ok : PSound Try.prog (lookR T68) := lookR_cons sallyportref3_withinO T62_ok

/- sallyport/sallyportref3.Parts -/
def sallyportref3_Parts0 (a0 : Int) : Bool :=
  bif iEq (sallyportref3_Class0 a0) 1 then true
  else
    bif iEq (sallyportref3_Class0 a0) 2 then
      bif iEq (sallyportref3_Class0 a0) 2 then false
      else
        bif iEq (sallyportref3_Class0 a0) 3 then
          bif iEq (sallyportref3_Class0 a0) 3 then true
          else
            bif iEq (sallyportref3_Class0 a0) 6 then true
            else bif iEq (sallyportref3_Class0 a0) 9 then true else bif iEq (sallyportref3_Class0 a0) 11 then false else bif iEq (sallyportref3_Class0 a0) 12 then iNe a0 69 else false
        else
          bif iEq (sallyportref3_Class0 a0) 5 then true
          else
            bif iEq (sallyportref3_Class0 a0) 6 then true
            else bif iEq (sallyportref3_Class0 a0) 9 then true else bif iEq (sallyportref3_Class0 a0) 11 then false else bif iEq (sallyportref3_Class0 a0) 12 then iNe a0 69 else false
    else
      bif iEq (sallyportref3_Class0 a0) 4 then false
      else
        bif iEq (sallyportref3_Class0 a0) 3 then
          bif iEq (sallyportref3_Class0 a0) 3 then true
          else
            bif iEq (sallyportref3_Class0 a0) 6 then true
            else bif iEq (sallyportref3_Class0 a0) 9 then true else bif iEq (sallyportref3_Class0 a0) 11 then false else bif iEq (sallyportref3_Class0 a0) 12 then iNe a0 69 else false
        else
          bif iEq (sallyportref3_Class0 a0) 5 then true
          else
            bif iEq (sallyportref3_Class0 a0) 6 then true
            else bif iEq (sallyportref3_Class0 a0) 9 then true else bif iEq (sallyportref3_Class0 a0) 11 then false else bif iEq (sallyportref3_Class0 a0) 12 then iNe a0 69 else false
def sallyportref3_Parts1 (a0 : Int) : Bool :=
  bif iEq (sallyportref3_Class0 a0) 1 then iEq a0 4
  else
    bif iEq (sallyportref3_Class0 a0) 2 then
      bif iEq (sallyportref3_Class0 a0) 2 then true
      else
        bif iEq (sallyportref3_Class0 a0) 3 then
          bif iEq (sallyportref3_Class0 a0) 3 then true
          else
            bif iEq (sallyportref3_Class0 a0) 6 then true
            else bif iEq (sallyportref3_Class0 a0) 9 then !iLe 57 a0 else bif iEq (sallyportref3_Class0 a0) 11 then true else bif iEq (sallyportref3_Class0 a0) 12 then true else false
        else
          bif iEq (sallyportref3_Class0 a0) 5 then true
          else
            bif iEq (sallyportref3_Class0 a0) 6 then true
            else bif iEq (sallyportref3_Class0 a0) 9 then !iLe 57 a0 else bif iEq (sallyportref3_Class0 a0) 11 then true else bif iEq (sallyportref3_Class0 a0) 12 then true else false
    else
      bif iEq (sallyportref3_Class0 a0) 4 then true
      else
        bif iEq (sallyportref3_Class0 a0) 3 then
          bif iEq (sallyportref3_Class0 a0) 3 then true
          else
            bif iEq (sallyportref3_Class0 a0) 6 then true
            else bif iEq (sallyportref3_Class0 a0) 9 then !iLe 57 a0 else bif iEq (sallyportref3_Class0 a0) 11 then true else bif iEq (sallyportref3_Class0 a0) 12 then true else false
        else
          bif iEq (sallyportref3_Class0 a0) 5 then true
          else
            bif iEq (sallyportref3_Class0 a0) 6 then true
            else bif iEq (sallyportref3_Class0 a0) 9 then !iLe 57 a0 else bif iEq (sallyportref3_Class0 a0) 11 then true else bif iEq (sallyportref3_Class0 a0) 12 then true else false
def sallyportref3_Parts2 (a0 : Int) : Bool :=
  bif iEq (sallyportref3_Class0 a0) 1 then false
  else
    bif iEq (sallyportref3_Class0 a0) 2 then
      bif iEq (sallyportref3_Class0 a0) 2 then true
      else
        bif iEq (sallyportref3_Class0 a0) 3 then
          bif iEq (sallyportref3_Class0 a0) 3 then false
          else
            bif iEq (sallyportref3_Class0 a0) 6 then true
            else bif iEq (sallyportref3_Class0 a0) 9 then false else bif iEq (sallyportref3_Class0 a0) 11 then true else bif iEq (sallyportref3_Class0 a0) 12 then iEq a0 69 else false
        else
          bif iEq (sallyportref3_Class0 a0) 5 then false
          else
            bif iEq (sallyportref3_Class0 a0) 6 then true
            else bif iEq (sallyportref3_Class0 a0) 9 then false else bif iEq (sallyportref3_Class0 a0) 11 then true else bif iEq (sallyportref3_Class0 a0) 12 then iEq a0 69 else false
    else
      bif iEq (sallyportref3_Class0 a0) 4 then true
      else
        bif iEq (sallyportref3_Class0 a0) 3 then
          bif iEq (sallyportref3_Class0 a0) 3 then false
          else
            bif iEq (sallyportref3_Class0 a0) 6 then true
            else bif iEq (sallyportref3_Class0 a0) 9 then false else bif iEq (sallyportref3_Class0 a0) 11 then true else bif iEq (sallyportref3_Class0 a0) 12 then iEq a0 69 else false
        else
          bif iEq (sallyportref3_Class0 a0) 5 then false
          else
            bif iEq (sallyportref3_Class0 a0) 6 then true
            else bif iEq (sallyportref3_Class0 a0) 9 then false else bif iEq (sallyportref3_Class0 a0) 11 then true else bif iEq (sallyportref3_Class0 a0) 12 then iEq a0 69 else false
def sallyportref3_Parts3 (a0 : Int) : Bool :=
  bif iEq (sallyportref3_Class0 a0) 1 then false
  else
    bif iEq (sallyportref3_Class0 a0) 2 then
      bif iEq (sallyportref3_Class0 a0) 2 then false
      else
        bif iEq (sallyportref3_Class0 a0) 3 then
          bif iEq (sallyportref3_Class0 a0) 3 then false
          else
            bif iEq (sallyportref3_Class0 a0) 6 then false
            else bif iEq (sallyportref3_Class0 a0) 9 then true else bif iEq (sallyportref3_Class0 a0) 11 then false else bif iEq (sallyportref3_Class0 a0) 12 then false else false
        else
          bif iEq (sallyportref3_Class0 a0) 5 then false
          else
            bif iEq (sallyportref3_Class0 a0) 6 then false
            else bif iEq (sallyportref3_Class0 a0) 9 then true else bif iEq (sallyportref3_Class0 a0) 11 then false else bif iEq (sallyportref3_Class0 a0) 12 then false else false
    else
      bif iEq (sallyportref3_Class0 a0) 4 then false
      else
        bif iEq (sallyportref3_Class0 a0) 3 then
          bif iEq (sallyportref3_Class0 a0) 3 then false
          else
            bif iEq (sallyportref3_Class0 a0) 6 then false
            else bif iEq (sallyportref3_Class0 a0) 9 then true else bif iEq (sallyportref3_Class0 a0) 11 then false else bif iEq (sallyportref3_Class0 a0) 12 then false else false
        else
          bif iEq (sallyportref3_Class0 a0) 5 then false
          else
            bif iEq (sallyportref3_Class0 a0) 6 then false
            else bif iEq (sallyportref3_Class0 a0) 9 then true else bif iEq (sallyportref3_Class0 a0) 11 then false else bif iEq (sallyportref3_Class0 a0) 12 then false else false
def sallyportref3_Parts4 (a0 : Int) : Bool :=
  bif iEq (sallyportref3_Class0 a0) 1 then true
  else
    bif iEq (sallyportref3_Class0 a0) 2 then
      bif iEq (sallyportref3_Class0 a0) 2 then true
      else
        bif iEq (sallyportref3_Class0 a0) 3 then
          bif iEq (sallyportref3_Class0 a0) 3 then true
          else
            bif iEq (sallyportref3_Class0 a0) 6 then false
            else bif iEq (sallyportref3_Class0 a0) 9 then iLe 57 a0 else bif iEq (sallyportref3_Class0 a0) 11 then false else bif iEq (sallyportref3_Class0 a0) 12 then false else false
        else
          bif iEq (sallyportref3_Class0 a0) 5 then true
          else
            bif iEq (sallyportref3_Class0 a0) 6 then false
            else bif iEq (sallyportref3_Class0 a0) 9 then iLe 57 a0 else bif iEq (sallyportref3_Class0 a0) 11 then false else bif iEq (sallyportref3_Class0 a0) 12 then false else false
    else
      bif iEq (sallyportref3_Class0 a0) 4 then true
      else
        bif iEq (sallyportref3_Class0 a0) 3 then
          bif iEq (sallyportref3_Class0 a0) 3 then true
          else
            bif iEq (sallyportref3_Class0 a0) 6 then false
            else bif iEq (sallyportref3_Class0 a0) 9 then iLe 57 a0 else bif iEq (sallyportref3_Class0 a0) 11 then false else bif iEq (sallyportref3_Class0 a0) 12 then false else false
        else
          bif iEq (sallyportref3_Class0 a0) 5 then true
          else
            bif iEq (sallyportref3_Class0 a0) 6 then false
            else bif iEq (sallyportref3_Class0 a0) 9 then iLe 57 a0 else bif iEq (sallyportref3_Class0 a0) 11 then false else bif iEq (sallyportref3_Class0 a0) 12 then false else false
def sallyportref3_PartsG (a0 : Int) : Bool :=
  bif iEq (sallyportref3_Class0 a0) 1 then true
  else
    bif iEq (sallyportref3_Class0 a0) 2 then
      bif iEq (sallyportref3_Class0 a0) 2 then true
      else
        bif iEq (sallyportref3_Class0 a0) 3 then
          bif iEq (sallyportref3_Class0 a0) 3 then true
          else
            bif iEq (sallyportref3_Class0 a0) 6 then true
            else bif iEq (sallyportref3_Class0 a0) 9 then true else bif iEq (sallyportref3_Class0 a0) 11 then true else bif iEq (sallyportref3_Class0 a0) 12 then true else true
        else
          bif iEq (sallyportref3_Class0 a0) 5 then true
          else
            bif iEq (sallyportref3_Class0 a0) 6 then true
            else bif iEq (sallyportref3_Class0 a0) 9 then true else bif iEq (sallyportref3_Class0 a0) 11 then true else bif iEq (sallyportref3_Class0 a0) 12 then true else true
    else
      bif iEq (sallyportref3_Class0 a0) 4 then true
      else
        bif iEq (sallyportref3_Class0 a0) 3 then
          bif iEq (sallyportref3_Class0 a0) 3 then true
          else
            bif iEq (sallyportref3_Class0 a0) 6 then true
            else bif iEq (sallyportref3_Class0 a0) 9 then true else bif iEq (sallyportref3_Class0 a0) 11 then true else bif iEq (sallyportref3_Class0 a0) 12 then true else true
        else
          bif iEq (sallyportref3_Class0 a0) 5 then true
          else
            bif iEq (sallyportref3_Class0 a0) 6 then true
            else bif iEq (sallyportref3_Class0 a0) 9 then true else bif iEq (sallyportref3_Class0 a0) 11 then true else bif iEq (sallyportref3_Class0 a0) 12 then true else true
def sallyportref3_PartsV (a0 : Int) : AV := .tup [.bl (sallyportref3_Parts0 a0), .bl (sallyportref3_Parts1 a0), .bl (sallyportref3_Parts2 a0), .bl (sallyportref3_Parts3 a0), .bl (sallyportref3_Parts4 a0)]
theorem sallyportref3_PartsE (g : Nat → AV) : pcOf Try.prog okT (lookR T68) (NOH) RO NOV 100 false Try.f61 (norms [(.int .i64)] 0 g) = some (sallyportref3_PartsG ((g 0).num), sallyportref3_PartsV ((g 0).num)) := by kernel_rfl
theorem sallyportref3_PartsP : Plain Try.prog 61 Try.f61 := ⟨Try.func61, of_decide_eq_true (by kernel_rfl)⟩
theorem sallyportref3_PartsT (a0 : Int) : sallyportref3_PartsG a0 = true := by first | (simp [sallyportref3_PartsG]; done) | (simp [sallyportref3_PartsG, Go.Ev.iEq, Go.Ev.iNe, Go.Ev.iLt, Go.Ev.iLe, Go.Ev.iIn]; omega)
theorem sallyportref3_PartsO : RowOk Try.prog 61 (rowF [(.int .i64)] none fun g => sallyportref3_PartsV ((g 0).num)) := rowT_ok fun g => pcOf_ok mix fair T68_ok (HSound_none) sallyportref3_PartsP (fun c _ => OvOk_none c) (sallyportref3_PartsE g) (sallyportref3_PartsT ((g 0).num))
def T61 : List Row := (61, (rowF [(.int .i64)] none fun g => sallyportref3_PartsV ((g 0).num))) :: T68
theorem T61_ok : PSound Try.prog (lookR T61) := lookR_cons sallyportref3_PartsO T68_ok

/- sallyport/sallyportref3.number -/
def sallyportref3_number0 (a0_Op : Int) (a0_Rd : Int) (a0_Rs1 : Int) (a0_Rs2 : Int) (a0_Imm : Int) (a0_CSR : Int) : Bool :=
  bif iLe a0_Op 2 then sallyportref3_within0 a0_Imm (-2147483648) 2147479552 4096
  else
    bif iEq a0_Op 3 then sallyportref3_within0 a0_Imm (-1048576) 1048574 2
    else
      bif iEq (sallyportref3_Class0 a0_Op) 2 then sallyportref3_within0 a0_Imm (-4096) 4094 2
      else
        bif bif iLe 28 a0_Op then iLe a0_Op 30 else false then sallyportref3_within0 a0_Imm 0 63 1
        else
          bif bif bif iLe 32 a0_Op then iLe a0_Op 34 else false then true else iEq (sallyportref3_Class0 a0_Op) 9 then sallyportref3_within0 a0_Imm 0 31 1
          else sallyportref3_within0 a0_Imm (-2048) 2047 1
def sallyportref3_numberG (a0_Op : Int) (a0_Rd : Int) (a0_Rs1 : Int) (a0_Rs2 : Int) (a0_Imm : Int) (a0_CSR : Int) : Bool :=
  bif iLe a0_Op 2 then sallyportref3_withinG a0_Imm (-2147483648) 2147479552 4096 && true
  else
    bif iEq a0_Op 3 then sallyportref3_withinG a0_Imm (-1048576) 1048574 2 && true
    else
      bif iEq (sallyportref3_Class0 a0_Op) 2 then sallyportref3_withinG a0_Imm (-4096) 4094 2 && true
      else
        bif bif iLe 28 a0_Op then iLe a0_Op 30 else false then sallyportref3_withinG a0_Imm 0 63 1 && true
        else
          bif bif bif iLe 32 a0_Op then iLe a0_Op 34 else false then true else iEq (sallyportref3_Class0 a0_Op) 9 then sallyportref3_withinG a0_Imm 0 31 1 && true
          else sallyportref3_withinG a0_Imm (-2048) 2047 1 && true
def sallyportref3_numberV (a0_Op : Int) (a0_Rd : Int) (a0_Rs1 : Int) (a0_Rs2 : Int) (a0_Imm : Int) (a0_CSR : Int) : AV := .bl (sallyportref3_number0 a0_Op a0_Rd a0_Rs1 a0_Rs2 a0_Imm a0_CSR)
theorem sallyportref3_numberE (g : Nat → AV) : pcOf Try.prog okT (lookR T61) (NOH) RO NOV 100 false Try.f63 (norms [(.agg [(.int .i64), (.int .i64), (.int .i64), (.int .i64), (.int .i64), (.int .i64)])] 0 g) = some (sallyportref3_numberG (((g 0).fld 0).num) (((g 0).fld 1).num) (((g 0).fld 2).num) (((g 0).fld 3).num) (((g 0).fld 4).num) (((g 0).fld 5).num), sallyportref3_numberV (((g 0).fld 0).num) (((g 0).fld 1).num) (((g 0).fld 2).num) (((g 0).fld 3).num) (((g 0).fld 4).num) (((g 0).fld 5).num)) := by kernel_rfl
theorem sallyportref3_numberP : Plain Try.prog 63 Try.f63 := ⟨Try.func63, of_decide_eq_true (by kernel_rfl)⟩
theorem sallyportref3_numberT (a0_Op : Int) (a0_Rd : Int) (a0_Rs1 : Int) (a0_Rs2 : Int) (a0_Imm : Int) (a0_CSR : Int) : sallyportref3_numberG a0_Op a0_Rd a0_Rs1 a0_Rs2 a0_Imm a0_CSR = true := by simp [sallyportref3_numberG, sallyportref3_withinG, Go.Ev.iNe]
theorem sallyportref3_numberO : RowOk Try.prog 63 (rowF [(.agg [(.int .i64), (.int .i64), (.int .i64), (.int .i64), (.int .i64), (.int .i64)])] none fun g => sallyportref3_numberV (((g 0).fld 0).num) (((g 0).fld 1).num) (((g 0).fld 2).num) (((g 0).fld 3).num) (((g 0).fld 4).num) (((g 0).fld 5).num)) := rowT_ok fun g => pcOf_ok mix fair T61_ok (HSound_none) sallyportref3_numberP (fun c _ => OvOk_none c) (sallyportref3_numberE g) (sallyportref3_numberT (((g 0).fld 0).num) (((g 0).fld 1).num) (((g 0).fld 2).num) (((g 0).fld 3).num) (((g 0).fld 4).num) (((g 0).fld 5).num))
def T63 : List Row := (63, (rowF [(.agg [(.int .i64), (.int .i64), (.int .i64), (.int .i64), (.int .i64), (.int .i64)])] none fun g => sallyportref3_numberV (((g 0).fld 0).num) (((g 0).fld 1).num) (((g 0).fld 2).num) (((g 0).fld 3).num) (((g 0).fld 4).num) (((g 0).fld 5).num))) :: T61
theorem T63_ok : PSound Try.prog (lookR T63) := lookR_cons sallyportref3_numberO T61_ok

/- sallyport/sallyportref3.Is -/
def sallyportref3_Is0 (a0_Op : Int) (a0_Rd : Int) (a0_Rs1 : Int) (a0_Rs2 : Int) (a0_Imm : Int) (a0_CSR : Int) : Bool :=
  bif iEq (sallyportref3_Class0 a0_Op) 0 then false
  else
    bif
        bif
            bif bif !sallyportref3_reg0 a0_Rd (sallyportref3_Parts0 a0_Op) then true else !sallyportref3_reg0 a0_Rs1 (sallyportref3_Parts1 a0_Op) then true
            else !sallyportref3_reg0 a0_Rs2 (sallyportref3_Parts2 a0_Op) then
          true
        else bif iNe a0_CSR 0 then bif bif !sallyportref3_Parts3 a0_Op then true else iLt a0_CSR 0 then true else iLt 4095 a0_CSR else false then
      false
    else bif !sallyportref3_Parts4 a0_Op then iEq a0_Imm 0 else sallyportref3_number0 a0_Op a0_Rd a0_Rs1 a0_Rs2 a0_Imm a0_CSR
def sallyportref3_IsG (a0_Op : Int) (a0_Rd : Int) (a0_Rs1 : Int) (a0_Rs2 : Int) (a0_Imm : Int) (a0_CSR : Int) : Bool :=
  bif iEq (sallyportref3_Class0 a0_Op) 0 then true
  else
    bif
        bif
            bif bif !sallyportref3_reg0 a0_Rd (sallyportref3_Parts0 a0_Op) then true else !sallyportref3_reg0 a0_Rs1 (sallyportref3_Parts1 a0_Op) then true
            else !sallyportref3_reg0 a0_Rs2 (sallyportref3_Parts2 a0_Op) then
          true
        else bif iNe a0_CSR 0 then bif bif !sallyportref3_Parts3 a0_Op then true else iLt a0_CSR 0 then true else iLt 4095 a0_CSR else false then
      true
    else bif !sallyportref3_Parts4 a0_Op then true else true
def sallyportref3_IsV (a0_Op : Int) (a0_Rd : Int) (a0_Rs1 : Int) (a0_Rs2 : Int) (a0_Imm : Int) (a0_CSR : Int) : AV := .bl (sallyportref3_Is0 a0_Op a0_Rd a0_Rs1 a0_Rs2 a0_Imm a0_CSR)
theorem sallyportref3_IsE (g : Nat → AV) : pcOf Try.prog okT (lookR T63) (NOH) RO NOV 100 false Try.f38 (norms [(.agg [(.int .i64), (.int .i64), (.int .i64), (.int .i64), (.int .i64), (.int .i64)])] 0 g) = some (sallyportref3_IsG (((g 0).fld 0).num) (((g 0).fld 1).num) (((g 0).fld 2).num) (((g 0).fld 3).num) (((g 0).fld 4).num) (((g 0).fld 5).num), sallyportref3_IsV (((g 0).fld 0).num) (((g 0).fld 1).num) (((g 0).fld 2).num) (((g 0).fld 3).num) (((g 0).fld 4).num) (((g 0).fld 5).num)) := by kernel_rfl
theorem sallyportref3_IsP : Plain Try.prog 38 Try.f38 := ⟨Try.func38, of_decide_eq_true (by kernel_rfl)⟩
theorem sallyportref3_IsT (a0_Op : Int) (a0_Rd : Int) (a0_Rs1 : Int) (a0_Rs2 : Int) (a0_Imm : Int) (a0_CSR : Int) : sallyportref3_IsG a0_Op a0_Rd a0_Rs1 a0_Rs2 a0_Imm a0_CSR = true := by first | (simp [sallyportref3_IsG]; done) | (simp [sallyportref3_IsG, Go.Ev.iEq, Go.Ev.iNe, Go.Ev.iLt, Go.Ev.iLe, Go.Ev.iIn]; omega)
theorem sallyportref3_IsO : RowOk Try.prog 38 (rowF [(.agg [(.int .i64), (.int .i64), (.int .i64), (.int .i64), (.int .i64), (.int .i64)])] none fun g => sallyportref3_IsV (((g 0).fld 0).num) (((g 0).fld 1).num) (((g 0).fld 2).num) (((g 0).fld 3).num) (((g 0).fld 4).num) (((g 0).fld 5).num)) := rowT_ok fun g => pcOf_ok mix fair T63_ok (HSound_none) sallyportref3_IsP (fun c _ => OvOk_none c) (sallyportref3_IsE g) (sallyportref3_IsT (((g 0).fld 0).num) (((g 0).fld 1).num) (((g 0).fld 2).num) (((g 0).fld 3).num) (((g 0).fld 4).num) (((g 0).fld 5).num))
def T38 : List Row := (38, (rowF [(.agg [(.int .i64), (.int .i64), (.int .i64), (.int .i64), (.int .i64), (.int .i64)])] none fun g => sallyportref3_IsV (((g 0).fld 0).num) (((g 0).fld 1).num) (((g 0).fld 2).num) (((g 0).fld 3).num) (((g 0).fld 4).num) (((g 0).fld 5).num))) :: T63
theorem T38_ok : PSound Try.prog (lookR T38) := lookR_cons sallyportref3_IsO T63_ok

/- sallyport/legal.Level -/
def legal_Level0 (a0_X : Nat → Int) (a0_PC : Int) (a0_Level : Int) (a0_V : Bool) (a0_C : Nat → Int) (a0_Done : Int) : Int :=
  bif bif iNe a0_Level 0 then iNe a0_Level 1 else false then 3
  else bif a0_V then bif a0_Level.toNat == 1 then 5 else bif a0_Level.toNat == 0 then 4 else 0 else bif a0_Level.toNat == 1 then 1 else bif a0_Level.toNat == 0 then 0 else 0
def legal_LevelG (a0_X : Nat → Int) (a0_PC : Int) (a0_Level : Int) (a0_V : Bool) (a0_C : Nat → Int) (a0_Done : Int) : Bool :=
  bif bif iNe a0_Level 0 then iNe a0_Level 1 else false then true else bif a0_V then iIn a0_Level 2 && true else iIn a0_Level 2 && true
def legal_LevelV (a0_X : Nat → Int) (a0_PC : Int) (a0_Level : Int) (a0_V : Bool) (a0_C : Nat → Int) (a0_Done : Int) : AV := .it .i64 (legal_Level0 a0_X a0_PC a0_Level a0_V a0_C a0_Done)
theorem legal_LevelE (g : Nat → AV) : pcOf Try.prog okT (lookR T38) (NOH) RO NOV 100 false Try.f35 (norms [(.agg [(.arr 32 (.int .u64)), (.int .u64), (.int .i64), .bool, (.arr 29 (.int .u64)), (.int .u64)])] 0 g) = some (legal_LevelG (fun i0 => (((g 0).fld 0).ix i0).num) (((g 0).fld 1).num) (((g 0).fld 2).num) (((g 0).fld 3).bool) (fun i0 => (((g 0).fld 4).ix i0).num) (((g 0).fld 5).num), legal_LevelV (fun i0 => (((g 0).fld 0).ix i0).num) (((g 0).fld 1).num) (((g 0).fld 2).num) (((g 0).fld 3).bool) (fun i0 => (((g 0).fld 4).ix i0).num) (((g 0).fld 5).num)) := by kernel_rfl
theorem legal_LevelP : Plain Try.prog 35 Try.f35 := ⟨Try.func35, of_decide_eq_true (by kernel_rfl)⟩
theorem legal_LevelT (a0_X : Nat → Int) (a0_PC : Int) (a0_Level : Int) (a0_V : Bool) (a0_C : Nat → Int) (a0_Done : Int) : legal_LevelG a0_X a0_PC a0_Level a0_V a0_C a0_Done = true := by first | (simp [legal_LevelG]; done) | (simp [legal_LevelG, Go.Ev.iEq, Go.Ev.iNe, Go.Ev.iLt, Go.Ev.iLe, Go.Ev.iIn]; omega)
theorem legal_LevelO : RowOk Try.prog 35 (rowF [(.agg [(.arr 32 (.int .u64)), (.int .u64), (.int .i64), .bool, (.arr 29 (.int .u64)), (.int .u64)])] none fun g => legal_LevelV (fun i0 => (((g 0).fld 0).ix i0).num) (((g 0).fld 1).num) (((g 0).fld 2).num) (((g 0).fld 3).bool) (fun i0 => (((g 0).fld 4).ix i0).num) (((g 0).fld 5).num)) := rowT_ok fun g => pcOf_ok mix fair T38_ok (HSound_none) legal_LevelP (fun c _ => OvOk_none c) (legal_LevelE g) (legal_LevelT (fun i0 => (((g 0).fld 0).ix i0).num) (((g 0).fld 1).num) (((g 0).fld 2).num) (((g 0).fld 3).bool) (fun i0 => (((g 0).fld 4).ix i0).num) (((g 0).fld 5).num))
def T35 : List Row := (35, (rowF [(.agg [(.arr 32 (.int .u64)), (.int .u64), (.int .i64), .bool, (.arr 29 (.int .u64)), (.int .u64)])] none fun g => legal_LevelV (fun i0 => (((g 0).fld 0).ix i0).num) (((g 0).fld 1).num) (((g 0).fld 2).num) (((g 0).fld 3).bool) (fun i0 => (((g 0).fld 4).ix i0).num) (((g 0).fld 5).num))) :: T38
theorem T35_ok : PSound Try.prog (lookR T35) := lookR_cons legal_LevelO T38_ok

/- sallyport/sallyportref8.Level -/
def sallyportref8_Level0 (a0_X : Nat → Int) (a0_PC : Int) (a0_Level : Int) (a0_V : Bool) (a0_C : Nat → Int) (a0_Done : Int) : Int :=
  bif bif iNe a0_Level 0 then iNe a0_Level 1 else false then 3 else bif a0_V then iAdd IntKind.i64 4 a0_Level else a0_Level
def sallyportref8_LevelG (a0_X : Nat → Int) (a0_PC : Int) (a0_Level : Int) (a0_V : Bool) (a0_C : Nat → Int) (a0_Done : Int) : Bool :=
  bif bif iNe a0_Level 0 then iNe a0_Level 1 else false then true else bif a0_V then true else true
def sallyportref8_LevelV (a0_X : Nat → Int) (a0_PC : Int) (a0_Level : Int) (a0_V : Bool) (a0_C : Nat → Int) (a0_Done : Int) : AV := .it .i64 (sallyportref8_Level0 a0_X a0_PC a0_Level a0_V a0_C a0_Done)
theorem sallyportref8_LevelE (g : Nat → AV) : pcOf Try.prog okT (lookR T35) (NOH) RO NOV 100 false Try.f36 (norms [(.agg [(.arr 32 (.int .u64)), (.int .u64), (.int .i64), .bool, (.arr 29 (.int .u64)), (.int .u64)])] 0 g) = some (sallyportref8_LevelG (fun i0 => (((g 0).fld 0).ix i0).num) (((g 0).fld 1).num) (((g 0).fld 2).num) (((g 0).fld 3).bool) (fun i0 => (((g 0).fld 4).ix i0).num) (((g 0).fld 5).num), sallyportref8_LevelV (fun i0 => (((g 0).fld 0).ix i0).num) (((g 0).fld 1).num) (((g 0).fld 2).num) (((g 0).fld 3).bool) (fun i0 => (((g 0).fld 4).ix i0).num) (((g 0).fld 5).num)) := by kernel_rfl
theorem sallyportref8_LevelP : Plain Try.prog 36 Try.f36 := ⟨Try.func36, of_decide_eq_true (by kernel_rfl)⟩
theorem sallyportref8_LevelT (a0_X : Nat → Int) (a0_PC : Int) (a0_Level : Int) (a0_V : Bool) (a0_C : Nat → Int) (a0_Done : Int) : sallyportref8_LevelG a0_X a0_PC a0_Level a0_V a0_C a0_Done = true := by first | (simp [sallyportref8_LevelG]; done) | (simp [sallyportref8_LevelG, Go.Ev.iEq, Go.Ev.iNe, Go.Ev.iLt, Go.Ev.iLe, Go.Ev.iIn]; omega)
theorem sallyportref8_LevelO : RowOk Try.prog 36 (rowF [(.agg [(.arr 32 (.int .u64)), (.int .u64), (.int .i64), .bool, (.arr 29 (.int .u64)), (.int .u64)])] none fun g => sallyportref8_LevelV (fun i0 => (((g 0).fld 0).ix i0).num) (((g 0).fld 1).num) (((g 0).fld 2).num) (((g 0).fld 3).bool) (fun i0 => (((g 0).fld 4).ix i0).num) (((g 0).fld 5).num)) := rowT_ok fun g => pcOf_ok mix fair T35_ok (HSound_none) sallyportref8_LevelP (fun c _ => OvOk_none c) (sallyportref8_LevelE g) (sallyportref8_LevelT (fun i0 => (((g 0).fld 0).ix i0).num) (((g 0).fld 1).num) (((g 0).fld 2).num) (((g 0).fld 3).bool) (fun i0 => (((g 0).fld 4).ix i0).num) (((g 0).fld 5).num))
def T36 : List Row := (36, (rowF [(.agg [(.arr 32 (.int .u64)), (.int .u64), (.int .i64), .bool, (.arr 29 (.int .u64)), (.int .u64)])] none fun g => sallyportref8_LevelV (fun i0 => (((g 0).fld 0).ix i0).num) (((g 0).fld 1).num) (((g 0).fld 2).num) (((g 0).fld 3).bool) (fun i0 => (((g 0).fld 4).ix i0).num) (((g 0).fld 5).num))) :: T35
theorem T36_ok : PSound Try.prog (lookR T36) := lookR_cons sallyportref8_LevelO T35_ok

/- sallyport/legal.ask -/
def legal_ask0 (a0 : Int) : Int :=
  iAnd IntKind.i64 (iShr IntKind.i64 a0 8) 3
def legal_askG (a0 : Int) : Bool :=
  true
def legal_askV (a0 : Int) : AV := .it .i64 (legal_ask0 a0)
theorem legal_askE (g : Nat → AV) : pcOf Try.prog okT (lookR T36) (NOH) RO NOV 100 false Try.f50 (norms [(.int .i64)] 0 g) = some (legal_askG ((g 0).num), legal_askV ((g 0).num)) := by kernel_rfl
theorem legal_askP : Plain Try.prog 50 Try.f50 := ⟨Try.func50, of_decide_eq_true (by kernel_rfl)⟩
theorem legal_askT (a0 : Int) : legal_askG a0 = true := rfl
theorem legal_askO : RowOk Try.prog 50 (rowF [(.int .i64)] none fun g => legal_askV ((g 0).num)) := rowT_ok fun g => pcOf_ok mix fair T36_ok (HSound_none) legal_askP (fun c _ => OvOk_none c) (legal_askE g) (legal_askT ((g 0).num))
def T50 : List Row := (50, (rowF [(.int .i64)] none fun g => legal_askV ((g 0).num))) :: T36
theorem T50_ok : PSound Try.prog (lookR T50) := lookR_cons legal_askO T36_ok

/- sallyport/legal.because -/
def legal_because0 (a0 : Bool) (a1 : Int) : Int :=
  bif a0 then 0 else a1
def legal_because1 (a0 : Bool) (a1 : Int) : Bool :=
  bif a0 then true else false
def legal_becauseG (a0 : Bool) (a1 : Int) : Bool :=
  bif a0 then true else true
def legal_becauseV (a0 : Bool) (a1 : Int) : AV := .tup [.it .u64 (legal_because0 a0 a1), .bl (legal_because1 a0 a1)]
theorem legal_becauseE (g : Nat → AV) : pcOf Try.prog okT (lookR T50) (NOH) RO NOV 100 false Try.f48 (norms [.bool, (.int .u64)] 0 g) = some (legal_becauseG ((g 0).bool) ((g 1).num), legal_becauseV ((g 0).bool) ((g 1).num)) := by kernel_rfl
theorem legal_becauseP : Plain Try.prog 48 Try.f48 := ⟨Try.func48, of_decide_eq_true (by kernel_rfl)⟩
theorem legal_becauseT (a0 : Bool) (a1 : Int) : legal_becauseG a0 a1 = true := by first | (simp [legal_becauseG]; done) | (simp [legal_becauseG, Go.Ev.iEq, Go.Ev.iNe, Go.Ev.iLt, Go.Ev.iLe, Go.Ev.iIn]; omega)
theorem legal_becauseO : RowOk Try.prog 48 (rowF [.bool, (.int .u64)] none fun g => legal_becauseV ((g 0).bool) ((g 1).num)) := rowT_ok fun g => pcOf_ok mix fair T50_ok (HSound_none) legal_becauseP (fun c _ => OvOk_none c) (legal_becauseE g) (legal_becauseT ((g 0).bool) ((g 1).num))
def T48 : List Row := (48, (rowF [.bool, (.int .u64)] none fun g => legal_becauseV ((g 0).bool) ((g 1).num))) :: T50
theorem T48_ok : PSound Try.prog (lookR T48) := lookR_cons legal_becauseO T50_ok

/- sallyport/sallyportref8.need -/
def sallyportref8_need0 (a0 : Bool) : Int :=
  bif a0 then 0 else 2
def sallyportref8_need1 (a0 : Bool) : Bool :=
  bif a0 then true else false
def sallyportref8_needG (a0 : Bool) : Bool :=
  bif a0 then true else true
def sallyportref8_needV (a0 : Bool) : AV := .tup [.it .u64 (sallyportref8_need0 a0), .bl (sallyportref8_need1 a0)]
theorem sallyportref8_needE (g : Nat → AV) : pcOf Try.prog okT (lookR T48) (NOH) RO NOV 100 false Try.f52 (norms [.bool] 0 g) = some (sallyportref8_needG ((g 0).bool), sallyportref8_needV ((g 0).bool)) := by kernel_rfl
theorem sallyportref8_needP : Plain Try.prog 52 Try.f52 := ⟨Try.func52, of_decide_eq_true (by kernel_rfl)⟩
theorem sallyportref8_needT (a0 : Bool) : sallyportref8_needG a0 = true := by first | (simp [sallyportref8_needG]; done) | (simp [sallyportref8_needG, Go.Ev.iEq, Go.Ev.iNe, Go.Ev.iLt, Go.Ev.iLe, Go.Ev.iIn]; omega)
theorem sallyportref8_needO : RowOk Try.prog 52 (rowF [.bool] none fun g => sallyportref8_needV ((g 0).bool)) := rowT_ok fun g => pcOf_ok mix fair T48_ok (HSound_none) sallyportref8_needP (fun c _ => OvOk_none c) (sallyportref8_needE g) (sallyportref8_needT ((g 0).bool))
def T52 : List Row := (52, (rowF [.bool] none fun g => sallyportref8_needV ((g 0).bool))) :: T48
theorem T52_ok : PSound Try.prog (lookR T52) := lookR_cons sallyportref8_needO T48_ok

/- sallyport/sallyportref8.Bit -/
def sallyportref8_Bit0 (a0_X : Nat → Int) (a0_PC : Int) (a0_Level : Int) (a0_V : Bool) (a0_C : Nat → Int) (a0_Done : Int) (a1 : Int) (a2 : Int) : Bool :=
  iEq (iAnd IntKind.u64 (iShr IntKind.u64 (a0_C a1.toNat) (iConv IntKind.u64 a2)) 1) 1
def sallyportref8_BitG (a0_X : Nat → Int) (a0_PC : Int) (a0_Level : Int) (a0_V : Bool) (a0_C : Nat → Int) (a0_Done : Int) (a1 : Int) (a2 : Int) : Bool :=
  iIn a1 29 && true
def sallyportref8_BitV (a0_X : Nat → Int) (a0_PC : Int) (a0_Level : Int) (a0_V : Bool) (a0_C : Nat → Int) (a0_Done : Int) (a1 : Int) (a2 : Int) : AV := .bl (sallyportref8_Bit0 a0_X a0_PC a0_Level a0_V a0_C a0_Done a1 a2)
theorem sallyportref8_BitE (g : Nat → AV) : pcOf Try.prog okT (lookR T52) (NOH) RO NOV 100 false Try.f51 (norms [(.agg [(.arr 32 (.int .u64)), (.int .u64), (.int .i64), .bool, (.arr 29 (.int .u64)), (.int .u64)]), (.int .i64), (.int .i64)] 0 g) = some (sallyportref8_BitG (fun i0 => (((g 0).fld 0).ix i0).num) (((g 0).fld 1).num) (((g 0).fld 2).num) (((g 0).fld 3).bool) (fun i0 => (((g 0).fld 4).ix i0).num) (((g 0).fld 5).num) ((g 1).num) ((g 2).num), sallyportref8_BitV (fun i0 => (((g 0).fld 0).ix i0).num) (((g 0).fld 1).num) (((g 0).fld 2).num) (((g 0).fld 3).bool) (fun i0 => (((g 0).fld 4).ix i0).num) (((g 0).fld 5).num) ((g 1).num) ((g 2).num)) := by kernel_rfl
theorem sallyportref8_BitP : Plain Try.prog 51 Try.f51 := ⟨Try.func51, of_decide_eq_true (by kernel_rfl)⟩
theorem sallyportref8_BitO : RowOk Try.prog 51 (rowF [(.agg [(.arr 32 (.int .u64)), (.int .u64), (.int .i64), .bool, (.arr 29 (.int .u64)), (.int .u64)]), (.int .i64), (.int .i64)] (some fun g => sallyportref8_BitG (fun i0 => (((g 0).fld 0).ix i0).num) (((g 0).fld 1).num) (((g 0).fld 2).num) (((g 0).fld 3).bool) (fun i0 => (((g 0).fld 4).ix i0).num) (((g 0).fld 5).num) ((g 1).num) ((g 2).num)) fun g => sallyportref8_BitV (fun i0 => (((g 0).fld 0).ix i0).num) (((g 0).fld 1).num) (((g 0).fld 2).num) (((g 0).fld 3).bool) (fun i0 => (((g 0).fld 4).ix i0).num) (((g 0).fld 5).num) ((g 1).num) ((g 2).num)) := rowF_ok fun g hg => pcOf_ok mix fair T52_ok (HSound_none) sallyportref8_BitP (fun c _ => OvOk_none c) (sallyportref8_BitE g) hg
def T51 : List Row := (51, (rowF [(.agg [(.arr 32 (.int .u64)), (.int .u64), (.int .i64), .bool, (.arr 29 (.int .u64)), (.int .u64)]), (.int .i64), (.int .i64)] (some fun g => sallyportref8_BitG (fun i0 => (((g 0).fld 0).ix i0).num) (((g 0).fld 1).num) (((g 0).fld 2).num) (((g 0).fld 3).bool) (fun i0 => (((g 0).fld 4).ix i0).num) (((g 0).fld 5).num) ((g 1).num) ((g 2).num)) fun g => sallyportref8_BitV (fun i0 => (((g 0).fld 0).ix i0).num) (((g 0).fld 1).num) (((g 0).fld 2).num) (((g 0).fld 3).bool) (fun i0 => (((g 0).fld 4).ix i0).num) (((g 0).fld 5).num) ((g 1).num) ((g 2).num))) :: T52
theorem T51_ok : PSound Try.prog (lookR T51) := lookR_cons sallyportref8_BitO T52_ok

/- sallyport/legal.Writes -/
def legal_Writes0 (a0_Op : Int) (a0_Rd : Int) (a0_Rs1 : Int) (a0_Rs2 : Int) (a0_Imm : Int) (a0_CSR : Int) : Bool :=
  bif bif bif iEq a0_Op 54 then true else iEq a0_Op 57 then true else iNe a0_Rs1 0 then true else iNe a0_Imm 0
def legal_WritesG (a0_Op : Int) (a0_Rd : Int) (a0_Rs1 : Int) (a0_Rs2 : Int) (a0_Imm : Int) (a0_CSR : Int) : Bool :=
  true
def legal_WritesV (a0_Op : Int) (a0_Rd : Int) (a0_Rs1 : Int) (a0_Rs2 : Int) (a0_Imm : Int) (a0_CSR : Int) : AV := .bl (legal_Writes0 a0_Op a0_Rd a0_Rs1 a0_Rs2 a0_Imm a0_CSR)
theorem legal_WritesE (g : Nat → AV) : pcOf Try.prog okT (lookR T51) (NOH) RO NOV 100 false Try.f55 (norms [(.agg [(.int .i64), (.int .i64), (.int .i64), (.int .i64), (.int .i64), (.int .i64)])] 0 g) = some (legal_WritesG (((g 0).fld 0).num) (((g 0).fld 1).num) (((g 0).fld 2).num) (((g 0).fld 3).num) (((g 0).fld 4).num) (((g 0).fld 5).num), legal_WritesV (((g 0).fld 0).num) (((g 0).fld 1).num) (((g 0).fld 2).num) (((g 0).fld 3).num) (((g 0).fld 4).num) (((g 0).fld 5).num)) := by kernel_rfl
theorem legal_WritesP : Plain Try.prog 55 Try.f55 := ⟨Try.func55, of_decide_eq_true (by kernel_rfl)⟩
theorem legal_WritesT (a0_Op : Int) (a0_Rd : Int) (a0_Rs1 : Int) (a0_Rs2 : Int) (a0_Imm : Int) (a0_CSR : Int) : legal_WritesG a0_Op a0_Rd a0_Rs1 a0_Rs2 a0_Imm a0_CSR = true := rfl
theorem legal_WritesO : RowOk Try.prog 55 (rowF [(.agg [(.int .i64), (.int .i64), (.int .i64), (.int .i64), (.int .i64), (.int .i64)])] none fun g => legal_WritesV (((g 0).fld 0).num) (((g 0).fld 1).num) (((g 0).fld 2).num) (((g 0).fld 3).num) (((g 0).fld 4).num) (((g 0).fld 5).num)) := rowT_ok fun g => pcOf_ok mix fair T51_ok (HSound_none) legal_WritesP (fun c _ => OvOk_none c) (legal_WritesE g) (legal_WritesT (((g 0).fld 0).num) (((g 0).fld 1).num) (((g 0).fld 2).num) (((g 0).fld 3).num) (((g 0).fld 4).num) (((g 0).fld 5).num))
def T55 : List Row := (55, (rowF [(.agg [(.int .i64), (.int .i64), (.int .i64), (.int .i64), (.int .i64), (.int .i64)])] none fun g => legal_WritesV (((g 0).fld 0).num) (((g 0).fld 1).num) (((g 0).fld 2).num) (((g 0).fld 3).num) (((g 0).fld 4).num) (((g 0).fld 5).num))) :: T51
theorem T55_ok : PSound Try.prog (lookR T55) := lookR_cons legal_WritesO T51_ok

/- sallyport/sallyportref8.Writes -/
def sallyportref8_Writes0 (a0_Op : Int) (a0_Rd : Int) (a0_Rs1 : Int) (a0_Rs2 : Int) (a0_Imm : Int) (a0_CSR : Int) : Bool :=
  bif bif bif iEq a0_Op 54 then true else iEq a0_Op 57 then true else iNe a0_Rs1 0 then true else iNe a0_Imm 0
def sallyportref8_WritesG (a0_Op : Int) (a0_Rd : Int) (a0_Rs1 : Int) (a0_Rs2 : Int) (a0_Imm : Int) (a0_CSR : Int) : Bool :=
  true
def sallyportref8_WritesV (a0_Op : Int) (a0_Rd : Int) (a0_Rs1 : Int) (a0_Rs2 : Int) (a0_Imm : Int) (a0_CSR : Int) : AV := .bl (sallyportref8_Writes0 a0_Op a0_Rd a0_Rs1 a0_Rs2 a0_Imm a0_CSR)
theorem sallyportref8_WritesE (g : Nat → AV) : pcOf Try.prog okT (lookR T55) (NOH) RO NOV 100 false Try.f59 (norms [(.agg [(.int .i64), (.int .i64), (.int .i64), (.int .i64), (.int .i64), (.int .i64)])] 0 g) = some (sallyportref8_WritesG (((g 0).fld 0).num) (((g 0).fld 1).num) (((g 0).fld 2).num) (((g 0).fld 3).num) (((g 0).fld 4).num) (((g 0).fld 5).num), sallyportref8_WritesV (((g 0).fld 0).num) (((g 0).fld 1).num) (((g 0).fld 2).num) (((g 0).fld 3).num) (((g 0).fld 4).num) (((g 0).fld 5).num)) := by kernel_rfl
theorem sallyportref8_WritesP : Plain Try.prog 59 Try.f59 := ⟨Try.func59, of_decide_eq_true (by kernel_rfl)⟩
theorem sallyportref8_WritesT (a0_Op : Int) (a0_Rd : Int) (a0_Rs1 : Int) (a0_Rs2 : Int) (a0_Imm : Int) (a0_CSR : Int) : sallyportref8_WritesG a0_Op a0_Rd a0_Rs1 a0_Rs2 a0_Imm a0_CSR = true := rfl
theorem sallyportref8_WritesO : RowOk Try.prog 59 (rowF [(.agg [(.int .i64), (.int .i64), (.int .i64), (.int .i64), (.int .i64), (.int .i64)])] none fun g => sallyportref8_WritesV (((g 0).fld 0).num) (((g 0).fld 1).num) (((g 0).fld 2).num) (((g 0).fld 3).num) (((g 0).fld 4).num) (((g 0).fld 5).num)) := rowT_ok fun g => pcOf_ok mix fair T55_ok (HSound_none) sallyportref8_WritesP (fun c _ => OvOk_none c) (sallyportref8_WritesE g) (sallyportref8_WritesT (((g 0).fld 0).num) (((g 0).fld 1).num) (((g 0).fld 2).num) (((g 0).fld 3).num) (((g 0).fld 4).num) (((g 0).fld 5).num))
def T59 : List Row := (59, (rowF [(.agg [(.int .i64), (.int .i64), (.int .i64), (.int .i64), (.int .i64), (.int .i64)])] none fun g => sallyportref8_WritesV (((g 0).fld 0).num) (((g 0).fld 1).num) (((g 0).fld 2).num) (((g 0).fld 3).num) (((g 0).fld 4).num) (((g 0).fld 5).num))) :: T55
theorem T59_ok : PSound Try.prog (lookR T59) := lookR_cons sallyportref8_WritesO T55_ok

theorem ask_in (x : Int) : 0 ≤ iAnd .i64 x 3 ∧ iAnd .i64 x 3 < 4 := by
  unfold iAnd
  have h : (BitVec.ofInt IntKind.i64.bits x &&& BitVec.ofInt IntKind.i64.bits 3).toNat ≤ 3 := by
    rw [BitVec.toNat_and]
    exact Nat.and_le_right
  rw [wrapI (by omega) (by omega)]
  omega
/- sallyport/legal.guestCsr -/
def legal_guestCsr0 (a0_X : Nat → Int) (a0_PC : Int) (a0_Level : Int) (a0_V : Bool) (a0_C : Nat → Int) (a0_Done : Int) (a1 : Int) (a2 : Int) : Int :=
  bif iEq a2 3074 then 22
  else
    bif iEq (legal_ask0 a2) 3 then 2
    else
      bif bif iEq (legal_ask0 a2) 2 then true else iEq a1 4 then 22
      else legal_because0 (bif iNe a2 384 then true else !csr_Bit0 (fun i0 => a0_X i0) a0_PC a0_Level a0_V (fun i0 => a0_C i0) a0_Done 16 20) 22
def legal_guestCsr1 (a0_X : Nat → Int) (a0_PC : Int) (a0_Level : Int) (a0_V : Bool) (a0_C : Nat → Int) (a0_Done : Int) (a1 : Int) (a2 : Int) : Bool :=
  bif iEq a2 3074 then false
  else
    bif iEq (legal_ask0 a2) 3 then false
    else
      bif bif iEq (legal_ask0 a2) 2 then true else iEq a1 4 then false
      else legal_because1 (bif iNe a2 384 then true else !csr_Bit0 (fun i0 => a0_X i0) a0_PC a0_Level a0_V (fun i0 => a0_C i0) a0_Done 16 20) 22
def legal_guestCsrG (a0_X : Nat → Int) (a0_PC : Int) (a0_Level : Int) (a0_V : Bool) (a0_C : Nat → Int) (a0_Done : Int) (a1 : Int) (a2 : Int) : Bool :=
  bif iEq a2 3074 then true
  else
    bif iEq (legal_ask0 a2) 3 then true
    else bif bif iEq (legal_ask0 a2) 2 then true else iEq a1 4 then true else (!!iNe a2 384 || csr_BitG (fun i0 => a0_X i0) a0_PC a0_Level a0_V (fun i0 => a0_C i0) a0_Done 16 20) && true
def legal_guestCsrV (a0_X : Nat → Int) (a0_PC : Int) (a0_Level : Int) (a0_V : Bool) (a0_C : Nat → Int) (a0_Done : Int) (a1 : Int) (a2 : Int) : AV := .tup [.it .u64 (legal_guestCsr0 a0_X a0_PC a0_Level a0_V a0_C a0_Done a1 a2), .bl (legal_guestCsr1 a0_X a0_PC a0_Level a0_V a0_C a0_Done a1 a2)]
theorem legal_guestCsrE (g : Nat → AV) : pcOf Try.prog okT (lookR T59) (NOH) RO NOV 100 false Try.f47 (norms [(.agg [(.arr 32 (.int .u64)), (.int .u64), (.int .i64), .bool, (.arr 29 (.int .u64)), (.int .u64)]), (.int .i64), (.int .i64)] 0 g) = some (legal_guestCsrG (fun i0 => (((g 0).fld 0).ix i0).num) (((g 0).fld 1).num) (((g 0).fld 2).num) (((g 0).fld 3).bool) (fun i0 => (((g 0).fld 4).ix i0).num) (((g 0).fld 5).num) ((g 1).num) ((g 2).num), legal_guestCsrV (fun i0 => (((g 0).fld 0).ix i0).num) (((g 0).fld 1).num) (((g 0).fld 2).num) (((g 0).fld 3).bool) (fun i0 => (((g 0).fld 4).ix i0).num) (((g 0).fld 5).num) ((g 1).num) ((g 2).num)) := by kernel_rfl
theorem legal_guestCsrP : Plain Try.prog 47 Try.f47 := ⟨Try.func47, of_decide_eq_true (by kernel_rfl)⟩
theorem legal_guestCsrT (a0_X : Nat → Int) (a0_PC : Int) (a0_Level : Int) (a0_V : Bool) (a0_C : Nat → Int) (a0_Done : Int) (a1 : Int) (a2 : Int) : legal_guestCsrG a0_X a0_PC a0_Level a0_V a0_C a0_Done a1 a2 = true := by simp [legal_guestCsrG, csr_BitG, Go.Ev.iIn]
theorem legal_guestCsrO : RowOk Try.prog 47 (rowF [(.agg [(.arr 32 (.int .u64)), (.int .u64), (.int .i64), .bool, (.arr 29 (.int .u64)), (.int .u64)]), (.int .i64), (.int .i64)] none fun g => legal_guestCsrV (fun i0 => (((g 0).fld 0).ix i0).num) (((g 0).fld 1).num) (((g 0).fld 2).num) (((g 0).fld 3).bool) (fun i0 => (((g 0).fld 4).ix i0).num) (((g 0).fld 5).num) ((g 1).num) ((g 2).num)) := rowT_ok fun g => pcOf_ok mix fair T59_ok (HSound_none) legal_guestCsrP (fun c _ => OvOk_none c) (legal_guestCsrE g) (legal_guestCsrT (fun i0 => (((g 0).fld 0).ix i0).num) (((g 0).fld 1).num) (((g 0).fld 2).num) (((g 0).fld 3).bool) (fun i0 => (((g 0).fld 4).ix i0).num) (((g 0).fld 5).num) ((g 1).num) ((g 2).num))
def T47 : List Row := (47, (rowF [(.agg [(.arr 32 (.int .u64)), (.int .u64), (.int .i64), .bool, (.arr 29 (.int .u64)), (.int .u64)]), (.int .i64), (.int .i64)] none fun g => legal_guestCsrV (fun i0 => (((g 0).fld 0).ix i0).num) (((g 0).fld 1).num) (((g 0).fld 2).num) (((g 0).fld 3).bool) (fun i0 => (((g 0).fld 4).ix i0).num) (((g 0).fld 5).num) ((g 1).num) ((g 2).num))) :: T59
theorem T47_ok : PSound Try.prog (lookR T47) := lookR_cons legal_guestCsrO T59_ok

/- sallyport/legal.Csr -/
def legal_Csr0 (a0_X : Nat → Int) (a0_PC : Int) (a0_Level : Int) (a0_V : Bool) (a0_C : Nat → Int) (a0_Done : Int) (a1 : Int) (a2 : Bool) : Int :=
  bif bif !csr_Is0 a1 then true else bif a2 then iLe 3072 a1 else false then 2
  else
    bif iLe 4 (legal_Level0 (fun i0 => a0_X i0) a0_PC a0_Level a0_V (fun i0 => a0_C i0) a0_Done) then
      legal_guestCsr0 (fun i0 => a0_X i0) a0_PC a0_Level a0_V (fun i0 => a0_C i0) a0_Done (legal_Level0 (fun i0 => a0_X i0) a0_PC a0_Level a0_V (fun i0 => a0_C i0) a0_Done) a1
    else
      bif iEq a1 3074 then legal_because0 (iLe 1 (legal_Level0 (fun i0 => a0_X i0) a0_PC a0_Level a0_V (fun i0 => a0_C i0) a0_Done)) 2
      else
        bif
            bif bif iEq a1 384 then iEq (legal_Level0 (fun i0 => a0_X i0) a0_PC a0_Level a0_V (fun i0 => a0_C i0) a0_Done) 1 else false then
              csr_Bit0 (fun i0 => a0_X i0) a0_PC a0_Level a0_V (fun i0 => a0_C i0) a0_Done 0 20
            else false then
          2
        else
          legal_because0
            (iLe (bif (legal_ask0 a1).toNat == 3 then 3 else bif (legal_ask0 a1).toNat == 2 then 1 else bif (legal_ask0 a1).toNat == 1 then 1 else bif (legal_ask0 a1).toNat == 0 then 0 else 0)
              (legal_Level0 (fun i0 => a0_X i0) a0_PC a0_Level a0_V (fun i0 => a0_C i0) a0_Done))
            2
def legal_Csr1 (a0_X : Nat → Int) (a0_PC : Int) (a0_Level : Int) (a0_V : Bool) (a0_C : Nat → Int) (a0_Done : Int) (a1 : Int) (a2 : Bool) : Bool :=
  bif bif !csr_Is0 a1 then true else bif a2 then iLe 3072 a1 else false then false
  else
    bif iLe 4 (legal_Level0 (fun i0 => a0_X i0) a0_PC a0_Level a0_V (fun i0 => a0_C i0) a0_Done) then
      legal_guestCsr1 (fun i0 => a0_X i0) a0_PC a0_Level a0_V (fun i0 => a0_C i0) a0_Done (legal_Level0 (fun i0 => a0_X i0) a0_PC a0_Level a0_V (fun i0 => a0_C i0) a0_Done) a1
    else
      bif iEq a1 3074 then legal_because1 (iLe 1 (legal_Level0 (fun i0 => a0_X i0) a0_PC a0_Level a0_V (fun i0 => a0_C i0) a0_Done)) 2
      else
        bif
            bif bif iEq a1 384 then iEq (legal_Level0 (fun i0 => a0_X i0) a0_PC a0_Level a0_V (fun i0 => a0_C i0) a0_Done) 1 else false then
              csr_Bit0 (fun i0 => a0_X i0) a0_PC a0_Level a0_V (fun i0 => a0_C i0) a0_Done 0 20
            else false then
          false
        else
          legal_because1
            (iLe (bif (legal_ask0 a1).toNat == 3 then 3 else bif (legal_ask0 a1).toNat == 2 then 1 else bif (legal_ask0 a1).toNat == 1 then 1 else bif (legal_ask0 a1).toNat == 0 then 0 else 0)
              (legal_Level0 (fun i0 => a0_X i0) a0_PC a0_Level a0_V (fun i0 => a0_C i0) a0_Done))
            2
def legal_CsrG (a0_X : Nat → Int) (a0_PC : Int) (a0_Level : Int) (a0_V : Bool) (a0_C : Nat → Int) (a0_Done : Int) (a1 : Int) (a2 : Bool) : Bool :=
  bif bif !csr_Is0 a1 then true else bif a2 then iLe 3072 a1 else false then true
  else
    bif iLe 4 (legal_Level0 (fun i0 => a0_X i0) a0_PC a0_Level a0_V (fun i0 => a0_C i0) a0_Done) then true
    else
      bif iEq a1 3074 then true
      else
        ((!bif iEq a1 384 then iEq (legal_Level0 (fun i0 => a0_X i0) a0_PC a0_Level a0_V (fun i0 => a0_C i0) a0_Done) 1 else false) ||
            csr_BitG (fun i0 => a0_X i0) a0_PC a0_Level a0_V (fun i0 => a0_C i0) a0_Done 0 20) &&
          bif
              bif bif iEq a1 384 then iEq (legal_Level0 (fun i0 => a0_X i0) a0_PC a0_Level a0_V (fun i0 => a0_C i0) a0_Done) 1 else false then
                csr_Bit0 (fun i0 => a0_X i0) a0_PC a0_Level a0_V (fun i0 => a0_C i0) a0_Done 0 20
              else false then
            true
          else iIn (legal_ask0 a1) 4 && true
def legal_CsrV (a0_X : Nat → Int) (a0_PC : Int) (a0_Level : Int) (a0_V : Bool) (a0_C : Nat → Int) (a0_Done : Int) (a1 : Int) (a2 : Bool) : AV := .tup [.it .u64 (legal_Csr0 a0_X a0_PC a0_Level a0_V a0_C a0_Done a1 a2), .bl (legal_Csr1 a0_X a0_PC a0_Level a0_V a0_C a0_Done a1 a2)]
theorem legal_CsrE (g : Nat → AV) : pcOf Try.prog okT (lookR T47) (NOH) RO NOV 100 false Try.f31 (norms [(.agg [(.arr 32 (.int .u64)), (.int .u64), (.int .i64), .bool, (.arr 29 (.int .u64)), (.int .u64)]), (.int .i64), .bool] 0 g) = some (legal_CsrG (fun i0 => (((g 0).fld 0).ix i0).num) (((g 0).fld 1).num) (((g 0).fld 2).num) (((g 0).fld 3).bool) (fun i0 => (((g 0).fld 4).ix i0).num) (((g 0).fld 5).num) ((g 1).num) ((g 2).bool), legal_CsrV (fun i0 => (((g 0).fld 0).ix i0).num) (((g 0).fld 1).num) (((g 0).fld 2).num) (((g 0).fld 3).bool) (fun i0 => (((g 0).fld 4).ix i0).num) (((g 0).fld 5).num) ((g 1).num) ((g 2).bool)) := by kernel_rfl
theorem legal_CsrP : Plain Try.prog 31 Try.f31 := ⟨Try.func31, of_decide_eq_true (by kernel_rfl)⟩
theorem legal_CsrO : RowOk Try.prog 31 (rowF [(.agg [(.arr 32 (.int .u64)), (.int .u64), (.int .i64), .bool, (.arr 29 (.int .u64)), (.int .u64)]), (.int .i64), .bool] (some fun g => legal_CsrG (fun i0 => (((g 0).fld 0).ix i0).num) (((g 0).fld 1).num) (((g 0).fld 2).num) (((g 0).fld 3).bool) (fun i0 => (((g 0).fld 4).ix i0).num) (((g 0).fld 5).num) ((g 1).num) ((g 2).bool)) fun g => legal_CsrV (fun i0 => (((g 0).fld 0).ix i0).num) (((g 0).fld 1).num) (((g 0).fld 2).num) (((g 0).fld 3).bool) (fun i0 => (((g 0).fld 4).ix i0).num) (((g 0).fld 5).num) ((g 1).num) ((g 2).bool)) := rowF_ok fun g hg => pcOf_ok mix fair T47_ok (HSound_none) legal_CsrP (fun c _ => OvOk_none c) (legal_CsrE g) hg
def T31 : List Row := (31, (rowF [(.agg [(.arr 32 (.int .u64)), (.int .u64), (.int .i64), .bool, (.arr 29 (.int .u64)), (.int .u64)]), (.int .i64), .bool] (some fun g => legal_CsrG (fun i0 => (((g 0).fld 0).ix i0).num) (((g 0).fld 1).num) (((g 0).fld 2).num) (((g 0).fld 3).bool) (fun i0 => (((g 0).fld 4).ix i0).num) (((g 0).fld 5).num) ((g 1).num) ((g 2).bool)) fun g => legal_CsrV (fun i0 => (((g 0).fld 0).ix i0).num) (((g 0).fld 1).num) (((g 0).fld 2).num) (((g 0).fld 3).bool) (fun i0 => (((g 0).fld 4).ix i0).num) (((g 0).fld 5).num) ((g 1).num) ((g 2).bool))) :: T47
theorem T31_ok : PSound Try.prog (lookR T31) := lookR_cons legal_CsrO T47_ok

/- sallyport/sallyportref8.Csr -/
def sallyportref8_Csr0 (a0_X : Nat → Int) (a0_PC : Int) (a0_Level : Int) (a0_V : Bool) (a0_C : Nat → Int) (a0_Done : Int) (a1 : Int) (a2 : Bool) : Int :=
  bif bif !sallyportref8_Read1 (fun i0 => a0_X i0) a0_PC a0_Level a0_V (fun i0 => a0_C i0) a0_Done a1 then true else bif a2 then iLe 3072 a1 else false then 2
  else
    bif bif iLe 4 (sallyportref8_Level0 (fun i0 => a0_X i0) a0_PC a0_Level a0_V (fun i0 => a0_C i0) a0_Done) then iEq (iAnd IntKind.i64 (iShr IntKind.i64 a1 8) 3) 3 else false then 2
    else
      bif
          bif iLe 4 (sallyportref8_Level0 (fun i0 => a0_X i0) a0_PC a0_Level a0_V (fun i0 => a0_C i0) a0_Done) then
            bif
                bif bif iEq a1 3074 then true else iEq (iAnd IntKind.i64 (iShr IntKind.i64 a1 8) 3) 2 then true
                else iNe (sallyportref8_Level0 (fun i0 => a0_X i0) a0_PC a0_Level a0_V (fun i0 => a0_C i0) a0_Done) 5 then
              true
            else bif iEq a1 384 then sallyportref8_Bit0 (fun i0 => a0_X i0) a0_PC a0_Level a0_V (fun i0 => a0_C i0) a0_Done 16 20 else false
          else false then
        22
      else
        bif iLe 4 (sallyportref8_Level0 (fun i0 => a0_X i0) a0_PC a0_Level a0_V (fun i0 => a0_C i0) a0_Done) then 0
        else
          bif iEq a1 3074 then sallyportref8_need0 (iLe 1 (sallyportref8_Level0 (fun i0 => a0_X i0) a0_PC a0_Level a0_V (fun i0 => a0_C i0) a0_Done))
          else
            bif iEq (iAnd IntKind.i64 (iShr IntKind.i64 a1 8) 3) 3 then sallyportref8_need0 (iEq (sallyportref8_Level0 (fun i0 => a0_X i0) a0_PC a0_Level a0_V (fun i0 => a0_C i0) a0_Done) 3)
            else
              bif
                  bif bif iLt 0 (iAnd IntKind.i64 (iShr IntKind.i64 a1 8) 3) then iLt (sallyportref8_Level0 (fun i0 => a0_X i0) a0_PC a0_Level a0_V (fun i0 => a0_C i0) a0_Done) 1 else false then true
                  else
                    bif bif iEq a1 384 then iEq (sallyportref8_Level0 (fun i0 => a0_X i0) a0_PC a0_Level a0_V (fun i0 => a0_C i0) a0_Done) 1 else false then
                      sallyportref8_Bit0 (fun i0 => a0_X i0) a0_PC a0_Level a0_V (fun i0 => a0_C i0) a0_Done 0 20
                    else false then
                2
              else 0
def sallyportref8_Csr1 (a0_X : Nat → Int) (a0_PC : Int) (a0_Level : Int) (a0_V : Bool) (a0_C : Nat → Int) (a0_Done : Int) (a1 : Int) (a2 : Bool) : Bool :=
  bif bif !sallyportref8_Read1 (fun i0 => a0_X i0) a0_PC a0_Level a0_V (fun i0 => a0_C i0) a0_Done a1 then true else bif a2 then iLe 3072 a1 else false then false
  else
    bif bif iLe 4 (sallyportref8_Level0 (fun i0 => a0_X i0) a0_PC a0_Level a0_V (fun i0 => a0_C i0) a0_Done) then iEq (iAnd IntKind.i64 (iShr IntKind.i64 a1 8) 3) 3 else false then false
    else
      bif
          bif iLe 4 (sallyportref8_Level0 (fun i0 => a0_X i0) a0_PC a0_Level a0_V (fun i0 => a0_C i0) a0_Done) then
            bif
                bif bif iEq a1 3074 then true else iEq (iAnd IntKind.i64 (iShr IntKind.i64 a1 8) 3) 2 then true
                else iNe (sallyportref8_Level0 (fun i0 => a0_X i0) a0_PC a0_Level a0_V (fun i0 => a0_C i0) a0_Done) 5 then
              true
            else bif iEq a1 384 then sallyportref8_Bit0 (fun i0 => a0_X i0) a0_PC a0_Level a0_V (fun i0 => a0_C i0) a0_Done 16 20 else false
          else false then
        false
      else
        bif iLe 4 (sallyportref8_Level0 (fun i0 => a0_X i0) a0_PC a0_Level a0_V (fun i0 => a0_C i0) a0_Done) then true
        else
          bif iEq a1 3074 then sallyportref8_need1 (iLe 1 (sallyportref8_Level0 (fun i0 => a0_X i0) a0_PC a0_Level a0_V (fun i0 => a0_C i0) a0_Done))
          else
            bif iEq (iAnd IntKind.i64 (iShr IntKind.i64 a1 8) 3) 3 then sallyportref8_need1 (iEq (sallyportref8_Level0 (fun i0 => a0_X i0) a0_PC a0_Level a0_V (fun i0 => a0_C i0) a0_Done) 3)
            else
              bif
                  bif bif iLt 0 (iAnd IntKind.i64 (iShr IntKind.i64 a1 8) 3) then iLt (sallyportref8_Level0 (fun i0 => a0_X i0) a0_PC a0_Level a0_V (fun i0 => a0_C i0) a0_Done) 1 else false then true
                  else
                    bif bif iEq a1 384 then iEq (sallyportref8_Level0 (fun i0 => a0_X i0) a0_PC a0_Level a0_V (fun i0 => a0_C i0) a0_Done) 1 else false then
                      sallyportref8_Bit0 (fun i0 => a0_X i0) a0_PC a0_Level a0_V (fun i0 => a0_C i0) a0_Done 0 20
                    else false then
                false
              else true
def sallyportref8_CsrG (a0_X : Nat → Int) (a0_PC : Int) (a0_Level : Int) (a0_V : Bool) (a0_C : Nat → Int) (a0_Done : Int) (a1 : Int) (a2 : Bool) : Bool :=
  bif bif !sallyportref8_Read1 (fun i0 => a0_X i0) a0_PC a0_Level a0_V (fun i0 => a0_C i0) a0_Done a1 then true else bif a2 then iLe 3072 a1 else false then true
  else
    bif bif iLe 4 (sallyportref8_Level0 (fun i0 => a0_X i0) a0_PC a0_Level a0_V (fun i0 => a0_C i0) a0_Done) then iEq (iAnd IntKind.i64 (iShr IntKind.i64 a1 8) 3) 3 else false then true
    else
      (!((iLe 4 (sallyportref8_Level0 (fun i0 => a0_X i0) a0_PC a0_Level a0_V (fun i0 => a0_C i0) a0_Done) &&
                !bif bif iEq a1 3074 then true else iEq (iAnd IntKind.i64 (iShr IntKind.i64 a1 8) 3) 2 then true
                  else iNe (sallyportref8_Level0 (fun i0 => a0_X i0) a0_PC a0_Level a0_V (fun i0 => a0_C i0) a0_Done) 5) &&
              iEq a1 384) ||
          sallyportref8_BitG (fun i0 => a0_X i0) a0_PC a0_Level a0_V (fun i0 => a0_C i0) a0_Done 16 20) &&
        bif
            bif iLe 4 (sallyportref8_Level0 (fun i0 => a0_X i0) a0_PC a0_Level a0_V (fun i0 => a0_C i0) a0_Done) then
              bif
                  bif bif iEq a1 3074 then true else iEq (iAnd IntKind.i64 (iShr IntKind.i64 a1 8) 3) 2 then true
                  else iNe (sallyportref8_Level0 (fun i0 => a0_X i0) a0_PC a0_Level a0_V (fun i0 => a0_C i0) a0_Done) 5 then
                true
              else bif iEq a1 384 then sallyportref8_Bit0 (fun i0 => a0_X i0) a0_PC a0_Level a0_V (fun i0 => a0_C i0) a0_Done 16 20 else false
            else false then
          true
        else
          bif iLe 4 (sallyportref8_Level0 (fun i0 => a0_X i0) a0_PC a0_Level a0_V (fun i0 => a0_C i0) a0_Done) then true
          else
            bif iEq a1 3074 then true
            else
              bif iEq (iAnd IntKind.i64 (iShr IntKind.i64 a1 8) 3) 3 then true
              else
                (!((!bif iLt 0 (iAnd IntKind.i64 (iShr IntKind.i64 a1 8) 3) then iLt (sallyportref8_Level0 (fun i0 => a0_X i0) a0_PC a0_Level a0_V (fun i0 => a0_C i0) a0_Done) 1 else false) &&
                        bif iEq a1 384 then iEq (sallyportref8_Level0 (fun i0 => a0_X i0) a0_PC a0_Level a0_V (fun i0 => a0_C i0) a0_Done) 1 else false) ||
                    sallyportref8_BitG (fun i0 => a0_X i0) a0_PC a0_Level a0_V (fun i0 => a0_C i0) a0_Done 0 20) &&
                  bif
                      bif bif iLt 0 (iAnd IntKind.i64 (iShr IntKind.i64 a1 8) 3) then iLt (sallyportref8_Level0 (fun i0 => a0_X i0) a0_PC a0_Level a0_V (fun i0 => a0_C i0) a0_Done) 1 else false then
                        true
                      else
                        bif bif iEq a1 384 then iEq (sallyportref8_Level0 (fun i0 => a0_X i0) a0_PC a0_Level a0_V (fun i0 => a0_C i0) a0_Done) 1 else false then
                          sallyportref8_Bit0 (fun i0 => a0_X i0) a0_PC a0_Level a0_V (fun i0 => a0_C i0) a0_Done 0 20
                        else false then
                    true
                  else true
def sallyportref8_CsrV (a0_X : Nat → Int) (a0_PC : Int) (a0_Level : Int) (a0_V : Bool) (a0_C : Nat → Int) (a0_Done : Int) (a1 : Int) (a2 : Bool) : AV := .tup [.it .u64 (sallyportref8_Csr0 a0_X a0_PC a0_Level a0_V a0_C a0_Done a1 a2), .bl (sallyportref8_Csr1 a0_X a0_PC a0_Level a0_V a0_C a0_Done a1 a2)]
theorem sallyportref8_CsrE (g : Nat → AV) : pcOf Try.prog okT (lookR T31) (NOH) RO NOV 100 false Try.f32 (norms [(.agg [(.arr 32 (.int .u64)), (.int .u64), (.int .i64), .bool, (.arr 29 (.int .u64)), (.int .u64)]), (.int .i64), .bool] 0 g) = some (sallyportref8_CsrG (fun i0 => (((g 0).fld 0).ix i0).num) (((g 0).fld 1).num) (((g 0).fld 2).num) (((g 0).fld 3).bool) (fun i0 => (((g 0).fld 4).ix i0).num) (((g 0).fld 5).num) ((g 1).num) ((g 2).bool), sallyportref8_CsrV (fun i0 => (((g 0).fld 0).ix i0).num) (((g 0).fld 1).num) (((g 0).fld 2).num) (((g 0).fld 3).bool) (fun i0 => (((g 0).fld 4).ix i0).num) (((g 0).fld 5).num) ((g 1).num) ((g 2).bool)) := by kernel_rfl
theorem sallyportref8_CsrP : Plain Try.prog 32 Try.f32 := ⟨Try.func32, of_decide_eq_true (by kernel_rfl)⟩
theorem sallyportref8_CsrT (a0_X : Nat → Int) (a0_PC : Int) (a0_Level : Int) (a0_V : Bool) (a0_C : Nat → Int) (a0_Done : Int) (a1 : Int) (a2 : Bool) : sallyportref8_CsrG a0_X a0_PC a0_Level a0_V a0_C a0_Done a1 a2 = true := by simp [sallyportref8_CsrG, sallyportref8_BitG, show iIn 16 29 = true by decide, show iIn 0 29 = true by decide]
theorem sallyportref8_CsrO : RowOk Try.prog 32 (rowF [(.agg [(.arr 32 (.int .u64)), (.int .u64), (.int .i64), .bool, (.arr 29 (.int .u64)), (.int .u64)]), (.int .i64), .bool] none fun g => sallyportref8_CsrV (fun i0 => (((g 0).fld 0).ix i0).num) (((g 0).fld 1).num) (((g 0).fld 2).num) (((g 0).fld 3).bool) (fun i0 => (((g 0).fld 4).ix i0).num) (((g 0).fld 5).num) ((g 1).num) ((g 2).bool)) := rowT_ok fun g => pcOf_ok mix fair T31_ok (HSound_none) sallyportref8_CsrP (fun c _ => OvOk_none c) (sallyportref8_CsrE g) (sallyportref8_CsrT (fun i0 => (((g 0).fld 0).ix i0).num) (((g 0).fld 1).num) (((g 0).fld 2).num) (((g 0).fld 3).bool) (fun i0 => (((g 0).fld 4).ix i0).num) (((g 0).fld 5).num) ((g 1).num) ((g 2).bool))
def T32 : List Row := (32, (rowF [(.agg [(.arr 32 (.int .u64)), (.int .u64), (.int .i64), .bool, (.arr 29 (.int .u64)), (.int .u64)]), (.int .i64), .bool] none fun g => sallyportref8_CsrV (fun i0 => (((g 0).fld 0).ix i0).num) (((g 0).fld 1).num) (((g 0).fld 2).num) (((g 0).fld 3).bool) (fun i0 => (((g 0).fld 4).ix i0).num) (((g 0).fld 5).num) ((g 1).num) ((g 2).bool))) :: T31
theorem T32_ok : PSound Try.prog (lookR T32) := lookR_cons sallyportref8_CsrO T31_ok

/- sallyport/legal.plain -/
def legal_plain0 (a0_X : Nat → Int) (a0_PC : Int) (a0_Level : Int) (a0_V : Bool) (a0_C : Nat → Int) (a0_Done : Int) (a1 : Int) (a2 : Int) (a3 : Int) : Int :=
  bif iEq a1 0 then 2
  else
    bif iEq a1 4 then 22
    else
      bif iEq a1 1 then legal_because0 (!csr_Bit0 (fun i0 => a0_X i0) a0_PC a0_Level a0_V (fun i0 => a0_C i0) a0_Done 0 a2) 2
      else bif iEq a1 5 then legal_because0 (!csr_Bit0 (fun i0 => a0_X i0) a0_PC a0_Level a0_V (fun i0 => a0_C i0) a0_Done 16 a3) 22 else 0
def legal_plain1 (a0_X : Nat → Int) (a0_PC : Int) (a0_Level : Int) (a0_V : Bool) (a0_C : Nat → Int) (a0_Done : Int) (a1 : Int) (a2 : Int) (a3 : Int) : Bool :=
  bif iEq a1 0 then false
  else
    bif iEq a1 4 then false
    else
      bif iEq a1 1 then legal_because1 (!csr_Bit0 (fun i0 => a0_X i0) a0_PC a0_Level a0_V (fun i0 => a0_C i0) a0_Done 0 a2) 2
      else bif iEq a1 5 then legal_because1 (!csr_Bit0 (fun i0 => a0_X i0) a0_PC a0_Level a0_V (fun i0 => a0_C i0) a0_Done 16 a3) 22 else true
def legal_plainG (a0_X : Nat → Int) (a0_PC : Int) (a0_Level : Int) (a0_V : Bool) (a0_C : Nat → Int) (a0_Done : Int) (a1 : Int) (a2 : Int) (a3 : Int) : Bool :=
  bif iEq a1 0 then true
  else
    bif iEq a1 4 then true
    else
      bif iEq a1 1 then csr_BitG (fun i0 => a0_X i0) a0_PC a0_Level a0_V (fun i0 => a0_C i0) a0_Done 0 a2 && true
      else bif iEq a1 5 then csr_BitG (fun i0 => a0_X i0) a0_PC a0_Level a0_V (fun i0 => a0_C i0) a0_Done 16 a3 && true else true
def legal_plainV (a0_X : Nat → Int) (a0_PC : Int) (a0_Level : Int) (a0_V : Bool) (a0_C : Nat → Int) (a0_Done : Int) (a1 : Int) (a2 : Int) (a3 : Int) : AV := .tup [.it .u64 (legal_plain0 a0_X a0_PC a0_Level a0_V a0_C a0_Done a1 a2 a3), .bl (legal_plain1 a0_X a0_PC a0_Level a0_V a0_C a0_Done a1 a2 a3)]
theorem legal_plainE (g : Nat → AV) : pcOf Try.prog okT (lookR T32) (NOH) RO NOV 100 false Try.f56 (norms [(.agg [(.arr 32 (.int .u64)), (.int .u64), (.int .i64), .bool, (.arr 29 (.int .u64)), (.int .u64)]), (.int .i64), (.int .i64), (.int .i64)] 0 g) = some (legal_plainG (fun i0 => (((g 0).fld 0).ix i0).num) (((g 0).fld 1).num) (((g 0).fld 2).num) (((g 0).fld 3).bool) (fun i0 => (((g 0).fld 4).ix i0).num) (((g 0).fld 5).num) ((g 1).num) ((g 2).num) ((g 3).num), legal_plainV (fun i0 => (((g 0).fld 0).ix i0).num) (((g 0).fld 1).num) (((g 0).fld 2).num) (((g 0).fld 3).bool) (fun i0 => (((g 0).fld 4).ix i0).num) (((g 0).fld 5).num) ((g 1).num) ((g 2).num) ((g 3).num)) := by kernel_rfl
theorem legal_plainP : Plain Try.prog 56 Try.f56 := ⟨Try.func56, of_decide_eq_true (by kernel_rfl)⟩
theorem legal_plainT (a0_X : Nat → Int) (a0_PC : Int) (a0_Level : Int) (a0_V : Bool) (a0_C : Nat → Int) (a0_Done : Int) (a1 : Int) (a2 : Int) (a3 : Int) : legal_plainG a0_X a0_PC a0_Level a0_V a0_C a0_Done a1 a2 a3 = true := by simp [legal_plainG, csr_BitG, show iIn 16 29 = true by decide, show iIn 0 29 = true by decide]
theorem legal_plainO : RowOk Try.prog 56 (rowF [(.agg [(.arr 32 (.int .u64)), (.int .u64), (.int .i64), .bool, (.arr 29 (.int .u64)), (.int .u64)]), (.int .i64), (.int .i64), (.int .i64)] none fun g => legal_plainV (fun i0 => (((g 0).fld 0).ix i0).num) (((g 0).fld 1).num) (((g 0).fld 2).num) (((g 0).fld 3).bool) (fun i0 => (((g 0).fld 4).ix i0).num) (((g 0).fld 5).num) ((g 1).num) ((g 2).num) ((g 3).num)) := rowT_ok fun g => pcOf_ok mix fair T32_ok (HSound_none) legal_plainP (fun c _ => OvOk_none c) (legal_plainE g) (legal_plainT (fun i0 => (((g 0).fld 0).ix i0).num) (((g 0).fld 1).num) (((g 0).fld 2).num) (((g 0).fld 3).bool) (fun i0 => (((g 0).fld 4).ix i0).num) (((g 0).fld 5).num) ((g 1).num) ((g 2).num) ((g 3).num))
def T56 : List Row := (56, (rowF [(.agg [(.arr 32 (.int .u64)), (.int .u64), (.int .i64), .bool, (.arr 29 (.int .u64)), (.int .u64)]), (.int .i64), (.int .i64), (.int .i64)] none fun g => legal_plainV (fun i0 => (((g 0).fld 0).ix i0).num) (((g 0).fld 1).num) (((g 0).fld 2).num) (((g 0).fld 3).bool) (fun i0 => (((g 0).fld 4).ix i0).num) (((g 0).fld 5).num) ((g 1).num) ((g 2).num) ((g 3).num))) :: T32
theorem T56_ok : PSound Try.prog (lookR T56) := lookR_cons legal_plainO T32_ok

/- sallyport/legal.wfi -/
def legal_wfi0 (a0_X : Nat → Int) (a0_PC : Int) (a0_Level : Int) (a0_V : Bool) (a0_C : Nat → Int) (a0_Done : Int) (a1 : Int) : Int :=
  bif iEq a1 0 then
    bif iEq a1 0 then 2
    else bif iEq a1 4 then bif iEq a1 4 then 22 else 0 else bif bif iEq a1 5 then csr_Bit0 (fun i0 => a0_X i0) a0_PC a0_Level a0_V (fun i0 => a0_C i0) a0_Done 16 21 else false then 22 else 0
  else
    bif bif iNe a1 3 then csr_Bit0 (fun i0 => a0_X i0) a0_PC a0_Level a0_V (fun i0 => a0_C i0) a0_Done 0 21 else false then 2
    else bif iEq a1 4 then bif iEq a1 4 then 22 else 0 else bif bif iEq a1 5 then csr_Bit0 (fun i0 => a0_X i0) a0_PC a0_Level a0_V (fun i0 => a0_C i0) a0_Done 16 21 else false then 22 else 0
def legal_wfi1 (a0_X : Nat → Int) (a0_PC : Int) (a0_Level : Int) (a0_V : Bool) (a0_C : Nat → Int) (a0_Done : Int) (a1 : Int) : Bool :=
  bif iEq a1 0 then
    bif iEq a1 0 then false
    else bif iEq a1 4 then bif iEq a1 4 then false else true else bif bif iEq a1 5 then csr_Bit0 (fun i0 => a0_X i0) a0_PC a0_Level a0_V (fun i0 => a0_C i0) a0_Done 16 21 else false then false else true
  else
    bif bif iNe a1 3 then csr_Bit0 (fun i0 => a0_X i0) a0_PC a0_Level a0_V (fun i0 => a0_C i0) a0_Done 0 21 else false then false
    else bif iEq a1 4 then bif iEq a1 4 then false else true else bif bif iEq a1 5 then csr_Bit0 (fun i0 => a0_X i0) a0_PC a0_Level a0_V (fun i0 => a0_C i0) a0_Done 16 21 else false then false else true
def legal_wfiG (a0_X : Nat → Int) (a0_PC : Int) (a0_Level : Int) (a0_V : Bool) (a0_C : Nat → Int) (a0_Done : Int) (a1 : Int) : Bool :=
  bif iEq a1 0 then
    bif iEq a1 0 then true
    else
      bif iEq a1 4 then bif iEq a1 4 then true else true
      else
        (!iEq a1 5 || csr_BitG (fun i0 => a0_X i0) a0_PC a0_Level a0_V (fun i0 => a0_C i0) a0_Done 16 21) &&
          bif bif iEq a1 5 then csr_Bit0 (fun i0 => a0_X i0) a0_PC a0_Level a0_V (fun i0 => a0_C i0) a0_Done 16 21 else false then true else true
  else
    (!iNe a1 3 || csr_BitG (fun i0 => a0_X i0) a0_PC a0_Level a0_V (fun i0 => a0_C i0) a0_Done 0 21) &&
      bif bif iNe a1 3 then csr_Bit0 (fun i0 => a0_X i0) a0_PC a0_Level a0_V (fun i0 => a0_C i0) a0_Done 0 21 else false then true
      else
        bif iEq a1 4 then bif iEq a1 4 then true else true
        else
          (!iEq a1 5 || csr_BitG (fun i0 => a0_X i0) a0_PC a0_Level a0_V (fun i0 => a0_C i0) a0_Done 16 21) &&
            bif bif iEq a1 5 then csr_Bit0 (fun i0 => a0_X i0) a0_PC a0_Level a0_V (fun i0 => a0_C i0) a0_Done 16 21 else false then true else true
def legal_wfiV (a0_X : Nat → Int) (a0_PC : Int) (a0_Level : Int) (a0_V : Bool) (a0_C : Nat → Int) (a0_Done : Int) (a1 : Int) : AV := .tup [.it .u64 (legal_wfi0 a0_X a0_PC a0_Level a0_V a0_C a0_Done a1), .bl (legal_wfi1 a0_X a0_PC a0_Level a0_V a0_C a0_Done a1)]
theorem legal_wfiE (g : Nat → AV) : pcOf Try.prog okT (lookR T56) (NOH) RO NOV 100 false Try.f57 (norms [(.agg [(.arr 32 (.int .u64)), (.int .u64), (.int .i64), .bool, (.arr 29 (.int .u64)), (.int .u64)]), (.int .i64)] 0 g) = some (legal_wfiG (fun i0 => (((g 0).fld 0).ix i0).num) (((g 0).fld 1).num) (((g 0).fld 2).num) (((g 0).fld 3).bool) (fun i0 => (((g 0).fld 4).ix i0).num) (((g 0).fld 5).num) ((g 1).num), legal_wfiV (fun i0 => (((g 0).fld 0).ix i0).num) (((g 0).fld 1).num) (((g 0).fld 2).num) (((g 0).fld 3).bool) (fun i0 => (((g 0).fld 4).ix i0).num) (((g 0).fld 5).num) ((g 1).num)) := by kernel_rfl
theorem legal_wfiP : Plain Try.prog 57 Try.f57 := ⟨Try.func57, of_decide_eq_true (by kernel_rfl)⟩
theorem legal_wfiT (a0_X : Nat → Int) (a0_PC : Int) (a0_Level : Int) (a0_V : Bool) (a0_C : Nat → Int) (a0_Done : Int) (a1 : Int) : legal_wfiG a0_X a0_PC a0_Level a0_V a0_C a0_Done a1 = true := by simp [legal_wfiG, csr_BitG, show iIn 16 29 = true by decide, show iIn 0 29 = true by decide]
theorem legal_wfiO : RowOk Try.prog 57 (rowF [(.agg [(.arr 32 (.int .u64)), (.int .u64), (.int .i64), .bool, (.arr 29 (.int .u64)), (.int .u64)]), (.int .i64)] none fun g => legal_wfiV (fun i0 => (((g 0).fld 0).ix i0).num) (((g 0).fld 1).num) (((g 0).fld 2).num) (((g 0).fld 3).bool) (fun i0 => (((g 0).fld 4).ix i0).num) (((g 0).fld 5).num) ((g 1).num)) := rowT_ok fun g => pcOf_ok mix fair T56_ok (HSound_none) legal_wfiP (fun c _ => OvOk_none c) (legal_wfiE g) (legal_wfiT (fun i0 => (((g 0).fld 0).ix i0).num) (((g 0).fld 1).num) (((g 0).fld 2).num) (((g 0).fld 3).bool) (fun i0 => (((g 0).fld 4).ix i0).num) (((g 0).fld 5).num) ((g 1).num))
def T57 : List Row := (57, (rowF [(.agg [(.arr 32 (.int .u64)), (.int .u64), (.int .i64), .bool, (.arr 29 (.int .u64)), (.int .u64)]), (.int .i64)] none fun g => legal_wfiV (fun i0 => (((g 0).fld 0).ix i0).num) (((g 0).fld 1).num) (((g 0).fld 2).num) (((g 0).fld 3).bool) (fun i0 => (((g 0).fld 4).ix i0).num) (((g 0).fld 5).num) ((g 1).num))) :: T56
theorem T57_ok : PSound Try.prog (lookR T57) := lookR_cons legal_wfiO T56_ok

/- sallyport/legal.guests -/
def legal_guests0 (a0_X : Nat → Int) (a0_PC : Int) (a0_Level : Int) (a0_V : Bool) (a0_C : Nat → Int) (a0_Done : Int) (a1 : Int) (a2 : Int) : Int :=
  bif iLe 4 a1 then 22
  else
    bif iEq a1 0 then legal_because0 (bif iEq (insn_Class0 a2) 12 then csr_Bit0 (fun i0 => a0_X i0) a0_PC a0_Level a0_V (fun i0 => a0_C i0) a0_Done 16 9 else false) 2
    else bif bif iEq a1 1 then iEq a2 65 else false then legal_because0 (!csr_Bit0 (fun i0 => a0_X i0) a0_PC a0_Level a0_V (fun i0 => a0_C i0) a0_Done 0 20) 2 else 0
def legal_guests1 (a0_X : Nat → Int) (a0_PC : Int) (a0_Level : Int) (a0_V : Bool) (a0_C : Nat → Int) (a0_Done : Int) (a1 : Int) (a2 : Int) : Bool :=
  bif iLe 4 a1 then false
  else
    bif iEq a1 0 then legal_because1 (bif iEq (insn_Class0 a2) 12 then csr_Bit0 (fun i0 => a0_X i0) a0_PC a0_Level a0_V (fun i0 => a0_C i0) a0_Done 16 9 else false) 2
    else bif bif iEq a1 1 then iEq a2 65 else false then legal_because1 (!csr_Bit0 (fun i0 => a0_X i0) a0_PC a0_Level a0_V (fun i0 => a0_C i0) a0_Done 0 20) 2 else true
def legal_guestsG (a0_X : Nat → Int) (a0_PC : Int) (a0_Level : Int) (a0_V : Bool) (a0_C : Nat → Int) (a0_Done : Int) (a1 : Int) (a2 : Int) : Bool :=
  bif iLe 4 a1 then true
  else
    bif iEq a1 0 then (!iEq (insn_Class0 a2) 12 || csr_BitG (fun i0 => a0_X i0) a0_PC a0_Level a0_V (fun i0 => a0_C i0) a0_Done 16 9) && true
    else bif bif iEq a1 1 then iEq a2 65 else false then csr_BitG (fun i0 => a0_X i0) a0_PC a0_Level a0_V (fun i0 => a0_C i0) a0_Done 0 20 && true else true
def legal_guestsV (a0_X : Nat → Int) (a0_PC : Int) (a0_Level : Int) (a0_V : Bool) (a0_C : Nat → Int) (a0_Done : Int) (a1 : Int) (a2 : Int) : AV := .tup [.it .u64 (legal_guests0 a0_X a0_PC a0_Level a0_V a0_C a0_Done a1 a2), .bl (legal_guests1 a0_X a0_PC a0_Level a0_V a0_C a0_Done a1 a2)]
theorem legal_guestsE (g : Nat → AV) : pcOf Try.prog okT (lookR T57) (NOH) RO NOV 100 false Try.f58 (norms [(.agg [(.arr 32 (.int .u64)), (.int .u64), (.int .i64), .bool, (.arr 29 (.int .u64)), (.int .u64)]), (.int .i64), (.int .i64)] 0 g) = some (legal_guestsG (fun i0 => (((g 0).fld 0).ix i0).num) (((g 0).fld 1).num) (((g 0).fld 2).num) (((g 0).fld 3).bool) (fun i0 => (((g 0).fld 4).ix i0).num) (((g 0).fld 5).num) ((g 1).num) ((g 2).num), legal_guestsV (fun i0 => (((g 0).fld 0).ix i0).num) (((g 0).fld 1).num) (((g 0).fld 2).num) (((g 0).fld 3).bool) (fun i0 => (((g 0).fld 4).ix i0).num) (((g 0).fld 5).num) ((g 1).num) ((g 2).num)) := by kernel_rfl
theorem legal_guestsP : Plain Try.prog 58 Try.f58 := ⟨Try.func58, of_decide_eq_true (by kernel_rfl)⟩
theorem legal_guestsT (a0_X : Nat → Int) (a0_PC : Int) (a0_Level : Int) (a0_V : Bool) (a0_C : Nat → Int) (a0_Done : Int) (a1 : Int) (a2 : Int) : legal_guestsG a0_X a0_PC a0_Level a0_V a0_C a0_Done a1 a2 = true := by simp [legal_guestsG, csr_BitG, show iIn 16 29 = true by decide, show iIn 0 29 = true by decide]
theorem legal_guestsO : RowOk Try.prog 58 (rowF [(.agg [(.arr 32 (.int .u64)), (.int .u64), (.int .i64), .bool, (.arr 29 (.int .u64)), (.int .u64)]), (.int .i64), (.int .i64)] none fun g => legal_guestsV (fun i0 => (((g 0).fld 0).ix i0).num) (((g 0).fld 1).num) (((g 0).fld 2).num) (((g 0).fld 3).bool) (fun i0 => (((g 0).fld 4).ix i0).num) (((g 0).fld 5).num) ((g 1).num) ((g 2).num)) := rowT_ok fun g => pcOf_ok mix fair T57_ok (HSound_none) legal_guestsP (fun c _ => OvOk_none c) (legal_guestsE g) (legal_guestsT (fun i0 => (((g 0).fld 0).ix i0).num) (((g 0).fld 1).num) (((g 0).fld 2).num) (((g 0).fld 3).bool) (fun i0 => (((g 0).fld 4).ix i0).num) (((g 0).fld 5).num) ((g 1).num) ((g 2).num))
def T58 : List Row := (58, (rowF [(.agg [(.arr 32 (.int .u64)), (.int .u64), (.int .i64), .bool, (.arr 29 (.int .u64)), (.int .u64)]), (.int .i64), (.int .i64)] none fun g => legal_guestsV (fun i0 => (((g 0).fld 0).ix i0).num) (((g 0).fld 1).num) (((g 0).fld 2).num) (((g 0).fld 3).bool) (fun i0 => (((g 0).fld 4).ix i0).num) (((g 0).fld 5).num) ((g 1).num) ((g 2).num))) :: T57
theorem T58_ok : PSound Try.prog (lookR T58) := lookR_cons legal_guestsO T57_ok

/- sallyport/legal.Insn -/
def legal_Insn0 (a0_X : Nat → Int) (a0_PC : Int) (a0_Level : Int) (a0_V : Bool) (a0_C : Nat → Int) (a0_Done : Int) (a1_Op : Int) (a1_Rd : Int) (a1_Rs1 : Int) (a1_Rs2 : Int) (a1_Imm : Int) (a1_CSR : Int) : Int :=
  bif !insn_Is0 a1_Op a1_Rd a1_Rs1 a1_Rs2 a1_Imm a1_CSR then 2
  else
    bif iEq (insn_Class0 a1_Op) 9 then legal_Csr0 (fun i0 => a0_X i0) a0_PC a0_Level a0_V (fun i0 => a0_C i0) a0_Done a1_CSR (legal_Writes0 a1_Op a1_Rd a1_Rs1 a1_Rs2 a1_Imm a1_CSR)
    else
      bif iEq a1_Op 60 then legal_because0 (iEq (legal_Level0 (fun i0 => a0_X i0) a0_PC a0_Level a0_V (fun i0 => a0_C i0) a0_Done) 3) 2
      else
        bif iEq a1_Op 61 then legal_plain0 (fun i0 => a0_X i0) a0_PC a0_Level a0_V (fun i0 => a0_C i0) a0_Done (legal_Level0 (fun i0 => a0_X i0) a0_PC a0_Level a0_V (fun i0 => a0_C i0) a0_Done) 22 22
        else
          bif iEq a1_Op 63 then legal_plain0 (fun i0 => a0_X i0) a0_PC a0_Level a0_V (fun i0 => a0_C i0) a0_Done (legal_Level0 (fun i0 => a0_X i0) a0_PC a0_Level a0_V (fun i0 => a0_C i0) a0_Done) 20 20
          else
            bif iEq a1_Op 62 then legal_wfi0 (fun i0 => a0_X i0) a0_PC a0_Level a0_V (fun i0 => a0_C i0) a0_Done (legal_Level0 (fun i0 => a0_X i0) a0_PC a0_Level a0_V (fun i0 => a0_C i0) a0_Done)
            else
              bif iEq a1_Op 64 then
                bif iEq a1_Op 64 then
                  legal_guests0 (fun i0 => a0_X i0) a0_PC a0_Level a0_V (fun i0 => a0_C i0) a0_Done (legal_Level0 (fun i0 => a0_X i0) a0_PC a0_Level a0_V (fun i0 => a0_C i0) a0_Done) a1_Op
                else 0
              else
                bif iEq a1_Op 65 then
                  bif iEq a1_Op 65 then
                    legal_guests0 (fun i0 => a0_X i0) a0_PC a0_Level a0_V (fun i0 => a0_C i0) a0_Done (legal_Level0 (fun i0 => a0_X i0) a0_PC a0_Level a0_V (fun i0 => a0_C i0) a0_Done) a1_Op
                  else 0
                else
                  bif iEq (insn_Class0 a1_Op) 12 then
                    legal_guests0 (fun i0 => a0_X i0) a0_PC a0_Level a0_V (fun i0 => a0_C i0) a0_Done (legal_Level0 (fun i0 => a0_X i0) a0_PC a0_Level a0_V (fun i0 => a0_C i0) a0_Done) a1_Op
                  else 0
def legal_Insn1 (a0_X : Nat → Int) (a0_PC : Int) (a0_Level : Int) (a0_V : Bool) (a0_C : Nat → Int) (a0_Done : Int) (a1_Op : Int) (a1_Rd : Int) (a1_Rs1 : Int) (a1_Rs2 : Int) (a1_Imm : Int) (a1_CSR : Int) : Bool :=
  bif !insn_Is0 a1_Op a1_Rd a1_Rs1 a1_Rs2 a1_Imm a1_CSR then false
  else
    bif iEq (insn_Class0 a1_Op) 9 then legal_Csr1 (fun i0 => a0_X i0) a0_PC a0_Level a0_V (fun i0 => a0_C i0) a0_Done a1_CSR (legal_Writes0 a1_Op a1_Rd a1_Rs1 a1_Rs2 a1_Imm a1_CSR)
    else
      bif iEq a1_Op 60 then legal_because1 (iEq (legal_Level0 (fun i0 => a0_X i0) a0_PC a0_Level a0_V (fun i0 => a0_C i0) a0_Done) 3) 2
      else
        bif iEq a1_Op 61 then legal_plain1 (fun i0 => a0_X i0) a0_PC a0_Level a0_V (fun i0 => a0_C i0) a0_Done (legal_Level0 (fun i0 => a0_X i0) a0_PC a0_Level a0_V (fun i0 => a0_C i0) a0_Done) 22 22
        else
          bif iEq a1_Op 63 then legal_plain1 (fun i0 => a0_X i0) a0_PC a0_Level a0_V (fun i0 => a0_C i0) a0_Done (legal_Level0 (fun i0 => a0_X i0) a0_PC a0_Level a0_V (fun i0 => a0_C i0) a0_Done) 20 20
          else
            bif iEq a1_Op 62 then legal_wfi1 (fun i0 => a0_X i0) a0_PC a0_Level a0_V (fun i0 => a0_C i0) a0_Done (legal_Level0 (fun i0 => a0_X i0) a0_PC a0_Level a0_V (fun i0 => a0_C i0) a0_Done)
            else
              bif iEq a1_Op 64 then
                bif iEq a1_Op 64 then
                  legal_guests1 (fun i0 => a0_X i0) a0_PC a0_Level a0_V (fun i0 => a0_C i0) a0_Done (legal_Level0 (fun i0 => a0_X i0) a0_PC a0_Level a0_V (fun i0 => a0_C i0) a0_Done) a1_Op
                else true
              else
                bif iEq a1_Op 65 then
                  bif iEq a1_Op 65 then
                    legal_guests1 (fun i0 => a0_X i0) a0_PC a0_Level a0_V (fun i0 => a0_C i0) a0_Done (legal_Level0 (fun i0 => a0_X i0) a0_PC a0_Level a0_V (fun i0 => a0_C i0) a0_Done) a1_Op
                  else true
                else
                  bif iEq (insn_Class0 a1_Op) 12 then
                    legal_guests1 (fun i0 => a0_X i0) a0_PC a0_Level a0_V (fun i0 => a0_C i0) a0_Done (legal_Level0 (fun i0 => a0_X i0) a0_PC a0_Level a0_V (fun i0 => a0_C i0) a0_Done) a1_Op
                  else true
def legal_InsnG (a0_X : Nat → Int) (a0_PC : Int) (a0_Level : Int) (a0_V : Bool) (a0_C : Nat → Int) (a0_Done : Int) (a1_Op : Int) (a1_Rd : Int) (a1_Rs1 : Int) (a1_Rs2 : Int) (a1_Imm : Int) (a1_CSR : Int) : Bool :=
  bif !insn_Is0 a1_Op a1_Rd a1_Rs1 a1_Rs2 a1_Imm a1_CSR then true
  else
    bif iEq (insn_Class0 a1_Op) 9 then legal_CsrG (fun i0 => a0_X i0) a0_PC a0_Level a0_V (fun i0 => a0_C i0) a0_Done a1_CSR (legal_Writes0 a1_Op a1_Rd a1_Rs1 a1_Rs2 a1_Imm a1_CSR) && true
    else
      bif iEq a1_Op 60 then true
      else
        bif iEq a1_Op 61 then true
        else
          bif iEq a1_Op 63 then true
          else
            bif iEq a1_Op 62 then true
            else bif iEq a1_Op 64 then bif iEq a1_Op 64 then true else true else bif iEq a1_Op 65 then bif iEq a1_Op 65 then true else true else bif iEq (insn_Class0 a1_Op) 12 then true else true
def legal_InsnV (a0_X : Nat → Int) (a0_PC : Int) (a0_Level : Int) (a0_V : Bool) (a0_C : Nat → Int) (a0_Done : Int) (a1_Op : Int) (a1_Rd : Int) (a1_Rs1 : Int) (a1_Rs2 : Int) (a1_Imm : Int) (a1_CSR : Int) : AV := .tup [.it .u64 (legal_Insn0 a0_X a0_PC a0_Level a0_V a0_C a0_Done a1_Op a1_Rd a1_Rs1 a1_Rs2 a1_Imm a1_CSR), .bl (legal_Insn1 a0_X a0_PC a0_Level a0_V a0_C a0_Done a1_Op a1_Rd a1_Rs1 a1_Rs2 a1_Imm a1_CSR)]
theorem legal_InsnE (g : Nat → AV) : pcOf Try.prog okT (lookR T58) (NOH) RO NOV 100 false Try.f33 (norms [(.agg [(.arr 32 (.int .u64)), (.int .u64), (.int .i64), .bool, (.arr 29 (.int .u64)), (.int .u64)]), (.agg [(.int .i64), (.int .i64), (.int .i64), (.int .i64), (.int .i64), (.int .i64)])] 0 g) = some (legal_InsnG (fun i0 => (((g 0).fld 0).ix i0).num) (((g 0).fld 1).num) (((g 0).fld 2).num) (((g 0).fld 3).bool) (fun i0 => (((g 0).fld 4).ix i0).num) (((g 0).fld 5).num) (((g 1).fld 0).num) (((g 1).fld 1).num) (((g 1).fld 2).num) (((g 1).fld 3).num) (((g 1).fld 4).num) (((g 1).fld 5).num), legal_InsnV (fun i0 => (((g 0).fld 0).ix i0).num) (((g 0).fld 1).num) (((g 0).fld 2).num) (((g 0).fld 3).bool) (fun i0 => (((g 0).fld 4).ix i0).num) (((g 0).fld 5).num) (((g 1).fld 0).num) (((g 1).fld 1).num) (((g 1).fld 2).num) (((g 1).fld 3).num) (((g 1).fld 4).num) (((g 1).fld 5).num)) := by kernel_rfl
theorem legal_InsnP : Plain Try.prog 33 Try.f33 := ⟨Try.func33, of_decide_eq_true (by kernel_rfl)⟩
theorem legal_InsnO : RowOk Try.prog 33 (rowF [(.agg [(.arr 32 (.int .u64)), (.int .u64), (.int .i64), .bool, (.arr 29 (.int .u64)), (.int .u64)]), (.agg [(.int .i64), (.int .i64), (.int .i64), (.int .i64), (.int .i64), (.int .i64)])] (some fun g => legal_InsnG (fun i0 => (((g 0).fld 0).ix i0).num) (((g 0).fld 1).num) (((g 0).fld 2).num) (((g 0).fld 3).bool) (fun i0 => (((g 0).fld 4).ix i0).num) (((g 0).fld 5).num) (((g 1).fld 0).num) (((g 1).fld 1).num) (((g 1).fld 2).num) (((g 1).fld 3).num) (((g 1).fld 4).num) (((g 1).fld 5).num)) fun g => legal_InsnV (fun i0 => (((g 0).fld 0).ix i0).num) (((g 0).fld 1).num) (((g 0).fld 2).num) (((g 0).fld 3).bool) (fun i0 => (((g 0).fld 4).ix i0).num) (((g 0).fld 5).num) (((g 1).fld 0).num) (((g 1).fld 1).num) (((g 1).fld 2).num) (((g 1).fld 3).num) (((g 1).fld 4).num) (((g 1).fld 5).num)) := rowF_ok fun g hg => pcOf_ok mix fair T58_ok (HSound_none) legal_InsnP (fun c _ => OvOk_none c) (legal_InsnE g) hg
def T33 : List Row := (33, (rowF [(.agg [(.arr 32 (.int .u64)), (.int .u64), (.int .i64), .bool, (.arr 29 (.int .u64)), (.int .u64)]), (.agg [(.int .i64), (.int .i64), (.int .i64), (.int .i64), (.int .i64), (.int .i64)])] (some fun g => legal_InsnG (fun i0 => (((g 0).fld 0).ix i0).num) (((g 0).fld 1).num) (((g 0).fld 2).num) (((g 0).fld 3).bool) (fun i0 => (((g 0).fld 4).ix i0).num) (((g 0).fld 5).num) (((g 1).fld 0).num) (((g 1).fld 1).num) (((g 1).fld 2).num) (((g 1).fld 3).num) (((g 1).fld 4).num) (((g 1).fld 5).num)) fun g => legal_InsnV (fun i0 => (((g 0).fld 0).ix i0).num) (((g 0).fld 1).num) (((g 0).fld 2).num) (((g 0).fld 3).bool) (fun i0 => (((g 0).fld 4).ix i0).num) (((g 0).fld 5).num) (((g 1).fld 0).num) (((g 1).fld 1).num) (((g 1).fld 2).num) (((g 1).fld 3).num) (((g 1).fld 4).num) (((g 1).fld 5).num))) :: T58
theorem T33_ok : PSound Try.prog (lookR T33) := lookR_cons legal_InsnO T58_ok

/- sallyport/sallyportref8.kept -/
def sallyportref8_kept0 (a0_X : Nat → Int) (a0_PC : Int) (a0_Level : Int) (a0_V : Bool) (a0_C : Nat → Int) (a0_Done : Int) (a1 : Int) (a2 : Int) : Int :=
  bif bif iEq a1 0 then true else bif iEq a1 1 then sallyportref8_Bit0 (fun i0 => a0_X i0) a0_PC a0_Level a0_V (fun i0 => a0_C i0) a0_Done 0 a2 else false then 2
  else bif bif iEq a1 4 then true else bif iEq a1 5 then sallyportref8_Bit0 (fun i0 => a0_X i0) a0_PC a0_Level a0_V (fun i0 => a0_C i0) a0_Done 16 a2 else false then 22 else 0
def sallyportref8_kept1 (a0_X : Nat → Int) (a0_PC : Int) (a0_Level : Int) (a0_V : Bool) (a0_C : Nat → Int) (a0_Done : Int) (a1 : Int) (a2 : Int) : Bool :=
  bif bif iEq a1 0 then true else bif iEq a1 1 then sallyportref8_Bit0 (fun i0 => a0_X i0) a0_PC a0_Level a0_V (fun i0 => a0_C i0) a0_Done 0 a2 else false then false
  else bif bif iEq a1 4 then true else bif iEq a1 5 then sallyportref8_Bit0 (fun i0 => a0_X i0) a0_PC a0_Level a0_V (fun i0 => a0_C i0) a0_Done 16 a2 else false then false else true
def sallyportref8_keptG (a0_X : Nat → Int) (a0_PC : Int) (a0_Level : Int) (a0_V : Bool) (a0_C : Nat → Int) (a0_Done : Int) (a1 : Int) (a2 : Int) : Bool :=
  (!(!iEq a1 0 && iEq a1 1) || sallyportref8_BitG (fun i0 => a0_X i0) a0_PC a0_Level a0_V (fun i0 => a0_C i0) a0_Done 0 a2) &&
    bif bif iEq a1 0 then true else bif iEq a1 1 then sallyportref8_Bit0 (fun i0 => a0_X i0) a0_PC a0_Level a0_V (fun i0 => a0_C i0) a0_Done 0 a2 else false then true
    else
      (!(!iEq a1 4 && iEq a1 5) || sallyportref8_BitG (fun i0 => a0_X i0) a0_PC a0_Level a0_V (fun i0 => a0_C i0) a0_Done 16 a2) &&
        bif bif iEq a1 4 then true else bif iEq a1 5 then sallyportref8_Bit0 (fun i0 => a0_X i0) a0_PC a0_Level a0_V (fun i0 => a0_C i0) a0_Done 16 a2 else false then true else true
def sallyportref8_keptV (a0_X : Nat → Int) (a0_PC : Int) (a0_Level : Int) (a0_V : Bool) (a0_C : Nat → Int) (a0_Done : Int) (a1 : Int) (a2 : Int) : AV := .tup [.it .u64 (sallyportref8_kept0 a0_X a0_PC a0_Level a0_V a0_C a0_Done a1 a2), .bl (sallyportref8_kept1 a0_X a0_PC a0_Level a0_V a0_C a0_Done a1 a2)]
theorem sallyportref8_keptE (g : Nat → AV) : pcOf Try.prog okT (lookR T33) (NOH) RO NOV 100 false Try.f60 (norms [(.agg [(.arr 32 (.int .u64)), (.int .u64), (.int .i64), .bool, (.arr 29 (.int .u64)), (.int .u64)]), (.int .i64), (.int .i64)] 0 g) = some (sallyportref8_keptG (fun i0 => (((g 0).fld 0).ix i0).num) (((g 0).fld 1).num) (((g 0).fld 2).num) (((g 0).fld 3).bool) (fun i0 => (((g 0).fld 4).ix i0).num) (((g 0).fld 5).num) ((g 1).num) ((g 2).num), sallyportref8_keptV (fun i0 => (((g 0).fld 0).ix i0).num) (((g 0).fld 1).num) (((g 0).fld 2).num) (((g 0).fld 3).bool) (fun i0 => (((g 0).fld 4).ix i0).num) (((g 0).fld 5).num) ((g 1).num) ((g 2).num)) := by kernel_rfl
theorem sallyportref8_keptP : Plain Try.prog 60 Try.f60 := ⟨Try.func60, of_decide_eq_true (by kernel_rfl)⟩
theorem sallyportref8_keptT (a0_X : Nat → Int) (a0_PC : Int) (a0_Level : Int) (a0_V : Bool) (a0_C : Nat → Int) (a0_Done : Int) (a1 : Int) (a2 : Int) : sallyportref8_keptG a0_X a0_PC a0_Level a0_V a0_C a0_Done a1 a2 = true := by simp [sallyportref8_keptG, sallyportref8_BitG, show iIn 16 29 = true by decide, show iIn 0 29 = true by decide]
theorem sallyportref8_keptO : RowOk Try.prog 60 (rowF [(.agg [(.arr 32 (.int .u64)), (.int .u64), (.int .i64), .bool, (.arr 29 (.int .u64)), (.int .u64)]), (.int .i64), (.int .i64)] none fun g => sallyportref8_keptV (fun i0 => (((g 0).fld 0).ix i0).num) (((g 0).fld 1).num) (((g 0).fld 2).num) (((g 0).fld 3).bool) (fun i0 => (((g 0).fld 4).ix i0).num) (((g 0).fld 5).num) ((g 1).num) ((g 2).num)) := rowT_ok fun g => pcOf_ok mix fair T33_ok (HSound_none) sallyportref8_keptP (fun c _ => OvOk_none c) (sallyportref8_keptE g) (sallyportref8_keptT (fun i0 => (((g 0).fld 0).ix i0).num) (((g 0).fld 1).num) (((g 0).fld 2).num) (((g 0).fld 3).bool) (fun i0 => (((g 0).fld 4).ix i0).num) (((g 0).fld 5).num) ((g 1).num) ((g 2).num))
def T60 : List Row := (60, (rowF [(.agg [(.arr 32 (.int .u64)), (.int .u64), (.int .i64), .bool, (.arr 29 (.int .u64)), (.int .u64)]), (.int .i64), (.int .i64)] none fun g => sallyportref8_keptV (fun i0 => (((g 0).fld 0).ix i0).num) (((g 0).fld 1).num) (((g 0).fld 2).num) (((g 0).fld 3).bool) (fun i0 => (((g 0).fld 4).ix i0).num) (((g 0).fld 5).num) ((g 1).num) ((g 2).num))) :: T33
theorem T60_ok : PSound Try.prog (lookR T60) := lookR_cons sallyportref8_keptO T33_ok

/- sallyport/sallyportref8.Insn -/
def sallyportref8_Insn0 (a0_X : Nat → Int) (a0_PC : Int) (a0_Level : Int) (a0_V : Bool) (a0_C : Nat → Int) (a0_Done : Int) (a1_Op : Int) (a1_Rd : Int) (a1_Rs1 : Int) (a1_Rs2 : Int) (a1_Imm : Int) (a1_CSR : Int) : Int :=
  bif !sallyportref3_Is0 a1_Op a1_Rd a1_Rs1 a1_Rs2 a1_Imm a1_CSR then 2
  else
    bif iEq (sallyportref3_Class0 a1_Op) 9 then
      sallyportref8_Csr0 (fun i0 => a0_X i0) a0_PC a0_Level a0_V (fun i0 => a0_C i0) a0_Done a1_CSR (sallyportref8_Writes0 a1_Op a1_Rd a1_Rs1 a1_Rs2 a1_Imm a1_CSR)
    else
      bif iEq a1_Op 60 then sallyportref8_need0 (iEq (sallyportref8_Level0 (fun i0 => a0_X i0) a0_PC a0_Level a0_V (fun i0 => a0_C i0) a0_Done) 3)
      else
        bif iEq a1_Op 61 then
          sallyportref8_kept0 (fun i0 => a0_X i0) a0_PC a0_Level a0_V (fun i0 => a0_C i0) a0_Done (sallyportref8_Level0 (fun i0 => a0_X i0) a0_PC a0_Level a0_V (fun i0 => a0_C i0) a0_Done) 22
        else
          bif iEq a1_Op 63 then
            sallyportref8_kept0 (fun i0 => a0_X i0) a0_PC a0_Level a0_V (fun i0 => a0_C i0) a0_Done (sallyportref8_Level0 (fun i0 => a0_X i0) a0_PC a0_Level a0_V (fun i0 => a0_C i0) a0_Done) 20
          else
            bif iEq a1_Op 62 then
              bif
                  bif iEq (sallyportref8_Level0 (fun i0 => a0_X i0) a0_PC a0_Level a0_V (fun i0 => a0_C i0) a0_Done) 0 then true
                  else
                    bif iNe (sallyportref8_Level0 (fun i0 => a0_X i0) a0_PC a0_Level a0_V (fun i0 => a0_C i0) a0_Done) 3 then
                      sallyportref8_Bit0 (fun i0 => a0_X i0) a0_PC a0_Level a0_V (fun i0 => a0_C i0) a0_Done 0 21
                    else false then
                2
              else
                bif
                    bif iEq (sallyportref8_Level0 (fun i0 => a0_X i0) a0_PC a0_Level a0_V (fun i0 => a0_C i0) a0_Done) 4 then true
                    else
                      bif iEq (sallyportref8_Level0 (fun i0 => a0_X i0) a0_PC a0_Level a0_V (fun i0 => a0_C i0) a0_Done) 5 then
                        sallyportref8_Bit0 (fun i0 => a0_X i0) a0_PC a0_Level a0_V (fun i0 => a0_C i0) a0_Done 16 21
                      else false then
                  22
                else 0
            else
              bif bif iEq (sallyportref3_Class0 a1_Op) 11 then true else iEq (sallyportref3_Class0 a1_Op) 12 then
                bif iLe 4 (sallyportref8_Level0 (fun i0 => a0_X i0) a0_PC a0_Level a0_V (fun i0 => a0_C i0) a0_Done) then 22
                else
                  bif
                      bif
                          bif iEq (sallyportref8_Level0 (fun i0 => a0_X i0) a0_PC a0_Level a0_V (fun i0 => a0_C i0) a0_Done) 0 then
                            bif iEq (sallyportref3_Class0 a1_Op) 11 then true else !sallyportref8_Bit0 (fun i0 => a0_X i0) a0_PC a0_Level a0_V (fun i0 => a0_C i0) a0_Done 16 9
                          else false then
                        true
                      else
                        bif bif iEq a1_Op 65 then iEq (sallyportref8_Level0 (fun i0 => a0_X i0) a0_PC a0_Level a0_V (fun i0 => a0_C i0) a0_Done) 1 else false then
                          sallyportref8_Bit0 (fun i0 => a0_X i0) a0_PC a0_Level a0_V (fun i0 => a0_C i0) a0_Done 0 20
                        else false then
                    2
                  else 0
              else 0
def sallyportref8_Insn1 (a0_X : Nat → Int) (a0_PC : Int) (a0_Level : Int) (a0_V : Bool) (a0_C : Nat → Int) (a0_Done : Int) (a1_Op : Int) (a1_Rd : Int) (a1_Rs1 : Int) (a1_Rs2 : Int) (a1_Imm : Int) (a1_CSR : Int) : Bool :=
  bif !sallyportref3_Is0 a1_Op a1_Rd a1_Rs1 a1_Rs2 a1_Imm a1_CSR then false
  else
    bif iEq (sallyportref3_Class0 a1_Op) 9 then
      sallyportref8_Csr1 (fun i0 => a0_X i0) a0_PC a0_Level a0_V (fun i0 => a0_C i0) a0_Done a1_CSR (sallyportref8_Writes0 a1_Op a1_Rd a1_Rs1 a1_Rs2 a1_Imm a1_CSR)
    else
      bif iEq a1_Op 60 then sallyportref8_need1 (iEq (sallyportref8_Level0 (fun i0 => a0_X i0) a0_PC a0_Level a0_V (fun i0 => a0_C i0) a0_Done) 3)
      else
        bif iEq a1_Op 61 then
          sallyportref8_kept1 (fun i0 => a0_X i0) a0_PC a0_Level a0_V (fun i0 => a0_C i0) a0_Done (sallyportref8_Level0 (fun i0 => a0_X i0) a0_PC a0_Level a0_V (fun i0 => a0_C i0) a0_Done) 22
        else
          bif iEq a1_Op 63 then
            sallyportref8_kept1 (fun i0 => a0_X i0) a0_PC a0_Level a0_V (fun i0 => a0_C i0) a0_Done (sallyportref8_Level0 (fun i0 => a0_X i0) a0_PC a0_Level a0_V (fun i0 => a0_C i0) a0_Done) 20
          else
            bif iEq a1_Op 62 then
              bif
                  bif iEq (sallyportref8_Level0 (fun i0 => a0_X i0) a0_PC a0_Level a0_V (fun i0 => a0_C i0) a0_Done) 0 then true
                  else
                    bif iNe (sallyportref8_Level0 (fun i0 => a0_X i0) a0_PC a0_Level a0_V (fun i0 => a0_C i0) a0_Done) 3 then
                      sallyportref8_Bit0 (fun i0 => a0_X i0) a0_PC a0_Level a0_V (fun i0 => a0_C i0) a0_Done 0 21
                    else false then
                false
              else
                bif
                    bif iEq (sallyportref8_Level0 (fun i0 => a0_X i0) a0_PC a0_Level a0_V (fun i0 => a0_C i0) a0_Done) 4 then true
                    else
                      bif iEq (sallyportref8_Level0 (fun i0 => a0_X i0) a0_PC a0_Level a0_V (fun i0 => a0_C i0) a0_Done) 5 then
                        sallyportref8_Bit0 (fun i0 => a0_X i0) a0_PC a0_Level a0_V (fun i0 => a0_C i0) a0_Done 16 21
                      else false then
                  false
                else true
            else
              bif bif iEq (sallyportref3_Class0 a1_Op) 11 then true else iEq (sallyportref3_Class0 a1_Op) 12 then
                bif iLe 4 (sallyportref8_Level0 (fun i0 => a0_X i0) a0_PC a0_Level a0_V (fun i0 => a0_C i0) a0_Done) then false
                else
                  bif
                      bif
                          bif iEq (sallyportref8_Level0 (fun i0 => a0_X i0) a0_PC a0_Level a0_V (fun i0 => a0_C i0) a0_Done) 0 then
                            bif iEq (sallyportref3_Class0 a1_Op) 11 then true else !sallyportref8_Bit0 (fun i0 => a0_X i0) a0_PC a0_Level a0_V (fun i0 => a0_C i0) a0_Done 16 9
                          else false then
                        true
                      else
                        bif bif iEq a1_Op 65 then iEq (sallyportref8_Level0 (fun i0 => a0_X i0) a0_PC a0_Level a0_V (fun i0 => a0_C i0) a0_Done) 1 else false then
                          sallyportref8_Bit0 (fun i0 => a0_X i0) a0_PC a0_Level a0_V (fun i0 => a0_C i0) a0_Done 0 20
                        else false then
                    false
                  else true
              else true
def sallyportref8_InsnG (a0_X : Nat → Int) (a0_PC : Int) (a0_Level : Int) (a0_V : Bool) (a0_C : Nat → Int) (a0_Done : Int) (a1_Op : Int) (a1_Rd : Int) (a1_Rs1 : Int) (a1_Rs2 : Int) (a1_Imm : Int) (a1_CSR : Int) : Bool :=
  bif !sallyportref3_Is0 a1_Op a1_Rd a1_Rs1 a1_Rs2 a1_Imm a1_CSR then true
  else
    bif iEq (sallyportref3_Class0 a1_Op) 9 then true
    else
      bif iEq a1_Op 60 then true
      else
        bif iEq a1_Op 61 then true
        else
          bif iEq a1_Op 63 then true
          else
            bif iEq a1_Op 62 then
              (!(!iEq (sallyportref8_Level0 (fun i0 => a0_X i0) a0_PC a0_Level a0_V (fun i0 => a0_C i0) a0_Done) 0 &&
                      iNe (sallyportref8_Level0 (fun i0 => a0_X i0) a0_PC a0_Level a0_V (fun i0 => a0_C i0) a0_Done) 3) ||
                  sallyportref8_BitG (fun i0 => a0_X i0) a0_PC a0_Level a0_V (fun i0 => a0_C i0) a0_Done 0 21) &&
                bif
                    bif iEq (sallyportref8_Level0 (fun i0 => a0_X i0) a0_PC a0_Level a0_V (fun i0 => a0_C i0) a0_Done) 0 then true
                    else
                      bif iNe (sallyportref8_Level0 (fun i0 => a0_X i0) a0_PC a0_Level a0_V (fun i0 => a0_C i0) a0_Done) 3 then
                        sallyportref8_Bit0 (fun i0 => a0_X i0) a0_PC a0_Level a0_V (fun i0 => a0_C i0) a0_Done 0 21
                      else false then
                  true
                else
                  (!(!iEq (sallyportref8_Level0 (fun i0 => a0_X i0) a0_PC a0_Level a0_V (fun i0 => a0_C i0) a0_Done) 4 &&
                          iEq (sallyportref8_Level0 (fun i0 => a0_X i0) a0_PC a0_Level a0_V (fun i0 => a0_C i0) a0_Done) 5) ||
                      sallyportref8_BitG (fun i0 => a0_X i0) a0_PC a0_Level a0_V (fun i0 => a0_C i0) a0_Done 16 21) &&
                    bif
                        bif iEq (sallyportref8_Level0 (fun i0 => a0_X i0) a0_PC a0_Level a0_V (fun i0 => a0_C i0) a0_Done) 4 then true
                        else
                          bif iEq (sallyportref8_Level0 (fun i0 => a0_X i0) a0_PC a0_Level a0_V (fun i0 => a0_C i0) a0_Done) 5 then
                            sallyportref8_Bit0 (fun i0 => a0_X i0) a0_PC a0_Level a0_V (fun i0 => a0_C i0) a0_Done 16 21
                          else false then
                      true
                    else true
            else
              bif bif iEq (sallyportref3_Class0 a1_Op) 11 then true else iEq (sallyportref3_Class0 a1_Op) 12 then
                bif iLe 4 (sallyportref8_Level0 (fun i0 => a0_X i0) a0_PC a0_Level a0_V (fun i0 => a0_C i0) a0_Done) then true
                else
                  (!(iEq (sallyportref8_Level0 (fun i0 => a0_X i0) a0_PC a0_Level a0_V (fun i0 => a0_C i0) a0_Done) 0 && !iEq (sallyportref3_Class0 a1_Op) 11) ||
                      sallyportref8_BitG (fun i0 => a0_X i0) a0_PC a0_Level a0_V (fun i0 => a0_C i0) a0_Done 16 9) &&
                    ((!((!bif iEq (sallyportref8_Level0 (fun i0 => a0_X i0) a0_PC a0_Level a0_V (fun i0 => a0_C i0) a0_Done) 0 then
                                bif iEq (sallyportref3_Class0 a1_Op) 11 then true else !sallyportref8_Bit0 (fun i0 => a0_X i0) a0_PC a0_Level a0_V (fun i0 => a0_C i0) a0_Done 16 9
                              else false) &&
                            bif iEq a1_Op 65 then iEq (sallyportref8_Level0 (fun i0 => a0_X i0) a0_PC a0_Level a0_V (fun i0 => a0_C i0) a0_Done) 1 else false) ||
                        sallyportref8_BitG (fun i0 => a0_X i0) a0_PC a0_Level a0_V (fun i0 => a0_C i0) a0_Done 0 20) &&
                      bif
                          bif
                              bif iEq (sallyportref8_Level0 (fun i0 => a0_X i0) a0_PC a0_Level a0_V (fun i0 => a0_C i0) a0_Done) 0 then
                                bif iEq (sallyportref3_Class0 a1_Op) 11 then true else !sallyportref8_Bit0 (fun i0 => a0_X i0) a0_PC a0_Level a0_V (fun i0 => a0_C i0) a0_Done 16 9
                              else false then
                            true
                          else
                            bif bif iEq a1_Op 65 then iEq (sallyportref8_Level0 (fun i0 => a0_X i0) a0_PC a0_Level a0_V (fun i0 => a0_C i0) a0_Done) 1 else false then
                              sallyportref8_Bit0 (fun i0 => a0_X i0) a0_PC a0_Level a0_V (fun i0 => a0_C i0) a0_Done 0 20
                            else false then
                        true
                      else true)
              else true
def sallyportref8_InsnV (a0_X : Nat → Int) (a0_PC : Int) (a0_Level : Int) (a0_V : Bool) (a0_C : Nat → Int) (a0_Done : Int) (a1_Op : Int) (a1_Rd : Int) (a1_Rs1 : Int) (a1_Rs2 : Int) (a1_Imm : Int) (a1_CSR : Int) : AV := .tup [.it .u64 (sallyportref8_Insn0 a0_X a0_PC a0_Level a0_V a0_C a0_Done a1_Op a1_Rd a1_Rs1 a1_Rs2 a1_Imm a1_CSR), .bl (sallyportref8_Insn1 a0_X a0_PC a0_Level a0_V a0_C a0_Done a1_Op a1_Rd a1_Rs1 a1_Rs2 a1_Imm a1_CSR)]
theorem sallyportref8_InsnE (g : Nat → AV) : pcOf Try.prog okT (lookR T60) (NOH) RO NOV 100 false Try.f34 (norms [(.agg [(.arr 32 (.int .u64)), (.int .u64), (.int .i64), .bool, (.arr 29 (.int .u64)), (.int .u64)]), (.agg [(.int .i64), (.int .i64), (.int .i64), (.int .i64), (.int .i64), (.int .i64)])] 0 g) = some (sallyportref8_InsnG (fun i0 => (((g 0).fld 0).ix i0).num) (((g 0).fld 1).num) (((g 0).fld 2).num) (((g 0).fld 3).bool) (fun i0 => (((g 0).fld 4).ix i0).num) (((g 0).fld 5).num) (((g 1).fld 0).num) (((g 1).fld 1).num) (((g 1).fld 2).num) (((g 1).fld 3).num) (((g 1).fld 4).num) (((g 1).fld 5).num), sallyportref8_InsnV (fun i0 => (((g 0).fld 0).ix i0).num) (((g 0).fld 1).num) (((g 0).fld 2).num) (((g 0).fld 3).bool) (fun i0 => (((g 0).fld 4).ix i0).num) (((g 0).fld 5).num) (((g 1).fld 0).num) (((g 1).fld 1).num) (((g 1).fld 2).num) (((g 1).fld 3).num) (((g 1).fld 4).num) (((g 1).fld 5).num)) := by kernel_rfl
theorem sallyportref8_InsnP : Plain Try.prog 34 Try.f34 := ⟨Try.func34, of_decide_eq_true (by kernel_rfl)⟩
theorem sallyportref8_InsnT (a0_X : Nat → Int) (a0_PC : Int) (a0_Level : Int) (a0_V : Bool) (a0_C : Nat → Int) (a0_Done : Int) (a1_Op : Int) (a1_Rd : Int) (a1_Rs1 : Int) (a1_Rs2 : Int) (a1_Imm : Int) (a1_CSR : Int) : sallyportref8_InsnG a0_X a0_PC a0_Level a0_V a0_C a0_Done a1_Op a1_Rd a1_Rs1 a1_Rs2 a1_Imm a1_CSR = true := by simp [sallyportref8_InsnG, sallyportref8_BitG, show iIn 16 29 = true by decide, show iIn 0 29 = true by decide]
theorem sallyportref8_InsnO : RowOk Try.prog 34 (rowF [(.agg [(.arr 32 (.int .u64)), (.int .u64), (.int .i64), .bool, (.arr 29 (.int .u64)), (.int .u64)]), (.agg [(.int .i64), (.int .i64), (.int .i64), (.int .i64), (.int .i64), (.int .i64)])] none fun g => sallyportref8_InsnV (fun i0 => (((g 0).fld 0).ix i0).num) (((g 0).fld 1).num) (((g 0).fld 2).num) (((g 0).fld 3).bool) (fun i0 => (((g 0).fld 4).ix i0).num) (((g 0).fld 5).num) (((g 1).fld 0).num) (((g 1).fld 1).num) (((g 1).fld 2).num) (((g 1).fld 3).num) (((g 1).fld 4).num) (((g 1).fld 5).num)) := rowT_ok fun g => pcOf_ok mix fair T60_ok (HSound_none) sallyportref8_InsnP (fun c _ => OvOk_none c) (sallyportref8_InsnE g) (sallyportref8_InsnT (fun i0 => (((g 0).fld 0).ix i0).num) (((g 0).fld 1).num) (((g 0).fld 2).num) (((g 0).fld 3).bool) (fun i0 => (((g 0).fld 4).ix i0).num) (((g 0).fld 5).num) (((g 1).fld 0).num) (((g 1).fld 1).num) (((g 1).fld 2).num) (((g 1).fld 3).num) (((g 1).fld 4).num) (((g 1).fld 5).num))
def T34 : List Row := (34, (rowF [(.agg [(.arr 32 (.int .u64)), (.int .u64), (.int .i64), .bool, (.arr 29 (.int .u64)), (.int .u64)]), (.agg [(.int .i64), (.int .i64), (.int .i64), (.int .i64), (.int .i64), (.int .i64)])] none fun g => sallyportref8_InsnV (fun i0 => (((g 0).fld 0).ix i0).num) (((g 0).fld 1).num) (((g 0).fld 2).num) (((g 0).fld 3).bool) (fun i0 => (((g 0).fld 4).ix i0).num) (((g 0).fld 5).num) (((g 1).fld 0).num) (((g 1).fld 1).num) (((g 1).fld 2).num) (((g 1).fld 3).num) (((g 1).fld 4).num) (((g 1).fld 5).num))) :: T60
theorem T34_ok : PSound Try.prog (lookR T34) := lookR_cons sallyportref8_InsnO T60_ok

/- sallyport/sallyportref18.Clean -/
def sallyportref18_Clean0 (a0_X : Nat → Int) (a0_PC : Int) (a0_Level : Int) (a0_V : Bool) (a0_C : Nat → Int) (a0_Done : Int) : Nat → Int :=
  fun i0 => bif bif bif iNe a0_Level 0 then iNe a0_Level 1 else false then iNe a0_Level 3 else false then bif i0 == 0 then 0 else a0_X i0
  else bif iEq a0_Level 3 then bif i0 == 0 then 0 else a0_X i0 else bif i0 == 0 then 0 else a0_X i0
def sallyportref18_Clean1 (a0_X : Nat → Int) (a0_PC : Int) (a0_Level : Int) (a0_V : Bool) (a0_C : Nat → Int) (a0_Done : Int) : Int :=
  bif bif bif iNe a0_Level 0 then iNe a0_Level 1 else false then iNe a0_Level 3 else false then iAndNot IntKind.u64 a0_PC 3
  else bif iEq a0_Level 3 then iAndNot IntKind.u64 a0_PC 3 else iAndNot IntKind.u64 a0_PC 3
def sallyportref18_Clean2 (a0_X : Nat → Int) (a0_PC : Int) (a0_Level : Int) (a0_V : Bool) (a0_C : Nat → Int) (a0_Done : Int) : Int :=
  bif bif bif iNe a0_Level 0 then iNe a0_Level 1 else false then iNe a0_Level 3 else false then 3 else bif iEq a0_Level 3 then a0_Level else a0_Level
def sallyportref18_Clean3 (a0_X : Nat → Int) (a0_PC : Int) (a0_Level : Int) (a0_V : Bool) (a0_C : Nat → Int) (a0_Done : Int) : Bool :=
  bif bif bif iNe a0_Level 0 then iNe a0_Level 1 else false then iNe a0_Level 3 else false then false else bif iEq a0_Level 3 then false else a0_V
def sallyportref18_Clean4 (a0_X : Nat → Int) (a0_PC : Int) (a0_Level : Int) (a0_V : Bool) (a0_C : Nat → Int) (a0_Done : Int) : Nat → Int :=
  fun i0 => bif bif bif iNe a0_Level 0 then iNe a0_Level 1 else false then iNe a0_Level 3 else false then
    bif i0 == 0 then sallyportref8_Mpp0 (iAnd IntKind.u64 (a0_C 0) 824641853866)
    else
      bif i0 == 28 then iAnd IntKind.u64 (a0_C 28) 9223372036871487743
      else
        bif i0 == 27 then iAnd IntKind.u64 (a0_C 27) 18446744073709551615
        else
          bif i0 == 26 then iAnd IntKind.u64 (a0_C 26) 18446744073709551615
          else
            bif i0 == 25 then iAnd IntKind.u64 (a0_C 25) 18446744073709551612
            else
              bif i0 == 24 then iAnd IntKind.u64 (a0_C 24) 18446744073709551615
              else
                bif i0 == 23 then iAnd IntKind.u64 (a0_C 23) 18446744073709551612
                else
                  bif i0 == 22 then iAnd IntKind.u64 (a0_C 22) 786722
                  else
                    bif i0 == 21 then iAnd IntKind.u64 (a0_C 21) 9223372036871487743
                    else
                      bif i0 == 20 then iAnd IntKind.u64 (a0_C 20) 18446744073709551615
                      else
                        bif i0 == 19 then iAnd IntKind.u64 (a0_C 19) 1088
                        else
                          bif i0 == 18 then iAnd IntKind.u64 (a0_C 18) 1088
                          else
                            bif i0 == 17 then iAnd IntKind.u64 (a0_C 17) 45567
                            else
                              bif i0 == 16 then iAnd IntKind.u64 (a0_C 16) 7340992
                              else
                                bif i0 == 15 then iAnd IntKind.u64 (a0_C 15) 9223372036871487743
                                else
                                  bif i0 == 14 then iAnd IntKind.u64 (a0_C 14) 18446744073709551615
                                  else
                                    bif i0 == 13 then iAnd IntKind.u64 (a0_C 13) 18446744073709551615
                                    else
                                      bif i0 == 12 then iAnd IntKind.u64 (a0_C 12) 18446744073709551612
                                      else
                                        bif i0 == 11 then iAnd IntKind.u64 (a0_C 11) 18446744073709551615
                                        else
                                          bif i0 == 10 then iAnd IntKind.u64 (a0_C 10) 18446744073709551612
                                          else
                                            bif i0 == 9 then iAnd IntKind.u64 (a0_C 9) 18446744073709551615
                                            else
                                              bif i0 == 8 then iAnd IntKind.u64 (a0_C 8) 18446744073709551615
                                              else
                                                bif i0 == 7 then iAnd IntKind.u64 (a0_C 7) 18446744073709551615
                                                else
                                                  bif i0 == 6 then iAnd IntKind.u64 (a0_C 6) 18446744073709551612
                                                  else
                                                    bif i0 == 5 then iAnd IntKind.u64 (a0_C 5) 18446744073709551615
                                                    else
                                                      bif i0 == 4 then iAnd IntKind.u64 (a0_C 4) 18446744073709551612
                                                      else
                                                        bif i0 == 3 then iAnd IntKind.u64 (a0_C 3) 1632
                                                        else
                                                          bif i0 == 2 then iAnd IntKind.u64 (a0_C 2) 544
                                                          else bif i0 == 1 then iAnd IntKind.u64 (a0_C 1) 15775231 else bif i0 == 0 then iAnd IntKind.u64 (a0_C 0) 824641853866 else a0_C i0
  else
    bif iEq a0_Level 3 then
      bif i0 == 0 then sallyportref8_Mpp0 (iAnd IntKind.u64 (a0_C 0) 824641853866)
      else
        bif i0 == 28 then iAnd IntKind.u64 (a0_C 28) 9223372036871487743
        else
          bif i0 == 27 then iAnd IntKind.u64 (a0_C 27) 18446744073709551615
          else
            bif i0 == 26 then iAnd IntKind.u64 (a0_C 26) 18446744073709551615
            else
              bif i0 == 25 then iAnd IntKind.u64 (a0_C 25) 18446744073709551612
              else
                bif i0 == 24 then iAnd IntKind.u64 (a0_C 24) 18446744073709551615
                else
                  bif i0 == 23 then iAnd IntKind.u64 (a0_C 23) 18446744073709551612
                  else
                    bif i0 == 22 then iAnd IntKind.u64 (a0_C 22) 786722
                    else
                      bif i0 == 21 then iAnd IntKind.u64 (a0_C 21) 9223372036871487743
                      else
                        bif i0 == 20 then iAnd IntKind.u64 (a0_C 20) 18446744073709551615
                        else
                          bif i0 == 19 then iAnd IntKind.u64 (a0_C 19) 1088
                          else
                            bif i0 == 18 then iAnd IntKind.u64 (a0_C 18) 1088
                            else
                              bif i0 == 17 then iAnd IntKind.u64 (a0_C 17) 45567
                              else
                                bif i0 == 16 then iAnd IntKind.u64 (a0_C 16) 7340992
                                else
                                  bif i0 == 15 then iAnd IntKind.u64 (a0_C 15) 9223372036871487743
                                  else
                                    bif i0 == 14 then iAnd IntKind.u64 (a0_C 14) 18446744073709551615
                                    else
                                      bif i0 == 13 then iAnd IntKind.u64 (a0_C 13) 18446744073709551615
                                      else
                                        bif i0 == 12 then iAnd IntKind.u64 (a0_C 12) 18446744073709551612
                                        else
                                          bif i0 == 11 then iAnd IntKind.u64 (a0_C 11) 18446744073709551615
                                          else
                                            bif i0 == 10 then iAnd IntKind.u64 (a0_C 10) 18446744073709551612
                                            else
                                              bif i0 == 9 then iAnd IntKind.u64 (a0_C 9) 18446744073709551615
                                              else
                                                bif i0 == 8 then iAnd IntKind.u64 (a0_C 8) 18446744073709551615
                                                else
                                                  bif i0 == 7 then iAnd IntKind.u64 (a0_C 7) 18446744073709551615
                                                  else
                                                    bif i0 == 6 then iAnd IntKind.u64 (a0_C 6) 18446744073709551612
                                                    else
                                                      bif i0 == 5 then iAnd IntKind.u64 (a0_C 5) 18446744073709551615
                                                      else
                                                        bif i0 == 4 then iAnd IntKind.u64 (a0_C 4) 18446744073709551612
                                                        else
                                                          bif i0 == 3 then iAnd IntKind.u64 (a0_C 3) 1632
                                                          else
                                                            bif i0 == 2 then iAnd IntKind.u64 (a0_C 2) 544
                                                            else bif i0 == 1 then iAnd IntKind.u64 (a0_C 1) 15775231 else bif i0 == 0 then iAnd IntKind.u64 (a0_C 0) 824641853866 else a0_C i0
    else
      bif i0 == 0 then sallyportref8_Mpp0 (iAnd IntKind.u64 (a0_C 0) 824641853866)
      else
        bif i0 == 28 then iAnd IntKind.u64 (a0_C 28) 9223372036871487743
        else
          bif i0 == 27 then iAnd IntKind.u64 (a0_C 27) 18446744073709551615
          else
            bif i0 == 26 then iAnd IntKind.u64 (a0_C 26) 18446744073709551615
            else
              bif i0 == 25 then iAnd IntKind.u64 (a0_C 25) 18446744073709551612
              else
                bif i0 == 24 then iAnd IntKind.u64 (a0_C 24) 18446744073709551615
                else
                  bif i0 == 23 then iAnd IntKind.u64 (a0_C 23) 18446744073709551612
                  else
                    bif i0 == 22 then iAnd IntKind.u64 (a0_C 22) 786722
                    else
                      bif i0 == 21 then iAnd IntKind.u64 (a0_C 21) 9223372036871487743
                      else
                        bif i0 == 20 then iAnd IntKind.u64 (a0_C 20) 18446744073709551615
                        else
                          bif i0 == 19 then iAnd IntKind.u64 (a0_C 19) 1088
                          else
                            bif i0 == 18 then iAnd IntKind.u64 (a0_C 18) 1088
                            else
                              bif i0 == 17 then iAnd IntKind.u64 (a0_C 17) 45567
                              else
                                bif i0 == 16 then iAnd IntKind.u64 (a0_C 16) 7340992
                                else
                                  bif i0 == 15 then iAnd IntKind.u64 (a0_C 15) 9223372036871487743
                                  else
                                    bif i0 == 14 then iAnd IntKind.u64 (a0_C 14) 18446744073709551615
                                    else
                                      bif i0 == 13 then iAnd IntKind.u64 (a0_C 13) 18446744073709551615
                                      else
                                        bif i0 == 12 then iAnd IntKind.u64 (a0_C 12) 18446744073709551612
                                        else
                                          bif i0 == 11 then iAnd IntKind.u64 (a0_C 11) 18446744073709551615
                                          else
                                            bif i0 == 10 then iAnd IntKind.u64 (a0_C 10) 18446744073709551612
                                            else
                                              bif i0 == 9 then iAnd IntKind.u64 (a0_C 9) 18446744073709551615
                                              else
                                                bif i0 == 8 then iAnd IntKind.u64 (a0_C 8) 18446744073709551615
                                                else
                                                  bif i0 == 7 then iAnd IntKind.u64 (a0_C 7) 18446744073709551615
                                                  else
                                                    bif i0 == 6 then iAnd IntKind.u64 (a0_C 6) 18446744073709551612
                                                    else
                                                      bif i0 == 5 then iAnd IntKind.u64 (a0_C 5) 18446744073709551615
                                                      else
                                                        bif i0 == 4 then iAnd IntKind.u64 (a0_C 4) 18446744073709551612
                                                        else
                                                          bif i0 == 3 then iAnd IntKind.u64 (a0_C 3) 1632
                                                          else
                                                            bif i0 == 2 then iAnd IntKind.u64 (a0_C 2) 544
                                                            else bif i0 == 1 then iAnd IntKind.u64 (a0_C 1) 15775231 else bif i0 == 0 then iAnd IntKind.u64 (a0_C 0) 824641853866 else a0_C i0
def sallyportref18_Clean5 (a0_X : Nat → Int) (a0_PC : Int) (a0_Level : Int) (a0_V : Bool) (a0_C : Nat → Int) (a0_Done : Int) : Int :=
  bif bif bif iNe a0_Level 0 then iNe a0_Level 1 else false then iNe a0_Level 3 else false then a0_Done else bif iEq a0_Level 3 then a0_Done else a0_Done
def sallyportref18_CleanG (a0_X : Nat → Int) (a0_PC : Int) (a0_Level : Int) (a0_V : Bool) (a0_C : Nat → Int) (a0_Done : Int) : Bool :=
  bif bif bif iNe a0_Level 0 then iNe a0_Level 1 else false then iNe a0_Level 3 else false then true else bif iEq a0_Level 3 then true else true
def sallyportref18_CleanV (a0_X : Nat → Int) (a0_PC : Int) (a0_Level : Int) (a0_V : Bool) (a0_C : Nat → Int) (a0_Done : Int) : AV := .agg [.arr 32 (.int .u64) fun i0 => .it .u64 (sallyportref18_Clean0 a0_X a0_PC a0_Level a0_V a0_C a0_Done i0), .it .u64 (sallyportref18_Clean1 a0_X a0_PC a0_Level a0_V a0_C a0_Done), .it .i64 (sallyportref18_Clean2 a0_X a0_PC a0_Level a0_V a0_C a0_Done), .bl (sallyportref18_Clean3 a0_X a0_PC a0_Level a0_V a0_C a0_Done), .arr 29 (.int .u64) fun i0 => .it .u64 (sallyportref18_Clean4 a0_X a0_PC a0_Level a0_V a0_C a0_Done i0), .it .u64 (sallyportref18_Clean5 a0_X a0_PC a0_Level a0_V a0_C a0_Done)]
theorem sallyportref18_CleanE (g : Nat → AV) : pcOf Try.prog okT (lookR T34) (inl Try.prog okT (lookR T34) RO FS 100 ST 2) RO NOV 100 false Try.f30 (norms [(.agg [(.arr 32 (.int .u64)), (.int .u64), (.int .i64), .bool, (.arr 29 (.int .u64)), (.int .u64)])] 0 g) = some (sallyportref18_CleanG (fun i0 => (((g 0).fld 0).ix i0).num) (((g 0).fld 1).num) (((g 0).fld 2).num) (((g 0).fld 3).bool) (fun i0 => (((g 0).fld 4).ix i0).num) (((g 0).fld 5).num), sallyportref18_CleanV (fun i0 => (((g 0).fld 0).ix i0).num) (((g 0).fld 1).num) (((g 0).fld 2).num) (((g 0).fld 3).bool) (fun i0 => (((g 0).fld 4).ix i0).num) (((g 0).fld 5).num)) := by kernel_rfl
theorem sallyportref18_CleanP : Plain Try.prog 30 Try.f30 := ⟨Try.func30, of_decide_eq_true (by kernel_rfl)⟩
theorem sallyportref18_CleanT (a0_X : Nat → Int) (a0_PC : Int) (a0_Level : Int) (a0_V : Bool) (a0_C : Nat → Int) (a0_Done : Int) : sallyportref18_CleanG a0_X a0_PC a0_Level a0_V a0_C a0_Done = true := by first | (simp [sallyportref18_CleanG]; done) | (simp [sallyportref18_CleanG, Go.Ev.iEq, Go.Ev.iNe, Go.Ev.iLt, Go.Ev.iLe, Go.Ev.iIn]; omega)
theorem sallyportref18_CleanO : RowOk Try.prog 30 (rowF [(.agg [(.arr 32 (.int .u64)), (.int .u64), (.int .i64), .bool, (.arr 29 (.int .u64)), (.int .u64)])] none fun g => sallyportref18_CleanV (fun i0 => (((g 0).fld 0).ix i0).num) (((g 0).fld 1).num) (((g 0).fld 2).num) (((g 0).fld 3).bool) (fun i0 => (((g 0).fld 4).ix i0).num) (((g 0).fld 5).num)) := rowT_ok fun g => pcOf_ok mix fair T34_ok (inl_ok mix fair T34_ok FS_ok 2) sallyportref18_CleanP (fun c _ => OvOk_none c) (sallyportref18_CleanE g) (sallyportref18_CleanT (fun i0 => (((g 0).fld 0).ix i0).num) (((g 0).fld 1).num) (((g 0).fld 2).num) (((g 0).fld 3).bool) (fun i0 => (((g 0).fld 4).ix i0).num) (((g 0).fld 5).num))
def T30 : List Row := (30, (rowF [(.agg [(.arr 32 (.int .u64)), (.int .u64), (.int .i64), .bool, (.arr 29 (.int .u64)), (.int .u64)])] none fun g => sallyportref18_CleanV (fun i0 => (((g 0).fld 0).ix i0).num) (((g 0).fld 1).num) (((g 0).fld 2).num) (((g 0).fld 3).bool) (fun i0 => (((g 0).fld 4).ix i0).num) (((g 0).fld 5).num))) :: T34
theorem T30_ok : PSound Try.prog (lookR T30) := lookR_cons sallyportref18_CleanO T34_ok

/- sallyport/sallyportlaw9.known -/
def sallyportlaw9_knownG  : Bool :=
  true
def sallyportlaw9_knownV  : AV := .bl true
theorem sallyportlaw9_knownE (g : Nat → AV) : pcOf Try.prog okT (lookR T30) (inl Try.prog okT (lookR T30) RO FS 100 ST 2) RO NOV 100 true Try.f29 (norms [] 0 g) = some (sallyportlaw9_knownG , sallyportlaw9_knownV ) := by kernel_rfl
theorem sallyportlaw9_knownP : Plain Try.prog 29 Try.f29 := ⟨Try.func29, of_decide_eq_true (by kernel_rfl)⟩
theorem sallyportlaw9_knownT  : sallyportlaw9_knownG  = true := rfl
theorem sallyportlaw9_knownO : RowOk Try.prog 29 (rowF [] none fun g => sallyportlaw9_knownV ) := rowT_ok fun g => pcOf_ok mix fair T30_ok (inl_ok mix fair T30_ok FS_ok 2) sallyportlaw9_knownP (fun c _ => OvOk_none c) (sallyportlaw9_knownE g) (sallyportlaw9_knownT )
def T29 : List Row := (29, (rowF [] none fun g => sallyportlaw9_knownV )) :: T30
theorem T29_ok : PSound Try.prog (lookR T29) := lookR_cons sallyportlaw9_knownO T30_ok

/- sallyport/sallyportlaw9.LegalPlain -/
def sallyportlaw9_LegalPlain0 (a0_X : Nat → Int) (a0_PC : Int) (a0_Level : Int) (a0_V : Bool) (a0_C : Nat → Int) (a0_Done : Int) (a1_Op : Int) (a1_Rd : Int) (a1_Rs1 : Int) (a1_Rs2 : Int) (a1_Imm : Int) (a1_CSR : Int) : Bool :=
  bif bif !sallyportref3_Is0 a1_Op a1_Rd a1_Rs1 a1_Rs2 a1_Imm a1_CSR then true else iLe 9 (sallyportref3_Class0 a1_Op) then true
  else
    bif
        legal_Insn1 (fun i0 => sallyportref18_Clean0 (fun i0 => a0_X i0) a0_PC a0_Level a0_V (fun i0 => a0_C i0) a0_Done i0)
          (sallyportref18_Clean1 (fun i0 => a0_X i0) a0_PC a0_Level a0_V (fun i0 => a0_C i0) a0_Done) (sallyportref18_Clean2 (fun i0 => a0_X i0) a0_PC a0_Level a0_V (fun i0 => a0_C i0) a0_Done)
          (sallyportref18_Clean3 (fun i0 => a0_X i0) a0_PC a0_Level a0_V (fun i0 => a0_C i0) a0_Done)
          (fun i0 => sallyportref18_Clean4 (fun i0 => a0_X i0) a0_PC a0_Level a0_V (fun i0 => a0_C i0) a0_Done i0)
          (sallyportref18_Clean5 (fun i0 => a0_X i0) a0_PC a0_Level a0_V (fun i0 => a0_C i0) a0_Done) a1_Op a1_Rd a1_Rs1 a1_Rs2 a1_Imm a1_CSR then
      iEq
        (legal_Insn0 (fun i0 => sallyportref18_Clean0 (fun i0 => a0_X i0) a0_PC a0_Level a0_V (fun i0 => a0_C i0) a0_Done i0)
          (sallyportref18_Clean1 (fun i0 => a0_X i0) a0_PC a0_Level a0_V (fun i0 => a0_C i0) a0_Done) (sallyportref18_Clean2 (fun i0 => a0_X i0) a0_PC a0_Level a0_V (fun i0 => a0_C i0) a0_Done)
          (sallyportref18_Clean3 (fun i0 => a0_X i0) a0_PC a0_Level a0_V (fun i0 => a0_C i0) a0_Done)
          (fun i0 => sallyportref18_Clean4 (fun i0 => a0_X i0) a0_PC a0_Level a0_V (fun i0 => a0_C i0) a0_Done i0)
          (sallyportref18_Clean5 (fun i0 => a0_X i0) a0_PC a0_Level a0_V (fun i0 => a0_C i0) a0_Done) a1_Op a1_Rd a1_Rs1 a1_Rs2 a1_Imm a1_CSR)
        0
    else false
def sallyportlaw9_LegalPlainG (a0_X : Nat → Int) (a0_PC : Int) (a0_Level : Int) (a0_V : Bool) (a0_C : Nat → Int) (a0_Done : Int) (a1_Op : Int) (a1_Rd : Int) (a1_Rs1 : Int) (a1_Rs2 : Int) (a1_Imm : Int) (a1_CSR : Int) : Bool :=
  bif bif !sallyportref3_Is0 a1_Op a1_Rd a1_Rs1 a1_Rs2 a1_Imm a1_CSR then true else iLe 9 (sallyportref3_Class0 a1_Op) then true
  else
    legal_InsnG (fun i0 => sallyportref18_Clean0 (fun i0 => a0_X i0) a0_PC a0_Level a0_V (fun i0 => a0_C i0) a0_Done i0)
        (sallyportref18_Clean1 (fun i0 => a0_X i0) a0_PC a0_Level a0_V (fun i0 => a0_C i0) a0_Done) (sallyportref18_Clean2 (fun i0 => a0_X i0) a0_PC a0_Level a0_V (fun i0 => a0_C i0) a0_Done)
        (sallyportref18_Clean3 (fun i0 => a0_X i0) a0_PC a0_Level a0_V (fun i0 => a0_C i0) a0_Done)
        (fun i0 => sallyportref18_Clean4 (fun i0 => a0_X i0) a0_PC a0_Level a0_V (fun i0 => a0_C i0) a0_Done i0)
        (sallyportref18_Clean5 (fun i0 => a0_X i0) a0_PC a0_Level a0_V (fun i0 => a0_C i0) a0_Done) a1_Op a1_Rd a1_Rs1 a1_Rs2 a1_Imm a1_CSR &&
      true
def sallyportlaw9_LegalPlainV (a0_X : Nat → Int) (a0_PC : Int) (a0_Level : Int) (a0_V : Bool) (a0_C : Nat → Int) (a0_Done : Int) (a1_Op : Int) (a1_Rd : Int) (a1_Rs1 : Int) (a1_Rs2 : Int) (a1_Imm : Int) (a1_CSR : Int) : AV := .bl (sallyportlaw9_LegalPlain0 a0_X a0_PC a0_Level a0_V a0_C a0_Done a1_Op a1_Rd a1_Rs1 a1_Rs2 a1_Imm a1_CSR)
theorem sallyportlaw9_LegalPlainE (g : Nat → AV) : pcOf Try.prog okT (lookR T29) (NOH) RO NOV 100 false Try.f12 (norms [(.agg [(.arr 32 (.int .u64)), (.int .u64), (.int .i64), .bool, (.arr 29 (.int .u64)), (.int .u64)]), (.agg [(.int .i64), (.int .i64), (.int .i64), (.int .i64), (.int .i64), (.int .i64)])] 0 g) = some (sallyportlaw9_LegalPlainG (fun i0 => (((g 0).fld 0).ix i0).num) (((g 0).fld 1).num) (((g 0).fld 2).num) (((g 0).fld 3).bool) (fun i0 => (((g 0).fld 4).ix i0).num) (((g 0).fld 5).num) (((g 1).fld 0).num) (((g 1).fld 1).num) (((g 1).fld 2).num) (((g 1).fld 3).num) (((g 1).fld 4).num) (((g 1).fld 5).num), sallyportlaw9_LegalPlainV (fun i0 => (((g 0).fld 0).ix i0).num) (((g 0).fld 1).num) (((g 0).fld 2).num) (((g 0).fld 3).bool) (fun i0 => (((g 0).fld 4).ix i0).num) (((g 0).fld 5).num) (((g 1).fld 0).num) (((g 1).fld 1).num) (((g 1).fld 2).num) (((g 1).fld 3).num) (((g 1).fld 4).num) (((g 1).fld 5).num)) := by kernel_rfl
theorem sallyportlaw9_LegalPlainP : Plain Try.prog 12 Try.f12 := ⟨Try.func12, of_decide_eq_true (by kernel_rfl)⟩
theorem sallyportlaw9_LegalPlainO : RowOk Try.prog 12 (rowF [(.agg [(.arr 32 (.int .u64)), (.int .u64), (.int .i64), .bool, (.arr 29 (.int .u64)), (.int .u64)]), (.agg [(.int .i64), (.int .i64), (.int .i64), (.int .i64), (.int .i64), (.int .i64)])] (some fun g => sallyportlaw9_LegalPlainG (fun i0 => (((g 0).fld 0).ix i0).num) (((g 0).fld 1).num) (((g 0).fld 2).num) (((g 0).fld 3).bool) (fun i0 => (((g 0).fld 4).ix i0).num) (((g 0).fld 5).num) (((g 1).fld 0).num) (((g 1).fld 1).num) (((g 1).fld 2).num) (((g 1).fld 3).num) (((g 1).fld 4).num) (((g 1).fld 5).num)) fun g => sallyportlaw9_LegalPlainV (fun i0 => (((g 0).fld 0).ix i0).num) (((g 0).fld 1).num) (((g 0).fld 2).num) (((g 0).fld 3).bool) (fun i0 => (((g 0).fld 4).ix i0).num) (((g 0).fld 5).num) (((g 1).fld 0).num) (((g 1).fld 1).num) (((g 1).fld 2).num) (((g 1).fld 3).num) (((g 1).fld 4).num) (((g 1).fld 5).num)) := rowF_ok fun g hg => pcOf_ok mix fair T29_ok (HSound_none) sallyportlaw9_LegalPlainP (fun c _ => OvOk_none c) (sallyportlaw9_LegalPlainE g) hg
def T12 : List Row := (12, (rowF [(.agg [(.arr 32 (.int .u64)), (.int .u64), (.int .i64), .bool, (.arr 29 (.int .u64)), (.int .u64)]), (.agg [(.int .i64), (.int .i64), (.int .i64), (.int .i64), (.int .i64), (.int .i64)])] (some fun g => sallyportlaw9_LegalPlainG (fun i0 => (((g 0).fld 0).ix i0).num) (((g 0).fld 1).num) (((g 0).fld 2).num) (((g 0).fld 3).bool) (fun i0 => (((g 0).fld 4).ix i0).num) (((g 0).fld 5).num) (((g 1).fld 0).num) (((g 1).fld 1).num) (((g 1).fld 2).num) (((g 1).fld 3).num) (((g 1).fld 4).num) (((g 1).fld 5).num)) fun g => sallyportlaw9_LegalPlainV (fun i0 => (((g 0).fld 0).ix i0).num) (((g 0).fld 1).num) (((g 0).fld 2).num) (((g 0).fld 3).bool) (fun i0 => (((g 0).fld 4).ix i0).num) (((g 0).fld 5).num) (((g 1).fld 0).num) (((g 1).fld 1).num) (((g 1).fld 2).num) (((g 1).fld 3).num) (((g 1).fld 4).num) (((g 1).fld 5).num))) :: T29
theorem T12_ok : PSound Try.prog (lookR T12) := lookR_cons sallyportlaw9_LegalPlainO T29_ok

/- sallyport/sallyportlaw9.LegalMore -/
def sallyportlaw9_LegalMore0 (a0_X : Nat → Int) (a0_PC : Int) (a0_Level : Int) (a0_V : Bool) (a0_C : Nat → Int) (a0_Done : Int) (a1 : Int) : Bool :=
  bif
      bif
          bif
              bif
                  !legal_Csr1 (fun i0 => sallyportref18_Clean0 (fun i0 => a0_X i0) a0_PC a0_Level a0_V (fun i0 => a0_C i0) a0_Done i0)
                      (sallyportref18_Clean1 (fun i0 => a0_X i0) a0_PC a0_Level a0_V (fun i0 => a0_C i0) a0_Done) 0 false
                      (fun i0 => bif i0 == 0 then 0 else sallyportref18_Clean4 (fun i0 => a0_X i0) a0_PC a0_Level a0_V (fun i0 => a0_C i0) a0_Done i0)
                      (sallyportref18_Clean5 (fun i0 => a0_X i0) a0_PC a0_Level a0_V (fun i0 => a0_C i0) a0_Done) a1 false then
                true
              else
                legal_Csr1 (fun i0 => sallyportref18_Clean0 (fun i0 => a0_X i0) a0_PC a0_Level a0_V (fun i0 => a0_C i0) a0_Done i0)
                  (sallyportref18_Clean1 (fun i0 => a0_X i0) a0_PC a0_Level a0_V (fun i0 => a0_C i0) a0_Done) 1 false
                  (fun i0 => bif i0 == 0 then 0 else sallyportref18_Clean4 (fun i0 => a0_X i0) a0_PC a0_Level a0_V (fun i0 => a0_C i0) a0_Done i0)
                  (sallyportref18_Clean5 (fun i0 => a0_X i0) a0_PC a0_Level a0_V (fun i0 => a0_C i0) a0_Done) a1 false then
            bif
                !legal_Csr1 (fun i0 => sallyportref18_Clean0 (fun i0 => a0_X i0) a0_PC a0_Level a0_V (fun i0 => a0_C i0) a0_Done i0)
                    (sallyportref18_Clean1 (fun i0 => a0_X i0) a0_PC a0_Level a0_V (fun i0 => a0_C i0) a0_Done) 1 false
                    (fun i0 => bif i0 == 0 then 0 else sallyportref18_Clean4 (fun i0 => a0_X i0) a0_PC a0_Level a0_V (fun i0 => a0_C i0) a0_Done i0)
                    (sallyportref18_Clean5 (fun i0 => a0_X i0) a0_PC a0_Level a0_V (fun i0 => a0_C i0) a0_Done) a1 false then
              true
            else
              legal_Csr1 (fun i0 => sallyportref18_Clean0 (fun i0 => a0_X i0) a0_PC a0_Level a0_V (fun i0 => a0_C i0) a0_Done i0)
                (sallyportref18_Clean1 (fun i0 => a0_X i0) a0_PC a0_Level a0_V (fun i0 => a0_C i0) a0_Done) 3 false
                (fun i0 => bif i0 == 0 then 0 else sallyportref18_Clean4 (fun i0 => a0_X i0) a0_PC a0_Level a0_V (fun i0 => a0_C i0) a0_Done i0)
                (sallyportref18_Clean5 (fun i0 => a0_X i0) a0_PC a0_Level a0_V (fun i0 => a0_C i0) a0_Done) a1 false
          else false then
        bif
            !legal_Csr1 (fun i0 => sallyportref18_Clean0 (fun i0 => a0_X i0) a0_PC a0_Level a0_V (fun i0 => a0_C i0) a0_Done i0)
                (sallyportref18_Clean1 (fun i0 => a0_X i0) a0_PC a0_Level a0_V (fun i0 => a0_C i0) a0_Done) 1 false
                (fun i0 => bif i0 == 0 then 0 else sallyportref18_Clean4 (fun i0 => a0_X i0) a0_PC a0_Level a0_V (fun i0 => a0_C i0) a0_Done i0)
                (sallyportref18_Clean5 (fun i0 => a0_X i0) a0_PC a0_Level a0_V (fun i0 => a0_C i0) a0_Done) a1 true then
          true
        else
          legal_Csr1 (fun i0 => sallyportref18_Clean0 (fun i0 => a0_X i0) a0_PC a0_Level a0_V (fun i0 => a0_C i0) a0_Done i0)
            (sallyportref18_Clean1 (fun i0 => a0_X i0) a0_PC a0_Level a0_V (fun i0 => a0_C i0) a0_Done) 1 false
            (fun i0 => bif i0 == 0 then 0 else sallyportref18_Clean4 (fun i0 => a0_X i0) a0_PC a0_Level a0_V (fun i0 => a0_C i0) a0_Done i0)
            (sallyportref18_Clean5 (fun i0 => a0_X i0) a0_PC a0_Level a0_V (fun i0 => a0_C i0) a0_Done) a1 false
      else false then
    bif
        legal_Csr1 (fun i0 => sallyportref18_Clean0 (fun i0 => a0_X i0) a0_PC a0_Level a0_V (fun i0 => a0_C i0) a0_Done i0)
          (sallyportref18_Clean1 (fun i0 => a0_X i0) a0_PC a0_Level a0_V (fun i0 => a0_C i0) a0_Done) 3 false
          (fun i0 => bif i0 == 0 then 0 else sallyportref18_Clean4 (fun i0 => a0_X i0) a0_PC a0_Level a0_V (fun i0 => a0_C i0) a0_Done i0)
          (sallyportref18_Clean5 (fun i0 => a0_X i0) a0_PC a0_Level a0_V (fun i0 => a0_C i0) a0_Done) a1 false then
      true
    else iLt (sallyportref8_Index0 a1) 0
  else false
def sallyportlaw9_LegalMoreG (a0_X : Nat → Int) (a0_PC : Int) (a0_Level : Int) (a0_V : Bool) (a0_C : Nat → Int) (a0_Done : Int) (a1 : Int) : Bool :=
  legal_CsrG (fun i0 => sallyportref18_Clean0 (fun i0 => a0_X i0) a0_PC a0_Level a0_V (fun i0 => a0_C i0) a0_Done i0)
      (sallyportref18_Clean1 (fun i0 => a0_X i0) a0_PC a0_Level a0_V (fun i0 => a0_C i0) a0_Done) 0 false
      (fun i0 => bif i0 == 0 then 0 else sallyportref18_Clean4 (fun i0 => a0_X i0) a0_PC a0_Level a0_V (fun i0 => a0_C i0) a0_Done i0)
      (sallyportref18_Clean5 (fun i0 => a0_X i0) a0_PC a0_Level a0_V (fun i0 => a0_C i0) a0_Done) a1 false &&
    (legal_CsrG (fun i0 => sallyportref18_Clean0 (fun i0 => a0_X i0) a0_PC a0_Level a0_V (fun i0 => a0_C i0) a0_Done i0)
        (sallyportref18_Clean1 (fun i0 => a0_X i0) a0_PC a0_Level a0_V (fun i0 => a0_C i0) a0_Done) 1 false
        (fun i0 => bif i0 == 0 then 0 else sallyportref18_Clean4 (fun i0 => a0_X i0) a0_PC a0_Level a0_V (fun i0 => a0_C i0) a0_Done i0)
        (sallyportref18_Clean5 (fun i0 => a0_X i0) a0_PC a0_Level a0_V (fun i0 => a0_C i0) a0_Done) a1 false &&
      (legal_CsrG (fun i0 => sallyportref18_Clean0 (fun i0 => a0_X i0) a0_PC a0_Level a0_V (fun i0 => a0_C i0) a0_Done i0)
          (sallyportref18_Clean1 (fun i0 => a0_X i0) a0_PC a0_Level a0_V (fun i0 => a0_C i0) a0_Done) 3 false
          (fun i0 => bif i0 == 0 then 0 else sallyportref18_Clean4 (fun i0 => a0_X i0) a0_PC a0_Level a0_V (fun i0 => a0_C i0) a0_Done i0)
          (sallyportref18_Clean5 (fun i0 => a0_X i0) a0_PC a0_Level a0_V (fun i0 => a0_C i0) a0_Done) a1 false &&
        (legal_CsrG (fun i0 => sallyportref18_Clean0 (fun i0 => a0_X i0) a0_PC a0_Level a0_V (fun i0 => a0_C i0) a0_Done i0)
            (sallyportref18_Clean1 (fun i0 => a0_X i0) a0_PC a0_Level a0_V (fun i0 => a0_C i0) a0_Done) 1 false
            (fun i0 => bif i0 == 0 then 0 else sallyportref18_Clean4 (fun i0 => a0_X i0) a0_PC a0_Level a0_V (fun i0 => a0_C i0) a0_Done i0)
            (sallyportref18_Clean5 (fun i0 => a0_X i0) a0_PC a0_Level a0_V (fun i0 => a0_C i0) a0_Done) a1 true &&
          true)))
def sallyportlaw9_LegalMoreV (a0_X : Nat → Int) (a0_PC : Int) (a0_Level : Int) (a0_V : Bool) (a0_C : Nat → Int) (a0_Done : Int) (a1 : Int) : AV := .bl (sallyportlaw9_LegalMore0 a0_X a0_PC a0_Level a0_V a0_C a0_Done a1)
theorem sallyportlaw9_LegalMoreE (g : Nat → AV) : pcOf Try.prog okT (lookR T12) (NOH) RO NOV 100 false Try.f10 (norms [(.agg [(.arr 32 (.int .u64)), (.int .u64), (.int .i64), .bool, (.arr 29 (.int .u64)), (.int .u64)]), (.int .i64)] 0 g) = some (sallyportlaw9_LegalMoreG (fun i0 => (((g 0).fld 0).ix i0).num) (((g 0).fld 1).num) (((g 0).fld 2).num) (((g 0).fld 3).bool) (fun i0 => (((g 0).fld 4).ix i0).num) (((g 0).fld 5).num) ((g 1).num), sallyportlaw9_LegalMoreV (fun i0 => (((g 0).fld 0).ix i0).num) (((g 0).fld 1).num) (((g 0).fld 2).num) (((g 0).fld 3).bool) (fun i0 => (((g 0).fld 4).ix i0).num) (((g 0).fld 5).num) ((g 1).num)) := by kernel_rfl
theorem sallyportlaw9_LegalMoreP : Plain Try.prog 10 Try.f10 := ⟨Try.func10, of_decide_eq_true (by kernel_rfl)⟩
theorem sallyportlaw9_LegalMoreO : RowOk Try.prog 10 (rowF [(.agg [(.arr 32 (.int .u64)), (.int .u64), (.int .i64), .bool, (.arr 29 (.int .u64)), (.int .u64)]), (.int .i64)] (some fun g => sallyportlaw9_LegalMoreG (fun i0 => (((g 0).fld 0).ix i0).num) (((g 0).fld 1).num) (((g 0).fld 2).num) (((g 0).fld 3).bool) (fun i0 => (((g 0).fld 4).ix i0).num) (((g 0).fld 5).num) ((g 1).num)) fun g => sallyportlaw9_LegalMoreV (fun i0 => (((g 0).fld 0).ix i0).num) (((g 0).fld 1).num) (((g 0).fld 2).num) (((g 0).fld 3).bool) (fun i0 => (((g 0).fld 4).ix i0).num) (((g 0).fld 5).num) ((g 1).num)) := rowF_ok fun g hg => pcOf_ok mix fair T12_ok (HSound_none) sallyportlaw9_LegalMoreP (fun c _ => OvOk_none c) (sallyportlaw9_LegalMoreE g) hg
def T10 : List Row := (10, (rowF [(.agg [(.arr 32 (.int .u64)), (.int .u64), (.int .i64), .bool, (.arr 29 (.int .u64)), (.int .u64)]), (.int .i64)] (some fun g => sallyportlaw9_LegalMoreG (fun i0 => (((g 0).fld 0).ix i0).num) (((g 0).fld 1).num) (((g 0).fld 2).num) (((g 0).fld 3).bool) (fun i0 => (((g 0).fld 4).ix i0).num) (((g 0).fld 5).num) ((g 1).num)) fun g => sallyportlaw9_LegalMoreV (fun i0 => (((g 0).fld 0).ix i0).num) (((g 0).fld 1).num) (((g 0).fld 2).num) (((g 0).fld 3).bool) (fun i0 => (((g 0).fld 4).ix i0).num) (((g 0).fld 5).num) ((g 1).num))) :: T12
theorem T10_ok : PSound Try.prog (lookR T10) := lookR_cons sallyportlaw9_LegalMoreO T12_ok

/- sallyport/sallyportlaw9.LegalTells -/
def sallyportlaw9_LegalTells0 (a0_X : Nat → Int) (a0_PC : Int) (a0_Level : Int) (a0_V : Bool) (a0_C : Nat → Int) (a0_Done : Int) (a1 : Int) (a2 : Bool) (a3_Op : Int) (a3_Rd : Int) (a3_Rs1 : Int) (a3_Rs2 : Int) (a3_Imm : Int) (a3_CSR : Int) : Bool :=
  bif
      bif
          bif
              bif
                  iEq
                    (legal_Csr0 (fun i0 => sallyportref18_Clean0 (fun i0 => a0_X i0) a0_PC a0_Level a0_V (fun i0 => a0_C i0) a0_Done i0)
                      (sallyportref18_Clean1 (fun i0 => a0_X i0) a0_PC a0_Level a0_V (fun i0 => a0_C i0) a0_Done)
                      (sallyportref18_Clean2 (fun i0 => a0_X i0) a0_PC a0_Level a0_V (fun i0 => a0_C i0) a0_Done)
                      (sallyportref18_Clean3 (fun i0 => a0_X i0) a0_PC a0_Level a0_V (fun i0 => a0_C i0) a0_Done)
                      (fun i0 => sallyportref18_Clean4 (fun i0 => a0_X i0) a0_PC a0_Level a0_V (fun i0 => a0_C i0) a0_Done i0)
                      (sallyportref18_Clean5 (fun i0 => a0_X i0) a0_PC a0_Level a0_V (fun i0 => a0_C i0) a0_Done) a1 a2)
                    (sallyportref8_Csr0 (fun i0 => sallyportref18_Clean0 (fun i0 => a0_X i0) a0_PC a0_Level a0_V (fun i0 => a0_C i0) a0_Done i0)
                      (sallyportref18_Clean1 (fun i0 => a0_X i0) a0_PC a0_Level a0_V (fun i0 => a0_C i0) a0_Done)
                      (sallyportref18_Clean2 (fun i0 => a0_X i0) a0_PC a0_Level a0_V (fun i0 => a0_C i0) a0_Done)
                      (sallyportref18_Clean3 (fun i0 => a0_X i0) a0_PC a0_Level a0_V (fun i0 => a0_C i0) a0_Done)
                      (fun i0 => sallyportref18_Clean4 (fun i0 => a0_X i0) a0_PC a0_Level a0_V (fun i0 => a0_C i0) a0_Done i0)
                      (sallyportref18_Clean5 (fun i0 => a0_X i0) a0_PC a0_Level a0_V (fun i0 => a0_C i0) a0_Done) a1 a2) then
                legal_Csr1 (fun i0 => sallyportref18_Clean0 (fun i0 => a0_X i0) a0_PC a0_Level a0_V (fun i0 => a0_C i0) a0_Done i0)
                    (sallyportref18_Clean1 (fun i0 => a0_X i0) a0_PC a0_Level a0_V (fun i0 => a0_C i0) a0_Done)
                    (sallyportref18_Clean2 (fun i0 => a0_X i0) a0_PC a0_Level a0_V (fun i0 => a0_C i0) a0_Done)
                    (sallyportref18_Clean3 (fun i0 => a0_X i0) a0_PC a0_Level a0_V (fun i0 => a0_C i0) a0_Done)
                    (fun i0 => sallyportref18_Clean4 (fun i0 => a0_X i0) a0_PC a0_Level a0_V (fun i0 => a0_C i0) a0_Done i0)
                    (sallyportref18_Clean5 (fun i0 => a0_X i0) a0_PC a0_Level a0_V (fun i0 => a0_C i0) a0_Done) a1 a2 ==
                  sallyportref8_Csr1 (fun i0 => sallyportref18_Clean0 (fun i0 => a0_X i0) a0_PC a0_Level a0_V (fun i0 => a0_C i0) a0_Done i0)
                    (sallyportref18_Clean1 (fun i0 => a0_X i0) a0_PC a0_Level a0_V (fun i0 => a0_C i0) a0_Done)
                    (sallyportref18_Clean2 (fun i0 => a0_X i0) a0_PC a0_Level a0_V (fun i0 => a0_C i0) a0_Done)
                    (sallyportref18_Clean3 (fun i0 => a0_X i0) a0_PC a0_Level a0_V (fun i0 => a0_C i0) a0_Done)
                    (fun i0 => sallyportref18_Clean4 (fun i0 => a0_X i0) a0_PC a0_Level a0_V (fun i0 => a0_C i0) a0_Done i0)
                    (sallyportref18_Clean5 (fun i0 => a0_X i0) a0_PC a0_Level a0_V (fun i0 => a0_C i0) a0_Done) a1 a2
              else false then
            iEq
              (legal_Insn0 (fun i0 => sallyportref18_Clean0 (fun i0 => a0_X i0) a0_PC a0_Level a0_V (fun i0 => a0_C i0) a0_Done i0)
                (sallyportref18_Clean1 (fun i0 => a0_X i0) a0_PC a0_Level a0_V (fun i0 => a0_C i0) a0_Done) (sallyportref18_Clean2 (fun i0 => a0_X i0) a0_PC a0_Level a0_V (fun i0 => a0_C i0) a0_Done)
                (sallyportref18_Clean3 (fun i0 => a0_X i0) a0_PC a0_Level a0_V (fun i0 => a0_C i0) a0_Done)
                (fun i0 => sallyportref18_Clean4 (fun i0 => a0_X i0) a0_PC a0_Level a0_V (fun i0 => a0_C i0) a0_Done i0)
                (sallyportref18_Clean5 (fun i0 => a0_X i0) a0_PC a0_Level a0_V (fun i0 => a0_C i0) a0_Done) a3_Op a3_Rd a3_Rs1 a3_Rs2 a3_Imm a3_CSR)
              (sallyportref8_Insn0 (fun i0 => sallyportref18_Clean0 (fun i0 => a0_X i0) a0_PC a0_Level a0_V (fun i0 => a0_C i0) a0_Done i0)
                (sallyportref18_Clean1 (fun i0 => a0_X i0) a0_PC a0_Level a0_V (fun i0 => a0_C i0) a0_Done) (sallyportref18_Clean2 (fun i0 => a0_X i0) a0_PC a0_Level a0_V (fun i0 => a0_C i0) a0_Done)
                (sallyportref18_Clean3 (fun i0 => a0_X i0) a0_PC a0_Level a0_V (fun i0 => a0_C i0) a0_Done)
                (fun i0 => sallyportref18_Clean4 (fun i0 => a0_X i0) a0_PC a0_Level a0_V (fun i0 => a0_C i0) a0_Done i0)
                (sallyportref18_Clean5 (fun i0 => a0_X i0) a0_PC a0_Level a0_V (fun i0 => a0_C i0) a0_Done) a3_Op a3_Rd a3_Rs1 a3_Rs2 a3_Imm a3_CSR)
          else false then
        legal_Insn1 (fun i0 => sallyportref18_Clean0 (fun i0 => a0_X i0) a0_PC a0_Level a0_V (fun i0 => a0_C i0) a0_Done i0)
            (sallyportref18_Clean1 (fun i0 => a0_X i0) a0_PC a0_Level a0_V (fun i0 => a0_C i0) a0_Done) (sallyportref18_Clean2 (fun i0 => a0_X i0) a0_PC a0_Level a0_V (fun i0 => a0_C i0) a0_Done)
            (sallyportref18_Clean3 (fun i0 => a0_X i0) a0_PC a0_Level a0_V (fun i0 => a0_C i0) a0_Done)
            (fun i0 => sallyportref18_Clean4 (fun i0 => a0_X i0) a0_PC a0_Level a0_V (fun i0 => a0_C i0) a0_Done i0)
            (sallyportref18_Clean5 (fun i0 => a0_X i0) a0_PC a0_Level a0_V (fun i0 => a0_C i0) a0_Done) a3_Op a3_Rd a3_Rs1 a3_Rs2 a3_Imm a3_CSR ==
          sallyportref8_Insn1 (fun i0 => sallyportref18_Clean0 (fun i0 => a0_X i0) a0_PC a0_Level a0_V (fun i0 => a0_C i0) a0_Done i0)
            (sallyportref18_Clean1 (fun i0 => a0_X i0) a0_PC a0_Level a0_V (fun i0 => a0_C i0) a0_Done) (sallyportref18_Clean2 (fun i0 => a0_X i0) a0_PC a0_Level a0_V (fun i0 => a0_C i0) a0_Done)
            (sallyportref18_Clean3 (fun i0 => a0_X i0) a0_PC a0_Level a0_V (fun i0 => a0_C i0) a0_Done)
            (fun i0 => sallyportref18_Clean4 (fun i0 => a0_X i0) a0_PC a0_Level a0_V (fun i0 => a0_C i0) a0_Done i0)
            (sallyportref18_Clean5 (fun i0 => a0_X i0) a0_PC a0_Level a0_V (fun i0 => a0_C i0) a0_Done) a3_Op a3_Rd a3_Rs1 a3_Rs2 a3_Imm a3_CSR
      else false then
    iEq
      (legal_Level0 (fun i0 => sallyportref18_Clean0 (fun i0 => a0_X i0) a0_PC a0_Level a0_V (fun i0 => a0_C i0) a0_Done i0)
        (sallyportref18_Clean1 (fun i0 => a0_X i0) a0_PC a0_Level a0_V (fun i0 => a0_C i0) a0_Done) (sallyportref18_Clean2 (fun i0 => a0_X i0) a0_PC a0_Level a0_V (fun i0 => a0_C i0) a0_Done)
        (sallyportref18_Clean3 (fun i0 => a0_X i0) a0_PC a0_Level a0_V (fun i0 => a0_C i0) a0_Done)
        (fun i0 => sallyportref18_Clean4 (fun i0 => a0_X i0) a0_PC a0_Level a0_V (fun i0 => a0_C i0) a0_Done i0)
        (sallyportref18_Clean5 (fun i0 => a0_X i0) a0_PC a0_Level a0_V (fun i0 => a0_C i0) a0_Done))
      (sallyportref8_Level0 (fun i0 => sallyportref18_Clean0 (fun i0 => a0_X i0) a0_PC a0_Level a0_V (fun i0 => a0_C i0) a0_Done i0)
        (sallyportref18_Clean1 (fun i0 => a0_X i0) a0_PC a0_Level a0_V (fun i0 => a0_C i0) a0_Done) (sallyportref18_Clean2 (fun i0 => a0_X i0) a0_PC a0_Level a0_V (fun i0 => a0_C i0) a0_Done)
        (sallyportref18_Clean3 (fun i0 => a0_X i0) a0_PC a0_Level a0_V (fun i0 => a0_C i0) a0_Done)
        (fun i0 => sallyportref18_Clean4 (fun i0 => a0_X i0) a0_PC a0_Level a0_V (fun i0 => a0_C i0) a0_Done i0)
        (sallyportref18_Clean5 (fun i0 => a0_X i0) a0_PC a0_Level a0_V (fun i0 => a0_C i0) a0_Done))
  else false
def sallyportlaw9_LegalTellsG (a0_X : Nat → Int) (a0_PC : Int) (a0_Level : Int) (a0_V : Bool) (a0_C : Nat → Int) (a0_Done : Int) (a1 : Int) (a2 : Bool) (a3_Op : Int) (a3_Rd : Int) (a3_Rs1 : Int) (a3_Rs2 : Int) (a3_Imm : Int) (a3_CSR : Int) : Bool :=
  legal_CsrG (fun i0 => sallyportref18_Clean0 (fun i0 => a0_X i0) a0_PC a0_Level a0_V (fun i0 => a0_C i0) a0_Done i0)
      (sallyportref18_Clean1 (fun i0 => a0_X i0) a0_PC a0_Level a0_V (fun i0 => a0_C i0) a0_Done) (sallyportref18_Clean2 (fun i0 => a0_X i0) a0_PC a0_Level a0_V (fun i0 => a0_C i0) a0_Done)
      (sallyportref18_Clean3 (fun i0 => a0_X i0) a0_PC a0_Level a0_V (fun i0 => a0_C i0) a0_Done) (fun i0 => sallyportref18_Clean4 (fun i0 => a0_X i0) a0_PC a0_Level a0_V (fun i0 => a0_C i0) a0_Done i0)
      (sallyportref18_Clean5 (fun i0 => a0_X i0) a0_PC a0_Level a0_V (fun i0 => a0_C i0) a0_Done) a1 a2 &&
    (legal_InsnG (fun i0 => sallyportref18_Clean0 (fun i0 => a0_X i0) a0_PC a0_Level a0_V (fun i0 => a0_C i0) a0_Done i0)
        (sallyportref18_Clean1 (fun i0 => a0_X i0) a0_PC a0_Level a0_V (fun i0 => a0_C i0) a0_Done) (sallyportref18_Clean2 (fun i0 => a0_X i0) a0_PC a0_Level a0_V (fun i0 => a0_C i0) a0_Done)
        (sallyportref18_Clean3 (fun i0 => a0_X i0) a0_PC a0_Level a0_V (fun i0 => a0_C i0) a0_Done)
        (fun i0 => sallyportref18_Clean4 (fun i0 => a0_X i0) a0_PC a0_Level a0_V (fun i0 => a0_C i0) a0_Done i0)
        (sallyportref18_Clean5 (fun i0 => a0_X i0) a0_PC a0_Level a0_V (fun i0 => a0_C i0) a0_Done) a3_Op a3_Rd a3_Rs1 a3_Rs2 a3_Imm a3_CSR &&
      true)
def sallyportlaw9_LegalTellsV (a0_X : Nat → Int) (a0_PC : Int) (a0_Level : Int) (a0_V : Bool) (a0_C : Nat → Int) (a0_Done : Int) (a1 : Int) (a2 : Bool) (a3_Op : Int) (a3_Rd : Int) (a3_Rs1 : Int) (a3_Rs2 : Int) (a3_Imm : Int) (a3_CSR : Int) : AV := .bl (sallyportlaw9_LegalTells0 a0_X a0_PC a0_Level a0_V a0_C a0_Done a1 a2 a3_Op a3_Rd a3_Rs1 a3_Rs2 a3_Imm a3_CSR)
theorem sallyportlaw9_LegalTellsE (g : Nat → AV) : pcOf Try.prog okT (lookR T10) (NOH) RO NOV 100 false Try.f9 (norms [(.agg [(.arr 32 (.int .u64)), (.int .u64), (.int .i64), .bool, (.arr 29 (.int .u64)), (.int .u64)]), (.int .i64), .bool, (.agg [(.int .i64), (.int .i64), (.int .i64), (.int .i64), (.int .i64), (.int .i64)])] 0 g) = some (sallyportlaw9_LegalTellsG (fun i0 => (((g 0).fld 0).ix i0).num) (((g 0).fld 1).num) (((g 0).fld 2).num) (((g 0).fld 3).bool) (fun i0 => (((g 0).fld 4).ix i0).num) (((g 0).fld 5).num) ((g 1).num) ((g 2).bool) (((g 3).fld 0).num) (((g 3).fld 1).num) (((g 3).fld 2).num) (((g 3).fld 3).num) (((g 3).fld 4).num) (((g 3).fld 5).num), sallyportlaw9_LegalTellsV (fun i0 => (((g 0).fld 0).ix i0).num) (((g 0).fld 1).num) (((g 0).fld 2).num) (((g 0).fld 3).bool) (fun i0 => (((g 0).fld 4).ix i0).num) (((g 0).fld 5).num) ((g 1).num) ((g 2).bool) (((g 3).fld 0).num) (((g 3).fld 1).num) (((g 3).fld 2).num) (((g 3).fld 3).num) (((g 3).fld 4).num) (((g 3).fld 5).num)) := by kernel_rfl
theorem sallyportlaw9_LegalTellsP : Plain Try.prog 9 Try.f9 := ⟨Try.func9, of_decide_eq_true (by kernel_rfl)⟩
theorem sallyportlaw9_LegalTellsO : RowOk Try.prog 9 (rowF [(.agg [(.arr 32 (.int .u64)), (.int .u64), (.int .i64), .bool, (.arr 29 (.int .u64)), (.int .u64)]), (.int .i64), .bool, (.agg [(.int .i64), (.int .i64), (.int .i64), (.int .i64), (.int .i64), (.int .i64)])] (some fun g => sallyportlaw9_LegalTellsG (fun i0 => (((g 0).fld 0).ix i0).num) (((g 0).fld 1).num) (((g 0).fld 2).num) (((g 0).fld 3).bool) (fun i0 => (((g 0).fld 4).ix i0).num) (((g 0).fld 5).num) ((g 1).num) ((g 2).bool) (((g 3).fld 0).num) (((g 3).fld 1).num) (((g 3).fld 2).num) (((g 3).fld 3).num) (((g 3).fld 4).num) (((g 3).fld 5).num)) fun g => sallyportlaw9_LegalTellsV (fun i0 => (((g 0).fld 0).ix i0).num) (((g 0).fld 1).num) (((g 0).fld 2).num) (((g 0).fld 3).bool) (fun i0 => (((g 0).fld 4).ix i0).num) (((g 0).fld 5).num) ((g 1).num) ((g 2).bool) (((g 3).fld 0).num) (((g 3).fld 1).num) (((g 3).fld 2).num) (((g 3).fld 3).num) (((g 3).fld 4).num) (((g 3).fld 5).num)) := rowF_ok fun g hg => pcOf_ok mix fair T10_ok (HSound_none) sallyportlaw9_LegalTellsP (fun c _ => OvOk_none c) (sallyportlaw9_LegalTellsE g) hg
def T9 : List Row := (9, (rowF [(.agg [(.arr 32 (.int .u64)), (.int .u64), (.int .i64), .bool, (.arr 29 (.int .u64)), (.int .u64)]), (.int .i64), .bool, (.agg [(.int .i64), (.int .i64), (.int .i64), (.int .i64), (.int .i64), (.int .i64)])] (some fun g => sallyportlaw9_LegalTellsG (fun i0 => (((g 0).fld 0).ix i0).num) (((g 0).fld 1).num) (((g 0).fld 2).num) (((g 0).fld 3).bool) (fun i0 => (((g 0).fld 4).ix i0).num) (((g 0).fld 5).num) ((g 1).num) ((g 2).bool) (((g 3).fld 0).num) (((g 3).fld 1).num) (((g 3).fld 2).num) (((g 3).fld 3).num) (((g 3).fld 4).num) (((g 3).fld 5).num)) fun g => sallyportlaw9_LegalTellsV (fun i0 => (((g 0).fld 0).ix i0).num) (((g 0).fld 1).num) (((g 0).fld 2).num) (((g 0).fld 3).bool) (fun i0 => (((g 0).fld 4).ix i0).num) (((g 0).fld 5).num) ((g 1).num) ((g 2).bool) (((g 3).fld 0).num) (((g 3).fld 1).num) (((g 3).fld 2).num) (((g 3).fld 3).num) (((g 3).fld 4).num) (((g 3).fld 5).num))) :: T10
theorem T9_ok : PSound Try.prog (lookR T9) := lookR_cons sallyportlaw9_LegalTellsO T10_ok

/- sallyport/sallyportlaw9.LegalGuest -/
def sallyportlaw9_LegalGuest0 (a0_X : Nat → Int) (a0_PC : Int) (a0_Level : Int) (a0_V : Bool) (a0_C : Nat → Int) (a0_Done : Int) (a1 : Int) (a2 : Bool) (a3_Op : Int) (a3_Rd : Int) (a3_Rs1 : Int) (a3_Rs2 : Int) (a3_Imm : Int) (a3_CSR : Int) : Bool :=
  bif a2 then
    bif iEq (iAnd IntKind.i64 (iShr IntKind.i64 (sallyportref8_Number0 (iRem (iConv IntKind.i64 a1) 29)) 8) 3) 3 then
      bif
          bif
              legal_Csr1 (fun i0 => sallyportref18_Clean0 (fun i0 => a0_X i0) a0_PC a0_Level a0_V (fun i0 => a0_C i0) a0_Done i0)
                (sallyportref18_Clean1 (fun i0 => a0_X i0) a0_PC a0_Level a0_V (fun i0 => a0_C i0) a0_Done) 0 true
                (fun i0 => sallyportref18_Clean4 (fun i0 => a0_X i0) a0_PC a0_Level a0_V (fun i0 => a0_C i0) a0_Done i0)
                (sallyportref18_Clean5 (fun i0 => a0_X i0) a0_PC a0_Level a0_V (fun i0 => a0_C i0) a0_Done) (sallyportref8_Number0 (iRem (iConv IntKind.i64 a1) 29)) false then
            true
          else
            iNe
              (legal_Csr0 (fun i0 => sallyportref18_Clean0 (fun i0 => a0_X i0) a0_PC a0_Level a0_V (fun i0 => a0_C i0) a0_Done i0)
                (sallyportref18_Clean1 (fun i0 => a0_X i0) a0_PC a0_Level a0_V (fun i0 => a0_C i0) a0_Done) 0 true
                (fun i0 => sallyportref18_Clean4 (fun i0 => a0_X i0) a0_PC a0_Level a0_V (fun i0 => a0_C i0) a0_Done i0)
                (sallyportref18_Clean5 (fun i0 => a0_X i0) a0_PC a0_Level a0_V (fun i0 => a0_C i0) a0_Done) (sallyportref8_Number0 (iRem (iConv IntKind.i64 a1) 29)) false)
              2 then
        false
      else
        bif bif bif iLe 64 a3_Op then iLe a3_Op 69 else false then iNe a3_Op 63 else false then
          bif
              !legal_Insn1 (fun i0 => sallyportref18_Clean0 (fun i0 => a0_X i0) a0_PC a0_Level a0_V (fun i0 => a0_C i0) a0_Done i0)
                  (sallyportref18_Clean1 (fun i0 => a0_X i0) a0_PC a0_Level a0_V (fun i0 => a0_C i0) a0_Done) 0 true
                  (fun i0 => sallyportref18_Clean4 (fun i0 => a0_X i0) a0_PC a0_Level a0_V (fun i0 => a0_C i0) a0_Done i0)
                  (sallyportref18_Clean5 (fun i0 => a0_X i0) a0_PC a0_Level a0_V (fun i0 => a0_C i0) a0_Done) a3_Op a3_Rd a3_Rs1 a3_Rs2 a3_Imm a3_CSR then
            bif
                iEq
                  (legal_Insn0 (fun i0 => sallyportref18_Clean0 (fun i0 => a0_X i0) a0_PC a0_Level a0_V (fun i0 => a0_C i0) a0_Done i0)
                    (sallyportref18_Clean1 (fun i0 => a0_X i0) a0_PC a0_Level a0_V (fun i0 => a0_C i0) a0_Done) 0 true
                    (fun i0 => sallyportref18_Clean4 (fun i0 => a0_X i0) a0_PC a0_Level a0_V (fun i0 => a0_C i0) a0_Done i0)
                    (sallyportref18_Clean5 (fun i0 => a0_X i0) a0_PC a0_Level a0_V (fun i0 => a0_C i0) a0_Done) a3_Op a3_Rd a3_Rs1 a3_Rs2 a3_Imm a3_CSR)
                  22 then
              true
            else
              iEq
                (legal_Insn0 (fun i0 => sallyportref18_Clean0 (fun i0 => a0_X i0) a0_PC a0_Level a0_V (fun i0 => a0_C i0) a0_Done i0)
                  (sallyportref18_Clean1 (fun i0 => a0_X i0) a0_PC a0_Level a0_V (fun i0 => a0_C i0) a0_Done) 0 true
                  (fun i0 => sallyportref18_Clean4 (fun i0 => a0_X i0) a0_PC a0_Level a0_V (fun i0 => a0_C i0) a0_Done i0)
                  (sallyportref18_Clean5 (fun i0 => a0_X i0) a0_PC a0_Level a0_V (fun i0 => a0_C i0) a0_Done) a3_Op a3_Rd a3_Rs1 a3_Rs2 a3_Imm a3_CSR)
                2
          else false
        else
          bif
              legal_Insn1 (fun i0 => sallyportref18_Clean0 (fun i0 => a0_X i0) a0_PC a0_Level a0_V (fun i0 => a0_C i0) a0_Done i0)
                  (sallyportref18_Clean1 (fun i0 => a0_X i0) a0_PC a0_Level a0_V (fun i0 => a0_C i0) a0_Done) 0 true
                  (fun i0 => sallyportref18_Clean4 (fun i0 => a0_X i0) a0_PC a0_Level a0_V (fun i0 => a0_C i0) a0_Done i0)
                  (sallyportref18_Clean5 (fun i0 => a0_X i0) a0_PC a0_Level a0_V (fun i0 => a0_C i0) a0_Done) a3_Op a3_Rd a3_Rs1 a3_Rs2 a3_Imm a3_CSR ==
                iEq
                  (legal_Insn0 (fun i0 => sallyportref18_Clean0 (fun i0 => a0_X i0) a0_PC a0_Level a0_V (fun i0 => a0_C i0) a0_Done i0)
                    (sallyportref18_Clean1 (fun i0 => a0_X i0) a0_PC a0_Level a0_V (fun i0 => a0_C i0) a0_Done) 0 true
                    (fun i0 => sallyportref18_Clean4 (fun i0 => a0_X i0) a0_PC a0_Level a0_V (fun i0 => a0_C i0) a0_Done i0)
                    (sallyportref18_Clean5 (fun i0 => a0_X i0) a0_PC a0_Level a0_V (fun i0 => a0_C i0) a0_Done) a3_Op a3_Rd a3_Rs1 a3_Rs2 a3_Imm a3_CSR)
                  0 then
            bif
                bif
                    legal_Insn1 (fun i0 => sallyportref18_Clean0 (fun i0 => a0_X i0) a0_PC a0_Level a0_V (fun i0 => a0_C i0) a0_Done i0)
                      (sallyportref18_Clean1 (fun i0 => a0_X i0) a0_PC a0_Level a0_V (fun i0 => a0_C i0) a0_Done) 0 true
                      (fun i0 => sallyportref18_Clean4 (fun i0 => a0_X i0) a0_PC a0_Level a0_V (fun i0 => a0_C i0) a0_Done i0)
                      (sallyportref18_Clean5 (fun i0 => a0_X i0) a0_PC a0_Level a0_V (fun i0 => a0_C i0) a0_Done) a3_Op a3_Rd a3_Rs1 a3_Rs2 a3_Imm a3_CSR then
                  true
                else
                  iEq
                    (legal_Insn0 (fun i0 => sallyportref18_Clean0 (fun i0 => a0_X i0) a0_PC a0_Level a0_V (fun i0 => a0_C i0) a0_Done i0)
                      (sallyportref18_Clean1 (fun i0 => a0_X i0) a0_PC a0_Level a0_V (fun i0 => a0_C i0) a0_Done) 0 true
                      (fun i0 => sallyportref18_Clean4 (fun i0 => a0_X i0) a0_PC a0_Level a0_V (fun i0 => a0_C i0) a0_Done i0)
                      (sallyportref18_Clean5 (fun i0 => a0_X i0) a0_PC a0_Level a0_V (fun i0 => a0_C i0) a0_Done) a3_Op a3_Rd a3_Rs1 a3_Rs2 a3_Imm a3_CSR)
                    22 then
              true
            else
              iEq
                (legal_Insn0 (fun i0 => sallyportref18_Clean0 (fun i0 => a0_X i0) a0_PC a0_Level a0_V (fun i0 => a0_C i0) a0_Done i0)
                  (sallyportref18_Clean1 (fun i0 => a0_X i0) a0_PC a0_Level a0_V (fun i0 => a0_C i0) a0_Done) 0 true
                  (fun i0 => sallyportref18_Clean4 (fun i0 => a0_X i0) a0_PC a0_Level a0_V (fun i0 => a0_C i0) a0_Done i0)
                  (sallyportref18_Clean5 (fun i0 => a0_X i0) a0_PC a0_Level a0_V (fun i0 => a0_C i0) a0_Done) a3_Op a3_Rd a3_Rs1 a3_Rs2 a3_Imm a3_CSR)
                2
          else false
    else
      bif iEq (iAnd IntKind.i64 (iShr IntKind.i64 (sallyportref8_Number0 (iRem (iConv IntKind.i64 a1) 29)) 8) 3) 2 then
        bif
            bif
                legal_Csr1 (fun i0 => sallyportref18_Clean0 (fun i0 => a0_X i0) a0_PC a0_Level a0_V (fun i0 => a0_C i0) a0_Done i0)
                  (sallyportref18_Clean1 (fun i0 => a0_X i0) a0_PC a0_Level a0_V (fun i0 => a0_C i0) a0_Done) 0 true
                  (fun i0 => sallyportref18_Clean4 (fun i0 => a0_X i0) a0_PC a0_Level a0_V (fun i0 => a0_C i0) a0_Done i0)
                  (sallyportref18_Clean5 (fun i0 => a0_X i0) a0_PC a0_Level a0_V (fun i0 => a0_C i0) a0_Done) (sallyportref8_Number0 (iRem (iConv IntKind.i64 a1) 29)) false then
              true
            else
              iNe
                (legal_Csr0 (fun i0 => sallyportref18_Clean0 (fun i0 => a0_X i0) a0_PC a0_Level a0_V (fun i0 => a0_C i0) a0_Done i0)
                  (sallyportref18_Clean1 (fun i0 => a0_X i0) a0_PC a0_Level a0_V (fun i0 => a0_C i0) a0_Done) 0 true
                  (fun i0 => sallyportref18_Clean4 (fun i0 => a0_X i0) a0_PC a0_Level a0_V (fun i0 => a0_C i0) a0_Done i0)
                  (sallyportref18_Clean5 (fun i0 => a0_X i0) a0_PC a0_Level a0_V (fun i0 => a0_C i0) a0_Done) (sallyportref8_Number0 (iRem (iConv IntKind.i64 a1) 29)) false)
                22 then
          false
        else
          bif bif bif iLe 64 a3_Op then iLe a3_Op 69 else false then iNe a3_Op 63 else false then
            bif
                !legal_Insn1 (fun i0 => sallyportref18_Clean0 (fun i0 => a0_X i0) a0_PC a0_Level a0_V (fun i0 => a0_C i0) a0_Done i0)
                    (sallyportref18_Clean1 (fun i0 => a0_X i0) a0_PC a0_Level a0_V (fun i0 => a0_C i0) a0_Done) 0 true
                    (fun i0 => sallyportref18_Clean4 (fun i0 => a0_X i0) a0_PC a0_Level a0_V (fun i0 => a0_C i0) a0_Done i0)
                    (sallyportref18_Clean5 (fun i0 => a0_X i0) a0_PC a0_Level a0_V (fun i0 => a0_C i0) a0_Done) a3_Op a3_Rd a3_Rs1 a3_Rs2 a3_Imm a3_CSR then
              bif
                  iEq
                    (legal_Insn0 (fun i0 => sallyportref18_Clean0 (fun i0 => a0_X i0) a0_PC a0_Level a0_V (fun i0 => a0_C i0) a0_Done i0)
                      (sallyportref18_Clean1 (fun i0 => a0_X i0) a0_PC a0_Level a0_V (fun i0 => a0_C i0) a0_Done) 0 true
                      (fun i0 => sallyportref18_Clean4 (fun i0 => a0_X i0) a0_PC a0_Level a0_V (fun i0 => a0_C i0) a0_Done i0)
                      (sallyportref18_Clean5 (fun i0 => a0_X i0) a0_PC a0_Level a0_V (fun i0 => a0_C i0) a0_Done) a3_Op a3_Rd a3_Rs1 a3_Rs2 a3_Imm a3_CSR)
                    22 then
                true
              else
                iEq
                  (legal_Insn0 (fun i0 => sallyportref18_Clean0 (fun i0 => a0_X i0) a0_PC a0_Level a0_V (fun i0 => a0_C i0) a0_Done i0)
                    (sallyportref18_Clean1 (fun i0 => a0_X i0) a0_PC a0_Level a0_V (fun i0 => a0_C i0) a0_Done) 0 true
                    (fun i0 => sallyportref18_Clean4 (fun i0 => a0_X i0) a0_PC a0_Level a0_V (fun i0 => a0_C i0) a0_Done i0)
                    (sallyportref18_Clean5 (fun i0 => a0_X i0) a0_PC a0_Level a0_V (fun i0 => a0_C i0) a0_Done) a3_Op a3_Rd a3_Rs1 a3_Rs2 a3_Imm a3_CSR)
                  2
            else false
          else
            bif
                legal_Insn1 (fun i0 => sallyportref18_Clean0 (fun i0 => a0_X i0) a0_PC a0_Level a0_V (fun i0 => a0_C i0) a0_Done i0)
                    (sallyportref18_Clean1 (fun i0 => a0_X i0) a0_PC a0_Level a0_V (fun i0 => a0_C i0) a0_Done) 0 true
                    (fun i0 => sallyportref18_Clean4 (fun i0 => a0_X i0) a0_PC a0_Level a0_V (fun i0 => a0_C i0) a0_Done i0)
                    (sallyportref18_Clean5 (fun i0 => a0_X i0) a0_PC a0_Level a0_V (fun i0 => a0_C i0) a0_Done) a3_Op a3_Rd a3_Rs1 a3_Rs2 a3_Imm a3_CSR ==
                  iEq
                    (legal_Insn0 (fun i0 => sallyportref18_Clean0 (fun i0 => a0_X i0) a0_PC a0_Level a0_V (fun i0 => a0_C i0) a0_Done i0)
                      (sallyportref18_Clean1 (fun i0 => a0_X i0) a0_PC a0_Level a0_V (fun i0 => a0_C i0) a0_Done) 0 true
                      (fun i0 => sallyportref18_Clean4 (fun i0 => a0_X i0) a0_PC a0_Level a0_V (fun i0 => a0_C i0) a0_Done i0)
                      (sallyportref18_Clean5 (fun i0 => a0_X i0) a0_PC a0_Level a0_V (fun i0 => a0_C i0) a0_Done) a3_Op a3_Rd a3_Rs1 a3_Rs2 a3_Imm a3_CSR)
                    0 then
              bif
                  bif
                      legal_Insn1 (fun i0 => sallyportref18_Clean0 (fun i0 => a0_X i0) a0_PC a0_Level a0_V (fun i0 => a0_C i0) a0_Done i0)
                        (sallyportref18_Clean1 (fun i0 => a0_X i0) a0_PC a0_Level a0_V (fun i0 => a0_C i0) a0_Done) 0 true
                        (fun i0 => sallyportref18_Clean4 (fun i0 => a0_X i0) a0_PC a0_Level a0_V (fun i0 => a0_C i0) a0_Done i0)
                        (sallyportref18_Clean5 (fun i0 => a0_X i0) a0_PC a0_Level a0_V (fun i0 => a0_C i0) a0_Done) a3_Op a3_Rd a3_Rs1 a3_Rs2 a3_Imm a3_CSR then
                    true
                  else
                    iEq
                      (legal_Insn0 (fun i0 => sallyportref18_Clean0 (fun i0 => a0_X i0) a0_PC a0_Level a0_V (fun i0 => a0_C i0) a0_Done i0)
                        (sallyportref18_Clean1 (fun i0 => a0_X i0) a0_PC a0_Level a0_V (fun i0 => a0_C i0) a0_Done) 0 true
                        (fun i0 => sallyportref18_Clean4 (fun i0 => a0_X i0) a0_PC a0_Level a0_V (fun i0 => a0_C i0) a0_Done i0)
                        (sallyportref18_Clean5 (fun i0 => a0_X i0) a0_PC a0_Level a0_V (fun i0 => a0_C i0) a0_Done) a3_Op a3_Rd a3_Rs1 a3_Rs2 a3_Imm a3_CSR)
                      22 then
                true
              else
                iEq
                  (legal_Insn0 (fun i0 => sallyportref18_Clean0 (fun i0 => a0_X i0) a0_PC a0_Level a0_V (fun i0 => a0_C i0) a0_Done i0)
                    (sallyportref18_Clean1 (fun i0 => a0_X i0) a0_PC a0_Level a0_V (fun i0 => a0_C i0) a0_Done) 0 true
                    (fun i0 => sallyportref18_Clean4 (fun i0 => a0_X i0) a0_PC a0_Level a0_V (fun i0 => a0_C i0) a0_Done i0)
                    (sallyportref18_Clean5 (fun i0 => a0_X i0) a0_PC a0_Level a0_V (fun i0 => a0_C i0) a0_Done) a3_Op a3_Rd a3_Rs1 a3_Rs2 a3_Imm a3_CSR)
                  2
            else false
      else
        bif
            bif a2 then
              bif
                  legal_Csr1 (fun i0 => sallyportref18_Clean0 (fun i0 => a0_X i0) a0_PC a0_Level a0_V (fun i0 => a0_C i0) a0_Done i0)
                    (sallyportref18_Clean1 (fun i0 => a0_X i0) a0_PC a0_Level a0_V (fun i0 => a0_C i0) a0_Done) 0 true
                    (fun i0 => sallyportref18_Clean4 (fun i0 => a0_X i0) a0_PC a0_Level a0_V (fun i0 => a0_C i0) a0_Done i0)
                    (sallyportref18_Clean5 (fun i0 => a0_X i0) a0_PC a0_Level a0_V (fun i0 => a0_C i0) a0_Done) (sallyportref8_Number0 (iRem (iConv IntKind.i64 a1) 29)) false then
                true
              else
                iNe
                  (legal_Csr0 (fun i0 => sallyportref18_Clean0 (fun i0 => a0_X i0) a0_PC a0_Level a0_V (fun i0 => a0_C i0) a0_Done i0)
                    (sallyportref18_Clean1 (fun i0 => a0_X i0) a0_PC a0_Level a0_V (fun i0 => a0_C i0) a0_Done) 0 true
                    (fun i0 => sallyportref18_Clean4 (fun i0 => a0_X i0) a0_PC a0_Level a0_V (fun i0 => a0_C i0) a0_Done i0)
                    (sallyportref18_Clean5 (fun i0 => a0_X i0) a0_PC a0_Level a0_V (fun i0 => a0_C i0) a0_Done) (sallyportref8_Number0 (iRem (iConv IntKind.i64 a1) 29)) false)
                  22
            else false then
          false
        else
          bif bif bif iLe 64 a3_Op then iLe a3_Op 69 else false then iNe a3_Op 63 else false then
            bif
                !legal_Insn1 (fun i0 => sallyportref18_Clean0 (fun i0 => a0_X i0) a0_PC a0_Level a0_V (fun i0 => a0_C i0) a0_Done i0)
                    (sallyportref18_Clean1 (fun i0 => a0_X i0) a0_PC a0_Level a0_V (fun i0 => a0_C i0) a0_Done) 0 true
                    (fun i0 => sallyportref18_Clean4 (fun i0 => a0_X i0) a0_PC a0_Level a0_V (fun i0 => a0_C i0) a0_Done i0)
                    (sallyportref18_Clean5 (fun i0 => a0_X i0) a0_PC a0_Level a0_V (fun i0 => a0_C i0) a0_Done) a3_Op a3_Rd a3_Rs1 a3_Rs2 a3_Imm a3_CSR then
              bif
                  iEq
                    (legal_Insn0 (fun i0 => sallyportref18_Clean0 (fun i0 => a0_X i0) a0_PC a0_Level a0_V (fun i0 => a0_C i0) a0_Done i0)
                      (sallyportref18_Clean1 (fun i0 => a0_X i0) a0_PC a0_Level a0_V (fun i0 => a0_C i0) a0_Done) 0 true
                      (fun i0 => sallyportref18_Clean4 (fun i0 => a0_X i0) a0_PC a0_Level a0_V (fun i0 => a0_C i0) a0_Done i0)
                      (sallyportref18_Clean5 (fun i0 => a0_X i0) a0_PC a0_Level a0_V (fun i0 => a0_C i0) a0_Done) a3_Op a3_Rd a3_Rs1 a3_Rs2 a3_Imm a3_CSR)
                    22 then
                true
              else
                iEq
                  (legal_Insn0 (fun i0 => sallyportref18_Clean0 (fun i0 => a0_X i0) a0_PC a0_Level a0_V (fun i0 => a0_C i0) a0_Done i0)
                    (sallyportref18_Clean1 (fun i0 => a0_X i0) a0_PC a0_Level a0_V (fun i0 => a0_C i0) a0_Done) 0 true
                    (fun i0 => sallyportref18_Clean4 (fun i0 => a0_X i0) a0_PC a0_Level a0_V (fun i0 => a0_C i0) a0_Done i0)
                    (sallyportref18_Clean5 (fun i0 => a0_X i0) a0_PC a0_Level a0_V (fun i0 => a0_C i0) a0_Done) a3_Op a3_Rd a3_Rs1 a3_Rs2 a3_Imm a3_CSR)
                  2
            else false
          else
            bif
                legal_Insn1 (fun i0 => sallyportref18_Clean0 (fun i0 => a0_X i0) a0_PC a0_Level a0_V (fun i0 => a0_C i0) a0_Done i0)
                    (sallyportref18_Clean1 (fun i0 => a0_X i0) a0_PC a0_Level a0_V (fun i0 => a0_C i0) a0_Done) 0 true
                    (fun i0 => sallyportref18_Clean4 (fun i0 => a0_X i0) a0_PC a0_Level a0_V (fun i0 => a0_C i0) a0_Done i0)
                    (sallyportref18_Clean5 (fun i0 => a0_X i0) a0_PC a0_Level a0_V (fun i0 => a0_C i0) a0_Done) a3_Op a3_Rd a3_Rs1 a3_Rs2 a3_Imm a3_CSR ==
                  iEq
                    (legal_Insn0 (fun i0 => sallyportref18_Clean0 (fun i0 => a0_X i0) a0_PC a0_Level a0_V (fun i0 => a0_C i0) a0_Done i0)
                      (sallyportref18_Clean1 (fun i0 => a0_X i0) a0_PC a0_Level a0_V (fun i0 => a0_C i0) a0_Done) 0 true
                      (fun i0 => sallyportref18_Clean4 (fun i0 => a0_X i0) a0_PC a0_Level a0_V (fun i0 => a0_C i0) a0_Done i0)
                      (sallyportref18_Clean5 (fun i0 => a0_X i0) a0_PC a0_Level a0_V (fun i0 => a0_C i0) a0_Done) a3_Op a3_Rd a3_Rs1 a3_Rs2 a3_Imm a3_CSR)
                    0 then
              bif
                  bif
                      legal_Insn1 (fun i0 => sallyportref18_Clean0 (fun i0 => a0_X i0) a0_PC a0_Level a0_V (fun i0 => a0_C i0) a0_Done i0)
                        (sallyportref18_Clean1 (fun i0 => a0_X i0) a0_PC a0_Level a0_V (fun i0 => a0_C i0) a0_Done) 0 true
                        (fun i0 => sallyportref18_Clean4 (fun i0 => a0_X i0) a0_PC a0_Level a0_V (fun i0 => a0_C i0) a0_Done i0)
                        (sallyportref18_Clean5 (fun i0 => a0_X i0) a0_PC a0_Level a0_V (fun i0 => a0_C i0) a0_Done) a3_Op a3_Rd a3_Rs1 a3_Rs2 a3_Imm a3_CSR then
                    true
                  else
                    iEq
                      (legal_Insn0 (fun i0 => sallyportref18_Clean0 (fun i0 => a0_X i0) a0_PC a0_Level a0_V (fun i0 => a0_C i0) a0_Done i0)
                        (sallyportref18_Clean1 (fun i0 => a0_X i0) a0_PC a0_Level a0_V (fun i0 => a0_C i0) a0_Done) 0 true
                        (fun i0 => sallyportref18_Clean4 (fun i0 => a0_X i0) a0_PC a0_Level a0_V (fun i0 => a0_C i0) a0_Done i0)
                        (sallyportref18_Clean5 (fun i0 => a0_X i0) a0_PC a0_Level a0_V (fun i0 => a0_C i0) a0_Done) a3_Op a3_Rd a3_Rs1 a3_Rs2 a3_Imm a3_CSR)
                      22 then
                true
              else
                iEq
                  (legal_Insn0 (fun i0 => sallyportref18_Clean0 (fun i0 => a0_X i0) a0_PC a0_Level a0_V (fun i0 => a0_C i0) a0_Done i0)
                    (sallyportref18_Clean1 (fun i0 => a0_X i0) a0_PC a0_Level a0_V (fun i0 => a0_C i0) a0_Done) 0 true
                    (fun i0 => sallyportref18_Clean4 (fun i0 => a0_X i0) a0_PC a0_Level a0_V (fun i0 => a0_C i0) a0_Done i0)
                    (sallyportref18_Clean5 (fun i0 => a0_X i0) a0_PC a0_Level a0_V (fun i0 => a0_C i0) a0_Done) a3_Op a3_Rd a3_Rs1 a3_Rs2 a3_Imm a3_CSR)
                  2
            else false
  else
    bif iEq (iAnd IntKind.i64 (iShr IntKind.i64 (sallyportref8_Number0 (iRem (iConv IntKind.i64 a1) 29)) 8) 3) 3 then
      bif
          bif
              legal_Csr1 (fun i0 => sallyportref18_Clean0 (fun i0 => a0_X i0) a0_PC a0_Level a0_V (fun i0 => a0_C i0) a0_Done i0)
                (sallyportref18_Clean1 (fun i0 => a0_X i0) a0_PC a0_Level a0_V (fun i0 => a0_C i0) a0_Done) 1 true
                (fun i0 => sallyportref18_Clean4 (fun i0 => a0_X i0) a0_PC a0_Level a0_V (fun i0 => a0_C i0) a0_Done i0)
                (sallyportref18_Clean5 (fun i0 => a0_X i0) a0_PC a0_Level a0_V (fun i0 => a0_C i0) a0_Done) (sallyportref8_Number0 (iRem (iConv IntKind.i64 a1) 29)) false then
            true
          else
            iNe
              (legal_Csr0 (fun i0 => sallyportref18_Clean0 (fun i0 => a0_X i0) a0_PC a0_Level a0_V (fun i0 => a0_C i0) a0_Done i0)
                (sallyportref18_Clean1 (fun i0 => a0_X i0) a0_PC a0_Level a0_V (fun i0 => a0_C i0) a0_Done) 1 true
                (fun i0 => sallyportref18_Clean4 (fun i0 => a0_X i0) a0_PC a0_Level a0_V (fun i0 => a0_C i0) a0_Done i0)
                (sallyportref18_Clean5 (fun i0 => a0_X i0) a0_PC a0_Level a0_V (fun i0 => a0_C i0) a0_Done) (sallyportref8_Number0 (iRem (iConv IntKind.i64 a1) 29)) false)
              2 then
        false
      else
        bif bif bif iLe 64 a3_Op then iLe a3_Op 69 else false then iNe a3_Op 63 else false then
          bif
              !legal_Insn1 (fun i0 => sallyportref18_Clean0 (fun i0 => a0_X i0) a0_PC a0_Level a0_V (fun i0 => a0_C i0) a0_Done i0)
                  (sallyportref18_Clean1 (fun i0 => a0_X i0) a0_PC a0_Level a0_V (fun i0 => a0_C i0) a0_Done) 1 true
                  (fun i0 => sallyportref18_Clean4 (fun i0 => a0_X i0) a0_PC a0_Level a0_V (fun i0 => a0_C i0) a0_Done i0)
                  (sallyportref18_Clean5 (fun i0 => a0_X i0) a0_PC a0_Level a0_V (fun i0 => a0_C i0) a0_Done) a3_Op a3_Rd a3_Rs1 a3_Rs2 a3_Imm a3_CSR then
            bif
                iEq
                  (legal_Insn0 (fun i0 => sallyportref18_Clean0 (fun i0 => a0_X i0) a0_PC a0_Level a0_V (fun i0 => a0_C i0) a0_Done i0)
                    (sallyportref18_Clean1 (fun i0 => a0_X i0) a0_PC a0_Level a0_V (fun i0 => a0_C i0) a0_Done) 1 true
                    (fun i0 => sallyportref18_Clean4 (fun i0 => a0_X i0) a0_PC a0_Level a0_V (fun i0 => a0_C i0) a0_Done i0)
                    (sallyportref18_Clean5 (fun i0 => a0_X i0) a0_PC a0_Level a0_V (fun i0 => a0_C i0) a0_Done) a3_Op a3_Rd a3_Rs1 a3_Rs2 a3_Imm a3_CSR)
                  22 then
              true
            else
              iEq
                (legal_Insn0 (fun i0 => sallyportref18_Clean0 (fun i0 => a0_X i0) a0_PC a0_Level a0_V (fun i0 => a0_C i0) a0_Done i0)
                  (sallyportref18_Clean1 (fun i0 => a0_X i0) a0_PC a0_Level a0_V (fun i0 => a0_C i0) a0_Done) 1 true
                  (fun i0 => sallyportref18_Clean4 (fun i0 => a0_X i0) a0_PC a0_Level a0_V (fun i0 => a0_C i0) a0_Done i0)
                  (sallyportref18_Clean5 (fun i0 => a0_X i0) a0_PC a0_Level a0_V (fun i0 => a0_C i0) a0_Done) a3_Op a3_Rd a3_Rs1 a3_Rs2 a3_Imm a3_CSR)
                2
          else false
        else
          bif
              legal_Insn1 (fun i0 => sallyportref18_Clean0 (fun i0 => a0_X i0) a0_PC a0_Level a0_V (fun i0 => a0_C i0) a0_Done i0)
                  (sallyportref18_Clean1 (fun i0 => a0_X i0) a0_PC a0_Level a0_V (fun i0 => a0_C i0) a0_Done) 1 true
                  (fun i0 => sallyportref18_Clean4 (fun i0 => a0_X i0) a0_PC a0_Level a0_V (fun i0 => a0_C i0) a0_Done i0)
                  (sallyportref18_Clean5 (fun i0 => a0_X i0) a0_PC a0_Level a0_V (fun i0 => a0_C i0) a0_Done) a3_Op a3_Rd a3_Rs1 a3_Rs2 a3_Imm a3_CSR ==
                iEq
                  (legal_Insn0 (fun i0 => sallyportref18_Clean0 (fun i0 => a0_X i0) a0_PC a0_Level a0_V (fun i0 => a0_C i0) a0_Done i0)
                    (sallyportref18_Clean1 (fun i0 => a0_X i0) a0_PC a0_Level a0_V (fun i0 => a0_C i0) a0_Done) 1 true
                    (fun i0 => sallyportref18_Clean4 (fun i0 => a0_X i0) a0_PC a0_Level a0_V (fun i0 => a0_C i0) a0_Done i0)
                    (sallyportref18_Clean5 (fun i0 => a0_X i0) a0_PC a0_Level a0_V (fun i0 => a0_C i0) a0_Done) a3_Op a3_Rd a3_Rs1 a3_Rs2 a3_Imm a3_CSR)
                  0 then
            bif
                bif
                    legal_Insn1 (fun i0 => sallyportref18_Clean0 (fun i0 => a0_X i0) a0_PC a0_Level a0_V (fun i0 => a0_C i0) a0_Done i0)
                      (sallyportref18_Clean1 (fun i0 => a0_X i0) a0_PC a0_Level a0_V (fun i0 => a0_C i0) a0_Done) 1 true
                      (fun i0 => sallyportref18_Clean4 (fun i0 => a0_X i0) a0_PC a0_Level a0_V (fun i0 => a0_C i0) a0_Done i0)
                      (sallyportref18_Clean5 (fun i0 => a0_X i0) a0_PC a0_Level a0_V (fun i0 => a0_C i0) a0_Done) a3_Op a3_Rd a3_Rs1 a3_Rs2 a3_Imm a3_CSR then
                  true
                else
                  iEq
                    (legal_Insn0 (fun i0 => sallyportref18_Clean0 (fun i0 => a0_X i0) a0_PC a0_Level a0_V (fun i0 => a0_C i0) a0_Done i0)
                      (sallyportref18_Clean1 (fun i0 => a0_X i0) a0_PC a0_Level a0_V (fun i0 => a0_C i0) a0_Done) 1 true
                      (fun i0 => sallyportref18_Clean4 (fun i0 => a0_X i0) a0_PC a0_Level a0_V (fun i0 => a0_C i0) a0_Done i0)
                      (sallyportref18_Clean5 (fun i0 => a0_X i0) a0_PC a0_Level a0_V (fun i0 => a0_C i0) a0_Done) a3_Op a3_Rd a3_Rs1 a3_Rs2 a3_Imm a3_CSR)
                    22 then
              true
            else
              iEq
                (legal_Insn0 (fun i0 => sallyportref18_Clean0 (fun i0 => a0_X i0) a0_PC a0_Level a0_V (fun i0 => a0_C i0) a0_Done i0)
                  (sallyportref18_Clean1 (fun i0 => a0_X i0) a0_PC a0_Level a0_V (fun i0 => a0_C i0) a0_Done) 1 true
                  (fun i0 => sallyportref18_Clean4 (fun i0 => a0_X i0) a0_PC a0_Level a0_V (fun i0 => a0_C i0) a0_Done i0)
                  (sallyportref18_Clean5 (fun i0 => a0_X i0) a0_PC a0_Level a0_V (fun i0 => a0_C i0) a0_Done) a3_Op a3_Rd a3_Rs1 a3_Rs2 a3_Imm a3_CSR)
                2
          else false
    else
      bif iEq (iAnd IntKind.i64 (iShr IntKind.i64 (sallyportref8_Number0 (iRem (iConv IntKind.i64 a1) 29)) 8) 3) 2 then
        bif
            bif
                legal_Csr1 (fun i0 => sallyportref18_Clean0 (fun i0 => a0_X i0) a0_PC a0_Level a0_V (fun i0 => a0_C i0) a0_Done i0)
                  (sallyportref18_Clean1 (fun i0 => a0_X i0) a0_PC a0_Level a0_V (fun i0 => a0_C i0) a0_Done) 1 true
                  (fun i0 => sallyportref18_Clean4 (fun i0 => a0_X i0) a0_PC a0_Level a0_V (fun i0 => a0_C i0) a0_Done i0)
                  (sallyportref18_Clean5 (fun i0 => a0_X i0) a0_PC a0_Level a0_V (fun i0 => a0_C i0) a0_Done) (sallyportref8_Number0 (iRem (iConv IntKind.i64 a1) 29)) false then
              true
            else
              iNe
                (legal_Csr0 (fun i0 => sallyportref18_Clean0 (fun i0 => a0_X i0) a0_PC a0_Level a0_V (fun i0 => a0_C i0) a0_Done i0)
                  (sallyportref18_Clean1 (fun i0 => a0_X i0) a0_PC a0_Level a0_V (fun i0 => a0_C i0) a0_Done) 1 true
                  (fun i0 => sallyportref18_Clean4 (fun i0 => a0_X i0) a0_PC a0_Level a0_V (fun i0 => a0_C i0) a0_Done i0)
                  (sallyportref18_Clean5 (fun i0 => a0_X i0) a0_PC a0_Level a0_V (fun i0 => a0_C i0) a0_Done) (sallyportref8_Number0 (iRem (iConv IntKind.i64 a1) 29)) false)
                22 then
          false
        else
          bif bif bif iLe 64 a3_Op then iLe a3_Op 69 else false then iNe a3_Op 63 else false then
            bif
                !legal_Insn1 (fun i0 => sallyportref18_Clean0 (fun i0 => a0_X i0) a0_PC a0_Level a0_V (fun i0 => a0_C i0) a0_Done i0)
                    (sallyportref18_Clean1 (fun i0 => a0_X i0) a0_PC a0_Level a0_V (fun i0 => a0_C i0) a0_Done) 1 true
                    (fun i0 => sallyportref18_Clean4 (fun i0 => a0_X i0) a0_PC a0_Level a0_V (fun i0 => a0_C i0) a0_Done i0)
                    (sallyportref18_Clean5 (fun i0 => a0_X i0) a0_PC a0_Level a0_V (fun i0 => a0_C i0) a0_Done) a3_Op a3_Rd a3_Rs1 a3_Rs2 a3_Imm a3_CSR then
              bif
                  iEq
                    (legal_Insn0 (fun i0 => sallyportref18_Clean0 (fun i0 => a0_X i0) a0_PC a0_Level a0_V (fun i0 => a0_C i0) a0_Done i0)
                      (sallyportref18_Clean1 (fun i0 => a0_X i0) a0_PC a0_Level a0_V (fun i0 => a0_C i0) a0_Done) 1 true
                      (fun i0 => sallyportref18_Clean4 (fun i0 => a0_X i0) a0_PC a0_Level a0_V (fun i0 => a0_C i0) a0_Done i0)
                      (sallyportref18_Clean5 (fun i0 => a0_X i0) a0_PC a0_Level a0_V (fun i0 => a0_C i0) a0_Done) a3_Op a3_Rd a3_Rs1 a3_Rs2 a3_Imm a3_CSR)
                    22 then
                true
              else
                iEq
                  (legal_Insn0 (fun i0 => sallyportref18_Clean0 (fun i0 => a0_X i0) a0_PC a0_Level a0_V (fun i0 => a0_C i0) a0_Done i0)
                    (sallyportref18_Clean1 (fun i0 => a0_X i0) a0_PC a0_Level a0_V (fun i0 => a0_C i0) a0_Done) 1 true
                    (fun i0 => sallyportref18_Clean4 (fun i0 => a0_X i0) a0_PC a0_Level a0_V (fun i0 => a0_C i0) a0_Done i0)
                    (sallyportref18_Clean5 (fun i0 => a0_X i0) a0_PC a0_Level a0_V (fun i0 => a0_C i0) a0_Done) a3_Op a3_Rd a3_Rs1 a3_Rs2 a3_Imm a3_CSR)
                  2
            else false
          else
            bif
                legal_Insn1 (fun i0 => sallyportref18_Clean0 (fun i0 => a0_X i0) a0_PC a0_Level a0_V (fun i0 => a0_C i0) a0_Done i0)
                    (sallyportref18_Clean1 (fun i0 => a0_X i0) a0_PC a0_Level a0_V (fun i0 => a0_C i0) a0_Done) 1 true
                    (fun i0 => sallyportref18_Clean4 (fun i0 => a0_X i0) a0_PC a0_Level a0_V (fun i0 => a0_C i0) a0_Done i0)
                    (sallyportref18_Clean5 (fun i0 => a0_X i0) a0_PC a0_Level a0_V (fun i0 => a0_C i0) a0_Done) a3_Op a3_Rd a3_Rs1 a3_Rs2 a3_Imm a3_CSR ==
                  iEq
                    (legal_Insn0 (fun i0 => sallyportref18_Clean0 (fun i0 => a0_X i0) a0_PC a0_Level a0_V (fun i0 => a0_C i0) a0_Done i0)
                      (sallyportref18_Clean1 (fun i0 => a0_X i0) a0_PC a0_Level a0_V (fun i0 => a0_C i0) a0_Done) 1 true
                      (fun i0 => sallyportref18_Clean4 (fun i0 => a0_X i0) a0_PC a0_Level a0_V (fun i0 => a0_C i0) a0_Done i0)
                      (sallyportref18_Clean5 (fun i0 => a0_X i0) a0_PC a0_Level a0_V (fun i0 => a0_C i0) a0_Done) a3_Op a3_Rd a3_Rs1 a3_Rs2 a3_Imm a3_CSR)
                    0 then
              bif
                  bif
                      legal_Insn1 (fun i0 => sallyportref18_Clean0 (fun i0 => a0_X i0) a0_PC a0_Level a0_V (fun i0 => a0_C i0) a0_Done i0)
                        (sallyportref18_Clean1 (fun i0 => a0_X i0) a0_PC a0_Level a0_V (fun i0 => a0_C i0) a0_Done) 1 true
                        (fun i0 => sallyportref18_Clean4 (fun i0 => a0_X i0) a0_PC a0_Level a0_V (fun i0 => a0_C i0) a0_Done i0)
                        (sallyportref18_Clean5 (fun i0 => a0_X i0) a0_PC a0_Level a0_V (fun i0 => a0_C i0) a0_Done) a3_Op a3_Rd a3_Rs1 a3_Rs2 a3_Imm a3_CSR then
                    true
                  else
                    iEq
                      (legal_Insn0 (fun i0 => sallyportref18_Clean0 (fun i0 => a0_X i0) a0_PC a0_Level a0_V (fun i0 => a0_C i0) a0_Done i0)
                        (sallyportref18_Clean1 (fun i0 => a0_X i0) a0_PC a0_Level a0_V (fun i0 => a0_C i0) a0_Done) 1 true
                        (fun i0 => sallyportref18_Clean4 (fun i0 => a0_X i0) a0_PC a0_Level a0_V (fun i0 => a0_C i0) a0_Done i0)
                        (sallyportref18_Clean5 (fun i0 => a0_X i0) a0_PC a0_Level a0_V (fun i0 => a0_C i0) a0_Done) a3_Op a3_Rd a3_Rs1 a3_Rs2 a3_Imm a3_CSR)
                      22 then
                true
              else
                iEq
                  (legal_Insn0 (fun i0 => sallyportref18_Clean0 (fun i0 => a0_X i0) a0_PC a0_Level a0_V (fun i0 => a0_C i0) a0_Done i0)
                    (sallyportref18_Clean1 (fun i0 => a0_X i0) a0_PC a0_Level a0_V (fun i0 => a0_C i0) a0_Done) 1 true
                    (fun i0 => sallyportref18_Clean4 (fun i0 => a0_X i0) a0_PC a0_Level a0_V (fun i0 => a0_C i0) a0_Done i0)
                    (sallyportref18_Clean5 (fun i0 => a0_X i0) a0_PC a0_Level a0_V (fun i0 => a0_C i0) a0_Done) a3_Op a3_Rd a3_Rs1 a3_Rs2 a3_Imm a3_CSR)
                  2
            else false
      else
        bif
            bif a2 then
              bif
                  legal_Csr1 (fun i0 => sallyportref18_Clean0 (fun i0 => a0_X i0) a0_PC a0_Level a0_V (fun i0 => a0_C i0) a0_Done i0)
                    (sallyportref18_Clean1 (fun i0 => a0_X i0) a0_PC a0_Level a0_V (fun i0 => a0_C i0) a0_Done) 1 true
                    (fun i0 => sallyportref18_Clean4 (fun i0 => a0_X i0) a0_PC a0_Level a0_V (fun i0 => a0_C i0) a0_Done i0)
                    (sallyportref18_Clean5 (fun i0 => a0_X i0) a0_PC a0_Level a0_V (fun i0 => a0_C i0) a0_Done) (sallyportref8_Number0 (iRem (iConv IntKind.i64 a1) 29)) false then
                true
              else
                iNe
                  (legal_Csr0 (fun i0 => sallyportref18_Clean0 (fun i0 => a0_X i0) a0_PC a0_Level a0_V (fun i0 => a0_C i0) a0_Done i0)
                    (sallyportref18_Clean1 (fun i0 => a0_X i0) a0_PC a0_Level a0_V (fun i0 => a0_C i0) a0_Done) 1 true
                    (fun i0 => sallyportref18_Clean4 (fun i0 => a0_X i0) a0_PC a0_Level a0_V (fun i0 => a0_C i0) a0_Done i0)
                    (sallyportref18_Clean5 (fun i0 => a0_X i0) a0_PC a0_Level a0_V (fun i0 => a0_C i0) a0_Done) (sallyportref8_Number0 (iRem (iConv IntKind.i64 a1) 29)) false)
                  22
            else false then
          false
        else
          bif bif bif iLe 64 a3_Op then iLe a3_Op 69 else false then iNe a3_Op 63 else false then
            bif
                !legal_Insn1 (fun i0 => sallyportref18_Clean0 (fun i0 => a0_X i0) a0_PC a0_Level a0_V (fun i0 => a0_C i0) a0_Done i0)
                    (sallyportref18_Clean1 (fun i0 => a0_X i0) a0_PC a0_Level a0_V (fun i0 => a0_C i0) a0_Done) 1 true
                    (fun i0 => sallyportref18_Clean4 (fun i0 => a0_X i0) a0_PC a0_Level a0_V (fun i0 => a0_C i0) a0_Done i0)
                    (sallyportref18_Clean5 (fun i0 => a0_X i0) a0_PC a0_Level a0_V (fun i0 => a0_C i0) a0_Done) a3_Op a3_Rd a3_Rs1 a3_Rs2 a3_Imm a3_CSR then
              bif
                  iEq
                    (legal_Insn0 (fun i0 => sallyportref18_Clean0 (fun i0 => a0_X i0) a0_PC a0_Level a0_V (fun i0 => a0_C i0) a0_Done i0)
                      (sallyportref18_Clean1 (fun i0 => a0_X i0) a0_PC a0_Level a0_V (fun i0 => a0_C i0) a0_Done) 1 true
                      (fun i0 => sallyportref18_Clean4 (fun i0 => a0_X i0) a0_PC a0_Level a0_V (fun i0 => a0_C i0) a0_Done i0)
                      (sallyportref18_Clean5 (fun i0 => a0_X i0) a0_PC a0_Level a0_V (fun i0 => a0_C i0) a0_Done) a3_Op a3_Rd a3_Rs1 a3_Rs2 a3_Imm a3_CSR)
                    22 then
                true
              else
                iEq
                  (legal_Insn0 (fun i0 => sallyportref18_Clean0 (fun i0 => a0_X i0) a0_PC a0_Level a0_V (fun i0 => a0_C i0) a0_Done i0)
                    (sallyportref18_Clean1 (fun i0 => a0_X i0) a0_PC a0_Level a0_V (fun i0 => a0_C i0) a0_Done) 1 true
                    (fun i0 => sallyportref18_Clean4 (fun i0 => a0_X i0) a0_PC a0_Level a0_V (fun i0 => a0_C i0) a0_Done i0)
                    (sallyportref18_Clean5 (fun i0 => a0_X i0) a0_PC a0_Level a0_V (fun i0 => a0_C i0) a0_Done) a3_Op a3_Rd a3_Rs1 a3_Rs2 a3_Imm a3_CSR)
                  2
            else false
          else
            bif
                legal_Insn1 (fun i0 => sallyportref18_Clean0 (fun i0 => a0_X i0) a0_PC a0_Level a0_V (fun i0 => a0_C i0) a0_Done i0)
                    (sallyportref18_Clean1 (fun i0 => a0_X i0) a0_PC a0_Level a0_V (fun i0 => a0_C i0) a0_Done) 1 true
                    (fun i0 => sallyportref18_Clean4 (fun i0 => a0_X i0) a0_PC a0_Level a0_V (fun i0 => a0_C i0) a0_Done i0)
                    (sallyportref18_Clean5 (fun i0 => a0_X i0) a0_PC a0_Level a0_V (fun i0 => a0_C i0) a0_Done) a3_Op a3_Rd a3_Rs1 a3_Rs2 a3_Imm a3_CSR ==
                  iEq
                    (legal_Insn0 (fun i0 => sallyportref18_Clean0 (fun i0 => a0_X i0) a0_PC a0_Level a0_V (fun i0 => a0_C i0) a0_Done i0)
                      (sallyportref18_Clean1 (fun i0 => a0_X i0) a0_PC a0_Level a0_V (fun i0 => a0_C i0) a0_Done) 1 true
                      (fun i0 => sallyportref18_Clean4 (fun i0 => a0_X i0) a0_PC a0_Level a0_V (fun i0 => a0_C i0) a0_Done i0)
                      (sallyportref18_Clean5 (fun i0 => a0_X i0) a0_PC a0_Level a0_V (fun i0 => a0_C i0) a0_Done) a3_Op a3_Rd a3_Rs1 a3_Rs2 a3_Imm a3_CSR)
                    0 then
              bif
                  bif
                      legal_Insn1 (fun i0 => sallyportref18_Clean0 (fun i0 => a0_X i0) a0_PC a0_Level a0_V (fun i0 => a0_C i0) a0_Done i0)
                        (sallyportref18_Clean1 (fun i0 => a0_X i0) a0_PC a0_Level a0_V (fun i0 => a0_C i0) a0_Done) 1 true
                        (fun i0 => sallyportref18_Clean4 (fun i0 => a0_X i0) a0_PC a0_Level a0_V (fun i0 => a0_C i0) a0_Done i0)
                        (sallyportref18_Clean5 (fun i0 => a0_X i0) a0_PC a0_Level a0_V (fun i0 => a0_C i0) a0_Done) a3_Op a3_Rd a3_Rs1 a3_Rs2 a3_Imm a3_CSR then
                    true
                  else
                    iEq
                      (legal_Insn0 (fun i0 => sallyportref18_Clean0 (fun i0 => a0_X i0) a0_PC a0_Level a0_V (fun i0 => a0_C i0) a0_Done i0)
                        (sallyportref18_Clean1 (fun i0 => a0_X i0) a0_PC a0_Level a0_V (fun i0 => a0_C i0) a0_Done) 1 true
                        (fun i0 => sallyportref18_Clean4 (fun i0 => a0_X i0) a0_PC a0_Level a0_V (fun i0 => a0_C i0) a0_Done i0)
                        (sallyportref18_Clean5 (fun i0 => a0_X i0) a0_PC a0_Level a0_V (fun i0 => a0_C i0) a0_Done) a3_Op a3_Rd a3_Rs1 a3_Rs2 a3_Imm a3_CSR)
                      22 then
                true
              else
                iEq
                  (legal_Insn0 (fun i0 => sallyportref18_Clean0 (fun i0 => a0_X i0) a0_PC a0_Level a0_V (fun i0 => a0_C i0) a0_Done i0)
                    (sallyportref18_Clean1 (fun i0 => a0_X i0) a0_PC a0_Level a0_V (fun i0 => a0_C i0) a0_Done) 1 true
                    (fun i0 => sallyportref18_Clean4 (fun i0 => a0_X i0) a0_PC a0_Level a0_V (fun i0 => a0_C i0) a0_Done i0)
                    (sallyportref18_Clean5 (fun i0 => a0_X i0) a0_PC a0_Level a0_V (fun i0 => a0_C i0) a0_Done) a3_Op a3_Rd a3_Rs1 a3_Rs2 a3_Imm a3_CSR)
                  2
            else false
def sallyportlaw9_LegalGuestG (a0_X : Nat → Int) (a0_PC : Int) (a0_Level : Int) (a0_V : Bool) (a0_C : Nat → Int) (a0_Done : Int) (a1 : Int) (a2 : Bool) (a3_Op : Int) (a3_Rd : Int) (a3_Rs1 : Int) (a3_Rs2 : Int) (a3_Imm : Int) (a3_CSR : Int) : Bool :=
  bif a2 then
    legal_CsrG (fun i0 => sallyportref18_Clean0 (fun i0 => a0_X i0) a0_PC a0_Level a0_V (fun i0 => a0_C i0) a0_Done i0)
        (sallyportref18_Clean1 (fun i0 => a0_X i0) a0_PC a0_Level a0_V (fun i0 => a0_C i0) a0_Done) 0 true
        (fun i0 => sallyportref18_Clean4 (fun i0 => a0_X i0) a0_PC a0_Level a0_V (fun i0 => a0_C i0) a0_Done i0)
        (sallyportref18_Clean5 (fun i0 => a0_X i0) a0_PC a0_Level a0_V (fun i0 => a0_C i0) a0_Done) (sallyportref8_Number0 (iRem (iConv IntKind.i64 a1) 29)) false &&
      bif iEq (iAnd IntKind.i64 (iShr IntKind.i64 (sallyportref8_Number0 (iRem (iConv IntKind.i64 a1) 29)) 8) 3) 3 then
        bif
            bif
                legal_Csr1 (fun i0 => sallyportref18_Clean0 (fun i0 => a0_X i0) a0_PC a0_Level a0_V (fun i0 => a0_C i0) a0_Done i0)
                  (sallyportref18_Clean1 (fun i0 => a0_X i0) a0_PC a0_Level a0_V (fun i0 => a0_C i0) a0_Done) 0 true
                  (fun i0 => sallyportref18_Clean4 (fun i0 => a0_X i0) a0_PC a0_Level a0_V (fun i0 => a0_C i0) a0_Done i0)
                  (sallyportref18_Clean5 (fun i0 => a0_X i0) a0_PC a0_Level a0_V (fun i0 => a0_C i0) a0_Done) (sallyportref8_Number0 (iRem (iConv IntKind.i64 a1) 29)) false then
              true
            else
              iNe
                (legal_Csr0 (fun i0 => sallyportref18_Clean0 (fun i0 => a0_X i0) a0_PC a0_Level a0_V (fun i0 => a0_C i0) a0_Done i0)
                  (sallyportref18_Clean1 (fun i0 => a0_X i0) a0_PC a0_Level a0_V (fun i0 => a0_C i0) a0_Done) 0 true
                  (fun i0 => sallyportref18_Clean4 (fun i0 => a0_X i0) a0_PC a0_Level a0_V (fun i0 => a0_C i0) a0_Done i0)
                  (sallyportref18_Clean5 (fun i0 => a0_X i0) a0_PC a0_Level a0_V (fun i0 => a0_C i0) a0_Done) (sallyportref8_Number0 (iRem (iConv IntKind.i64 a1) 29)) false)
                2 then
          true
        else
          legal_InsnG (fun i0 => sallyportref18_Clean0 (fun i0 => a0_X i0) a0_PC a0_Level a0_V (fun i0 => a0_C i0) a0_Done i0)
              (sallyportref18_Clean1 (fun i0 => a0_X i0) a0_PC a0_Level a0_V (fun i0 => a0_C i0) a0_Done) 0 true
              (fun i0 => sallyportref18_Clean4 (fun i0 => a0_X i0) a0_PC a0_Level a0_V (fun i0 => a0_C i0) a0_Done i0)
              (sallyportref18_Clean5 (fun i0 => a0_X i0) a0_PC a0_Level a0_V (fun i0 => a0_C i0) a0_Done) a3_Op a3_Rd a3_Rs1 a3_Rs2 a3_Imm a3_CSR &&
            bif bif bif iLe 64 a3_Op then iLe a3_Op 69 else false then iNe a3_Op 63 else false then true else true
      else
        bif iEq (iAnd IntKind.i64 (iShr IntKind.i64 (sallyportref8_Number0 (iRem (iConv IntKind.i64 a1) 29)) 8) 3) 2 then
          bif
              bif
                  legal_Csr1 (fun i0 => sallyportref18_Clean0 (fun i0 => a0_X i0) a0_PC a0_Level a0_V (fun i0 => a0_C i0) a0_Done i0)
                    (sallyportref18_Clean1 (fun i0 => a0_X i0) a0_PC a0_Level a0_V (fun i0 => a0_C i0) a0_Done) 0 true
                    (fun i0 => sallyportref18_Clean4 (fun i0 => a0_X i0) a0_PC a0_Level a0_V (fun i0 => a0_C i0) a0_Done i0)
                    (sallyportref18_Clean5 (fun i0 => a0_X i0) a0_PC a0_Level a0_V (fun i0 => a0_C i0) a0_Done) (sallyportref8_Number0 (iRem (iConv IntKind.i64 a1) 29)) false then
                true
              else
                iNe
                  (legal_Csr0 (fun i0 => sallyportref18_Clean0 (fun i0 => a0_X i0) a0_PC a0_Level a0_V (fun i0 => a0_C i0) a0_Done i0)
                    (sallyportref18_Clean1 (fun i0 => a0_X i0) a0_PC a0_Level a0_V (fun i0 => a0_C i0) a0_Done) 0 true
                    (fun i0 => sallyportref18_Clean4 (fun i0 => a0_X i0) a0_PC a0_Level a0_V (fun i0 => a0_C i0) a0_Done i0)
                    (sallyportref18_Clean5 (fun i0 => a0_X i0) a0_PC a0_Level a0_V (fun i0 => a0_C i0) a0_Done) (sallyportref8_Number0 (iRem (iConv IntKind.i64 a1) 29)) false)
                  22 then
            true
          else
            legal_InsnG (fun i0 => sallyportref18_Clean0 (fun i0 => a0_X i0) a0_PC a0_Level a0_V (fun i0 => a0_C i0) a0_Done i0)
                (sallyportref18_Clean1 (fun i0 => a0_X i0) a0_PC a0_Level a0_V (fun i0 => a0_C i0) a0_Done) 0 true
                (fun i0 => sallyportref18_Clean4 (fun i0 => a0_X i0) a0_PC a0_Level a0_V (fun i0 => a0_C i0) a0_Done i0)
                (sallyportref18_Clean5 (fun i0 => a0_X i0) a0_PC a0_Level a0_V (fun i0 => a0_C i0) a0_Done) a3_Op a3_Rd a3_Rs1 a3_Rs2 a3_Imm a3_CSR &&
              bif bif bif iLe 64 a3_Op then iLe a3_Op 69 else false then iNe a3_Op 63 else false then true else true
        else
          bif
              bif a2 then
                bif
                    legal_Csr1 (fun i0 => sallyportref18_Clean0 (fun i0 => a0_X i0) a0_PC a0_Level a0_V (fun i0 => a0_C i0) a0_Done i0)
                      (sallyportref18_Clean1 (fun i0 => a0_X i0) a0_PC a0_Level a0_V (fun i0 => a0_C i0) a0_Done) 0 true
                      (fun i0 => sallyportref18_Clean4 (fun i0 => a0_X i0) a0_PC a0_Level a0_V (fun i0 => a0_C i0) a0_Done i0)
                      (sallyportref18_Clean5 (fun i0 => a0_X i0) a0_PC a0_Level a0_V (fun i0 => a0_C i0) a0_Done) (sallyportref8_Number0 (iRem (iConv IntKind.i64 a1) 29)) false then
                  true
                else
                  iNe
                    (legal_Csr0 (fun i0 => sallyportref18_Clean0 (fun i0 => a0_X i0) a0_PC a0_Level a0_V (fun i0 => a0_C i0) a0_Done i0)
                      (sallyportref18_Clean1 (fun i0 => a0_X i0) a0_PC a0_Level a0_V (fun i0 => a0_C i0) a0_Done) 0 true
                      (fun i0 => sallyportref18_Clean4 (fun i0 => a0_X i0) a0_PC a0_Level a0_V (fun i0 => a0_C i0) a0_Done i0)
                      (sallyportref18_Clean5 (fun i0 => a0_X i0) a0_PC a0_Level a0_V (fun i0 => a0_C i0) a0_Done) (sallyportref8_Number0 (iRem (iConv IntKind.i64 a1) 29)) false)
                    22
              else false then
            true
          else
            legal_InsnG (fun i0 => sallyportref18_Clean0 (fun i0 => a0_X i0) a0_PC a0_Level a0_V (fun i0 => a0_C i0) a0_Done i0)
                (sallyportref18_Clean1 (fun i0 => a0_X i0) a0_PC a0_Level a0_V (fun i0 => a0_C i0) a0_Done) 0 true
                (fun i0 => sallyportref18_Clean4 (fun i0 => a0_X i0) a0_PC a0_Level a0_V (fun i0 => a0_C i0) a0_Done i0)
                (sallyportref18_Clean5 (fun i0 => a0_X i0) a0_PC a0_Level a0_V (fun i0 => a0_C i0) a0_Done) a3_Op a3_Rd a3_Rs1 a3_Rs2 a3_Imm a3_CSR &&
              bif bif bif iLe 64 a3_Op then iLe a3_Op 69 else false then iNe a3_Op 63 else false then true else true
  else
    legal_CsrG (fun i0 => sallyportref18_Clean0 (fun i0 => a0_X i0) a0_PC a0_Level a0_V (fun i0 => a0_C i0) a0_Done i0)
        (sallyportref18_Clean1 (fun i0 => a0_X i0) a0_PC a0_Level a0_V (fun i0 => a0_C i0) a0_Done) 1 true
        (fun i0 => sallyportref18_Clean4 (fun i0 => a0_X i0) a0_PC a0_Level a0_V (fun i0 => a0_C i0) a0_Done i0)
        (sallyportref18_Clean5 (fun i0 => a0_X i0) a0_PC a0_Level a0_V (fun i0 => a0_C i0) a0_Done) (sallyportref8_Number0 (iRem (iConv IntKind.i64 a1) 29)) false &&
      bif iEq (iAnd IntKind.i64 (iShr IntKind.i64 (sallyportref8_Number0 (iRem (iConv IntKind.i64 a1) 29)) 8) 3) 3 then
        bif
            bif
                legal_Csr1 (fun i0 => sallyportref18_Clean0 (fun i0 => a0_X i0) a0_PC a0_Level a0_V (fun i0 => a0_C i0) a0_Done i0)
                  (sallyportref18_Clean1 (fun i0 => a0_X i0) a0_PC a0_Level a0_V (fun i0 => a0_C i0) a0_Done) 1 true
                  (fun i0 => sallyportref18_Clean4 (fun i0 => a0_X i0) a0_PC a0_Level a0_V (fun i0 => a0_C i0) a0_Done i0)
                  (sallyportref18_Clean5 (fun i0 => a0_X i0) a0_PC a0_Level a0_V (fun i0 => a0_C i0) a0_Done) (sallyportref8_Number0 (iRem (iConv IntKind.i64 a1) 29)) false then
              true
            else
              iNe
                (legal_Csr0 (fun i0 => sallyportref18_Clean0 (fun i0 => a0_X i0) a0_PC a0_Level a0_V (fun i0 => a0_C i0) a0_Done i0)
                  (sallyportref18_Clean1 (fun i0 => a0_X i0) a0_PC a0_Level a0_V (fun i0 => a0_C i0) a0_Done) 1 true
                  (fun i0 => sallyportref18_Clean4 (fun i0 => a0_X i0) a0_PC a0_Level a0_V (fun i0 => a0_C i0) a0_Done i0)
                  (sallyportref18_Clean5 (fun i0 => a0_X i0) a0_PC a0_Level a0_V (fun i0 => a0_C i0) a0_Done) (sallyportref8_Number0 (iRem (iConv IntKind.i64 a1) 29)) false)
                2 then
          true
        else
          legal_InsnG (fun i0 => sallyportref18_Clean0 (fun i0 => a0_X i0) a0_PC a0_Level a0_V (fun i0 => a0_C i0) a0_Done i0)
              (sallyportref18_Clean1 (fun i0 => a0_X i0) a0_PC a0_Level a0_V (fun i0 => a0_C i0) a0_Done) 1 true
              (fun i0 => sallyportref18_Clean4 (fun i0 => a0_X i0) a0_PC a0_Level a0_V (fun i0 => a0_C i0) a0_Done i0)
              (sallyportref18_Clean5 (fun i0 => a0_X i0) a0_PC a0_Level a0_V (fun i0 => a0_C i0) a0_Done) a3_Op a3_Rd a3_Rs1 a3_Rs2 a3_Imm a3_CSR &&
            bif bif bif iLe 64 a3_Op then iLe a3_Op 69 else false then iNe a3_Op 63 else false then true else true
      else
        bif iEq (iAnd IntKind.i64 (iShr IntKind.i64 (sallyportref8_Number0 (iRem (iConv IntKind.i64 a1) 29)) 8) 3) 2 then
          bif
              bif
                  legal_Csr1 (fun i0 => sallyportref18_Clean0 (fun i0 => a0_X i0) a0_PC a0_Level a0_V (fun i0 => a0_C i0) a0_Done i0)
                    (sallyportref18_Clean1 (fun i0 => a0_X i0) a0_PC a0_Level a0_V (fun i0 => a0_C i0) a0_Done) 1 true
                    (fun i0 => sallyportref18_Clean4 (fun i0 => a0_X i0) a0_PC a0_Level a0_V (fun i0 => a0_C i0) a0_Done i0)
                    (sallyportref18_Clean5 (fun i0 => a0_X i0) a0_PC a0_Level a0_V (fun i0 => a0_C i0) a0_Done) (sallyportref8_Number0 (iRem (iConv IntKind.i64 a1) 29)) false then
                true
              else
                iNe
                  (legal_Csr0 (fun i0 => sallyportref18_Clean0 (fun i0 => a0_X i0) a0_PC a0_Level a0_V (fun i0 => a0_C i0) a0_Done i0)
                    (sallyportref18_Clean1 (fun i0 => a0_X i0) a0_PC a0_Level a0_V (fun i0 => a0_C i0) a0_Done) 1 true
                    (fun i0 => sallyportref18_Clean4 (fun i0 => a0_X i0) a0_PC a0_Level a0_V (fun i0 => a0_C i0) a0_Done i0)
                    (sallyportref18_Clean5 (fun i0 => a0_X i0) a0_PC a0_Level a0_V (fun i0 => a0_C i0) a0_Done) (sallyportref8_Number0 (iRem (iConv IntKind.i64 a1) 29)) false)
                  22 then
            true
          else
            legal_InsnG (fun i0 => sallyportref18_Clean0 (fun i0 => a0_X i0) a0_PC a0_Level a0_V (fun i0 => a0_C i0) a0_Done i0)
                (sallyportref18_Clean1 (fun i0 => a0_X i0) a0_PC a0_Level a0_V (fun i0 => a0_C i0) a0_Done) 1 true
                (fun i0 => sallyportref18_Clean4 (fun i0 => a0_X i0) a0_PC a0_Level a0_V (fun i0 => a0_C i0) a0_Done i0)
                (sallyportref18_Clean5 (fun i0 => a0_X i0) a0_PC a0_Level a0_V (fun i0 => a0_C i0) a0_Done) a3_Op a3_Rd a3_Rs1 a3_Rs2 a3_Imm a3_CSR &&
              bif bif bif iLe 64 a3_Op then iLe a3_Op 69 else false then iNe a3_Op 63 else false then true else true
        else
          bif
              bif a2 then
                bif
                    legal_Csr1 (fun i0 => sallyportref18_Clean0 (fun i0 => a0_X i0) a0_PC a0_Level a0_V (fun i0 => a0_C i0) a0_Done i0)
                      (sallyportref18_Clean1 (fun i0 => a0_X i0) a0_PC a0_Level a0_V (fun i0 => a0_C i0) a0_Done) 1 true
                      (fun i0 => sallyportref18_Clean4 (fun i0 => a0_X i0) a0_PC a0_Level a0_V (fun i0 => a0_C i0) a0_Done i0)
                      (sallyportref18_Clean5 (fun i0 => a0_X i0) a0_PC a0_Level a0_V (fun i0 => a0_C i0) a0_Done) (sallyportref8_Number0 (iRem (iConv IntKind.i64 a1) 29)) false then
                  true
                else
                  iNe
                    (legal_Csr0 (fun i0 => sallyportref18_Clean0 (fun i0 => a0_X i0) a0_PC a0_Level a0_V (fun i0 => a0_C i0) a0_Done i0)
                      (sallyportref18_Clean1 (fun i0 => a0_X i0) a0_PC a0_Level a0_V (fun i0 => a0_C i0) a0_Done) 1 true
                      (fun i0 => sallyportref18_Clean4 (fun i0 => a0_X i0) a0_PC a0_Level a0_V (fun i0 => a0_C i0) a0_Done i0)
                      (sallyportref18_Clean5 (fun i0 => a0_X i0) a0_PC a0_Level a0_V (fun i0 => a0_C i0) a0_Done) (sallyportref8_Number0 (iRem (iConv IntKind.i64 a1) 29)) false)
                    22
              else false then
            true
          else
            legal_InsnG (fun i0 => sallyportref18_Clean0 (fun i0 => a0_X i0) a0_PC a0_Level a0_V (fun i0 => a0_C i0) a0_Done i0)
                (sallyportref18_Clean1 (fun i0 => a0_X i0) a0_PC a0_Level a0_V (fun i0 => a0_C i0) a0_Done) 1 true
                (fun i0 => sallyportref18_Clean4 (fun i0 => a0_X i0) a0_PC a0_Level a0_V (fun i0 => a0_C i0) a0_Done i0)
                (sallyportref18_Clean5 (fun i0 => a0_X i0) a0_PC a0_Level a0_V (fun i0 => a0_C i0) a0_Done) a3_Op a3_Rd a3_Rs1 a3_Rs2 a3_Imm a3_CSR &&
              bif bif bif iLe 64 a3_Op then iLe a3_Op 69 else false then iNe a3_Op 63 else false then true else true
def sallyportlaw9_LegalGuestV (a0_X : Nat → Int) (a0_PC : Int) (a0_Level : Int) (a0_V : Bool) (a0_C : Nat → Int) (a0_Done : Int) (a1 : Int) (a2 : Bool) (a3_Op : Int) (a3_Rd : Int) (a3_Rs1 : Int) (a3_Rs2 : Int) (a3_Imm : Int) (a3_CSR : Int) : AV := .bl (sallyportlaw9_LegalGuest0 a0_X a0_PC a0_Level a0_V a0_C a0_Done a1 a2 a3_Op a3_Rd a3_Rs1 a3_Rs2 a3_Imm a3_CSR)
theorem sallyportlaw9_LegalGuestE (g : Nat → AV) : pcOf Try.prog okT (lookR T9) (NOH) RO NOV 100 false Try.f11 (norms [(.agg [(.arr 32 (.int .u64)), (.int .u64), (.int .i64), .bool, (.arr 29 (.int .u64)), (.int .u64)]), (.int .u8), .bool, (.agg [(.int .i64), (.int .i64), (.int .i64), (.int .i64), (.int .i64), (.int .i64)])] 0 g) = some (sallyportlaw9_LegalGuestG (fun i0 => (((g 0).fld 0).ix i0).num) (((g 0).fld 1).num) (((g 0).fld 2).num) (((g 0).fld 3).bool) (fun i0 => (((g 0).fld 4).ix i0).num) (((g 0).fld 5).num) ((g 1).num) ((g 2).bool) (((g 3).fld 0).num) (((g 3).fld 1).num) (((g 3).fld 2).num) (((g 3).fld 3).num) (((g 3).fld 4).num) (((g 3).fld 5).num), sallyportlaw9_LegalGuestV (fun i0 => (((g 0).fld 0).ix i0).num) (((g 0).fld 1).num) (((g 0).fld 2).num) (((g 0).fld 3).bool) (fun i0 => (((g 0).fld 4).ix i0).num) (((g 0).fld 5).num) ((g 1).num) ((g 2).bool) (((g 3).fld 0).num) (((g 3).fld 1).num) (((g 3).fld 2).num) (((g 3).fld 3).num) (((g 3).fld 4).num) (((g 3).fld 5).num)) := by kernel_rfl
theorem sallyportlaw9_LegalGuestP : Plain Try.prog 11 Try.f11 := ⟨Try.func11, of_decide_eq_true (by kernel_rfl)⟩
theorem sallyportlaw9_LegalGuestO : RowOk Try.prog 11 (rowF [(.agg [(.arr 32 (.int .u64)), (.int .u64), (.int .i64), .bool, (.arr 29 (.int .u64)), (.int .u64)]), (.int .u8), .bool, (.agg [(.int .i64), (.int .i64), (.int .i64), (.int .i64), (.int .i64), (.int .i64)])] (some fun g => sallyportlaw9_LegalGuestG (fun i0 => (((g 0).fld 0).ix i0).num) (((g 0).fld 1).num) (((g 0).fld 2).num) (((g 0).fld 3).bool) (fun i0 => (((g 0).fld 4).ix i0).num) (((g 0).fld 5).num) ((g 1).num) ((g 2).bool) (((g 3).fld 0).num) (((g 3).fld 1).num) (((g 3).fld 2).num) (((g 3).fld 3).num) (((g 3).fld 4).num) (((g 3).fld 5).num)) fun g => sallyportlaw9_LegalGuestV (fun i0 => (((g 0).fld 0).ix i0).num) (((g 0).fld 1).num) (((g 0).fld 2).num) (((g 0).fld 3).bool) (fun i0 => (((g 0).fld 4).ix i0).num) (((g 0).fld 5).num) ((g 1).num) ((g 2).bool) (((g 3).fld 0).num) (((g 3).fld 1).num) (((g 3).fld 2).num) (((g 3).fld 3).num) (((g 3).fld 4).num) (((g 3).fld 5).num)) := rowF_ok fun g hg => pcOf_ok mix fair T9_ok (HSound_none) sallyportlaw9_LegalGuestP (fun c _ => OvOk_none c) (sallyportlaw9_LegalGuestE g) hg
def T11 : List Row := (11, (rowF [(.agg [(.arr 32 (.int .u64)), (.int .u64), (.int .i64), .bool, (.arr 29 (.int .u64)), (.int .u64)]), (.int .u8), .bool, (.agg [(.int .i64), (.int .i64), (.int .i64), (.int .i64), (.int .i64), (.int .i64)])] (some fun g => sallyportlaw9_LegalGuestG (fun i0 => (((g 0).fld 0).ix i0).num) (((g 0).fld 1).num) (((g 0).fld 2).num) (((g 0).fld 3).bool) (fun i0 => (((g 0).fld 4).ix i0).num) (((g 0).fld 5).num) ((g 1).num) ((g 2).bool) (((g 3).fld 0).num) (((g 3).fld 1).num) (((g 3).fld 2).num) (((g 3).fld 3).num) (((g 3).fld 4).num) (((g 3).fld 5).num)) fun g => sallyportlaw9_LegalGuestV (fun i0 => (((g 0).fld 0).ix i0).num) (((g 0).fld 1).num) (((g 0).fld 2).num) (((g 0).fld 3).bool) (fun i0 => (((g 0).fld 4).ix i0).num) (((g 0).fld 5).num) ((g 1).num) ((g 2).bool) (((g 3).fld 0).num) (((g 3).fld 1).num) (((g 3).fld 2).num) (((g 3).fld 3).num) (((g 3).fld 4).num) (((g 3).fld 5).num))) :: T9
theorem T11_ok : PSound Try.prog (lookR T11) := lookR_cons sallyportlaw9_LegalGuestO T9_ok

/- sallyport/sallyportlaw9.LegalReads -/
def sallyportlaw9_LegalReads0 (a0_X : Nat → Int) (a0_PC : Int) (a0_Level : Int) (a0_V : Bool) (a0_C : Nat → Int) (a0_Done : Int) (a1 : Int) (a2 : Int) (a3 : Int) : Bool :=
  bif
      bif
          bif
              bif
                  bif
                      legal_Insn1 (fun i0 => sallyportref18_Clean0 (fun i0 => a0_X i0) a0_PC a0_Level a0_V (fun i0 => a0_C i0) a0_Done i0)
                          (sallyportref18_Clean1 (fun i0 => a0_X i0) a0_PC a0_Level a0_V (fun i0 => a0_C i0) a0_Done)
                          (sallyportref18_Clean2 (fun i0 => a0_X i0) a0_PC a0_Level a0_V (fun i0 => a0_C i0) a0_Done)
                          (sallyportref18_Clean3 (fun i0 => a0_X i0) a0_PC a0_Level a0_V (fun i0 => a0_C i0) a0_Done)
                          (fun i0 => sallyportref18_Clean4 (fun i0 => a0_X i0) a0_PC a0_Level a0_V (fun i0 => a0_C i0) a0_Done i0)
                          (sallyportref18_Clean5 (fun i0 => a0_X i0) a0_PC a0_Level a0_V (fun i0 => a0_C i0) a0_Done) 55 (iConv IntKind.i64 (iRem a1 32)) 0 0 0 (iConv IntKind.i64 (iRem a2 4096)) ==
                        legal_Csr1 (fun i0 => sallyportref18_Clean0 (fun i0 => a0_X i0) a0_PC a0_Level a0_V (fun i0 => a0_C i0) a0_Done i0)
                          (sallyportref18_Clean1 (fun i0 => a0_X i0) a0_PC a0_Level a0_V (fun i0 => a0_C i0) a0_Done)
                          (sallyportref18_Clean2 (fun i0 => a0_X i0) a0_PC a0_Level a0_V (fun i0 => a0_C i0) a0_Done)
                          (sallyportref18_Clean3 (fun i0 => a0_X i0) a0_PC a0_Level a0_V (fun i0 => a0_C i0) a0_Done)
                          (fun i0 => sallyportref18_Clean4 (fun i0 => a0_X i0) a0_PC a0_Level a0_V (fun i0 => a0_C i0) a0_Done i0)
                          (sallyportref18_Clean5 (fun i0 => a0_X i0) a0_PC a0_Level a0_V (fun i0 => a0_C i0) a0_Done) (iConv IntKind.i64 (iRem a2 4096)) false then
                    legal_Insn1 (fun i0 => sallyportref18_Clean0 (fun i0 => a0_X i0) a0_PC a0_Level a0_V (fun i0 => a0_C i0) a0_Done i0)
                        (sallyportref18_Clean1 (fun i0 => a0_X i0) a0_PC a0_Level a0_V (fun i0 => a0_C i0) a0_Done)
                        (sallyportref18_Clean2 (fun i0 => a0_X i0) a0_PC a0_Level a0_V (fun i0 => a0_C i0) a0_Done)
                        (sallyportref18_Clean3 (fun i0 => a0_X i0) a0_PC a0_Level a0_V (fun i0 => a0_C i0) a0_Done)
                        (fun i0 => sallyportref18_Clean4 (fun i0 => a0_X i0) a0_PC a0_Level a0_V (fun i0 => a0_C i0) a0_Done i0)
                        (sallyportref18_Clean5 (fun i0 => a0_X i0) a0_PC a0_Level a0_V (fun i0 => a0_C i0) a0_Done) 55 (iConv IntKind.i64 (iRem a1 32))
                        (iAdd IntKind.i64 (iConv IntKind.i64 (iRem a3 31)) 1) 0 0 (iConv IntKind.i64 (iRem a2 4096)) ==
                      legal_Csr1 (fun i0 => sallyportref18_Clean0 (fun i0 => a0_X i0) a0_PC a0_Level a0_V (fun i0 => a0_C i0) a0_Done i0)
                        (sallyportref18_Clean1 (fun i0 => a0_X i0) a0_PC a0_Level a0_V (fun i0 => a0_C i0) a0_Done)
                        (sallyportref18_Clean2 (fun i0 => a0_X i0) a0_PC a0_Level a0_V (fun i0 => a0_C i0) a0_Done)
                        (sallyportref18_Clean3 (fun i0 => a0_X i0) a0_PC a0_Level a0_V (fun i0 => a0_C i0) a0_Done)
                        (fun i0 => sallyportref18_Clean4 (fun i0 => a0_X i0) a0_PC a0_Level a0_V (fun i0 => a0_C i0) a0_Done i0)
                        (sallyportref18_Clean5 (fun i0 => a0_X i0) a0_PC a0_Level a0_V (fun i0 => a0_C i0) a0_Done) (iConv IntKind.i64 (iRem a2 4096)) true
                  else false then
                legal_Insn1 (fun i0 => sallyportref18_Clean0 (fun i0 => a0_X i0) a0_PC a0_Level a0_V (fun i0 => a0_C i0) a0_Done i0)
                    (sallyportref18_Clean1 (fun i0 => a0_X i0) a0_PC a0_Level a0_V (fun i0 => a0_C i0) a0_Done)
                    (sallyportref18_Clean2 (fun i0 => a0_X i0) a0_PC a0_Level a0_V (fun i0 => a0_C i0) a0_Done)
                    (sallyportref18_Clean3 (fun i0 => a0_X i0) a0_PC a0_Level a0_V (fun i0 => a0_C i0) a0_Done)
                    (fun i0 => sallyportref18_Clean4 (fun i0 => a0_X i0) a0_PC a0_Level a0_V (fun i0 => a0_C i0) a0_Done i0)
                    (sallyportref18_Clean5 (fun i0 => a0_X i0) a0_PC a0_Level a0_V (fun i0 => a0_C i0) a0_Done) 54 (iConv IntKind.i64 (iRem a1 32)) 0 0 0 (iConv IntKind.i64 (iRem a2 4096)) ==
                  legal_Csr1 (fun i0 => sallyportref18_Clean0 (fun i0 => a0_X i0) a0_PC a0_Level a0_V (fun i0 => a0_C i0) a0_Done i0)
                    (sallyportref18_Clean1 (fun i0 => a0_X i0) a0_PC a0_Level a0_V (fun i0 => a0_C i0) a0_Done)
                    (sallyportref18_Clean2 (fun i0 => a0_X i0) a0_PC a0_Level a0_V (fun i0 => a0_C i0) a0_Done)
                    (sallyportref18_Clean3 (fun i0 => a0_X i0) a0_PC a0_Level a0_V (fun i0 => a0_C i0) a0_Done)
                    (fun i0 => sallyportref18_Clean4 (fun i0 => a0_X i0) a0_PC a0_Level a0_V (fun i0 => a0_C i0) a0_Done i0)
                    (sallyportref18_Clean5 (fun i0 => a0_X i0) a0_PC a0_Level a0_V (fun i0 => a0_C i0) a0_Done) (iConv IntKind.i64 (iRem a2 4096)) true
              else false then
            legal_Insn1 (fun i0 => sallyportref18_Clean0 (fun i0 => a0_X i0) a0_PC a0_Level a0_V (fun i0 => a0_C i0) a0_Done i0)
                (sallyportref18_Clean1 (fun i0 => a0_X i0) a0_PC a0_Level a0_V (fun i0 => a0_C i0) a0_Done) (sallyportref18_Clean2 (fun i0 => a0_X i0) a0_PC a0_Level a0_V (fun i0 => a0_C i0) a0_Done)
                (sallyportref18_Clean3 (fun i0 => a0_X i0) a0_PC a0_Level a0_V (fun i0 => a0_C i0) a0_Done)
                (fun i0 => sallyportref18_Clean4 (fun i0 => a0_X i0) a0_PC a0_Level a0_V (fun i0 => a0_C i0) a0_Done i0)
                (sallyportref18_Clean5 (fun i0 => a0_X i0) a0_PC a0_Level a0_V (fun i0 => a0_C i0) a0_Done) 59 (iConv IntKind.i64 (iRem a1 32)) 0 0 0 (iConv IntKind.i64 (iRem a2 4096)) ==
              legal_Csr1 (fun i0 => sallyportref18_Clean0 (fun i0 => a0_X i0) a0_PC a0_Level a0_V (fun i0 => a0_C i0) a0_Done i0)
                (sallyportref18_Clean1 (fun i0 => a0_X i0) a0_PC a0_Level a0_V (fun i0 => a0_C i0) a0_Done) (sallyportref18_Clean2 (fun i0 => a0_X i0) a0_PC a0_Level a0_V (fun i0 => a0_C i0) a0_Done)
                (sallyportref18_Clean3 (fun i0 => a0_X i0) a0_PC a0_Level a0_V (fun i0 => a0_C i0) a0_Done)
                (fun i0 => sallyportref18_Clean4 (fun i0 => a0_X i0) a0_PC a0_Level a0_V (fun i0 => a0_C i0) a0_Done i0)
                (sallyportref18_Clean5 (fun i0 => a0_X i0) a0_PC a0_Level a0_V (fun i0 => a0_C i0) a0_Done) (iConv IntKind.i64 (iRem a2 4096)) false
          else false then
        legal_Insn1 (fun i0 => sallyportref18_Clean0 (fun i0 => a0_X i0) a0_PC a0_Level a0_V (fun i0 => a0_C i0) a0_Done i0)
            (sallyportref18_Clean1 (fun i0 => a0_X i0) a0_PC a0_Level a0_V (fun i0 => a0_C i0) a0_Done) (sallyportref18_Clean2 (fun i0 => a0_X i0) a0_PC a0_Level a0_V (fun i0 => a0_C i0) a0_Done)
            (sallyportref18_Clean3 (fun i0 => a0_X i0) a0_PC a0_Level a0_V (fun i0 => a0_C i0) a0_Done)
            (fun i0 => sallyportref18_Clean4 (fun i0 => a0_X i0) a0_PC a0_Level a0_V (fun i0 => a0_C i0) a0_Done i0)
            (sallyportref18_Clean5 (fun i0 => a0_X i0) a0_PC a0_Level a0_V (fun i0 => a0_C i0) a0_Done) 58 (iConv IntKind.i64 (iRem a1 32)) 0 0 (iAdd IntKind.i64 (iConv IntKind.i64 (iRem a3 31)) 1)
            (iConv IntKind.i64 (iRem a2 4096)) ==
          legal_Csr1 (fun i0 => sallyportref18_Clean0 (fun i0 => a0_X i0) a0_PC a0_Level a0_V (fun i0 => a0_C i0) a0_Done i0)
            (sallyportref18_Clean1 (fun i0 => a0_X i0) a0_PC a0_Level a0_V (fun i0 => a0_C i0) a0_Done) (sallyportref18_Clean2 (fun i0 => a0_X i0) a0_PC a0_Level a0_V (fun i0 => a0_C i0) a0_Done)
            (sallyportref18_Clean3 (fun i0 => a0_X i0) a0_PC a0_Level a0_V (fun i0 => a0_C i0) a0_Done)
            (fun i0 => sallyportref18_Clean4 (fun i0 => a0_X i0) a0_PC a0_Level a0_V (fun i0 => a0_C i0) a0_Done i0)
            (sallyportref18_Clean5 (fun i0 => a0_X i0) a0_PC a0_Level a0_V (fun i0 => a0_C i0) a0_Done) (iConv IntKind.i64 (iRem a2 4096)) true
      else false then
    bif
        !legal_Csr1 (fun i0 => sallyportref18_Clean0 (fun i0 => a0_X i0) a0_PC a0_Level a0_V (fun i0 => a0_C i0) a0_Done i0)
            (sallyportref18_Clean1 (fun i0 => a0_X i0) a0_PC a0_Level a0_V (fun i0 => a0_C i0) a0_Done) (sallyportref18_Clean2 (fun i0 => a0_X i0) a0_PC a0_Level a0_V (fun i0 => a0_C i0) a0_Done)
            (sallyportref18_Clean3 (fun i0 => a0_X i0) a0_PC a0_Level a0_V (fun i0 => a0_C i0) a0_Done)
            (fun i0 => sallyportref18_Clean4 (fun i0 => a0_X i0) a0_PC a0_Level a0_V (fun i0 => a0_C i0) a0_Done i0)
            (sallyportref18_Clean5 (fun i0 => a0_X i0) a0_PC a0_Level a0_V (fun i0 => a0_C i0) a0_Done) (iConv IntKind.i64 (iRem a2 4096)) true then
      true
    else
      legal_Csr1 (fun i0 => sallyportref18_Clean0 (fun i0 => a0_X i0) a0_PC a0_Level a0_V (fun i0 => a0_C i0) a0_Done i0)
        (sallyportref18_Clean1 (fun i0 => a0_X i0) a0_PC a0_Level a0_V (fun i0 => a0_C i0) a0_Done) (sallyportref18_Clean2 (fun i0 => a0_X i0) a0_PC a0_Level a0_V (fun i0 => a0_C i0) a0_Done)
        (sallyportref18_Clean3 (fun i0 => a0_X i0) a0_PC a0_Level a0_V (fun i0 => a0_C i0) a0_Done)
        (fun i0 => sallyportref18_Clean4 (fun i0 => a0_X i0) a0_PC a0_Level a0_V (fun i0 => a0_C i0) a0_Done i0)
        (sallyportref18_Clean5 (fun i0 => a0_X i0) a0_PC a0_Level a0_V (fun i0 => a0_C i0) a0_Done) (iConv IntKind.i64 (iRem a2 4096)) false
  else false
def sallyportlaw9_LegalReadsG (a0_X : Nat → Int) (a0_PC : Int) (a0_Level : Int) (a0_V : Bool) (a0_C : Nat → Int) (a0_Done : Int) (a1 : Int) (a2 : Int) (a3 : Int) : Bool :=
  legal_CsrG (fun i0 => sallyportref18_Clean0 (fun i0 => a0_X i0) a0_PC a0_Level a0_V (fun i0 => a0_C i0) a0_Done i0)
      (sallyportref18_Clean1 (fun i0 => a0_X i0) a0_PC a0_Level a0_V (fun i0 => a0_C i0) a0_Done) (sallyportref18_Clean2 (fun i0 => a0_X i0) a0_PC a0_Level a0_V (fun i0 => a0_C i0) a0_Done)
      (sallyportref18_Clean3 (fun i0 => a0_X i0) a0_PC a0_Level a0_V (fun i0 => a0_C i0) a0_Done) (fun i0 => sallyportref18_Clean4 (fun i0 => a0_X i0) a0_PC a0_Level a0_V (fun i0 => a0_C i0) a0_Done i0)
      (sallyportref18_Clean5 (fun i0 => a0_X i0) a0_PC a0_Level a0_V (fun i0 => a0_C i0) a0_Done) (iConv IntKind.i64 (iRem a2 4096)) false &&
    (legal_CsrG (fun i0 => sallyportref18_Clean0 (fun i0 => a0_X i0) a0_PC a0_Level a0_V (fun i0 => a0_C i0) a0_Done i0)
        (sallyportref18_Clean1 (fun i0 => a0_X i0) a0_PC a0_Level a0_V (fun i0 => a0_C i0) a0_Done) (sallyportref18_Clean2 (fun i0 => a0_X i0) a0_PC a0_Level a0_V (fun i0 => a0_C i0) a0_Done)
        (sallyportref18_Clean3 (fun i0 => a0_X i0) a0_PC a0_Level a0_V (fun i0 => a0_C i0) a0_Done)
        (fun i0 => sallyportref18_Clean4 (fun i0 => a0_X i0) a0_PC a0_Level a0_V (fun i0 => a0_C i0) a0_Done i0)
        (sallyportref18_Clean5 (fun i0 => a0_X i0) a0_PC a0_Level a0_V (fun i0 => a0_C i0) a0_Done) (iConv IntKind.i64 (iRem a2 4096)) true &&
      (legal_InsnG (fun i0 => sallyportref18_Clean0 (fun i0 => a0_X i0) a0_PC a0_Level a0_V (fun i0 => a0_C i0) a0_Done i0)
          (sallyportref18_Clean1 (fun i0 => a0_X i0) a0_PC a0_Level a0_V (fun i0 => a0_C i0) a0_Done) (sallyportref18_Clean2 (fun i0 => a0_X i0) a0_PC a0_Level a0_V (fun i0 => a0_C i0) a0_Done)
          (sallyportref18_Clean3 (fun i0 => a0_X i0) a0_PC a0_Level a0_V (fun i0 => a0_C i0) a0_Done)
          (fun i0 => sallyportref18_Clean4 (fun i0 => a0_X i0) a0_PC a0_Level a0_V (fun i0 => a0_C i0) a0_Done i0)
          (sallyportref18_Clean5 (fun i0 => a0_X i0) a0_PC a0_Level a0_V (fun i0 => a0_C i0) a0_Done) 55 (iConv IntKind.i64 (iRem a1 32)) 0 0 0 (iConv IntKind.i64 (iRem a2 4096)) &&
        (legal_InsnG (fun i0 => sallyportref18_Clean0 (fun i0 => a0_X i0) a0_PC a0_Level a0_V (fun i0 => a0_C i0) a0_Done i0)
            (sallyportref18_Clean1 (fun i0 => a0_X i0) a0_PC a0_Level a0_V (fun i0 => a0_C i0) a0_Done) (sallyportref18_Clean2 (fun i0 => a0_X i0) a0_PC a0_Level a0_V (fun i0 => a0_C i0) a0_Done)
            (sallyportref18_Clean3 (fun i0 => a0_X i0) a0_PC a0_Level a0_V (fun i0 => a0_C i0) a0_Done)
            (fun i0 => sallyportref18_Clean4 (fun i0 => a0_X i0) a0_PC a0_Level a0_V (fun i0 => a0_C i0) a0_Done i0)
            (sallyportref18_Clean5 (fun i0 => a0_X i0) a0_PC a0_Level a0_V (fun i0 => a0_C i0) a0_Done) 55 (iConv IntKind.i64 (iRem a1 32)) (iAdd IntKind.i64 (iConv IntKind.i64 (iRem a3 31)) 1) 0 0
            (iConv IntKind.i64 (iRem a2 4096)) &&
          (legal_InsnG (fun i0 => sallyportref18_Clean0 (fun i0 => a0_X i0) a0_PC a0_Level a0_V (fun i0 => a0_C i0) a0_Done i0)
              (sallyportref18_Clean1 (fun i0 => a0_X i0) a0_PC a0_Level a0_V (fun i0 => a0_C i0) a0_Done) (sallyportref18_Clean2 (fun i0 => a0_X i0) a0_PC a0_Level a0_V (fun i0 => a0_C i0) a0_Done)
              (sallyportref18_Clean3 (fun i0 => a0_X i0) a0_PC a0_Level a0_V (fun i0 => a0_C i0) a0_Done)
              (fun i0 => sallyportref18_Clean4 (fun i0 => a0_X i0) a0_PC a0_Level a0_V (fun i0 => a0_C i0) a0_Done i0)
              (sallyportref18_Clean5 (fun i0 => a0_X i0) a0_PC a0_Level a0_V (fun i0 => a0_C i0) a0_Done) 54 (iConv IntKind.i64 (iRem a1 32)) 0 0 0 (iConv IntKind.i64 (iRem a2 4096)) &&
            (legal_InsnG (fun i0 => sallyportref18_Clean0 (fun i0 => a0_X i0) a0_PC a0_Level a0_V (fun i0 => a0_C i0) a0_Done i0)
                (sallyportref18_Clean1 (fun i0 => a0_X i0) a0_PC a0_Level a0_V (fun i0 => a0_C i0) a0_Done) (sallyportref18_Clean2 (fun i0 => a0_X i0) a0_PC a0_Level a0_V (fun i0 => a0_C i0) a0_Done)
                (sallyportref18_Clean3 (fun i0 => a0_X i0) a0_PC a0_Level a0_V (fun i0 => a0_C i0) a0_Done)
                (fun i0 => sallyportref18_Clean4 (fun i0 => a0_X i0) a0_PC a0_Level a0_V (fun i0 => a0_C i0) a0_Done i0)
                (sallyportref18_Clean5 (fun i0 => a0_X i0) a0_PC a0_Level a0_V (fun i0 => a0_C i0) a0_Done) 59 (iConv IntKind.i64 (iRem a1 32)) 0 0 0 (iConv IntKind.i64 (iRem a2 4096)) &&
              (legal_InsnG (fun i0 => sallyportref18_Clean0 (fun i0 => a0_X i0) a0_PC a0_Level a0_V (fun i0 => a0_C i0) a0_Done i0)
                  (sallyportref18_Clean1 (fun i0 => a0_X i0) a0_PC a0_Level a0_V (fun i0 => a0_C i0) a0_Done) (sallyportref18_Clean2 (fun i0 => a0_X i0) a0_PC a0_Level a0_V (fun i0 => a0_C i0) a0_Done)
                  (sallyportref18_Clean3 (fun i0 => a0_X i0) a0_PC a0_Level a0_V (fun i0 => a0_C i0) a0_Done)
                  (fun i0 => sallyportref18_Clean4 (fun i0 => a0_X i0) a0_PC a0_Level a0_V (fun i0 => a0_C i0) a0_Done i0)
                  (sallyportref18_Clean5 (fun i0 => a0_X i0) a0_PC a0_Level a0_V (fun i0 => a0_C i0) a0_Done) 58 (iConv IntKind.i64 (iRem a1 32)) 0 0
                  (iAdd IntKind.i64 (iConv IntKind.i64 (iRem a3 31)) 1) (iConv IntKind.i64 (iRem a2 4096)) &&
                true))))))
def sallyportlaw9_LegalReadsV (a0_X : Nat → Int) (a0_PC : Int) (a0_Level : Int) (a0_V : Bool) (a0_C : Nat → Int) (a0_Done : Int) (a1 : Int) (a2 : Int) (a3 : Int) : AV := .bl (sallyportlaw9_LegalReads0 a0_X a0_PC a0_Level a0_V a0_C a0_Done a1 a2 a3)
theorem sallyportlaw9_LegalReadsE (g : Nat → AV) : pcOf Try.prog okT (lookR T11) (NOH) RO NOV 100 false Try.f13 (norms [(.agg [(.arr 32 (.int .u64)), (.int .u64), (.int .i64), .bool, (.arr 29 (.int .u64)), (.int .u64)]), (.int .u8), (.int .u16), (.int .u8)] 0 g) = some (sallyportlaw9_LegalReadsG (fun i0 => (((g 0).fld 0).ix i0).num) (((g 0).fld 1).num) (((g 0).fld 2).num) (((g 0).fld 3).bool) (fun i0 => (((g 0).fld 4).ix i0).num) (((g 0).fld 5).num) ((g 1).num) ((g 2).num) ((g 3).num), sallyportlaw9_LegalReadsV (fun i0 => (((g 0).fld 0).ix i0).num) (((g 0).fld 1).num) (((g 0).fld 2).num) (((g 0).fld 3).bool) (fun i0 => (((g 0).fld 4).ix i0).num) (((g 0).fld 5).num) ((g 1).num) ((g 2).num) ((g 3).num)) := by kernel_rfl
theorem sallyportlaw9_LegalReadsP : Plain Try.prog 13 Try.f13 := ⟨Try.func13, of_decide_eq_true (by kernel_rfl)⟩
theorem sallyportlaw9_LegalReadsO : RowOk Try.prog 13 (rowF [(.agg [(.arr 32 (.int .u64)), (.int .u64), (.int .i64), .bool, (.arr 29 (.int .u64)), (.int .u64)]), (.int .u8), (.int .u16), (.int .u8)] (some fun g => sallyportlaw9_LegalReadsG (fun i0 => (((g 0).fld 0).ix i0).num) (((g 0).fld 1).num) (((g 0).fld 2).num) (((g 0).fld 3).bool) (fun i0 => (((g 0).fld 4).ix i0).num) (((g 0).fld 5).num) ((g 1).num) ((g 2).num) ((g 3).num)) fun g => sallyportlaw9_LegalReadsV (fun i0 => (((g 0).fld 0).ix i0).num) (((g 0).fld 1).num) (((g 0).fld 2).num) (((g 0).fld 3).bool) (fun i0 => (((g 0).fld 4).ix i0).num) (((g 0).fld 5).num) ((g 1).num) ((g 2).num) ((g 3).num)) := rowF_ok fun g hg => pcOf_ok mix fair T11_ok (HSound_none) sallyportlaw9_LegalReadsP (fun c _ => OvOk_none c) (sallyportlaw9_LegalReadsE g) hg
def T13 : List Row := (13, (rowF [(.agg [(.arr 32 (.int .u64)), (.int .u64), (.int .i64), .bool, (.arr 29 (.int .u64)), (.int .u64)]), (.int .u8), (.int .u16), (.int .u8)] (some fun g => sallyportlaw9_LegalReadsG (fun i0 => (((g 0).fld 0).ix i0).num) (((g 0).fld 1).num) (((g 0).fld 2).num) (((g 0).fld 3).bool) (fun i0 => (((g 0).fld 4).ix i0).num) (((g 0).fld 5).num) ((g 1).num) ((g 2).num) ((g 3).num)) fun g => sallyportlaw9_LegalReadsV (fun i0 => (((g 0).fld 0).ix i0).num) (((g 0).fld 1).num) (((g 0).fld 2).num) (((g 0).fld 3).bool) (fun i0 => (((g 0).fld 4).ix i0).num) (((g 0).fld 5).num) ((g 1).num) ((g 2).num) ((g 3).num))) :: T11
theorem T13_ok : PSound Try.prog (lookR T13) := lookR_cons sallyportlaw9_LegalReadsO T11_ok

end
end Go.Proofs.Ytdfafnelmpflgaa.PV
