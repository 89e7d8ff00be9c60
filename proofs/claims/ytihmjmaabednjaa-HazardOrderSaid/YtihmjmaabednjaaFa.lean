/-
  What functions of the program yield, evaluated: instructions (insn), who waits for whom (hazard), the document's instructions. Printed by a program of the prover's own (wip/prt).
-/
import Derived.Test.YtihmjmaabednjaaRows
import Derived.Test.YtihmjmaabednjaaEvV
set_option linter.unusedVariables false
set_option linter.unusedSimpArgs false
namespace Go.Proofs.Ytihmjmaabednjaa.PV
noncomputable section
open Go Go.Ev
def okT : List TypeId := [23]
theorem fair : Go.Ev.Fair Try.prog okT :=
  ⟨fun t h => by simp only [okT, List.contains_cons, List.contains_nil, Bool.or_false, beq_iff_eq] at h; subst h; exact Try.stoodInHeld23,
   fun t h => by simp only [okT, List.contains_cons, List.contains_nil, Bool.or_false, beq_iff_eq] at h; subst h; exact Try.eqGuardType23⟩
theorem mix : Try.prog.follows .mixedOrders = true := Checked.mixed Try.checked
def RO : FuncId → Bool := fun _ => true
abbrev NOV : Ov := fun _ _ _ _ => none
abbrev NOH : Hd := fun _ _ _ _ => none
def T0 : List Row := []
theorem T0_ok : PSound Try.prog (lookR T0) := lookR_nil
def FS : List FuncId := [19]
theorem FS_ok : Names Try.prog FS := names_of (by kernel_rfl)
def ST : FuncId → Bool := fun _ => true
/- sallyport/insn.Class -/
def insn_Class0 (a0 : Int) : Int :=
  bif bif iLt a0 1 then true else iLe 70 a0 then 0
  else
    bif iLe a0 4 then 1
    else
      bif iLe a0 10 then 2
      else
        bif iLe a0 17 then 3
        else
          bif iLe a0 21 then 4
          else
            bif iLe a0 34 then 5
            else
              bif iLe a0 49 then 6 else bif iLe a0 51 then 7 else bif iLe a0 53 then 8 else bif iLe a0 59 then 9 else bif iLe a0 62 then 10 else bif iLe a0 65 then 11 else bif iLe a0 69 then 12 else 0
def insn_ClassG (a0 : Int) : Bool :=
  bif bif iLt a0 1 then true else iLe 70 a0 then true
  else
    bif iLe a0 4 then true
    else
      bif iLe a0 10 then true
      else
        bif iLe a0 17 then true
        else
          bif iLe a0 21 then true
          else
            bif iLe a0 34 then true
            else
              bif iLe a0 49 then true
              else bif iLe a0 51 then true else bif iLe a0 53 then true else bif iLe a0 59 then true else bif iLe a0 62 then true else bif iLe a0 65 then true else bif iLe a0 69 then true else true
def insn_ClassV (a0 : Int) : AV := .it .i64 (insn_Class0 a0)
theorem insn_ClassE (g : Nat → AV) : pcOf Try.prog okT (lookR T0) (NOH) RO NOV 100 false Try.f23 (norms [(.int .i64)] 0 g) = some (insn_ClassG ((g 0).num), insn_ClassV ((g 0).num)) := by kernel_rfl
theorem insn_ClassP : Plain Try.prog 23 Try.f23 := ⟨Try.func23, of_decide_eq_true (by kernel_rfl)⟩
theorem insn_ClassT (a0 : Int) : insn_ClassG a0 = true := by first | (simp [insn_ClassG]; done) | (simp [insn_ClassG, Go.Ev.iEq, Go.Ev.iNe, Go.Ev.iLt, Go.Ev.iLe, Go.Ev.iIn]; omega)
theorem insn_ClassO : RowOk Try.prog 23 (rowF [(.int .i64)] none fun g => insn_ClassV ((g 0).num)) := rowT_ok fun g => pcOf_ok mix fair T0_ok (HSound_none) insn_ClassP (fun c _ => OvOk_none c) (insn_ClassE g) (insn_ClassT ((g 0).num))
def T23 : List Row := (23, (rowF [(.int .i64)] none fun g => insn_ClassV ((g 0).num))) :: T0
theorem T23_ok : PSound Try.prog (lookR T23) := lookR_cons insn_ClassO T0_ok

/- sallyport/insn.field -/
def insn_field0 (a0 : Bool) (a1 : Int) (a2 : Int) : Bool :=
  bif iEq a1 0 then true else bif bif a0 then iLt 0 a1 else false then iLt a1 a2 else false
def insn_fieldG (a0 : Bool) (a1 : Int) (a2 : Int) : Bool :=
  true
def insn_fieldV (a0 : Bool) (a1 : Int) (a2 : Int) : AV := .bl (insn_field0 a0 a1 a2)
theorem insn_fieldE (g : Nat → AV) : pcOf Try.prog okT (lookR T23) (NOH) RO NOV 100 false Try.f33 (norms [.bool, (.int .i64), (.int .i64)] 0 g) = some (insn_fieldG ((g 0).bool) ((g 1).num) ((g 2).num), insn_fieldV ((g 0).bool) ((g 1).num) ((g 2).num)) := by kernel_rfl
theorem insn_fieldP : Plain Try.prog 33 Try.f33 := ⟨Try.func33, of_decide_eq_true (by kernel_rfl)⟩
theorem insn_fieldT (a0 : Bool) (a1 : Int) (a2 : Int) : insn_fieldG a0 a1 a2 = true := rfl
theorem insn_fieldO : RowOk Try.prog 33 (rowF [.bool, (.int .i64), (.int .i64)] none fun g => insn_fieldV ((g 0).bool) ((g 1).num) ((g 2).num)) := rowT_ok fun g => pcOf_ok mix fair T23_ok (HSound_none) insn_fieldP (fun c _ => OvOk_none c) (insn_fieldE g) (insn_fieldT ((g 0).bool) ((g 1).num) ((g 2).num))
def T33 : List Row := (33, (rowF [.bool, (.int .i64), (.int .i64)] none fun g => insn_fieldV ((g 0).bool) ((g 1).num) ((g 2).num))) :: T23
theorem T33_ok : PSound Try.prog (lookR T33) := lookR_cons insn_fieldO T23_ok

/- sallyport/insn.withNumber -/
def insn_withNumber0 (a0 : Int) : Bool :=
  bif iEq a0 28 then bif iEq a0 28 then true else bif iEq a0 32 then bif iEq a0 32 then true else true else bif iEq a0 33 then bif iEq a0 33 then true else true else bif iEq a0 34 then true else true
  else
    bif iEq a0 29 then bif iEq a0 29 then true else bif iEq a0 32 then bif iEq a0 32 then true else true else bif iEq a0 33 then bif iEq a0 33 then true else true else bif iEq a0 34 then true else true
    else bif iEq a0 30 then true else bif iEq a0 32 then bif iEq a0 32 then true else true else bif iEq a0 33 then bif iEq a0 33 then true else true else bif iEq a0 34 then true else true
def insn_withNumber1 (a0 : Int) : Bool :=
  bif iEq a0 28 then
    bif iEq a0 28 then false else bif iEq a0 32 then bif iEq a0 32 then false else false else bif iEq a0 33 then bif iEq a0 33 then false else false else bif iEq a0 34 then false else false
  else
    bif iEq a0 29 then
      bif iEq a0 29 then false else bif iEq a0 32 then bif iEq a0 32 then false else false else bif iEq a0 33 then bif iEq a0 33 then false else false else bif iEq a0 34 then false else false
    else bif iEq a0 30 then false else bif iEq a0 32 then bif iEq a0 32 then false else false else bif iEq a0 33 then bif iEq a0 33 then false else false else bif iEq a0 34 then false else false
def insn_withNumber2 (a0 : Int) : Bool :=
  bif iEq a0 28 then bif iEq a0 28 then true else bif iEq a0 32 then bif iEq a0 32 then true else true else bif iEq a0 33 then bif iEq a0 33 then true else true else bif iEq a0 34 then true else true
  else
    bif iEq a0 29 then bif iEq a0 29 then true else bif iEq a0 32 then bif iEq a0 32 then true else true else bif iEq a0 33 then bif iEq a0 33 then true else true else bif iEq a0 34 then true else true
    else bif iEq a0 30 then true else bif iEq a0 32 then bif iEq a0 32 then true else true else bif iEq a0 33 then bif iEq a0 33 then true else true else bif iEq a0 34 then true else true
def insn_withNumber3 (a0 : Int) : Bool :=
  bif iEq a0 28 then
    bif iEq a0 28 then false else bif iEq a0 32 then bif iEq a0 32 then false else false else bif iEq a0 33 then bif iEq a0 33 then false else false else bif iEq a0 34 then false else false
  else
    bif iEq a0 29 then
      bif iEq a0 29 then false else bif iEq a0 32 then bif iEq a0 32 then false else false else bif iEq a0 33 then bif iEq a0 33 then false else false else bif iEq a0 34 then false else false
    else bif iEq a0 30 then false else bif iEq a0 32 then bif iEq a0 32 then false else false else bif iEq a0 33 then bif iEq a0 33 then false else false else bif iEq a0 34 then false else false
def insn_withNumber4 (a0 : Int) : Int :=
  bif iEq a0 28 then bif iEq a0 28 then 0 else bif iEq a0 32 then bif iEq a0 32 then 0 else -2048 else bif iEq a0 33 then bif iEq a0 33 then 0 else -2048 else bif iEq a0 34 then 0 else -2048
  else
    bif iEq a0 29 then bif iEq a0 29 then 0 else bif iEq a0 32 then bif iEq a0 32 then 0 else -2048 else bif iEq a0 33 then bif iEq a0 33 then 0 else -2048 else bif iEq a0 34 then 0 else -2048
    else bif iEq a0 30 then 0 else bif iEq a0 32 then bif iEq a0 32 then 0 else -2048 else bif iEq a0 33 then bif iEq a0 33 then 0 else -2048 else bif iEq a0 34 then 0 else -2048
def insn_withNumber5 (a0 : Int) : Int :=
  bif iEq a0 28 then bif iEq a0 28 then 63 else bif iEq a0 32 then bif iEq a0 32 then 31 else 2047 else bif iEq a0 33 then bif iEq a0 33 then 31 else 2047 else bif iEq a0 34 then 31 else 2047
  else
    bif iEq a0 29 then bif iEq a0 29 then 63 else bif iEq a0 32 then bif iEq a0 32 then 31 else 2047 else bif iEq a0 33 then bif iEq a0 33 then 31 else 2047 else bif iEq a0 34 then 31 else 2047
    else bif iEq a0 30 then 63 else bif iEq a0 32 then bif iEq a0 32 then 31 else 2047 else bif iEq a0 33 then bif iEq a0 33 then 31 else 2047 else bif iEq a0 34 then 31 else 2047
def insn_withNumber6 (a0 : Int) : Int :=
  bif iEq a0 28 then bif iEq a0 28 then 1 else bif iEq a0 32 then bif iEq a0 32 then 1 else 1 else bif iEq a0 33 then bif iEq a0 33 then 1 else 1 else bif iEq a0 34 then 1 else 1
  else
    bif iEq a0 29 then bif iEq a0 29 then 1 else bif iEq a0 32 then bif iEq a0 32 then 1 else 1 else bif iEq a0 33 then bif iEq a0 33 then 1 else 1 else bif iEq a0 34 then 1 else 1
    else bif iEq a0 30 then 1 else bif iEq a0 32 then bif iEq a0 32 then 1 else 1 else bif iEq a0 33 then bif iEq a0 33 then 1 else 1 else bif iEq a0 34 then 1 else 1
def insn_withNumberG (a0 : Int) : Bool :=
  bif iEq a0 28 then bif iEq a0 28 then true else bif iEq a0 32 then bif iEq a0 32 then true else true else bif iEq a0 33 then bif iEq a0 33 then true else true else bif iEq a0 34 then true else true
  else
    bif iEq a0 29 then bif iEq a0 29 then true else bif iEq a0 32 then bif iEq a0 32 then true else true else bif iEq a0 33 then bif iEq a0 33 then true else true else bif iEq a0 34 then true else true
    else bif iEq a0 30 then true else bif iEq a0 32 then bif iEq a0 32 then true else true else bif iEq a0 33 then bif iEq a0 33 then true else true else bif iEq a0 34 then true else true
def insn_withNumberV (a0 : Int) : AV := .agg [.bl (insn_withNumber0 a0), .bl (insn_withNumber1 a0), .bl (insn_withNumber2 a0), .bl (insn_withNumber3 a0), .it .i64 (insn_withNumber4 a0), .it .i64 (insn_withNumber5 a0), .it .i64 (insn_withNumber6 a0)]
theorem insn_withNumberE (g : Nat → AV) : pcOf Try.prog okT (lookR T33) (NOH) RO NOV 100 false Try.f39 (norms [(.int .i64)] 0 g) = some (insn_withNumberG ((g 0).num), insn_withNumberV ((g 0).num)) := by kernel_rfl
theorem insn_withNumberP : Plain Try.prog 39 Try.f39 := ⟨Try.func39, of_decide_eq_true (by kernel_rfl)⟩
theorem insn_withNumberT (a0 : Int) : insn_withNumberG a0 = true := by first | (simp [insn_withNumberG]; done) | (simp [insn_withNumberG, Go.Ev.iEq, Go.Ev.iNe, Go.Ev.iLt, Go.Ev.iLe, Go.Ev.iIn]; omega)
theorem insn_withNumberO : RowOk Try.prog 39 (rowF [(.int .i64)] none fun g => insn_withNumberV ((g 0).num)) := rowT_ok fun g => pcOf_ok mix fair T33_ok (HSound_none) insn_withNumberP (fun c _ => OvOk_none c) (insn_withNumberE g) (insn_withNumberT ((g 0).num))
def T39 : List Row := (39, (rowF [(.int .i64)] none fun g => insn_withNumberV ((g 0).num))) :: T33
theorem T39_ok : PSound Try.prog (lookR T39) := lookR_cons insn_withNumberO T33_ok

/- sallyport/insn.jumps -/
def insn_jumps0 (a0 : Int) : Bool :=
  bif iEq a0 3 then true else bif iEq a0 4 then true else true
def insn_jumps1 (a0 : Int) : Bool :=
  bif iEq a0 3 then false else bif iEq a0 4 then false else false
def insn_jumps2 (a0 : Int) : Bool :=
  bif iEq a0 3 then false else bif iEq a0 4 then true else false
def insn_jumps3 (a0 : Int) : Bool :=
  bif iEq a0 3 then false else bif iEq a0 4 then false else false
def insn_jumps4 (a0 : Int) : Int :=
  bif iEq a0 3 then -1048576 else bif iEq a0 4 then -2048 else -2147483648
def insn_jumps5 (a0 : Int) : Int :=
  bif iEq a0 3 then 1048574 else bif iEq a0 4 then 2047 else 2147479552
def insn_jumps6 (a0 : Int) : Int :=
  bif iEq a0 3 then 2 else bif iEq a0 4 then 1 else 4096
def insn_jumpsG (a0 : Int) : Bool :=
  bif iEq a0 3 then true else bif iEq a0 4 then true else true
def insn_jumpsV (a0 : Int) : AV := .agg [.bl (insn_jumps0 a0), .bl (insn_jumps1 a0), .bl (insn_jumps2 a0), .bl (insn_jumps3 a0), .it .i64 (insn_jumps4 a0), .it .i64 (insn_jumps5 a0), .it .i64 (insn_jumps6 a0)]
theorem insn_jumpsE (g : Nat → AV) : pcOf Try.prog okT (lookR T39) (NOH) RO NOV 100 false Try.f38 (norms [(.int .i64)] 0 g) = some (insn_jumpsG ((g 0).num), insn_jumpsV ((g 0).num)) := by kernel_rfl
theorem insn_jumpsP : Plain Try.prog 38 Try.f38 := ⟨Try.func38, of_decide_eq_true (by kernel_rfl)⟩
theorem insn_jumpsT (a0 : Int) : insn_jumpsG a0 = true := by first | (simp [insn_jumpsG]; done) | (simp [insn_jumpsG, Go.Ev.iEq, Go.Ev.iNe, Go.Ev.iLt, Go.Ev.iLe, Go.Ev.iIn]; omega)
theorem insn_jumpsO : RowOk Try.prog 38 (rowF [(.int .i64)] none fun g => insn_jumpsV ((g 0).num)) := rowT_ok fun g => pcOf_ok mix fair T39_ok (HSound_none) insn_jumpsP (fun c _ => OvOk_none c) (insn_jumpsE g) (insn_jumpsT ((g 0).num))
def T38 : List Row := (38, (rowF [(.int .i64)] none fun g => insn_jumpsV ((g 0).num))) :: T39
theorem T38_ok : PSound Try.prog (lookR T38) := lookR_cons insn_jumpsO T39_ok

/- sallyport/insn.Of -/
def insn_Of0 (a0 : Int) : Bool :=
  bif iEq (insn_Class0 a0) 1 then insn_jumps0 a0
  else
    bif iEq (insn_Class0 a0) 2 then false
    else
      bif iEq (insn_Class0 a0) 3 then true
      else
        bif iEq (insn_Class0 a0) 4 then false
        else
          bif iEq (insn_Class0 a0) 5 then insn_withNumber0 a0
          else
            bif iEq (insn_Class0 a0) 6 then true
            else
              bif iEq (insn_Class0 a0) 9 then bif iLe 57 a0 then true else true
              else bif iEq (insn_Class0 a0) 11 then false else bif iEq (insn_Class0 a0) 12 then bif iEq a0 69 then false else true else false
def insn_Of1 (a0 : Int) : Bool :=
  bif iEq (insn_Class0 a0) 1 then insn_jumps1 a0
  else
    bif iEq (insn_Class0 a0) 2 then false
    else
      bif iEq (insn_Class0 a0) 3 then false
      else
        bif iEq (insn_Class0 a0) 4 then false
        else
          bif iEq (insn_Class0 a0) 5 then insn_withNumber1 a0
          else
            bif iEq (insn_Class0 a0) 6 then false
            else
              bif iEq (insn_Class0 a0) 9 then bif iLe 57 a0 then true else true
              else bif iEq (insn_Class0 a0) 11 then false else bif iEq (insn_Class0 a0) 12 then bif iEq a0 69 then false else false else false
def insn_Of2 (a0 : Int) : Bool :=
  bif iEq (insn_Class0 a0) 1 then insn_jumps2 a0
  else
    bif iEq (insn_Class0 a0) 2 then true
    else
      bif iEq (insn_Class0 a0) 3 then true
      else
        bif iEq (insn_Class0 a0) 4 then true
        else
          bif iEq (insn_Class0 a0) 5 then insn_withNumber2 a0
          else
            bif iEq (insn_Class0 a0) 6 then true
            else
              bif iEq (insn_Class0 a0) 9 then bif iLe 57 a0 then false else true
              else bif iEq (insn_Class0 a0) 11 then true else bif iEq (insn_Class0 a0) 12 then bif iEq a0 69 then true else true else false
def insn_Of3 (a0 : Int) : Bool :=
  bif iEq (insn_Class0 a0) 1 then insn_jumps3 a0
  else
    bif iEq (insn_Class0 a0) 2 then true
    else
      bif iEq (insn_Class0 a0) 3 then false
      else
        bif iEq (insn_Class0 a0) 4 then true
        else
          bif iEq (insn_Class0 a0) 5 then insn_withNumber3 a0
          else
            bif iEq (insn_Class0 a0) 6 then true
            else
              bif iEq (insn_Class0 a0) 9 then bif iLe 57 a0 then false else false
              else bif iEq (insn_Class0 a0) 11 then true else bif iEq (insn_Class0 a0) 12 then bif iEq a0 69 then true else false else false
def insn_Of4 (a0 : Int) : Int :=
  bif iEq (insn_Class0 a0) 1 then insn_jumps4 a0
  else
    bif iEq (insn_Class0 a0) 2 then -4096
    else
      bif iEq (insn_Class0 a0) 3 then -2048
      else
        bif iEq (insn_Class0 a0) 4 then -2048
        else
          bif iEq (insn_Class0 a0) 5 then insn_withNumber4 a0
          else
            bif iEq (insn_Class0 a0) 6 then 0
            else bif iEq (insn_Class0 a0) 9 then bif iLe 57 a0 then 0 else 0 else bif iEq (insn_Class0 a0) 11 then 0 else bif iEq (insn_Class0 a0) 12 then bif iEq a0 69 then 0 else 0 else 0
def insn_Of5 (a0 : Int) : Int :=
  bif iEq (insn_Class0 a0) 1 then insn_jumps5 a0
  else
    bif iEq (insn_Class0 a0) 2 then 4094
    else
      bif iEq (insn_Class0 a0) 3 then 2047
      else
        bif iEq (insn_Class0 a0) 4 then 2047
        else
          bif iEq (insn_Class0 a0) 5 then insn_withNumber5 a0
          else
            bif iEq (insn_Class0 a0) 6 then 0
            else bif iEq (insn_Class0 a0) 9 then bif iLe 57 a0 then 31 else 0 else bif iEq (insn_Class0 a0) 11 then 0 else bif iEq (insn_Class0 a0) 12 then bif iEq a0 69 then 0 else 0 else 0
def insn_Of6 (a0 : Int) : Int :=
  bif iEq (insn_Class0 a0) 1 then insn_jumps6 a0
  else
    bif iEq (insn_Class0 a0) 2 then 2
    else
      bif iEq (insn_Class0 a0) 3 then 1
      else
        bif iEq (insn_Class0 a0) 4 then 1
        else
          bif iEq (insn_Class0 a0) 5 then insn_withNumber6 a0
          else
            bif iEq (insn_Class0 a0) 6 then 0
            else bif iEq (insn_Class0 a0) 9 then bif iLe 57 a0 then 1 else 0 else bif iEq (insn_Class0 a0) 11 then 0 else bif iEq (insn_Class0 a0) 12 then bif iEq a0 69 then 0 else 0 else 0
def insn_OfG (a0 : Int) : Bool :=
  bif iEq (insn_Class0 a0) 1 then true
  else
    bif iEq (insn_Class0 a0) 2 then true
    else
      bif iEq (insn_Class0 a0) 3 then true
      else
        bif iEq (insn_Class0 a0) 4 then true
        else
          bif iEq (insn_Class0 a0) 5 then true
          else
            bif iEq (insn_Class0 a0) 6 then true
            else
              bif iEq (insn_Class0 a0) 9 then bif iLe 57 a0 then true else true
              else bif iEq (insn_Class0 a0) 11 then true else bif iEq (insn_Class0 a0) 12 then bif iEq a0 69 then true else true else true
def insn_OfV (a0 : Int) : AV := .agg [.bl (insn_Of0 a0), .bl (insn_Of1 a0), .bl (insn_Of2 a0), .bl (insn_Of3 a0), .it .i64 (insn_Of4 a0), .it .i64 (insn_Of5 a0), .it .i64 (insn_Of6 a0)]
theorem insn_OfE (g : Nat → AV) : pcOf Try.prog okT (lookR T38) (NOH) RO NOV 100 false Try.f32 (norms [(.int .i64)] 0 g) = some (insn_OfG ((g 0).num), insn_OfV ((g 0).num)) := by kernel_rfl
theorem insn_OfP : Plain Try.prog 32 Try.f32 := ⟨Try.func32, of_decide_eq_true (by kernel_rfl)⟩
theorem insn_OfT (a0 : Int) : insn_OfG a0 = true := by first | (simp [insn_OfG]; done) | (simp [insn_OfG, Go.Ev.iEq, Go.Ev.iNe, Go.Ev.iLt, Go.Ev.iLe, Go.Ev.iIn]; omega)
theorem insn_OfO : RowOk Try.prog 32 (rowF [(.int .i64)] none fun g => insn_OfV ((g 0).num)) := rowT_ok fun g => pcOf_ok mix fair T38_ok (HSound_none) insn_OfP (fun c _ => OvOk_none c) (insn_OfE g) (insn_OfT ((g 0).num))
def T32 : List Row := (32, (rowF [(.int .i64)] none fun g => insn_OfV ((g 0).num))) :: T38
theorem T32_ok : PSound Try.prog (lookR T32) := lookR_cons insn_OfO T38_ok

/- sallyport/insn.Is -/
def insn_Is0 (a0_Op : Int) (a0_Rd : Int) (a0_Rs1 : Int) (a0_Rs2 : Int) (a0_Imm : Int) (a0_CSR : Int) : Bool :=
  bif iEq (insn_Class0 a0_Op) 0 then false
  else
    bif
        bif bif iEq (insn_Of6 a0_Op) 0 then iNe a0_Imm 0 else false then true
        else bif iLt 0 (insn_Of6 a0_Op) then bif bif iLt a0_Imm (insn_Of4 a0_Op) then true else iLt (insn_Of5 a0_Op) a0_Imm then true else iNe (iRem a0_Imm (insn_Of6 a0_Op)) 0 else false then
      false
    else
      bif bif bif insn_field0 (insn_Of0 a0_Op) a0_Rd 32 then insn_field0 (insn_Of2 a0_Op) a0_Rs1 32 else false then insn_field0 (insn_Of3 a0_Op) a0_Rs2 32 else false then
        insn_field0 (insn_Of1 a0_Op) a0_CSR 4096
      else false
def insn_IsG (a0_Op : Int) (a0_Rd : Int) (a0_Rs1 : Int) (a0_Rs2 : Int) (a0_Imm : Int) (a0_CSR : Int) : Bool :=
  bif iEq (insn_Class0 a0_Op) 0 then true
  else
    (!((!bif iEq (insn_Of6 a0_Op) 0 then iNe a0_Imm 0 else false) && iLt 0 (insn_Of6 a0_Op) && !bif iLt a0_Imm (insn_Of4 a0_Op) then true else iLt (insn_Of5 a0_Op) a0_Imm) || iNe (insn_Of6 a0_Op) 0) &&
      bif
          bif bif iEq (insn_Of6 a0_Op) 0 then iNe a0_Imm 0 else false then true
          else bif iLt 0 (insn_Of6 a0_Op) then bif bif iLt a0_Imm (insn_Of4 a0_Op) then true else iLt (insn_Of5 a0_Op) a0_Imm then true else iNe (iRem a0_Imm (insn_Of6 a0_Op)) 0 else false then
        true
      else true
def insn_IsV (a0_Op : Int) (a0_Rd : Int) (a0_Rs1 : Int) (a0_Rs2 : Int) (a0_Imm : Int) (a0_CSR : Int) : AV := .bl (insn_Is0 a0_Op a0_Rd a0_Rs1 a0_Rs2 a0_Imm a0_CSR)
theorem insn_IsE (g : Nat → AV) : pcOf Try.prog okT (lookR T32) (NOH) RO NOV 100 false Try.f25 (norms [(.agg [(.int .i64), (.int .i64), (.int .i64), (.int .i64), (.int .i64), (.int .i64)])] 0 g) = some (insn_IsG (((g 0).fld 0).num) (((g 0).fld 1).num) (((g 0).fld 2).num) (((g 0).fld 3).num) (((g 0).fld 4).num) (((g 0).fld 5).num), insn_IsV (((g 0).fld 0).num) (((g 0).fld 1).num) (((g 0).fld 2).num) (((g 0).fld 3).num) (((g 0).fld 4).num) (((g 0).fld 5).num)) := by kernel_rfl
theorem insn_IsP : Plain Try.prog 25 Try.f25 := ⟨Try.func25, of_decide_eq_true (by kernel_rfl)⟩
theorem insn_IsT (a0_Op : Int) (a0_Rd : Int) (a0_Rs1 : Int) (a0_Rs2 : Int) (a0_Imm : Int) (a0_CSR : Int) : insn_IsG a0_Op a0_Rd a0_Rs1 a0_Rs2 a0_Imm a0_CSR = true := by first | (simp [insn_IsG]; done) | (simp [insn_IsG, Go.Ev.iEq, Go.Ev.iNe, Go.Ev.iLt, Go.Ev.iLe, Go.Ev.iIn]; omega)
theorem insn_IsO : RowOk Try.prog 25 (rowF [(.agg [(.int .i64), (.int .i64), (.int .i64), (.int .i64), (.int .i64), (.int .i64)])] none fun g => insn_IsV (((g 0).fld 0).num) (((g 0).fld 1).num) (((g 0).fld 2).num) (((g 0).fld 3).num) (((g 0).fld 4).num) (((g 0).fld 5).num)) := rowT_ok fun g => pcOf_ok mix fair T32_ok (HSound_none) insn_IsP (fun c _ => OvOk_none c) (insn_IsE g) (insn_IsT (((g 0).fld 0).num) (((g 0).fld 1).num) (((g 0).fld 2).num) (((g 0).fld 3).num) (((g 0).fld 4).num) (((g 0).fld 5).num))
def T25 : List Row := (25, (rowF [(.agg [(.int .i64), (.int .i64), (.int .i64), (.int .i64), (.int .i64), (.int .i64)])] none fun g => insn_IsV (((g 0).fld 0).num) (((g 0).fld 1).num) (((g 0).fld 2).num) (((g 0).fld 3).num) (((g 0).fld 4).num) (((g 0).fld 5).num))) :: T32
theorem T25_ok : PSound Try.prog (lookR T25) := lookR_cons insn_IsO T32_ok

/- sallyport/insn.Writes -/
def insn_Writes0 (a0_Op : Int) (a0_Rd : Int) (a0_Rs1 : Int) (a0_Rs2 : Int) (a0_Imm : Int) (a0_CSR : Int) : Int :=
  bif !insn_Is0 a0_Op a0_Rd a0_Rs1 a0_Rs2 a0_Imm a0_CSR then 0 else a0_Rd
def insn_WritesG (a0_Op : Int) (a0_Rd : Int) (a0_Rs1 : Int) (a0_Rs2 : Int) (a0_Imm : Int) (a0_CSR : Int) : Bool :=
  bif !insn_Is0 a0_Op a0_Rd a0_Rs1 a0_Rs2 a0_Imm a0_CSR then true else true
def insn_WritesV (a0_Op : Int) (a0_Rd : Int) (a0_Rs1 : Int) (a0_Rs2 : Int) (a0_Imm : Int) (a0_CSR : Int) : AV := .it .i64 (insn_Writes0 a0_Op a0_Rd a0_Rs1 a0_Rs2 a0_Imm a0_CSR)
theorem insn_WritesE (g : Nat → AV) : pcOf Try.prog okT (lookR T25) (NOH) RO NOV 100 false Try.f22 (norms [(.agg [(.int .i64), (.int .i64), (.int .i64), (.int .i64), (.int .i64), (.int .i64)])] 0 g) = some (insn_WritesG (((g 0).fld 0).num) (((g 0).fld 1).num) (((g 0).fld 2).num) (((g 0).fld 3).num) (((g 0).fld 4).num) (((g 0).fld 5).num), insn_WritesV (((g 0).fld 0).num) (((g 0).fld 1).num) (((g 0).fld 2).num) (((g 0).fld 3).num) (((g 0).fld 4).num) (((g 0).fld 5).num)) := by kernel_rfl
theorem insn_WritesP : Plain Try.prog 22 Try.f22 := ⟨Try.func22, of_decide_eq_true (by kernel_rfl)⟩
theorem insn_WritesT (a0_Op : Int) (a0_Rd : Int) (a0_Rs1 : Int) (a0_Rs2 : Int) (a0_Imm : Int) (a0_CSR : Int) : insn_WritesG a0_Op a0_Rd a0_Rs1 a0_Rs2 a0_Imm a0_CSR = true := by first | (simp [insn_WritesG]; done) | (simp [insn_WritesG, Go.Ev.iEq, Go.Ev.iNe, Go.Ev.iLt, Go.Ev.iLe, Go.Ev.iIn]; omega)
theorem insn_WritesO : RowOk Try.prog 22 (rowF [(.agg [(.int .i64), (.int .i64), (.int .i64), (.int .i64), (.int .i64), (.int .i64)])] none fun g => insn_WritesV (((g 0).fld 0).num) (((g 0).fld 1).num) (((g 0).fld 2).num) (((g 0).fld 3).num) (((g 0).fld 4).num) (((g 0).fld 5).num)) := rowT_ok fun g => pcOf_ok mix fair T25_ok (HSound_none) insn_WritesP (fun c _ => OvOk_none c) (insn_WritesE g) (insn_WritesT (((g 0).fld 0).num) (((g 0).fld 1).num) (((g 0).fld 2).num) (((g 0).fld 3).num) (((g 0).fld 4).num) (((g 0).fld 5).num))
def T22 : List Row := (22, (rowF [(.agg [(.int .i64), (.int .i64), (.int .i64), (.int .i64), (.int .i64), (.int .i64)])] none fun g => insn_WritesV (((g 0).fld 0).num) (((g 0).fld 1).num) (((g 0).fld 2).num) (((g 0).fld 3).num) (((g 0).fld 4).num) (((g 0).fld 5).num))) :: T25
theorem T22_ok : PSound Try.prog (lookR T22) := lookR_cons insn_WritesO T25_ok

/- sallyport/insn.Reads -/
def insn_Reads0 (a0_Op : Int) (a0_Rd : Int) (a0_Rs1 : Int) (a0_Rs2 : Int) (a0_Imm : Int) (a0_CSR : Int) : Int :=
  bif !insn_Is0 a0_Op a0_Rd a0_Rs1 a0_Rs2 a0_Imm a0_CSR then 0 else a0_Rs1
def insn_Reads1 (a0_Op : Int) (a0_Rd : Int) (a0_Rs1 : Int) (a0_Rs2 : Int) (a0_Imm : Int) (a0_CSR : Int) : Int :=
  bif !insn_Is0 a0_Op a0_Rd a0_Rs1 a0_Rs2 a0_Imm a0_CSR then 0 else a0_Rs2
def insn_ReadsG (a0_Op : Int) (a0_Rd : Int) (a0_Rs1 : Int) (a0_Rs2 : Int) (a0_Imm : Int) (a0_CSR : Int) : Bool :=
  bif !insn_Is0 a0_Op a0_Rd a0_Rs1 a0_Rs2 a0_Imm a0_CSR then true else true
def insn_ReadsV (a0_Op : Int) (a0_Rd : Int) (a0_Rs1 : Int) (a0_Rs2 : Int) (a0_Imm : Int) (a0_CSR : Int) : AV := .tup [.it .i64 (insn_Reads0 a0_Op a0_Rd a0_Rs1 a0_Rs2 a0_Imm a0_CSR), .it .i64 (insn_Reads1 a0_Op a0_Rd a0_Rs1 a0_Rs2 a0_Imm a0_CSR)]
theorem insn_ReadsE (g : Nat → AV) : pcOf Try.prog okT (lookR T22) (NOH) RO NOV 100 false Try.f21 (norms [(.agg [(.int .i64), (.int .i64), (.int .i64), (.int .i64), (.int .i64), (.int .i64)])] 0 g) = some (insn_ReadsG (((g 0).fld 0).num) (((g 0).fld 1).num) (((g 0).fld 2).num) (((g 0).fld 3).num) (((g 0).fld 4).num) (((g 0).fld 5).num), insn_ReadsV (((g 0).fld 0).num) (((g 0).fld 1).num) (((g 0).fld 2).num) (((g 0).fld 3).num) (((g 0).fld 4).num) (((g 0).fld 5).num)) := by kernel_rfl
theorem insn_ReadsP : Plain Try.prog 21 Try.f21 := ⟨Try.func21, of_decide_eq_true (by kernel_rfl)⟩
theorem insn_ReadsT (a0_Op : Int) (a0_Rd : Int) (a0_Rs1 : Int) (a0_Rs2 : Int) (a0_Imm : Int) (a0_CSR : Int) : insn_ReadsG a0_Op a0_Rd a0_Rs1 a0_Rs2 a0_Imm a0_CSR = true := by first | (simp [insn_ReadsG]; done) | (simp [insn_ReadsG, Go.Ev.iEq, Go.Ev.iNe, Go.Ev.iLt, Go.Ev.iLe, Go.Ev.iIn]; omega)
theorem insn_ReadsO : RowOk Try.prog 21 (rowF [(.agg [(.int .i64), (.int .i64), (.int .i64), (.int .i64), (.int .i64), (.int .i64)])] none fun g => insn_ReadsV (((g 0).fld 0).num) (((g 0).fld 1).num) (((g 0).fld 2).num) (((g 0).fld 3).num) (((g 0).fld 4).num) (((g 0).fld 5).num)) := rowT_ok fun g => pcOf_ok mix fair T22_ok (HSound_none) insn_ReadsP (fun c _ => OvOk_none c) (insn_ReadsE g) (insn_ReadsT (((g 0).fld 0).num) (((g 0).fld 1).num) (((g 0).fld 2).num) (((g 0).fld 3).num) (((g 0).fld 4).num) (((g 0).fld 5).num))
def T21 : List Row := (21, (rowF [(.agg [(.int .i64), (.int .i64), (.int .i64), (.int .i64), (.int .i64), (.int .i64)])] none fun g => insn_ReadsV (((g 0).fld 0).num) (((g 0).fld 1).num) (((g 0).fld 2).num) (((g 0).fld 3).num) (((g 0).fld 4).num) (((g 0).fld 5).num))) :: T22
theorem T21_ok : PSound Try.prog (lookR T21) := lookR_cons insn_ReadsO T22_ok

/- sallyport/hazard.Uses -/
def hazard_Uses0 (a0_Op : Int) (a0_Rd : Int) (a0_Rs1 : Int) (a0_Rs2 : Int) (a0_Imm : Int) (a0_CSR : Int) (a1 : Int) : Bool :=
  bif iNe a1 0 then bif iEq a1 (insn_Reads0 a0_Op a0_Rd a0_Rs1 a0_Rs2 a0_Imm a0_CSR) then true else iEq a1 (insn_Reads1 a0_Op a0_Rd a0_Rs1 a0_Rs2 a0_Imm a0_CSR) else false
def hazard_UsesG (a0_Op : Int) (a0_Rd : Int) (a0_Rs1 : Int) (a0_Rs2 : Int) (a0_Imm : Int) (a0_CSR : Int) (a1 : Int) : Bool :=
  true
def hazard_UsesV (a0_Op : Int) (a0_Rd : Int) (a0_Rs1 : Int) (a0_Rs2 : Int) (a0_Imm : Int) (a0_CSR : Int) (a1 : Int) : AV := .bl (hazard_Uses0 a0_Op a0_Rd a0_Rs1 a0_Rs2 a0_Imm a0_CSR a1)
theorem hazard_UsesE (g : Nat → AV) : pcOf Try.prog okT (lookR T21) (NOH) RO NOV 100 false Try.f15 (norms [(.agg [(.int .i64), (.int .i64), (.int .i64), (.int .i64), (.int .i64), (.int .i64)]), (.int .i64)] 0 g) = some (hazard_UsesG (((g 0).fld 0).num) (((g 0).fld 1).num) (((g 0).fld 2).num) (((g 0).fld 3).num) (((g 0).fld 4).num) (((g 0).fld 5).num) ((g 1).num), hazard_UsesV (((g 0).fld 0).num) (((g 0).fld 1).num) (((g 0).fld 2).num) (((g 0).fld 3).num) (((g 0).fld 4).num) (((g 0).fld 5).num) ((g 1).num)) := by kernel_rfl
theorem hazard_UsesP : Plain Try.prog 15 Try.f15 := ⟨Try.func15, of_decide_eq_true (by kernel_rfl)⟩
theorem hazard_UsesT (a0_Op : Int) (a0_Rd : Int) (a0_Rs1 : Int) (a0_Rs2 : Int) (a0_Imm : Int) (a0_CSR : Int) (a1 : Int) : hazard_UsesG a0_Op a0_Rd a0_Rs1 a0_Rs2 a0_Imm a0_CSR a1 = true := rfl
theorem hazard_UsesO : RowOk Try.prog 15 (rowF [(.agg [(.int .i64), (.int .i64), (.int .i64), (.int .i64), (.int .i64), (.int .i64)]), (.int .i64)] none fun g => hazard_UsesV (((g 0).fld 0).num) (((g 0).fld 1).num) (((g 0).fld 2).num) (((g 0).fld 3).num) (((g 0).fld 4).num) (((g 0).fld 5).num) ((g 1).num)) := rowT_ok fun g => pcOf_ok mix fair T21_ok (HSound_none) hazard_UsesP (fun c _ => OvOk_none c) (hazard_UsesE g) (hazard_UsesT (((g 0).fld 0).num) (((g 0).fld 1).num) (((g 0).fld 2).num) (((g 0).fld 3).num) (((g 0).fld 4).num) (((g 0).fld 5).num) ((g 1).num))
def T15 : List Row := (15, (rowF [(.agg [(.int .i64), (.int .i64), (.int .i64), (.int .i64), (.int .i64), (.int .i64)]), (.int .i64)] none fun g => hazard_UsesV (((g 0).fld 0).num) (((g 0).fld 1).num) (((g 0).fld 2).num) (((g 0).fld 3).num) (((g 0).fld 4).num) (((g 0).fld 5).num) ((g 1).num))) :: T21
theorem T15_ok : PSound Try.prog (lookR T15) := lookR_cons hazard_UsesO T21_ok

/- sallyport/hazard.Passes -/
def hazard_Passes0 (a0_Op : Int) (a0_Rd : Int) (a0_Rs1 : Int) (a0_Rs2 : Int) (a0_Imm : Int) (a0_CSR : Int) (a1_Op : Int) (a1_Rd : Int) (a1_Rs1 : Int) (a1_Rs2 : Int) (a1_Imm : Int) (a1_CSR : Int) : Bool :=
  hazard_Uses0 a1_Op a1_Rd a1_Rs1 a1_Rs2 a1_Imm a1_CSR (insn_Writes0 a0_Op a0_Rd a0_Rs1 a0_Rs2 a0_Imm a0_CSR)
def hazard_PassesG (a0_Op : Int) (a0_Rd : Int) (a0_Rs1 : Int) (a0_Rs2 : Int) (a0_Imm : Int) (a0_CSR : Int) (a1_Op : Int) (a1_Rd : Int) (a1_Rs1 : Int) (a1_Rs2 : Int) (a1_Imm : Int) (a1_CSR : Int) : Bool :=
  true
def hazard_PassesV (a0_Op : Int) (a0_Rd : Int) (a0_Rs1 : Int) (a0_Rs2 : Int) (a0_Imm : Int) (a0_CSR : Int) (a1_Op : Int) (a1_Rd : Int) (a1_Rs1 : Int) (a1_Rs2 : Int) (a1_Imm : Int) (a1_CSR : Int) : AV := .bl (hazard_Passes0 a0_Op a0_Rd a0_Rs1 a0_Rs2 a0_Imm a0_CSR a1_Op a1_Rd a1_Rs1 a1_Rs2 a1_Imm a1_CSR)
theorem hazard_PassesE (g : Nat → AV) : pcOf Try.prog okT (lookR T15) (NOH) RO NOV 100 false Try.f16 (norms [(.agg [(.int .i64), (.int .i64), (.int .i64), (.int .i64), (.int .i64), (.int .i64)]), (.agg [(.int .i64), (.int .i64), (.int .i64), (.int .i64), (.int .i64), (.int .i64)])] 0 g) = some (hazard_PassesG (((g 0).fld 0).num) (((g 0).fld 1).num) (((g 0).fld 2).num) (((g 0).fld 3).num) (((g 0).fld 4).num) (((g 0).fld 5).num) (((g 1).fld 0).num) (((g 1).fld 1).num) (((g 1).fld 2).num) (((g 1).fld 3).num) (((g 1).fld 4).num) (((g 1).fld 5).num), hazard_PassesV (((g 0).fld 0).num) (((g 0).fld 1).num) (((g 0).fld 2).num) (((g 0).fld 3).num) (((g 0).fld 4).num) (((g 0).fld 5).num) (((g 1).fld 0).num) (((g 1).fld 1).num) (((g 1).fld 2).num) (((g 1).fld 3).num) (((g 1).fld 4).num) (((g 1).fld 5).num)) := by kernel_rfl
theorem hazard_PassesP : Plain Try.prog 16 Try.f16 := ⟨Try.func16, of_decide_eq_true (by kernel_rfl)⟩
theorem hazard_PassesT (a0_Op : Int) (a0_Rd : Int) (a0_Rs1 : Int) (a0_Rs2 : Int) (a0_Imm : Int) (a0_CSR : Int) (a1_Op : Int) (a1_Rd : Int) (a1_Rs1 : Int) (a1_Rs2 : Int) (a1_Imm : Int) (a1_CSR : Int) : hazard_PassesG a0_Op a0_Rd a0_Rs1 a0_Rs2 a0_Imm a0_CSR a1_Op a1_Rd a1_Rs1 a1_Rs2 a1_Imm a1_CSR = true := rfl
theorem hazard_PassesO : RowOk Try.prog 16 (rowF [(.agg [(.int .i64), (.int .i64), (.int .i64), (.int .i64), (.int .i64), (.int .i64)]), (.agg [(.int .i64), (.int .i64), (.int .i64), (.int .i64), (.int .i64), (.int .i64)])] none fun g => hazard_PassesV (((g 0).fld 0).num) (((g 0).fld 1).num) (((g 0).fld 2).num) (((g 0).fld 3).num) (((g 0).fld 4).num) (((g 0).fld 5).num) (((g 1).fld 0).num) (((g 1).fld 1).num) (((g 1).fld 2).num) (((g 1).fld 3).num) (((g 1).fld 4).num) (((g 1).fld 5).num)) := rowT_ok fun g => pcOf_ok mix fair T15_ok (HSound_none) hazard_PassesP (fun c _ => OvOk_none c) (hazard_PassesE g) (hazard_PassesT (((g 0).fld 0).num) (((g 0).fld 1).num) (((g 0).fld 2).num) (((g 0).fld 3).num) (((g 0).fld 4).num) (((g 0).fld 5).num) (((g 1).fld 0).num) (((g 1).fld 1).num) (((g 1).fld 2).num) (((g 1).fld 3).num) (((g 1).fld 4).num) (((g 1).fld 5).num))
def T16 : List Row := (16, (rowF [(.agg [(.int .i64), (.int .i64), (.int .i64), (.int .i64), (.int .i64), (.int .i64)]), (.agg [(.int .i64), (.int .i64), (.int .i64), (.int .i64), (.int .i64), (.int .i64)])] none fun g => hazard_PassesV (((g 0).fld 0).num) (((g 0).fld 1).num) (((g 0).fld 2).num) (((g 0).fld 3).num) (((g 0).fld 4).num) (((g 0).fld 5).num) (((g 1).fld 0).num) (((g 1).fld 1).num) (((g 1).fld 2).num) (((g 1).fld 3).num) (((g 1).fld 4).num) (((g 1).fld 5).num))) :: T15
theorem T16_ok : PSound Try.prog (lookR T16) := lookR_cons hazard_PassesO T15_ok

theorem class_in (n : Int) : 0 ≤ insn_Class0 n ∧ insn_Class0 n < 13 := by
  show (fun x : Int => 0 ≤ x ∧ x < 13) (insn_Class0 n)
  unfold insn_Class0
  repeat' (refine cond_all (p := fun x : Int => 0 ≤ x ∧ x < 13) ?_ ?_)
  all_goals decide
/- sallyport/hazard.Waits -/
def hazard_Waits0 (a0_Op : Int) (a0_Rd : Int) (a0_Rs1 : Int) (a0_Rs2 : Int) (a0_Imm : Int) (a0_CSR : Int) (a1_Op : Int) (a1_Rd : Int) (a1_Rs1 : Int) (a1_Rs2 : Int) (a1_Imm : Int) (a1_CSR : Int) : Bool :=
  bif bif (insn_Class0 a0_Op).toNat == 12 then true else bif (insn_Class0 a0_Op).toNat == 3 then true else false then
    hazard_Passes0 a0_Op a0_Rd a0_Rs1 a0_Rs2 a0_Imm a0_CSR a1_Op a1_Rd a1_Rs1 a1_Rs2 a1_Imm a1_CSR
  else false
def hazard_WaitsG (a0_Op : Int) (a0_Rd : Int) (a0_Rs1 : Int) (a0_Rs2 : Int) (a0_Imm : Int) (a0_CSR : Int) (a1_Op : Int) (a1_Rd : Int) (a1_Rs1 : Int) (a1_Rs2 : Int) (a1_Imm : Int) (a1_CSR : Int) : Bool :=
  iIn (insn_Class0 a0_Op) 13 && true
def hazard_WaitsV (a0_Op : Int) (a0_Rd : Int) (a0_Rs1 : Int) (a0_Rs2 : Int) (a0_Imm : Int) (a0_CSR : Int) (a1_Op : Int) (a1_Rd : Int) (a1_Rs1 : Int) (a1_Rs2 : Int) (a1_Imm : Int) (a1_CSR : Int) : AV := .bl (hazard_Waits0 a0_Op a0_Rd a0_Rs1 a0_Rs2 a0_Imm a0_CSR a1_Op a1_Rd a1_Rs1 a1_Rs2 a1_Imm a1_CSR)
theorem hazard_WaitsE (g : Nat → AV) : pcOf Try.prog okT (lookR T16) (NOH) RO NOV 100 false Try.f17 (norms [(.agg [(.int .i64), (.int .i64), (.int .i64), (.int .i64), (.int .i64), (.int .i64)]), (.agg [(.int .i64), (.int .i64), (.int .i64), (.int .i64), (.int .i64), (.int .i64)])] 0 g) = some (hazard_WaitsG (((g 0).fld 0).num) (((g 0).fld 1).num) (((g 0).fld 2).num) (((g 0).fld 3).num) (((g 0).fld 4).num) (((g 0).fld 5).num) (((g 1).fld 0).num) (((g 1).fld 1).num) (((g 1).fld 2).num) (((g 1).fld 3).num) (((g 1).fld 4).num) (((g 1).fld 5).num), hazard_WaitsV (((g 0).fld 0).num) (((g 0).fld 1).num) (((g 0).fld 2).num) (((g 0).fld 3).num) (((g 0).fld 4).num) (((g 0).fld 5).num) (((g 1).fld 0).num) (((g 1).fld 1).num) (((g 1).fld 2).num) (((g 1).fld 3).num) (((g 1).fld 4).num) (((g 1).fld 5).num)) := by kernel_rfl
theorem hazard_WaitsP : Plain Try.prog 17 Try.f17 := ⟨Try.func17, of_decide_eq_true (by kernel_rfl)⟩
theorem hazard_WaitsT (a0_Op : Int) (a0_Rd : Int) (a0_Rs1 : Int) (a0_Rs2 : Int) (a0_Imm : Int) (a0_CSR : Int) (a1_Op : Int) (a1_Rd : Int) (a1_Rs1 : Int) (a1_Rs2 : Int) (a1_Imm : Int) (a1_CSR : Int) : hazard_WaitsG a0_Op a0_Rd a0_Rs1 a0_Rs2 a0_Imm a0_CSR a1_Op a1_Rd a1_Rs1 a1_Rs2 a1_Imm a1_CSR = true := by simp [hazard_WaitsG, Go.Ev.iIn, class_in]
theorem hazard_WaitsO : RowOk Try.prog 17 (rowF [(.agg [(.int .i64), (.int .i64), (.int .i64), (.int .i64), (.int .i64), (.int .i64)]), (.agg [(.int .i64), (.int .i64), (.int .i64), (.int .i64), (.int .i64), (.int .i64)])] none fun g => hazard_WaitsV (((g 0).fld 0).num) (((g 0).fld 1).num) (((g 0).fld 2).num) (((g 0).fld 3).num) (((g 0).fld 4).num) (((g 0).fld 5).num) (((g 1).fld 0).num) (((g 1).fld 1).num) (((g 1).fld 2).num) (((g 1).fld 3).num) (((g 1).fld 4).num) (((g 1).fld 5).num)) := rowT_ok fun g => pcOf_ok mix fair T16_ok (HSound_none) hazard_WaitsP (fun c _ => OvOk_none c) (hazard_WaitsE g) (hazard_WaitsT (((g 0).fld 0).num) (((g 0).fld 1).num) (((g 0).fld 2).num) (((g 0).fld 3).num) (((g 0).fld 4).num) (((g 0).fld 5).num) (((g 1).fld 0).num) (((g 1).fld 1).num) (((g 1).fld 2).num) (((g 1).fld 3).num) (((g 1).fld 4).num) (((g 1).fld 5).num))
def T17 : List Row := (17, (rowF [(.agg [(.int .i64), (.int .i64), (.int .i64), (.int .i64), (.int .i64), (.int .i64)]), (.agg [(.int .i64), (.int .i64), (.int .i64), (.int .i64), (.int .i64), (.int .i64)])] none fun g => hazard_WaitsV (((g 0).fld 0).num) (((g 0).fld 1).num) (((g 0).fld 2).num) (((g 0).fld 3).num) (((g 0).fld 4).num) (((g 0).fld 5).num) (((g 1).fld 0).num) (((g 1).fld 1).num) (((g 1).fld 2).num) (((g 1).fld 3).num) (((g 1).fld 4).num) (((g 1).fld 5).num))) :: T16
theorem T17_ok : PSound Try.prog (lookR T17) := lookR_cons hazard_WaitsO T16_ok

/- sallyport/hazard.Alone -/
def hazard_Alone0 (a0_Op : Int) (a0_Rd : Int) (a0_Rs1 : Int) (a0_Rs2 : Int) (a0_Imm : Int) (a0_CSR : Int) : Bool :=
  bif iEq a0_Op 51 then true else iLe 8 (insn_Class0 a0_Op)
def hazard_AloneG (a0_Op : Int) (a0_Rd : Int) (a0_Rs1 : Int) (a0_Rs2 : Int) (a0_Imm : Int) (a0_CSR : Int) : Bool :=
  true
def hazard_AloneV (a0_Op : Int) (a0_Rd : Int) (a0_Rs1 : Int) (a0_Rs2 : Int) (a0_Imm : Int) (a0_CSR : Int) : AV := .bl (hazard_Alone0 a0_Op a0_Rd a0_Rs1 a0_Rs2 a0_Imm a0_CSR)
theorem hazard_AloneE (g : Nat → AV) : pcOf Try.prog okT (lookR T17) (NOH) RO NOV 100 false Try.f18 (norms [(.agg [(.int .i64), (.int .i64), (.int .i64), (.int .i64), (.int .i64), (.int .i64)])] 0 g) = some (hazard_AloneG (((g 0).fld 0).num) (((g 0).fld 1).num) (((g 0).fld 2).num) (((g 0).fld 3).num) (((g 0).fld 4).num) (((g 0).fld 5).num), hazard_AloneV (((g 0).fld 0).num) (((g 0).fld 1).num) (((g 0).fld 2).num) (((g 0).fld 3).num) (((g 0).fld 4).num) (((g 0).fld 5).num)) := by kernel_rfl
theorem hazard_AloneP : Plain Try.prog 18 Try.f18 := ⟨Try.func18, of_decide_eq_true (by kernel_rfl)⟩
theorem hazard_AloneT (a0_Op : Int) (a0_Rd : Int) (a0_Rs1 : Int) (a0_Rs2 : Int) (a0_Imm : Int) (a0_CSR : Int) : hazard_AloneG a0_Op a0_Rd a0_Rs1 a0_Rs2 a0_Imm a0_CSR = true := rfl
theorem hazard_AloneO : RowOk Try.prog 18 (rowF [(.agg [(.int .i64), (.int .i64), (.int .i64), (.int .i64), (.int .i64), (.int .i64)])] none fun g => hazard_AloneV (((g 0).fld 0).num) (((g 0).fld 1).num) (((g 0).fld 2).num) (((g 0).fld 3).num) (((g 0).fld 4).num) (((g 0).fld 5).num)) := rowT_ok fun g => pcOf_ok mix fair T17_ok (HSound_none) hazard_AloneP (fun c _ => OvOk_none c) (hazard_AloneE g) (hazard_AloneT (((g 0).fld 0).num) (((g 0).fld 1).num) (((g 0).fld 2).num) (((g 0).fld 3).num) (((g 0).fld 4).num) (((g 0).fld 5).num))
def T18 : List Row := (18, (rowF [(.agg [(.int .i64), (.int .i64), (.int .i64), (.int .i64), (.int .i64), (.int .i64)])] none fun g => hazard_AloneV (((g 0).fld 0).num) (((g 0).fld 1).num) (((g 0).fld 2).num) (((g 0).fld 3).num) (((g 0).fld 4).num) (((g 0).fld 5).num))) :: T17
theorem T18_ok : PSound Try.prog (lookR T18) := lookR_cons hazard_AloneO T17_ok

/- sallyport/sallyportlaw21.known -/
def sallyportlaw21_knownG  : Bool :=
  true
def sallyportlaw21_knownV  : AV := .bl true
theorem sallyportlaw21_knownE (g : Nat → AV) : pcOf Try.prog okT (lookR T18) (inl Try.prog okT (lookR T18) RO FS 100 ST 4) RO NOV 100 true Try.f11 (norms [] 0 g) = some (sallyportlaw21_knownG , sallyportlaw21_knownV ) := by kernel_rfl
theorem sallyportlaw21_knownP : Plain Try.prog 11 Try.f11 := ⟨Try.func11, of_decide_eq_true (by kernel_rfl)⟩
theorem sallyportlaw21_knownT  : sallyportlaw21_knownG  = true := rfl
theorem sallyportlaw21_knownO : RowOk Try.prog 11 (rowF [] none fun g => sallyportlaw21_knownV ) := rowT_ok fun g => pcOf_ok mix fair T18_ok (inl_ok mix fair T18_ok FS_ok 4) sallyportlaw21_knownP (fun c _ => OvOk_none c) (sallyportlaw21_knownE g) (sallyportlaw21_knownT )
def T11 : List Row := (11, (rowF [] none fun g => sallyportlaw21_knownV )) :: T18
theorem T11_ok : PSound Try.prog (lookR T11) := lookR_cons sallyportlaw21_knownO T18_ok

/- sallyport/sallyportlaw21.HazardLaws -/
def sallyportlaw21_HazardLaws0 (a0_Op : Int) (a0_Rd : Int) (a0_Rs1 : Int) (a0_Rs2 : Int) (a0_Imm : Int) (a0_CSR : Int) (a1_Op : Int) (a1_Rd : Int) (a1_Rs1 : Int) (a1_Rs2 : Int) (a1_Imm : Int) (a1_CSR : Int) : Bool :=
  bif
      bif
          bif
              bif hazard_Waits0 a0_Op a0_Rd a0_Rs1 a0_Rs2 a0_Imm a0_CSR a1_Op a1_Rd a1_Rs1 a1_Rs2 a1_Imm a1_CSR then
                !hazard_Passes0 a0_Op a0_Rd a0_Rs1 a0_Rs2 a0_Imm a0_CSR a1_Op a1_Rd a1_Rs1 a1_Rs2 a1_Imm a1_CSR
              else false then
            true
          else hazard_Uses0 a1_Op a1_Rd a1_Rs1 a1_Rs2 a1_Imm a1_CSR 0 then
        true
      else bif hazard_Passes0 a0_Op a0_Rd a0_Rs1 a0_Rs2 a0_Imm a0_CSR a1_Op a1_Rd a1_Rs1 a1_Rs2 a1_Imm a1_CSR then iEq (insn_Writes0 a0_Op a0_Rd a0_Rs1 a0_Rs2 a0_Imm a0_CSR) 0 else false then
    false
  else
    bif
        bif
            hazard_Passes0 a0_Op a0_Rd a0_Rs1 a0_Rs2 a0_Imm a0_CSR a1_Op a1_Rd a1_Rs1 a1_Rs2 a1_Imm a1_CSR ==
              bif iNe (insn_Writes0 a0_Op a0_Rd a0_Rs1 a0_Rs2 a0_Imm a0_CSR) 0 then
                bif iEq (insn_Reads0 a1_Op a1_Rd a1_Rs1 a1_Rs2 a1_Imm a1_CSR) (insn_Writes0 a0_Op a0_Rd a0_Rs1 a0_Rs2 a0_Imm a0_CSR) then true
                else iEq (insn_Reads1 a1_Op a1_Rd a1_Rs1 a1_Rs2 a1_Imm a1_CSR) (insn_Writes0 a0_Op a0_Rd a0_Rs1 a0_Rs2 a0_Imm a0_CSR)
              else false then
          bif bif !hazard_Waits0 a0_Op a0_Rd a0_Rs1 a0_Rs2 a0_Imm a0_CSR a1_Op a1_Rd a1_Rs1 a1_Rs2 a1_Imm a1_CSR then true else iEq (insn_Class0 a0_Op) 3 then true else iEq (insn_Class0 a0_Op) 12
        else false then
      bif bif iNe (insn_Reads0 a1_Op a1_Rd a1_Rs1 a1_Rs2 a1_Imm a1_CSR) 0 then true else iNe (insn_Reads1 a1_Op a1_Rd a1_Rs1 a1_Rs2 a1_Imm a1_CSR) 0 then true
      else !hazard_Passes0 a0_Op a0_Rd a0_Rs1 a0_Rs2 a0_Imm a0_CSR a1_Op a1_Rd a1_Rs1 a1_Rs2 a1_Imm a1_CSR
    else false
def sallyportlaw21_HazardLawsG (a0_Op : Int) (a0_Rd : Int) (a0_Rs1 : Int) (a0_Rs2 : Int) (a0_Imm : Int) (a0_CSR : Int) (a1_Op : Int) (a1_Rd : Int) (a1_Rs1 : Int) (a1_Rs2 : Int) (a1_Imm : Int) (a1_CSR : Int) : Bool :=
  bif
      bif
          bif
              bif hazard_Waits0 a0_Op a0_Rd a0_Rs1 a0_Rs2 a0_Imm a0_CSR a1_Op a1_Rd a1_Rs1 a1_Rs2 a1_Imm a1_CSR then
                !hazard_Passes0 a0_Op a0_Rd a0_Rs1 a0_Rs2 a0_Imm a0_CSR a1_Op a1_Rd a1_Rs1 a1_Rs2 a1_Imm a1_CSR
              else false then
            true
          else hazard_Uses0 a1_Op a1_Rd a1_Rs1 a1_Rs2 a1_Imm a1_CSR 0 then
        true
      else bif hazard_Passes0 a0_Op a0_Rd a0_Rs1 a0_Rs2 a0_Imm a0_CSR a1_Op a1_Rd a1_Rs1 a1_Rs2 a1_Imm a1_CSR then iEq (insn_Writes0 a0_Op a0_Rd a0_Rs1 a0_Rs2 a0_Imm a0_CSR) 0 else false then
    true
  else true
def sallyportlaw21_HazardLawsV (a0_Op : Int) (a0_Rd : Int) (a0_Rs1 : Int) (a0_Rs2 : Int) (a0_Imm : Int) (a0_CSR : Int) (a1_Op : Int) (a1_Rd : Int) (a1_Rs1 : Int) (a1_Rs2 : Int) (a1_Imm : Int) (a1_CSR : Int) : AV := .bl (sallyportlaw21_HazardLaws0 a0_Op a0_Rd a0_Rs1 a0_Rs2 a0_Imm a0_CSR a1_Op a1_Rd a1_Rs1 a1_Rs2 a1_Imm a1_CSR)
theorem sallyportlaw21_HazardLawsE (g : Nat → AV) : pcOf Try.prog okT (lookR T11) (NOH) RO NOV 100 false Try.f5 (norms [(.agg [(.int .i64), (.int .i64), (.int .i64), (.int .i64), (.int .i64), (.int .i64)]), (.agg [(.int .i64), (.int .i64), (.int .i64), (.int .i64), (.int .i64), (.int .i64)])] 0 g) = some (sallyportlaw21_HazardLawsG (((g 0).fld 0).num) (((g 0).fld 1).num) (((g 0).fld 2).num) (((g 0).fld 3).num) (((g 0).fld 4).num) (((g 0).fld 5).num) (((g 1).fld 0).num) (((g 1).fld 1).num) (((g 1).fld 2).num) (((g 1).fld 3).num) (((g 1).fld 4).num) (((g 1).fld 5).num), sallyportlaw21_HazardLawsV (((g 0).fld 0).num) (((g 0).fld 1).num) (((g 0).fld 2).num) (((g 0).fld 3).num) (((g 0).fld 4).num) (((g 0).fld 5).num) (((g 1).fld 0).num) (((g 1).fld 1).num) (((g 1).fld 2).num) (((g 1).fld 3).num) (((g 1).fld 4).num) (((g 1).fld 5).num)) := by kernel_rfl
theorem sallyportlaw21_HazardLawsP : Plain Try.prog 5 Try.f5 := ⟨Try.func5, of_decide_eq_true (by kernel_rfl)⟩
theorem sallyportlaw21_HazardLawsT (a0_Op : Int) (a0_Rd : Int) (a0_Rs1 : Int) (a0_Rs2 : Int) (a0_Imm : Int) (a0_CSR : Int) (a1_Op : Int) (a1_Rd : Int) (a1_Rs1 : Int) (a1_Rs2 : Int) (a1_Imm : Int) (a1_CSR : Int) : sallyportlaw21_HazardLawsG a0_Op a0_Rd a0_Rs1 a0_Rs2 a0_Imm a0_CSR a1_Op a1_Rd a1_Rs1 a1_Rs2 a1_Imm a1_CSR = true := by first | (simp [sallyportlaw21_HazardLawsG]; done) | (simp [sallyportlaw21_HazardLawsG, Go.Ev.iEq, Go.Ev.iNe, Go.Ev.iLt, Go.Ev.iLe, Go.Ev.iIn]; omega)
theorem sallyportlaw21_HazardLawsO : RowOk Try.prog 5 (rowF [(.agg [(.int .i64), (.int .i64), (.int .i64), (.int .i64), (.int .i64), (.int .i64)]), (.agg [(.int .i64), (.int .i64), (.int .i64), (.int .i64), (.int .i64), (.int .i64)])] none fun g => sallyportlaw21_HazardLawsV (((g 0).fld 0).num) (((g 0).fld 1).num) (((g 0).fld 2).num) (((g 0).fld 3).num) (((g 0).fld 4).num) (((g 0).fld 5).num) (((g 1).fld 0).num) (((g 1).fld 1).num) (((g 1).fld 2).num) (((g 1).fld 3).num) (((g 1).fld 4).num) (((g 1).fld 5).num)) := rowT_ok fun g => pcOf_ok mix fair T11_ok (HSound_none) sallyportlaw21_HazardLawsP (fun c _ => OvOk_none c) (sallyportlaw21_HazardLawsE g) (sallyportlaw21_HazardLawsT (((g 0).fld 0).num) (((g 0).fld 1).num) (((g 0).fld 2).num) (((g 0).fld 3).num) (((g 0).fld 4).num) (((g 0).fld 5).num) (((g 1).fld 0).num) (((g 1).fld 1).num) (((g 1).fld 2).num) (((g 1).fld 3).num) (((g 1).fld 4).num) (((g 1).fld 5).num))
def T5 : List Row := (5, (rowF [(.agg [(.int .i64), (.int .i64), (.int .i64), (.int .i64), (.int .i64), (.int .i64)]), (.agg [(.int .i64), (.int .i64), (.int .i64), (.int .i64), (.int .i64), (.int .i64)])] none fun g => sallyportlaw21_HazardLawsV (((g 0).fld 0).num) (((g 0).fld 1).num) (((g 0).fld 2).num) (((g 0).fld 3).num) (((g 0).fld 4).num) (((g 0).fld 5).num) (((g 1).fld 0).num) (((g 1).fld 1).num) (((g 1).fld 2).num) (((g 1).fld 3).num) (((g 1).fld 4).num) (((g 1).fld 5).num))) :: T11
theorem T5_ok : PSound Try.prog (lookR T5) := lookR_cons sallyportlaw21_HazardLawsO T11_ok

end
end Go.Proofs.Ytihmjmaabednjaa.PV
