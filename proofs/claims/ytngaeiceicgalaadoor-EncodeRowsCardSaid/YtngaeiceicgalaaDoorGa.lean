/-
  What functions of the program and of the document yield, evaluated (sallyportref3.Class .. decode.Decode). Printed by a program of the prover's own (wip/prt).
-/
import Derived.Test.YtngaeiceicgalaaDoorRows
import Derived.Test.YtngaeiceicgalaaDoorEvW
import Derived.Test.YtngaeiceicgalaaDoorEvX
import Derived.Test.YtngaeiceicgalaaDoorOn
set_option linter.unusedVariables false
set_option linter.unusedSimpArgs false
namespace Go.Proofs.YtngaeiceicgalaaDoor.PV
noncomputable section
open Go Go.Ev
def okT : List TypeId := [23]
theorem fair : Go.Ev.Fair Tryd.prog okT :=
  ⟨fun t h => by
    simp only [okT, List.contains_cons, List.contains_nil, Bool.or_false, Bool.or_eq_true, beq_iff_eq] at h
    subst h
    · exact Tryd.stoodInHeld23
   , fun t h => by
    simp only [okT, List.contains_cons, List.contains_nil, Bool.or_false, Bool.or_eq_true, beq_iff_eq] at h
    subst h
    · exact Tryd.eqGuardType23
  ⟩
theorem mix : Tryd.prog.follows .mixedOrders = true := Checked.mixed Tryd.checked
def RO : FuncId → Bool := fun _ => true
abbrev NOV : Ov := fun _ _ _ _ => none
abbrev NOH : Hd := fun _ _ _ _ => none
def T0 : List Row := []
theorem T0_ok : PSound Tryd.prog (lookR T0) := lookR_nil
def FS : List FuncId := [72, 83, 54, 52, 40, 49, 68]
theorem FS_ok : Names Tryd.prog FS := names_of (by kernel_rfl)
def ST : FuncId → Bool := fun f => memN f [83, 68]
/- sallyport/sallyportref3.Class -/
def sallyportref3_Class0 (a0 : Int) : Int :=
  bif bif iLt a0 1 then true else iLe 70 a0 then 0
  else
    bif iLe a0 4 then 1
    else
      bif iLe a0 10 then 2
      else
        bif iLe a0 17 then 3
        else
          bif iLe a0 21 then 4
          else bif iLe a0 34 then 5 else bif iLe a0 49 then 6 else bif iLe a0 51 then 7 else bif iLe a0 53 then 8 else bif iLe a0 59 then 9 else bif iLe a0 62 then 10 else bif iLe a0 65 then 11 else 12
def sallyportref3_ClassG (a0 : Int) : Bool :=
  bif bif iLt a0 1 then true else iLe 70 a0 then true
  else
    bif iLe a0 4 then true
    else
      bif iLe a0 10 then true
      else
        bif iLe a0 17 then true
        else
          bif iLe a0 21 then true
          else
            bif iLe a0 34 then true
            else bif iLe a0 49 then true else bif iLe a0 51 then true else bif iLe a0 53 then true else bif iLe a0 59 then true else bif iLe a0 62 then true else bif iLe a0 65 then true else true
def sallyportref3_ClassV (a0 : Int) : AV := .it .i64 (sallyportref3_Class0 a0)
theorem sallyportref3_ClassE (g : Nat → AV) : pcOf Tryd.prog okT (lookR T0) (inlO Tryd.prog okT (lookR T0) RO FS 400 ST (hOnce Tryd.prog 67 25 21) 8) RO NOV 100 false Tryd.f23 (norms [(.int .i64)] 0 g) = some (sallyportref3_ClassG ((g 0).num), sallyportref3_ClassV ((g 0).num)) := by kernel_rfl
theorem sallyportref3_ClassP : Plain Tryd.prog 23 Tryd.f23 := ⟨Tryd.func23, of_decide_eq_true (by kernel_rfl)⟩
theorem sallyportref3_ClassT (a0 : Int) : sallyportref3_ClassG a0 = true := by
  unfold sallyportref3_ClassG
  simp only [Go.Ev.cS1, Go.Ev.cS2, Go.Ev.cS3, Go.Ev.cS4, Go.Ev.cS6, Go.Ev.cS7]
theorem sallyportref3_ClassO : RowOk Tryd.prog 23 (rowF [(.int .i64)] none fun g => sallyportref3_ClassV ((g 0).num)) := rowT_ok fun g => pcOf_ok mix fair T0_ok (inlO_ok mix fair T0_ok FS_ok (fun _ h => hOnce_ok once_ok h) 8) sallyportref3_ClassP (fun c _ => OvOk_none c) (sallyportref3_ClassE g) (sallyportref3_ClassT ((g 0).num))
def T23 : List Row := (23, (rowF [(.int .i64)] none fun g => sallyportref3_ClassV ((g 0).num))) :: T0
theorem T23_ok : PSound Tryd.prog (lookR T23) := lookR_cons sallyportref3_ClassO T0_ok

theorem rclass_in {op : Int} (h : iEq (sallyportref3_Class0 op) 0 = false) : 1 ≤ op ∧ op < 70 := by
  refine Classical.byContradiction fun hr => ?_
  have e : (bif iLt op 1 then true else iLe 70 op) = true := by
    cases h1 : iLt op 1 with
    | true => rfl
    | false => rw [cond_false, iLe_true]; rw [iLt_false] at h1; omega
  unfold sallyportref3_Class0 at h
  rw [e, cond_true] at h
  cases h
/- sallyport/sallyportref3.Parts -/
def sallyportref3_Parts_c0 (a0 : Int) : Bool :=
  bif iEq (sallyportref3_Class0 a0) 3 then
    bif iEq (sallyportref3_Class0 a0) 3 then true
    else
      bif iEq (sallyportref3_Class0 a0) 6 then true
      else bif iEq (sallyportref3_Class0 a0) 9 then true else bif iEq (sallyportref3_Class0 a0) 11 then true else bif iEq (sallyportref3_Class0 a0) 12 then true else true
  else
    bif iEq (sallyportref3_Class0 a0) 5 then true
    else
      bif iEq (sallyportref3_Class0 a0) 6 then true
      else bif iEq (sallyportref3_Class0 a0) 9 then true else bif iEq (sallyportref3_Class0 a0) 11 then true else bif iEq (sallyportref3_Class0 a0) 12 then true else true
def sallyportref3_Parts_c1 (a0 : Int) : Bool :=
  bif iEq (sallyportref3_Class0 a0) 6 then true
  else bif iEq (sallyportref3_Class0 a0) 9 then true else bif iEq (sallyportref3_Class0 a0) 11 then false else bif iEq (sallyportref3_Class0 a0) 12 then iNe a0 69 else false
def sallyportref3_Parts_c2 (a0 : Int) : Bool :=
  bif iEq (sallyportref3_Class0 a0) 5 then true else sallyportref3_Parts_c1 a0
def sallyportref3_Parts_c3 (a0 : Int) : Bool :=
  bif iEq (sallyportref3_Class0 a0) 3 then bif iEq (sallyportref3_Class0 a0) 3 then true else sallyportref3_Parts_c1 a0 else sallyportref3_Parts_c2 a0
def sallyportref3_Parts_c4 (a0 : Int) : Bool :=
  bif iEq (sallyportref3_Class0 a0) 6 then true
  else bif iEq (sallyportref3_Class0 a0) 9 then !iLe 57 a0 else bif iEq (sallyportref3_Class0 a0) 11 then true else bif iEq (sallyportref3_Class0 a0) 12 then true else false
def sallyportref3_Parts_c5 (a0 : Int) : Bool :=
  bif iEq (sallyportref3_Class0 a0) 3 then bif iEq (sallyportref3_Class0 a0) 3 then true else sallyportref3_Parts_c4 a0 else bif iEq (sallyportref3_Class0 a0) 5 then true else sallyportref3_Parts_c4 a0
def sallyportref3_Parts_c6 (a0 : Int) : Bool :=
  bif iEq (sallyportref3_Class0 a0) 6 then true
  else bif iEq (sallyportref3_Class0 a0) 9 then false else bif iEq (sallyportref3_Class0 a0) 11 then true else bif iEq (sallyportref3_Class0 a0) 12 then iEq a0 69 else false
def sallyportref3_Parts_c7 (a0 : Int) : Bool :=
  bif iEq (sallyportref3_Class0 a0) 5 then false else sallyportref3_Parts_c6 a0
def sallyportref3_Parts_c8 (a0 : Int) : Bool :=
  bif iEq (sallyportref3_Class0 a0) 3 then bif iEq (sallyportref3_Class0 a0) 3 then false else sallyportref3_Parts_c6 a0 else sallyportref3_Parts_c7 a0
def sallyportref3_Parts_c9 (a0 : Int) : Bool :=
  bif iEq (sallyportref3_Class0 a0) 3 then
    bif iEq (sallyportref3_Class0 a0) 3 then false
    else
      bif iEq (sallyportref3_Class0 a0) 6 then false
      else bif iEq (sallyportref3_Class0 a0) 9 then true else bif iEq (sallyportref3_Class0 a0) 11 then false else bif iEq (sallyportref3_Class0 a0) 12 then false else false
  else
    bif iEq (sallyportref3_Class0 a0) 5 then false
    else
      bif iEq (sallyportref3_Class0 a0) 6 then false
      else bif iEq (sallyportref3_Class0 a0) 9 then true else bif iEq (sallyportref3_Class0 a0) 11 then false else bif iEq (sallyportref3_Class0 a0) 12 then false else false
def sallyportref3_Parts_c10 (a0 : Int) : Bool :=
  bif iEq (sallyportref3_Class0 a0) 6 then false
  else bif iEq (sallyportref3_Class0 a0) 9 then iLe 57 a0 else bif iEq (sallyportref3_Class0 a0) 11 then false else bif iEq (sallyportref3_Class0 a0) 12 then false else false
def sallyportref3_Parts_c11 (a0 : Int) : Bool :=
  bif iEq (sallyportref3_Class0 a0) 3 then bif iEq (sallyportref3_Class0 a0) 3 then true else sallyportref3_Parts_c10 a0
  else bif iEq (sallyportref3_Class0 a0) 5 then true else sallyportref3_Parts_c10 a0
def sallyportref3_Parts0 (a0 : Int) : Bool :=
  bif iEq (sallyportref3_Class0 a0) 1 then true
  else bif iEq (sallyportref3_Class0 a0) 2 then false else bif iEq (sallyportref3_Class0 a0) 4 then false else bif iEq (sallyportref3_Class0 a0) 3 then true else sallyportref3_Parts_c2 a0
def sallyportref3_Parts0r (a0 : Int) : Bool :=
  bif iEq (sallyportref3_Class0 a0) 1 then true
  else
    bif iEq (sallyportref3_Class0 a0) 2 then bif iEq (sallyportref3_Class0 a0) 2 then false else sallyportref3_Parts_c3 a0
    else bif iEq (sallyportref3_Class0 a0) 4 then false else sallyportref3_Parts_c3 a0
def sallyportref3_Parts1 (a0 : Int) : Bool :=
  bif iEq (sallyportref3_Class0 a0) 1 then iEq a0 4
  else
    bif iEq (sallyportref3_Class0 a0) 2 then true
    else
      bif iEq (sallyportref3_Class0 a0) 4 then true
      else
        bif iEq (sallyportref3_Class0 a0) 3 then true
        else
          bif iEq (sallyportref3_Class0 a0) 5 then true
          else
            bif iEq (sallyportref3_Class0 a0) 6 then true
            else bif iEq (sallyportref3_Class0 a0) 9 then !iLe 57 a0 else bif iEq (sallyportref3_Class0 a0) 11 then true else iEq (sallyportref3_Class0 a0) 12
def sallyportref3_Parts1r (a0 : Int) : Bool :=
  bif iEq (sallyportref3_Class0 a0) 1 then iEq a0 4
  else
    bif iEq (sallyportref3_Class0 a0) 2 then bif iEq (sallyportref3_Class0 a0) 2 then true else sallyportref3_Parts_c5 a0
    else bif iEq (sallyportref3_Class0 a0) 4 then true else sallyportref3_Parts_c5 a0
def sallyportref3_Parts2 (a0 : Int) : Bool :=
  bif iEq (sallyportref3_Class0 a0) 1 then false
  else bif iEq (sallyportref3_Class0 a0) 2 then true else bif iEq (sallyportref3_Class0 a0) 4 then true else bif iEq (sallyportref3_Class0 a0) 3 then false else sallyportref3_Parts_c7 a0
def sallyportref3_Parts2r (a0 : Int) : Bool :=
  bif iEq (sallyportref3_Class0 a0) 1 then false
  else
    bif iEq (sallyportref3_Class0 a0) 2 then bif iEq (sallyportref3_Class0 a0) 2 then true else sallyportref3_Parts_c8 a0
    else bif iEq (sallyportref3_Class0 a0) 4 then true else sallyportref3_Parts_c8 a0
def sallyportref3_Parts3 (a0 : Int) : Bool :=
  bif iEq (sallyportref3_Class0 a0) 1 then false
  else
    bif iEq (sallyportref3_Class0 a0) 2 then false
    else
      bif iEq (sallyportref3_Class0 a0) 4 then false
      else bif iEq (sallyportref3_Class0 a0) 3 then false else bif iEq (sallyportref3_Class0 a0) 5 then false else bif iEq (sallyportref3_Class0 a0) 6 then false else iEq (sallyportref3_Class0 a0) 9
def sallyportref3_Parts3r (a0 : Int) : Bool :=
  bif iEq (sallyportref3_Class0 a0) 1 then false
  else
    bif iEq (sallyportref3_Class0 a0) 2 then bif iEq (sallyportref3_Class0 a0) 2 then false else sallyportref3_Parts_c9 a0
    else bif iEq (sallyportref3_Class0 a0) 4 then false else sallyportref3_Parts_c9 a0
def sallyportref3_Parts4 (a0 : Int) : Bool :=
  bif iEq (sallyportref3_Class0 a0) 1 then true
  else
    bif iEq (sallyportref3_Class0 a0) 2 then true
    else
      bif iEq (sallyportref3_Class0 a0) 4 then true
      else
        bif iEq (sallyportref3_Class0 a0) 3 then true
        else bif iEq (sallyportref3_Class0 a0) 5 then true else bif iEq (sallyportref3_Class0 a0) 6 then false else bif iEq (sallyportref3_Class0 a0) 9 then iLe 57 a0 else false
def sallyportref3_Parts4r (a0 : Int) : Bool :=
  bif iEq (sallyportref3_Class0 a0) 1 then true
  else
    bif iEq (sallyportref3_Class0 a0) 2 then bif iEq (sallyportref3_Class0 a0) 2 then true else sallyportref3_Parts_c11 a0
    else bif iEq (sallyportref3_Class0 a0) 4 then true else sallyportref3_Parts_c11 a0
def sallyportref3_PartsG (a0 : Int) : Bool :=
  bif iEq (sallyportref3_Class0 a0) 1 then true
  else
    bif iEq (sallyportref3_Class0 a0) 2 then bif iEq (sallyportref3_Class0 a0) 2 then true else sallyportref3_Parts_c0 a0
    else bif iEq (sallyportref3_Class0 a0) 4 then true else sallyportref3_Parts_c0 a0
theorem sallyportref3_Parts0_eq (a0 : Int)  : sallyportref3_Parts0r a0  = sallyportref3_Parts0 a0  := by
  unfold sallyportref3_Parts0r
  first | (simp only [sallyportref3_Parts_c0, sallyportref3_Parts_c1, sallyportref3_Parts_c2, sallyportref3_Parts_c3, sallyportref3_Parts_c4, sallyportref3_Parts_c5, sallyportref3_Parts_c6, sallyportref3_Parts_c7, sallyportref3_Parts_c8, sallyportref3_Parts_c9, sallyportref3_Parts_c10, sallyportref3_Parts_c11, Go.Ev.cS1, Go.Ev.cS2, Go.Ev.cS3, Go.Ev.cS4, Go.Ev.cS6, Go.Ev.cS7]; done) | (simp only [sallyportref3_Parts_c0, sallyportref3_Parts_c1, sallyportref3_Parts_c2, sallyportref3_Parts_c3, sallyportref3_Parts_c4, sallyportref3_Parts_c5, sallyportref3_Parts_c6, sallyportref3_Parts_c7, sallyportref3_Parts_c8, sallyportref3_Parts_c9, sallyportref3_Parts_c10, sallyportref3_Parts_c11, Go.Ev.cS1, Go.Ev.cS2, Go.Ev.cS3, Go.Ev.cS4, Go.Ev.cS6, Go.Ev.cS7]; kernel_rfl)
theorem sallyportref3_Parts1_eq (a0 : Int)  : sallyportref3_Parts1r a0  = sallyportref3_Parts1 a0  := by
  unfold sallyportref3_Parts1r
  first | (simp only [sallyportref3_Parts_c0, sallyportref3_Parts_c1, sallyportref3_Parts_c2, sallyportref3_Parts_c3, sallyportref3_Parts_c4, sallyportref3_Parts_c5, sallyportref3_Parts_c6, sallyportref3_Parts_c7, sallyportref3_Parts_c8, sallyportref3_Parts_c9, sallyportref3_Parts_c10, sallyportref3_Parts_c11, Go.Ev.cS1, Go.Ev.cS2, Go.Ev.cS3, Go.Ev.cS4, Go.Ev.cS6, Go.Ev.cS7]; done) | (simp only [sallyportref3_Parts_c0, sallyportref3_Parts_c1, sallyportref3_Parts_c2, sallyportref3_Parts_c3, sallyportref3_Parts_c4, sallyportref3_Parts_c5, sallyportref3_Parts_c6, sallyportref3_Parts_c7, sallyportref3_Parts_c8, sallyportref3_Parts_c9, sallyportref3_Parts_c10, sallyportref3_Parts_c11, Go.Ev.cS1, Go.Ev.cS2, Go.Ev.cS3, Go.Ev.cS4, Go.Ev.cS6, Go.Ev.cS7]; kernel_rfl)
theorem sallyportref3_Parts2_eq (a0 : Int)  : sallyportref3_Parts2r a0  = sallyportref3_Parts2 a0  := by
  unfold sallyportref3_Parts2r
  first | (simp only [sallyportref3_Parts_c0, sallyportref3_Parts_c1, sallyportref3_Parts_c2, sallyportref3_Parts_c3, sallyportref3_Parts_c4, sallyportref3_Parts_c5, sallyportref3_Parts_c6, sallyportref3_Parts_c7, sallyportref3_Parts_c8, sallyportref3_Parts_c9, sallyportref3_Parts_c10, sallyportref3_Parts_c11, Go.Ev.cS1, Go.Ev.cS2, Go.Ev.cS3, Go.Ev.cS4, Go.Ev.cS6, Go.Ev.cS7]; done) | (simp only [sallyportref3_Parts_c0, sallyportref3_Parts_c1, sallyportref3_Parts_c2, sallyportref3_Parts_c3, sallyportref3_Parts_c4, sallyportref3_Parts_c5, sallyportref3_Parts_c6, sallyportref3_Parts_c7, sallyportref3_Parts_c8, sallyportref3_Parts_c9, sallyportref3_Parts_c10, sallyportref3_Parts_c11, Go.Ev.cS1, Go.Ev.cS2, Go.Ev.cS3, Go.Ev.cS4, Go.Ev.cS6, Go.Ev.cS7]; kernel_rfl)
theorem sallyportref3_Parts3_eq (a0 : Int)  : sallyportref3_Parts3r a0  = sallyportref3_Parts3 a0  := by
  unfold sallyportref3_Parts3r
  first | (simp only [sallyportref3_Parts_c0, sallyportref3_Parts_c1, sallyportref3_Parts_c2, sallyportref3_Parts_c3, sallyportref3_Parts_c4, sallyportref3_Parts_c5, sallyportref3_Parts_c6, sallyportref3_Parts_c7, sallyportref3_Parts_c8, sallyportref3_Parts_c9, sallyportref3_Parts_c10, sallyportref3_Parts_c11, Go.Ev.cS1, Go.Ev.cS2, Go.Ev.cS3, Go.Ev.cS4, Go.Ev.cS6, Go.Ev.cS7]; done) | (simp only [sallyportref3_Parts_c0, sallyportref3_Parts_c1, sallyportref3_Parts_c2, sallyportref3_Parts_c3, sallyportref3_Parts_c4, sallyportref3_Parts_c5, sallyportref3_Parts_c6, sallyportref3_Parts_c7, sallyportref3_Parts_c8, sallyportref3_Parts_c9, sallyportref3_Parts_c10, sallyportref3_Parts_c11, Go.Ev.cS1, Go.Ev.cS2, Go.Ev.cS3, Go.Ev.cS4, Go.Ev.cS6, Go.Ev.cS7]; kernel_rfl)
theorem sallyportref3_Parts4_eq (a0 : Int)  : sallyportref3_Parts4r a0  = sallyportref3_Parts4 a0  := by
  unfold sallyportref3_Parts4r
  first | (simp only [sallyportref3_Parts_c0, sallyportref3_Parts_c1, sallyportref3_Parts_c2, sallyportref3_Parts_c3, sallyportref3_Parts_c4, sallyportref3_Parts_c5, sallyportref3_Parts_c6, sallyportref3_Parts_c7, sallyportref3_Parts_c8, sallyportref3_Parts_c9, sallyportref3_Parts_c10, sallyportref3_Parts_c11, Go.Ev.cS1, Go.Ev.cS2, Go.Ev.cS3, Go.Ev.cS4, Go.Ev.cS6, Go.Ev.cS7]; done) | (simp only [sallyportref3_Parts_c0, sallyportref3_Parts_c1, sallyportref3_Parts_c2, sallyportref3_Parts_c3, sallyportref3_Parts_c4, sallyportref3_Parts_c5, sallyportref3_Parts_c6, sallyportref3_Parts_c7, sallyportref3_Parts_c8, sallyportref3_Parts_c9, sallyportref3_Parts_c10, sallyportref3_Parts_c11, Go.Ev.cS1, Go.Ev.cS2, Go.Ev.cS3, Go.Ev.cS4, Go.Ev.cS6, Go.Ev.cS7]; kernel_rfl)
def sallyportref3_PartsV (a0 : Int) : AV := .tup [.bl (sallyportref3_Parts0 a0), .bl (sallyportref3_Parts1 a0), .bl (sallyportref3_Parts2 a0), .bl (sallyportref3_Parts3 a0), .bl (sallyportref3_Parts4 a0)]
def sallyportref3_PartsVr (a0 : Int) : AV := .tup [.bl (sallyportref3_Parts0r a0), .bl (sallyportref3_Parts1r a0), .bl (sallyportref3_Parts2r a0), .bl (sallyportref3_Parts3r a0), .bl (sallyportref3_Parts4r a0)]
theorem sallyportref3_PartsV_eq (a0 : Int) : sallyportref3_PartsVr a0 = sallyportref3_PartsV a0 := by
  unfold sallyportref3_PartsVr sallyportref3_PartsV
  simp only [sallyportref3_Parts0_eq, sallyportref3_Parts1_eq, sallyportref3_Parts2_eq, sallyportref3_Parts3_eq, sallyportref3_Parts4_eq]
theorem sallyportref3_PartsE (g : Nat → AV) : pcOf Tryd.prog okT (lookR T23) (inlO Tryd.prog okT (lookR T23) RO FS 400 ST (hOnce Tryd.prog 67 25 21) 8) RO NOV 100 false Tryd.f30 (norms [(.int .i64)] 0 g) = some (sallyportref3_PartsG ((g 0).num), sallyportref3_PartsV ((g 0).num)) :=
  (by kernel_rfl : pcOf Tryd.prog okT (lookR T23) (inlO Tryd.prog okT (lookR T23) RO FS 400 ST (hOnce Tryd.prog 67 25 21) 8) RO NOV 100 false Tryd.f30 (norms [(.int .i64)] 0 g) = some (sallyportref3_PartsG ((g 0).num), sallyportref3_PartsVr ((g 0).num))).trans (by rw [sallyportref3_PartsV_eq])
theorem sallyportref3_PartsP : Plain Tryd.prog 30 Tryd.f30 := ⟨Tryd.func30, of_decide_eq_true (by kernel_rfl)⟩
theorem sallyportref3_PartsT (a0 : Int) : sallyportref3_PartsG a0 = true := by
  unfold sallyportref3_PartsG
  simp only [sallyportref3_Parts_c0, sallyportref3_Parts_c1, sallyportref3_Parts_c2, sallyportref3_Parts_c3, sallyportref3_Parts_c4, sallyportref3_Parts_c5, sallyportref3_Parts_c6, sallyportref3_Parts_c7, sallyportref3_Parts_c8, sallyportref3_Parts_c9, sallyportref3_Parts_c10, sallyportref3_Parts_c11, Go.Ev.cS1, Go.Ev.cS2, Go.Ev.cS3, Go.Ev.cS4, Go.Ev.cS6, Go.Ev.cS7]
theorem sallyportref3_PartsO : RowOk Tryd.prog 30 (rowF [(.int .i64)] none fun g => sallyportref3_PartsV ((g 0).num)) := rowT_ok fun g => pcOf_ok mix fair T23_ok (inlO_ok mix fair T23_ok FS_ok (fun _ h => hOnce_ok once_ok h) 8) sallyportref3_PartsP (fun c _ => OvOk_none c) (sallyportref3_PartsE g) (sallyportref3_PartsT ((g 0).num))
def T30 : List Row := (30, (rowF [(.int .i64)] none fun g => sallyportref3_PartsV ((g 0).num))) :: T23
theorem T30_ok : PSound Tryd.prog (lookR T30) := lookR_cons sallyportref3_PartsO T23_ok

/- sallyport/sallyportref3.reg -/
def sallyportref3_reg0 (a0 : Int) (a1 : Bool) : Bool :=
  bif iEq a0 0 then true else bif bif a1 then iLt 0 a0 else false then iLt a0 32 else false
def sallyportref3_regG (a0 : Int) (a1 : Bool) : Bool :=
  true
def sallyportref3_regV (a0 : Int) (a1 : Bool) : AV := .bl (sallyportref3_reg0 a0 a1)
theorem sallyportref3_regE (g : Nat → AV) : pcOf Tryd.prog okT (lookR T30) (inlO Tryd.prog okT (lookR T30) RO FS 400 ST (hOnce Tryd.prog 67 25 21) 8) RO NOV 100 false Tryd.f43 (norms [(.int .i64), .bool] 0 g) = some (sallyportref3_regG ((g 0).num) ((g 1).bool), sallyportref3_regV ((g 0).num) ((g 1).bool)) := by kernel_rfl
theorem sallyportref3_regP : Plain Tryd.prog 43 Tryd.f43 := ⟨Tryd.func43, of_decide_eq_true (by kernel_rfl)⟩
theorem sallyportref3_regT (a0 : Int) (a1 : Bool) : sallyportref3_regG a0 a1 = true := rfl
theorem sallyportref3_regO : RowOk Tryd.prog 43 (rowF [(.int .i64), .bool] none fun g => sallyportref3_regV ((g 0).num) ((g 1).bool)) := rowT_ok fun g => pcOf_ok mix fair T30_ok (inlO_ok mix fair T30_ok FS_ok (fun _ h => hOnce_ok once_ok h) 8) sallyportref3_regP (fun c _ => OvOk_none c) (sallyportref3_regE g) (sallyportref3_regT ((g 0).num) ((g 1).bool))
def T43 : List Row := (43, (rowF [(.int .i64), .bool] none fun g => sallyportref3_regV ((g 0).num) ((g 1).bool))) :: T30
theorem T43_ok : PSound Tryd.prog (lookR T43) := lookR_cons sallyportref3_regO T30_ok

/- sallyport/sallyportref3.within -/
def sallyportref3_within0 (a0 : Int) (a1 : Int) (a2 : Int) (a3 : Int) : Bool :=
  bif bif iLe a1 a0 then iLe a0 a2 else false then iEq (iRem a0 a3) 0 else false
def sallyportref3_withinG (a0 : Int) (a1 : Int) (a2 : Int) (a3 : Int) : Bool :=
  ((!bif iLe a1 a0 then iLe a0 a2 else false) || iNe a3 0) && true
def sallyportref3_withinV (a0 : Int) (a1 : Int) (a2 : Int) (a3 : Int) : AV := .bl (sallyportref3_within0 a0 a1 a2 a3)
theorem sallyportref3_withinE (g : Nat → AV) : pcOf Tryd.prog okT (lookR T43) (inlO Tryd.prog okT (lookR T43) RO FS 400 ST (hOnce Tryd.prog 67 25 21) 8) RO NOV 100 false Tryd.f62 (norms [(.int .i64), (.int .i64), (.int .i64), (.int .i64)] 0 g) = some (sallyportref3_withinG ((g 0).num) ((g 1).num) ((g 2).num) ((g 3).num), sallyportref3_withinV ((g 0).num) ((g 1).num) ((g 2).num) ((g 3).num)) := by kernel_rfl
theorem sallyportref3_withinP : Plain Tryd.prog 62 Tryd.f62 := ⟨Tryd.func62, of_decide_eq_true (by kernel_rfl)⟩
theorem sallyportref3_withinO : RowOk Tryd.prog 62 (rowF [(.int .i64), (.int .i64), (.int .i64), (.int .i64)] (some fun g => sallyportref3_withinG ((g 0).num) ((g 1).num) ((g 2).num) ((g 3).num)) fun g => sallyportref3_withinV ((g 0).num) ((g 1).num) ((g 2).num) ((g 3).num)) := rowF_ok fun g hg => pcOf_ok mix fair T43_ok (inlO_ok mix fair T43_ok FS_ok (fun _ h => hOnce_ok once_ok h) 8) sallyportref3_withinP (fun c _ => OvOk_none c) (sallyportref3_withinE g) hg
def T62 : List Row := (62, (rowF [(.int .i64), (.int .i64), (.int .i64), (.int .i64)] (some fun g => sallyportref3_withinG ((g 0).num) ((g 1).num) ((g 2).num) ((g 3).num)) fun g => sallyportref3_withinV ((g 0).num) ((g 1).num) ((g 2).num) ((g 3).num))) :: T43
theorem T62_ok : PSound Tryd.prog (lookR T62) := lookR_cons sallyportref3_withinO T43_ok

/- sallyport/sallyportref3.number -/
def sallyportref3_number0 (a0_Op : Int) (a0_Rd : Int) (a0_Rs1 : Int) (a0_Rs2 : Int) (a0_Imm : Int) (a0_CSR : Int) : Bool :=
  bif iLe a0_Op 2 then sallyportref3_within0 a0_Imm (-2147483648) 2147479552 4096
  else
    bif iEq a0_Op 3 then sallyportref3_within0 a0_Imm (-1048576) 1048574 2
    else
      bif iEq (sallyportref3_Class0 a0_Op) 2 then sallyportref3_within0 a0_Imm (-4096) 4094 2
      else
        bif bif iLe 28 a0_Op then iLe a0_Op 30 else false then sallyportref3_within0 a0_Imm 0 63 1
        else
          bif bif bif iLe 32 a0_Op then iLe a0_Op 34 else false then true else iEq (sallyportref3_Class0 a0_Op) 9 then sallyportref3_within0 a0_Imm 0 31 1
          else sallyportref3_within0 a0_Imm (-2048) 2047 1
def sallyportref3_numberG (a0_Op : Int) (a0_Rd : Int) (a0_Rs1 : Int) (a0_Rs2 : Int) (a0_Imm : Int) (a0_CSR : Int) : Bool :=
  bif iLe a0_Op 2 then sallyportref3_withinG a0_Imm (-2147483648) 2147479552 4096 && true
  else
    bif iEq a0_Op 3 then sallyportref3_withinG a0_Imm (-1048576) 1048574 2 && true
    else
      bif iEq (sallyportref3_Class0 a0_Op) 2 then sallyportref3_withinG a0_Imm (-4096) 4094 2 && true
      else
        bif bif iLe 28 a0_Op then iLe a0_Op 30 else false then sallyportref3_withinG a0_Imm 0 63 1 && true
        else
          bif bif bif iLe 32 a0_Op then iLe a0_Op 34 else false then true else iEq (sallyportref3_Class0 a0_Op) 9 then sallyportref3_withinG a0_Imm 0 31 1 && true
          else sallyportref3_withinG a0_Imm (-2048) 2047 1 && true
def sallyportref3_numberV (a0_Op : Int) (a0_Rd : Int) (a0_Rs1 : Int) (a0_Rs2 : Int) (a0_Imm : Int) (a0_CSR : Int) : AV := .bl (sallyportref3_number0 a0_Op a0_Rd a0_Rs1 a0_Rs2 a0_Imm a0_CSR)
theorem sallyportref3_numberE (g : Nat → AV) : pcOf Tryd.prog okT (lookR T62) (inlO Tryd.prog okT (lookR T62) RO FS 400 ST (hOnce Tryd.prog 67 25 21) 8) RO NOV 100 false Tryd.f44 (norms [(.agg [(.int .i64), (.int .i64), (.int .i64), (.int .i64), (.int .i64), (.int .i64)])] 0 g) = some (sallyportref3_numberG (((g 0).fld 0).num) (((g 0).fld 1).num) (((g 0).fld 2).num) (((g 0).fld 3).num) (((g 0).fld 4).num) (((g 0).fld 5).num), sallyportref3_numberV (((g 0).fld 0).num) (((g 0).fld 1).num) (((g 0).fld 2).num) (((g 0).fld 3).num) (((g 0).fld 4).num) (((g 0).fld 5).num)) := by kernel_rfl
theorem sallyportref3_numberP : Plain Tryd.prog 44 Tryd.f44 := ⟨Tryd.func44, of_decide_eq_true (by kernel_rfl)⟩
theorem sallyportref3_numberT (a0_Op : Int) (a0_Rd : Int) (a0_Rs1 : Int) (a0_Rs2 : Int) (a0_Imm : Int) (a0_CSR : Int) : sallyportref3_numberG a0_Op a0_Rd a0_Rs1 a0_Rs2 a0_Imm a0_CSR = true := by simp [sallyportref3_numberG, sallyportref3_withinG, Go.Ev.iNe]
theorem sallyportref3_numberO : RowOk Tryd.prog 44 (rowF [(.agg [(.int .i64), (.int .i64), (.int .i64), (.int .i64), (.int .i64), (.int .i64)])] none fun g => sallyportref3_numberV (((g 0).fld 0).num) (((g 0).fld 1).num) (((g 0).fld 2).num) (((g 0).fld 3).num) (((g 0).fld 4).num) (((g 0).fld 5).num)) := rowT_ok fun g => pcOf_ok mix fair T62_ok (inlO_ok mix fair T62_ok FS_ok (fun _ h => hOnce_ok once_ok h) 8) sallyportref3_numberP (fun c _ => OvOk_none c) (sallyportref3_numberE g) (sallyportref3_numberT (((g 0).fld 0).num) (((g 0).fld 1).num) (((g 0).fld 2).num) (((g 0).fld 3).num) (((g 0).fld 4).num) (((g 0).fld 5).num))
def T44 : List Row := (44, (rowF [(.agg [(.int .i64), (.int .i64), (.int .i64), (.int .i64), (.int .i64), (.int .i64)])] none fun g => sallyportref3_numberV (((g 0).fld 0).num) (((g 0).fld 1).num) (((g 0).fld 2).num) (((g 0).fld 3).num) (((g 0).fld 4).num) (((g 0).fld 5).num))) :: T62
theorem T44_ok : PSound Tryd.prog (lookR T44) := lookR_cons sallyportref3_numberO T62_ok

/- sallyport/sallyportref3.Is -/
def sallyportref3_Is0 (a0_Op : Int) (a0_Rd : Int) (a0_Rs1 : Int) (a0_Rs2 : Int) (a0_Imm : Int) (a0_CSR : Int) : Bool :=
  bif iEq (sallyportref3_Class0 a0_Op) 0 then false
  else
    bif
        bif
            bif bif !sallyportref3_reg0 a0_Rd (sallyportref3_Parts0 a0_Op) then true else !sallyportref3_reg0 a0_Rs1 (sallyportref3_Parts1 a0_Op) then true
            else !sallyportref3_reg0 a0_Rs2 (sallyportref3_Parts2 a0_Op) then
          true
        else bif iNe a0_CSR 0 then bif bif !sallyportref3_Parts3 a0_Op then true else iLt a0_CSR 0 then true else iLt 4095 a0_CSR else false then
      false
    else bif !sallyportref3_Parts4 a0_Op then iEq a0_Imm 0 else sallyportref3_number0 a0_Op a0_Rd a0_Rs1 a0_Rs2 a0_Imm a0_CSR
def sallyportref3_IsG (a0_Op : Int) (a0_Rd : Int) (a0_Rs1 : Int) (a0_Rs2 : Int) (a0_Imm : Int) (a0_CSR : Int) : Bool :=
  bif iEq (sallyportref3_Class0 a0_Op) 0 then true
  else
    bif
        bif
            bif bif !sallyportref3_reg0 a0_Rd (sallyportref3_Parts0 a0_Op) then true else !sallyportref3_reg0 a0_Rs1 (sallyportref3_Parts1 a0_Op) then true
            else !sallyportref3_reg0 a0_Rs2 (sallyportref3_Parts2 a0_Op) then
          true
        else bif iNe a0_CSR 0 then bif bif !sallyportref3_Parts3 a0_Op then true else iLt a0_CSR 0 then true else iLt 4095 a0_CSR else false then
      true
    else bif !sallyportref3_Parts4 a0_Op then true else true
def sallyportref3_IsV (a0_Op : Int) (a0_Rd : Int) (a0_Rs1 : Int) (a0_Rs2 : Int) (a0_Imm : Int) (a0_CSR : Int) : AV := .bl (sallyportref3_Is0 a0_Op a0_Rd a0_Rs1 a0_Rs2 a0_Imm a0_CSR)
theorem sallyportref3_IsE (g : Nat → AV) : pcOf Tryd.prog okT (lookR T44) (inlO Tryd.prog okT (lookR T44) RO FS 400 ST (hOnce Tryd.prog 67 25 21) 8) RO NOV 100 false Tryd.f20 (norms [(.agg [(.int .i64), (.int .i64), (.int .i64), (.int .i64), (.int .i64), (.int .i64)])] 0 g) = some (sallyportref3_IsG (((g 0).fld 0).num) (((g 0).fld 1).num) (((g 0).fld 2).num) (((g 0).fld 3).num) (((g 0).fld 4).num) (((g 0).fld 5).num), sallyportref3_IsV (((g 0).fld 0).num) (((g 0).fld 1).num) (((g 0).fld 2).num) (((g 0).fld 3).num) (((g 0).fld 4).num) (((g 0).fld 5).num)) := by kernel_rfl
theorem sallyportref3_IsP : Plain Tryd.prog 20 Tryd.f20 := ⟨Tryd.func20, of_decide_eq_true (by kernel_rfl)⟩
theorem sallyportref3_IsT (a0_Op : Int) (a0_Rd : Int) (a0_Rs1 : Int) (a0_Rs2 : Int) (a0_Imm : Int) (a0_CSR : Int) : sallyportref3_IsG a0_Op a0_Rd a0_Rs1 a0_Rs2 a0_Imm a0_CSR = true := by
  unfold sallyportref3_IsG
  simp only [Go.Ev.cS1, Go.Ev.cS2, Go.Ev.cS3, Go.Ev.cS4, Go.Ev.cS6, Go.Ev.cS7]
theorem sallyportref3_IsO : RowOk Tryd.prog 20 (rowF [(.agg [(.int .i64), (.int .i64), (.int .i64), (.int .i64), (.int .i64), (.int .i64)])] none fun g => sallyportref3_IsV (((g 0).fld 0).num) (((g 0).fld 1).num) (((g 0).fld 2).num) (((g 0).fld 3).num) (((g 0).fld 4).num) (((g 0).fld 5).num)) := rowT_ok fun g => pcOf_ok mix fair T44_ok (inlO_ok mix fair T44_ok FS_ok (fun _ h => hOnce_ok once_ok h) 8) sallyportref3_IsP (fun c _ => OvOk_none c) (sallyportref3_IsE g) (sallyportref3_IsT (((g 0).fld 0).num) (((g 0).fld 1).num) (((g 0).fld 2).num) (((g 0).fld 3).num) (((g 0).fld 4).num) (((g 0).fld 5).num))
def T20 : List Row := (20, (rowF [(.agg [(.int .i64), (.int .i64), (.int .i64), (.int .i64), (.int .i64), (.int .i64)])] none fun g => sallyportref3_IsV (((g 0).fld 0).num) (((g 0).fld 1).num) (((g 0).fld 2).num) (((g 0).fld 3).num) (((g 0).fld 4).num) (((g 0).fld 5).num))) :: T44
theorem T20_ok : PSound Tryd.prog (lookR T20) := lookR_cons sallyportref3_IsO T44_ok

theorem ris_op {a b c d e f : Int} (h : sallyportref3_Is0 a b c d e f = true) : 1 ≤ a ∧ a < 70 := by
  refine rclass_in ?_
  cases h1 : iEq (sallyportref3_Class0 a) 0 with
  | false => rfl
  | true =>
    unfold sallyportref3_Is0 at h
    rw [h1, cond_true] at h
    cases h
/- sallyport/sallyportref3.fixed -/
def sallyportref3_fixed0 (a0 : Int) : Int :=
  bif iEq a0 50 then 267386895
  else bif iEq a0 51 then 4111 else bif iEq a0 52 then 115 else bif iEq a0 53 then 1048691 else bif iEq a0 60 then 807403635 else bif iEq a0 61 then 270532723 else bif iEq a0 62 then 273678451 else 0
def sallyportref3_fixedG (a0 : Int) : Bool :=
  bif iEq a0 50 then true
  else bif iEq a0 51 then true else bif iEq a0 52 then true else bif iEq a0 53 then true else bif iEq a0 60 then true else bif iEq a0 61 then true else bif iEq a0 62 then true else true
def sallyportref3_fixedV (a0 : Int) : AV := .it .u32 (sallyportref3_fixed0 a0)
theorem sallyportref3_fixedE (g : Nat → AV) : pcOf Tryd.prog okT (lookR T20) (inlO Tryd.prog okT (lookR T20) RO FS 400 ST (hOnce Tryd.prog 67 25 21) 8) RO NOV 100 false Tryd.f21 (norms [(.int .i64)] 0 g) = some (sallyportref3_fixedG ((g 0).num), sallyportref3_fixedV ((g 0).num)) := by kernel_rfl
theorem sallyportref3_fixedP : Plain Tryd.prog 21 Tryd.f21 := ⟨Tryd.func21, of_decide_eq_true (by kernel_rfl)⟩
theorem sallyportref3_fixedT (a0 : Int) : sallyportref3_fixedG a0 = true := by
  unfold sallyportref3_fixedG
  simp only [Go.Ev.cS1, Go.Ev.cS2, Go.Ev.cS3, Go.Ev.cS4, Go.Ev.cS6, Go.Ev.cS7]
theorem sallyportref3_fixedO : RowOk Tryd.prog 21 (rowF [(.int .i64)] none fun g => sallyportref3_fixedV ((g 0).num)) := rowT_ok fun g => pcOf_ok mix fair T20_ok (inlO_ok mix fair T20_ok FS_ok (fun _ h => hOnce_ok once_ok h) 8) sallyportref3_fixedP (fun c _ => OvOk_none c) (sallyportref3_fixedE g) (sallyportref3_fixedT ((g 0).num))
def T21 : List Row := (21, (rowF [(.int .i64)] none fun g => sallyportref3_fixedV ((g 0).num))) :: T20
theorem T21_ok : PSound Tryd.prog (lookR T21) := lookR_cons sallyportref3_fixedO T20_ok

/- sallyport/sallyportref3.Code -/
def sallyportref3_Code_c0 (a0 : Int) : Int :=
  bif iEq (sallyportref3_Class0 a0) 9 then
    bif (iSub IntKind.i64 a0 54).toNat == 5 then 7
    else
      bif (iSub IntKind.i64 a0 54).toNat == 4 then 6
      else
        bif (iSub IntKind.i64 a0 54).toNat == 3 then 5
        else bif (iSub IntKind.i64 a0 54).toNat == 2 then 3 else bif (iSub IntKind.i64 a0 54).toNat == 1 then 2 else bif (iSub IntKind.i64 a0 54).toNat == 0 then 1 else 0
  else bif iEq (sallyportref3_Class0 a0) 11 then 0 else bif bif iEq a0 66 then true else iEq a0 68 then 4 else bif iEq a0 67 then 4 else bif iEq a0 69 then 4 else 0
def sallyportref3_Code_c1 (a0 : Int) : Int :=
  bif iEq (sallyportref3_Class0 a0) 9 then 0
  else
    bif iEq (sallyportref3_Class0 a0) 11 then
      bif (iSub IntKind.i64 a0 63).toNat == 2 then 49 else bif (iSub IntKind.i64 a0 63).toNat == 1 then 17 else bif (iSub IntKind.i64 a0 63).toNat == 0 then 9 else 0
    else bif bif iEq a0 66 then true else iEq a0 68 then 52 else bif iEq a0 67 then 54 else bif iEq a0 69 then 55 else 0
def sallyportref3_Code0 (a0 : Int) : Int :=
  bif iEq a0 1 then 55
  else
    bif iEq a0 2 then 23
    else
      bif iEq a0 3 then 111
      else
        bif iEq a0 4 then 103
        else
          bif iEq (sallyportref3_Class0 a0) 2 then 99
          else
            bif iEq (sallyportref3_Class0 a0) 3 then 3
            else
              bif iEq (sallyportref3_Class0 a0) 4 then 35
              else
                bif iLe a0 27 then 19
                else
                  bif iLe a0 30 then 19
                  else
                    bif iLe a0 34 then 27
                    else
                      bif iLe a0 44 then 51
                      else
                        bif iLe a0 49 then 59
                        else
                          bif iEq (sallyportref3_Class0 a0) 9 then 115
                          else bif iEq (sallyportref3_Class0 a0) 11 then 115 else bif bif iEq a0 66 then true else iEq a0 68 then 115 else bif iEq a0 67 then 115 else bif iEq a0 69 then 115 else 0
def sallyportref3_Code1 (a0 : Int) : Int :=
  bif iEq a0 1 then 0
  else
    bif iEq a0 2 then 0
    else
      bif iEq a0 3 then 0
      else
        bif iEq a0 4 then 0
        else
          bif iEq (sallyportref3_Class0 a0) 2 then
            bif (iSub IntKind.i64 a0 5).toNat == 5 then 7
            else
              bif (iSub IntKind.i64 a0 5).toNat == 4 then 6
              else bif (iSub IntKind.i64 a0 5).toNat == 3 then 5 else bif (iSub IntKind.i64 a0 5).toNat == 2 then 4 else bif (iSub IntKind.i64 a0 5).toNat == 1 then 1 else 0
          else
            bif iEq (sallyportref3_Class0 a0) 3 then iConv IntKind.u32 (iSub IntKind.i64 a0 11)
            else
              bif iEq (sallyportref3_Class0 a0) 4 then iConv IntKind.u32 (iSub IntKind.i64 a0 18)
              else
                bif iLe a0 27 then
                  bif (iSub IntKind.i64 a0 22).toNat == 5 then 7
                  else
                    bif (iSub IntKind.i64 a0 22).toNat == 4 then 6
                    else bif (iSub IntKind.i64 a0 22).toNat == 3 then 4 else bif (iSub IntKind.i64 a0 22).toNat == 2 then 3 else bif (iSub IntKind.i64 a0 22).toNat == 1 then 2 else 0
                else
                  bif iLe a0 30 then bif (iSub IntKind.i64 a0 28).toNat == 2 then 5 else bif (iSub IntKind.i64 a0 28).toNat == 1 then 5 else bif (iSub IntKind.i64 a0 28).toNat == 0 then 1 else 0
                  else
                    bif iLe a0 34 then bif (iSub IntKind.i64 a0 31).toNat == 3 then 5 else bif (iSub IntKind.i64 a0 31).toNat == 2 then 5 else bif (iSub IntKind.i64 a0 31).toNat == 1 then 1 else 0
                    else
                      bif iLe a0 44 then
                        bif (iSub IntKind.i64 a0 35).toNat == 9 then 7
                        else
                          bif (iSub IntKind.i64 a0 35).toNat == 8 then 6
                          else
                            bif (iSub IntKind.i64 a0 35).toNat == 7 then 5
                            else
                              bif (iSub IntKind.i64 a0 35).toNat == 6 then 5
                              else
                                bif (iSub IntKind.i64 a0 35).toNat == 5 then 4
                                else bif (iSub IntKind.i64 a0 35).toNat == 4 then 3 else bif (iSub IntKind.i64 a0 35).toNat == 3 then 2 else bif (iSub IntKind.i64 a0 35).toNat == 2 then 1 else 0
                      else
                        bif iLe a0 49 then bif (iSub IntKind.i64 a0 45).toNat == 4 then 5 else bif (iSub IntKind.i64 a0 45).toNat == 3 then 5 else bif (iSub IntKind.i64 a0 45).toNat == 2 then 1 else 0
                        else sallyportref3_Code_c0 a0
def sallyportref3_Code1r (a0 : Int) : Int :=
  bif iEq a0 1 then 0
  else
    bif iEq a0 2 then 0
    else
      bif iEq a0 3 then 0
      else
        bif iEq a0 4 then 0
        else
          bif iEq (sallyportref3_Class0 a0) 2 then
            bif (iSub IntKind.i64 a0 5).toNat == 5 then 7
            else
              bif (iSub IntKind.i64 a0 5).toNat == 4 then 6
              else
                bif (iSub IntKind.i64 a0 5).toNat == 3 then 5
                else bif (iSub IntKind.i64 a0 5).toNat == 2 then 4 else bif (iSub IntKind.i64 a0 5).toNat == 1 then 1 else bif (iSub IntKind.i64 a0 5).toNat == 0 then 0 else 0
          else
            bif iEq (sallyportref3_Class0 a0) 3 then iConv IntKind.u32 (iSub IntKind.i64 a0 11)
            else
              bif iEq (sallyportref3_Class0 a0) 4 then iConv IntKind.u32 (iSub IntKind.i64 a0 18)
              else
                bif iLe a0 27 then
                  bif (iSub IntKind.i64 a0 22).toNat == 5 then 7
                  else
                    bif (iSub IntKind.i64 a0 22).toNat == 4 then 6
                    else
                      bif (iSub IntKind.i64 a0 22).toNat == 3 then 4
                      else bif (iSub IntKind.i64 a0 22).toNat == 2 then 3 else bif (iSub IntKind.i64 a0 22).toNat == 1 then 2 else bif (iSub IntKind.i64 a0 22).toNat == 0 then 0 else 0
                else
                  bif iLe a0 30 then bif (iSub IntKind.i64 a0 28).toNat == 2 then 5 else bif (iSub IntKind.i64 a0 28).toNat == 1 then 5 else bif (iSub IntKind.i64 a0 28).toNat == 0 then 1 else 0
                  else
                    bif iLe a0 34 then
                      bif (iSub IntKind.i64 a0 31).toNat == 3 then 5
                      else bif (iSub IntKind.i64 a0 31).toNat == 2 then 5 else bif (iSub IntKind.i64 a0 31).toNat == 1 then 1 else bif (iSub IntKind.i64 a0 31).toNat == 0 then 0 else 0
                    else
                      bif iLe a0 44 then
                        bif (iSub IntKind.i64 a0 35).toNat == 9 then 7
                        else
                          bif (iSub IntKind.i64 a0 35).toNat == 8 then 6
                          else
                            bif (iSub IntKind.i64 a0 35).toNat == 7 then 5
                            else
                              bif (iSub IntKind.i64 a0 35).toNat == 6 then 5
                              else
                                bif (iSub IntKind.i64 a0 35).toNat == 5 then 4
                                else
                                  bif (iSub IntKind.i64 a0 35).toNat == 4 then 3
                                  else
                                    bif (iSub IntKind.i64 a0 35).toNat == 3 then 2
                                    else bif (iSub IntKind.i64 a0 35).toNat == 2 then 1 else bif (iSub IntKind.i64 a0 35).toNat == 1 then 0 else bif (iSub IntKind.i64 a0 35).toNat == 0 then 0 else 0
                      else
                        bif iLe a0 49 then
                          bif (iSub IntKind.i64 a0 45).toNat == 4 then 5
                          else
                            bif (iSub IntKind.i64 a0 45).toNat == 3 then 5
                            else bif (iSub IntKind.i64 a0 45).toNat == 2 then 1 else bif (iSub IntKind.i64 a0 45).toNat == 1 then 0 else bif (iSub IntKind.i64 a0 45).toNat == 0 then 0 else 0
                        else sallyportref3_Code_c0 a0
def sallyportref3_Code2 (a0 : Int) : Int :=
  bif iEq a0 1 then 0
  else
    bif iEq a0 2 then 0
    else
      bif iEq a0 3 then 0
      else
        bif iEq a0 4 then 0
        else
          bif iEq (sallyportref3_Class0 a0) 2 then 0
          else
            bif iEq (sallyportref3_Class0 a0) 3 then 0
            else
              bif iEq (sallyportref3_Class0 a0) 4 then 0
              else
                bif iLe a0 27 then 0
                else
                  bif iLe a0 30 then bif (iSub IntKind.i64 a0 28).toNat == 2 then 32 else 0
                  else
                    bif iLe a0 34 then bif (iSub IntKind.i64 a0 31).toNat == 3 then 32 else 0
                    else
                      bif iLe a0 44 then
                        bif (iSub IntKind.i64 a0 35).toNat == 9 then 0
                        else
                          bif (iSub IntKind.i64 a0 35).toNat == 8 then 0
                          else
                            bif (iSub IntKind.i64 a0 35).toNat == 7 then 32
                            else
                              bif (iSub IntKind.i64 a0 35).toNat == 6 then 0
                              else
                                bif (iSub IntKind.i64 a0 35).toNat == 5 then 0
                                else
                                  bif (iSub IntKind.i64 a0 35).toNat == 4 then 0
                                  else bif (iSub IntKind.i64 a0 35).toNat == 3 then 0 else bif (iSub IntKind.i64 a0 35).toNat == 2 then 0 else bif (iSub IntKind.i64 a0 35).toNat == 1 then 32 else 0
                      else
                        bif iLe a0 49 then
                          bif (iSub IntKind.i64 a0 45).toNat == 4 then 32
                          else bif (iSub IntKind.i64 a0 45).toNat == 3 then 0 else bif (iSub IntKind.i64 a0 45).toNat == 2 then 0 else bif (iSub IntKind.i64 a0 45).toNat == 1 then 32 else 0
                        else sallyportref3_Code_c1 a0
def sallyportref3_Code2r (a0 : Int) : Int :=
  bif iEq a0 1 then 0
  else
    bif iEq a0 2 then 0
    else
      bif iEq a0 3 then 0
      else
        bif iEq a0 4 then 0
        else
          bif iEq (sallyportref3_Class0 a0) 2 then 0
          else
            bif iEq (sallyportref3_Class0 a0) 3 then 0
            else
              bif iEq (sallyportref3_Class0 a0) 4 then 0
              else
                bif iLe a0 27 then 0
                else
                  bif iLe a0 30 then bif (iSub IntKind.i64 a0 28).toNat == 2 then 32 else bif (iSub IntKind.i64 a0 28).toNat == 1 then 0 else bif (iSub IntKind.i64 a0 28).toNat == 0 then 0 else 0
                  else
                    bif iLe a0 34 then
                      bif (iSub IntKind.i64 a0 31).toNat == 3 then 32
                      else bif (iSub IntKind.i64 a0 31).toNat == 2 then 0 else bif (iSub IntKind.i64 a0 31).toNat == 1 then 0 else bif (iSub IntKind.i64 a0 31).toNat == 0 then 0 else 0
                    else
                      bif iLe a0 44 then
                        bif (iSub IntKind.i64 a0 35).toNat == 9 then 0
                        else
                          bif (iSub IntKind.i64 a0 35).toNat == 8 then 0
                          else
                            bif (iSub IntKind.i64 a0 35).toNat == 7 then 32
                            else
                              bif (iSub IntKind.i64 a0 35).toNat == 6 then 0
                              else
                                bif (iSub IntKind.i64 a0 35).toNat == 5 then 0
                                else
                                  bif (iSub IntKind.i64 a0 35).toNat == 4 then 0
                                  else
                                    bif (iSub IntKind.i64 a0 35).toNat == 3 then 0
                                    else bif (iSub IntKind.i64 a0 35).toNat == 2 then 0 else bif (iSub IntKind.i64 a0 35).toNat == 1 then 32 else bif (iSub IntKind.i64 a0 35).toNat == 0 then 0 else 0
                      else
                        bif iLe a0 49 then
                          bif (iSub IntKind.i64 a0 45).toNat == 4 then 32
                          else
                            bif (iSub IntKind.i64 a0 45).toNat == 3 then 0
                            else bif (iSub IntKind.i64 a0 45).toNat == 2 then 0 else bif (iSub IntKind.i64 a0 45).toNat == 1 then 32 else bif (iSub IntKind.i64 a0 45).toNat == 0 then 0 else 0
                        else sallyportref3_Code_c1 a0
def sallyportref3_CodeG (a0 : Int) : Bool :=
  bif iEq a0 1 then true
  else
    bif iEq a0 2 then true
    else
      bif iEq a0 3 then true
      else
        bif iEq a0 4 then true
        else
          bif iEq (sallyportref3_Class0 a0) 2 then iIn (iSub IntKind.i64 a0 5) 6 && true
          else
            bif iEq (sallyportref3_Class0 a0) 3 then true
            else
              bif iEq (sallyportref3_Class0 a0) 4 then true
              else
                bif iLe a0 27 then iIn (iSub IntKind.i64 a0 22) 6 && true
                else
                  bif iLe a0 30 then iIn (iSub IntKind.i64 a0 28) 3 && (iIn (iSub IntKind.i64 a0 28) 3 && true)
                  else
                    bif iLe a0 34 then iIn (iSub IntKind.i64 a0 31) 4 && (iIn (iSub IntKind.i64 a0 31) 4 && true)
                    else
                      bif iLe a0 44 then iIn (iSub IntKind.i64 a0 35) 10 && (iIn (iSub IntKind.i64 a0 35) 10 && true)
                      else
                        bif iLe a0 49 then iIn (iSub IntKind.i64 a0 45) 5 && (iIn (iSub IntKind.i64 a0 45) 5 && true)
                        else
                          bif iEq (sallyportref3_Class0 a0) 9 then iIn (iSub IntKind.i64 a0 54) 6 && true
                          else
                            bif iEq (sallyportref3_Class0 a0) 11 then iIn (iSub IntKind.i64 a0 63) 3 && true
                            else bif bif iEq a0 66 then true else iEq a0 68 then true else bif iEq a0 67 then true else bif iEq a0 69 then true else true
theorem sallyportref3_Code1_eq (a0 : Int)  : sallyportref3_Code1r a0  = sallyportref3_Code1 a0  := by
  unfold sallyportref3_Code1r
  first | (simp only [sallyportref3_Code_c0, sallyportref3_Code_c1, Go.Ev.cS1, Go.Ev.cS2, Go.Ev.cS3, Go.Ev.cS4, Go.Ev.cS6, Go.Ev.cS7]; done) | (simp only [sallyportref3_Code_c0, sallyportref3_Code_c1, Go.Ev.cS1, Go.Ev.cS2, Go.Ev.cS3, Go.Ev.cS4, Go.Ev.cS6, Go.Ev.cS7]; kernel_rfl)
theorem sallyportref3_Code2_eq (a0 : Int)  : sallyportref3_Code2r a0  = sallyportref3_Code2 a0  := by
  unfold sallyportref3_Code2r
  first | (simp only [sallyportref3_Code_c0, sallyportref3_Code_c1, Go.Ev.cS1, Go.Ev.cS2, Go.Ev.cS3, Go.Ev.cS4, Go.Ev.cS6, Go.Ev.cS7]; done) | (simp only [sallyportref3_Code_c0, sallyportref3_Code_c1, Go.Ev.cS1, Go.Ev.cS2, Go.Ev.cS3, Go.Ev.cS4, Go.Ev.cS6, Go.Ev.cS7]; kernel_rfl)
def sallyportref3_CodeV (a0 : Int) : AV := .tup [.it .u32 (sallyportref3_Code0 a0), .it .u32 (sallyportref3_Code1 a0), .it .u32 (sallyportref3_Code2 a0)]
def sallyportref3_CodeVr (a0 : Int) : AV := .tup [.it .u32 (sallyportref3_Code0 a0), .it .u32 (sallyportref3_Code1r a0), .it .u32 (sallyportref3_Code2r a0)]
theorem sallyportref3_CodeV_eq (a0 : Int) : sallyportref3_CodeVr a0 = sallyportref3_CodeV a0 := by
  unfold sallyportref3_CodeVr sallyportref3_CodeV
  simp only [sallyportref3_Code1_eq, sallyportref3_Code2_eq]
theorem sallyportref3_CodeE (g : Nat → AV) : pcOf Tryd.prog okT (lookR T21) (inlO Tryd.prog okT (lookR T21) RO FS 400 ST (hOnce Tryd.prog 67 25 21) 8) RO NOV 100 false Tryd.f22 (norms [(.int .i64)] 0 g) = some (sallyportref3_CodeG ((g 0).num), sallyportref3_CodeV ((g 0).num)) :=
  (by kernel_rfl : pcOf Tryd.prog okT (lookR T21) (inlO Tryd.prog okT (lookR T21) RO FS 400 ST (hOnce Tryd.prog 67 25 21) 8) RO NOV 100 false Tryd.f22 (norms [(.int .i64)] 0 g) = some (sallyportref3_CodeG ((g 0).num), sallyportref3_CodeVr ((g 0).num))).trans (by rw [sallyportref3_CodeV_eq])
theorem sallyportref3_CodeP : Plain Tryd.prog 22 Tryd.f22 := ⟨Tryd.func22, of_decide_eq_true (by kernel_rfl)⟩
theorem sallyportref3_CodeO : RowOk Tryd.prog 22 (rowF [(.int .i64)] (some fun g => sallyportref3_CodeG ((g 0).num)) fun g => sallyportref3_CodeV ((g 0).num)) := rowF_ok fun g hg => pcOf_ok mix fair T21_ok (inlO_ok mix fair T21_ok FS_ok (fun _ h => hOnce_ok once_ok h) 8) sallyportref3_CodeP (fun c _ => OvOk_none c) (sallyportref3_CodeE g) hg
def T22 : List Row := (22, (rowF [(.int .i64)] (some fun g => sallyportref3_CodeG ((g 0).num)) fun g => sallyportref3_CodeV ((g 0).num))) :: T21
theorem T22_ok : PSound Tryd.prog (lookR T22) := lookR_cons sallyportref3_CodeO T21_ok

theorem rcode_all : ∀ x : Fin 69, sallyportref3_CodeG ((x.val : Int) + 1) = true := by decide +kernel
theorem rcode_g {op : Int} (h : 1 ≤ op ∧ op < 70) : sallyportref3_CodeG op = true := by
  have := rcode_all ⟨(op - 1).toNat, by omega⟩
  rw [show (((op - 1).toNat : Nat) : Int) + 1 = op by omega] at this
  exact this
/- sallyport/sallyportref3.Encode -/
def sallyportref3_Encode_c0 (a0_Op : Int) (a0_Rd : Int) (a0_Rs1 : Int) (a0_Rs2 : Int) (a0_Imm : Int) (a0_CSR : Int) : Bool :=
  bif bif iNe (sallyportref3_Code2 a0_Op) 0 then true else bif iLe 28 a0_Op then iLe a0_Op 30 else false then true else bif iLe 32 a0_Op then iLe a0_Op 34 else false
def sallyportref3_Encode_c1 (a0_Op : Int) (a0_Rd : Int) (a0_Rs1 : Int) (a0_Rs2 : Int) (a0_Imm : Int) (a0_CSR : Int) : Bool :=
  bif iLe a0_Op 2 then true
  else
    bif iEq a0_Op 3 then true
    else
      bif iEq (sallyportref3_Class0 a0_Op) 2 then true
      else
        bif iEq (sallyportref3_Class0 a0_Op) 4 then true
        else
          bif bif bif iEq (sallyportref3_Class0 a0_Op) 6 then true else iEq (sallyportref3_Class0 a0_Op) 11 then true else iEq a0_Op 69 then true
          else
            bif bif iEq (sallyportref3_Class0 a0_Op) 9 then iLe 57 a0_Op else false then true
            else
              bif iEq (sallyportref3_Class0 a0_Op) 9 then true
              else bif iEq a0_Op 68 then true else bif iEq (sallyportref3_Class0 a0_Op) 12 then true else bif sallyportref3_Encode_c0 a0_Op a0_Rd a0_Rs1 a0_Rs2 a0_Imm a0_CSR then true else true
def sallyportref3_Encode0 (a0_Op : Int) (a0_Rd : Int) (a0_Rs1 : Int) (a0_Rs2 : Int) (a0_Imm : Int) (a0_CSR : Int) : Int :=
  bif !sallyportref3_Is0 a0_Op a0_Rd a0_Rs1 a0_Rs2 a0_Imm a0_CSR then 0
  else
    bif iNe (sallyportref3_fixed0 a0_Op) 0 then sallyportref3_fixed0 a0_Op
    else
      bif iLe a0_Op 2 then iOr IntKind.u32 (iOr IntKind.u32 (sallyportref3_Code0 a0_Op) (iShl IntKind.u32 (iConv IntKind.u32 a0_Rd) 7)) (iAnd IntKind.u32 (iConv IntKind.u32 a0_Imm) 4294963200)
      else
        bif iEq a0_Op 3 then
          iOr IntKind.u32
            (iOr IntKind.u32
              (iOr IntKind.u32
                (iOr IntKind.u32 (iOr IntKind.u32 (sallyportref3_Code0 a0_Op) (iShl IntKind.u32 (iConv IntKind.u32 a0_Rd) 7))
                  (iShl IntKind.u32 (iAnd IntKind.u32 (iShr IntKind.u32 (iConv IntKind.u32 a0_Imm) 20) 1) 31))
                (iShl IntKind.u32 (iAnd IntKind.u32 (iShr IntKind.u32 (iConv IntKind.u32 a0_Imm) 12) 255) 12))
              (iShl IntKind.u32 (iAnd IntKind.u32 (iShr IntKind.u32 (iConv IntKind.u32 a0_Imm) 11) 1) 20))
            (iShl IntKind.u32 (iAnd IntKind.u32 (iShr IntKind.u32 (iConv IntKind.u32 a0_Imm) 1) 1023) 21)
        else
          bif iEq (sallyportref3_Class0 a0_Op) 2 then
            iOr IntKind.u32
              (iOr IntKind.u32
                (iOr IntKind.u32
                  (iOr IntKind.u32
                    (iOr IntKind.u32 (iOr IntKind.u32 (iOr IntKind.u32 (sallyportref3_Code0 a0_Op) (iShl IntKind.u32 (sallyportref3_Code1 a0_Op) 12)) (iShl IntKind.u32 (iConv IntKind.u32 a0_Rs1) 15))
                      (iShl IntKind.u32 (iConv IntKind.u32 a0_Rs2) 20))
                    (iShl IntKind.u32 (iAnd IntKind.u32 (iShr IntKind.u32 (iConv IntKind.u32 a0_Imm) 12) 1) 31))
                  (iShl IntKind.u32 (iAnd IntKind.u32 (iShr IntKind.u32 (iConv IntKind.u32 a0_Imm) 11) 1) 7))
                (iShl IntKind.u32 (iAnd IntKind.u32 (iShr IntKind.u32 (iConv IntKind.u32 a0_Imm) 5) 63) 25))
              (iShl IntKind.u32 (iAnd IntKind.u32 (iShr IntKind.u32 (iConv IntKind.u32 a0_Imm) 1) 15) 8)
          else
            bif iEq (sallyportref3_Class0 a0_Op) 4 then
              iOr IntKind.u32
                (iOr IntKind.u32
                  (iOr IntKind.u32 (iOr IntKind.u32 (iOr IntKind.u32 (sallyportref3_Code0 a0_Op) (iShl IntKind.u32 (sallyportref3_Code1 a0_Op) 12)) (iShl IntKind.u32 (iConv IntKind.u32 a0_Rs1) 15))
                    (iShl IntKind.u32 (iConv IntKind.u32 a0_Rs2) 20))
                  (iShl IntKind.u32 (iAnd IntKind.u32 (iShr IntKind.u32 (iConv IntKind.u32 a0_Imm) 5) 127) 25))
                (iShl IntKind.u32 (iAnd IntKind.u32 (iConv IntKind.u32 a0_Imm) 31) 7)
            else
              bif bif bif iEq (sallyportref3_Class0 a0_Op) 6 then true else iEq (sallyportref3_Class0 a0_Op) 11 then true else iEq a0_Op 69 then
                iOr IntKind.u32
                  (iOr IntKind.u32
                    (iOr IntKind.u32 (iOr IntKind.u32 (iOr IntKind.u32 (sallyportref3_Code0 a0_Op) (iShl IntKind.u32 (sallyportref3_Code1 a0_Op) 12)) (iShl IntKind.u32 (iConv IntKind.u32 a0_Rs1) 15))
                      (iShl IntKind.u32 (iConv IntKind.u32 a0_Rd) 7))
                    (iShl IntKind.u32 (iConv IntKind.u32 a0_Rs2) 20))
                  (iShl IntKind.u32 (sallyportref3_Code2 a0_Op) 25)
              else
                bif bif iEq (sallyportref3_Class0 a0_Op) 9 then iLe 57 a0_Op else false then
                  iOr IntKind.u32
                    (iOr IntKind.u32 (iOr IntKind.u32 (iOr IntKind.u32 (sallyportref3_Code0 a0_Op) (iShl IntKind.u32 (sallyportref3_Code1 a0_Op) 12)) (iShl IntKind.u32 (iConv IntKind.u32 a0_Rd) 7))
                      (iShl IntKind.u32 (iConv IntKind.u32 a0_Imm) 15))
                    (iShl IntKind.u32 (iConv IntKind.u32 a0_CSR) 20)
                else
                  bif iEq (sallyportref3_Class0 a0_Op) 9 then
                    iOr IntKind.u32
                      (iOr IntKind.u32 (iOr IntKind.u32 (iOr IntKind.u32 (sallyportref3_Code0 a0_Op) (iShl IntKind.u32 (sallyportref3_Code1 a0_Op) 12)) (iShl IntKind.u32 (iConv IntKind.u32 a0_Rs1) 15))
                        (iShl IntKind.u32 (iConv IntKind.u32 a0_Rd) 7))
                      (iShl IntKind.u32 (iConv IntKind.u32 a0_CSR) 20)
                  else
                    bif iEq a0_Op 68 then
                      iOr IntKind.u32
                        (iOr IntKind.u32
                          (iOr IntKind.u32
                            (iOr IntKind.u32 (iOr IntKind.u32 (sallyportref3_Code0 a0_Op) (iShl IntKind.u32 (sallyportref3_Code1 a0_Op) 12)) (iShl IntKind.u32 (iConv IntKind.u32 a0_Rs1) 15))
                            (iShl IntKind.u32 (iConv IntKind.u32 a0_Rd) 7))
                          3145728)
                        (iShl IntKind.u32 (sallyportref3_Code2 a0_Op) 25)
                    else
                      bif iEq (sallyportref3_Class0 a0_Op) 12 then
                        iOr IntKind.u32
                          (iOr IntKind.u32
                            (iOr IntKind.u32 (iOr IntKind.u32 (sallyportref3_Code0 a0_Op) (iShl IntKind.u32 (sallyportref3_Code1 a0_Op) 12)) (iShl IntKind.u32 (iConv IntKind.u32 a0_Rs1) 15))
                            (iShl IntKind.u32 (iConv IntKind.u32 a0_Rd) 7))
                          (iShl IntKind.u32 (sallyportref3_Code2 a0_Op) 25)
                      else
                        bif sallyportref3_Encode_c0 a0_Op a0_Rd a0_Rs1 a0_Rs2 a0_Imm a0_CSR then
                          iOr IntKind.u32
                            (iOr IntKind.u32
                              (iOr IntKind.u32
                                (iOr IntKind.u32 (iOr IntKind.u32 (sallyportref3_Code0 a0_Op) (iShl IntKind.u32 (sallyportref3_Code1 a0_Op) 12)) (iShl IntKind.u32 (iConv IntKind.u32 a0_Rs1) 15))
                                (iShl IntKind.u32 (iConv IntKind.u32 a0_Rd) 7))
                              (iShl IntKind.u32 (iAnd IntKind.u32 (iConv IntKind.u32 a0_Imm) 63) 20))
                            (iShl IntKind.u32 (sallyportref3_Code2 a0_Op) 25)
                        else
                          iOr IntKind.u32
                            (iOr IntKind.u32
                              (iOr IntKind.u32 (iOr IntKind.u32 (sallyportref3_Code0 a0_Op) (iShl IntKind.u32 (sallyportref3_Code1 a0_Op) 12)) (iShl IntKind.u32 (iConv IntKind.u32 a0_Rs1) 15))
                              (iShl IntKind.u32 (iConv IntKind.u32 a0_Rd) 7))
                            (iShl IntKind.u32 (iAnd IntKind.u32 (iConv IntKind.u32 a0_Imm) 4095) 20)
def sallyportref3_Encode1 (a0_Op : Int) (a0_Rd : Int) (a0_Rs1 : Int) (a0_Rs2 : Int) (a0_Imm : Int) (a0_CSR : Int) : Bool :=
  bif !sallyportref3_Is0 a0_Op a0_Rd a0_Rs1 a0_Rs2 a0_Imm a0_CSR then false else true
def sallyportref3_Encode1r (a0_Op : Int) (a0_Rd : Int) (a0_Rs1 : Int) (a0_Rs2 : Int) (a0_Imm : Int) (a0_CSR : Int) : Bool :=
  bif !sallyportref3_Is0 a0_Op a0_Rd a0_Rs1 a0_Rs2 a0_Imm a0_CSR then false else bif iNe (sallyportref3_fixed0 a0_Op) 0 then true else sallyportref3_Encode_c1 a0_Op a0_Rd a0_Rs1 a0_Rs2 a0_Imm a0_CSR
def sallyportref3_EncodeG (a0_Op : Int) (a0_Rd : Int) (a0_Rs1 : Int) (a0_Rs2 : Int) (a0_Imm : Int) (a0_CSR : Int) : Bool :=
  bif !sallyportref3_Is0 a0_Op a0_Rd a0_Rs1 a0_Rs2 a0_Imm a0_CSR then true
  else bif iNe (sallyportref3_fixed0 a0_Op) 0 then true else sallyportref3_CodeG a0_Op && sallyportref3_Encode_c1 a0_Op a0_Rd a0_Rs1 a0_Rs2 a0_Imm a0_CSR
theorem sallyportref3_Encode1_eq (a0_Op : Int) (a0_Rd : Int) (a0_Rs1 : Int) (a0_Rs2 : Int) (a0_Imm : Int) (a0_CSR : Int)  : sallyportref3_Encode1r a0_Op a0_Rd a0_Rs1 a0_Rs2 a0_Imm a0_CSR  = sallyportref3_Encode1 a0_Op a0_Rd a0_Rs1 a0_Rs2 a0_Imm a0_CSR  := by
  unfold sallyportref3_Encode1r
  first | (simp only [sallyportref3_Encode_c0, sallyportref3_Encode_c1, Go.Ev.cS1, Go.Ev.cS2, Go.Ev.cS3, Go.Ev.cS4, Go.Ev.cS6, Go.Ev.cS7]; done) | (simp only [sallyportref3_Encode_c0, sallyportref3_Encode_c1, Go.Ev.cS1, Go.Ev.cS2, Go.Ev.cS3, Go.Ev.cS4, Go.Ev.cS6, Go.Ev.cS7]; kernel_rfl)
def sallyportref3_EncodeV (a0_Op : Int) (a0_Rd : Int) (a0_Rs1 : Int) (a0_Rs2 : Int) (a0_Imm : Int) (a0_CSR : Int) : AV := .tup [.it .u32 (sallyportref3_Encode0 a0_Op a0_Rd a0_Rs1 a0_Rs2 a0_Imm a0_CSR), .bl (sallyportref3_Encode1 a0_Op a0_Rd a0_Rs1 a0_Rs2 a0_Imm a0_CSR)]
def sallyportref3_EncodeVr (a0_Op : Int) (a0_Rd : Int) (a0_Rs1 : Int) (a0_Rs2 : Int) (a0_Imm : Int) (a0_CSR : Int) : AV := .tup [.it .u32 (sallyportref3_Encode0 a0_Op a0_Rd a0_Rs1 a0_Rs2 a0_Imm a0_CSR), .bl (sallyportref3_Encode1r a0_Op a0_Rd a0_Rs1 a0_Rs2 a0_Imm a0_CSR)]
theorem sallyportref3_EncodeV_eq (a0_Op : Int) (a0_Rd : Int) (a0_Rs1 : Int) (a0_Rs2 : Int) (a0_Imm : Int) (a0_CSR : Int) : sallyportref3_EncodeVr a0_Op a0_Rd a0_Rs1 a0_Rs2 a0_Imm a0_CSR = sallyportref3_EncodeV a0_Op a0_Rd a0_Rs1 a0_Rs2 a0_Imm a0_CSR := by
  unfold sallyportref3_EncodeVr sallyportref3_EncodeV
  simp only [sallyportref3_Encode1_eq]
theorem sallyportref3_EncodeE (g : Nat → AV) : pcOf Tryd.prog okT (lookR T22) (inlO Tryd.prog okT (lookR T22) RO FS 400 ST (hOnce Tryd.prog 67 25 21) 8) RO NOV 100 false Tryd.f11 (norms [(.agg [(.int .i64), (.int .i64), (.int .i64), (.int .i64), (.int .i64), (.int .i64)])] 0 g) = some (sallyportref3_EncodeG (((g 0).fld 0).num) (((g 0).fld 1).num) (((g 0).fld 2).num) (((g 0).fld 3).num) (((g 0).fld 4).num) (((g 0).fld 5).num), sallyportref3_EncodeV (((g 0).fld 0).num) (((g 0).fld 1).num) (((g 0).fld 2).num) (((g 0).fld 3).num) (((g 0).fld 4).num) (((g 0).fld 5).num)) :=
  (by kernel_rfl : pcOf Tryd.prog okT (lookR T22) (inlO Tryd.prog okT (lookR T22) RO FS 400 ST (hOnce Tryd.prog 67 25 21) 8) RO NOV 100 false Tryd.f11 (norms [(.agg [(.int .i64), (.int .i64), (.int .i64), (.int .i64), (.int .i64), (.int .i64)])] 0 g) = some (sallyportref3_EncodeG (((g 0).fld 0).num) (((g 0).fld 1).num) (((g 0).fld 2).num) (((g 0).fld 3).num) (((g 0).fld 4).num) (((g 0).fld 5).num), sallyportref3_EncodeVr (((g 0).fld 0).num) (((g 0).fld 1).num) (((g 0).fld 2).num) (((g 0).fld 3).num) (((g 0).fld 4).num) (((g 0).fld 5).num))).trans (by rw [sallyportref3_EncodeV_eq])
theorem sallyportref3_EncodeP : Plain Tryd.prog 11 Tryd.f11 := ⟨Tryd.func11, of_decide_eq_true (by kernel_rfl)⟩
theorem sallyportref3_EncodeT (a0_Op : Int) (a0_Rd : Int) (a0_Rs1 : Int) (a0_Rs2 : Int) (a0_Imm : Int) (a0_CSR : Int) : sallyportref3_EncodeG a0_Op a0_Rd a0_Rs1 a0_Rs2 a0_Imm a0_CSR = true := by
  unfold sallyportref3_EncodeG
  cases h : sallyportref3_Is0 a0_Op a0_Rd a0_Rs1 a0_Rs2 a0_Imm a0_CSR with
  | false => rfl
  | true =>
    rw [rcode_g (ris_op h)]
    unfold sallyportref3_Encode_c1
    simp [Go.Ev.cS1]
theorem sallyportref3_EncodeO : RowOk Tryd.prog 11 (rowF [(.agg [(.int .i64), (.int .i64), (.int .i64), (.int .i64), (.int .i64), (.int .i64)])] none fun g => sallyportref3_EncodeV (((g 0).fld 0).num) (((g 0).fld 1).num) (((g 0).fld 2).num) (((g 0).fld 3).num) (((g 0).fld 4).num) (((g 0).fld 5).num)) := rowT_ok fun g => pcOf_ok mix fair T22_ok (inlO_ok mix fair T22_ok FS_ok (fun _ h => hOnce_ok once_ok h) 8) sallyportref3_EncodeP (fun c _ => OvOk_none c) (sallyportref3_EncodeE g) (sallyportref3_EncodeT (((g 0).fld 0).num) (((g 0).fld 1).num) (((g 0).fld 2).num) (((g 0).fld 3).num) (((g 0).fld 4).num) (((g 0).fld 5).num))
def T11 : List Row := (11, (rowF [(.agg [(.int .i64), (.int .i64), (.int .i64), (.int .i64), (.int .i64), (.int .i64)])] none fun g => sallyportref3_EncodeV (((g 0).fld 0).num) (((g 0).fld 1).num) (((g 0).fld 2).num) (((g 0).fld 3).num) (((g 0).fld 4).num) (((g 0).fld 5).num))) :: T22
theorem T11_ok : PSound Tryd.prog (lookR T11) := lookR_cons sallyportref3_EncodeO T22_ok

/- sallyport/word.part -/
def word_part0 (a0 : Int) (a1 : Int) : Int :=
  iMin (iMax a0 0) 63
def word_part1 (a0 : Int) (a1 : Int) : Int :=
  iMin (iMax a1 0) (iSub IntKind.i64 64 (iMin (iMax a0 0) 63))
def word_partG (a0 : Int) (a1 : Int) : Bool :=
  true
def word_partV (a0 : Int) (a1 : Int) : AV := .tup [.it .i64 (word_part0 a0 a1), .it .i64 (word_part1 a0 a1)]
theorem word_partE (g : Nat → AV) : pcOf Tryd.prog okT (lookR T11) (inlO Tryd.prog okT (lookR T11) RO FS 400 ST (hOnce Tryd.prog 67 25 21) 8) RO NOV 100 false Tryd.f60 (norms [(.int .i64), (.int .i64)] 0 g) = some (word_partG ((g 0).num) ((g 1).num), word_partV ((g 0).num) ((g 1).num)) := by kernel_rfl
theorem word_partP : Plain Tryd.prog 60 Tryd.f60 := ⟨Tryd.func60, of_decide_eq_true (by kernel_rfl)⟩
theorem word_partT (a0 : Int) (a1 : Int) : word_partG a0 a1 = true := rfl
theorem word_partO : RowOk Tryd.prog 60 (rowF [(.int .i64), (.int .i64)] none fun g => word_partV ((g 0).num) ((g 1).num)) := rowT_ok fun g => pcOf_ok mix fair T11_ok (inlO_ok mix fair T11_ok FS_ok (fun _ h => hOnce_ok once_ok h) 8) word_partP (fun c _ => OvOk_none c) (word_partE g) (word_partT ((g 0).num) ((g 1).num))
def T60 : List Row := (60, (rowF [(.int .i64), (.int .i64)] none fun g => word_partV ((g 0).num) ((g 1).num))) :: T11
theorem T60_ok : PSound Tryd.prog (lookR T60) := lookR_cons word_partO T11_ok

theorem part0_in (a b : Int) : 0 ≤ word_part0 a b ∧ word_part0 a b ≤ 63 := by
  unfold word_part0; rw [iMin_eq, iMax_eq]; split <;> split <;> omega
theorem part1_in (a b : Int) : 0 ≤ word_part1 a b ∧ word_part1 a b ≤ 64 - word_part0 a b := by
  have h := part0_in a b
  have e : word_part1 a b = iMin (iMax b 0) (iSub .i64 64 (word_part0 a b)) := rfl
  rw [e, iSub_i64 (by omega) (by omega), iMin_eq, iMax_eq]; split <;> split <;> omega
/- sallyport/word.mask -/
def word_mask0 (a0 : Int) : Int :=
  bif iLe 64 a0 then 18446744073709551615 else iSub IntKind.u64 (iShl IntKind.u64 1 a0) 1
def word_maskG (a0 : Int) : Bool :=
  bif iLe 64 a0 then true else iLe 0 a0 && true
def word_maskV (a0 : Int) : AV := .it .u64 (word_mask0 a0)
theorem word_maskE (g : Nat → AV) : pcOf Tryd.prog okT (lookR T60) (inlO Tryd.prog okT (lookR T60) RO FS 400 ST (hOnce Tryd.prog 67 25 21) 8) RO NOV 100 false Tryd.f61 (norms [(.int .i64)] 0 g) = some (word_maskG ((g 0).num), word_maskV ((g 0).num)) := by kernel_rfl
theorem word_maskP : Plain Tryd.prog 61 Tryd.f61 := ⟨Tryd.func61, of_decide_eq_true (by kernel_rfl)⟩
theorem word_maskO : RowOk Tryd.prog 61 (rowF [(.int .i64)] (some fun g => word_maskG ((g 0).num)) fun g => word_maskV ((g 0).num)) := rowF_ok fun g hg => pcOf_ok mix fair T60_ok (inlO_ok mix fair T60_ok FS_ok (fun _ h => hOnce_ok once_ok h) 8) word_maskP (fun c _ => OvOk_none c) (word_maskE g) hg
def T61 : List Row := (61, (rowF [(.int .i64)] (some fun g => word_maskG ((g 0).num)) fun g => word_maskV ((g 0).num))) :: T60
theorem T61_ok : PSound Tryd.prog (lookR T61) := lookR_cons word_maskO T60_ok

/- sallyport/word.Bits -/
def word_Bits0 (a0 : Int) (a1 : Int) (a2 : Int) : Int :=
  iAnd IntKind.u64 (iShr IntKind.u64 a0 (word_part0 a1 a2)) (word_mask0 (word_part1 a1 a2))
def word_BitsG (a0 : Int) (a1 : Int) (a2 : Int) : Bool :=
  iLe 0 (word_part0 a1 a2) && (word_maskG (word_part1 a1 a2) && true)
def word_BitsV (a0 : Int) (a1 : Int) (a2 : Int) : AV := .it .u64 (word_Bits0 a0 a1 a2)
theorem word_BitsE (g : Nat → AV) : pcOf Tryd.prog okT (lookR T61) (inlO Tryd.prog okT (lookR T61) RO FS 400 ST (hOnce Tryd.prog 67 25 21) 8) RO NOV 100 false Tryd.f41 (norms [(.int .u64), (.int .i64), (.int .i64)] 0 g) = some (word_BitsG ((g 0).num) ((g 1).num) ((g 2).num), word_BitsV ((g 0).num) ((g 1).num) ((g 2).num)) := by kernel_rfl
theorem word_BitsP : Plain Tryd.prog 41 Tryd.f41 := ⟨Tryd.func41, of_decide_eq_true (by kernel_rfl)⟩
theorem word_BitsT (a0 : Int) (a1 : Int) (a2 : Int) : word_BitsG a0 a1 a2 = true := by unfold word_BitsG word_maskG; have h0 := part0_in a1 a2; have h1 := part1_in a1 a2; simp [iLe_true.2 h0.1, iLe_true.2 h1.1]
theorem word_BitsO : RowOk Tryd.prog 41 (rowF [(.int .u64), (.int .i64), (.int .i64)] none fun g => word_BitsV ((g 0).num) ((g 1).num) ((g 2).num)) := rowT_ok fun g => pcOf_ok mix fair T61_ok (inlO_ok mix fair T61_ok FS_ok (fun _ h => hOnce_ok once_ok h) 8) word_BitsP (fun c _ => OvOk_none c) (word_BitsE g) (word_BitsT ((g 0).num) ((g 1).num) ((g 2).num))
def T41 : List Row := (41, (rowF [(.int .u64), (.int .i64), (.int .i64)] none fun g => word_BitsV ((g 0).num) ((g 1).num) ((g 2).num))) :: T61
theorem T41_ok : PSound Tryd.prog (lookR T41) := lookR_cons word_BitsO T61_ok

/- sallyport/decode.of -/
def decode_of0 (a0 : Int) : Int :=
  iConv IntKind.i64 (word_Bits0 (iConv IntKind.u64 a0) 7 5)
def decode_of1 (a0 : Int) : Int :=
  iConv IntKind.i64 (word_Bits0 (iConv IntKind.u64 a0) 12 3)
def decode_of2 (a0 : Int) : Int :=
  iConv IntKind.i64 (word_Bits0 (iConv IntKind.u64 a0) 15 5)
def decode_of3 (a0 : Int) : Int :=
  iConv IntKind.i64 (word_Bits0 (iConv IntKind.u64 a0) 20 5)
def decode_of4 (a0 : Int) : Int :=
  iConv IntKind.i64 (word_Bits0 (iConv IntKind.u64 a0) 25 7)
def decode_ofG (a0 : Int) : Bool :=
  true
def decode_ofV (a0 : Int) : AV := .agg [.it .u32 a0, .it .i64 (decode_of0 a0), .it .i64 (decode_of1 a0), .it .i64 (decode_of2 a0), .it .i64 (decode_of3 a0), .it .i64 (decode_of4 a0)]
theorem decode_ofE (g : Nat → AV) : pcOf Tryd.prog okT (lookR T41) (inlO Tryd.prog okT (lookR T41) RO FS 400 ST (hOnce Tryd.prog 67 25 21) 8) RO NOV 100 false Tryd.f36 (norms [(.int .u32)] 0 g) = some (decode_ofG ((g 0).num), decode_ofV ((g 0).num)) := by kernel_rfl
theorem decode_ofP : Plain Tryd.prog 36 Tryd.f36 := ⟨Tryd.func36, of_decide_eq_true (by kernel_rfl)⟩
theorem decode_ofT (a0 : Int) : decode_ofG a0 = true := rfl
theorem decode_ofO : RowOk Tryd.prog 36 (rowF [(.int .u32)] none fun g => decode_ofV ((g 0).num)) := rowT_ok fun g => pcOf_ok mix fair T41_ok (inlO_ok mix fair T41_ok FS_ok (fun _ h => hOnce_ok once_ok h) 8) decode_ofP (fun c _ => OvOk_none c) (decode_ofE g) (decode_ofT ((g 0).num))
def T36 : List Row := (36, (rowF [(.int .u32)] none fun g => decode_ofV ((g 0).num))) :: T41
theorem T36_ok : PSound Tryd.prog (lookR T36) := lookR_cons decode_ofO T41_ok

theorem of1_in (w : Int) : iIn (decode_of1 w) 8 = true := by
  have hm : word_mask0 (word_part1 12 3) = 7 := by decide +kernel
  show iIn (iConv .i64 (word_Bits0 (iConv .u64 w) 12 3)) 8 = true
  unfold word_Bits0
  rw [hm]
  generalize iShr IntKind.u64 (iConv IntKind.u64 w) (word_part0 12 3) = x
  unfold iAnd
  have h : (BitVec.ofInt IntKind.u64.bits x &&& BitVec.ofInt IntKind.u64.bits 7).toNat ≤ 7 := by
    rw [BitVec.toNat_and]
    exact Nat.and_le_right
  rw [wrapU (by omega) (by omega), iIn_true]
  unfold iConv
  rw [wrapI (by omega) (by omega)]
  omega
/- sallyport/decode.Opcode -/
def decode_Opcode0 (a0 : Int) : Int :=
  iConv IntKind.i64 (word_Bits0 (iConv IntKind.u64 a0) 0 7)
def decode_OpcodeG (a0 : Int) : Bool :=
  true
def decode_OpcodeV (a0 : Int) : AV := .it .i64 (decode_Opcode0 a0)
theorem decode_OpcodeE (g : Nat → AV) : pcOf Tryd.prog okT (lookR T36) (inlO Tryd.prog okT (lookR T36) RO FS 400 ST (hOnce Tryd.prog 67 25 21) 8) RO NOV 100 false Tryd.f53 (norms [(.int .u32)] 0 g) = some (decode_OpcodeG ((g 0).num), decode_OpcodeV ((g 0).num)) := by kernel_rfl
theorem decode_OpcodeP : Plain Tryd.prog 53 Tryd.f53 := ⟨Tryd.func53, of_decide_eq_true (by kernel_rfl)⟩
theorem decode_OpcodeT (a0 : Int) : decode_OpcodeG a0 = true := rfl
theorem decode_OpcodeO : RowOk Tryd.prog 53 (rowF [(.int .u32)] none fun g => decode_OpcodeV ((g 0).num)) := rowT_ok fun g => pcOf_ok mix fair T36_ok (inlO_ok mix fair T36_ok FS_ok (fun _ h => hOnce_ok once_ok h) 8) decode_OpcodeP (fun c _ => OvOk_none c) (decode_OpcodeE g) (decode_OpcodeT ((g 0).num))
def T53 : List Row := (53, (rowF [(.int .u32)] none fun g => decode_OpcodeV ((g 0).num))) :: T36
theorem T53_ok : PSound Tryd.prog (lookR T53) := lookR_cons decode_OpcodeO T36_ok

/- sallyport/word.Sext -/
def word_Sext0 (a0 : Int) (a1 : Int) : Int :=
  iConv IntKind.u64 (iShr IntKind.i64 (iConv IntKind.i64 (iShl IntKind.u64 a0 (iSub IntKind.i64 64 (iMin (iMax a1 1) 64)))) (iSub IntKind.i64 64 (iMin (iMax a1 1) 64)))
def word_SextG (a0 : Int) (a1 : Int) : Bool :=
  iLe 0 (iSub IntKind.i64 64 (iMin (iMax a1 1) 64)) && (iLe 0 (iSub IntKind.i64 64 (iMin (iMax a1 1) 64)) && true)
def word_SextV (a0 : Int) (a1 : Int) : AV := .it .u64 (word_Sext0 a0 a1)
theorem word_SextE (g : Nat → AV) : pcOf Tryd.prog okT (lookR T53) (inlO Tryd.prog okT (lookR T53) RO FS 400 ST (hOnce Tryd.prog 67 25 21) 8) RO NOV 100 false Tryd.f71 (norms [(.int .u64), (.int .i64)] 0 g) = some (word_SextG ((g 0).num) ((g 1).num), word_SextV ((g 0).num) ((g 1).num)) := by kernel_rfl
theorem word_SextP : Plain Tryd.prog 71 Tryd.f71 := ⟨Tryd.func71, of_decide_eq_true (by kernel_rfl)⟩
theorem word_SextT (a0 : Int) (a1 : Int) : word_SextG a0 a1 = true := by
  unfold word_SextG
  have h : 0 ≤ iSub IntKind.i64 64 (iMin (iMax a1 1) 64) := by
    have h1 : 1 ≤ iMin (iMax a1 1) 64 ∧ iMin (iMax a1 1) 64 ≤ 64 := by rw [iMin_eq, iMax_eq]; split <;> split <;> omega
    rw [iSub_i64 (by omega) (by omega)]; omega
  simp [iLe_true.2 h]
theorem word_SextO : RowOk Tryd.prog 71 (rowF [(.int .u64), (.int .i64)] none fun g => word_SextV ((g 0).num) ((g 1).num)) := rowT_ok fun g => pcOf_ok mix fair T53_ok (inlO_ok mix fair T53_ok FS_ok (fun _ h => hOnce_ok once_ok h) 8) word_SextP (fun c _ => OvOk_none c) (word_SextE g) (word_SextT ((g 0).num) ((g 1).num))
def T71 : List Row := (71, (rowF [(.int .u64), (.int .i64)] none fun g => word_SextV ((g 0).num) ((g 1).num))) :: T53
theorem T71_ok : PSound Tryd.prog (lookR T71) := lookR_cons word_SextO T53_ok

/- (sallyport/decode.parts).immediate -/
def decode_parts__immediate0 (a0_w : Int) (a0_rd : Int) (a0_f3 : Int) (a0_rs1 : Int) (a0_rs2 : Int) (a0_f7 : Int) (a1 : Int) : Int :=
  iConv IntKind.i64 (word_Sext0 (iShl IntKind.u64 (iOr IntKind.u64 0 (word_Bits0 (iConv IntKind.u64 a0_w) 20 12)) 0) 12)
def decode_parts__immediateG (a0_w : Int) (a0_rd : Int) (a0_f3 : Int) (a0_rs1 : Int) (a0_rs2 : Int) (a0_f7 : Int) (a1 : Int) : Bool :=
  true
def decode_parts__immediateV (a0_w : Int) (a0_rd : Int) (a0_f3 : Int) (a0_rs1 : Int) (a0_rs2 : Int) (a0_f7 : Int) (a1 : Int) : AV := .agg [.it .i64 a1, .it .i64 (a0_rd), .it .i64 (a0_rs1), .it .i64 0, .it .i64 (decode_parts__immediate0 a0_w a0_rd a0_f3 a0_rs1 a0_rs2 a0_f7 a1), .it .i64 0]
theorem decode_parts__immediateE (g : Nat → AV) : pcOf Tryd.prog okT (lookR T71) (inlO Tryd.prog okT (lookR T71) RO FS 400 ST (hOnce Tryd.prog 67 25 21) 8) RO NOV 100 false Tryd.f55 (norms [(.agg [(.int .u32), (.int .i64), (.int .i64), (.int .i64), (.int .i64), (.int .i64)]), (.int .i64)] 0 g) = some (decode_parts__immediateG (((g 0).fld 0).num) (((g 0).fld 1).num) (((g 0).fld 2).num) (((g 0).fld 3).num) (((g 0).fld 4).num) (((g 0).fld 5).num) ((g 1).num), decode_parts__immediateV (((g 0).fld 0).num) (((g 0).fld 1).num) (((g 0).fld 2).num) (((g 0).fld 3).num) (((g 0).fld 4).num) (((g 0).fld 5).num) ((g 1).num)) := by kernel_rfl
theorem decode_parts__immediateP : Plain Tryd.prog 55 Tryd.f55 := ⟨Tryd.func55, of_decide_eq_true (by kernel_rfl)⟩
theorem decode_parts__immediateT (a0_w : Int) (a0_rd : Int) (a0_f3 : Int) (a0_rs1 : Int) (a0_rs2 : Int) (a0_f7 : Int) (a1 : Int) : decode_parts__immediateG a0_w a0_rd a0_f3 a0_rs1 a0_rs2 a0_f7 a1 = true := rfl
theorem decode_parts__immediateO : RowOk Tryd.prog 55 (rowF [(.agg [(.int .u32), (.int .i64), (.int .i64), (.int .i64), (.int .i64), (.int .i64)]), (.int .i64)] none fun g => decode_parts__immediateV (((g 0).fld 0).num) (((g 0).fld 1).num) (((g 0).fld 2).num) (((g 0).fld 3).num) (((g 0).fld 4).num) (((g 0).fld 5).num) ((g 1).num)) := rowT_ok fun g => pcOf_ok mix fair T71_ok (inlO_ok mix fair T71_ok FS_ok (fun _ h => hOnce_ok once_ok h) 8) decode_parts__immediateP (fun c _ => OvOk_none c) (decode_parts__immediateE g) (decode_parts__immediateT (((g 0).fld 0).num) (((g 0).fld 1).num) (((g 0).fld 2).num) (((g 0).fld 3).num) (((g 0).fld 4).num) (((g 0).fld 5).num) ((g 1).num))
def T55 : List Row := (55, (rowF [(.agg [(.int .u32), (.int .i64), (.int .i64), (.int .i64), (.int .i64), (.int .i64)]), (.int .i64)] none fun g => decode_parts__immediateV (((g 0).fld 0).num) (((g 0).fld 1).num) (((g 0).fld 2).num) (((g 0).fld 3).num) (((g 0).fld 4).num) (((g 0).fld 5).num) ((g 1).num))) :: T71
theorem T55_ok : PSound Tryd.prog (lookR T55) := lookR_cons decode_parts__immediateO T71_ok

/- (sallyport/decode.parts).reckons -/
def decode_parts__reckons_c0 (a0_w : Int) (a0_rd : Int) (a0_f3 : Int) (a0_rs1 : Int) (a0_rs2 : Int) (a0_f7 : Int) : Int :=
  bif a0_f3.toNat == 5 then 33 else bif a0_f3.toNat == 1 then 32 else bif a0_f3.toNat == 0 then 31 else 0
def decode_parts__reckons_c1 (a0_w : Int) (a0_rd : Int) (a0_f3 : Int) (a0_rs1 : Int) (a0_rs2 : Int) (a0_f7 : Int) : Bool :=
  bif iEq (decode_parts__reckons_c0 a0_w a0_rd a0_f3 a0_rs1 a0_rs2 a0_f7) 0 then true else bif iNe a0_f3 1 then iNe a0_f3 5 else false
def decode_parts__reckons_c2 (a0_w : Int) (a0_rd : Int) (a0_f3 : Int) (a0_rs1 : Int) (a0_rs2 : Int) (a0_f7 : Int) : Bool :=
  bif iEq (decode_Opcode0 a0_w) 19 then
    bif bif iEq (iShl IntKind.u64 (word_Bits0 (iConv IntKind.u64 a0_w) 26 6) 6) 1024 then iEq a0_f3 5 else false then true
    else bif iNe (iShl IntKind.u64 (word_Bits0 (iConv IntKind.u64 a0_w) 26 6) 6) 0 then true else true
  else
    bif bif iEq (iShl IntKind.u64 (word_Bits0 (iConv IntKind.u64 a0_w) 25 7) 5) 1024 then iEq a0_f3 5 else false then true
    else bif iNe (iShl IntKind.u64 (word_Bits0 (iConv IntKind.u64 a0_w) 25 7) 5) 0 then true else true
def decode_parts__reckons_c3 (a0_w : Int) (a0_rd : Int) (a0_f3 : Int) (a0_rs1 : Int) (a0_rs2 : Int) (a0_f7 : Int) : Int :=
  bif a0_f3.toNat == 7 then 27
  else
    bif a0_f3.toNat == 6 then 26
    else
      bif a0_f3.toNat == 5 then 29
      else bif a0_f3.toNat == 4 then 25 else bif a0_f3.toNat == 3 then 24 else bif a0_f3.toNat == 2 then 23 else bif a0_f3.toNat == 1 then 28 else bif a0_f3.toNat == 0 then 22 else 0
def decode_parts__reckons_c4 (a0_w : Int) (a0_rd : Int) (a0_f3 : Int) (a0_rs1 : Int) (a0_rs2 : Int) (a0_f7 : Int) : Bool :=
  bif iEq (decode_parts__reckons_c3 a0_w a0_rd a0_f3 a0_rs1 a0_rs2 a0_f7) 0 then true else bif iNe a0_f3 1 then iNe a0_f3 5 else false
def decode_parts__reckons_c5 (a0_w : Int) (a0_rd : Int) (a0_f3 : Int) (a0_rs1 : Int) (a0_rs2 : Int) (a0_f7 : Int) : Int :=
  bif iEq (decode_parts__reckons_c0 a0_w a0_rd a0_f3 a0_rs1 a0_rs2 a0_f7) 29 then 30 else bif iEq (decode_parts__reckons_c0 a0_w a0_rd a0_f3 a0_rs1 a0_rs2 a0_f7) 33 then 34 else 0
def decode_parts__reckons_c6 (a0_w : Int) (a0_rd : Int) (a0_f3 : Int) (a0_rs1 : Int) (a0_rs2 : Int) (a0_f7 : Int) : Int :=
  bif iEq (decode_parts__reckons_c3 a0_w a0_rd a0_f3 a0_rs1 a0_rs2 a0_f7) 29 then 30 else bif iEq (decode_parts__reckons_c3 a0_w a0_rd a0_f3 a0_rs1 a0_rs2 a0_f7) 33 then 34 else 0
def decode_parts__reckons_c7 (a0_w : Int) (a0_rd : Int) (a0_f3 : Int) (a0_rs1 : Int) (a0_rs2 : Int) (a0_f7 : Int) : Int :=
  bif iEq (decode_Opcode0 a0_w) 19 then
    bif bif iEq (iShl IntKind.u64 (word_Bits0 (iConv IntKind.u64 a0_w) 26 6) 6) 1024 then iEq a0_f3 5 else false then a0_rd
    else bif iNe (iShl IntKind.u64 (word_Bits0 (iConv IntKind.u64 a0_w) 26 6) 6) 0 then 0 else a0_rd
  else
    bif bif iEq (iShl IntKind.u64 (word_Bits0 (iConv IntKind.u64 a0_w) 25 7) 5) 1024 then iEq a0_f3 5 else false then a0_rd
    else bif iNe (iShl IntKind.u64 (word_Bits0 (iConv IntKind.u64 a0_w) 25 7) 5) 0 then 0 else a0_rd
def decode_parts__reckons_c8 (a0_w : Int) (a0_rd : Int) (a0_f3 : Int) (a0_rs1 : Int) (a0_rs2 : Int) (a0_f7 : Int) : Int :=
  bif iEq (decode_Opcode0 a0_w) 19 then
    bif bif iEq (iShl IntKind.u64 (word_Bits0 (iConv IntKind.u64 a0_w) 26 6) 6) 1024 then iEq a0_f3 5 else false then a0_rs1
    else bif iNe (iShl IntKind.u64 (word_Bits0 (iConv IntKind.u64 a0_w) 26 6) 6) 0 then 0 else a0_rs1
  else
    bif bif iEq (iShl IntKind.u64 (word_Bits0 (iConv IntKind.u64 a0_w) 25 7) 5) 1024 then iEq a0_f3 5 else false then a0_rs1
    else bif iNe (iShl IntKind.u64 (word_Bits0 (iConv IntKind.u64 a0_w) 25 7) 5) 0 then 0 else a0_rs1
def decode_parts__reckons_c9 (a0_w : Int) (a0_rd : Int) (a0_f3 : Int) (a0_rs1 : Int) (a0_rs2 : Int) (a0_f7 : Int) : Int :=
  bif iEq (decode_Opcode0 a0_w) 19 then
    bif bif iEq (iShl IntKind.u64 (word_Bits0 (iConv IntKind.u64 a0_w) 26 6) 6) 1024 then iEq a0_f3 5 else false then 0
    else bif iNe (iShl IntKind.u64 (word_Bits0 (iConv IntKind.u64 a0_w) 26 6) 6) 0 then 0 else 0
  else
    bif bif iEq (iShl IntKind.u64 (word_Bits0 (iConv IntKind.u64 a0_w) 25 7) 5) 1024 then iEq a0_f3 5 else false then 0
    else bif iNe (iShl IntKind.u64 (word_Bits0 (iConv IntKind.u64 a0_w) 25 7) 5) 0 then 0 else 0
def decode_parts__reckons_c10 (a0_w : Int) (a0_rd : Int) (a0_f3 : Int) (a0_rs1 : Int) (a0_rs2 : Int) (a0_f7 : Int) : Int :=
  bif !iEq (decode_Opcode0 a0_w) 19 then bif decode_parts__reckons_c1 a0_w a0_rd a0_f3 a0_rs1 a0_rs2 a0_f7 then 0 else decode_parts__reckons_c9 a0_w a0_rd a0_f3 a0_rs1 a0_rs2 a0_f7
  else bif decode_parts__reckons_c4 a0_w a0_rd a0_f3 a0_rs1 a0_rs2 a0_f7 then 0 else decode_parts__reckons_c9 a0_w a0_rd a0_f3 a0_rs1 a0_rs2 a0_f7
def decode_parts__reckons_c11 (a0_w : Int) (a0_rd : Int) (a0_f3 : Int) (a0_rs1 : Int) (a0_rs2 : Int) (a0_f7 : Int) : Int :=
  bif iEq (decode_Opcode0 a0_w) 19 then
    bif bif iEq (iShl IntKind.u64 (word_Bits0 (iConv IntKind.u64 a0_w) 26 6) 6) 1024 then iEq a0_f3 5 else false then iConv IntKind.i64 (word_Bits0 (iConv IntKind.u64 a0_w) 20 6)
    else bif iNe (iShl IntKind.u64 (word_Bits0 (iConv IntKind.u64 a0_w) 26 6) 6) 0 then 0 else iConv IntKind.i64 (word_Bits0 (iConv IntKind.u64 a0_w) 20 6)
  else
    bif bif iEq (iShl IntKind.u64 (word_Bits0 (iConv IntKind.u64 a0_w) 25 7) 5) 1024 then iEq a0_f3 5 else false then iConv IntKind.i64 (word_Bits0 (iConv IntKind.u64 a0_w) 20 5)
    else bif iNe (iShl IntKind.u64 (word_Bits0 (iConv IntKind.u64 a0_w) 25 7) 5) 0 then 0 else iConv IntKind.i64 (word_Bits0 (iConv IntKind.u64 a0_w) 20 5)
def decode_parts__reckons_c12 (a0_w : Int) (a0_rd : Int) (a0_f3 : Int) (a0_rs1 : Int) (a0_rs2 : Int) (a0_f7 : Int) : Bool :=
  bif iEq (decode_Opcode0 a0_w) 19 then
    bif bif iEq (iShl IntKind.u64 (word_Bits0 (iConv IntKind.u64 a0_w) 26 6) 6) 1024 then iEq a0_f3 5 else false then true
    else bif iNe (iShl IntKind.u64 (word_Bits0 (iConv IntKind.u64 a0_w) 26 6) 6) 0 then false else true
  else
    bif bif iEq (iShl IntKind.u64 (word_Bits0 (iConv IntKind.u64 a0_w) 25 7) 5) 1024 then iEq a0_f3 5 else false then true
    else bif iNe (iShl IntKind.u64 (word_Bits0 (iConv IntKind.u64 a0_w) 25 7) 5) 0 then false else true
def decode_parts__reckons0 (a0_w : Int) (a0_rd : Int) (a0_f3 : Int) (a0_rs1 : Int) (a0_rs2 : Int) (a0_f7 : Int) : Int :=
  bif !iEq (decode_Opcode0 a0_w) 19 then
    bif decode_parts__reckons_c1 a0_w a0_rd a0_f3 a0_rs1 a0_rs2 a0_f7 then decode_parts__reckons_c0 a0_w a0_rd a0_f3 a0_rs1 a0_rs2 a0_f7
    else
      bif iEq (decode_Opcode0 a0_w) 19 then
        bif bif iEq (iShl IntKind.u64 (word_Bits0 (iConv IntKind.u64 a0_w) 26 6) 6) 1024 then iEq a0_f3 5 else false then decode_parts__reckons_c5 a0_w a0_rd a0_f3 a0_rs1 a0_rs2 a0_f7
        else bif iNe (iShl IntKind.u64 (word_Bits0 (iConv IntKind.u64 a0_w) 26 6) 6) 0 then 0 else decode_parts__reckons_c0 a0_w a0_rd a0_f3 a0_rs1 a0_rs2 a0_f7
      else
        bif bif iEq (iShl IntKind.u64 (word_Bits0 (iConv IntKind.u64 a0_w) 25 7) 5) 1024 then iEq a0_f3 5 else false then decode_parts__reckons_c5 a0_w a0_rd a0_f3 a0_rs1 a0_rs2 a0_f7
        else bif iNe (iShl IntKind.u64 (word_Bits0 (iConv IntKind.u64 a0_w) 25 7) 5) 0 then 0 else decode_parts__reckons_c0 a0_w a0_rd a0_f3 a0_rs1 a0_rs2 a0_f7
  else
    bif decode_parts__reckons_c4 a0_w a0_rd a0_f3 a0_rs1 a0_rs2 a0_f7 then decode_parts__reckons_c3 a0_w a0_rd a0_f3 a0_rs1 a0_rs2 a0_f7
    else
      bif iEq (decode_Opcode0 a0_w) 19 then
        bif bif iEq (iShl IntKind.u64 (word_Bits0 (iConv IntKind.u64 a0_w) 26 6) 6) 1024 then iEq a0_f3 5 else false then decode_parts__reckons_c6 a0_w a0_rd a0_f3 a0_rs1 a0_rs2 a0_f7
        else bif iNe (iShl IntKind.u64 (word_Bits0 (iConv IntKind.u64 a0_w) 26 6) 6) 0 then 0 else decode_parts__reckons_c3 a0_w a0_rd a0_f3 a0_rs1 a0_rs2 a0_f7
      else
        bif bif iEq (iShl IntKind.u64 (word_Bits0 (iConv IntKind.u64 a0_w) 25 7) 5) 1024 then iEq a0_f3 5 else false then decode_parts__reckons_c6 a0_w a0_rd a0_f3 a0_rs1 a0_rs2 a0_f7
        else bif iNe (iShl IntKind.u64 (word_Bits0 (iConv IntKind.u64 a0_w) 25 7) 5) 0 then 0 else decode_parts__reckons_c3 a0_w a0_rd a0_f3 a0_rs1 a0_rs2 a0_f7
def decode_parts__reckons1 (a0_w : Int) (a0_rd : Int) (a0_f3 : Int) (a0_rs1 : Int) (a0_rs2 : Int) (a0_f7 : Int) : Int :=
  bif !iEq (decode_Opcode0 a0_w) 19 then bif decode_parts__reckons_c1 a0_w a0_rd a0_f3 a0_rs1 a0_rs2 a0_f7 then a0_rd else decode_parts__reckons_c7 a0_w a0_rd a0_f3 a0_rs1 a0_rs2 a0_f7
  else bif decode_parts__reckons_c4 a0_w a0_rd a0_f3 a0_rs1 a0_rs2 a0_f7 then a0_rd else decode_parts__reckons_c7 a0_w a0_rd a0_f3 a0_rs1 a0_rs2 a0_f7
def decode_parts__reckons2 (a0_w : Int) (a0_rd : Int) (a0_f3 : Int) (a0_rs1 : Int) (a0_rs2 : Int) (a0_f7 : Int) : Int :=
  bif !iEq (decode_Opcode0 a0_w) 19 then bif decode_parts__reckons_c1 a0_w a0_rd a0_f3 a0_rs1 a0_rs2 a0_f7 then a0_rs1 else decode_parts__reckons_c8 a0_w a0_rd a0_f3 a0_rs1 a0_rs2 a0_f7
  else bif decode_parts__reckons_c4 a0_w a0_rd a0_f3 a0_rs1 a0_rs2 a0_f7 then a0_rs1 else decode_parts__reckons_c8 a0_w a0_rd a0_f3 a0_rs1 a0_rs2 a0_f7
def decode_parts__reckons3r (a0_w : Int) (a0_rd : Int) (a0_f3 : Int) (a0_rs1 : Int) (a0_rs2 : Int) (a0_f7 : Int) : Int :=
  decode_parts__reckons_c10 a0_w a0_rd a0_f3 a0_rs1 a0_rs2 a0_f7
def decode_parts__reckons4 (a0_w : Int) (a0_rd : Int) (a0_f3 : Int) (a0_rs1 : Int) (a0_rs2 : Int) (a0_f7 : Int) : Int :=
  bif !iEq (decode_Opcode0 a0_w) 19 then
    bif decode_parts__reckons_c1 a0_w a0_rd a0_f3 a0_rs1 a0_rs2 a0_f7 then decode_parts__immediate0 a0_w a0_rd a0_f3 a0_rs1 a0_rs2 a0_f7 (decode_parts__reckons_c0 a0_w a0_rd a0_f3 a0_rs1 a0_rs2 a0_f7)
    else decode_parts__reckons_c11 a0_w a0_rd a0_f3 a0_rs1 a0_rs2 a0_f7
  else
    bif decode_parts__reckons_c4 a0_w a0_rd a0_f3 a0_rs1 a0_rs2 a0_f7 then decode_parts__immediate0 a0_w a0_rd a0_f3 a0_rs1 a0_rs2 a0_f7 (decode_parts__reckons_c3 a0_w a0_rd a0_f3 a0_rs1 a0_rs2 a0_f7)
    else decode_parts__reckons_c11 a0_w a0_rd a0_f3 a0_rs1 a0_rs2 a0_f7
def decode_parts__reckons5r (a0_w : Int) (a0_rd : Int) (a0_f3 : Int) (a0_rs1 : Int) (a0_rs2 : Int) (a0_f7 : Int) : Int :=
  decode_parts__reckons_c10 a0_w a0_rd a0_f3 a0_rs1 a0_rs2 a0_f7
def decode_parts__reckons6 (a0_w : Int) (a0_rd : Int) (a0_f3 : Int) (a0_rs1 : Int) (a0_rs2 : Int) (a0_f7 : Int) : Bool :=
  bif !iEq (decode_Opcode0 a0_w) 19 then
    bif decode_parts__reckons_c1 a0_w a0_rd a0_f3 a0_rs1 a0_rs2 a0_f7 then iNe (decode_parts__reckons_c0 a0_w a0_rd a0_f3 a0_rs1 a0_rs2 a0_f7) 0
    else decode_parts__reckons_c12 a0_w a0_rd a0_f3 a0_rs1 a0_rs2 a0_f7
  else
    bif decode_parts__reckons_c4 a0_w a0_rd a0_f3 a0_rs1 a0_rs2 a0_f7 then iNe (decode_parts__reckons_c3 a0_w a0_rd a0_f3 a0_rs1 a0_rs2 a0_f7) 0
    else decode_parts__reckons_c12 a0_w a0_rd a0_f3 a0_rs1 a0_rs2 a0_f7
def decode_parts__reckonsG (a0_w : Int) (a0_rd : Int) (a0_f3 : Int) (a0_rs1 : Int) (a0_rs2 : Int) (a0_f7 : Int) : Bool :=
  iIn a0_f3 8 &&
    bif !iEq (decode_Opcode0 a0_w) 19 then iIn a0_f3 8 && bif decode_parts__reckons_c1 a0_w a0_rd a0_f3 a0_rs1 a0_rs2 a0_f7 then true else decode_parts__reckons_c2 a0_w a0_rd a0_f3 a0_rs1 a0_rs2 a0_f7
    else bif decode_parts__reckons_c4 a0_w a0_rd a0_f3 a0_rs1 a0_rs2 a0_f7 then true else decode_parts__reckons_c2 a0_w a0_rd a0_f3 a0_rs1 a0_rs2 a0_f7
theorem decode_parts__reckons3_eq (a0_w : Int) (a0_rd : Int) (a0_f3 : Int) (a0_rs1 : Int) (a0_rs2 : Int) (a0_f7 : Int)  : decode_parts__reckons3r a0_w a0_rd a0_f3 a0_rs1 a0_rs2 a0_f7  = 0 := by
  unfold decode_parts__reckons3r
  first | (simp only [decode_parts__reckons_c0, decode_parts__reckons_c1, decode_parts__reckons_c2, decode_parts__reckons_c3, decode_parts__reckons_c4, decode_parts__reckons_c5, decode_parts__reckons_c6, decode_parts__reckons_c7, decode_parts__reckons_c8, decode_parts__reckons_c9, decode_parts__reckons_c10, decode_parts__reckons_c11, decode_parts__reckons_c12, Go.Ev.cS1, Go.Ev.cS2, Go.Ev.cS3, Go.Ev.cS4, Go.Ev.cS6, Go.Ev.cS7]; done) | (simp only [decode_parts__reckons_c0, decode_parts__reckons_c1, decode_parts__reckons_c2, decode_parts__reckons_c3, decode_parts__reckons_c4, decode_parts__reckons_c5, decode_parts__reckons_c6, decode_parts__reckons_c7, decode_parts__reckons_c8, decode_parts__reckons_c9, decode_parts__reckons_c10, decode_parts__reckons_c11, decode_parts__reckons_c12, Go.Ev.cS1, Go.Ev.cS2, Go.Ev.cS3, Go.Ev.cS4, Go.Ev.cS6, Go.Ev.cS7]; kernel_rfl)
theorem decode_parts__reckons5_eq (a0_w : Int) (a0_rd : Int) (a0_f3 : Int) (a0_rs1 : Int) (a0_rs2 : Int) (a0_f7 : Int)  : decode_parts__reckons5r a0_w a0_rd a0_f3 a0_rs1 a0_rs2 a0_f7  = 0 := by
  unfold decode_parts__reckons5r
  first | (simp only [decode_parts__reckons_c0, decode_parts__reckons_c1, decode_parts__reckons_c2, decode_parts__reckons_c3, decode_parts__reckons_c4, decode_parts__reckons_c5, decode_parts__reckons_c6, decode_parts__reckons_c7, decode_parts__reckons_c8, decode_parts__reckons_c9, decode_parts__reckons_c10, decode_parts__reckons_c11, decode_parts__reckons_c12, Go.Ev.cS1, Go.Ev.cS2, Go.Ev.cS3, Go.Ev.cS4, Go.Ev.cS6, Go.Ev.cS7]; done) | (simp only [decode_parts__reckons_c0, decode_parts__reckons_c1, decode_parts__reckons_c2, decode_parts__reckons_c3, decode_parts__reckons_c4, decode_parts__reckons_c5, decode_parts__reckons_c6, decode_parts__reckons_c7, decode_parts__reckons_c8, decode_parts__reckons_c9, decode_parts__reckons_c10, decode_parts__reckons_c11, decode_parts__reckons_c12, Go.Ev.cS1, Go.Ev.cS2, Go.Ev.cS3, Go.Ev.cS4, Go.Ev.cS6, Go.Ev.cS7]; kernel_rfl)
def decode_parts__reckonsV (a0_w : Int) (a0_rd : Int) (a0_f3 : Int) (a0_rs1 : Int) (a0_rs2 : Int) (a0_f7 : Int) : AV := .tup [.agg [.it .i64 (decode_parts__reckons0 a0_w a0_rd a0_f3 a0_rs1 a0_rs2 a0_f7), .it .i64 (decode_parts__reckons1 a0_w a0_rd a0_f3 a0_rs1 a0_rs2 a0_f7), .it .i64 (decode_parts__reckons2 a0_w a0_rd a0_f3 a0_rs1 a0_rs2 a0_f7), .it .i64 0, .it .i64 (decode_parts__reckons4 a0_w a0_rd a0_f3 a0_rs1 a0_rs2 a0_f7), .it .i64 0], .bl (decode_parts__reckons6 a0_w a0_rd a0_f3 a0_rs1 a0_rs2 a0_f7)]
def decode_parts__reckonsVr (a0_w : Int) (a0_rd : Int) (a0_f3 : Int) (a0_rs1 : Int) (a0_rs2 : Int) (a0_f7 : Int) : AV := .tup [.agg [.it .i64 (decode_parts__reckons0 a0_w a0_rd a0_f3 a0_rs1 a0_rs2 a0_f7), .it .i64 (decode_parts__reckons1 a0_w a0_rd a0_f3 a0_rs1 a0_rs2 a0_f7), .it .i64 (decode_parts__reckons2 a0_w a0_rd a0_f3 a0_rs1 a0_rs2 a0_f7), .it .i64 (decode_parts__reckons3r a0_w a0_rd a0_f3 a0_rs1 a0_rs2 a0_f7), .it .i64 (decode_parts__reckons4 a0_w a0_rd a0_f3 a0_rs1 a0_rs2 a0_f7), .it .i64 (decode_parts__reckons5r a0_w a0_rd a0_f3 a0_rs1 a0_rs2 a0_f7)], .bl (decode_parts__reckons6 a0_w a0_rd a0_f3 a0_rs1 a0_rs2 a0_f7)]
theorem decode_parts__reckonsV_eq (a0_w : Int) (a0_rd : Int) (a0_f3 : Int) (a0_rs1 : Int) (a0_rs2 : Int) (a0_f7 : Int) : decode_parts__reckonsVr a0_w a0_rd a0_f3 a0_rs1 a0_rs2 a0_f7 = decode_parts__reckonsV a0_w a0_rd a0_f3 a0_rs1 a0_rs2 a0_f7 := by
  unfold decode_parts__reckonsVr decode_parts__reckonsV
  simp only [decode_parts__reckons3_eq, decode_parts__reckons5_eq]
theorem decode_parts__reckonsE (g : Nat → AV) : pcOf Tryd.prog okT (lookR T55) (inlO Tryd.prog okT (lookR T55) RO FS 400 ST (hOnce Tryd.prog 67 25 21) 8) RO NOV 100 false Tryd.f56 (norms [(.agg [(.int .u32), (.int .i64), (.int .i64), (.int .i64), (.int .i64), (.int .i64)])] 0 g) = some (decode_parts__reckonsG (((g 0).fld 0).num) (((g 0).fld 1).num) (((g 0).fld 2).num) (((g 0).fld 3).num) (((g 0).fld 4).num) (((g 0).fld 5).num), decode_parts__reckonsV (((g 0).fld 0).num) (((g 0).fld 1).num) (((g 0).fld 2).num) (((g 0).fld 3).num) (((g 0).fld 4).num) (((g 0).fld 5).num)) :=
  (by kernel_rfl : pcOf Tryd.prog okT (lookR T55) (inlO Tryd.prog okT (lookR T55) RO FS 400 ST (hOnce Tryd.prog 67 25 21) 8) RO NOV 100 false Tryd.f56 (norms [(.agg [(.int .u32), (.int .i64), (.int .i64), (.int .i64), (.int .i64), (.int .i64)])] 0 g) = some (decode_parts__reckonsG (((g 0).fld 0).num) (((g 0).fld 1).num) (((g 0).fld 2).num) (((g 0).fld 3).num) (((g 0).fld 4).num) (((g 0).fld 5).num), decode_parts__reckonsVr (((g 0).fld 0).num) (((g 0).fld 1).num) (((g 0).fld 2).num) (((g 0).fld 3).num) (((g 0).fld 4).num) (((g 0).fld 5).num))).trans (by rw [decode_parts__reckonsV_eq])
theorem decode_parts__reckonsP : Plain Tryd.prog 56 Tryd.f56 := ⟨Tryd.func56, of_decide_eq_true (by kernel_rfl)⟩
theorem decode_parts__reckonsO : RowOk Tryd.prog 56 (rowF [(.agg [(.int .u32), (.int .i64), (.int .i64), (.int .i64), (.int .i64), (.int .i64)])] (some fun g => decode_parts__reckonsG (((g 0).fld 0).num) (((g 0).fld 1).num) (((g 0).fld 2).num) (((g 0).fld 3).num) (((g 0).fld 4).num) (((g 0).fld 5).num)) fun g => decode_parts__reckonsV (((g 0).fld 0).num) (((g 0).fld 1).num) (((g 0).fld 2).num) (((g 0).fld 3).num) (((g 0).fld 4).num) (((g 0).fld 5).num)) := rowF_ok fun g hg => pcOf_ok mix fair T55_ok (inlO_ok mix fair T55_ok FS_ok (fun _ h => hOnce_ok once_ok h) 8) decode_parts__reckonsP (fun c _ => OvOk_none c) (decode_parts__reckonsE g) hg
def T56 : List Row := (56, (rowF [(.agg [(.int .u32), (.int .i64), (.int .i64), (.int .i64), (.int .i64), (.int .i64)])] (some fun g => decode_parts__reckonsG (((g 0).fld 0).num) (((g 0).fld 1).num) (((g 0).fld 2).num) (((g 0).fld 3).num) (((g 0).fld 4).num) (((g 0).fld 5).num)) fun g => decode_parts__reckonsV (((g 0).fld 0).num) (((g 0).fld 1).num) (((g 0).fld 2).num) (((g 0).fld 3).num) (((g 0).fld 4).num) (((g 0).fld 5).num))) :: T55
theorem T56_ok : PSound Tryd.prog (lookR T56) := lookR_cons decode_parts__reckonsO T55_ok

theorem reckons_g (a0_w a0_rd a0_f3 a0_rs1 a0_rs2 a0_f7 : Int) (h : iIn a0_f3 8 = true) : decode_parts__reckonsG a0_w a0_rd a0_f3 a0_rs1 a0_rs2 a0_f7 = true := by
  unfold decode_parts__reckonsG
  rw [h]
  simp only [decode_parts__reckons_c2, Go.Ev.cS1, Go.Ev.cS7, Go.Ev.cS6]
/- (sallyport/decode.parts).registers -/
def decode_parts__registers_c0 (a0_w : Int) (a0_rd : Int) (a0_f3 : Int) (a0_rs1 : Int) (a0_rs2 : Int) (a0_f7 : Int) : Int :=
  bif a0_f3.toNat == 7 then 44
  else
    bif a0_f3.toNat == 6 then 43
    else
      bif a0_f3.toNat == 5 then 41
      else bif a0_f3.toNat == 4 then 40 else bif a0_f3.toNat == 3 then 39 else bif a0_f3.toNat == 2 then 38 else bif a0_f3.toNat == 1 then 37 else bif a0_f3.toNat == 0 then 35 else 0
def decode_parts__registers_c1 (a0_w : Int) (a0_rd : Int) (a0_f3 : Int) (a0_rs1 : Int) (a0_rs2 : Int) (a0_f7 : Int) : Int :=
  bif a0_f3.toNat == 5 then 48 else bif a0_f3.toNat == 1 then 47 else bif a0_f3.toNat == 0 then 45 else 0
def decode_parts__registers_c2 (a0_w : Int) (a0_rd : Int) (a0_f3 : Int) (a0_rs1 : Int) (a0_rs2 : Int) (a0_f7 : Int) : Int :=
  bif bif iEq a0_f7 0 then iEq (decode_Opcode0 a0_w) 51 else false then 0
  else bif iEq a0_f7 0 then 0 else bif bif iEq a0_f7 32 then iEq (decode_Opcode0 a0_w) 51 else false then 0 else bif iEq a0_f7 32 then 0 else 0
def decode_parts__registers0 (a0_w : Int) (a0_rd : Int) (a0_f3 : Int) (a0_rs1 : Int) (a0_rs2 : Int) (a0_f7 : Int) : Int :=
  bif bif iEq a0_f7 0 then iEq (decode_Opcode0 a0_w) 51 else false then decode_parts__registers_c0 a0_w a0_rd a0_f3 a0_rs1 a0_rs2 a0_f7
  else
    bif iEq a0_f7 0 then decode_parts__registers_c1 a0_w a0_rd a0_f3 a0_rs1 a0_rs2 a0_f7
    else
      bif bif iEq a0_f7 32 then iEq (decode_Opcode0 a0_w) 51 else false then bif a0_f3.toNat == 5 then 42 else bif a0_f3.toNat == 0 then 36 else 0
      else bif iEq a0_f7 32 then bif a0_f3.toNat == 5 then 49 else bif a0_f3.toNat == 0 then 46 else 0 else 0
def decode_parts__registers1r (a0_w : Int) (a0_rd : Int) (a0_f3 : Int) (a0_rs1 : Int) (a0_rs2 : Int) (a0_f7 : Int) : Int :=
  bif bif iEq a0_f7 0 then iEq (decode_Opcode0 a0_w) 51 else false then a0_rd
  else bif iEq a0_f7 0 then a0_rd else bif bif iEq a0_f7 32 then iEq (decode_Opcode0 a0_w) 51 else false then a0_rd else bif iEq a0_f7 32 then a0_rd else a0_rd
def decode_parts__registers2r (a0_w : Int) (a0_rd : Int) (a0_f3 : Int) (a0_rs1 : Int) (a0_rs2 : Int) (a0_f7 : Int) : Int :=
  bif bif iEq a0_f7 0 then iEq (decode_Opcode0 a0_w) 51 else false then a0_rs1
  else bif iEq a0_f7 0 then a0_rs1 else bif bif iEq a0_f7 32 then iEq (decode_Opcode0 a0_w) 51 else false then a0_rs1 else bif iEq a0_f7 32 then a0_rs1 else a0_rs1
def decode_parts__registers3r (a0_w : Int) (a0_rd : Int) (a0_f3 : Int) (a0_rs1 : Int) (a0_rs2 : Int) (a0_f7 : Int) : Int :=
  bif bif iEq a0_f7 0 then iEq (decode_Opcode0 a0_w) 51 else false then a0_rs2
  else bif iEq a0_f7 0 then a0_rs2 else bif bif iEq a0_f7 32 then iEq (decode_Opcode0 a0_w) 51 else false then a0_rs2 else bif iEq a0_f7 32 then a0_rs2 else a0_rs2
def decode_parts__registers4r (a0_w : Int) (a0_rd : Int) (a0_f3 : Int) (a0_rs1 : Int) (a0_rs2 : Int) (a0_f7 : Int) : Int :=
  decode_parts__registers_c2 a0_w a0_rd a0_f3 a0_rs1 a0_rs2 a0_f7
def decode_parts__registers5r (a0_w : Int) (a0_rd : Int) (a0_f3 : Int) (a0_rs1 : Int) (a0_rs2 : Int) (a0_f7 : Int) : Int :=
  decode_parts__registers_c2 a0_w a0_rd a0_f3 a0_rs1 a0_rs2 a0_f7
def decode_parts__registers6 (a0_w : Int) (a0_rd : Int) (a0_f3 : Int) (a0_rs1 : Int) (a0_rs2 : Int) (a0_f7 : Int) : Bool :=
  bif bif iEq a0_f7 0 then iEq (decode_Opcode0 a0_w) 51 else false then iNe (decode_parts__registers_c0 a0_w a0_rd a0_f3 a0_rs1 a0_rs2 a0_f7) 0
  else
    bif iEq a0_f7 0 then iNe (decode_parts__registers_c1 a0_w a0_rd a0_f3 a0_rs1 a0_rs2 a0_f7) 0
    else
      bif bif iEq a0_f7 32 then iEq (decode_Opcode0 a0_w) 51 else false then iNe (bif a0_f3.toNat == 5 then 42 else bif a0_f3.toNat == 0 then 36 else 0) 0
      else bif iEq a0_f7 32 then iNe (bif a0_f3.toNat == 5 then 49 else bif a0_f3.toNat == 0 then 46 else 0) 0 else false
def decode_parts__registersG (a0_w : Int) (a0_rd : Int) (a0_f3 : Int) (a0_rs1 : Int) (a0_rs2 : Int) (a0_f7 : Int) : Bool :=
  bif bif iEq a0_f7 0 then iEq (decode_Opcode0 a0_w) 51 else false then iIn a0_f3 8 && true
  else bif iEq a0_f7 0 then iIn a0_f3 8 && true else bif bif iEq a0_f7 32 then iEq (decode_Opcode0 a0_w) 51 else false then iIn a0_f3 8 && true else bif iEq a0_f7 32 then iIn a0_f3 8 && true else true
theorem decode_parts__registers1_eq (a0_w : Int) (a0_rd : Int) (a0_f3 : Int) (a0_rs1 : Int) (a0_rs2 : Int) (a0_f7 : Int)  : decode_parts__registers1r a0_w a0_rd a0_f3 a0_rs1 a0_rs2 a0_f7  = a0_rd := by
  unfold decode_parts__registers1r
  first | (simp only [decode_parts__registers_c0, decode_parts__registers_c1, decode_parts__registers_c2, Go.Ev.cS1, Go.Ev.cS2, Go.Ev.cS3, Go.Ev.cS4, Go.Ev.cS6, Go.Ev.cS7]; done) | (simp only [decode_parts__registers_c0, decode_parts__registers_c1, decode_parts__registers_c2, Go.Ev.cS1, Go.Ev.cS2, Go.Ev.cS3, Go.Ev.cS4, Go.Ev.cS6, Go.Ev.cS7]; kernel_rfl)
theorem decode_parts__registers2_eq (a0_w : Int) (a0_rd : Int) (a0_f3 : Int) (a0_rs1 : Int) (a0_rs2 : Int) (a0_f7 : Int)  : decode_parts__registers2r a0_w a0_rd a0_f3 a0_rs1 a0_rs2 a0_f7  = a0_rs1 := by
  unfold decode_parts__registers2r
  first | (simp only [decode_parts__registers_c0, decode_parts__registers_c1, decode_parts__registers_c2, Go.Ev.cS1, Go.Ev.cS2, Go.Ev.cS3, Go.Ev.cS4, Go.Ev.cS6, Go.Ev.cS7]; done) | (simp only [decode_parts__registers_c0, decode_parts__registers_c1, decode_parts__registers_c2, Go.Ev.cS1, Go.Ev.cS2, Go.Ev.cS3, Go.Ev.cS4, Go.Ev.cS6, Go.Ev.cS7]; kernel_rfl)
theorem decode_parts__registers3_eq (a0_w : Int) (a0_rd : Int) (a0_f3 : Int) (a0_rs1 : Int) (a0_rs2 : Int) (a0_f7 : Int)  : decode_parts__registers3r a0_w a0_rd a0_f3 a0_rs1 a0_rs2 a0_f7  = a0_rs2 := by
  unfold decode_parts__registers3r
  first | (simp only [decode_parts__registers_c0, decode_parts__registers_c1, decode_parts__registers_c2, Go.Ev.cS1, Go.Ev.cS2, Go.Ev.cS3, Go.Ev.cS4, Go.Ev.cS6, Go.Ev.cS7]; done) | (simp only [decode_parts__registers_c0, decode_parts__registers_c1, decode_parts__registers_c2, Go.Ev.cS1, Go.Ev.cS2, Go.Ev.cS3, Go.Ev.cS4, Go.Ev.cS6, Go.Ev.cS7]; kernel_rfl)
theorem decode_parts__registers4_eq (a0_w : Int) (a0_rd : Int) (a0_f3 : Int) (a0_rs1 : Int) (a0_rs2 : Int) (a0_f7 : Int)  : decode_parts__registers4r a0_w a0_rd a0_f3 a0_rs1 a0_rs2 a0_f7  = 0 := by
  unfold decode_parts__registers4r
  first | (simp only [decode_parts__registers_c0, decode_parts__registers_c1, decode_parts__registers_c2, Go.Ev.cS1, Go.Ev.cS2, Go.Ev.cS3, Go.Ev.cS4, Go.Ev.cS6, Go.Ev.cS7]; done) | (simp only [decode_parts__registers_c0, decode_parts__registers_c1, decode_parts__registers_c2, Go.Ev.cS1, Go.Ev.cS2, Go.Ev.cS3, Go.Ev.cS4, Go.Ev.cS6, Go.Ev.cS7]; kernel_rfl)
theorem decode_parts__registers5_eq (a0_w : Int) (a0_rd : Int) (a0_f3 : Int) (a0_rs1 : Int) (a0_rs2 : Int) (a0_f7 : Int)  : decode_parts__registers5r a0_w a0_rd a0_f3 a0_rs1 a0_rs2 a0_f7  = 0 := by
  unfold decode_parts__registers5r
  first | (simp only [decode_parts__registers_c0, decode_parts__registers_c1, decode_parts__registers_c2, Go.Ev.cS1, Go.Ev.cS2, Go.Ev.cS3, Go.Ev.cS4, Go.Ev.cS6, Go.Ev.cS7]; done) | (simp only [decode_parts__registers_c0, decode_parts__registers_c1, decode_parts__registers_c2, Go.Ev.cS1, Go.Ev.cS2, Go.Ev.cS3, Go.Ev.cS4, Go.Ev.cS6, Go.Ev.cS7]; kernel_rfl)
def decode_parts__registersV (a0_w : Int) (a0_rd : Int) (a0_f3 : Int) (a0_rs1 : Int) (a0_rs2 : Int) (a0_f7 : Int) : AV := .tup [.agg [.it .i64 (decode_parts__registers0 a0_w a0_rd a0_f3 a0_rs1 a0_rs2 a0_f7), .it .i64 (a0_rd), .it .i64 (a0_rs1), .it .i64 (a0_rs2), .it .i64 0, .it .i64 0], .bl (decode_parts__registers6 a0_w a0_rd a0_f3 a0_rs1 a0_rs2 a0_f7)]
def decode_parts__registersVr (a0_w : Int) (a0_rd : Int) (a0_f3 : Int) (a0_rs1 : Int) (a0_rs2 : Int) (a0_f7 : Int) : AV := .tup [.agg [.it .i64 (decode_parts__registers0 a0_w a0_rd a0_f3 a0_rs1 a0_rs2 a0_f7), .it .i64 (decode_parts__registers1r a0_w a0_rd a0_f3 a0_rs1 a0_rs2 a0_f7), .it .i64 (decode_parts__registers2r a0_w a0_rd a0_f3 a0_rs1 a0_rs2 a0_f7), .it .i64 (decode_parts__registers3r a0_w a0_rd a0_f3 a0_rs1 a0_rs2 a0_f7), .it .i64 (decode_parts__registers4r a0_w a0_rd a0_f3 a0_rs1 a0_rs2 a0_f7), .it .i64 (decode_parts__registers5r a0_w a0_rd a0_f3 a0_rs1 a0_rs2 a0_f7)], .bl (decode_parts__registers6 a0_w a0_rd a0_f3 a0_rs1 a0_rs2 a0_f7)]
theorem decode_parts__registersV_eq (a0_w : Int) (a0_rd : Int) (a0_f3 : Int) (a0_rs1 : Int) (a0_rs2 : Int) (a0_f7 : Int) : decode_parts__registersVr a0_w a0_rd a0_f3 a0_rs1 a0_rs2 a0_f7 = decode_parts__registersV a0_w a0_rd a0_f3 a0_rs1 a0_rs2 a0_f7 := by
  unfold decode_parts__registersVr decode_parts__registersV
  simp only [decode_parts__registers1_eq, decode_parts__registers2_eq, decode_parts__registers3_eq, decode_parts__registers4_eq, decode_parts__registers5_eq]
theorem decode_parts__registersE (g : Nat → AV) : pcOf Tryd.prog okT (lookR T56) (inlO Tryd.prog okT (lookR T56) RO FS 400 ST (hOnce Tryd.prog 67 25 21) 8) RO NOV 100 false Tryd.f57 (norms [(.agg [(.int .u32), (.int .i64), (.int .i64), (.int .i64), (.int .i64), (.int .i64)])] 0 g) = some (decode_parts__registersG (((g 0).fld 0).num) (((g 0).fld 1).num) (((g 0).fld 2).num) (((g 0).fld 3).num) (((g 0).fld 4).num) (((g 0).fld 5).num), decode_parts__registersV (((g 0).fld 0).num) (((g 0).fld 1).num) (((g 0).fld 2).num) (((g 0).fld 3).num) (((g 0).fld 4).num) (((g 0).fld 5).num)) :=
  (by kernel_rfl : pcOf Tryd.prog okT (lookR T56) (inlO Tryd.prog okT (lookR T56) RO FS 400 ST (hOnce Tryd.prog 67 25 21) 8) RO NOV 100 false Tryd.f57 (norms [(.agg [(.int .u32), (.int .i64), (.int .i64), (.int .i64), (.int .i64), (.int .i64)])] 0 g) = some (decode_parts__registersG (((g 0).fld 0).num) (((g 0).fld 1).num) (((g 0).fld 2).num) (((g 0).fld 3).num) (((g 0).fld 4).num) (((g 0).fld 5).num), decode_parts__registersVr (((g 0).fld 0).num) (((g 0).fld 1).num) (((g 0).fld 2).num) (((g 0).fld 3).num) (((g 0).fld 4).num) (((g 0).fld 5).num))).trans (by rw [decode_parts__registersV_eq])
theorem decode_parts__registersP : Plain Tryd.prog 57 Tryd.f57 := ⟨Tryd.func57, of_decide_eq_true (by kernel_rfl)⟩
theorem decode_parts__registersO : RowOk Tryd.prog 57 (rowF [(.agg [(.int .u32), (.int .i64), (.int .i64), (.int .i64), (.int .i64), (.int .i64)])] (some fun g => decode_parts__registersG (((g 0).fld 0).num) (((g 0).fld 1).num) (((g 0).fld 2).num) (((g 0).fld 3).num) (((g 0).fld 4).num) (((g 0).fld 5).num)) fun g => decode_parts__registersV (((g 0).fld 0).num) (((g 0).fld 1).num) (((g 0).fld 2).num) (((g 0).fld 3).num) (((g 0).fld 4).num) (((g 0).fld 5).num)) := rowF_ok fun g hg => pcOf_ok mix fair T56_ok (inlO_ok mix fair T56_ok FS_ok (fun _ h => hOnce_ok once_ok h) 8) decode_parts__registersP (fun c _ => OvOk_none c) (decode_parts__registersE g) hg
def T57 : List Row := (57, (rowF [(.agg [(.int .u32), (.int .i64), (.int .i64), (.int .i64), (.int .i64), (.int .i64)])] (some fun g => decode_parts__registersG (((g 0).fld 0).num) (((g 0).fld 1).num) (((g 0).fld 2).num) (((g 0).fld 3).num) (((g 0).fld 4).num) (((g 0).fld 5).num)) fun g => decode_parts__registersV (((g 0).fld 0).num) (((g 0).fld 1).num) (((g 0).fld 2).num) (((g 0).fld 3).num) (((g 0).fld 4).num) (((g 0).fld 5).num))) :: T56
theorem T57_ok : PSound Tryd.prog (lookR T57) := lookR_cons decode_parts__registersO T56_ok

theorem registers_g (a0_w a0_rd a0_f3 a0_rs1 a0_rs2 a0_f7 : Int) (h : iIn a0_f3 8 = true) : decode_parts__registersG a0_w a0_rd a0_f3 a0_rs1 a0_rs2 a0_f7 = true := by
  unfold decode_parts__registersG
  rw [h]
  simp [Go.Ev.cS1, Go.Ev.cS2]
/- (sallyport/decode.parts).fixed -/
def decode_parts__fixed_c0 (a0_w : Int) (a0_rd : Int) (a0_f3 : Int) (a0_rs1 : Int) (a0_rs2 : Int) (a0_f7 : Int) : Int :=
  bif iEq a0_w 267386895 then 50
  else
    bif iEq a0_w 4111 then 51
    else bif iEq a0_w 115 then 52 else bif iEq a0_w 1048691 then 53 else bif iEq a0_w 807403635 then 60 else bif iEq a0_w 270532723 then 61 else bif iEq a0_w 273678451 then 62 else 0
def decode_parts__fixed0 (a0_w : Int) (a0_rd : Int) (a0_f3 : Int) (a0_rs1 : Int) (a0_rs2 : Int) (a0_f7 : Int) : Int :=
  decode_parts__fixed_c0 a0_w a0_rd a0_f3 a0_rs1 a0_rs2 a0_f7
def decode_parts__fixed1 (a0_w : Int) (a0_rd : Int) (a0_f3 : Int) (a0_rs1 : Int) (a0_rs2 : Int) (a0_f7 : Int) : Bool :=
  iNe (decode_parts__fixed_c0 a0_w a0_rd a0_f3 a0_rs1 a0_rs2 a0_f7) 0
def decode_parts__fixedG (a0_w : Int) (a0_rd : Int) (a0_f3 : Int) (a0_rs1 : Int) (a0_rs2 : Int) (a0_f7 : Int) : Bool :=
  true
def decode_parts__fixedV (a0_w : Int) (a0_rd : Int) (a0_f3 : Int) (a0_rs1 : Int) (a0_rs2 : Int) (a0_f7 : Int) : AV := .tup [.agg [.it .i64 (decode_parts__fixed0 a0_w a0_rd a0_f3 a0_rs1 a0_rs2 a0_f7), .it .i64 0, .it .i64 0, .it .i64 0, .it .i64 0, .it .i64 0], .bl (decode_parts__fixed1 a0_w a0_rd a0_f3 a0_rs1 a0_rs2 a0_f7)]
theorem decode_parts__fixedE (g : Nat → AV) : pcOf Tryd.prog okT (lookR T57) (inlO Tryd.prog okT (lookR T57) RO FS 400 ST (hOnce Tryd.prog 67 25 21) 8) RO NOV 100 false Tryd.f58 (norms [(.agg [(.int .u32), (.int .i64), (.int .i64), (.int .i64), (.int .i64), (.int .i64)])] 0 g) = some (decode_parts__fixedG (((g 0).fld 0).num) (((g 0).fld 1).num) (((g 0).fld 2).num) (((g 0).fld 3).num) (((g 0).fld 4).num) (((g 0).fld 5).num), decode_parts__fixedV (((g 0).fld 0).num) (((g 0).fld 1).num) (((g 0).fld 2).num) (((g 0).fld 3).num) (((g 0).fld 4).num) (((g 0).fld 5).num)) := by kernel_rfl
theorem decode_parts__fixedP : Plain Tryd.prog 58 Tryd.f58 := ⟨Tryd.func58, of_decide_eq_true (by kernel_rfl)⟩
theorem decode_parts__fixedT (a0_w : Int) (a0_rd : Int) (a0_f3 : Int) (a0_rs1 : Int) (a0_rs2 : Int) (a0_f7 : Int) : decode_parts__fixedG a0_w a0_rd a0_f3 a0_rs1 a0_rs2 a0_f7 = true := rfl
theorem decode_parts__fixedO : RowOk Tryd.prog 58 (rowF [(.agg [(.int .u32), (.int .i64), (.int .i64), (.int .i64), (.int .i64), (.int .i64)])] none fun g => decode_parts__fixedV (((g 0).fld 0).num) (((g 0).fld 1).num) (((g 0).fld 2).num) (((g 0).fld 3).num) (((g 0).fld 4).num) (((g 0).fld 5).num)) := rowT_ok fun g => pcOf_ok mix fair T57_ok (inlO_ok mix fair T57_ok FS_ok (fun _ h => hOnce_ok once_ok h) 8) decode_parts__fixedP (fun c _ => OvOk_none c) (decode_parts__fixedE g) (decode_parts__fixedT (((g 0).fld 0).num) (((g 0).fld 1).num) (((g 0).fld 2).num) (((g 0).fld 3).num) (((g 0).fld 4).num) (((g 0).fld 5).num))
def T58 : List Row := (58, (rowF [(.agg [(.int .u32), (.int .i64), (.int .i64), (.int .i64), (.int .i64), (.int .i64)])] none fun g => decode_parts__fixedV (((g 0).fld 0).num) (((g 0).fld 1).num) (((g 0).fld 2).num) (((g 0).fld 3).num) (((g 0).fld 4).num) (((g 0).fld 5).num))) :: T57
theorem T58_ok : PSound Tryd.prog (lookR T58) := lookR_cons decode_parts__fixedO T57_ok

/- sallyport/decode.fence -/
def decode_fence0 (a0 : Int) : Int :=
  bif iEq a0 9 then 63 else bif iEq a0 17 then 64 else bif iEq a0 49 then 65 else 0
def decode_fenceG (a0 : Int) : Bool :=
  bif iEq a0 9 then true else bif iEq a0 17 then true else bif iEq a0 49 then true else true
def decode_fenceV (a0 : Int) : AV := .it .i64 (decode_fence0 a0)
theorem decode_fenceE (g : Nat → AV) : pcOf Tryd.prog okT (lookR T58) (inlO Tryd.prog okT (lookR T58) RO FS 400 ST (hOnce Tryd.prog 67 25 21) 8) RO NOV 100 false Tryd.f73 (norms [(.int .i64)] 0 g) = some (decode_fenceG ((g 0).num), decode_fenceV ((g 0).num)) := by kernel_rfl
theorem decode_fenceP : Plain Tryd.prog 73 Tryd.f73 := ⟨Tryd.func73, of_decide_eq_true (by kernel_rfl)⟩
theorem decode_fenceT (a0 : Int) : decode_fenceG a0 = true := by
  unfold decode_fenceG
  simp only [Go.Ev.cS1, Go.Ev.cS2, Go.Ev.cS3, Go.Ev.cS4, Go.Ev.cS6, Go.Ev.cS7]
theorem decode_fenceO : RowOk Tryd.prog 73 (rowF [(.int .i64)] none fun g => decode_fenceV ((g 0).num)) := rowT_ok fun g => pcOf_ok mix fair T58_ok (inlO_ok mix fair T58_ok FS_ok (fun _ h => hOnce_ok once_ok h) 8) decode_fenceP (fun c _ => OvOk_none c) (decode_fenceE g) (decode_fenceT ((g 0).num))
def T73 : List Row := (73, (rowF [(.int .i64)] none fun g => decode_fenceV ((g 0).num))) :: T58
theorem T73_ok : PSound Tryd.prog (lookR T73) := lookR_cons decode_fenceO T58_ok

/- (sallyport/decode.parts).guests -/
def decode_parts__guests_c0 (a0_w : Int) (a0_rd : Int) (a0_f3 : Int) (a0_rs1 : Int) (a0_rs2 : Int) (a0_f7 : Int) : Int :=
  bif bif iEq a0_f7 52 then iEq a0_rs2 0 else false then 0
  else bif bif iEq a0_f7 52 then iEq a0_rs2 3 else false then 0 else bif bif iEq a0_f7 54 then iEq a0_rs2 0 else false then 0 else bif bif iEq a0_f7 55 then iEq a0_rd 0 else false then 0 else 0
def decode_parts__guests0 (a0_w : Int) (a0_rd : Int) (a0_f3 : Int) (a0_rs1 : Int) (a0_rs2 : Int) (a0_f7 : Int) : Int :=
  bif bif iEq a0_f7 52 then iEq a0_rs2 0 else false then 66
  else bif bif iEq a0_f7 52 then iEq a0_rs2 3 else false then 68 else bif bif iEq a0_f7 54 then iEq a0_rs2 0 else false then 67 else bif bif iEq a0_f7 55 then iEq a0_rd 0 else false then 69 else 0
def decode_parts__guests1 (a0_w : Int) (a0_rd : Int) (a0_f3 : Int) (a0_rs1 : Int) (a0_rs2 : Int) (a0_f7 : Int) : Int :=
  bif bif iEq a0_f7 52 then iEq a0_rs2 0 else false then a0_rd
  else
    bif bif iEq a0_f7 52 then iEq a0_rs2 3 else false then a0_rd else bif bif iEq a0_f7 54 then iEq a0_rs2 0 else false then a0_rd else bif bif iEq a0_f7 55 then iEq a0_rd 0 else false then 0 else a0_rd
def decode_parts__guests2r (a0_w : Int) (a0_rd : Int) (a0_f3 : Int) (a0_rs1 : Int) (a0_rs2 : Int) (a0_f7 : Int) : Int :=
  bif bif iEq a0_f7 52 then iEq a0_rs2 0 else false then a0_rs1
  else
    bif bif iEq a0_f7 52 then iEq a0_rs2 3 else false then a0_rs1
    else bif bif iEq a0_f7 54 then iEq a0_rs2 0 else false then a0_rs1 else bif bif iEq a0_f7 55 then iEq a0_rd 0 else false then a0_rs1 else a0_rs1
def decode_parts__guests3 (a0_w : Int) (a0_rd : Int) (a0_f3 : Int) (a0_rs1 : Int) (a0_rs2 : Int) (a0_f7 : Int) : Int :=
  bif bif iEq a0_f7 52 then iEq a0_rs2 0 else false then 0
  else bif bif iEq a0_f7 52 then iEq a0_rs2 3 else false then 0 else bif bif iEq a0_f7 54 then iEq a0_rs2 0 else false then 0 else bif bif iEq a0_f7 55 then iEq a0_rd 0 else false then a0_rs2 else 0
def decode_parts__guests4r (a0_w : Int) (a0_rd : Int) (a0_f3 : Int) (a0_rs1 : Int) (a0_rs2 : Int) (a0_f7 : Int) : Int :=
  decode_parts__guests_c0 a0_w a0_rd a0_f3 a0_rs1 a0_rs2 a0_f7
def decode_parts__guests5r (a0_w : Int) (a0_rd : Int) (a0_f3 : Int) (a0_rs1 : Int) (a0_rs2 : Int) (a0_f7 : Int) : Int :=
  decode_parts__guests_c0 a0_w a0_rd a0_f3 a0_rs1 a0_rs2 a0_f7
def decode_parts__guests6 (a0_w : Int) (a0_rd : Int) (a0_f3 : Int) (a0_rs1 : Int) (a0_rs2 : Int) (a0_f7 : Int) : Bool :=
  bif bif iEq a0_f7 52 then iEq a0_rs2 0 else false then true
  else bif bif iEq a0_f7 52 then iEq a0_rs2 3 else false then true else bif bif iEq a0_f7 54 then iEq a0_rs2 0 else false then true else bif iEq a0_f7 55 then iEq a0_rd 0 else false
def decode_parts__guests6r (a0_w : Int) (a0_rd : Int) (a0_f3 : Int) (a0_rs1 : Int) (a0_rs2 : Int) (a0_f7 : Int) : Bool :=
  bif bif iEq a0_f7 52 then iEq a0_rs2 0 else false then true
  else
    bif bif iEq a0_f7 52 then iEq a0_rs2 3 else false then true
    else bif bif iEq a0_f7 54 then iEq a0_rs2 0 else false then true else bif bif iEq a0_f7 55 then iEq a0_rd 0 else false then true else false
def decode_parts__guestsG (a0_w : Int) (a0_rd : Int) (a0_f3 : Int) (a0_rs1 : Int) (a0_rs2 : Int) (a0_f7 : Int) : Bool :=
  bif bif iEq a0_f7 52 then iEq a0_rs2 0 else false then true
  else
    bif bif iEq a0_f7 52 then iEq a0_rs2 3 else false then true else bif bif iEq a0_f7 54 then iEq a0_rs2 0 else false then true else bif bif iEq a0_f7 55 then iEq a0_rd 0 else false then true else true
theorem decode_parts__guests2_eq (a0_w : Int) (a0_rd : Int) (a0_f3 : Int) (a0_rs1 : Int) (a0_rs2 : Int) (a0_f7 : Int)  : decode_parts__guests2r a0_w a0_rd a0_f3 a0_rs1 a0_rs2 a0_f7  = a0_rs1 := by
  unfold decode_parts__guests2r
  first | (simp only [decode_parts__guests_c0, Go.Ev.cS1, Go.Ev.cS2, Go.Ev.cS3, Go.Ev.cS4, Go.Ev.cS6, Go.Ev.cS7]; done) | (simp only [decode_parts__guests_c0, Go.Ev.cS1, Go.Ev.cS2, Go.Ev.cS3, Go.Ev.cS4, Go.Ev.cS6, Go.Ev.cS7]; kernel_rfl)
theorem decode_parts__guests4_eq (a0_w : Int) (a0_rd : Int) (a0_f3 : Int) (a0_rs1 : Int) (a0_rs2 : Int) (a0_f7 : Int)  : decode_parts__guests4r a0_w a0_rd a0_f3 a0_rs1 a0_rs2 a0_f7  = 0 := by
  unfold decode_parts__guests4r
  first | (simp only [decode_parts__guests_c0, Go.Ev.cS1, Go.Ev.cS2, Go.Ev.cS3, Go.Ev.cS4, Go.Ev.cS6, Go.Ev.cS7]; done) | (simp only [decode_parts__guests_c0, Go.Ev.cS1, Go.Ev.cS2, Go.Ev.cS3, Go.Ev.cS4, Go.Ev.cS6, Go.Ev.cS7]; kernel_rfl)
theorem decode_parts__guests5_eq (a0_w : Int) (a0_rd : Int) (a0_f3 : Int) (a0_rs1 : Int) (a0_rs2 : Int) (a0_f7 : Int)  : decode_parts__guests5r a0_w a0_rd a0_f3 a0_rs1 a0_rs2 a0_f7  = 0 := by
  unfold decode_parts__guests5r
  first | (simp only [decode_parts__guests_c0, Go.Ev.cS1, Go.Ev.cS2, Go.Ev.cS3, Go.Ev.cS4, Go.Ev.cS6, Go.Ev.cS7]; done) | (simp only [decode_parts__guests_c0, Go.Ev.cS1, Go.Ev.cS2, Go.Ev.cS3, Go.Ev.cS4, Go.Ev.cS6, Go.Ev.cS7]; kernel_rfl)
theorem decode_parts__guests6_eq (a0_w : Int) (a0_rd : Int) (a0_f3 : Int) (a0_rs1 : Int) (a0_rs2 : Int) (a0_f7 : Int)  : decode_parts__guests6r a0_w a0_rd a0_f3 a0_rs1 a0_rs2 a0_f7  = decode_parts__guests6 a0_w a0_rd a0_f3 a0_rs1 a0_rs2 a0_f7  := by
  unfold decode_parts__guests6r
  first | (simp only [decode_parts__guests_c0, Go.Ev.cS1, Go.Ev.cS2, Go.Ev.cS3, Go.Ev.cS4, Go.Ev.cS6, Go.Ev.cS7]; done) | (simp only [decode_parts__guests_c0, Go.Ev.cS1, Go.Ev.cS2, Go.Ev.cS3, Go.Ev.cS4, Go.Ev.cS6, Go.Ev.cS7]; kernel_rfl)
def decode_parts__guestsV (a0_w : Int) (a0_rd : Int) (a0_f3 : Int) (a0_rs1 : Int) (a0_rs2 : Int) (a0_f7 : Int) : AV := .tup [.agg [.it .i64 (decode_parts__guests0 a0_w a0_rd a0_f3 a0_rs1 a0_rs2 a0_f7), .it .i64 (decode_parts__guests1 a0_w a0_rd a0_f3 a0_rs1 a0_rs2 a0_f7), .it .i64 (a0_rs1), .it .i64 (decode_parts__guests3 a0_w a0_rd a0_f3 a0_rs1 a0_rs2 a0_f7), .it .i64 0, .it .i64 0], .bl (decode_parts__guests6 a0_w a0_rd a0_f3 a0_rs1 a0_rs2 a0_f7)]
def decode_parts__guestsVr (a0_w : Int) (a0_rd : Int) (a0_f3 : Int) (a0_rs1 : Int) (a0_rs2 : Int) (a0_f7 : Int) : AV := .tup [.agg [.it .i64 (decode_parts__guests0 a0_w a0_rd a0_f3 a0_rs1 a0_rs2 a0_f7), .it .i64 (decode_parts__guests1 a0_w a0_rd a0_f3 a0_rs1 a0_rs2 a0_f7), .it .i64 (decode_parts__guests2r a0_w a0_rd a0_f3 a0_rs1 a0_rs2 a0_f7), .it .i64 (decode_parts__guests3 a0_w a0_rd a0_f3 a0_rs1 a0_rs2 a0_f7), .it .i64 (decode_parts__guests4r a0_w a0_rd a0_f3 a0_rs1 a0_rs2 a0_f7), .it .i64 (decode_parts__guests5r a0_w a0_rd a0_f3 a0_rs1 a0_rs2 a0_f7)], .bl (decode_parts__guests6r a0_w a0_rd a0_f3 a0_rs1 a0_rs2 a0_f7)]
theorem decode_parts__guestsV_eq (a0_w : Int) (a0_rd : Int) (a0_f3 : Int) (a0_rs1 : Int) (a0_rs2 : Int) (a0_f7 : Int) : decode_parts__guestsVr a0_w a0_rd a0_f3 a0_rs1 a0_rs2 a0_f7 = decode_parts__guestsV a0_w a0_rd a0_f3 a0_rs1 a0_rs2 a0_f7 := by
  unfold decode_parts__guestsVr decode_parts__guestsV
  simp only [decode_parts__guests2_eq, decode_parts__guests4_eq, decode_parts__guests5_eq, decode_parts__guests6_eq]
theorem decode_parts__guestsE (g : Nat → AV) : pcOf Tryd.prog okT (lookR T73) (inlO Tryd.prog okT (lookR T73) RO FS 400 ST (hOnce Tryd.prog 67 25 21) 8) RO NOV 100 false Tryd.f74 (norms [(.agg [(.int .u32), (.int .i64), (.int .i64), (.int .i64), (.int .i64), (.int .i64)])] 0 g) = some (decode_parts__guestsG (((g 0).fld 0).num) (((g 0).fld 1).num) (((g 0).fld 2).num) (((g 0).fld 3).num) (((g 0).fld 4).num) (((g 0).fld 5).num), decode_parts__guestsV (((g 0).fld 0).num) (((g 0).fld 1).num) (((g 0).fld 2).num) (((g 0).fld 3).num) (((g 0).fld 4).num) (((g 0).fld 5).num)) :=
  (by kernel_rfl : pcOf Tryd.prog okT (lookR T73) (inlO Tryd.prog okT (lookR T73) RO FS 400 ST (hOnce Tryd.prog 67 25 21) 8) RO NOV 100 false Tryd.f74 (norms [(.agg [(.int .u32), (.int .i64), (.int .i64), (.int .i64), (.int .i64), (.int .i64)])] 0 g) = some (decode_parts__guestsG (((g 0).fld 0).num) (((g 0).fld 1).num) (((g 0).fld 2).num) (((g 0).fld 3).num) (((g 0).fld 4).num) (((g 0).fld 5).num), decode_parts__guestsVr (((g 0).fld 0).num) (((g 0).fld 1).num) (((g 0).fld 2).num) (((g 0).fld 3).num) (((g 0).fld 4).num) (((g 0).fld 5).num))).trans (by rw [decode_parts__guestsV_eq])
theorem decode_parts__guestsP : Plain Tryd.prog 74 Tryd.f74 := ⟨Tryd.func74, of_decide_eq_true (by kernel_rfl)⟩
theorem decode_parts__guestsT (a0_w : Int) (a0_rd : Int) (a0_f3 : Int) (a0_rs1 : Int) (a0_rs2 : Int) (a0_f7 : Int) : decode_parts__guestsG a0_w a0_rd a0_f3 a0_rs1 a0_rs2 a0_f7 = true := by
  unfold decode_parts__guestsG
  simp only [decode_parts__guests_c0, Go.Ev.cS1, Go.Ev.cS2, Go.Ev.cS3, Go.Ev.cS4, Go.Ev.cS6, Go.Ev.cS7]
theorem decode_parts__guestsO : RowOk Tryd.prog 74 (rowF [(.agg [(.int .u32), (.int .i64), (.int .i64), (.int .i64), (.int .i64), (.int .i64)])] none fun g => decode_parts__guestsV (((g 0).fld 0).num) (((g 0).fld 1).num) (((g 0).fld 2).num) (((g 0).fld 3).num) (((g 0).fld 4).num) (((g 0).fld 5).num)) := rowT_ok fun g => pcOf_ok mix fair T73_ok (inlO_ok mix fair T73_ok FS_ok (fun _ h => hOnce_ok once_ok h) 8) decode_parts__guestsP (fun c _ => OvOk_none c) (decode_parts__guestsE g) (decode_parts__guestsT (((g 0).fld 0).num) (((g 0).fld 1).num) (((g 0).fld 2).num) (((g 0).fld 3).num) (((g 0).fld 4).num) (((g 0).fld 5).num))
def T74 : List Row := (74, (rowF [(.agg [(.int .u32), (.int .i64), (.int .i64), (.int .i64), (.int .i64), (.int .i64)])] none fun g => decode_parts__guestsV (((g 0).fld 0).num) (((g 0).fld 1).num) (((g 0).fld 2).num) (((g 0).fld 3).num) (((g 0).fld 4).num) (((g 0).fld 5).num))) :: T73
theorem T74_ok : PSound Tryd.prog (lookR T74) := lookR_cons decode_parts__guestsO T73_ok

/- (sallyport/decode.parts).system -/
def decode_parts__system_c0 (a0_w : Int) (a0_rd : Int) (a0_f3 : Int) (a0_rs1 : Int) (a0_rs2 : Int) (a0_f7 : Int) : Int :=
  bif a0_f3.toNat == 7 then 59
  else
    bif a0_f3.toNat == 6 then 58
    else
      bif a0_f3.toNat == 5 then 57
      else bif a0_f3.toNat == 4 then 0 else bif a0_f3.toNat == 3 then 56 else bif a0_f3.toNat == 2 then 55 else bif a0_f3.toNat == 1 then 54 else bif a0_f3.toNat == 0 then 0 else 0
def decode_parts__system0 (a0_w : Int) (a0_rd : Int) (a0_f3 : Int) (a0_rs1 : Int) (a0_rs2 : Int) (a0_f7 : Int) : Int :=
  bif iEq a0_f3 0 then bif bif iEq (decode_fence0 a0_f7) 0 then true else iNe a0_rd 0 then decode_parts__fixed0 a0_w a0_rd a0_f3 a0_rs1 a0_rs2 a0_f7 else decode_fence0 a0_f7
  else
    bif iEq a0_f3 4 then decode_parts__guests0 a0_w a0_rd a0_f3 a0_rs1 a0_rs2 a0_f7
    else
      bif a0_f3.toNat == 7 then 59
      else
        bif a0_f3.toNat == 6 then 58
        else bif a0_f3.toNat == 5 then 57 else bif a0_f3.toNat == 4 then 0 else bif a0_f3.toNat == 3 then 56 else bif a0_f3.toNat == 2 then 55 else bif a0_f3.toNat == 1 then 54 else 0
def decode_parts__system0r (a0_w : Int) (a0_rd : Int) (a0_f3 : Int) (a0_rs1 : Int) (a0_rs2 : Int) (a0_f7 : Int) : Int :=
  bif iEq a0_f3 0 then bif bif iEq (decode_fence0 a0_f7) 0 then true else iNe a0_rd 0 then decode_parts__fixed0 a0_w a0_rd a0_f3 a0_rs1 a0_rs2 a0_f7 else decode_fence0 a0_f7
  else
    bif iEq a0_f3 4 then decode_parts__guests0 a0_w a0_rd a0_f3 a0_rs1 a0_rs2 a0_f7
    else bif iLt 4 a0_f3 then decode_parts__system_c0 a0_w a0_rd a0_f3 a0_rs1 a0_rs2 a0_f7 else decode_parts__system_c0 a0_w a0_rd a0_f3 a0_rs1 a0_rs2 a0_f7
def decode_parts__system1 (a0_w : Int) (a0_rd : Int) (a0_f3 : Int) (a0_rs1 : Int) (a0_rs2 : Int) (a0_f7 : Int) : Int :=
  bif iEq a0_f3 0 then 0 else bif iEq a0_f3 4 then decode_parts__guests1 a0_w a0_rd a0_f3 a0_rs1 a0_rs2 a0_f7 else a0_rd
def decode_parts__system1r (a0_w : Int) (a0_rd : Int) (a0_f3 : Int) (a0_rs1 : Int) (a0_rs2 : Int) (a0_f7 : Int) : Int :=
  bif iEq a0_f3 0 then bif bif iEq (decode_fence0 a0_f7) 0 then true else iNe a0_rd 0 then 0 else 0
  else bif iEq a0_f3 4 then decode_parts__guests1 a0_w a0_rd a0_f3 a0_rs1 a0_rs2 a0_f7 else bif iLt 4 a0_f3 then a0_rd else a0_rd
def decode_parts__system2 (a0_w : Int) (a0_rd : Int) (a0_f3 : Int) (a0_rs1 : Int) (a0_rs2 : Int) (a0_f7 : Int) : Int :=
  bif iEq a0_f3 0 then bif bif iEq (decode_fence0 a0_f7) 0 then true else iNe a0_rd 0 then 0 else a0_rs1 else bif iEq a0_f3 4 then a0_rs1 else bif iLt 4 a0_f3 then 0 else a0_rs1
def decode_parts__system3 (a0_w : Int) (a0_rd : Int) (a0_f3 : Int) (a0_rs1 : Int) (a0_rs2 : Int) (a0_f7 : Int) : Int :=
  bif iEq a0_f3 0 then bif bif iEq (decode_fence0 a0_f7) 0 then true else iNe a0_rd 0 then 0 else a0_rs2 else bif iEq a0_f3 4 then decode_parts__guests3 a0_w a0_rd a0_f3 a0_rs1 a0_rs2 a0_f7 else 0
def decode_parts__system3r (a0_w : Int) (a0_rd : Int) (a0_f3 : Int) (a0_rs1 : Int) (a0_rs2 : Int) (a0_f7 : Int) : Int :=
  bif iEq a0_f3 0 then bif bif iEq (decode_fence0 a0_f7) 0 then true else iNe a0_rd 0 then 0 else a0_rs2
  else bif iEq a0_f3 4 then decode_parts__guests3 a0_w a0_rd a0_f3 a0_rs1 a0_rs2 a0_f7 else bif iLt 4 a0_f3 then 0 else 0
def decode_parts__system4 (a0_w : Int) (a0_rd : Int) (a0_f3 : Int) (a0_rs1 : Int) (a0_rs2 : Int) (a0_f7 : Int) : Int :=
  bif iEq a0_f3 0 then 0 else bif iEq a0_f3 4 then 0 else bif iLt 4 a0_f3 then a0_rs1 else 0
def decode_parts__system4r (a0_w : Int) (a0_rd : Int) (a0_f3 : Int) (a0_rs1 : Int) (a0_rs2 : Int) (a0_f7 : Int) : Int :=
  bif iEq a0_f3 0 then bif bif iEq (decode_fence0 a0_f7) 0 then true else iNe a0_rd 0 then 0 else 0 else bif iEq a0_f3 4 then 0 else bif iLt 4 a0_f3 then a0_rs1 else 0
def decode_parts__system5 (a0_w : Int) (a0_rd : Int) (a0_f3 : Int) (a0_rs1 : Int) (a0_rs2 : Int) (a0_f7 : Int) : Int :=
  bif iEq a0_f3 0 then 0 else bif iEq a0_f3 4 then 0 else iConv IntKind.i64 (word_Bits0 (iConv IntKind.u64 a0_w) 20 12)
def decode_parts__system5r (a0_w : Int) (a0_rd : Int) (a0_f3 : Int) (a0_rs1 : Int) (a0_rs2 : Int) (a0_f7 : Int) : Int :=
  bif iEq a0_f3 0 then bif bif iEq (decode_fence0 a0_f7) 0 then true else iNe a0_rd 0 then 0 else 0
  else bif iEq a0_f3 4 then 0 else bif iLt 4 a0_f3 then iConv IntKind.i64 (word_Bits0 (iConv IntKind.u64 a0_w) 20 12) else iConv IntKind.i64 (word_Bits0 (iConv IntKind.u64 a0_w) 20 12)
def decode_parts__system6 (a0_w : Int) (a0_rd : Int) (a0_f3 : Int) (a0_rs1 : Int) (a0_rs2 : Int) (a0_f7 : Int) : Bool :=
  bif iEq a0_f3 0 then bif bif iEq (decode_fence0 a0_f7) 0 then true else iNe a0_rd 0 then decode_parts__fixed1 a0_w a0_rd a0_f3 a0_rs1 a0_rs2 a0_f7 else true
  else bif iEq a0_f3 4 then decode_parts__guests6 a0_w a0_rd a0_f3 a0_rs1 a0_rs2 a0_f7 else true
def decode_parts__system6r (a0_w : Int) (a0_rd : Int) (a0_f3 : Int) (a0_rs1 : Int) (a0_rs2 : Int) (a0_f7 : Int) : Bool :=
  bif iEq a0_f3 0 then bif bif iEq (decode_fence0 a0_f7) 0 then true else iNe a0_rd 0 then decode_parts__fixed1 a0_w a0_rd a0_f3 a0_rs1 a0_rs2 a0_f7 else true
  else bif iEq a0_f3 4 then decode_parts__guests6 a0_w a0_rd a0_f3 a0_rs1 a0_rs2 a0_f7 else bif iLt 4 a0_f3 then true else true
def decode_parts__systemG (a0_w : Int) (a0_rd : Int) (a0_f3 : Int) (a0_rs1 : Int) (a0_rs2 : Int) (a0_f7 : Int) : Bool :=
  bif iEq a0_f3 0 then bif bif iEq (decode_fence0 a0_f7) 0 then true else iNe a0_rd 0 then true else true else bif iEq a0_f3 4 then true else iIn a0_f3 8 && bif iLt 4 a0_f3 then true else true
theorem decode_parts__system0_eq (a0_w : Int) (a0_rd : Int) (a0_f3 : Int) (a0_rs1 : Int) (a0_rs2 : Int) (a0_f7 : Int)  : decode_parts__system0r a0_w a0_rd a0_f3 a0_rs1 a0_rs2 a0_f7  = decode_parts__system0 a0_w a0_rd a0_f3 a0_rs1 a0_rs2 a0_f7  := by
  unfold decode_parts__system0r
  first | (simp only [decode_parts__system_c0, Go.Ev.cS1, Go.Ev.cS2, Go.Ev.cS3, Go.Ev.cS4, Go.Ev.cS6, Go.Ev.cS7]; done) | (simp only [decode_parts__system_c0, Go.Ev.cS1, Go.Ev.cS2, Go.Ev.cS3, Go.Ev.cS4, Go.Ev.cS6, Go.Ev.cS7]; kernel_rfl)
theorem decode_parts__system1_eq (a0_w : Int) (a0_rd : Int) (a0_f3 : Int) (a0_rs1 : Int) (a0_rs2 : Int) (a0_f7 : Int)  : decode_parts__system1r a0_w a0_rd a0_f3 a0_rs1 a0_rs2 a0_f7  = decode_parts__system1 a0_w a0_rd a0_f3 a0_rs1 a0_rs2 a0_f7  := by
  unfold decode_parts__system1r
  first | (simp only [decode_parts__system_c0, Go.Ev.cS1, Go.Ev.cS2, Go.Ev.cS3, Go.Ev.cS4, Go.Ev.cS6, Go.Ev.cS7]; done) | (simp only [decode_parts__system_c0, Go.Ev.cS1, Go.Ev.cS2, Go.Ev.cS3, Go.Ev.cS4, Go.Ev.cS6, Go.Ev.cS7]; kernel_rfl)
theorem decode_parts__system3_eq (a0_w : Int) (a0_rd : Int) (a0_f3 : Int) (a0_rs1 : Int) (a0_rs2 : Int) (a0_f7 : Int)  : decode_parts__system3r a0_w a0_rd a0_f3 a0_rs1 a0_rs2 a0_f7  = decode_parts__system3 a0_w a0_rd a0_f3 a0_rs1 a0_rs2 a0_f7  := by
  unfold decode_parts__system3r
  first | (simp only [decode_parts__system_c0, Go.Ev.cS1, Go.Ev.cS2, Go.Ev.cS3, Go.Ev.cS4, Go.Ev.cS6, Go.Ev.cS7]; done) | (simp only [decode_parts__system_c0, Go.Ev.cS1, Go.Ev.cS2, Go.Ev.cS3, Go.Ev.cS4, Go.Ev.cS6, Go.Ev.cS7]; kernel_rfl)
theorem decode_parts__system4_eq (a0_w : Int) (a0_rd : Int) (a0_f3 : Int) (a0_rs1 : Int) (a0_rs2 : Int) (a0_f7 : Int)  : decode_parts__system4r a0_w a0_rd a0_f3 a0_rs1 a0_rs2 a0_f7  = decode_parts__system4 a0_w a0_rd a0_f3 a0_rs1 a0_rs2 a0_f7  := by
  unfold decode_parts__system4r
  first | (simp only [decode_parts__system_c0, Go.Ev.cS1, Go.Ev.cS2, Go.Ev.cS3, Go.Ev.cS4, Go.Ev.cS6, Go.Ev.cS7]; done) | (simp only [decode_parts__system_c0, Go.Ev.cS1, Go.Ev.cS2, Go.Ev.cS3, Go.Ev.cS4, Go.Ev.cS6, Go.Ev.cS7]; kernel_rfl)
theorem decode_parts__system5_eq (a0_w : Int) (a0_rd : Int) (a0_f3 : Int) (a0_rs1 : Int) (a0_rs2 : Int) (a0_f7 : Int)  : decode_parts__system5r a0_w a0_rd a0_f3 a0_rs1 a0_rs2 a0_f7  = decode_parts__system5 a0_w a0_rd a0_f3 a0_rs1 a0_rs2 a0_f7  := by
  unfold decode_parts__system5r
  first | (simp only [decode_parts__system_c0, Go.Ev.cS1, Go.Ev.cS2, Go.Ev.cS3, Go.Ev.cS4, Go.Ev.cS6, Go.Ev.cS7]; done) | (simp only [decode_parts__system_c0, Go.Ev.cS1, Go.Ev.cS2, Go.Ev.cS3, Go.Ev.cS4, Go.Ev.cS6, Go.Ev.cS7]; kernel_rfl)
theorem decode_parts__system6_eq (a0_w : Int) (a0_rd : Int) (a0_f3 : Int) (a0_rs1 : Int) (a0_rs2 : Int) (a0_f7 : Int)  : decode_parts__system6r a0_w a0_rd a0_f3 a0_rs1 a0_rs2 a0_f7  = decode_parts__system6 a0_w a0_rd a0_f3 a0_rs1 a0_rs2 a0_f7  := by
  unfold decode_parts__system6r
  first | (simp only [decode_parts__system_c0, Go.Ev.cS1, Go.Ev.cS2, Go.Ev.cS3, Go.Ev.cS4, Go.Ev.cS6, Go.Ev.cS7]; done) | (simp only [decode_parts__system_c0, Go.Ev.cS1, Go.Ev.cS2, Go.Ev.cS3, Go.Ev.cS4, Go.Ev.cS6, Go.Ev.cS7]; kernel_rfl)
def decode_parts__systemV (a0_w : Int) (a0_rd : Int) (a0_f3 : Int) (a0_rs1 : Int) (a0_rs2 : Int) (a0_f7 : Int) : AV := .tup [.agg [.it .i64 (decode_parts__system0 a0_w a0_rd a0_f3 a0_rs1 a0_rs2 a0_f7), .it .i64 (decode_parts__system1 a0_w a0_rd a0_f3 a0_rs1 a0_rs2 a0_f7), .it .i64 (decode_parts__system2 a0_w a0_rd a0_f3 a0_rs1 a0_rs2 a0_f7), .it .i64 (decode_parts__system3 a0_w a0_rd a0_f3 a0_rs1 a0_rs2 a0_f7), .it .i64 (decode_parts__system4 a0_w a0_rd a0_f3 a0_rs1 a0_rs2 a0_f7), .it .i64 (decode_parts__system5 a0_w a0_rd a0_f3 a0_rs1 a0_rs2 a0_f7)], .bl (decode_parts__system6 a0_w a0_rd a0_f3 a0_rs1 a0_rs2 a0_f7)]
def decode_parts__systemVr (a0_w : Int) (a0_rd : Int) (a0_f3 : Int) (a0_rs1 : Int) (a0_rs2 : Int) (a0_f7 : Int) : AV := .tup [.agg [.it .i64 (decode_parts__system0r a0_w a0_rd a0_f3 a0_rs1 a0_rs2 a0_f7), .it .i64 (decode_parts__system1r a0_w a0_rd a0_f3 a0_rs1 a0_rs2 a0_f7), .it .i64 (decode_parts__system2 a0_w a0_rd a0_f3 a0_rs1 a0_rs2 a0_f7), .it .i64 (decode_parts__system3r a0_w a0_rd a0_f3 a0_rs1 a0_rs2 a0_f7), .it .i64 (decode_parts__system4r a0_w a0_rd a0_f3 a0_rs1 a0_rs2 a0_f7), .it .i64 (decode_parts__system5r a0_w a0_rd a0_f3 a0_rs1 a0_rs2 a0_f7)], .bl (decode_parts__system6r a0_w a0_rd a0_f3 a0_rs1 a0_rs2 a0_f7)]
theorem decode_parts__systemV_eq (a0_w : Int) (a0_rd : Int) (a0_f3 : Int) (a0_rs1 : Int) (a0_rs2 : Int) (a0_f7 : Int) : decode_parts__systemVr a0_w a0_rd a0_f3 a0_rs1 a0_rs2 a0_f7 = decode_parts__systemV a0_w a0_rd a0_f3 a0_rs1 a0_rs2 a0_f7 := by
  unfold decode_parts__systemVr decode_parts__systemV
  simp only [decode_parts__system0_eq, decode_parts__system1_eq, decode_parts__system3_eq, decode_parts__system4_eq, decode_parts__system5_eq, decode_parts__system6_eq]
theorem decode_parts__systemE (g : Nat → AV) : pcOf Tryd.prog okT (lookR T74) (inlO Tryd.prog okT (lookR T74) RO FS 400 ST (hOnce Tryd.prog 67 25 21) 8) RO NOV 100 false Tryd.f59 (norms [(.agg [(.int .u32), (.int .i64), (.int .i64), (.int .i64), (.int .i64), (.int .i64)])] 0 g) = some (decode_parts__systemG (((g 0).fld 0).num) (((g 0).fld 1).num) (((g 0).fld 2).num) (((g 0).fld 3).num) (((g 0).fld 4).num) (((g 0).fld 5).num), decode_parts__systemV (((g 0).fld 0).num) (((g 0).fld 1).num) (((g 0).fld 2).num) (((g 0).fld 3).num) (((g 0).fld 4).num) (((g 0).fld 5).num)) :=
  (by kernel_rfl : pcOf Tryd.prog okT (lookR T74) (inlO Tryd.prog okT (lookR T74) RO FS 400 ST (hOnce Tryd.prog 67 25 21) 8) RO NOV 100 false Tryd.f59 (norms [(.agg [(.int .u32), (.int .i64), (.int .i64), (.int .i64), (.int .i64), (.int .i64)])] 0 g) = some (decode_parts__systemG (((g 0).fld 0).num) (((g 0).fld 1).num) (((g 0).fld 2).num) (((g 0).fld 3).num) (((g 0).fld 4).num) (((g 0).fld 5).num), decode_parts__systemVr (((g 0).fld 0).num) (((g 0).fld 1).num) (((g 0).fld 2).num) (((g 0).fld 3).num) (((g 0).fld 4).num) (((g 0).fld 5).num))).trans (by rw [decode_parts__systemV_eq])
theorem decode_parts__systemP : Plain Tryd.prog 59 Tryd.f59 := ⟨Tryd.func59, of_decide_eq_true (by kernel_rfl)⟩
theorem decode_parts__systemO : RowOk Tryd.prog 59 (rowF [(.agg [(.int .u32), (.int .i64), (.int .i64), (.int .i64), (.int .i64), (.int .i64)])] (some fun g => decode_parts__systemG (((g 0).fld 0).num) (((g 0).fld 1).num) (((g 0).fld 2).num) (((g 0).fld 3).num) (((g 0).fld 4).num) (((g 0).fld 5).num)) fun g => decode_parts__systemV (((g 0).fld 0).num) (((g 0).fld 1).num) (((g 0).fld 2).num) (((g 0).fld 3).num) (((g 0).fld 4).num) (((g 0).fld 5).num)) := rowF_ok fun g hg => pcOf_ok mix fair T74_ok (inlO_ok mix fair T74_ok FS_ok (fun _ h => hOnce_ok once_ok h) 8) decode_parts__systemP (fun c _ => OvOk_none c) (decode_parts__systemE g) hg
def T59 : List Row := (59, (rowF [(.agg [(.int .u32), (.int .i64), (.int .i64), (.int .i64), (.int .i64), (.int .i64)])] (some fun g => decode_parts__systemG (((g 0).fld 0).num) (((g 0).fld 1).num) (((g 0).fld 2).num) (((g 0).fld 3).num) (((g 0).fld 4).num) (((g 0).fld 5).num)) fun g => decode_parts__systemV (((g 0).fld 0).num) (((g 0).fld 1).num) (((g 0).fld 2).num) (((g 0).fld 3).num) (((g 0).fld 4).num) (((g 0).fld 5).num))) :: T74
theorem T59_ok : PSound Tryd.prog (lookR T59) := lookR_cons decode_parts__systemO T74_ok

theorem system_g (a0_w a0_rd a0_f3 a0_rs1 a0_rs2 a0_f7 : Int) (h : iIn a0_f3 8 = true) : decode_parts__systemG a0_w a0_rd a0_f3 a0_rs1 a0_rs2 a0_f7 = true := by
  unfold decode_parts__systemG
  rw [h]
  simp [Go.Ev.cS1, Go.Ev.cS2]
/- (sallyport/decode.parts).insn -/
def decode_parts__insn_c0 (a0_w : Int) (a0_rd : Int) (a0_f3 : Int) (a0_rs1 : Int) (a0_rs2 : Int) (a0_f7 : Int) : Bool :=
  bif iEq (decode_Opcode0 a0_w) 51 then
    bif iEq (decode_Opcode0 a0_w) 51 then decode_parts__registersG a0_w a0_rd a0_f3 a0_rs1 a0_rs2 a0_f7 && true
    else bif iEq (decode_Opcode0 a0_w) 15 then true else bif iEq (decode_Opcode0 a0_w) 115 then decode_parts__systemG a0_w a0_rd a0_f3 a0_rs1 a0_rs2 a0_f7 && true else true
  else
    bif iEq (decode_Opcode0 a0_w) 59 then decode_parts__registersG a0_w a0_rd a0_f3 a0_rs1 a0_rs2 a0_f7 && true
    else bif iEq (decode_Opcode0 a0_w) 15 then true else bif iEq (decode_Opcode0 a0_w) 115 then decode_parts__systemG a0_w a0_rd a0_f3 a0_rs1 a0_rs2 a0_f7 && true else true
def decode_parts__insn_c1 (a0_w : Int) (a0_rd : Int) (a0_f3 : Int) (a0_rs1 : Int) (a0_rs2 : Int) (a0_f7 : Int) : Int :=
  bif a0_f3.toNat == 7 then 10
  else
    bif a0_f3.toNat == 6 then 9
    else
      bif a0_f3.toNat == 5 then 8
      else bif a0_f3.toNat == 4 then 7 else bif a0_f3.toNat == 3 then 0 else bif a0_f3.toNat == 2 then 0 else bif a0_f3.toNat == 1 then 6 else bif a0_f3.toNat == 0 then 5 else 0
def decode_parts__insn_c2 (a0_w : Int) (a0_rd : Int) (a0_f3 : Int) (a0_rs1 : Int) (a0_rs2 : Int) (a0_f7 : Int) : Int :=
  bif a0_f3.toNat == 6 then 17
  else
    bif a0_f3.toNat == 5 then 16
    else bif a0_f3.toNat == 4 then 15 else bif a0_f3.toNat == 3 then 14 else bif a0_f3.toNat == 2 then 13 else bif a0_f3.toNat == 1 then 12 else bif a0_f3.toNat == 0 then 11 else 0
def decode_parts__insn_c3 (a0_w : Int) (a0_rd : Int) (a0_f3 : Int) (a0_rs1 : Int) (a0_rs2 : Int) (a0_f7 : Int) : Int :=
  bif a0_f3.toNat == 3 then 21 else bif a0_f3.toNat == 2 then 20 else bif a0_f3.toNat == 1 then 19 else bif a0_f3.toNat == 0 then 18 else 0
def decode_parts__insn_c4 (a0_w : Int) (a0_rd : Int) (a0_f3 : Int) (a0_rs1 : Int) (a0_rs2 : Int) (a0_f7 : Int) : Int :=
  bif iEq (decode_Opcode0 a0_w) 59 then decode_parts__registers0 a0_w a0_rd a0_f3 a0_rs1 a0_rs2 a0_f7
  else
    bif iEq (decode_Opcode0 a0_w) 15 then decode_parts__fixed0 a0_w a0_rd a0_f3 a0_rs1 a0_rs2 a0_f7
    else bif iEq (decode_Opcode0 a0_w) 115 then decode_parts__system0 a0_w a0_rd a0_f3 a0_rs1 a0_rs2 a0_f7 else 0
def decode_parts__insn_c5 (a0_w : Int) (a0_rd : Int) (a0_f3 : Int) (a0_rs1 : Int) (a0_rs2 : Int) (a0_f7 : Int) : Int :=
  bif iEq (decode_Opcode0 a0_w) 51 then
    bif iEq (decode_Opcode0 a0_w) 51 then decode_parts__registers0 a0_w a0_rd a0_f3 a0_rs1 a0_rs2 a0_f7
    else
      bif iEq (decode_Opcode0 a0_w) 15 then decode_parts__fixed0 a0_w a0_rd a0_f3 a0_rs1 a0_rs2 a0_f7
      else bif iEq (decode_Opcode0 a0_w) 115 then decode_parts__system0 a0_w a0_rd a0_f3 a0_rs1 a0_rs2 a0_f7 else 0
  else decode_parts__insn_c4 a0_w a0_rd a0_f3 a0_rs1 a0_rs2 a0_f7
def decode_parts__insn_c6 (a0_w : Int) (a0_rd : Int) (a0_f3 : Int) (a0_rs1 : Int) (a0_rs2 : Int) (a0_f7 : Int) : Int :=
  bif iEq (decode_Opcode0 a0_w) 59 then a0_rd else bif iEq (decode_Opcode0 a0_w) 15 then 0 else bif iEq (decode_Opcode0 a0_w) 115 then decode_parts__system1 a0_w a0_rd a0_f3 a0_rs1 a0_rs2 a0_f7 else 0
def decode_parts__insn_c7 (a0_w : Int) (a0_rd : Int) (a0_f3 : Int) (a0_rs1 : Int) (a0_rs2 : Int) (a0_f7 : Int) : Int :=
  bif iEq (decode_Opcode0 a0_w) 51 then
    bif iEq (decode_Opcode0 a0_w) 51 then a0_rd else bif iEq (decode_Opcode0 a0_w) 15 then 0 else bif iEq (decode_Opcode0 a0_w) 115 then decode_parts__system1 a0_w a0_rd a0_f3 a0_rs1 a0_rs2 a0_f7 else 0
  else decode_parts__insn_c6 a0_w a0_rd a0_f3 a0_rs1 a0_rs2 a0_f7
def decode_parts__insn_c8 (a0_w : Int) (a0_rd : Int) (a0_f3 : Int) (a0_rs1 : Int) (a0_rs2 : Int) (a0_f7 : Int) : Int :=
  bif iEq (decode_Opcode0 a0_w) 59 then a0_rs1 else bif iEq (decode_Opcode0 a0_w) 15 then 0 else bif iEq (decode_Opcode0 a0_w) 115 then decode_parts__system2 a0_w a0_rd a0_f3 a0_rs1 a0_rs2 a0_f7 else 0
def decode_parts__insn_c9 (a0_w : Int) (a0_rd : Int) (a0_f3 : Int) (a0_rs1 : Int) (a0_rs2 : Int) (a0_f7 : Int) : Int :=
  bif iEq (decode_Opcode0 a0_w) 51 then
    bif iEq (decode_Opcode0 a0_w) 51 then a0_rs1
    else bif iEq (decode_Opcode0 a0_w) 15 then 0 else bif iEq (decode_Opcode0 a0_w) 115 then decode_parts__system2 a0_w a0_rd a0_f3 a0_rs1 a0_rs2 a0_f7 else 0
  else decode_parts__insn_c8 a0_w a0_rd a0_f3 a0_rs1 a0_rs2 a0_f7
def decode_parts__insn_c10 (a0_w : Int) (a0_rd : Int) (a0_f3 : Int) (a0_rs1 : Int) (a0_rs2 : Int) (a0_f7 : Int) : Int :=
  bif iEq (decode_Opcode0 a0_w) 59 then a0_rs2 else bif iEq (decode_Opcode0 a0_w) 15 then 0 else bif iEq (decode_Opcode0 a0_w) 115 then decode_parts__system3 a0_w a0_rd a0_f3 a0_rs1 a0_rs2 a0_f7 else 0
def decode_parts__insn_c11 (a0_w : Int) (a0_rd : Int) (a0_f3 : Int) (a0_rs1 : Int) (a0_rs2 : Int) (a0_f7 : Int) : Int :=
  bif iEq (decode_Opcode0 a0_w) 51 then
    bif iEq (decode_Opcode0 a0_w) 51 then a0_rs2
    else bif iEq (decode_Opcode0 a0_w) 15 then 0 else bif iEq (decode_Opcode0 a0_w) 115 then decode_parts__system3 a0_w a0_rd a0_f3 a0_rs1 a0_rs2 a0_f7 else 0
  else decode_parts__insn_c10 a0_w a0_rd a0_f3 a0_rs1 a0_rs2 a0_f7
def decode_parts__insn_c12 (a0_w : Int) (a0_rd : Int) (a0_f3 : Int) (a0_rs1 : Int) (a0_rs2 : Int) (a0_f7 : Int) : Int :=
  bif iEq (decode_Opcode0 a0_w) 59 then 0 else bif iEq (decode_Opcode0 a0_w) 15 then 0 else bif iEq (decode_Opcode0 a0_w) 115 then decode_parts__system4 a0_w a0_rd a0_f3 a0_rs1 a0_rs2 a0_f7 else 0
def decode_parts__insn_c13 (a0_w : Int) (a0_rd : Int) (a0_f3 : Int) (a0_rs1 : Int) (a0_rs2 : Int) (a0_f7 : Int) : Int :=
  bif iEq (decode_Opcode0 a0_w) 51 then
    bif iEq (decode_Opcode0 a0_w) 51 then 0 else bif iEq (decode_Opcode0 a0_w) 15 then 0 else bif iEq (decode_Opcode0 a0_w) 115 then decode_parts__system4 a0_w a0_rd a0_f3 a0_rs1 a0_rs2 a0_f7 else 0
  else decode_parts__insn_c12 a0_w a0_rd a0_f3 a0_rs1 a0_rs2 a0_f7
def decode_parts__insn_c14 (a0_w : Int) (a0_rd : Int) (a0_f3 : Int) (a0_rs1 : Int) (a0_rs2 : Int) (a0_f7 : Int) : Int :=
  bif iEq (decode_Opcode0 a0_w) 59 then 0 else bif iEq (decode_Opcode0 a0_w) 15 then 0 else bif iEq (decode_Opcode0 a0_w) 115 then decode_parts__system5 a0_w a0_rd a0_f3 a0_rs1 a0_rs2 a0_f7 else 0
def decode_parts__insn_c15 (a0_w : Int) (a0_rd : Int) (a0_f3 : Int) (a0_rs1 : Int) (a0_rs2 : Int) (a0_f7 : Int) : Int :=
  bif iEq (decode_Opcode0 a0_w) 51 then
    bif iEq (decode_Opcode0 a0_w) 51 then 0 else bif iEq (decode_Opcode0 a0_w) 15 then 0 else bif iEq (decode_Opcode0 a0_w) 115 then decode_parts__system5 a0_w a0_rd a0_f3 a0_rs1 a0_rs2 a0_f7 else 0
  else decode_parts__insn_c14 a0_w a0_rd a0_f3 a0_rs1 a0_rs2 a0_f7
def decode_parts__insn_c16 (a0_w : Int) (a0_rd : Int) (a0_f3 : Int) (a0_rs1 : Int) (a0_rs2 : Int) (a0_f7 : Int) : Bool :=
  bif iEq (decode_Opcode0 a0_w) 59 then decode_parts__registers6 a0_w a0_rd a0_f3 a0_rs1 a0_rs2 a0_f7
  else
    bif iEq (decode_Opcode0 a0_w) 15 then decode_parts__fixed1 a0_w a0_rd a0_f3 a0_rs1 a0_rs2 a0_f7
    else bif iEq (decode_Opcode0 a0_w) 115 then decode_parts__system6 a0_w a0_rd a0_f3 a0_rs1 a0_rs2 a0_f7 else false
def decode_parts__insn_c17 (a0_w : Int) (a0_rd : Int) (a0_f3 : Int) (a0_rs1 : Int) (a0_rs2 : Int) (a0_f7 : Int) : Bool :=
  bif iEq (decode_Opcode0 a0_w) 51 then
    bif iEq (decode_Opcode0 a0_w) 51 then decode_parts__registers6 a0_w a0_rd a0_f3 a0_rs1 a0_rs2 a0_f7
    else
      bif iEq (decode_Opcode0 a0_w) 15 then decode_parts__fixed1 a0_w a0_rd a0_f3 a0_rs1 a0_rs2 a0_f7
      else bif iEq (decode_Opcode0 a0_w) 115 then decode_parts__system6 a0_w a0_rd a0_f3 a0_rs1 a0_rs2 a0_f7 else false
  else decode_parts__insn_c16 a0_w a0_rd a0_f3 a0_rs1 a0_rs2 a0_f7
def decode_parts__insn0 (a0_w : Int) (a0_rd : Int) (a0_f3 : Int) (a0_rs1 : Int) (a0_rs2 : Int) (a0_f7 : Int) : Int :=
  bif iEq (decode_Opcode0 a0_w) 55 then 1
  else
    bif iEq (decode_Opcode0 a0_w) 23 then 2
    else
      bif iEq (decode_Opcode0 a0_w) 111 then 3
      else
        bif iEq (decode_Opcode0 a0_w) 103 then 4
        else
          bif iEq (decode_Opcode0 a0_w) 99 then decode_parts__insn_c1 a0_w a0_rd a0_f3 a0_rs1 a0_rs2 a0_f7
          else
            bif iEq (decode_Opcode0 a0_w) 3 then decode_parts__insn_c2 a0_w a0_rd a0_f3 a0_rs1 a0_rs2 a0_f7
            else
              bif iEq (decode_Opcode0 a0_w) 35 then decode_parts__insn_c3 a0_w a0_rd a0_f3 a0_rs1 a0_rs2 a0_f7
              else
                bif iEq (decode_Opcode0 a0_w) 19 then decode_parts__reckons0 a0_w a0_rd a0_f3 a0_rs1 a0_rs2 a0_f7
                else
                  bif iEq (decode_Opcode0 a0_w) 27 then decode_parts__reckons0 a0_w a0_rd a0_f3 a0_rs1 a0_rs2 a0_f7
                  else bif iEq (decode_Opcode0 a0_w) 51 then decode_parts__registers0 a0_w a0_rd a0_f3 a0_rs1 a0_rs2 a0_f7 else decode_parts__insn_c4 a0_w a0_rd a0_f3 a0_rs1 a0_rs2 a0_f7
def decode_parts__insn0r (a0_w : Int) (a0_rd : Int) (a0_f3 : Int) (a0_rs1 : Int) (a0_rs2 : Int) (a0_f7 : Int) : Int :=
  bif iEq (decode_Opcode0 a0_w) 55 then 1
  else
    bif iEq (decode_Opcode0 a0_w) 23 then 2
    else
      bif iEq (decode_Opcode0 a0_w) 111 then 3
      else
        bif iEq (decode_Opcode0 a0_w) 103 then 4
        else
          bif iEq (decode_Opcode0 a0_w) 99 then decode_parts__insn_c1 a0_w a0_rd a0_f3 a0_rs1 a0_rs2 a0_f7
          else
            bif iEq (decode_Opcode0 a0_w) 3 then decode_parts__insn_c2 a0_w a0_rd a0_f3 a0_rs1 a0_rs2 a0_f7
            else
              bif iEq (decode_Opcode0 a0_w) 35 then decode_parts__insn_c3 a0_w a0_rd a0_f3 a0_rs1 a0_rs2 a0_f7
              else
                bif iEq (decode_Opcode0 a0_w) 19 then
                  bif iEq (decode_Opcode0 a0_w) 19 then decode_parts__reckons0 a0_w a0_rd a0_f3 a0_rs1 a0_rs2 a0_f7 else decode_parts__insn_c5 a0_w a0_rd a0_f3 a0_rs1 a0_rs2 a0_f7
                else bif iEq (decode_Opcode0 a0_w) 27 then decode_parts__reckons0 a0_w a0_rd a0_f3 a0_rs1 a0_rs2 a0_f7 else decode_parts__insn_c5 a0_w a0_rd a0_f3 a0_rs1 a0_rs2 a0_f7
def decode_parts__insn1 (a0_w : Int) (a0_rd : Int) (a0_f3 : Int) (a0_rs1 : Int) (a0_rs2 : Int) (a0_f7 : Int) : Int :=
  bif iEq (decode_Opcode0 a0_w) 55 then a0_rd
  else
    bif iEq (decode_Opcode0 a0_w) 23 then a0_rd
    else
      bif iEq (decode_Opcode0 a0_w) 111 then a0_rd
      else
        bif iEq (decode_Opcode0 a0_w) 103 then a0_rd
        else
          bif iEq (decode_Opcode0 a0_w) 99 then 0
          else
            bif iEq (decode_Opcode0 a0_w) 3 then a0_rd
            else
              bif iEq (decode_Opcode0 a0_w) 35 then 0
              else
                bif iEq (decode_Opcode0 a0_w) 19 then decode_parts__reckons1 a0_w a0_rd a0_f3 a0_rs1 a0_rs2 a0_f7
                else
                  bif iEq (decode_Opcode0 a0_w) 27 then decode_parts__reckons1 a0_w a0_rd a0_f3 a0_rs1 a0_rs2 a0_f7
                  else bif iEq (decode_Opcode0 a0_w) 51 then a0_rd else decode_parts__insn_c6 a0_w a0_rd a0_f3 a0_rs1 a0_rs2 a0_f7
def decode_parts__insn1r (a0_w : Int) (a0_rd : Int) (a0_f3 : Int) (a0_rs1 : Int) (a0_rs2 : Int) (a0_f7 : Int) : Int :=
  bif iEq (decode_Opcode0 a0_w) 55 then a0_rd
  else
    bif iEq (decode_Opcode0 a0_w) 23 then a0_rd
    else
      bif iEq (decode_Opcode0 a0_w) 111 then a0_rd
      else
        bif iEq (decode_Opcode0 a0_w) 103 then a0_rd
        else
          bif iEq (decode_Opcode0 a0_w) 99 then 0
          else
            bif iEq (decode_Opcode0 a0_w) 3 then a0_rd
            else
              bif iEq (decode_Opcode0 a0_w) 35 then 0
              else
                bif iEq (decode_Opcode0 a0_w) 19 then
                  bif iEq (decode_Opcode0 a0_w) 19 then decode_parts__reckons1 a0_w a0_rd a0_f3 a0_rs1 a0_rs2 a0_f7 else decode_parts__insn_c7 a0_w a0_rd a0_f3 a0_rs1 a0_rs2 a0_f7
                else bif iEq (decode_Opcode0 a0_w) 27 then decode_parts__reckons1 a0_w a0_rd a0_f3 a0_rs1 a0_rs2 a0_f7 else decode_parts__insn_c7 a0_w a0_rd a0_f3 a0_rs1 a0_rs2 a0_f7
def decode_parts__insn2 (a0_w : Int) (a0_rd : Int) (a0_f3 : Int) (a0_rs1 : Int) (a0_rs2 : Int) (a0_f7 : Int) : Int :=
  bif iEq (decode_Opcode0 a0_w) 55 then 0
  else
    bif iEq (decode_Opcode0 a0_w) 23 then 0
    else
      bif iEq (decode_Opcode0 a0_w) 111 then 0
      else
        bif iEq (decode_Opcode0 a0_w) 103 then a0_rs1
        else
          bif iEq (decode_Opcode0 a0_w) 99 then a0_rs1
          else
            bif iEq (decode_Opcode0 a0_w) 3 then a0_rs1
            else
              bif iEq (decode_Opcode0 a0_w) 35 then a0_rs1
              else
                bif iEq (decode_Opcode0 a0_w) 19 then decode_parts__reckons2 a0_w a0_rd a0_f3 a0_rs1 a0_rs2 a0_f7
                else
                  bif iEq (decode_Opcode0 a0_w) 27 then decode_parts__reckons2 a0_w a0_rd a0_f3 a0_rs1 a0_rs2 a0_f7
                  else bif iEq (decode_Opcode0 a0_w) 51 then a0_rs1 else decode_parts__insn_c8 a0_w a0_rd a0_f3 a0_rs1 a0_rs2 a0_f7
def decode_parts__insn2r (a0_w : Int) (a0_rd : Int) (a0_f3 : Int) (a0_rs1 : Int) (a0_rs2 : Int) (a0_f7 : Int) : Int :=
  bif iEq (decode_Opcode0 a0_w) 55 then 0
  else
    bif iEq (decode_Opcode0 a0_w) 23 then 0
    else
      bif iEq (decode_Opcode0 a0_w) 111 then 0
      else
        bif iEq (decode_Opcode0 a0_w) 103 then a0_rs1
        else
          bif iEq (decode_Opcode0 a0_w) 99 then a0_rs1
          else
            bif iEq (decode_Opcode0 a0_w) 3 then a0_rs1
            else
              bif iEq (decode_Opcode0 a0_w) 35 then a0_rs1
              else
                bif iEq (decode_Opcode0 a0_w) 19 then
                  bif iEq (decode_Opcode0 a0_w) 19 then decode_parts__reckons2 a0_w a0_rd a0_f3 a0_rs1 a0_rs2 a0_f7 else decode_parts__insn_c9 a0_w a0_rd a0_f3 a0_rs1 a0_rs2 a0_f7
                else bif iEq (decode_Opcode0 a0_w) 27 then decode_parts__reckons2 a0_w a0_rd a0_f3 a0_rs1 a0_rs2 a0_f7 else decode_parts__insn_c9 a0_w a0_rd a0_f3 a0_rs1 a0_rs2 a0_f7
def decode_parts__insn3 (a0_w : Int) (a0_rd : Int) (a0_f3 : Int) (a0_rs1 : Int) (a0_rs2 : Int) (a0_f7 : Int) : Int :=
  bif iEq (decode_Opcode0 a0_w) 55 then 0
  else
    bif iEq (decode_Opcode0 a0_w) 23 then 0
    else
      bif iEq (decode_Opcode0 a0_w) 111 then 0
      else
        bif iEq (decode_Opcode0 a0_w) 103 then 0
        else
          bif iEq (decode_Opcode0 a0_w) 99 then a0_rs2
          else
            bif iEq (decode_Opcode0 a0_w) 3 then 0
            else
              bif iEq (decode_Opcode0 a0_w) 35 then a0_rs2
              else
                bif iEq (decode_Opcode0 a0_w) 19 then 0
                else bif iEq (decode_Opcode0 a0_w) 27 then 0 else bif iEq (decode_Opcode0 a0_w) 51 then a0_rs2 else decode_parts__insn_c10 a0_w a0_rd a0_f3 a0_rs1 a0_rs2 a0_f7
def decode_parts__insn3r (a0_w : Int) (a0_rd : Int) (a0_f3 : Int) (a0_rs1 : Int) (a0_rs2 : Int) (a0_f7 : Int) : Int :=
  bif iEq (decode_Opcode0 a0_w) 55 then 0
  else
    bif iEq (decode_Opcode0 a0_w) 23 then 0
    else
      bif iEq (decode_Opcode0 a0_w) 111 then 0
      else
        bif iEq (decode_Opcode0 a0_w) 103 then 0
        else
          bif iEq (decode_Opcode0 a0_w) 99 then a0_rs2
          else
            bif iEq (decode_Opcode0 a0_w) 3 then 0
            else
              bif iEq (decode_Opcode0 a0_w) 35 then a0_rs2
              else
                bif iEq (decode_Opcode0 a0_w) 19 then bif iEq (decode_Opcode0 a0_w) 19 then 0 else decode_parts__insn_c11 a0_w a0_rd a0_f3 a0_rs1 a0_rs2 a0_f7
                else bif iEq (decode_Opcode0 a0_w) 27 then 0 else decode_parts__insn_c11 a0_w a0_rd a0_f3 a0_rs1 a0_rs2 a0_f7
def decode_parts__insn4 (a0_w : Int) (a0_rd : Int) (a0_f3 : Int) (a0_rs1 : Int) (a0_rs2 : Int) (a0_f7 : Int) : Int :=
  bif iEq (decode_Opcode0 a0_w) 55 then iConv IntKind.i64 (word_Sext0 (iShl IntKind.u64 (iOr IntKind.u64 0 (word_Bits0 (iConv IntKind.u64 a0_w) 12 20)) 12) 32)
  else
    bif iEq (decode_Opcode0 a0_w) 23 then iConv IntKind.i64 (word_Sext0 (iShl IntKind.u64 (iOr IntKind.u64 0 (word_Bits0 (iConv IntKind.u64 a0_w) 12 20)) 12) 32)
    else
      bif iEq (decode_Opcode0 a0_w) 111 then
        iConv IntKind.i64
          (word_Sext0
            (iShl IntKind.u64
              (iOr IntKind.u64
                (iShl IntKind.u64
                  (iOr IntKind.u64 (iShl IntKind.u64 (iOr IntKind.u64 (iShl IntKind.u64 (iOr IntKind.u64 0 (word_Bits0 (iConv IntKind.u64 a0_w) 31 1)) 8) (word_Bits0 (iConv IntKind.u64 a0_w) 12 8)) 1)
                    (word_Bits0 (iConv IntKind.u64 a0_w) 20 1))
                  10)
                (word_Bits0 (iConv IntKind.u64 a0_w) 21 10))
              1)
            21)
      else
        bif iEq (decode_Opcode0 a0_w) 103 then decode_parts__immediate0 a0_w a0_rd a0_f3 a0_rs1 a0_rs2 a0_f7 4
        else
          bif iEq (decode_Opcode0 a0_w) 99 then
            iConv IntKind.i64
              (word_Sext0
                (iShl IntKind.u64
                  (iOr IntKind.u64
                    (iShl IntKind.u64
                      (iOr IntKind.u64
                        (iShl IntKind.u64 (iOr IntKind.u64 (iShl IntKind.u64 (iOr IntKind.u64 0 (word_Bits0 (iConv IntKind.u64 a0_w) 31 1)) 1) (word_Bits0 (iConv IntKind.u64 a0_w) 7 1)) 6)
                        (word_Bits0 (iConv IntKind.u64 a0_w) 25 6))
                      4)
                    (word_Bits0 (iConv IntKind.u64 a0_w) 8 4))
                  1)
                13)
          else
            bif iEq (decode_Opcode0 a0_w) 3 then decode_parts__immediate0 a0_w a0_rd a0_f3 a0_rs1 a0_rs2 a0_f7 (decode_parts__insn_c2 a0_w a0_rd a0_f3 a0_rs1 a0_rs2 a0_f7)
            else
              bif iEq (decode_Opcode0 a0_w) 35 then
                iConv IntKind.i64
                  (word_Sext0 (iShl IntKind.u64 (iOr IntKind.u64 (iShl IntKind.u64 (iOr IntKind.u64 0 (word_Bits0 (iConv IntKind.u64 a0_w) 25 7)) 5) (word_Bits0 (iConv IntKind.u64 a0_w) 7 5)) 0) 12)
              else
                bif iEq (decode_Opcode0 a0_w) 19 then decode_parts__reckons4 a0_w a0_rd a0_f3 a0_rs1 a0_rs2 a0_f7
                else
                  bif iEq (decode_Opcode0 a0_w) 27 then decode_parts__reckons4 a0_w a0_rd a0_f3 a0_rs1 a0_rs2 a0_f7
                  else bif iEq (decode_Opcode0 a0_w) 51 then 0 else decode_parts__insn_c12 a0_w a0_rd a0_f3 a0_rs1 a0_rs2 a0_f7
def decode_parts__insn4r (a0_w : Int) (a0_rd : Int) (a0_f3 : Int) (a0_rs1 : Int) (a0_rs2 : Int) (a0_f7 : Int) : Int :=
  bif iEq (decode_Opcode0 a0_w) 55 then iConv IntKind.i64 (word_Sext0 (iShl IntKind.u64 (iOr IntKind.u64 0 (word_Bits0 (iConv IntKind.u64 a0_w) 12 20)) 12) 32)
  else
    bif iEq (decode_Opcode0 a0_w) 23 then iConv IntKind.i64 (word_Sext0 (iShl IntKind.u64 (iOr IntKind.u64 0 (word_Bits0 (iConv IntKind.u64 a0_w) 12 20)) 12) 32)
    else
      bif iEq (decode_Opcode0 a0_w) 111 then
        iConv IntKind.i64
          (word_Sext0
            (iShl IntKind.u64
              (iOr IntKind.u64
                (iShl IntKind.u64
                  (iOr IntKind.u64 (iShl IntKind.u64 (iOr IntKind.u64 (iShl IntKind.u64 (iOr IntKind.u64 0 (word_Bits0 (iConv IntKind.u64 a0_w) 31 1)) 8) (word_Bits0 (iConv IntKind.u64 a0_w) 12 8)) 1)
                    (word_Bits0 (iConv IntKind.u64 a0_w) 20 1))
                  10)
                (word_Bits0 (iConv IntKind.u64 a0_w) 21 10))
              1)
            21)
      else
        bif iEq (decode_Opcode0 a0_w) 103 then decode_parts__immediate0 a0_w a0_rd a0_f3 a0_rs1 a0_rs2 a0_f7 4
        else
          bif iEq (decode_Opcode0 a0_w) 99 then
            iConv IntKind.i64
              (word_Sext0
                (iShl IntKind.u64
                  (iOr IntKind.u64
                    (iShl IntKind.u64
                      (iOr IntKind.u64
                        (iShl IntKind.u64 (iOr IntKind.u64 (iShl IntKind.u64 (iOr IntKind.u64 0 (word_Bits0 (iConv IntKind.u64 a0_w) 31 1)) 1) (word_Bits0 (iConv IntKind.u64 a0_w) 7 1)) 6)
                        (word_Bits0 (iConv IntKind.u64 a0_w) 25 6))
                      4)
                    (word_Bits0 (iConv IntKind.u64 a0_w) 8 4))
                  1)
                13)
          else
            bif iEq (decode_Opcode0 a0_w) 3 then decode_parts__immediate0 a0_w a0_rd a0_f3 a0_rs1 a0_rs2 a0_f7 (decode_parts__insn_c2 a0_w a0_rd a0_f3 a0_rs1 a0_rs2 a0_f7)
            else
              bif iEq (decode_Opcode0 a0_w) 35 then
                iConv IntKind.i64
                  (word_Sext0 (iShl IntKind.u64 (iOr IntKind.u64 (iShl IntKind.u64 (iOr IntKind.u64 0 (word_Bits0 (iConv IntKind.u64 a0_w) 25 7)) 5) (word_Bits0 (iConv IntKind.u64 a0_w) 7 5)) 0) 12)
              else
                bif iEq (decode_Opcode0 a0_w) 19 then
                  bif iEq (decode_Opcode0 a0_w) 19 then decode_parts__reckons4 a0_w a0_rd a0_f3 a0_rs1 a0_rs2 a0_f7 else decode_parts__insn_c13 a0_w a0_rd a0_f3 a0_rs1 a0_rs2 a0_f7
                else bif iEq (decode_Opcode0 a0_w) 27 then decode_parts__reckons4 a0_w a0_rd a0_f3 a0_rs1 a0_rs2 a0_f7 else decode_parts__insn_c13 a0_w a0_rd a0_f3 a0_rs1 a0_rs2 a0_f7
def decode_parts__insn5 (a0_w : Int) (a0_rd : Int) (a0_f3 : Int) (a0_rs1 : Int) (a0_rs2 : Int) (a0_f7 : Int) : Int :=
  bif iEq (decode_Opcode0 a0_w) 55 then 0
  else
    bif iEq (decode_Opcode0 a0_w) 23 then 0
    else
      bif iEq (decode_Opcode0 a0_w) 111 then 0
      else
        bif iEq (decode_Opcode0 a0_w) 103 then 0
        else
          bif iEq (decode_Opcode0 a0_w) 99 then 0
          else
            bif iEq (decode_Opcode0 a0_w) 3 then 0
            else
              bif iEq (decode_Opcode0 a0_w) 35 then 0
              else
                bif iEq (decode_Opcode0 a0_w) 19 then 0
                else bif iEq (decode_Opcode0 a0_w) 27 then 0 else bif iEq (decode_Opcode0 a0_w) 51 then 0 else decode_parts__insn_c14 a0_w a0_rd a0_f3 a0_rs1 a0_rs2 a0_f7
def decode_parts__insn5r (a0_w : Int) (a0_rd : Int) (a0_f3 : Int) (a0_rs1 : Int) (a0_rs2 : Int) (a0_f7 : Int) : Int :=
  bif iEq (decode_Opcode0 a0_w) 55 then 0
  else
    bif iEq (decode_Opcode0 a0_w) 23 then 0
    else
      bif iEq (decode_Opcode0 a0_w) 111 then 0
      else
        bif iEq (decode_Opcode0 a0_w) 103 then 0
        else
          bif iEq (decode_Opcode0 a0_w) 99 then 0
          else
            bif iEq (decode_Opcode0 a0_w) 3 then 0
            else
              bif iEq (decode_Opcode0 a0_w) 35 then 0
              else
                bif iEq (decode_Opcode0 a0_w) 19 then bif iEq (decode_Opcode0 a0_w) 19 then 0 else decode_parts__insn_c15 a0_w a0_rd a0_f3 a0_rs1 a0_rs2 a0_f7
                else bif iEq (decode_Opcode0 a0_w) 27 then 0 else decode_parts__insn_c15 a0_w a0_rd a0_f3 a0_rs1 a0_rs2 a0_f7
def decode_parts__insn6 (a0_w : Int) (a0_rd : Int) (a0_f3 : Int) (a0_rs1 : Int) (a0_rs2 : Int) (a0_f7 : Int) : Bool :=
  bif iEq (decode_Opcode0 a0_w) 55 then true
  else
    bif iEq (decode_Opcode0 a0_w) 23 then true
    else
      bif iEq (decode_Opcode0 a0_w) 111 then true
      else
        bif iEq (decode_Opcode0 a0_w) 103 then iEq a0_f3 0
        else
          bif iEq (decode_Opcode0 a0_w) 99 then iNe (decode_parts__insn_c1 a0_w a0_rd a0_f3 a0_rs1 a0_rs2 a0_f7) 0
          else
            bif iEq (decode_Opcode0 a0_w) 3 then iNe (decode_parts__insn_c2 a0_w a0_rd a0_f3 a0_rs1 a0_rs2 a0_f7) 0
            else
              bif iEq (decode_Opcode0 a0_w) 35 then iNe (decode_parts__insn_c3 a0_w a0_rd a0_f3 a0_rs1 a0_rs2 a0_f7) 0
              else
                bif iEq (decode_Opcode0 a0_w) 19 then decode_parts__reckons6 a0_w a0_rd a0_f3 a0_rs1 a0_rs2 a0_f7
                else
                  bif iEq (decode_Opcode0 a0_w) 27 then decode_parts__reckons6 a0_w a0_rd a0_f3 a0_rs1 a0_rs2 a0_f7
                  else bif iEq (decode_Opcode0 a0_w) 51 then decode_parts__registers6 a0_w a0_rd a0_f3 a0_rs1 a0_rs2 a0_f7 else decode_parts__insn_c16 a0_w a0_rd a0_f3 a0_rs1 a0_rs2 a0_f7
def decode_parts__insn6r (a0_w : Int) (a0_rd : Int) (a0_f3 : Int) (a0_rs1 : Int) (a0_rs2 : Int) (a0_f7 : Int) : Bool :=
  bif iEq (decode_Opcode0 a0_w) 55 then true
  else
    bif iEq (decode_Opcode0 a0_w) 23 then true
    else
      bif iEq (decode_Opcode0 a0_w) 111 then true
      else
        bif iEq (decode_Opcode0 a0_w) 103 then iEq a0_f3 0
        else
          bif iEq (decode_Opcode0 a0_w) 99 then iNe (decode_parts__insn_c1 a0_w a0_rd a0_f3 a0_rs1 a0_rs2 a0_f7) 0
          else
            bif iEq (decode_Opcode0 a0_w) 3 then iNe (decode_parts__insn_c2 a0_w a0_rd a0_f3 a0_rs1 a0_rs2 a0_f7) 0
            else
              bif iEq (decode_Opcode0 a0_w) 35 then iNe (decode_parts__insn_c3 a0_w a0_rd a0_f3 a0_rs1 a0_rs2 a0_f7) 0
              else
                bif iEq (decode_Opcode0 a0_w) 19 then
                  bif iEq (decode_Opcode0 a0_w) 19 then decode_parts__reckons6 a0_w a0_rd a0_f3 a0_rs1 a0_rs2 a0_f7 else decode_parts__insn_c17 a0_w a0_rd a0_f3 a0_rs1 a0_rs2 a0_f7
                else bif iEq (decode_Opcode0 a0_w) 27 then decode_parts__reckons6 a0_w a0_rd a0_f3 a0_rs1 a0_rs2 a0_f7 else decode_parts__insn_c17 a0_w a0_rd a0_f3 a0_rs1 a0_rs2 a0_f7
def decode_parts__insnG (a0_w : Int) (a0_rd : Int) (a0_f3 : Int) (a0_rs1 : Int) (a0_rs2 : Int) (a0_f7 : Int) : Bool :=
  bif iEq (decode_Opcode0 a0_w) 55 then true
  else
    bif iEq (decode_Opcode0 a0_w) 23 then true
    else
      bif iEq (decode_Opcode0 a0_w) 111 then true
      else
        bif iEq (decode_Opcode0 a0_w) 103 then true
        else
          bif iEq (decode_Opcode0 a0_w) 99 then iIn a0_f3 8 && true
          else
            bif iEq (decode_Opcode0 a0_w) 3 then iIn a0_f3 8 && true
            else
              bif iEq (decode_Opcode0 a0_w) 35 then iIn a0_f3 8 && true
              else
                bif iEq (decode_Opcode0 a0_w) 19 then
                  bif iEq (decode_Opcode0 a0_w) 19 then decode_parts__reckonsG a0_w a0_rd a0_f3 a0_rs1 a0_rs2 a0_f7 && true else decode_parts__insn_c0 a0_w a0_rd a0_f3 a0_rs1 a0_rs2 a0_f7
                else bif iEq (decode_Opcode0 a0_w) 27 then decode_parts__reckonsG a0_w a0_rd a0_f3 a0_rs1 a0_rs2 a0_f7 && true else decode_parts__insn_c0 a0_w a0_rd a0_f3 a0_rs1 a0_rs2 a0_f7
theorem decode_parts__insn0_eq (a0_w : Int) (a0_rd : Int) (a0_f3 : Int) (a0_rs1 : Int) (a0_rs2 : Int) (a0_f7 : Int)  : decode_parts__insn0r a0_w a0_rd a0_f3 a0_rs1 a0_rs2 a0_f7  = decode_parts__insn0 a0_w a0_rd a0_f3 a0_rs1 a0_rs2 a0_f7  := by
  unfold decode_parts__insn0r
  first | (simp only [decode_parts__insn_c0, decode_parts__insn_c1, decode_parts__insn_c2, decode_parts__insn_c3, decode_parts__insn_c4, decode_parts__insn_c5, decode_parts__insn_c6, decode_parts__insn_c7, decode_parts__insn_c8, decode_parts__insn_c9, decode_parts__insn_c10, decode_parts__insn_c11, decode_parts__insn_c12, decode_parts__insn_c13, decode_parts__insn_c14, decode_parts__insn_c15, decode_parts__insn_c16, decode_parts__insn_c17, Go.Ev.cS1, Go.Ev.cS2, Go.Ev.cS3, Go.Ev.cS4, Go.Ev.cS6, Go.Ev.cS7]; done) | (simp only [decode_parts__insn_c0, decode_parts__insn_c1, decode_parts__insn_c2, decode_parts__insn_c3, decode_parts__insn_c4, decode_parts__insn_c5, decode_parts__insn_c6, decode_parts__insn_c7, decode_parts__insn_c8, decode_parts__insn_c9, decode_parts__insn_c10, decode_parts__insn_c11, decode_parts__insn_c12, decode_parts__insn_c13, decode_parts__insn_c14, decode_parts__insn_c15, decode_parts__insn_c16, decode_parts__insn_c17, Go.Ev.cS1, Go.Ev.cS2, Go.Ev.cS3, Go.Ev.cS4, Go.Ev.cS6, Go.Ev.cS7]; kernel_rfl)
theorem decode_parts__insn1_eq (a0_w : Int) (a0_rd : Int) (a0_f3 : Int) (a0_rs1 : Int) (a0_rs2 : Int) (a0_f7 : Int)  : decode_parts__insn1r a0_w a0_rd a0_f3 a0_rs1 a0_rs2 a0_f7  = decode_parts__insn1 a0_w a0_rd a0_f3 a0_rs1 a0_rs2 a0_f7  := by
  unfold decode_parts__insn1r
  first | (simp only [decode_parts__insn_c0, decode_parts__insn_c1, decode_parts__insn_c2, decode_parts__insn_c3, decode_parts__insn_c4, decode_parts__insn_c5, decode_parts__insn_c6, decode_parts__insn_c7, decode_parts__insn_c8, decode_parts__insn_c9, decode_parts__insn_c10, decode_parts__insn_c11, decode_parts__insn_c12, decode_parts__insn_c13, decode_parts__insn_c14, decode_parts__insn_c15, decode_parts__insn_c16, decode_parts__insn_c17, Go.Ev.cS1, Go.Ev.cS2, Go.Ev.cS3, Go.Ev.cS4, Go.Ev.cS6, Go.Ev.cS7]; done) | (simp only [decode_parts__insn_c0, decode_parts__insn_c1, decode_parts__insn_c2, decode_parts__insn_c3, decode_parts__insn_c4, decode_parts__insn_c5, decode_parts__insn_c6, decode_parts__insn_c7, decode_parts__insn_c8, decode_parts__insn_c9, decode_parts__insn_c10, decode_parts__insn_c11, decode_parts__insn_c12, decode_parts__insn_c13, decode_parts__insn_c14, decode_parts__insn_c15, decode_parts__insn_c16, decode_parts__insn_c17, Go.Ev.cS1, Go.Ev.cS2, Go.Ev.cS3, Go.Ev.cS4, Go.Ev.cS6, Go.Ev.cS7]; kernel_rfl)
theorem decode_parts__insn2_eq (a0_w : Int) (a0_rd : Int) (a0_f3 : Int) (a0_rs1 : Int) (a0_rs2 : Int) (a0_f7 : Int)  : decode_parts__insn2r a0_w a0_rd a0_f3 a0_rs1 a0_rs2 a0_f7  = decode_parts__insn2 a0_w a0_rd a0_f3 a0_rs1 a0_rs2 a0_f7  := by
  unfold decode_parts__insn2r
  first | (simp only [decode_parts__insn_c0, decode_parts__insn_c1, decode_parts__insn_c2, decode_parts__insn_c3, decode_parts__insn_c4, decode_parts__insn_c5, decode_parts__insn_c6, decode_parts__insn_c7, decode_parts__insn_c8, decode_parts__insn_c9, decode_parts__insn_c10, decode_parts__insn_c11, decode_parts__insn_c12, decode_parts__insn_c13, decode_parts__insn_c14, decode_parts__insn_c15, decode_parts__insn_c16, decode_parts__insn_c17, Go.Ev.cS1, Go.Ev.cS2, Go.Ev.cS3, Go.Ev.cS4, Go.Ev.cS6, Go.Ev.cS7]; done) | (simp only [decode_parts__insn_c0, decode_parts__insn_c1, decode_parts__insn_c2, decode_parts__insn_c3, decode_parts__insn_c4, decode_parts__insn_c5, decode_parts__insn_c6, decode_parts__insn_c7, decode_parts__insn_c8, decode_parts__insn_c9, decode_parts__insn_c10, decode_parts__insn_c11, decode_parts__insn_c12, decode_parts__insn_c13, decode_parts__insn_c14, decode_parts__insn_c15, decode_parts__insn_c16, decode_parts__insn_c17, Go.Ev.cS1, Go.Ev.cS2, Go.Ev.cS3, Go.Ev.cS4, Go.Ev.cS6, Go.Ev.cS7]; kernel_rfl)
theorem decode_parts__insn3_eq (a0_w : Int) (a0_rd : Int) (a0_f3 : Int) (a0_rs1 : Int) (a0_rs2 : Int) (a0_f7 : Int)  : decode_parts__insn3r a0_w a0_rd a0_f3 a0_rs1 a0_rs2 a0_f7  = decode_parts__insn3 a0_w a0_rd a0_f3 a0_rs1 a0_rs2 a0_f7  := by
  unfold decode_parts__insn3r
  first | (simp only [decode_parts__insn_c0, decode_parts__insn_c1, decode_parts__insn_c2, decode_parts__insn_c3, decode_parts__insn_c4, decode_parts__insn_c5, decode_parts__insn_c6, decode_parts__insn_c7, decode_parts__insn_c8, decode_parts__insn_c9, decode_parts__insn_c10, decode_parts__insn_c11, decode_parts__insn_c12, decode_parts__insn_c13, decode_parts__insn_c14, decode_parts__insn_c15, decode_parts__insn_c16, decode_parts__insn_c17, Go.Ev.cS1, Go.Ev.cS2, Go.Ev.cS3, Go.Ev.cS4, Go.Ev.cS6, Go.Ev.cS7]; done) | (simp only [decode_parts__insn_c0, decode_parts__insn_c1, decode_parts__insn_c2, decode_parts__insn_c3, decode_parts__insn_c4, decode_parts__insn_c5, decode_parts__insn_c6, decode_parts__insn_c7, decode_parts__insn_c8, decode_parts__insn_c9, decode_parts__insn_c10, decode_parts__insn_c11, decode_parts__insn_c12, decode_parts__insn_c13, decode_parts__insn_c14, decode_parts__insn_c15, decode_parts__insn_c16, decode_parts__insn_c17, Go.Ev.cS1, Go.Ev.cS2, Go.Ev.cS3, Go.Ev.cS4, Go.Ev.cS6, Go.Ev.cS7]; kernel_rfl)
theorem decode_parts__insn4_eq (a0_w : Int) (a0_rd : Int) (a0_f3 : Int) (a0_rs1 : Int) (a0_rs2 : Int) (a0_f7 : Int)  : decode_parts__insn4r a0_w a0_rd a0_f3 a0_rs1 a0_rs2 a0_f7  = decode_parts__insn4 a0_w a0_rd a0_f3 a0_rs1 a0_rs2 a0_f7  := by
  unfold decode_parts__insn4r
  first | (simp only [decode_parts__insn_c0, decode_parts__insn_c1, decode_parts__insn_c2, decode_parts__insn_c3, decode_parts__insn_c4, decode_parts__insn_c5, decode_parts__insn_c6, decode_parts__insn_c7, decode_parts__insn_c8, decode_parts__insn_c9, decode_parts__insn_c10, decode_parts__insn_c11, decode_parts__insn_c12, decode_parts__insn_c13, decode_parts__insn_c14, decode_parts__insn_c15, decode_parts__insn_c16, decode_parts__insn_c17, Go.Ev.cS1, Go.Ev.cS2, Go.Ev.cS3, Go.Ev.cS4, Go.Ev.cS6, Go.Ev.cS7]; done) | (simp only [decode_parts__insn_c0, decode_parts__insn_c1, decode_parts__insn_c2, decode_parts__insn_c3, decode_parts__insn_c4, decode_parts__insn_c5, decode_parts__insn_c6, decode_parts__insn_c7, decode_parts__insn_c8, decode_parts__insn_c9, decode_parts__insn_c10, decode_parts__insn_c11, decode_parts__insn_c12, decode_parts__insn_c13, decode_parts__insn_c14, decode_parts__insn_c15, decode_parts__insn_c16, decode_parts__insn_c17, Go.Ev.cS1, Go.Ev.cS2, Go.Ev.cS3, Go.Ev.cS4, Go.Ev.cS6, Go.Ev.cS7]; kernel_rfl)
theorem decode_parts__insn5_eq (a0_w : Int) (a0_rd : Int) (a0_f3 : Int) (a0_rs1 : Int) (a0_rs2 : Int) (a0_f7 : Int)  : decode_parts__insn5r a0_w a0_rd a0_f3 a0_rs1 a0_rs2 a0_f7  = decode_parts__insn5 a0_w a0_rd a0_f3 a0_rs1 a0_rs2 a0_f7  := by
  unfold decode_parts__insn5r
  first | (simp only [decode_parts__insn_c0, decode_parts__insn_c1, decode_parts__insn_c2, decode_parts__insn_c3, decode_parts__insn_c4, decode_parts__insn_c5, decode_parts__insn_c6, decode_parts__insn_c7, decode_parts__insn_c8, decode_parts__insn_c9, decode_parts__insn_c10, decode_parts__insn_c11, decode_parts__insn_c12, decode_parts__insn_c13, decode_parts__insn_c14, decode_parts__insn_c15, decode_parts__insn_c16, decode_parts__insn_c17, Go.Ev.cS1, Go.Ev.cS2, Go.Ev.cS3, Go.Ev.cS4, Go.Ev.cS6, Go.Ev.cS7]; done) | (simp only [decode_parts__insn_c0, decode_parts__insn_c1, decode_parts__insn_c2, decode_parts__insn_c3, decode_parts__insn_c4, decode_parts__insn_c5, decode_parts__insn_c6, decode_parts__insn_c7, decode_parts__insn_c8, decode_parts__insn_c9, decode_parts__insn_c10, decode_parts__insn_c11, decode_parts__insn_c12, decode_parts__insn_c13, decode_parts__insn_c14, decode_parts__insn_c15, decode_parts__insn_c16, decode_parts__insn_c17, Go.Ev.cS1, Go.Ev.cS2, Go.Ev.cS3, Go.Ev.cS4, Go.Ev.cS6, Go.Ev.cS7]; kernel_rfl)
theorem decode_parts__insn6_eq (a0_w : Int) (a0_rd : Int) (a0_f3 : Int) (a0_rs1 : Int) (a0_rs2 : Int) (a0_f7 : Int)  : decode_parts__insn6r a0_w a0_rd a0_f3 a0_rs1 a0_rs2 a0_f7  = decode_parts__insn6 a0_w a0_rd a0_f3 a0_rs1 a0_rs2 a0_f7  := by
  unfold decode_parts__insn6r
  first | (simp only [decode_parts__insn_c0, decode_parts__insn_c1, decode_parts__insn_c2, decode_parts__insn_c3, decode_parts__insn_c4, decode_parts__insn_c5, decode_parts__insn_c6, decode_parts__insn_c7, decode_parts__insn_c8, decode_parts__insn_c9, decode_parts__insn_c10, decode_parts__insn_c11, decode_parts__insn_c12, decode_parts__insn_c13, decode_parts__insn_c14, decode_parts__insn_c15, decode_parts__insn_c16, decode_parts__insn_c17, Go.Ev.cS1, Go.Ev.cS2, Go.Ev.cS3, Go.Ev.cS4, Go.Ev.cS6, Go.Ev.cS7]; done) | (simp only [decode_parts__insn_c0, decode_parts__insn_c1, decode_parts__insn_c2, decode_parts__insn_c3, decode_parts__insn_c4, decode_parts__insn_c5, decode_parts__insn_c6, decode_parts__insn_c7, decode_parts__insn_c8, decode_parts__insn_c9, decode_parts__insn_c10, decode_parts__insn_c11, decode_parts__insn_c12, decode_parts__insn_c13, decode_parts__insn_c14, decode_parts__insn_c15, decode_parts__insn_c16, decode_parts__insn_c17, Go.Ev.cS1, Go.Ev.cS2, Go.Ev.cS3, Go.Ev.cS4, Go.Ev.cS6, Go.Ev.cS7]; kernel_rfl)
def decode_parts__insnV (a0_w : Int) (a0_rd : Int) (a0_f3 : Int) (a0_rs1 : Int) (a0_rs2 : Int) (a0_f7 : Int) : AV := .tup [.agg [.it .i64 (decode_parts__insn0 a0_w a0_rd a0_f3 a0_rs1 a0_rs2 a0_f7), .it .i64 (decode_parts__insn1 a0_w a0_rd a0_f3 a0_rs1 a0_rs2 a0_f7), .it .i64 (decode_parts__insn2 a0_w a0_rd a0_f3 a0_rs1 a0_rs2 a0_f7), .it .i64 (decode_parts__insn3 a0_w a0_rd a0_f3 a0_rs1 a0_rs2 a0_f7), .it .i64 (decode_parts__insn4 a0_w a0_rd a0_f3 a0_rs1 a0_rs2 a0_f7), .it .i64 (decode_parts__insn5 a0_w a0_rd a0_f3 a0_rs1 a0_rs2 a0_f7)], .bl (decode_parts__insn6 a0_w a0_rd a0_f3 a0_rs1 a0_rs2 a0_f7)]
def decode_parts__insnVr (a0_w : Int) (a0_rd : Int) (a0_f3 : Int) (a0_rs1 : Int) (a0_rs2 : Int) (a0_f7 : Int) : AV := .tup [.agg [.it .i64 (decode_parts__insn0r a0_w a0_rd a0_f3 a0_rs1 a0_rs2 a0_f7), .it .i64 (decode_parts__insn1r a0_w a0_rd a0_f3 a0_rs1 a0_rs2 a0_f7), .it .i64 (decode_parts__insn2r a0_w a0_rd a0_f3 a0_rs1 a0_rs2 a0_f7), .it .i64 (decode_parts__insn3r a0_w a0_rd a0_f3 a0_rs1 a0_rs2 a0_f7), .it .i64 (decode_parts__insn4r a0_w a0_rd a0_f3 a0_rs1 a0_rs2 a0_f7), .it .i64 (decode_parts__insn5r a0_w a0_rd a0_f3 a0_rs1 a0_rs2 a0_f7)], .bl (decode_parts__insn6r a0_w a0_rd a0_f3 a0_rs1 a0_rs2 a0_f7)]
theorem decode_parts__insnV_eq (a0_w : Int) (a0_rd : Int) (a0_f3 : Int) (a0_rs1 : Int) (a0_rs2 : Int) (a0_f7 : Int) : decode_parts__insnVr a0_w a0_rd a0_f3 a0_rs1 a0_rs2 a0_f7 = decode_parts__insnV a0_w a0_rd a0_f3 a0_rs1 a0_rs2 a0_f7 := by
  unfold decode_parts__insnVr decode_parts__insnV
  simp only [decode_parts__insn0_eq, decode_parts__insn1_eq, decode_parts__insn2_eq, decode_parts__insn3_eq, decode_parts__insn4_eq, decode_parts__insn5_eq, decode_parts__insn6_eq]
theorem decode_parts__insnE (g : Nat → AV) : pcOf Tryd.prog okT (lookR T59) (inlO Tryd.prog okT (lookR T59) RO FS 400 ST (hOnce Tryd.prog 67 25 21) 8) RO NOV 100 false Tryd.f37 (norms [(.agg [(.int .u32), (.int .i64), (.int .i64), (.int .i64), (.int .i64), (.int .i64)])] 0 g) = some (decode_parts__insnG (((g 0).fld 0).num) (((g 0).fld 1).num) (((g 0).fld 2).num) (((g 0).fld 3).num) (((g 0).fld 4).num) (((g 0).fld 5).num), decode_parts__insnV (((g 0).fld 0).num) (((g 0).fld 1).num) (((g 0).fld 2).num) (((g 0).fld 3).num) (((g 0).fld 4).num) (((g 0).fld 5).num)) :=
  (by kernel_rfl : pcOf Tryd.prog okT (lookR T59) (inlO Tryd.prog okT (lookR T59) RO FS 400 ST (hOnce Tryd.prog 67 25 21) 8) RO NOV 100 false Tryd.f37 (norms [(.agg [(.int .u32), (.int .i64), (.int .i64), (.int .i64), (.int .i64), (.int .i64)])] 0 g) = some (decode_parts__insnG (((g 0).fld 0).num) (((g 0).fld 1).num) (((g 0).fld 2).num) (((g 0).fld 3).num) (((g 0).fld 4).num) (((g 0).fld 5).num), decode_parts__insnVr (((g 0).fld 0).num) (((g 0).fld 1).num) (((g 0).fld 2).num) (((g 0).fld 3).num) (((g 0).fld 4).num) (((g 0).fld 5).num))).trans (by rw [decode_parts__insnV_eq])
theorem decode_parts__insnP : Plain Tryd.prog 37 Tryd.f37 := ⟨Tryd.func37, of_decide_eq_true (by kernel_rfl)⟩
theorem decode_parts__insnO : RowOk Tryd.prog 37 (rowF [(.agg [(.int .u32), (.int .i64), (.int .i64), (.int .i64), (.int .i64), (.int .i64)])] (some fun g => decode_parts__insnG (((g 0).fld 0).num) (((g 0).fld 1).num) (((g 0).fld 2).num) (((g 0).fld 3).num) (((g 0).fld 4).num) (((g 0).fld 5).num)) fun g => decode_parts__insnV (((g 0).fld 0).num) (((g 0).fld 1).num) (((g 0).fld 2).num) (((g 0).fld 3).num) (((g 0).fld 4).num) (((g 0).fld 5).num)) := rowF_ok fun g hg => pcOf_ok mix fair T59_ok (inlO_ok mix fair T59_ok FS_ok (fun _ h => hOnce_ok once_ok h) 8) decode_parts__insnP (fun c _ => OvOk_none c) (decode_parts__insnE g) hg
def T37 : List Row := (37, (rowF [(.agg [(.int .u32), (.int .i64), (.int .i64), (.int .i64), (.int .i64), (.int .i64)])] (some fun g => decode_parts__insnG (((g 0).fld 0).num) (((g 0).fld 1).num) (((g 0).fld 2).num) (((g 0).fld 3).num) (((g 0).fld 4).num) (((g 0).fld 5).num)) fun g => decode_parts__insnV (((g 0).fld 0).num) (((g 0).fld 1).num) (((g 0).fld 2).num) (((g 0).fld 3).num) (((g 0).fld 4).num) (((g 0).fld 5).num))) :: T59
theorem T37_ok : PSound Tryd.prog (lookR T37) := lookR_cons decode_parts__insnO T59_ok

theorem pinsn_g (a0_w a0_rd a0_f3 a0_rs1 a0_rs2 a0_f7 : Int) (h : iIn a0_f3 8 = true) : decode_parts__insnG a0_w a0_rd a0_f3 a0_rs1 a0_rs2 a0_f7 = true := by
  unfold decode_parts__insnG decode_parts__insn_c0
  rw [reckons_g _ _ _ _ _ _ h, registers_g _ _ _ _ _ _ h, system_g _ _ _ _ _ _ h, h]
  simp only [Go.Ev.cS1, Go.Ev.cS7, Go.Ev.cS6, Bool.cond_self]
/- sallyport/insn.Class -/
def insn_Class0 (a0 : Int) : Int :=
  bif bif iLt a0 1 then true else iLe 70 a0 then 0
  else
    bif iLe a0 4 then 1
    else
      bif iLe a0 10 then 2
      else
        bif iLe a0 17 then 3
        else
          bif iLe a0 21 then 4
          else
            bif iLe a0 34 then 5
            else
              bif iLe a0 49 then 6 else bif iLe a0 51 then 7 else bif iLe a0 53 then 8 else bif iLe a0 59 then 9 else bif iLe a0 62 then 10 else bif iLe a0 65 then 11 else bif iLe a0 69 then 12 else 0
def insn_ClassG (a0 : Int) : Bool :=
  bif bif iLt a0 1 then true else iLe 70 a0 then true
  else
    bif iLe a0 4 then true
    else
      bif iLe a0 10 then true
      else
        bif iLe a0 17 then true
        else
          bif iLe a0 21 then true
          else
            bif iLe a0 34 then true
            else
              bif iLe a0 49 then true
              else bif iLe a0 51 then true else bif iLe a0 53 then true else bif iLe a0 59 then true else bif iLe a0 62 then true else bif iLe a0 65 then true else bif iLe a0 69 then true else true
def insn_ClassV (a0 : Int) : AV := .it .i64 (insn_Class0 a0)
theorem insn_ClassE (g : Nat → AV) : pcOf Tryd.prog okT (lookR T37) (inlO Tryd.prog okT (lookR T37) RO FS 400 ST (hOnce Tryd.prog 67 25 21) 8) RO NOV 100 false Tryd.f38 (norms [(.int .i64)] 0 g) = some (insn_ClassG ((g 0).num), insn_ClassV ((g 0).num)) := by kernel_rfl
theorem insn_ClassP : Plain Tryd.prog 38 Tryd.f38 := ⟨Tryd.func38, of_decide_eq_true (by kernel_rfl)⟩
theorem insn_ClassT (a0 : Int) : insn_ClassG a0 = true := by
  unfold insn_ClassG
  simp only [Go.Ev.cS1, Go.Ev.cS2, Go.Ev.cS3, Go.Ev.cS4, Go.Ev.cS6, Go.Ev.cS7]
theorem insn_ClassO : RowOk Tryd.prog 38 (rowF [(.int .i64)] none fun g => insn_ClassV ((g 0).num)) := rowT_ok fun g => pcOf_ok mix fair T37_ok (inlO_ok mix fair T37_ok FS_ok (fun _ h => hOnce_ok once_ok h) 8) insn_ClassP (fun c _ => OvOk_none c) (insn_ClassE g) (insn_ClassT ((g 0).num))
def T38 : List Row := (38, (rowF [(.int .i64)] none fun g => insn_ClassV ((g 0).num))) :: T37
theorem T38_ok : PSound Tryd.prog (lookR T38) := lookR_cons insn_ClassO T37_ok

theorem iclass_in (op : Int) : 0 ≤ insn_Class0 op ∧ insn_Class0 op < 13 := by
  show (fun x : Int => 0 ≤ x ∧ x < 13) (insn_Class0 op)
  unfold insn_Class0
  repeat' (refine cond_all (p := fun x : Int => 0 ≤ x ∧ x < 13) ?_ ?_)
  all_goals decide
theorem class_zero {op : Int} (h : iEq (insn_Class0 op) 0 = false) : iIn op 70 = true := by
  by_cases hr : 1 ≤ op ∧ op < 70
  · exact iIn_true.2 ⟨by omega, by omega⟩
  · have : (bif iLt op 1 then true else iLe 70 op) = true := by
      cases h1 : iLt op 1 with
      | true => rfl
      | false => rw [cond_false, iLe_true]; rw [iLt_false] at h1; omega
    unfold insn_Class0 at h
    rw [this, cond_true] at h
    cases h
/- sallyport/insn.jumps -/
def insn_jumps0r (a0 : Int) : Bool :=
  bif iEq a0 3 then true else bif iEq a0 4 then true else true
def insn_jumps1r (a0 : Int) : Bool :=
  bif iEq a0 3 then false else bif iEq a0 4 then false else false
def insn_jumps2 (a0 : Int) : Bool :=
  bif iEq a0 3 then false else iEq a0 4
def insn_jumps2r (a0 : Int) : Bool :=
  bif iEq a0 3 then false else bif iEq a0 4 then true else false
def insn_jumps3r (a0 : Int) : Bool :=
  bif iEq a0 3 then false else bif iEq a0 4 then false else false
def insn_jumps4 (a0 : Int) : Int :=
  bif iEq a0 3 then -1048576 else bif iEq a0 4 then -2048 else -2147483648
def insn_jumps5 (a0 : Int) : Int :=
  bif iEq a0 3 then 1048574 else bif iEq a0 4 then 2047 else 2147479552
def insn_jumps6 (a0 : Int) : Int :=
  bif iEq a0 3 then 2 else bif iEq a0 4 then 1 else 4096
def insn_jumpsG (a0 : Int) : Bool :=
  bif iEq a0 3 then true else bif iEq a0 4 then true else true
theorem insn_jumps0_eq (a0 : Int)  : insn_jumps0r a0  = true := by
  unfold insn_jumps0r
  first | (simp only [Go.Ev.cS1, Go.Ev.cS2, Go.Ev.cS3, Go.Ev.cS4, Go.Ev.cS6, Go.Ev.cS7]; done) | (simp only [Go.Ev.cS1, Go.Ev.cS2, Go.Ev.cS3, Go.Ev.cS4, Go.Ev.cS6, Go.Ev.cS7]; kernel_rfl)
theorem insn_jumps1_eq (a0 : Int)  : insn_jumps1r a0  = false := by
  unfold insn_jumps1r
  first | (simp only [Go.Ev.cS1, Go.Ev.cS2, Go.Ev.cS3, Go.Ev.cS4, Go.Ev.cS6, Go.Ev.cS7]; done) | (simp only [Go.Ev.cS1, Go.Ev.cS2, Go.Ev.cS3, Go.Ev.cS4, Go.Ev.cS6, Go.Ev.cS7]; kernel_rfl)
theorem insn_jumps2_eq (a0 : Int)  : insn_jumps2r a0  = insn_jumps2 a0  := by
  unfold insn_jumps2r
  first | (simp only [Go.Ev.cS1, Go.Ev.cS2, Go.Ev.cS3, Go.Ev.cS4, Go.Ev.cS6, Go.Ev.cS7]; done) | (simp only [Go.Ev.cS1, Go.Ev.cS2, Go.Ev.cS3, Go.Ev.cS4, Go.Ev.cS6, Go.Ev.cS7]; kernel_rfl)
theorem insn_jumps3_eq (a0 : Int)  : insn_jumps3r a0  = false := by
  unfold insn_jumps3r
  first | (simp only [Go.Ev.cS1, Go.Ev.cS2, Go.Ev.cS3, Go.Ev.cS4, Go.Ev.cS6, Go.Ev.cS7]; done) | (simp only [Go.Ev.cS1, Go.Ev.cS2, Go.Ev.cS3, Go.Ev.cS4, Go.Ev.cS6, Go.Ev.cS7]; kernel_rfl)
def insn_jumpsV (a0 : Int) : AV := .agg [.bl true, .bl false, .bl (insn_jumps2 a0), .bl false, .it .i64 (insn_jumps4 a0), .it .i64 (insn_jumps5 a0), .it .i64 (insn_jumps6 a0)]
def insn_jumpsVr (a0 : Int) : AV := .agg [.bl (insn_jumps0r a0), .bl (insn_jumps1r a0), .bl (insn_jumps2r a0), .bl (insn_jumps3r a0), .it .i64 (insn_jumps4 a0), .it .i64 (insn_jumps5 a0), .it .i64 (insn_jumps6 a0)]
theorem insn_jumpsV_eq (a0 : Int) : insn_jumpsVr a0 = insn_jumpsV a0 := by
  unfold insn_jumpsVr insn_jumpsV
  simp only [insn_jumps0_eq, insn_jumps1_eq, insn_jumps2_eq, insn_jumps3_eq]
theorem insn_jumpsE (g : Nat → AV) : pcOf Tryd.prog okT (lookR T38) (inlO Tryd.prog okT (lookR T38) RO FS 400 ST (hOnce Tryd.prog 67 25 21) 8) RO NOV 100 false Tryd.f45 (norms [(.int .i64)] 0 g) = some (insn_jumpsG ((g 0).num), insn_jumpsV ((g 0).num)) :=
  (by kernel_rfl : pcOf Tryd.prog okT (lookR T38) (inlO Tryd.prog okT (lookR T38) RO FS 400 ST (hOnce Tryd.prog 67 25 21) 8) RO NOV 100 false Tryd.f45 (norms [(.int .i64)] 0 g) = some (insn_jumpsG ((g 0).num), insn_jumpsVr ((g 0).num))).trans (by rw [insn_jumpsV_eq])
theorem insn_jumpsP : Plain Tryd.prog 45 Tryd.f45 := ⟨Tryd.func45, of_decide_eq_true (by kernel_rfl)⟩
theorem insn_jumpsT (a0 : Int) : insn_jumpsG a0 = true := by
  unfold insn_jumpsG
  simp only [Go.Ev.cS1, Go.Ev.cS2, Go.Ev.cS3, Go.Ev.cS4, Go.Ev.cS6, Go.Ev.cS7]
theorem insn_jumpsO : RowOk Tryd.prog 45 (rowF [(.int .i64)] none fun g => insn_jumpsV ((g 0).num)) := rowT_ok fun g => pcOf_ok mix fair T38_ok (inlO_ok mix fair T38_ok FS_ok (fun _ h => hOnce_ok once_ok h) 8) insn_jumpsP (fun c _ => OvOk_none c) (insn_jumpsE g) (insn_jumpsT ((g 0).num))
def T45 : List Row := (45, (rowF [(.int .i64)] none fun g => insn_jumpsV ((g 0).num))) :: T38
theorem T45_ok : PSound Tryd.prog (lookR T45) := lookR_cons insn_jumpsO T38_ok

/- sallyport/insn.withNumber -/
def insn_withNumber_c0 (a0 : Int) : Bool :=
  bif iEq a0 32 then bif iEq a0 32 then true else true else bif iEq a0 33 then bif iEq a0 33 then true else true else bif iEq a0 34 then true else true
def insn_withNumber_c1 (a0 : Int) : Bool :=
  bif iEq a0 28 then bif iEq a0 28 then true else insn_withNumber_c0 a0 else bif iEq a0 29 then bif iEq a0 29 then true else insn_withNumber_c0 a0 else bif iEq a0 30 then true else insn_withNumber_c0 a0
def insn_withNumber_c2 (a0 : Int) : Bool :=
  bif iEq a0 32 then bif iEq a0 32 then false else false else bif iEq a0 33 then bif iEq a0 33 then false else false else bif iEq a0 34 then false else false
def insn_withNumber_c3 (a0 : Int) : Bool :=
  bif iEq a0 28 then bif iEq a0 28 then false else insn_withNumber_c2 a0
  else bif iEq a0 29 then bif iEq a0 29 then false else insn_withNumber_c2 a0 else bif iEq a0 30 then false else insn_withNumber_c2 a0
def insn_withNumber_c4 (a0 : Int) : Int :=
  bif iEq a0 32 then bif iEq a0 32 then 0 else -2048 else bif iEq a0 33 then bif iEq a0 33 then 0 else -2048 else bif iEq a0 34 then 0 else -2048
def insn_withNumber_c5 (a0 : Int) : Int :=
  bif iEq a0 32 then bif iEq a0 32 then 31 else 2047 else bif iEq a0 33 then bif iEq a0 33 then 31 else 2047 else bif iEq a0 34 then 31 else 2047
def insn_withNumber_c6 (a0 : Int) : Int :=
  bif iEq a0 32 then bif iEq a0 32 then 1 else 1 else bif iEq a0 33 then bif iEq a0 33 then 1 else 1 else bif iEq a0 34 then 1 else 1
def insn_withNumber0r (a0 : Int) : Bool :=
  insn_withNumber_c1 a0
def insn_withNumber1r (a0 : Int) : Bool :=
  insn_withNumber_c3 a0
def insn_withNumber2r (a0 : Int) : Bool :=
  insn_withNumber_c1 a0
def insn_withNumber3r (a0 : Int) : Bool :=
  insn_withNumber_c3 a0
def insn_withNumber4 (a0 : Int) : Int :=
  bif iEq a0 28 then 0 else bif iEq a0 29 then 0 else bif iEq a0 30 then 0 else bif iEq a0 32 then 0 else bif iEq a0 33 then 0 else bif iEq a0 34 then 0 else -2048
def insn_withNumber4r (a0 : Int) : Int :=
  bif iEq a0 28 then bif iEq a0 28 then 0 else insn_withNumber_c4 a0 else bif iEq a0 29 then bif iEq a0 29 then 0 else insn_withNumber_c4 a0 else bif iEq a0 30 then 0 else insn_withNumber_c4 a0
def insn_withNumber5 (a0 : Int) : Int :=
  bif iEq a0 28 then 63 else bif iEq a0 29 then 63 else bif iEq a0 30 then 63 else bif iEq a0 32 then 31 else bif iEq a0 33 then 31 else bif iEq a0 34 then 31 else 2047
def insn_withNumber5r (a0 : Int) : Int :=
  bif iEq a0 28 then bif iEq a0 28 then 63 else insn_withNumber_c5 a0 else bif iEq a0 29 then bif iEq a0 29 then 63 else insn_withNumber_c5 a0 else bif iEq a0 30 then 63 else insn_withNumber_c5 a0
def insn_withNumber6r (a0 : Int) : Int :=
  bif iEq a0 28 then bif iEq a0 28 then 1 else insn_withNumber_c6 a0 else bif iEq a0 29 then bif iEq a0 29 then 1 else insn_withNumber_c6 a0 else bif iEq a0 30 then 1 else insn_withNumber_c6 a0
def insn_withNumberG (a0 : Int) : Bool :=
  insn_withNumber_c1 a0
theorem insn_withNumber0_eq (a0 : Int)  : insn_withNumber0r a0  = true := by
  unfold insn_withNumber0r
  first | (simp only [insn_withNumber_c0, insn_withNumber_c1, insn_withNumber_c2, insn_withNumber_c3, insn_withNumber_c4, insn_withNumber_c5, insn_withNumber_c6, Go.Ev.cS1, Go.Ev.cS2, Go.Ev.cS3, Go.Ev.cS4, Go.Ev.cS6, Go.Ev.cS7]; done) | (simp only [insn_withNumber_c0, insn_withNumber_c1, insn_withNumber_c2, insn_withNumber_c3, insn_withNumber_c4, insn_withNumber_c5, insn_withNumber_c6, Go.Ev.cS1, Go.Ev.cS2, Go.Ev.cS3, Go.Ev.cS4, Go.Ev.cS6, Go.Ev.cS7]; kernel_rfl)
theorem insn_withNumber1_eq (a0 : Int)  : insn_withNumber1r a0  = false := by
  unfold insn_withNumber1r
  first | (simp only [insn_withNumber_c0, insn_withNumber_c1, insn_withNumber_c2, insn_withNumber_c3, insn_withNumber_c4, insn_withNumber_c5, insn_withNumber_c6, Go.Ev.cS1, Go.Ev.cS2, Go.Ev.cS3, Go.Ev.cS4, Go.Ev.cS6, Go.Ev.cS7]; done) | (simp only [insn_withNumber_c0, insn_withNumber_c1, insn_withNumber_c2, insn_withNumber_c3, insn_withNumber_c4, insn_withNumber_c5, insn_withNumber_c6, Go.Ev.cS1, Go.Ev.cS2, Go.Ev.cS3, Go.Ev.cS4, Go.Ev.cS6, Go.Ev.cS7]; kernel_rfl)
theorem insn_withNumber2_eq (a0 : Int)  : insn_withNumber2r a0  = true := by
  unfold insn_withNumber2r
  first | (simp only [insn_withNumber_c0, insn_withNumber_c1, insn_withNumber_c2, insn_withNumber_c3, insn_withNumber_c4, insn_withNumber_c5, insn_withNumber_c6, Go.Ev.cS1, Go.Ev.cS2, Go.Ev.cS3, Go.Ev.cS4, Go.Ev.cS6, Go.Ev.cS7]; done) | (simp only [insn_withNumber_c0, insn_withNumber_c1, insn_withNumber_c2, insn_withNumber_c3, insn_withNumber_c4, insn_withNumber_c5, insn_withNumber_c6, Go.Ev.cS1, Go.Ev.cS2, Go.Ev.cS3, Go.Ev.cS4, Go.Ev.cS6, Go.Ev.cS7]; kernel_rfl)
theorem insn_withNumber3_eq (a0 : Int)  : insn_withNumber3r a0  = false := by
  unfold insn_withNumber3r
  first | (simp only [insn_withNumber_c0, insn_withNumber_c1, insn_withNumber_c2, insn_withNumber_c3, insn_withNumber_c4, insn_withNumber_c5, insn_withNumber_c6, Go.Ev.cS1, Go.Ev.cS2, Go.Ev.cS3, Go.Ev.cS4, Go.Ev.cS6, Go.Ev.cS7]; done) | (simp only [insn_withNumber_c0, insn_withNumber_c1, insn_withNumber_c2, insn_withNumber_c3, insn_withNumber_c4, insn_withNumber_c5, insn_withNumber_c6, Go.Ev.cS1, Go.Ev.cS2, Go.Ev.cS3, Go.Ev.cS4, Go.Ev.cS6, Go.Ev.cS7]; kernel_rfl)
theorem insn_withNumber4_eq (a0 : Int)  : insn_withNumber4r a0  = insn_withNumber4 a0  := by
  unfold insn_withNumber4r
  first | (simp only [insn_withNumber_c0, insn_withNumber_c1, insn_withNumber_c2, insn_withNumber_c3, insn_withNumber_c4, insn_withNumber_c5, insn_withNumber_c6, Go.Ev.cS1, Go.Ev.cS2, Go.Ev.cS3, Go.Ev.cS4, Go.Ev.cS6, Go.Ev.cS7]; done) | (simp only [insn_withNumber_c0, insn_withNumber_c1, insn_withNumber_c2, insn_withNumber_c3, insn_withNumber_c4, insn_withNumber_c5, insn_withNumber_c6, Go.Ev.cS1, Go.Ev.cS2, Go.Ev.cS3, Go.Ev.cS4, Go.Ev.cS6, Go.Ev.cS7]; kernel_rfl)
theorem insn_withNumber5_eq (a0 : Int)  : insn_withNumber5r a0  = insn_withNumber5 a0  := by
  unfold insn_withNumber5r
  first | (simp only [insn_withNumber_c0, insn_withNumber_c1, insn_withNumber_c2, insn_withNumber_c3, insn_withNumber_c4, insn_withNumber_c5, insn_withNumber_c6, Go.Ev.cS1, Go.Ev.cS2, Go.Ev.cS3, Go.Ev.cS4, Go.Ev.cS6, Go.Ev.cS7]; done) | (simp only [insn_withNumber_c0, insn_withNumber_c1, insn_withNumber_c2, insn_withNumber_c3, insn_withNumber_c4, insn_withNumber_c5, insn_withNumber_c6, Go.Ev.cS1, Go.Ev.cS2, Go.Ev.cS3, Go.Ev.cS4, Go.Ev.cS6, Go.Ev.cS7]; kernel_rfl)
theorem insn_withNumber6_eq (a0 : Int)  : insn_withNumber6r a0  = 1 := by
  unfold insn_withNumber6r
  first | (simp only [insn_withNumber_c0, insn_withNumber_c1, insn_withNumber_c2, insn_withNumber_c3, insn_withNumber_c4, insn_withNumber_c5, insn_withNumber_c6, Go.Ev.cS1, Go.Ev.cS2, Go.Ev.cS3, Go.Ev.cS4, Go.Ev.cS6, Go.Ev.cS7]; done) | (simp only [insn_withNumber_c0, insn_withNumber_c1, insn_withNumber_c2, insn_withNumber_c3, insn_withNumber_c4, insn_withNumber_c5, insn_withNumber_c6, Go.Ev.cS1, Go.Ev.cS2, Go.Ev.cS3, Go.Ev.cS4, Go.Ev.cS6, Go.Ev.cS7]; kernel_rfl)
def insn_withNumberV (a0 : Int) : AV := .agg [.bl true, .bl false, .bl true, .bl false, .it .i64 (insn_withNumber4 a0), .it .i64 (insn_withNumber5 a0), .it .i64 1]
def insn_withNumberVr (a0 : Int) : AV := .agg [.bl (insn_withNumber0r a0), .bl (insn_withNumber1r a0), .bl (insn_withNumber2r a0), .bl (insn_withNumber3r a0), .it .i64 (insn_withNumber4r a0), .it .i64 (insn_withNumber5r a0), .it .i64 (insn_withNumber6r a0)]
theorem insn_withNumberV_eq (a0 : Int) : insn_withNumberVr a0 = insn_withNumberV a0 := by
  unfold insn_withNumberVr insn_withNumberV
  simp only [insn_withNumber0_eq, insn_withNumber1_eq, insn_withNumber2_eq, insn_withNumber3_eq, insn_withNumber4_eq, insn_withNumber5_eq, insn_withNumber6_eq]
theorem insn_withNumberE (g : Nat → AV) : pcOf Tryd.prog okT (lookR T45) (inlO Tryd.prog okT (lookR T45) RO FS 400 ST (hOnce Tryd.prog 67 25 21) 8) RO NOV 100 false Tryd.f46 (norms [(.int .i64)] 0 g) = some (insn_withNumberG ((g 0).num), insn_withNumberV ((g 0).num)) :=
  (by kernel_rfl : pcOf Tryd.prog okT (lookR T45) (inlO Tryd.prog okT (lookR T45) RO FS 400 ST (hOnce Tryd.prog 67 25 21) 8) RO NOV 100 false Tryd.f46 (norms [(.int .i64)] 0 g) = some (insn_withNumberG ((g 0).num), insn_withNumberVr ((g 0).num))).trans (by rw [insn_withNumberV_eq])
theorem insn_withNumberP : Plain Tryd.prog 46 Tryd.f46 := ⟨Tryd.func46, of_decide_eq_true (by kernel_rfl)⟩
theorem insn_withNumberT (a0 : Int) : insn_withNumberG a0 = true := by
  unfold insn_withNumberG
  simp only [insn_withNumber_c0, insn_withNumber_c1, insn_withNumber_c2, insn_withNumber_c3, insn_withNumber_c4, insn_withNumber_c5, insn_withNumber_c6, Go.Ev.cS1, Go.Ev.cS2, Go.Ev.cS3, Go.Ev.cS4, Go.Ev.cS6, Go.Ev.cS7]
theorem insn_withNumberO : RowOk Tryd.prog 46 (rowF [(.int .i64)] none fun g => insn_withNumberV ((g 0).num)) := rowT_ok fun g => pcOf_ok mix fair T45_ok (inlO_ok mix fair T45_ok FS_ok (fun _ h => hOnce_ok once_ok h) 8) insn_withNumberP (fun c _ => OvOk_none c) (insn_withNumberE g) (insn_withNumberT ((g 0).num))
def T46 : List Row := (46, (rowF [(.int .i64)] none fun g => insn_withNumberV ((g 0).num))) :: T45
theorem T46_ok : PSound Tryd.prog (lookR T46) := lookR_cons insn_withNumberO T45_ok

/- sallyport/insn.Of -/
def insn_Of_c0 (a0 : Int) : Int :=
  bif iEq (insn_Class0 a0) 11 then 0 else bif iEq (insn_Class0 a0) 12 then bif iEq a0 69 then 0 else 0 else 0
def insn_Of0 (a0 : Int) : Bool :=
  bif iEq (insn_Class0 a0) 1 then true
  else
    bif iEq (insn_Class0 a0) 2 then false
    else
      bif iEq (insn_Class0 a0) 3 then true
      else
        bif iEq (insn_Class0 a0) 4 then false
        else
          bif iEq (insn_Class0 a0) 5 then true
          else
            bif iEq (insn_Class0 a0) 6 then true
            else bif iEq (insn_Class0 a0) 9 then true else bif iEq (insn_Class0 a0) 11 then false else bif iEq (insn_Class0 a0) 12 then bif iEq a0 69 then false else true else false
def insn_Of0r (a0 : Int) : Bool :=
  bif iEq (insn_Class0 a0) 1 then true
  else
    bif iEq (insn_Class0 a0) 2 then false
    else
      bif iEq (insn_Class0 a0) 3 then true
      else
        bif iEq (insn_Class0 a0) 4 then false
        else
          bif iEq (insn_Class0 a0) 5 then true
          else
            bif iEq (insn_Class0 a0) 6 then true
            else
              bif iEq (insn_Class0 a0) 9 then bif iLe 57 a0 then true else true
              else bif iEq (insn_Class0 a0) 11 then false else bif iEq (insn_Class0 a0) 12 then bif iEq a0 69 then false else true else false
def insn_Of1 (a0 : Int) : Bool :=
  bif iEq (insn_Class0 a0) 1 then false
  else
    bif iEq (insn_Class0 a0) 2 then false
    else
      bif iEq (insn_Class0 a0) 3 then false else bif iEq (insn_Class0 a0) 4 then false else bif iEq (insn_Class0 a0) 5 then false else bif iEq (insn_Class0 a0) 6 then false else iEq (insn_Class0 a0) 9
def insn_Of1r (a0 : Int) : Bool :=
  bif iEq (insn_Class0 a0) 1 then false
  else
    bif iEq (insn_Class0 a0) 2 then false
    else
      bif iEq (insn_Class0 a0) 3 then false
      else
        bif iEq (insn_Class0 a0) 4 then false
        else
          bif iEq (insn_Class0 a0) 5 then false
          else
            bif iEq (insn_Class0 a0) 6 then false
            else
              bif iEq (insn_Class0 a0) 9 then bif iLe 57 a0 then true else true
              else bif iEq (insn_Class0 a0) 11 then false else bif iEq (insn_Class0 a0) 12 then bif iEq a0 69 then false else false else false
def insn_Of2 (a0 : Int) : Bool :=
  bif iEq (insn_Class0 a0) 1 then insn_jumps2 a0
  else
    bif iEq (insn_Class0 a0) 2 then true
    else
      bif iEq (insn_Class0 a0) 3 then true
      else
        bif iEq (insn_Class0 a0) 4 then true
        else
          bif iEq (insn_Class0 a0) 5 then true
          else bif iEq (insn_Class0 a0) 6 then true else bif iEq (insn_Class0 a0) 9 then bif iLe 57 a0 then false else true else bif iEq (insn_Class0 a0) 11 then true else iEq (insn_Class0 a0) 12
def insn_Of2r (a0 : Int) : Bool :=
  bif iEq (insn_Class0 a0) 1 then insn_jumps2 a0
  else
    bif iEq (insn_Class0 a0) 2 then true
    else
      bif iEq (insn_Class0 a0) 3 then true
      else
        bif iEq (insn_Class0 a0) 4 then true
        else
          bif iEq (insn_Class0 a0) 5 then true
          else
            bif iEq (insn_Class0 a0) 6 then true
            else
              bif iEq (insn_Class0 a0) 9 then bif iLe 57 a0 then false else true
              else bif iEq (insn_Class0 a0) 11 then true else bif iEq (insn_Class0 a0) 12 then bif iEq a0 69 then true else true else false
def insn_Of3 (a0 : Int) : Bool :=
  bif iEq (insn_Class0 a0) 1 then false
  else
    bif iEq (insn_Class0 a0) 2 then true
    else
      bif iEq (insn_Class0 a0) 3 then false
      else
        bif iEq (insn_Class0 a0) 4 then true
        else
          bif iEq (insn_Class0 a0) 5 then false
          else bif iEq (insn_Class0 a0) 6 then true else bif iEq (insn_Class0 a0) 9 then false else bif iEq (insn_Class0 a0) 11 then true else bif iEq (insn_Class0 a0) 12 then iEq a0 69 else false
def insn_Of3r (a0 : Int) : Bool :=
  bif iEq (insn_Class0 a0) 1 then false
  else
    bif iEq (insn_Class0 a0) 2 then true
    else
      bif iEq (insn_Class0 a0) 3 then false
      else
        bif iEq (insn_Class0 a0) 4 then true
        else
          bif iEq (insn_Class0 a0) 5 then false
          else
            bif iEq (insn_Class0 a0) 6 then true
            else
              bif iEq (insn_Class0 a0) 9 then bif iLe 57 a0 then false else false
              else bif iEq (insn_Class0 a0) 11 then true else bif iEq (insn_Class0 a0) 12 then bif iEq a0 69 then true else false else false
def insn_Of4 (a0 : Int) : Int :=
  bif iEq (insn_Class0 a0) 1 then insn_jumps4 a0
  else bif iEq (insn_Class0 a0) 2 then -4096 else bif iEq (insn_Class0 a0) 3 then -2048 else bif iEq (insn_Class0 a0) 4 then -2048 else bif iEq (insn_Class0 a0) 5 then insn_withNumber4 a0 else 0
def insn_Of4r (a0 : Int) : Int :=
  bif iEq (insn_Class0 a0) 1 then insn_jumps4 a0
  else
    bif iEq (insn_Class0 a0) 2 then -4096
    else
      bif iEq (insn_Class0 a0) 3 then -2048
      else
        bif iEq (insn_Class0 a0) 4 then -2048
        else bif iEq (insn_Class0 a0) 5 then insn_withNumber4 a0 else bif iEq (insn_Class0 a0) 6 then 0 else bif iEq (insn_Class0 a0) 9 then bif iLe 57 a0 then 0 else 0 else insn_Of_c0 a0
def insn_Of5 (a0 : Int) : Int :=
  bif iEq (insn_Class0 a0) 1 then insn_jumps5 a0
  else
    bif iEq (insn_Class0 a0) 2 then 4094
    else
      bif iEq (insn_Class0 a0) 3 then 2047
      else
        bif iEq (insn_Class0 a0) 4 then 2047
        else bif iEq (insn_Class0 a0) 5 then insn_withNumber5 a0 else bif iEq (insn_Class0 a0) 6 then 0 else bif iEq (insn_Class0 a0) 9 then bif iLe 57 a0 then 31 else 0 else 0
def insn_Of5r (a0 : Int) : Int :=
  bif iEq (insn_Class0 a0) 1 then insn_jumps5 a0
  else
    bif iEq (insn_Class0 a0) 2 then 4094
    else
      bif iEq (insn_Class0 a0) 3 then 2047
      else
        bif iEq (insn_Class0 a0) 4 then 2047
        else bif iEq (insn_Class0 a0) 5 then insn_withNumber5 a0 else bif iEq (insn_Class0 a0) 6 then 0 else bif iEq (insn_Class0 a0) 9 then bif iLe 57 a0 then 31 else 0 else insn_Of_c0 a0
def insn_Of6 (a0 : Int) : Int :=
  bif iEq (insn_Class0 a0) 1 then insn_jumps6 a0
  else
    bif iEq (insn_Class0 a0) 2 then 2
    else
      bif iEq (insn_Class0 a0) 3 then 1
      else bif iEq (insn_Class0 a0) 4 then 1 else bif iEq (insn_Class0 a0) 5 then 1 else bif iEq (insn_Class0 a0) 6 then 0 else bif iEq (insn_Class0 a0) 9 then bif iLe 57 a0 then 1 else 0 else 0
def insn_Of6r (a0 : Int) : Int :=
  bif iEq (insn_Class0 a0) 1 then insn_jumps6 a0
  else
    bif iEq (insn_Class0 a0) 2 then 2
    else
      bif iEq (insn_Class0 a0) 3 then 1
      else
        bif iEq (insn_Class0 a0) 4 then 1
        else bif iEq (insn_Class0 a0) 5 then 1 else bif iEq (insn_Class0 a0) 6 then 0 else bif iEq (insn_Class0 a0) 9 then bif iLe 57 a0 then 1 else 0 else insn_Of_c0 a0
def insn_OfG (a0 : Int) : Bool :=
  bif iEq (insn_Class0 a0) 1 then true
  else
    bif iEq (insn_Class0 a0) 2 then true
    else
      bif iEq (insn_Class0 a0) 3 then true
      else
        bif iEq (insn_Class0 a0) 4 then true
        else
          bif iEq (insn_Class0 a0) 5 then true
          else
            bif iEq (insn_Class0 a0) 6 then true
            else
              bif iEq (insn_Class0 a0) 9 then bif iLe 57 a0 then true else true
              else bif iEq (insn_Class0 a0) 11 then true else bif iEq (insn_Class0 a0) 12 then bif iEq a0 69 then true else true else true
theorem insn_Of0_eq (a0 : Int)  : insn_Of0r a0  = insn_Of0 a0  := by
  unfold insn_Of0r
  first | (simp only [insn_Of_c0, Go.Ev.cS1, Go.Ev.cS2, Go.Ev.cS3, Go.Ev.cS4, Go.Ev.cS6, Go.Ev.cS7]; done) | (simp only [insn_Of_c0, Go.Ev.cS1, Go.Ev.cS2, Go.Ev.cS3, Go.Ev.cS4, Go.Ev.cS6, Go.Ev.cS7]; kernel_rfl)
theorem insn_Of1_eq (a0 : Int)  : insn_Of1r a0  = insn_Of1 a0  := by
  unfold insn_Of1r
  first | (simp only [insn_Of_c0, Go.Ev.cS1, Go.Ev.cS2, Go.Ev.cS3, Go.Ev.cS4, Go.Ev.cS6, Go.Ev.cS7]; done) | (simp only [insn_Of_c0, Go.Ev.cS1, Go.Ev.cS2, Go.Ev.cS3, Go.Ev.cS4, Go.Ev.cS6, Go.Ev.cS7]; kernel_rfl)
theorem insn_Of2_eq (a0 : Int)  : insn_Of2r a0  = insn_Of2 a0  := by
  unfold insn_Of2r
  first | (simp only [insn_Of_c0, Go.Ev.cS1, Go.Ev.cS2, Go.Ev.cS3, Go.Ev.cS4, Go.Ev.cS6, Go.Ev.cS7]; done) | (simp only [insn_Of_c0, Go.Ev.cS1, Go.Ev.cS2, Go.Ev.cS3, Go.Ev.cS4, Go.Ev.cS6, Go.Ev.cS7]; kernel_rfl)
theorem insn_Of3_eq (a0 : Int)  : insn_Of3r a0  = insn_Of3 a0  := by
  unfold insn_Of3r
  first | (simp only [insn_Of_c0, Go.Ev.cS1, Go.Ev.cS2, Go.Ev.cS3, Go.Ev.cS4, Go.Ev.cS6, Go.Ev.cS7]; done) | (simp only [insn_Of_c0, Go.Ev.cS1, Go.Ev.cS2, Go.Ev.cS3, Go.Ev.cS4, Go.Ev.cS6, Go.Ev.cS7]; kernel_rfl)
theorem insn_Of4_eq (a0 : Int)  : insn_Of4r a0  = insn_Of4 a0  := by
  unfold insn_Of4r
  first | (simp only [insn_Of_c0, Go.Ev.cS1, Go.Ev.cS2, Go.Ev.cS3, Go.Ev.cS4, Go.Ev.cS6, Go.Ev.cS7]; done) | (simp only [insn_Of_c0, Go.Ev.cS1, Go.Ev.cS2, Go.Ev.cS3, Go.Ev.cS4, Go.Ev.cS6, Go.Ev.cS7]; kernel_rfl)
theorem insn_Of5_eq (a0 : Int)  : insn_Of5r a0  = insn_Of5 a0  := by
  unfold insn_Of5r
  first | (simp only [insn_Of_c0, Go.Ev.cS1, Go.Ev.cS2, Go.Ev.cS3, Go.Ev.cS4, Go.Ev.cS6, Go.Ev.cS7]; done) | (simp only [insn_Of_c0, Go.Ev.cS1, Go.Ev.cS2, Go.Ev.cS3, Go.Ev.cS4, Go.Ev.cS6, Go.Ev.cS7]; kernel_rfl)
theorem insn_Of6_eq (a0 : Int)  : insn_Of6r a0  = insn_Of6 a0  := by
  unfold insn_Of6r
  first | (simp only [insn_Of_c0, Go.Ev.cS1, Go.Ev.cS2, Go.Ev.cS3, Go.Ev.cS4, Go.Ev.cS6, Go.Ev.cS7]; done) | (simp only [insn_Of_c0, Go.Ev.cS1, Go.Ev.cS2, Go.Ev.cS3, Go.Ev.cS4, Go.Ev.cS6, Go.Ev.cS7]; kernel_rfl)
def insn_OfV (a0 : Int) : AV := .agg [.bl (insn_Of0 a0), .bl (insn_Of1 a0), .bl (insn_Of2 a0), .bl (insn_Of3 a0), .it .i64 (insn_Of4 a0), .it .i64 (insn_Of5 a0), .it .i64 (insn_Of6 a0)]
def insn_OfVr (a0 : Int) : AV := .agg [.bl (insn_Of0r a0), .bl (insn_Of1r a0), .bl (insn_Of2r a0), .bl (insn_Of3r a0), .it .i64 (insn_Of4r a0), .it .i64 (insn_Of5r a0), .it .i64 (insn_Of6r a0)]
theorem insn_OfV_eq (a0 : Int) : insn_OfVr a0 = insn_OfV a0 := by
  unfold insn_OfVr insn_OfV
  simp only [insn_Of0_eq, insn_Of1_eq, insn_Of2_eq, insn_Of3_eq, insn_Of4_eq, insn_Of5_eq, insn_Of6_eq]
theorem insn_OfE (g : Nat → AV) : pcOf Tryd.prog okT (lookR T46) (inlO Tryd.prog okT (lookR T46) RO FS 400 ST (hOnce Tryd.prog 67 25 21) 8) RO NOV 100 false Tryd.f24 (norms [(.int .i64)] 0 g) = some (insn_OfG ((g 0).num), insn_OfV ((g 0).num)) :=
  (by kernel_rfl : pcOf Tryd.prog okT (lookR T46) (inlO Tryd.prog okT (lookR T46) RO FS 400 ST (hOnce Tryd.prog 67 25 21) 8) RO NOV 100 false Tryd.f24 (norms [(.int .i64)] 0 g) = some (insn_OfG ((g 0).num), insn_OfVr ((g 0).num))).trans (by rw [insn_OfV_eq])
theorem insn_OfP : Plain Tryd.prog 24 Tryd.f24 := ⟨Tryd.func24, of_decide_eq_true (by kernel_rfl)⟩
theorem insn_OfT (a0 : Int) : insn_OfG a0 = true := by
  unfold insn_OfG
  simp only [insn_Of_c0, Go.Ev.cS1, Go.Ev.cS2, Go.Ev.cS3, Go.Ev.cS4, Go.Ev.cS6, Go.Ev.cS7]
theorem insn_OfO : RowOk Tryd.prog 24 (rowF [(.int .i64)] none fun g => insn_OfV ((g 0).num)) := rowT_ok fun g => pcOf_ok mix fair T46_ok (inlO_ok mix fair T46_ok FS_ok (fun _ h => hOnce_ok once_ok h) 8) insn_OfP (fun c _ => OvOk_none c) (insn_OfE g) (insn_OfT ((g 0).num))
def T24 : List Row := (24, (rowF [(.int .i64)] none fun g => insn_OfV ((g 0).num))) :: T46
theorem T24_ok : PSound Tryd.prog (lookR T24) := lookR_cons insn_OfO T46_ok

/- sallyport/insn.field -/
def insn_field0 (a0 : Bool) (a1 : Int) (a2 : Int) : Bool :=
  bif iEq a1 0 then true else bif bif a0 then iLt 0 a1 else false then iLt a1 a2 else false
def insn_fieldG (a0 : Bool) (a1 : Int) (a2 : Int) : Bool :=
  true
def insn_fieldV (a0 : Bool) (a1 : Int) (a2 : Int) : AV := .bl (insn_field0 a0 a1 a2)
theorem insn_fieldE (g : Nat → AV) : pcOf Tryd.prog okT (lookR T24) (inlO Tryd.prog okT (lookR T24) RO FS 400 ST (hOnce Tryd.prog 67 25 21) 8) RO NOV 100 false Tryd.f39 (norms [.bool, (.int .i64), (.int .i64)] 0 g) = some (insn_fieldG ((g 0).bool) ((g 1).num) ((g 2).num), insn_fieldV ((g 0).bool) ((g 1).num) ((g 2).num)) := by kernel_rfl
theorem insn_fieldP : Plain Tryd.prog 39 Tryd.f39 := ⟨Tryd.func39, of_decide_eq_true (by kernel_rfl)⟩
theorem insn_fieldT (a0 : Bool) (a1 : Int) (a2 : Int) : insn_fieldG a0 a1 a2 = true := rfl
theorem insn_fieldO : RowOk Tryd.prog 39 (rowF [.bool, (.int .i64), (.int .i64)] none fun g => insn_fieldV ((g 0).bool) ((g 1).num) ((g 2).num)) := rowT_ok fun g => pcOf_ok mix fair T24_ok (inlO_ok mix fair T24_ok FS_ok (fun _ h => hOnce_ok once_ok h) 8) insn_fieldP (fun c _ => OvOk_none c) (insn_fieldE g) (insn_fieldT ((g 0).bool) ((g 1).num) ((g 2).num))
def T39 : List Row := (39, (rowF [.bool, (.int .i64), (.int .i64)] none fun g => insn_fieldV ((g 0).bool) ((g 1).num) ((g 2).num))) :: T24
theorem T39_ok : PSound Tryd.prog (lookR T39) := lookR_cons insn_fieldO T24_ok

/- sallyport/insn.Is -/
def insn_Is0 (a0_Op : Int) (a0_Rd : Int) (a0_Rs1 : Int) (a0_Rs2 : Int) (a0_Imm : Int) (a0_CSR : Int) : Bool :=
  bif iEq (insn_Class0 a0_Op) 0 then false
  else
    bif
        bif bif iEq (insn_Of6 a0_Op) 0 then iNe a0_Imm 0 else false then true
        else bif iLt 0 (insn_Of6 a0_Op) then bif bif iLt a0_Imm (insn_Of4 a0_Op) then true else iLt (insn_Of5 a0_Op) a0_Imm then true else iNe (iRem a0_Imm (insn_Of6 a0_Op)) 0 else false then
      false
    else
      bif bif bif insn_field0 (insn_Of0 a0_Op) a0_Rd 32 then insn_field0 (insn_Of2 a0_Op) a0_Rs1 32 else false then insn_field0 (insn_Of3 a0_Op) a0_Rs2 32 else false then
        insn_field0 (insn_Of1 a0_Op) a0_CSR 4096
      else false
def insn_IsG (a0_Op : Int) (a0_Rd : Int) (a0_Rs1 : Int) (a0_Rs2 : Int) (a0_Imm : Int) (a0_CSR : Int) : Bool :=
  bif iEq (insn_Class0 a0_Op) 0 then true
  else
    (!((!bif iEq (insn_Of6 a0_Op) 0 then iNe a0_Imm 0 else false) && iLt 0 (insn_Of6 a0_Op) && !bif iLt a0_Imm (insn_Of4 a0_Op) then true else iLt (insn_Of5 a0_Op) a0_Imm) || iNe (insn_Of6 a0_Op) 0) &&
      bif
          bif bif iEq (insn_Of6 a0_Op) 0 then iNe a0_Imm 0 else false then true
          else bif iLt 0 (insn_Of6 a0_Op) then bif bif iLt a0_Imm (insn_Of4 a0_Op) then true else iLt (insn_Of5 a0_Op) a0_Imm then true else iNe (iRem a0_Imm (insn_Of6 a0_Op)) 0 else false then
        true
      else true
def insn_IsV (a0_Op : Int) (a0_Rd : Int) (a0_Rs1 : Int) (a0_Rs2 : Int) (a0_Imm : Int) (a0_CSR : Int) : AV := .bl (insn_Is0 a0_Op a0_Rd a0_Rs1 a0_Rs2 a0_Imm a0_CSR)
theorem insn_IsE (g : Nat → AV) : pcOf Tryd.prog okT (lookR T39) (inlO Tryd.prog okT (lookR T39) RO FS 400 ST (hOnce Tryd.prog 67 25 21) 8) RO NOV 100 false Tryd.f17 (norms [(.agg [(.int .i64), (.int .i64), (.int .i64), (.int .i64), (.int .i64), (.int .i64)])] 0 g) = some (insn_IsG (((g 0).fld 0).num) (((g 0).fld 1).num) (((g 0).fld 2).num) (((g 0).fld 3).num) (((g 0).fld 4).num) (((g 0).fld 5).num), insn_IsV (((g 0).fld 0).num) (((g 0).fld 1).num) (((g 0).fld 2).num) (((g 0).fld 3).num) (((g 0).fld 4).num) (((g 0).fld 5).num)) := by kernel_rfl
theorem insn_IsP : Plain Tryd.prog 17 Tryd.f17 := ⟨Tryd.func17, of_decide_eq_true (by kernel_rfl)⟩
theorem insn_IsT (a0_Op : Int) (a0_Rd : Int) (a0_Rs1 : Int) (a0_Rs2 : Int) (a0_Imm : Int) (a0_CSR : Int) : insn_IsG a0_Op a0_Rd a0_Rs1 a0_Rs2 a0_Imm a0_CSR = true := by first | (simp [insn_IsG]; done) | (simp [insn_IsG, Go.Ev.iEq, Go.Ev.iNe, Go.Ev.iLt, Go.Ev.iLe, Go.Ev.iIn]; omega)
theorem insn_IsO : RowOk Tryd.prog 17 (rowF [(.agg [(.int .i64), (.int .i64), (.int .i64), (.int .i64), (.int .i64), (.int .i64)])] none fun g => insn_IsV (((g 0).fld 0).num) (((g 0).fld 1).num) (((g 0).fld 2).num) (((g 0).fld 3).num) (((g 0).fld 4).num) (((g 0).fld 5).num)) := rowT_ok fun g => pcOf_ok mix fair T39_ok (inlO_ok mix fair T39_ok FS_ok (fun _ h => hOnce_ok once_ok h) 8) insn_IsP (fun c _ => OvOk_none c) (insn_IsE g) (insn_IsT (((g 0).fld 0).num) (((g 0).fld 1).num) (((g 0).fld 2).num) (((g 0).fld 3).num) (((g 0).fld 4).num) (((g 0).fld 5).num))
def T17 : List Row := (17, (rowF [(.agg [(.int .i64), (.int .i64), (.int .i64), (.int .i64), (.int .i64), (.int .i64)])] none fun g => insn_IsV (((g 0).fld 0).num) (((g 0).fld 1).num) (((g 0).fld 2).num) (((g 0).fld 3).num) (((g 0).fld 4).num) (((g 0).fld 5).num))) :: T39
theorem T17_ok : PSound Tryd.prog (lookR T17) := lookR_cons insn_IsO T39_ok

theorem iis_op {a b c d e f : Int} (h : insn_Is0 a b c d e f = true) : iIn a 70 = true := by
  refine class_zero ?_
  cases h1 : iEq (insn_Class0 a) 0 with
  | false => rfl
  | true =>
    unfold insn_Is0 at h
    rw [h1, cond_true] at h
    cases h
/- sallyport/decode.Decode -/
def decode_Decode_c0 (a0 : Int) : Bool :=
  bif !decode_parts__insn6 a0 (decode_of0 a0) (decode_of1 a0) (decode_of2 a0) (decode_of3 a0) (decode_of4 a0) then true
  else
    !insn_Is0 (decode_parts__insn0 a0 (decode_of0 a0) (decode_of1 a0) (decode_of2 a0) (decode_of3 a0) (decode_of4 a0))
        (decode_parts__insn1 a0 (decode_of0 a0) (decode_of1 a0) (decode_of2 a0) (decode_of3 a0) (decode_of4 a0))
        (decode_parts__insn2 a0 (decode_of0 a0) (decode_of1 a0) (decode_of2 a0) (decode_of3 a0) (decode_of4 a0))
        (decode_parts__insn3 a0 (decode_of0 a0) (decode_of1 a0) (decode_of2 a0) (decode_of3 a0) (decode_of4 a0))
        (decode_parts__insn4 a0 (decode_of0 a0) (decode_of1 a0) (decode_of2 a0) (decode_of3 a0) (decode_of4 a0))
        (decode_parts__insn5 a0 (decode_of0 a0) (decode_of1 a0) (decode_of2 a0) (decode_of3 a0) (decode_of4 a0))
def decode_Decode0 (a0 : Int) : Int :=
  bif decode_Decode_c0 a0 then 0 else decode_parts__insn0 a0 (decode_of0 a0) (decode_of1 a0) (decode_of2 a0) (decode_of3 a0) (decode_of4 a0)
def decode_Decode1 (a0 : Int) : Int :=
  bif decode_Decode_c0 a0 then 0 else decode_parts__insn1 a0 (decode_of0 a0) (decode_of1 a0) (decode_of2 a0) (decode_of3 a0) (decode_of4 a0)
def decode_Decode2 (a0 : Int) : Int :=
  bif decode_Decode_c0 a0 then 0 else decode_parts__insn2 a0 (decode_of0 a0) (decode_of1 a0) (decode_of2 a0) (decode_of3 a0) (decode_of4 a0)
def decode_Decode3 (a0 : Int) : Int :=
  bif decode_Decode_c0 a0 then 0 else decode_parts__insn3 a0 (decode_of0 a0) (decode_of1 a0) (decode_of2 a0) (decode_of3 a0) (decode_of4 a0)
def decode_Decode4 (a0 : Int) : Int :=
  bif decode_Decode_c0 a0 then 0 else decode_parts__insn4 a0 (decode_of0 a0) (decode_of1 a0) (decode_of2 a0) (decode_of3 a0) (decode_of4 a0)
def decode_Decode5 (a0 : Int) : Int :=
  bif decode_Decode_c0 a0 then 0 else decode_parts__insn5 a0 (decode_of0 a0) (decode_of1 a0) (decode_of2 a0) (decode_of3 a0) (decode_of4 a0)
def decode_Decode6 (a0 : Int) : Int :=
  bif decode_Decode_c0 a0 then 40 else 0
def decode_DecodeG (a0 : Int) : Bool :=
  decode_parts__insnG a0 (decode_of0 a0) (decode_of1 a0) (decode_of2 a0) (decode_of3 a0) (decode_of4 a0) && bif decode_Decode_c0 a0 then true else true
def decode_DecodeV (a0 : Int) : AV := .tup [.agg [.it .i64 (decode_Decode0 a0), .it .i64 (decode_Decode1 a0), .it .i64 (decode_Decode2 a0), .it .i64 (decode_Decode3 a0), .it .i64 (decode_Decode4 a0), .it .i64 (decode_Decode5 a0)], .it .i64 (decode_Decode6 a0)]
theorem decode_DecodeE (g : Nat → AV) : pcOf Tryd.prog okT (lookR T17) (inlO Tryd.prog okT (lookR T17) RO FS 400 ST (hOnce Tryd.prog 67 25 21) 8) RO NOV 100 false Tryd.f16 (norms [(.int .u32)] 0 g) = some (decode_DecodeG ((g 0).num), decode_DecodeV ((g 0).num)) := by kernel_rfl
theorem decode_DecodeP : Plain Tryd.prog 16 Tryd.f16 := ⟨Tryd.func16, of_decide_eq_true (by kernel_rfl)⟩
theorem decode_DecodeT (a0 : Int) : decode_DecodeG a0 = true := by
  unfold decode_DecodeG
  rw [pinsn_g _ _ _ _ _ _ (of1_in a0)]
  simp [Go.Ev.cS1]
theorem decode_DecodeO : RowOk Tryd.prog 16 (rowF [(.int .u32)] none fun g => decode_DecodeV ((g 0).num)) := rowT_ok fun g => pcOf_ok mix fair T17_ok (inlO_ok mix fair T17_ok FS_ok (fun _ h => hOnce_ok once_ok h) 8) decode_DecodeP (fun c _ => OvOk_none c) (decode_DecodeE g) (decode_DecodeT ((g 0).num))
def T16 : List Row := (16, (rowF [(.int .u32)] none fun g => decode_DecodeV ((g 0).num))) :: T17
theorem T16_ok : PSound Tryd.prog (lookR T16) := lookR_cons decode_DecodeO T17_ok

end
end Go.Proofs.YtngaeiceicgalaaDoor.PV
