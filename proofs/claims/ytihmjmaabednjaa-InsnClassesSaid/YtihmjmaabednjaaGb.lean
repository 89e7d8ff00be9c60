/-
  What functions of the program and of the document yield, evaluated (sallyportlaw2.known .. sallyportlaw2.InsnClasses). Printed by a program of the prover's own (wip/prt).
-/
import Derived.Test.YtihmjmaabednjaaRows
import Derived.Test.YtihmjmaabednjaaEvW
import Derived.Test.YtihmjmaabednjaaGa
set_option linter.unusedVariables false
set_option linter.unusedSimpArgs false
namespace Go.Proofs.Ytihmjmaabednjaa.PV
noncomputable section
open Go Go.Ev
/- sallyport/sallyportlaw2.known -/
def sallyportlaw2_knownG  : Bool :=
  true
def sallyportlaw2_knownV  : AV := .bl true
theorem sallyportlaw2_knownE (g : Nat → AV) : pcOf Try.prog okT (lookR T30) (inlO Try.prog okT (lookR T30) RO FS 400 ST (hOnce Try.prog 41 55 21) 8) RO NOV 100 true Try.f24 (norms [] 0 g) = some (sallyportlaw2_knownG , sallyportlaw2_knownV ) := by kernel_rfl
theorem sallyportlaw2_knownP : Plain Try.prog 24 Try.f24 := ⟨Try.func24, of_decide_eq_true (by kernel_rfl)⟩
theorem sallyportlaw2_knownT  : sallyportlaw2_knownG  = true := rfl
theorem sallyportlaw2_knownO : RowOk Try.prog 24 (rowF [] none fun g => sallyportlaw2_knownV ) := rowT_ok fun g => pcOf_ok mix fair T30_ok (inlO_ok mix fair T30_ok FS_ok (fun _ h => hOnce_ok once_ok h) 8) sallyportlaw2_knownP (fun c _ => OvOk_none c) (sallyportlaw2_knownE g) (sallyportlaw2_knownT )
def T24 : List Row := (24, (rowF [] none fun g => sallyportlaw2_knownV )) :: T30
theorem T24_ok : PSound Try.prog (lookR T24) := lookR_cons sallyportlaw2_knownO T30_ok

/- sallyport/sallyportref3.Class -/
def sallyportref3_Class0 (a0 : Int) : Int :=
  bif bif iLt a0 1 then true else iLe 70 a0 then 0
  else
    bif iLe a0 4 then 1
    else
      bif iLe a0 10 then 2
      else
        bif iLe a0 17 then 3
        else
          bif iLe a0 21 then 4
          else bif iLe a0 34 then 5 else bif iLe a0 49 then 6 else bif iLe a0 51 then 7 else bif iLe a0 53 then 8 else bif iLe a0 59 then 9 else bif iLe a0 62 then 10 else bif iLe a0 65 then 11 else 12
def sallyportref3_ClassG (a0 : Int) : Bool :=
  bif bif iLt a0 1 then true else iLe 70 a0 then true
  else
    bif iLe a0 4 then true
    else
      bif iLe a0 10 then true
      else
        bif iLe a0 17 then true
        else
          bif iLe a0 21 then true
          else
            bif iLe a0 34 then true
            else bif iLe a0 49 then true else bif iLe a0 51 then true else bif iLe a0 53 then true else bif iLe a0 59 then true else bif iLe a0 62 then true else bif iLe a0 65 then true else true
def sallyportref3_ClassV (a0 : Int) : AV := .it .i64 (sallyportref3_Class0 a0)
theorem sallyportref3_ClassE (g : Nat → AV) : pcOf Try.prog okT (lookR T24) (inlO Try.prog okT (lookR T24) RO FS 400 ST (hOnce Try.prog 41 55 21) 8) RO NOV 100 false Try.f12 (norms [(.int .i64)] 0 g) = some (sallyportref3_ClassG ((g 0).num), sallyportref3_ClassV ((g 0).num)) := by kernel_rfl
theorem sallyportref3_ClassP : Plain Try.prog 12 Try.f12 := ⟨Try.func12, of_decide_eq_true (by kernel_rfl)⟩
theorem sallyportref3_ClassT (a0 : Int) : sallyportref3_ClassG a0 = true := by
  unfold sallyportref3_ClassG
  simp only [Go.Ev.cS1, Go.Ev.cS2, Go.Ev.cS3, Go.Ev.cS4, Go.Ev.cS6, Go.Ev.cS7]
theorem sallyportref3_ClassO : RowOk Try.prog 12 (rowF [(.int .i64)] none fun g => sallyportref3_ClassV ((g 0).num)) := rowT_ok fun g => pcOf_ok mix fair T24_ok (inlO_ok mix fair T24_ok FS_ok (fun _ h => hOnce_ok once_ok h) 8) sallyportref3_ClassP (fun c _ => OvOk_none c) (sallyportref3_ClassE g) (sallyportref3_ClassT ((g 0).num))
def T12 : List Row := (12, (rowF [(.int .i64)] none fun g => sallyportref3_ClassV ((g 0).num))) :: T24
theorem T12_ok : PSound Try.prog (lookR T12) := lookR_cons sallyportref3_ClassO T24_ok

/- sallyport/sallyportref3.Parts -/
def sallyportref3_Parts_c0 (a0 : Int) : Bool :=
  bif iEq (sallyportref3_Class0 a0) 3 then
    bif iEq (sallyportref3_Class0 a0) 3 then true
    else
      bif iEq (sallyportref3_Class0 a0) 6 then true
      else bif iEq (sallyportref3_Class0 a0) 9 then true else bif iEq (sallyportref3_Class0 a0) 11 then true else bif iEq (sallyportref3_Class0 a0) 12 then true else true
  else
    bif iEq (sallyportref3_Class0 a0) 5 then true
    else
      bif iEq (sallyportref3_Class0 a0) 6 then true
      else bif iEq (sallyportref3_Class0 a0) 9 then true else bif iEq (sallyportref3_Class0 a0) 11 then true else bif iEq (sallyportref3_Class0 a0) 12 then true else true
def sallyportref3_Parts_c1 (a0 : Int) : Bool :=
  bif iEq (sallyportref3_Class0 a0) 6 then true
  else bif iEq (sallyportref3_Class0 a0) 9 then true else bif iEq (sallyportref3_Class0 a0) 11 then false else bif iEq (sallyportref3_Class0 a0) 12 then iNe a0 69 else false
def sallyportref3_Parts_c2 (a0 : Int) : Bool :=
  bif iEq (sallyportref3_Class0 a0) 5 then true else sallyportref3_Parts_c1 a0
def sallyportref3_Parts_c3 (a0 : Int) : Bool :=
  bif iEq (sallyportref3_Class0 a0) 3 then bif iEq (sallyportref3_Class0 a0) 3 then true else sallyportref3_Parts_c1 a0 else sallyportref3_Parts_c2 a0
def sallyportref3_Parts_c4 (a0 : Int) : Bool :=
  bif iEq (sallyportref3_Class0 a0) 6 then true
  else bif iEq (sallyportref3_Class0 a0) 9 then !iLe 57 a0 else bif iEq (sallyportref3_Class0 a0) 11 then true else bif iEq (sallyportref3_Class0 a0) 12 then true else false
def sallyportref3_Parts_c5 (a0 : Int) : Bool :=
  bif iEq (sallyportref3_Class0 a0) 3 then bif iEq (sallyportref3_Class0 a0) 3 then true else sallyportref3_Parts_c4 a0 else bif iEq (sallyportref3_Class0 a0) 5 then true else sallyportref3_Parts_c4 a0
def sallyportref3_Parts_c6 (a0 : Int) : Bool :=
  bif iEq (sallyportref3_Class0 a0) 6 then true
  else bif iEq (sallyportref3_Class0 a0) 9 then false else bif iEq (sallyportref3_Class0 a0) 11 then true else bif iEq (sallyportref3_Class0 a0) 12 then iEq a0 69 else false
def sallyportref3_Parts_c7 (a0 : Int) : Bool :=
  bif iEq (sallyportref3_Class0 a0) 5 then false else sallyportref3_Parts_c6 a0
def sallyportref3_Parts_c8 (a0 : Int) : Bool :=
  bif iEq (sallyportref3_Class0 a0) 3 then bif iEq (sallyportref3_Class0 a0) 3 then false else sallyportref3_Parts_c6 a0 else sallyportref3_Parts_c7 a0
def sallyportref3_Parts_c9 (a0 : Int) : Bool :=
  bif iEq (sallyportref3_Class0 a0) 3 then
    bif iEq (sallyportref3_Class0 a0) 3 then false
    else
      bif iEq (sallyportref3_Class0 a0) 6 then false
      else bif iEq (sallyportref3_Class0 a0) 9 then true else bif iEq (sallyportref3_Class0 a0) 11 then false else bif iEq (sallyportref3_Class0 a0) 12 then false else false
  else
    bif iEq (sallyportref3_Class0 a0) 5 then false
    else
      bif iEq (sallyportref3_Class0 a0) 6 then false
      else bif iEq (sallyportref3_Class0 a0) 9 then true else bif iEq (sallyportref3_Class0 a0) 11 then false else bif iEq (sallyportref3_Class0 a0) 12 then false else false
def sallyportref3_Parts_c10 (a0 : Int) : Bool :=
  bif iEq (sallyportref3_Class0 a0) 6 then false
  else bif iEq (sallyportref3_Class0 a0) 9 then iLe 57 a0 else bif iEq (sallyportref3_Class0 a0) 11 then false else bif iEq (sallyportref3_Class0 a0) 12 then false else false
def sallyportref3_Parts_c11 (a0 : Int) : Bool :=
  bif iEq (sallyportref3_Class0 a0) 3 then bif iEq (sallyportref3_Class0 a0) 3 then true else sallyportref3_Parts_c10 a0
  else bif iEq (sallyportref3_Class0 a0) 5 then true else sallyportref3_Parts_c10 a0
def sallyportref3_Parts0 (a0 : Int) : Bool :=
  bif iEq (sallyportref3_Class0 a0) 1 then true
  else bif iEq (sallyportref3_Class0 a0) 2 then false else bif iEq (sallyportref3_Class0 a0) 4 then false else bif iEq (sallyportref3_Class0 a0) 3 then true else sallyportref3_Parts_c2 a0
def sallyportref3_Parts0r (a0 : Int) : Bool :=
  bif iEq (sallyportref3_Class0 a0) 1 then true
  else
    bif iEq (sallyportref3_Class0 a0) 2 then bif iEq (sallyportref3_Class0 a0) 2 then false else sallyportref3_Parts_c3 a0
    else bif iEq (sallyportref3_Class0 a0) 4 then false else sallyportref3_Parts_c3 a0
def sallyportref3_Parts1 (a0 : Int) : Bool :=
  bif iEq (sallyportref3_Class0 a0) 1 then iEq a0 4
  else
    bif iEq (sallyportref3_Class0 a0) 2 then true
    else
      bif iEq (sallyportref3_Class0 a0) 4 then true
      else
        bif iEq (sallyportref3_Class0 a0) 3 then true
        else
          bif iEq (sallyportref3_Class0 a0) 5 then true
          else
            bif iEq (sallyportref3_Class0 a0) 6 then true
            else bif iEq (sallyportref3_Class0 a0) 9 then !iLe 57 a0 else bif iEq (sallyportref3_Class0 a0) 11 then true else iEq (sallyportref3_Class0 a0) 12
def sallyportref3_Parts1r (a0 : Int) : Bool :=
  bif iEq (sallyportref3_Class0 a0) 1 then iEq a0 4
  else
    bif iEq (sallyportref3_Class0 a0) 2 then bif iEq (sallyportref3_Class0 a0) 2 then true else sallyportref3_Parts_c5 a0
    else bif iEq (sallyportref3_Class0 a0) 4 then true else sallyportref3_Parts_c5 a0
def sallyportref3_Parts2 (a0 : Int) : Bool :=
  bif iEq (sallyportref3_Class0 a0) 1 then false
  else bif iEq (sallyportref3_Class0 a0) 2 then true else bif iEq (sallyportref3_Class0 a0) 4 then true else bif iEq (sallyportref3_Class0 a0) 3 then false else sallyportref3_Parts_c7 a0
def sallyportref3_Parts2r (a0 : Int) : Bool :=
  bif iEq (sallyportref3_Class0 a0) 1 then false
  else
    bif iEq (sallyportref3_Class0 a0) 2 then bif iEq (sallyportref3_Class0 a0) 2 then true else sallyportref3_Parts_c8 a0
    else bif iEq (sallyportref3_Class0 a0) 4 then true else sallyportref3_Parts_c8 a0
def sallyportref3_Parts3 (a0 : Int) : Bool :=
  bif iEq (sallyportref3_Class0 a0) 1 then false
  else
    bif iEq (sallyportref3_Class0 a0) 2 then false
    else
      bif iEq (sallyportref3_Class0 a0) 4 then false
      else bif iEq (sallyportref3_Class0 a0) 3 then false else bif iEq (sallyportref3_Class0 a0) 5 then false else bif iEq (sallyportref3_Class0 a0) 6 then false else iEq (sallyportref3_Class0 a0) 9
def sallyportref3_Parts3r (a0 : Int) : Bool :=
  bif iEq (sallyportref3_Class0 a0) 1 then false
  else
    bif iEq (sallyportref3_Class0 a0) 2 then bif iEq (sallyportref3_Class0 a0) 2 then false else sallyportref3_Parts_c9 a0
    else bif iEq (sallyportref3_Class0 a0) 4 then false else sallyportref3_Parts_c9 a0
def sallyportref3_Parts4 (a0 : Int) : Bool :=
  bif iEq (sallyportref3_Class0 a0) 1 then true
  else
    bif iEq (sallyportref3_Class0 a0) 2 then true
    else
      bif iEq (sallyportref3_Class0 a0) 4 then true
      else
        bif iEq (sallyportref3_Class0 a0) 3 then true
        else bif iEq (sallyportref3_Class0 a0) 5 then true else bif iEq (sallyportref3_Class0 a0) 6 then false else bif iEq (sallyportref3_Class0 a0) 9 then iLe 57 a0 else false
def sallyportref3_Parts4r (a0 : Int) : Bool :=
  bif iEq (sallyportref3_Class0 a0) 1 then true
  else
    bif iEq (sallyportref3_Class0 a0) 2 then bif iEq (sallyportref3_Class0 a0) 2 then true else sallyportref3_Parts_c11 a0
    else bif iEq (sallyportref3_Class0 a0) 4 then true else sallyportref3_Parts_c11 a0
def sallyportref3_PartsG (a0 : Int) : Bool :=
  bif iEq (sallyportref3_Class0 a0) 1 then true
  else
    bif iEq (sallyportref3_Class0 a0) 2 then bif iEq (sallyportref3_Class0 a0) 2 then true else sallyportref3_Parts_c0 a0
    else bif iEq (sallyportref3_Class0 a0) 4 then true else sallyportref3_Parts_c0 a0
theorem sallyportref3_Parts0_eq (a0 : Int)  : sallyportref3_Parts0r a0  = sallyportref3_Parts0 a0  := by
  unfold sallyportref3_Parts0r
  first | (simp only [sallyportref3_Parts_c0, sallyportref3_Parts_c1, sallyportref3_Parts_c2, sallyportref3_Parts_c3, sallyportref3_Parts_c4, sallyportref3_Parts_c5, sallyportref3_Parts_c6, sallyportref3_Parts_c7, sallyportref3_Parts_c8, sallyportref3_Parts_c9, sallyportref3_Parts_c10, sallyportref3_Parts_c11, Go.Ev.cS1, Go.Ev.cS2, Go.Ev.cS3, Go.Ev.cS4, Go.Ev.cS6, Go.Ev.cS7]; done) | (simp only [sallyportref3_Parts_c0, sallyportref3_Parts_c1, sallyportref3_Parts_c2, sallyportref3_Parts_c3, sallyportref3_Parts_c4, sallyportref3_Parts_c5, sallyportref3_Parts_c6, sallyportref3_Parts_c7, sallyportref3_Parts_c8, sallyportref3_Parts_c9, sallyportref3_Parts_c10, sallyportref3_Parts_c11, Go.Ev.cS1, Go.Ev.cS2, Go.Ev.cS3, Go.Ev.cS4, Go.Ev.cS6, Go.Ev.cS7]; kernel_rfl)
theorem sallyportref3_Parts1_eq (a0 : Int)  : sallyportref3_Parts1r a0  = sallyportref3_Parts1 a0  := by
  unfold sallyportref3_Parts1r
  first | (simp only [sallyportref3_Parts_c0, sallyportref3_Parts_c1, sallyportref3_Parts_c2, sallyportref3_Parts_c3, sallyportref3_Parts_c4, sallyportref3_Parts_c5, sallyportref3_Parts_c6, sallyportref3_Parts_c7, sallyportref3_Parts_c8, sallyportref3_Parts_c9, sallyportref3_Parts_c10, sallyportref3_Parts_c11, Go.Ev.cS1, Go.Ev.cS2, Go.Ev.cS3, Go.Ev.cS4, Go.Ev.cS6, Go.Ev.cS7]; done) | (simp only [sallyportref3_Parts_c0, sallyportref3_Parts_c1, sallyportref3_Parts_c2, sallyportref3_Parts_c3, sallyportref3_Parts_c4, sallyportref3_Parts_c5, sallyportref3_Parts_c6, sallyportref3_Parts_c7, sallyportref3_Parts_c8, sallyportref3_Parts_c9, sallyportref3_Parts_c10, sallyportref3_Parts_c11, Go.Ev.cS1, Go.Ev.cS2, Go.Ev.cS3, Go.Ev.cS4, Go.Ev.cS6, Go.Ev.cS7]; kernel_rfl)
theorem sallyportref3_Parts2_eq (a0 : Int)  : sallyportref3_Parts2r a0  = sallyportref3_Parts2 a0  := by
  unfold sallyportref3_Parts2r
  first | (simp only [sallyportref3_Parts_c0, sallyportref3_Parts_c1, sallyportref3_Parts_c2, sallyportref3_Parts_c3, sallyportref3_Parts_c4, sallyportref3_Parts_c5, sallyportref3_Parts_c6, sallyportref3_Parts_c7, sallyportref3_Parts_c8, sallyportref3_Parts_c9, sallyportref3_Parts_c10, sallyportref3_Parts_c11, Go.Ev.cS1, Go.Ev.cS2, Go.Ev.cS3, Go.Ev.cS4, Go.Ev.cS6, Go.Ev.cS7]; done) | (simp only [sallyportref3_Parts_c0, sallyportref3_Parts_c1, sallyportref3_Parts_c2, sallyportref3_Parts_c3, sallyportref3_Parts_c4, sallyportref3_Parts_c5, sallyportref3_Parts_c6, sallyportref3_Parts_c7, sallyportref3_Parts_c8, sallyportref3_Parts_c9, sallyportref3_Parts_c10, sallyportref3_Parts_c11, Go.Ev.cS1, Go.Ev.cS2, Go.Ev.cS3, Go.Ev.cS4, Go.Ev.cS6, Go.Ev.cS7]; kernel_rfl)
theorem sallyportref3_Parts3_eq (a0 : Int)  : sallyportref3_Parts3r a0  = sallyportref3_Parts3 a0  := by
  unfold sallyportref3_Parts3r
  first | (simp only [sallyportref3_Parts_c0, sallyportref3_Parts_c1, sallyportref3_Parts_c2, sallyportref3_Parts_c3, sallyportref3_Parts_c4, sallyportref3_Parts_c5, sallyportref3_Parts_c6, sallyportref3_Parts_c7, sallyportref3_Parts_c8, sallyportref3_Parts_c9, sallyportref3_Parts_c10, sallyportref3_Parts_c11, Go.Ev.cS1, Go.Ev.cS2, Go.Ev.cS3, Go.Ev.cS4, Go.Ev.cS6, Go.Ev.cS7]; done) | (simp only [sallyportref3_Parts_c0, sallyportref3_Parts_c1, sallyportref3_Parts_c2, sallyportref3_Parts_c3, sallyportref3_Parts_c4, sallyportref3_Parts_c5, sallyportref3_Parts_c6, sallyportref3_Parts_c7, sallyportref3_Parts_c8, sallyportref3_Parts_c9, sallyportref3_Parts_c10, sallyportref3_Parts_c11, Go.Ev.cS1, Go.Ev.cS2, Go.Ev.cS3, Go.Ev.cS4, Go.Ev.cS6, Go.Ev.cS7]; kernel_rfl)
theorem sallyportref3_Parts4_eq (a0 : Int)  : sallyportref3_Parts4r a0  = sallyportref3_Parts4 a0  := by
  unfold sallyportref3_Parts4r
  first | (simp only [sallyportref3_Parts_c0, sallyportref3_Parts_c1, sallyportref3_Parts_c2, sallyportref3_Parts_c3, sallyportref3_Parts_c4, sallyportref3_Parts_c5, sallyportref3_Parts_c6, sallyportref3_Parts_c7, sallyportref3_Parts_c8, sallyportref3_Parts_c9, sallyportref3_Parts_c10, sallyportref3_Parts_c11, Go.Ev.cS1, Go.Ev.cS2, Go.Ev.cS3, Go.Ev.cS4, Go.Ev.cS6, Go.Ev.cS7]; done) | (simp only [sallyportref3_Parts_c0, sallyportref3_Parts_c1, sallyportref3_Parts_c2, sallyportref3_Parts_c3, sallyportref3_Parts_c4, sallyportref3_Parts_c5, sallyportref3_Parts_c6, sallyportref3_Parts_c7, sallyportref3_Parts_c8, sallyportref3_Parts_c9, sallyportref3_Parts_c10, sallyportref3_Parts_c11, Go.Ev.cS1, Go.Ev.cS2, Go.Ev.cS3, Go.Ev.cS4, Go.Ev.cS6, Go.Ev.cS7]; kernel_rfl)
def sallyportref3_PartsV (a0 : Int) : AV := .tup [.bl (sallyportref3_Parts0 a0), .bl (sallyportref3_Parts1 a0), .bl (sallyportref3_Parts2 a0), .bl (sallyportref3_Parts3 a0), .bl (sallyportref3_Parts4 a0)]
def sallyportref3_PartsVr (a0 : Int) : AV := .tup [.bl (sallyportref3_Parts0r a0), .bl (sallyportref3_Parts1r a0), .bl (sallyportref3_Parts2r a0), .bl (sallyportref3_Parts3r a0), .bl (sallyportref3_Parts4r a0)]
theorem sallyportref3_PartsV_eq (a0 : Int) : sallyportref3_PartsVr a0 = sallyportref3_PartsV a0 := by
  unfold sallyportref3_PartsVr sallyportref3_PartsV
  simp only [sallyportref3_Parts0_eq, sallyportref3_Parts1_eq, sallyportref3_Parts2_eq, sallyportref3_Parts3_eq, sallyportref3_Parts4_eq]
theorem sallyportref3_PartsE (g : Nat → AV) : pcOf Try.prog okT (lookR T12) (inlO Try.prog okT (lookR T12) RO FS 400 ST (hOnce Try.prog 41 55 21) 8) RO NOV 100 false Try.f34 (norms [(.int .i64)] 0 g) = some (sallyportref3_PartsG ((g 0).num), sallyportref3_PartsV ((g 0).num)) :=
  (by kernel_rfl : pcOf Try.prog okT (lookR T12) (inlO Try.prog okT (lookR T12) RO FS 400 ST (hOnce Try.prog 41 55 21) 8) RO NOV 100 false Try.f34 (norms [(.int .i64)] 0 g) = some (sallyportref3_PartsG ((g 0).num), sallyportref3_PartsVr ((g 0).num))).trans (by rw [sallyportref3_PartsV_eq])
theorem sallyportref3_PartsP : Plain Try.prog 34 Try.f34 := ⟨Try.func34, of_decide_eq_true (by kernel_rfl)⟩
theorem sallyportref3_PartsT (a0 : Int) : sallyportref3_PartsG a0 = true := by
  unfold sallyportref3_PartsG
  simp only [sallyportref3_Parts_c0, sallyportref3_Parts_c1, sallyportref3_Parts_c2, sallyportref3_Parts_c3, sallyportref3_Parts_c4, sallyportref3_Parts_c5, sallyportref3_Parts_c6, sallyportref3_Parts_c7, sallyportref3_Parts_c8, sallyportref3_Parts_c9, sallyportref3_Parts_c10, sallyportref3_Parts_c11, Go.Ev.cS1, Go.Ev.cS2, Go.Ev.cS3, Go.Ev.cS4, Go.Ev.cS6, Go.Ev.cS7]
theorem sallyportref3_PartsO : RowOk Try.prog 34 (rowF [(.int .i64)] none fun g => sallyportref3_PartsV ((g 0).num)) := rowT_ok fun g => pcOf_ok mix fair T12_ok (inlO_ok mix fair T12_ok FS_ok (fun _ h => hOnce_ok once_ok h) 8) sallyportref3_PartsP (fun c _ => OvOk_none c) (sallyportref3_PartsE g) (sallyportref3_PartsT ((g 0).num))
def T34 : List Row := (34, (rowF [(.int .i64)] none fun g => sallyportref3_PartsV ((g 0).num))) :: T12
theorem T34_ok : PSound Try.prog (lookR T34) := lookR_cons sallyportref3_PartsO T12_ok

/- sallyport/sallyportref3.reg -/
def sallyportref3_reg0 (a0 : Int) (a1 : Bool) : Bool :=
  bif iEq a0 0 then true else bif bif a1 then iLt 0 a0 else false then iLt a0 32 else false
def sallyportref3_regG (a0 : Int) (a1 : Bool) : Bool :=
  true
def sallyportref3_regV (a0 : Int) (a1 : Bool) : AV := .bl (sallyportref3_reg0 a0 a1)
theorem sallyportref3_regE (g : Nat → AV) : pcOf Try.prog okT (lookR T34) (inlO Try.prog okT (lookR T34) RO FS 400 ST (hOnce Try.prog 41 55 21) 8) RO NOV 100 false Try.f35 (norms [(.int .i64), .bool] 0 g) = some (sallyportref3_regG ((g 0).num) ((g 1).bool), sallyportref3_regV ((g 0).num) ((g 1).bool)) := by kernel_rfl
theorem sallyportref3_regP : Plain Try.prog 35 Try.f35 := ⟨Try.func35, of_decide_eq_true (by kernel_rfl)⟩
theorem sallyportref3_regT (a0 : Int) (a1 : Bool) : sallyportref3_regG a0 a1 = true := rfl
theorem sallyportref3_regO : RowOk Try.prog 35 (rowF [(.int .i64), .bool] none fun g => sallyportref3_regV ((g 0).num) ((g 1).bool)) := rowT_ok fun g => pcOf_ok mix fair T34_ok (inlO_ok mix fair T34_ok FS_ok (fun _ h => hOnce_ok once_ok h) 8) sallyportref3_regP (fun c _ => OvOk_none c) (sallyportref3_regE g) (sallyportref3_regT ((g 0).num) ((g 1).bool))
def T35 : List Row := (35, (rowF [(.int .i64), .bool] none fun g => sallyportref3_regV ((g 0).num) ((g 1).bool))) :: T34
theorem T35_ok : PSound Try.prog (lookR T35) := lookR_cons sallyportref3_regO T34_ok

/- sallyport/sallyportref3.within -/
def sallyportref3_within0 (a0 : Int) (a1 : Int) (a2 : Int) (a3 : Int) : Bool :=
  bif bif iLe a1 a0 then iLe a0 a2 else false then iEq (iRem a0 a3) 0 else false
def sallyportref3_withinG (a0 : Int) (a1 : Int) (a2 : Int) (a3 : Int) : Bool :=
  ((!bif iLe a1 a0 then iLe a0 a2 else false) || iNe a3 0) && true
def sallyportref3_withinV (a0 : Int) (a1 : Int) (a2 : Int) (a3 : Int) : AV := .bl (sallyportref3_within0 a0 a1 a2 a3)
theorem sallyportref3_withinE (g : Nat → AV) : pcOf Try.prog okT (lookR T35) (inlO Try.prog okT (lookR T35) RO FS 400 ST (hOnce Try.prog 41 55 21) 8) RO NOV 100 false Try.f40 (norms [(.int .i64), (.int .i64), (.int .i64), (.int .i64)] 0 g) = some (sallyportref3_withinG ((g 0).num) ((g 1).num) ((g 2).num) ((g 3).num), sallyportref3_withinV ((g 0).num) ((g 1).num) ((g 2).num) ((g 3).num)) := by kernel_rfl
theorem sallyportref3_withinP : Plain Try.prog 40 Try.f40 := ⟨Try.func40, of_decide_eq_true (by kernel_rfl)⟩
theorem sallyportref3_withinO : RowOk Try.prog 40 (rowF [(.int .i64), (.int .i64), (.int .i64), (.int .i64)] (some fun g => sallyportref3_withinG ((g 0).num) ((g 1).num) ((g 2).num) ((g 3).num)) fun g => sallyportref3_withinV ((g 0).num) ((g 1).num) ((g 2).num) ((g 3).num)) := rowF_ok fun g hg => pcOf_ok mix fair T35_ok (inlO_ok mix fair T35_ok FS_ok (fun _ h => hOnce_ok once_ok h) 8) sallyportref3_withinP (fun c _ => OvOk_none c) (sallyportref3_withinE g) hg
def T40 : List Row := (40, (rowF [(.int .i64), (.int .i64), (.int .i64), (.int .i64)] (some fun g => sallyportref3_withinG ((g 0).num) ((g 1).num) ((g 2).num) ((g 3).num)) fun g => sallyportref3_withinV ((g 0).num) ((g 1).num) ((g 2).num) ((g 3).num))) :: T35
theorem T40_ok : PSound Try.prog (lookR T40) := lookR_cons sallyportref3_withinO T35_ok

/- sallyport/sallyportref3.number -/
def sallyportref3_number0 (a0_Op : Int) (a0_Rd : Int) (a0_Rs1 : Int) (a0_Rs2 : Int) (a0_Imm : Int) (a0_CSR : Int) : Bool :=
  bif iLe a0_Op 2 then sallyportref3_within0 a0_Imm (-2147483648) 2147479552 4096
  else
    bif iEq a0_Op 3 then sallyportref3_within0 a0_Imm (-1048576) 1048574 2
    else
      bif iEq (sallyportref3_Class0 a0_Op) 2 then sallyportref3_within0 a0_Imm (-4096) 4094 2
      else
        bif bif iLe 28 a0_Op then iLe a0_Op 30 else false then sallyportref3_within0 a0_Imm 0 63 1
        else
          bif bif bif iLe 32 a0_Op then iLe a0_Op 34 else false then true else iEq (sallyportref3_Class0 a0_Op) 9 then sallyportref3_within0 a0_Imm 0 31 1
          else sallyportref3_within0 a0_Imm (-2048) 2047 1
def sallyportref3_numberG (a0_Op : Int) (a0_Rd : Int) (a0_Rs1 : Int) (a0_Rs2 : Int) (a0_Imm : Int) (a0_CSR : Int) : Bool :=
  bif iLe a0_Op 2 then sallyportref3_withinG a0_Imm (-2147483648) 2147479552 4096 && true
  else
    bif iEq a0_Op 3 then sallyportref3_withinG a0_Imm (-1048576) 1048574 2 && true
    else
      bif iEq (sallyportref3_Class0 a0_Op) 2 then sallyportref3_withinG a0_Imm (-4096) 4094 2 && true
      else
        bif bif iLe 28 a0_Op then iLe a0_Op 30 else false then sallyportref3_withinG a0_Imm 0 63 1 && true
        else
          bif bif bif iLe 32 a0_Op then iLe a0_Op 34 else false then true else iEq (sallyportref3_Class0 a0_Op) 9 then sallyportref3_withinG a0_Imm 0 31 1 && true
          else sallyportref3_withinG a0_Imm (-2048) 2047 1 && true
def sallyportref3_numberV (a0_Op : Int) (a0_Rd : Int) (a0_Rs1 : Int) (a0_Rs2 : Int) (a0_Imm : Int) (a0_CSR : Int) : AV := .bl (sallyportref3_number0 a0_Op a0_Rd a0_Rs1 a0_Rs2 a0_Imm a0_CSR)
theorem sallyportref3_numberE (g : Nat → AV) : pcOf Try.prog okT (lookR T40) (inlO Try.prog okT (lookR T40) RO FS 400 ST (hOnce Try.prog 41 55 21) 8) RO NOV 100 false Try.f36 (norms [(.agg [(.int .i64), (.int .i64), (.int .i64), (.int .i64), (.int .i64), (.int .i64)])] 0 g) = some (sallyportref3_numberG (((g 0).fld 0).num) (((g 0).fld 1).num) (((g 0).fld 2).num) (((g 0).fld 3).num) (((g 0).fld 4).num) (((g 0).fld 5).num), sallyportref3_numberV (((g 0).fld 0).num) (((g 0).fld 1).num) (((g 0).fld 2).num) (((g 0).fld 3).num) (((g 0).fld 4).num) (((g 0).fld 5).num)) := by kernel_rfl
theorem sallyportref3_numberP : Plain Try.prog 36 Try.f36 := ⟨Try.func36, of_decide_eq_true (by kernel_rfl)⟩
theorem sallyportref3_numberT (a0_Op : Int) (a0_Rd : Int) (a0_Rs1 : Int) (a0_Rs2 : Int) (a0_Imm : Int) (a0_CSR : Int) : sallyportref3_numberG a0_Op a0_Rd a0_Rs1 a0_Rs2 a0_Imm a0_CSR = true := by simp [sallyportref3_numberG, sallyportref3_withinG, Go.Ev.iNe]
theorem sallyportref3_numberO : RowOk Try.prog 36 (rowF [(.agg [(.int .i64), (.int .i64), (.int .i64), (.int .i64), (.int .i64), (.int .i64)])] none fun g => sallyportref3_numberV (((g 0).fld 0).num) (((g 0).fld 1).num) (((g 0).fld 2).num) (((g 0).fld 3).num) (((g 0).fld 4).num) (((g 0).fld 5).num)) := rowT_ok fun g => pcOf_ok mix fair T40_ok (inlO_ok mix fair T40_ok FS_ok (fun _ h => hOnce_ok once_ok h) 8) sallyportref3_numberP (fun c _ => OvOk_none c) (sallyportref3_numberE g) (sallyportref3_numberT (((g 0).fld 0).num) (((g 0).fld 1).num) (((g 0).fld 2).num) (((g 0).fld 3).num) (((g 0).fld 4).num) (((g 0).fld 5).num))
def T36 : List Row := (36, (rowF [(.agg [(.int .i64), (.int .i64), (.int .i64), (.int .i64), (.int .i64), (.int .i64)])] none fun g => sallyportref3_numberV (((g 0).fld 0).num) (((g 0).fld 1).num) (((g 0).fld 2).num) (((g 0).fld 3).num) (((g 0).fld 4).num) (((g 0).fld 5).num))) :: T40
theorem T36_ok : PSound Try.prog (lookR T36) := lookR_cons sallyportref3_numberO T40_ok

/- sallyport/sallyportref3.Is -/
def sallyportref3_Is0 (a0_Op : Int) (a0_Rd : Int) (a0_Rs1 : Int) (a0_Rs2 : Int) (a0_Imm : Int) (a0_CSR : Int) : Bool :=
  bif iEq (sallyportref3_Class0 a0_Op) 0 then false
  else
    bif
        bif
            bif bif !sallyportref3_reg0 a0_Rd (sallyportref3_Parts0 a0_Op) then true else !sallyportref3_reg0 a0_Rs1 (sallyportref3_Parts1 a0_Op) then true
            else !sallyportref3_reg0 a0_Rs2 (sallyportref3_Parts2 a0_Op) then
          true
        else bif iNe a0_CSR 0 then bif bif !sallyportref3_Parts3 a0_Op then true else iLt a0_CSR 0 then true else iLt 4095 a0_CSR else false then
      false
    else bif !sallyportref3_Parts4 a0_Op then iEq a0_Imm 0 else sallyportref3_number0 a0_Op a0_Rd a0_Rs1 a0_Rs2 a0_Imm a0_CSR
def sallyportref3_IsG (a0_Op : Int) (a0_Rd : Int) (a0_Rs1 : Int) (a0_Rs2 : Int) (a0_Imm : Int) (a0_CSR : Int) : Bool :=
  bif iEq (sallyportref3_Class0 a0_Op) 0 then true
  else
    bif
        bif
            bif bif !sallyportref3_reg0 a0_Rd (sallyportref3_Parts0 a0_Op) then true else !sallyportref3_reg0 a0_Rs1 (sallyportref3_Parts1 a0_Op) then true
            else !sallyportref3_reg0 a0_Rs2 (sallyportref3_Parts2 a0_Op) then
          true
        else bif iNe a0_CSR 0 then bif bif !sallyportref3_Parts3 a0_Op then true else iLt a0_CSR 0 then true else iLt 4095 a0_CSR else false then
      true
    else bif !sallyportref3_Parts4 a0_Op then true else true
def sallyportref3_IsV (a0_Op : Int) (a0_Rd : Int) (a0_Rs1 : Int) (a0_Rs2 : Int) (a0_Imm : Int) (a0_CSR : Int) : AV := .bl (sallyportref3_Is0 a0_Op a0_Rd a0_Rs1 a0_Rs2 a0_Imm a0_CSR)
theorem sallyportref3_IsE (g : Nat → AV) : pcOf Try.prog okT (lookR T36) (inlO Try.prog okT (lookR T36) RO FS 400 ST (hOnce Try.prog 41 55 21) 8) RO NOV 100 false Try.f26 (norms [(.agg [(.int .i64), (.int .i64), (.int .i64), (.int .i64), (.int .i64), (.int .i64)])] 0 g) = some (sallyportref3_IsG (((g 0).fld 0).num) (((g 0).fld 1).num) (((g 0).fld 2).num) (((g 0).fld 3).num) (((g 0).fld 4).num) (((g 0).fld 5).num), sallyportref3_IsV (((g 0).fld 0).num) (((g 0).fld 1).num) (((g 0).fld 2).num) (((g 0).fld 3).num) (((g 0).fld 4).num) (((g 0).fld 5).num)) := by kernel_rfl
theorem sallyportref3_IsP : Plain Try.prog 26 Try.f26 := ⟨Try.func26, of_decide_eq_true (by kernel_rfl)⟩
theorem sallyportref3_IsT (a0_Op : Int) (a0_Rd : Int) (a0_Rs1 : Int) (a0_Rs2 : Int) (a0_Imm : Int) (a0_CSR : Int) : sallyportref3_IsG a0_Op a0_Rd a0_Rs1 a0_Rs2 a0_Imm a0_CSR = true := by
  unfold sallyportref3_IsG
  simp only [Go.Ev.cS1, Go.Ev.cS2, Go.Ev.cS3, Go.Ev.cS4, Go.Ev.cS6, Go.Ev.cS7]
theorem sallyportref3_IsO : RowOk Try.prog 26 (rowF [(.agg [(.int .i64), (.int .i64), (.int .i64), (.int .i64), (.int .i64), (.int .i64)])] none fun g => sallyportref3_IsV (((g 0).fld 0).num) (((g 0).fld 1).num) (((g 0).fld 2).num) (((g 0).fld 3).num) (((g 0).fld 4).num) (((g 0).fld 5).num)) := rowT_ok fun g => pcOf_ok mix fair T36_ok (inlO_ok mix fair T36_ok FS_ok (fun _ h => hOnce_ok once_ok h) 8) sallyportref3_IsP (fun c _ => OvOk_none c) (sallyportref3_IsE g) (sallyportref3_IsT (((g 0).fld 0).num) (((g 0).fld 1).num) (((g 0).fld 2).num) (((g 0).fld 3).num) (((g 0).fld 4).num) (((g 0).fld 5).num))
def T26 : List Row := (26, (rowF [(.agg [(.int .i64), (.int .i64), (.int .i64), (.int .i64), (.int .i64), (.int .i64)])] none fun g => sallyportref3_IsV (((g 0).fld 0).num) (((g 0).fld 1).num) (((g 0).fld 2).num) (((g 0).fld 3).num) (((g 0).fld 4).num) (((g 0).fld 5).num))) :: T36
theorem T26_ok : PSound Try.prog (lookR T26) := lookR_cons sallyportref3_IsO T36_ok

/- sallyport/sallyportref3.Reads -/
def sallyportref3_Reads0 (a0_Op : Int) (a0_Rd : Int) (a0_Rs1 : Int) (a0_Rs2 : Int) (a0_Imm : Int) (a0_CSR : Int) : Int :=
  bif !sallyportref3_Is0 a0_Op a0_Rd a0_Rs1 a0_Rs2 a0_Imm a0_CSR then 0 else a0_Rs1
def sallyportref3_Reads1 (a0_Op : Int) (a0_Rd : Int) (a0_Rs1 : Int) (a0_Rs2 : Int) (a0_Imm : Int) (a0_CSR : Int) : Int :=
  bif !sallyportref3_Is0 a0_Op a0_Rd a0_Rs1 a0_Rs2 a0_Imm a0_CSR then 0 else a0_Rs2
def sallyportref3_ReadsG (a0_Op : Int) (a0_Rd : Int) (a0_Rs1 : Int) (a0_Rs2 : Int) (a0_Imm : Int) (a0_CSR : Int) : Bool :=
  bif !sallyportref3_Is0 a0_Op a0_Rd a0_Rs1 a0_Rs2 a0_Imm a0_CSR then true else true
def sallyportref3_ReadsV (a0_Op : Int) (a0_Rd : Int) (a0_Rs1 : Int) (a0_Rs2 : Int) (a0_Imm : Int) (a0_CSR : Int) : AV := .tup [.it .i64 (sallyportref3_Reads0 a0_Op a0_Rd a0_Rs1 a0_Rs2 a0_Imm a0_CSR), .it .i64 (sallyportref3_Reads1 a0_Op a0_Rd a0_Rs1 a0_Rs2 a0_Imm a0_CSR)]
theorem sallyportref3_ReadsE (g : Nat → AV) : pcOf Try.prog okT (lookR T26) (inlO Try.prog okT (lookR T26) RO FS 400 ST (hOnce Try.prog 41 55 21) 8) RO NOV 100 false Try.f20 (norms [(.agg [(.int .i64), (.int .i64), (.int .i64), (.int .i64), (.int .i64), (.int .i64)])] 0 g) = some (sallyportref3_ReadsG (((g 0).fld 0).num) (((g 0).fld 1).num) (((g 0).fld 2).num) (((g 0).fld 3).num) (((g 0).fld 4).num) (((g 0).fld 5).num), sallyportref3_ReadsV (((g 0).fld 0).num) (((g 0).fld 1).num) (((g 0).fld 2).num) (((g 0).fld 3).num) (((g 0).fld 4).num) (((g 0).fld 5).num)) := by kernel_rfl
theorem sallyportref3_ReadsP : Plain Try.prog 20 Try.f20 := ⟨Try.func20, of_decide_eq_true (by kernel_rfl)⟩
theorem sallyportref3_ReadsT (a0_Op : Int) (a0_Rd : Int) (a0_Rs1 : Int) (a0_Rs2 : Int) (a0_Imm : Int) (a0_CSR : Int) : sallyportref3_ReadsG a0_Op a0_Rd a0_Rs1 a0_Rs2 a0_Imm a0_CSR = true := by
  unfold sallyportref3_ReadsG
  simp only [Go.Ev.cS1, Go.Ev.cS2, Go.Ev.cS3, Go.Ev.cS4, Go.Ev.cS6, Go.Ev.cS7]
theorem sallyportref3_ReadsO : RowOk Try.prog 20 (rowF [(.agg [(.int .i64), (.int .i64), (.int .i64), (.int .i64), (.int .i64), (.int .i64)])] none fun g => sallyportref3_ReadsV (((g 0).fld 0).num) (((g 0).fld 1).num) (((g 0).fld 2).num) (((g 0).fld 3).num) (((g 0).fld 4).num) (((g 0).fld 5).num)) := rowT_ok fun g => pcOf_ok mix fair T26_ok (inlO_ok mix fair T26_ok FS_ok (fun _ h => hOnce_ok once_ok h) 8) sallyportref3_ReadsP (fun c _ => OvOk_none c) (sallyportref3_ReadsE g) (sallyportref3_ReadsT (((g 0).fld 0).num) (((g 0).fld 1).num) (((g 0).fld 2).num) (((g 0).fld 3).num) (((g 0).fld 4).num) (((g 0).fld 5).num))
def T20 : List Row := (20, (rowF [(.agg [(.int .i64), (.int .i64), (.int .i64), (.int .i64), (.int .i64), (.int .i64)])] none fun g => sallyportref3_ReadsV (((g 0).fld 0).num) (((g 0).fld 1).num) (((g 0).fld 2).num) (((g 0).fld 3).num) (((g 0).fld 4).num) (((g 0).fld 5).num))) :: T26
theorem T20_ok : PSound Try.prog (lookR T20) := lookR_cons sallyportref3_ReadsO T26_ok

/- sallyport/sallyportref3.Writes -/
def sallyportref3_Writes0 (a0_Op : Int) (a0_Rd : Int) (a0_Rs1 : Int) (a0_Rs2 : Int) (a0_Imm : Int) (a0_CSR : Int) : Int :=
  bif !sallyportref3_Is0 a0_Op a0_Rd a0_Rs1 a0_Rs2 a0_Imm a0_CSR then 0 else a0_Rd
def sallyportref3_WritesG (a0_Op : Int) (a0_Rd : Int) (a0_Rs1 : Int) (a0_Rs2 : Int) (a0_Imm : Int) (a0_CSR : Int) : Bool :=
  bif !sallyportref3_Is0 a0_Op a0_Rd a0_Rs1 a0_Rs2 a0_Imm a0_CSR then true else true
def sallyportref3_WritesV (a0_Op : Int) (a0_Rd : Int) (a0_Rs1 : Int) (a0_Rs2 : Int) (a0_Imm : Int) (a0_CSR : Int) : AV := .it .i64 (sallyportref3_Writes0 a0_Op a0_Rd a0_Rs1 a0_Rs2 a0_Imm a0_CSR)
theorem sallyportref3_WritesE (g : Nat → AV) : pcOf Try.prog okT (lookR T20) (inlO Try.prog okT (lookR T20) RO FS 400 ST (hOnce Try.prog 41 55 21) 8) RO NOV 100 false Try.f14 (norms [(.agg [(.int .i64), (.int .i64), (.int .i64), (.int .i64), (.int .i64), (.int .i64)])] 0 g) = some (sallyportref3_WritesG (((g 0).fld 0).num) (((g 0).fld 1).num) (((g 0).fld 2).num) (((g 0).fld 3).num) (((g 0).fld 4).num) (((g 0).fld 5).num), sallyportref3_WritesV (((g 0).fld 0).num) (((g 0).fld 1).num) (((g 0).fld 2).num) (((g 0).fld 3).num) (((g 0).fld 4).num) (((g 0).fld 5).num)) := by kernel_rfl
theorem sallyportref3_WritesP : Plain Try.prog 14 Try.f14 := ⟨Try.func14, of_decide_eq_true (by kernel_rfl)⟩
theorem sallyportref3_WritesT (a0_Op : Int) (a0_Rd : Int) (a0_Rs1 : Int) (a0_Rs2 : Int) (a0_Imm : Int) (a0_CSR : Int) : sallyportref3_WritesG a0_Op a0_Rd a0_Rs1 a0_Rs2 a0_Imm a0_CSR = true := by
  unfold sallyportref3_WritesG
  simp only [Go.Ev.cS1, Go.Ev.cS2, Go.Ev.cS3, Go.Ev.cS4, Go.Ev.cS6, Go.Ev.cS7]
theorem sallyportref3_WritesO : RowOk Try.prog 14 (rowF [(.agg [(.int .i64), (.int .i64), (.int .i64), (.int .i64), (.int .i64), (.int .i64)])] none fun g => sallyportref3_WritesV (((g 0).fld 0).num) (((g 0).fld 1).num) (((g 0).fld 2).num) (((g 0).fld 3).num) (((g 0).fld 4).num) (((g 0).fld 5).num)) := rowT_ok fun g => pcOf_ok mix fair T20_ok (inlO_ok mix fair T20_ok FS_ok (fun _ h => hOnce_ok once_ok h) 8) sallyportref3_WritesP (fun c _ => OvOk_none c) (sallyportref3_WritesE g) (sallyportref3_WritesT (((g 0).fld 0).num) (((g 0).fld 1).num) (((g 0).fld 2).num) (((g 0).fld 3).num) (((g 0).fld 4).num) (((g 0).fld 5).num))
def T14 : List Row := (14, (rowF [(.agg [(.int .i64), (.int .i64), (.int .i64), (.int .i64), (.int .i64), (.int .i64)])] none fun g => sallyportref3_WritesV (((g 0).fld 0).num) (((g 0).fld 1).num) (((g 0).fld 2).num) (((g 0).fld 3).num) (((g 0).fld 4).num) (((g 0).fld 5).num))) :: T20
theorem T14_ok : PSound Try.prog (lookR T14) := lookR_cons sallyportref3_WritesO T20_ok

/- sallyport/sallyportref3.Name -/
def sallyportref3_Name0 (a0 : Int) : List UInt8 :=
  bif bif iLt a0 0 then true else iLe 70 a0 then []
  else
    bif a0.toNat == 69 then [104, 115, 118, 46, 100]
    else
      bif a0.toNat == 68 then [104, 108, 118, 120, 46, 119, 117]
      else
        bif a0.toNat == 67 then [104, 108, 118, 46, 100]
        else
          bif a0.toNat == 66 then [104, 108, 118, 46, 119]
          else
            bif a0.toNat == 65 then [104, 102, 101, 110, 99, 101, 46, 103, 118, 109, 97]
            else
              bif a0.toNat == 64 then [104, 102, 101, 110, 99, 101, 46, 118, 118, 109, 97]
              else
                bif a0.toNat == 63 then [115, 102, 101, 110, 99, 101, 46, 118, 109, 97]
                else
                  bif a0.toNat == 62 then [119, 102, 105]
                  else
                    bif a0.toNat == 61 then [115, 114, 101, 116]
                    else
                      bif a0.toNat == 60 then [109, 114, 101, 116]
                      else
                        bif a0.toNat == 59 then [99, 115, 114, 114, 99, 105]
                        else
                          bif a0.toNat == 58 then [99, 115, 114, 114, 115, 105]
                          else
                            bif a0.toNat == 57 then [99, 115, 114, 114, 119, 105]
                            else
                              bif a0.toNat == 56 then [99, 115, 114, 114, 99]
                              else
                                bif a0.toNat == 55 then [99, 115, 114, 114, 115]
                                else
                                  bif a0.toNat == 54 then [99, 115, 114, 114, 119]
                                  else
                                    bif a0.toNat == 53 then [101, 98, 114, 101, 97, 107]
                                    else
                                      bif a0.toNat == 52 then [101, 99, 97, 108, 108]
                                      else
                                        bif a0.toNat == 51 then [102, 101, 110, 99, 101, 46, 105]
                                        else
                                          bif a0.toNat == 50 then [102, 101, 110, 99, 101]
                                          else
                                            bif a0.toNat == 49 then [115, 114, 97, 119]
                                            else
                                              bif a0.toNat == 48 then [115, 114, 108, 119]
                                              else
                                                bif a0.toNat == 47 then [115, 108, 108, 119]
                                                else
                                                  bif a0.toNat == 46 then [115, 117, 98, 119]
                                                  else
                                                    bif a0.toNat == 45 then [97, 100, 100, 119]
                                                    else
                                                      bif a0.toNat == 44 then [97, 110, 100]
                                                      else
                                                        bif a0.toNat == 43 then [111, 114]
                                                        else
                                                          bif a0.toNat == 42 then [115, 114, 97]
                                                          else
                                                            bif a0.toNat == 41 then [115, 114, 108]
                                                            else
                                                              bif a0.toNat == 40 then [120, 111, 114]
                                                              else
                                                                bif a0.toNat == 39 then [115, 108, 116, 117]
                                                                else
                                                                  bif a0.toNat == 38 then [115, 108, 116]
                                                                  else
                                                                    bif a0.toNat == 37 then [115, 108, 108]
                                                                    else
                                                                      bif a0.toNat == 36 then [115, 117, 98]
                                                                      else
                                                                        bif a0.toNat == 35 then [97, 100, 100]
                                                                        else
                                                                          bif a0.toNat == 34 then [115, 114, 97, 105, 119]
                                                                          else
                                                                            bif a0.toNat == 33 then [115, 114, 108, 105, 119]
                                                                            else
                                                                              bif a0.toNat == 32 then [115, 108, 108, 105, 119]
                                                                              else
                                                                                bif a0.toNat == 31 then [97, 100, 100, 105, 119]
                                                                                else
                                                                                  bif a0.toNat == 30 then [115, 114, 97, 105]
                                                                                  else
                                                                                    bif a0.toNat == 29 then [115, 114, 108, 105]
                                                                                    else
                                                                                      bif a0.toNat == 28 then [115, 108, 108, 105]
                                                                                      else
                                                                                        bif a0.toNat == 27 then [97, 110, 100, 105]
                                                                                        else
                                                                                          bif a0.toNat == 26 then [111, 114, 105]
                                                                                          else
                                                                                            bif a0.toNat == 25 then [120, 111, 114, 105]
                                                                                            else
                                                                                              bif a0.toNat == 24 then [115, 108, 116, 105, 117]
                                                                                              else
                                                                                                bif a0.toNat == 23 then [115, 108, 116, 105]
                                                                                                else
                                                                                                  bif a0.toNat == 22 then [97, 100, 100, 105]
                                                                                                  else
                                                                                                    bif a0.toNat == 21 then [115, 100]
                                                                                                    else
                                                                                                      bif a0.toNat == 20 then [115, 119]
                                                                                                      else
                                                                                                        bif a0.toNat == 19 then [115, 104]
                                                                                                        else
                                                                                                          bif a0.toNat == 18 then [115, 98]
                                                                                                          else
                                                                                                            bif a0.toNat == 17 then [108, 119, 117]
                                                                                                            else
                                                                                                              bif a0.toNat == 16 then [108, 104, 117]
                                                                                                              else
                                                                                                                bif a0.toNat == 15 then [108, 98, 117]
                                                                                                                else
                                                                                                                  bif a0.toNat == 14 then [108, 100]
                                                                                                                  else
                                                                                                                    bif a0.toNat == 13 then [108, 119]
                                                                                                                    else
                                                                                                                      bif a0.toNat == 12 then [108, 104]
                                                                                                                      else
                                                                                                                        bif a0.toNat == 11 then [108, 98]
                                                                                                                        else
                                                                                                                          bif a0.toNat == 10 then [98, 103, 101, 117]
                                                                                                                          else
                                                                                                                            bif a0.toNat == 9 then [98, 108, 116, 117]
                                                                                                                            else
                                                                                                                              bif a0.toNat == 8 then [98, 103, 101]
                                                                                                                              else
                                                                                                                                bif a0.toNat == 7 then [98, 108, 116]
                                                                                                                                else
                                                                                                                                  bif a0.toNat == 6 then [98, 110, 101]
                                                                                                                                  else
                                                                                                                                    bif a0.toNat == 5 then [98, 101, 113]
                                                                                                                                    else
                                                                                                                                      bif a0.toNat == 4 then [106, 97, 108, 114]
                                                                                                                                      else
                                                                                                                                        bif a0.toNat == 3 then [106, 97, 108]
                                                                                                                                        else
                                                                                                                                          bif a0.toNat == 2 then [97, 117, 105, 112, 99]
                                                                                                                                          else bif a0.toNat == 1 then [108, 117, 105] else []
def sallyportref3_Name0r (a0 : Int) : List UInt8 :=
  bif bif iLt a0 0 then true else iLe 70 a0 then []
  else
    bif a0.toNat == 69 then [104, 115, 118, 46, 100]
    else
      bif a0.toNat == 68 then [104, 108, 118, 120, 46, 119, 117]
      else
        bif a0.toNat == 67 then [104, 108, 118, 46, 100]
        else
          bif a0.toNat == 66 then [104, 108, 118, 46, 119]
          else
            bif a0.toNat == 65 then [104, 102, 101, 110, 99, 101, 46, 103, 118, 109, 97]
            else
              bif a0.toNat == 64 then [104, 102, 101, 110, 99, 101, 46, 118, 118, 109, 97]
              else
                bif a0.toNat == 63 then [115, 102, 101, 110, 99, 101, 46, 118, 109, 97]
                else
                  bif a0.toNat == 62 then [119, 102, 105]
                  else
                    bif a0.toNat == 61 then [115, 114, 101, 116]
                    else
                      bif a0.toNat == 60 then [109, 114, 101, 116]
                      else
                        bif a0.toNat == 59 then [99, 115, 114, 114, 99, 105]
                        else
                          bif a0.toNat == 58 then [99, 115, 114, 114, 115, 105]
                          else
                            bif a0.toNat == 57 then [99, 115, 114, 114, 119, 105]
                            else
                              bif a0.toNat == 56 then [99, 115, 114, 114, 99]
                              else
                                bif a0.toNat == 55 then [99, 115, 114, 114, 115]
                                else
                                  bif a0.toNat == 54 then [99, 115, 114, 114, 119]
                                  else
                                    bif a0.toNat == 53 then [101, 98, 114, 101, 97, 107]
                                    else
                                      bif a0.toNat == 52 then [101, 99, 97, 108, 108]
                                      else
                                        bif a0.toNat == 51 then [102, 101, 110, 99, 101, 46, 105]
                                        else
                                          bif a0.toNat == 50 then [102, 101, 110, 99, 101]
                                          else
                                            bif a0.toNat == 49 then [115, 114, 97, 119]
                                            else
                                              bif a0.toNat == 48 then [115, 114, 108, 119]
                                              else
                                                bif a0.toNat == 47 then [115, 108, 108, 119]
                                                else
                                                  bif a0.toNat == 46 then [115, 117, 98, 119]
                                                  else
                                                    bif a0.toNat == 45 then [97, 100, 100, 119]
                                                    else
                                                      bif a0.toNat == 44 then [97, 110, 100]
                                                      else
                                                        bif a0.toNat == 43 then [111, 114]
                                                        else
                                                          bif a0.toNat == 42 then [115, 114, 97]
                                                          else
                                                            bif a0.toNat == 41 then [115, 114, 108]
                                                            else
                                                              bif a0.toNat == 40 then [120, 111, 114]
                                                              else
                                                                bif a0.toNat == 39 then [115, 108, 116, 117]
                                                                else
                                                                  bif a0.toNat == 38 then [115, 108, 116]
                                                                  else
                                                                    bif a0.toNat == 37 then [115, 108, 108]
                                                                    else
                                                                      bif a0.toNat == 36 then [115, 117, 98]
                                                                      else
                                                                        bif a0.toNat == 35 then [97, 100, 100]
                                                                        else
                                                                          bif a0.toNat == 34 then [115, 114, 97, 105, 119]
                                                                          else
                                                                            bif a0.toNat == 33 then [115, 114, 108, 105, 119]
                                                                            else
                                                                              bif a0.toNat == 32 then [115, 108, 108, 105, 119]
                                                                              else
                                                                                bif a0.toNat == 31 then [97, 100, 100, 105, 119]
                                                                                else
                                                                                  bif a0.toNat == 30 then [115, 114, 97, 105]
                                                                                  else
                                                                                    bif a0.toNat == 29 then [115, 114, 108, 105]
                                                                                    else
                                                                                      bif a0.toNat == 28 then [115, 108, 108, 105]
                                                                                      else
                                                                                        bif a0.toNat == 27 then [97, 110, 100, 105]
                                                                                        else
                                                                                          bif a0.toNat == 26 then [111, 114, 105]
                                                                                          else
                                                                                            bif a0.toNat == 25 then [120, 111, 114, 105]
                                                                                            else
                                                                                              bif a0.toNat == 24 then [115, 108, 116, 105, 117]
                                                                                              else
                                                                                                bif a0.toNat == 23 then [115, 108, 116, 105]
                                                                                                else
                                                                                                  bif a0.toNat == 22 then [97, 100, 100, 105]
                                                                                                  else
                                                                                                    bif a0.toNat == 21 then [115, 100]
                                                                                                    else
                                                                                                      bif a0.toNat == 20 then [115, 119]
                                                                                                      else
                                                                                                        bif a0.toNat == 19 then [115, 104]
                                                                                                        else
                                                                                                          bif a0.toNat == 18 then [115, 98]
                                                                                                          else
                                                                                                            bif a0.toNat == 17 then [108, 119, 117]
                                                                                                            else
                                                                                                              bif a0.toNat == 16 then [108, 104, 117]
                                                                                                              else
                                                                                                                bif a0.toNat == 15 then [108, 98, 117]
                                                                                                                else
                                                                                                                  bif a0.toNat == 14 then [108, 100]
                                                                                                                  else
                                                                                                                    bif a0.toNat == 13 then [108, 119]
                                                                                                                    else
                                                                                                                      bif a0.toNat == 12 then [108, 104]
                                                                                                                      else
                                                                                                                        bif a0.toNat == 11 then [108, 98]
                                                                                                                        else
                                                                                                                          bif a0.toNat == 10 then [98, 103, 101, 117]
                                                                                                                          else
                                                                                                                            bif a0.toNat == 9 then [98, 108, 116, 117]
                                                                                                                            else
                                                                                                                              bif a0.toNat == 8 then [98, 103, 101]
                                                                                                                              else
                                                                                                                                bif a0.toNat == 7 then [98, 108, 116]
                                                                                                                                else
                                                                                                                                  bif a0.toNat == 6 then [98, 110, 101]
                                                                                                                                  else
                                                                                                                                    bif a0.toNat == 5 then [98, 101, 113]
                                                                                                                                    else
                                                                                                                                      bif a0.toNat == 4 then [106, 97, 108, 114]
                                                                                                                                      else
                                                                                                                                        bif a0.toNat == 3 then [106, 97, 108]
                                                                                                                                        else
                                                                                                                                          bif a0.toNat == 2 then [97, 117, 105, 112, 99]
                                                                                                                                          else
                                                                                                                                            bif a0.toNat == 1 then [108, 117, 105]
                                                                                                                                            else bif a0.toNat == 0 then [] else []
def sallyportref3_NameG (a0 : Int) : Bool :=
  bif bif iLt a0 0 then true else iLe 70 a0 then true else iIn a0 70 && true
theorem sallyportref3_Name0_eq (a0 : Int)  : sallyportref3_Name0r a0  = sallyportref3_Name0 a0  := by
  unfold sallyportref3_Name0r
  first | (simp only [Go.Ev.cS1, Go.Ev.cS2, Go.Ev.cS3, Go.Ev.cS4, Go.Ev.cS6, Go.Ev.cS7]; done) | (simp only [Go.Ev.cS1, Go.Ev.cS2, Go.Ev.cS3, Go.Ev.cS4, Go.Ev.cS6, Go.Ev.cS7]; kernel_rfl)
def sallyportref3_NameV (a0 : Int) : AV := .st (sallyportref3_Name0 a0)
def sallyportref3_NameVr (a0 : Int) : AV := .st (sallyportref3_Name0r a0)
theorem sallyportref3_NameV_eq (a0 : Int) : sallyportref3_NameVr a0 = sallyportref3_NameV a0 := by
  unfold sallyportref3_NameVr sallyportref3_NameV
  simp only [sallyportref3_Name0_eq]
theorem sallyportref3_NameE (g : Nat → AV) : pcOf Try.prog okT (lookR T14) (inlO Try.prog okT (lookR T14) RO FS 400 ST (hOnce Try.prog 41 55 21) 8) RO NOV 100 false Try.f29 (norms [(.int .i64)] 0 g) = some (sallyportref3_NameG ((g 0).num), sallyportref3_NameV ((g 0).num)) :=
  (by kernel_rfl : pcOf Try.prog okT (lookR T14) (inlO Try.prog okT (lookR T14) RO FS 400 ST (hOnce Try.prog 41 55 21) 8) RO NOV 100 false Try.f29 (norms [(.int .i64)] 0 g) = some (sallyportref3_NameG ((g 0).num), sallyportref3_NameVr ((g 0).num))).trans (by rw [sallyportref3_NameV_eq])
theorem sallyportref3_NameP : Plain Try.prog 29 Try.f29 := ⟨Try.func29, of_decide_eq_true (by kernel_rfl)⟩
theorem sallyportref3_NameT (a0 : Int) : sallyportref3_NameG a0 = true := by first | (simp [sallyportref3_NameG]; done) | (simp [sallyportref3_NameG, Go.Ev.iEq, Go.Ev.iNe, Go.Ev.iLt, Go.Ev.iLe, Go.Ev.iIn]; omega)
theorem sallyportref3_NameO : RowOk Try.prog 29 (rowF [(.int .i64)] none fun g => sallyportref3_NameV ((g 0).num)) := rowT_ok fun g => pcOf_ok mix fair T14_ok (inlO_ok mix fair T14_ok FS_ok (fun _ h => hOnce_ok once_ok h) 8) sallyportref3_NameP (fun c _ => OvOk_none c) (sallyportref3_NameE g) (sallyportref3_NameT ((g 0).num))
def T29 : List Row := (29, (rowF [(.int .i64)] none fun g => sallyportref3_NameV ((g 0).num))) :: T14
theorem T29_ok : PSound Try.prog (lookR T29) := lookR_cons sallyportref3_NameO T14_ok

/- sallyport/sallyportref3.Size -/
def sallyportref3_Size_c0 (a0 : Int) : Bool :=
  bif iEq a0 14 then bif iEq a0 14 then true else true
  else bif iEq a0 21 then bif iEq a0 21 then true else true else bif iEq a0 67 then bif iEq a0 67 then true else true else bif iEq a0 69 then true else true
def sallyportref3_Size_c1 (a0 : Int) : Bool :=
  bif iEq a0 13 then bif iEq a0 13 then true else sallyportref3_Size_c0 a0
  else
    bif iEq a0 17 then bif iEq a0 17 then true else sallyportref3_Size_c0 a0
    else
      bif iEq a0 20 then bif iEq a0 20 then true else sallyportref3_Size_c0 a0
      else bif iEq a0 66 then bif iEq a0 66 then true else sallyportref3_Size_c0 a0 else bif iEq a0 68 then true else sallyportref3_Size_c0 a0
def sallyportref3_Size_c2 (a0 : Int) : Bool :=
  bif iEq a0 12 then bif iEq a0 12 then true else sallyportref3_Size_c1 a0
  else bif iEq a0 16 then bif iEq a0 16 then true else sallyportref3_Size_c1 a0 else bif iEq a0 19 then true else sallyportref3_Size_c1 a0
def sallyportref3_Size_c3 (a0 : Int) : Int :=
  bif iEq a0 14 then bif iEq a0 14 then 8 else 0 else bif iEq a0 21 then bif iEq a0 21 then 8 else 0 else bif iEq a0 67 then bif iEq a0 67 then 8 else 0 else bif iEq a0 69 then 8 else 0
def sallyportref3_Size_c4 (a0 : Int) : Int :=
  bif iEq a0 13 then bif iEq a0 13 then 4 else sallyportref3_Size_c3 a0
  else
    bif iEq a0 17 then bif iEq a0 17 then 4 else sallyportref3_Size_c3 a0
    else
      bif iEq a0 20 then bif iEq a0 20 then 4 else sallyportref3_Size_c3 a0
      else bif iEq a0 66 then bif iEq a0 66 then 4 else sallyportref3_Size_c3 a0 else bif iEq a0 68 then 4 else sallyportref3_Size_c3 a0
def sallyportref3_Size_c5 (a0 : Int) : Int :=
  bif iEq a0 12 then bif iEq a0 12 then 2 else sallyportref3_Size_c4 a0 else bif iEq a0 16 then bif iEq a0 16 then 2 else sallyportref3_Size_c4 a0 else bif iEq a0 19 then 2 else sallyportref3_Size_c4 a0
def sallyportref3_Size0 (a0 : Int) : Int :=
  bif iEq a0 11 then 1
  else
    bif iEq a0 15 then 1
    else
      bif iEq a0 18 then 1
      else
        bif iEq a0 12 then 2
        else
          bif iEq a0 16 then 2
          else
            bif iEq a0 19 then 2
            else
              bif iEq a0 13 then 4
              else
                bif iEq a0 17 then 4
                else
                  bif iEq a0 20 then 4 else bif iEq a0 66 then 4 else bif iEq a0 68 then 4 else bif iEq a0 14 then 8 else bif iEq a0 21 then 8 else bif iEq a0 67 then 8 else bif iEq a0 69 then 8 else 0
def sallyportref3_Size0r (a0 : Int) : Int :=
  bif iEq a0 11 then bif iEq a0 11 then 1 else sallyportref3_Size_c5 a0 else bif iEq a0 15 then bif iEq a0 15 then 1 else sallyportref3_Size_c5 a0 else bif iEq a0 18 then 1 else sallyportref3_Size_c5 a0
def sallyportref3_SizeG (a0 : Int) : Bool :=
  bif iEq a0 11 then bif iEq a0 11 then true else sallyportref3_Size_c2 a0
  else bif iEq a0 15 then bif iEq a0 15 then true else sallyportref3_Size_c2 a0 else bif iEq a0 18 then true else sallyportref3_Size_c2 a0
theorem sallyportref3_Size0_eq (a0 : Int)  : sallyportref3_Size0r a0  = sallyportref3_Size0 a0  := by
  unfold sallyportref3_Size0r
  first | (simp only [sallyportref3_Size_c0, sallyportref3_Size_c1, sallyportref3_Size_c2, sallyportref3_Size_c3, sallyportref3_Size_c4, sallyportref3_Size_c5, Go.Ev.cS1, Go.Ev.cS2, Go.Ev.cS3, Go.Ev.cS4, Go.Ev.cS6, Go.Ev.cS7]; done) | (simp only [sallyportref3_Size_c0, sallyportref3_Size_c1, sallyportref3_Size_c2, sallyportref3_Size_c3, sallyportref3_Size_c4, sallyportref3_Size_c5, Go.Ev.cS1, Go.Ev.cS2, Go.Ev.cS3, Go.Ev.cS4, Go.Ev.cS6, Go.Ev.cS7]; kernel_rfl)
def sallyportref3_SizeV (a0 : Int) : AV := .it .i64 (sallyportref3_Size0 a0)
def sallyportref3_SizeVr (a0 : Int) : AV := .it .i64 (sallyportref3_Size0r a0)
theorem sallyportref3_SizeV_eq (a0 : Int) : sallyportref3_SizeVr a0 = sallyportref3_SizeV a0 := by
  unfold sallyportref3_SizeVr sallyportref3_SizeV
  simp only [sallyportref3_Size0_eq]
theorem sallyportref3_SizeE (g : Nat → AV) : pcOf Try.prog okT (lookR T29) (inlO Try.prog okT (lookR T29) RO FS 400 ST (hOnce Try.prog 41 55 21) 8) RO NOV 100 false Try.f31 (norms [(.int .i64)] 0 g) = some (sallyportref3_SizeG ((g 0).num), sallyportref3_SizeV ((g 0).num)) :=
  (by kernel_rfl : pcOf Try.prog okT (lookR T29) (inlO Try.prog okT (lookR T29) RO FS 400 ST (hOnce Try.prog 41 55 21) 8) RO NOV 100 false Try.f31 (norms [(.int .i64)] 0 g) = some (sallyportref3_SizeG ((g 0).num), sallyportref3_SizeVr ((g 0).num))).trans (by rw [sallyportref3_SizeV_eq])
theorem sallyportref3_SizeP : Plain Try.prog 31 Try.f31 := ⟨Try.func31, of_decide_eq_true (by kernel_rfl)⟩
theorem sallyportref3_SizeT (a0 : Int) : sallyportref3_SizeG a0 = true := by
  unfold sallyportref3_SizeG
  simp only [sallyportref3_Size_c0, sallyportref3_Size_c1, sallyportref3_Size_c2, sallyportref3_Size_c3, sallyportref3_Size_c4, sallyportref3_Size_c5, Go.Ev.cS1, Go.Ev.cS2, Go.Ev.cS3, Go.Ev.cS4, Go.Ev.cS6, Go.Ev.cS7]
theorem sallyportref3_SizeO : RowOk Try.prog 31 (rowF [(.int .i64)] none fun g => sallyportref3_SizeV ((g 0).num)) := rowT_ok fun g => pcOf_ok mix fair T29_ok (inlO_ok mix fair T29_ok FS_ok (fun _ h => hOnce_ok once_ok h) 8) sallyportref3_SizeP (fun c _ => OvOk_none c) (sallyportref3_SizeE g) (sallyportref3_SizeT ((g 0).num))
def T31 : List Row := (31, (rowF [(.int .i64)] none fun g => sallyportref3_SizeV ((g 0).num))) :: T29
theorem T31_ok : PSound Try.prog (lookR T31) := lookR_cons sallyportref3_SizeO T29_ok

/- sallyport/sallyportlaw2.InsnTells -/
def sallyportlaw2_InsnTells0 (a0_Op : Int) (a0_Rd : Int) (a0_Rs1 : Int) (a0_Rs2 : Int) (a0_Imm : Int) (a0_CSR : Int) (a1_Op : Int) (a1_Rd : Int) (a1_Rs1 : Int) (a1_Rs2 : Int) (a1_Imm : Int) (a1_CSR : Int) (a2 : Int) : Bool :=
  bif
      bif
          bif
              bif
                  bif
                      bif
                          bif insn_Is0 a0_Op a0_Rd a0_Rs1 a0_Rs2 a0_Imm a0_CSR == sallyportref3_Is0 a0_Op a0_Rd a0_Rs1 a0_Rs2 a0_Imm a0_CSR then
                            insn_Same0 a0_Op a0_Rd a0_Rs1 a0_Rs2 a0_Imm a0_CSR a1_Op a1_Rd a1_Rs1 a1_Rs2 a1_Imm a1_CSR ==
                              (iEq a0_Op a1_Op && (iEq a0_Rd a1_Rd && (iEq a0_Rs1 a1_Rs1 && (iEq a0_Rs2 a1_Rs2 && (iEq a0_Imm a1_Imm && iEq a0_CSR a1_CSR)))))
                          else false then
                        iEq (insn_Writes0 a0_Op a0_Rd a0_Rs1 a0_Rs2 a0_Imm a0_CSR) (sallyportref3_Writes0 a0_Op a0_Rd a0_Rs1 a0_Rs2 a0_Imm a0_CSR)
                      else false then
                    iEq (insn_Reads0 a0_Op a0_Rd a0_Rs1 a0_Rs2 a0_Imm a0_CSR) (sallyportref3_Reads0 a0_Op a0_Rd a0_Rs1 a0_Rs2 a0_Imm a0_CSR)
                  else false then
                iEq (insn_Reads1 a0_Op a0_Rd a0_Rs1 a0_Rs2 a0_Imm a0_CSR) (sallyportref3_Reads1 a0_Op a0_Rd a0_Rs1 a0_Rs2 a0_Imm a0_CSR)
              else false then
            sEq (insn_Name0 a2) (sallyportref3_Name0 a2)
          else false then
        iEq (insn_Class0 a2) (sallyportref3_Class0 a2)
      else false then
    iEq (insn_Size0 a2) (sallyportref3_Size0 a2)
  else false
def sallyportlaw2_InsnTells0r (a0_Op : Int) (a0_Rd : Int) (a0_Rs1 : Int) (a0_Rs2 : Int) (a0_Imm : Int) (a0_CSR : Int) (a1_Op : Int) (a1_Rd : Int) (a1_Rs1 : Int) (a1_Rs2 : Int) (a1_Imm : Int) (a1_CSR : Int) (a2 : Int) : Bool :=
  bif
      bif
          bif
              bif
                  bif
                      bif
                          bif insn_Is0 a0_Op a0_Rd a0_Rs1 a0_Rs2 a0_Imm a0_CSR == sallyportref3_Is0 a0_Op a0_Rd a0_Rs1 a0_Rs2 a0_Imm a0_CSR then
                            insn_Same0 a0_Op a0_Rd a0_Rs1 a0_Rs2 a0_Imm a0_CSR a1_Op a1_Rd a1_Rs1 a1_Rs2 a1_Imm a1_CSR ==
                              (iEq a0_Op a1_Op && (iEq a0_Rd a1_Rd && (iEq a0_Rs1 a1_Rs1 && (iEq a0_Rs2 a1_Rs2 && (iEq a0_Imm a1_Imm && (iEq a0_CSR a1_CSR && true))))))
                          else false then
                        iEq (insn_Writes0 a0_Op a0_Rd a0_Rs1 a0_Rs2 a0_Imm a0_CSR) (sallyportref3_Writes0 a0_Op a0_Rd a0_Rs1 a0_Rs2 a0_Imm a0_CSR)
                      else false then
                    iEq (insn_Reads0 a0_Op a0_Rd a0_Rs1 a0_Rs2 a0_Imm a0_CSR) (sallyportref3_Reads0 a0_Op a0_Rd a0_Rs1 a0_Rs2 a0_Imm a0_CSR)
                  else false then
                iEq (insn_Reads1 a0_Op a0_Rd a0_Rs1 a0_Rs2 a0_Imm a0_CSR) (sallyportref3_Reads1 a0_Op a0_Rd a0_Rs1 a0_Rs2 a0_Imm a0_CSR)
              else false then
            sEq (insn_Name0 a2) (sallyportref3_Name0 a2)
          else false then
        iEq (insn_Class0 a2) (sallyportref3_Class0 a2)
      else false then
    iEq (insn_Size0 a2) (sallyportref3_Size0 a2)
  else false
def sallyportlaw2_InsnTellsG (a0_Op : Int) (a0_Rd : Int) (a0_Rs1 : Int) (a0_Rs2 : Int) (a0_Imm : Int) (a0_CSR : Int) (a1_Op : Int) (a1_Rd : Int) (a1_Rs1 : Int) (a1_Rs2 : Int) (a1_Imm : Int) (a1_CSR : Int) (a2 : Int) : Bool :=
  true
theorem sallyportlaw2_InsnTells0_eq (a0_Op : Int) (a0_Rd : Int) (a0_Rs1 : Int) (a0_Rs2 : Int) (a0_Imm : Int) (a0_CSR : Int) (a1_Op : Int) (a1_Rd : Int) (a1_Rs1 : Int) (a1_Rs2 : Int) (a1_Imm : Int) (a1_CSR : Int) (a2 : Int)  : sallyportlaw2_InsnTells0r a0_Op a0_Rd a0_Rs1 a0_Rs2 a0_Imm a0_CSR a1_Op a1_Rd a1_Rs1 a1_Rs2 a1_Imm a1_CSR a2  = sallyportlaw2_InsnTells0 a0_Op a0_Rd a0_Rs1 a0_Rs2 a0_Imm a0_CSR a1_Op a1_Rd a1_Rs1 a1_Rs2 a1_Imm a1_CSR a2  := by
  unfold sallyportlaw2_InsnTells0r
  first | (simp only [Go.Ev.cS1, Go.Ev.cS2, Go.Ev.cS3, Go.Ev.cS4, Go.Ev.cS6, Go.Ev.cS7]; done) | (simp only [Go.Ev.cS1, Go.Ev.cS2, Go.Ev.cS3, Go.Ev.cS4, Go.Ev.cS6, Go.Ev.cS7]; kernel_rfl)
def sallyportlaw2_InsnTellsV (a0_Op : Int) (a0_Rd : Int) (a0_Rs1 : Int) (a0_Rs2 : Int) (a0_Imm : Int) (a0_CSR : Int) (a1_Op : Int) (a1_Rd : Int) (a1_Rs1 : Int) (a1_Rs2 : Int) (a1_Imm : Int) (a1_CSR : Int) (a2 : Int) : AV := .bl (sallyportlaw2_InsnTells0 a0_Op a0_Rd a0_Rs1 a0_Rs2 a0_Imm a0_CSR a1_Op a1_Rd a1_Rs1 a1_Rs2 a1_Imm a1_CSR a2)
def sallyportlaw2_InsnTellsVr (a0_Op : Int) (a0_Rd : Int) (a0_Rs1 : Int) (a0_Rs2 : Int) (a0_Imm : Int) (a0_CSR : Int) (a1_Op : Int) (a1_Rd : Int) (a1_Rs1 : Int) (a1_Rs2 : Int) (a1_Imm : Int) (a1_CSR : Int) (a2 : Int) : AV := .bl (sallyportlaw2_InsnTells0r a0_Op a0_Rd a0_Rs1 a0_Rs2 a0_Imm a0_CSR a1_Op a1_Rd a1_Rs1 a1_Rs2 a1_Imm a1_CSR a2)
theorem sallyportlaw2_InsnTellsV_eq (a0_Op : Int) (a0_Rd : Int) (a0_Rs1 : Int) (a0_Rs2 : Int) (a0_Imm : Int) (a0_CSR : Int) (a1_Op : Int) (a1_Rd : Int) (a1_Rs1 : Int) (a1_Rs2 : Int) (a1_Imm : Int) (a1_CSR : Int) (a2 : Int) : sallyportlaw2_InsnTellsVr a0_Op a0_Rd a0_Rs1 a0_Rs2 a0_Imm a0_CSR a1_Op a1_Rd a1_Rs1 a1_Rs2 a1_Imm a1_CSR a2 = sallyportlaw2_InsnTellsV a0_Op a0_Rd a0_Rs1 a0_Rs2 a0_Imm a0_CSR a1_Op a1_Rd a1_Rs1 a1_Rs2 a1_Imm a1_CSR a2 := by
  unfold sallyportlaw2_InsnTellsVr sallyportlaw2_InsnTellsV
  simp only [sallyportlaw2_InsnTells0_eq]
theorem sallyportlaw2_InsnTellsE (g : Nat → AV) : pcOf Try.prog okT (lookR T31) (inlO Try.prog okT (lookR T31) RO FS 400 ST (hOnce Try.prog 41 55 21) 8) RO NOV 100 false Try.f6 (norms [(.agg [(.int .i64), (.int .i64), (.int .i64), (.int .i64), (.int .i64), (.int .i64)]), (.agg [(.int .i64), (.int .i64), (.int .i64), (.int .i64), (.int .i64), (.int .i64)]), (.int .i64)] 0 g) = some (sallyportlaw2_InsnTellsG (((g 0).fld 0).num) (((g 0).fld 1).num) (((g 0).fld 2).num) (((g 0).fld 3).num) (((g 0).fld 4).num) (((g 0).fld 5).num) (((g 1).fld 0).num) (((g 1).fld 1).num) (((g 1).fld 2).num) (((g 1).fld 3).num) (((g 1).fld 4).num) (((g 1).fld 5).num) ((g 2).num), sallyportlaw2_InsnTellsV (((g 0).fld 0).num) (((g 0).fld 1).num) (((g 0).fld 2).num) (((g 0).fld 3).num) (((g 0).fld 4).num) (((g 0).fld 5).num) (((g 1).fld 0).num) (((g 1).fld 1).num) (((g 1).fld 2).num) (((g 1).fld 3).num) (((g 1).fld 4).num) (((g 1).fld 5).num) ((g 2).num)) :=
  (by kernel_rfl : pcOf Try.prog okT (lookR T31) (inlO Try.prog okT (lookR T31) RO FS 400 ST (hOnce Try.prog 41 55 21) 8) RO NOV 100 false Try.f6 (norms [(.agg [(.int .i64), (.int .i64), (.int .i64), (.int .i64), (.int .i64), (.int .i64)]), (.agg [(.int .i64), (.int .i64), (.int .i64), (.int .i64), (.int .i64), (.int .i64)]), (.int .i64)] 0 g) = some (sallyportlaw2_InsnTellsG (((g 0).fld 0).num) (((g 0).fld 1).num) (((g 0).fld 2).num) (((g 0).fld 3).num) (((g 0).fld 4).num) (((g 0).fld 5).num) (((g 1).fld 0).num) (((g 1).fld 1).num) (((g 1).fld 2).num) (((g 1).fld 3).num) (((g 1).fld 4).num) (((g 1).fld 5).num) ((g 2).num), sallyportlaw2_InsnTellsVr (((g 0).fld 0).num) (((g 0).fld 1).num) (((g 0).fld 2).num) (((g 0).fld 3).num) (((g 0).fld 4).num) (((g 0).fld 5).num) (((g 1).fld 0).num) (((g 1).fld 1).num) (((g 1).fld 2).num) (((g 1).fld 3).num) (((g 1).fld 4).num) (((g 1).fld 5).num) ((g 2).num))).trans (by rw [sallyportlaw2_InsnTellsV_eq])
theorem sallyportlaw2_InsnTellsP : Plain Try.prog 6 Try.f6 := ⟨Try.func6, of_decide_eq_true (by kernel_rfl)⟩
theorem sallyportlaw2_InsnTellsT (a0_Op : Int) (a0_Rd : Int) (a0_Rs1 : Int) (a0_Rs2 : Int) (a0_Imm : Int) (a0_CSR : Int) (a1_Op : Int) (a1_Rd : Int) (a1_Rs1 : Int) (a1_Rs2 : Int) (a1_Imm : Int) (a1_CSR : Int) (a2 : Int) : sallyportlaw2_InsnTellsG a0_Op a0_Rd a0_Rs1 a0_Rs2 a0_Imm a0_CSR a1_Op a1_Rd a1_Rs1 a1_Rs2 a1_Imm a1_CSR a2 = true := rfl
theorem sallyportlaw2_InsnTellsO : RowOk Try.prog 6 (rowF [(.agg [(.int .i64), (.int .i64), (.int .i64), (.int .i64), (.int .i64), (.int .i64)]), (.agg [(.int .i64), (.int .i64), (.int .i64), (.int .i64), (.int .i64), (.int .i64)]), (.int .i64)] none fun g => sallyportlaw2_InsnTellsV (((g 0).fld 0).num) (((g 0).fld 1).num) (((g 0).fld 2).num) (((g 0).fld 3).num) (((g 0).fld 4).num) (((g 0).fld 5).num) (((g 1).fld 0).num) (((g 1).fld 1).num) (((g 1).fld 2).num) (((g 1).fld 3).num) (((g 1).fld 4).num) (((g 1).fld 5).num) ((g 2).num)) := rowT_ok fun g => pcOf_ok mix fair T31_ok (inlO_ok mix fair T31_ok FS_ok (fun _ h => hOnce_ok once_ok h) 8) sallyportlaw2_InsnTellsP (fun c _ => OvOk_none c) (sallyportlaw2_InsnTellsE g) (sallyportlaw2_InsnTellsT (((g 0).fld 0).num) (((g 0).fld 1).num) (((g 0).fld 2).num) (((g 0).fld 3).num) (((g 0).fld 4).num) (((g 0).fld 5).num) (((g 1).fld 0).num) (((g 1).fld 1).num) (((g 1).fld 2).num) (((g 1).fld 3).num) (((g 1).fld 4).num) (((g 1).fld 5).num) ((g 2).num))
def T6 : List Row := (6, (rowF [(.agg [(.int .i64), (.int .i64), (.int .i64), (.int .i64), (.int .i64), (.int .i64)]), (.agg [(.int .i64), (.int .i64), (.int .i64), (.int .i64), (.int .i64), (.int .i64)]), (.int .i64)] none fun g => sallyportlaw2_InsnTellsV (((g 0).fld 0).num) (((g 0).fld 1).num) (((g 0).fld 2).num) (((g 0).fld 3).num) (((g 0).fld 4).num) (((g 0).fld 5).num) (((g 1).fld 0).num) (((g 1).fld 1).num) (((g 1).fld 2).num) (((g 1).fld 3).num) (((g 1).fld 4).num) (((g 1).fld 5).num) ((g 2).num))) :: T31
theorem T6_ok : PSound Try.prog (lookR T6) := lookR_cons sallyportlaw2_InsnTellsO T31_ok

/- sallyport/sallyportlaw2.InsnNames -/
def sallyportlaw2_InsnNames0 (a0 : Int) (a1 : Int) : Bool :=
  bif
      bif bif !(!sEq (insn_Name0 a0) []) == bif iLe 1 a0 then iLt a0 70 else false then true else !iLt 0 (insn_Class0 a0) == bif iLe 1 a0 then iLt a0 70 else false then true
      else iLt 12 (insn_Class0 a0) then
    false
  else
    bif
        bif sEq (insn_Name0 a0) (insn_Name0 a1) == bif iEq a0 a1 then true else bif sEq (insn_Name0 a0) [] then sEq (insn_Name0 a1) [] else false then
          iLt 0 (insn_Size0 a0) == bif bif iEq (insn_Class0 a0) 3 then true else iEq (insn_Class0 a0) 4 then true else iEq (insn_Class0 a0) 12
        else false then
      bif bif bif bif iEq (insn_Size0 a0) 0 then true else iEq (insn_Size0 a0) 1 then true else iEq (insn_Size0 a0) 2 then true else iEq (insn_Size0 a0) 4 then true else iEq (insn_Size0 a0) 8
    else false
def sallyportlaw2_InsnNamesG (a0 : Int) (a1 : Int) : Bool :=
  bif
      bif bif !(!sEq (insn_Name0 a0) []) == bif iLe 1 a0 then iLt a0 70 else false then true else !iLt 0 (insn_Class0 a0) == bif iLe 1 a0 then iLt a0 70 else false then true
      else iLt 12 (insn_Class0 a0) then
    true
  else true
def sallyportlaw2_InsnNamesV (a0 : Int) (a1 : Int) : AV := .bl (sallyportlaw2_InsnNames0 a0 a1)
theorem sallyportlaw2_InsnNamesE (g : Nat → AV) : pcOf Try.prog okT (lookR T6) (inlO Try.prog okT (lookR T6) RO FS 400 ST (hOnce Try.prog 41 55 21) 8) RO NOV 100 false Try.f7 (norms [(.int .i64), (.int .i64)] 0 g) = some (sallyportlaw2_InsnNamesG ((g 0).num) ((g 1).num), sallyportlaw2_InsnNamesV ((g 0).num) ((g 1).num)) := by kernel_rfl
theorem sallyportlaw2_InsnNamesP : Plain Try.prog 7 Try.f7 := ⟨Try.func7, of_decide_eq_true (by kernel_rfl)⟩
theorem sallyportlaw2_InsnNamesT (a0 : Int) (a1 : Int) : sallyportlaw2_InsnNamesG a0 a1 = true := by
  unfold sallyportlaw2_InsnNamesG
  simp only [Go.Ev.cS1, Go.Ev.cS2, Go.Ev.cS3, Go.Ev.cS4, Go.Ev.cS6, Go.Ev.cS7]
theorem sallyportlaw2_InsnNamesO : RowOk Try.prog 7 (rowF [(.int .i64), (.int .i64)] none fun g => sallyportlaw2_InsnNamesV ((g 0).num) ((g 1).num)) := rowT_ok fun g => pcOf_ok mix fair T6_ok (inlO_ok mix fair T6_ok FS_ok (fun _ h => hOnce_ok once_ok h) 8) sallyportlaw2_InsnNamesP (fun c _ => OvOk_none c) (sallyportlaw2_InsnNamesE g) (sallyportlaw2_InsnNamesT ((g 0).num) ((g 1).num))
def T7 : List Row := (7, (rowF [(.int .i64), (.int .i64)] none fun g => sallyportlaw2_InsnNamesV ((g 0).num) ((g 1).num))) :: T6
theorem T7_ok : PSound Try.prog (lookR T7) := lookR_cons sallyportlaw2_InsnNamesO T6_ok

/- sallyport/sallyportlaw2.InsnFields -/
def sallyportlaw2_InsnFields0 (a0_Op : Int) (a0_Rd : Int) (a0_Rs1 : Int) (a0_Rs2 : Int) (a0_Imm : Int) (a0_CSR : Int) (a1 : Int) : Bool :=
  bif !insn_Is0 a0_Op a0_Rd a0_Rs1 a0_Rs2 a0_Imm a0_CSR then iEq (insn_Writes0 a0_Op a0_Rd a0_Rs1 a0_Rs2 a0_Imm a0_CSR) 0
  else
    bif iEq (iRem a1 6) 0 then
      bif bif !insn_Is0 a0_Op 32 a0_Rs1 a0_Rs2 a0_Imm a0_CSR then iEq (insn_Writes0 a0_Op 32 a0_Rs1 a0_Rs2 a0_Imm a0_CSR) 0 else false then
        !insn_Same0 a0_Op a0_Rd a0_Rs1 a0_Rs2 a0_Imm a0_CSR a0_Op 32 a0_Rs1 a0_Rs2 a0_Imm a0_CSR
      else false
    else
      bif iEq (iRem a1 6) 1 then
        bif bif !insn_Is0 a0_Op a0_Rd (-1) a0_Rs2 a0_Imm a0_CSR then iEq (insn_Writes0 a0_Op a0_Rd (-1) a0_Rs2 a0_Imm a0_CSR) 0 else false then
          !insn_Same0 a0_Op a0_Rd a0_Rs1 a0_Rs2 a0_Imm a0_CSR a0_Op a0_Rd (-1) a0_Rs2 a0_Imm a0_CSR
        else false
      else
        bif iEq (iRem a1 6) 2 then
          bif bif !insn_Is0 a0_Op a0_Rd a0_Rs1 32 a0_Imm a0_CSR then iEq (insn_Writes0 a0_Op a0_Rd a0_Rs1 32 a0_Imm a0_CSR) 0 else false then
            !insn_Same0 a0_Op a0_Rd a0_Rs1 a0_Rs2 a0_Imm a0_CSR a0_Op a0_Rd a0_Rs1 32 a0_Imm a0_CSR
          else false
        else
          bif iEq (iRem a1 6) 3 then
            bif bif !insn_Is0 a0_Op a0_Rd a0_Rs1 a0_Rs2 a0_Imm 4096 then iEq (insn_Writes0 a0_Op a0_Rd a0_Rs1 a0_Rs2 a0_Imm 4096) 0 else false then
              !insn_Same0 a0_Op a0_Rd a0_Rs1 a0_Rs2 a0_Imm a0_CSR a0_Op a0_Rd a0_Rs1 a0_Rs2 a0_Imm 4096
            else false
          else
            bif iEq (iRem a1 6) 4 then
              bif bif !insn_Is0 a0_Op a0_Rd a0_Rs1 a0_Rs2 2147483648 a0_CSR then iEq (insn_Writes0 a0_Op a0_Rd a0_Rs1 a0_Rs2 2147483648 a0_CSR) 0 else false then
                !insn_Same0 a0_Op a0_Rd a0_Rs1 a0_Rs2 a0_Imm a0_CSR a0_Op a0_Rd a0_Rs1 a0_Rs2 2147483648 a0_CSR
              else false
            else
              bif bif !insn_Is0 70 a0_Rd a0_Rs1 a0_Rs2 a0_Imm a0_CSR then iEq (insn_Writes0 70 a0_Rd a0_Rs1 a0_Rs2 a0_Imm a0_CSR) 0 else false then
                !insn_Same0 a0_Op a0_Rd a0_Rs1 a0_Rs2 a0_Imm a0_CSR 70 a0_Rd a0_Rs1 a0_Rs2 a0_Imm a0_CSR
              else false
def sallyportlaw2_InsnFieldsG (a0_Op : Int) (a0_Rd : Int) (a0_Rs1 : Int) (a0_Rs2 : Int) (a0_Imm : Int) (a0_CSR : Int) (a1 : Int) : Bool :=
  bif !insn_Is0 a0_Op a0_Rd a0_Rs1 a0_Rs2 a0_Imm a0_CSR then true
  else bif iEq (iRem a1 6) 0 then true else bif iEq (iRem a1 6) 1 then true else bif iEq (iRem a1 6) 2 then true else bif iEq (iRem a1 6) 3 then true else bif iEq (iRem a1 6) 4 then true else true
def sallyportlaw2_InsnFieldsV (a0_Op : Int) (a0_Rd : Int) (a0_Rs1 : Int) (a0_Rs2 : Int) (a0_Imm : Int) (a0_CSR : Int) (a1 : Int) : AV := .bl (sallyportlaw2_InsnFields0 a0_Op a0_Rd a0_Rs1 a0_Rs2 a0_Imm a0_CSR a1)
theorem sallyportlaw2_InsnFieldsE (g : Nat → AV) : pcOf Try.prog okT (lookR T7) (inlO Try.prog okT (lookR T7) RO FS 400 ST (hOnce Try.prog 41 55 21) 8) RO NOV 100 false Try.f8 (norms [(.agg [(.int .i64), (.int .i64), (.int .i64), (.int .i64), (.int .i64), (.int .i64)]), (.int .u8)] 0 g) = some (sallyportlaw2_InsnFieldsG (((g 0).fld 0).num) (((g 0).fld 1).num) (((g 0).fld 2).num) (((g 0).fld 3).num) (((g 0).fld 4).num) (((g 0).fld 5).num) ((g 1).num), sallyportlaw2_InsnFieldsV (((g 0).fld 0).num) (((g 0).fld 1).num) (((g 0).fld 2).num) (((g 0).fld 3).num) (((g 0).fld 4).num) (((g 0).fld 5).num) ((g 1).num)) := by kernel_rfl
theorem sallyportlaw2_InsnFieldsP : Plain Try.prog 8 Try.f8 := ⟨Try.func8, of_decide_eq_true (by kernel_rfl)⟩
theorem sallyportlaw2_InsnFieldsT (a0_Op : Int) (a0_Rd : Int) (a0_Rs1 : Int) (a0_Rs2 : Int) (a0_Imm : Int) (a0_CSR : Int) (a1 : Int) : sallyportlaw2_InsnFieldsG a0_Op a0_Rd a0_Rs1 a0_Rs2 a0_Imm a0_CSR a1 = true := by
  unfold sallyportlaw2_InsnFieldsG
  simp only [Go.Ev.cS1, Go.Ev.cS2, Go.Ev.cS3, Go.Ev.cS4, Go.Ev.cS6, Go.Ev.cS7]
theorem sallyportlaw2_InsnFieldsO : RowOk Try.prog 8 (rowF [(.agg [(.int .i64), (.int .i64), (.int .i64), (.int .i64), (.int .i64), (.int .i64)]), (.int .u8)] none fun g => sallyportlaw2_InsnFieldsV (((g 0).fld 0).num) (((g 0).fld 1).num) (((g 0).fld 2).num) (((g 0).fld 3).num) (((g 0).fld 4).num) (((g 0).fld 5).num) ((g 1).num)) := rowT_ok fun g => pcOf_ok mix fair T7_ok (inlO_ok mix fair T7_ok FS_ok (fun _ h => hOnce_ok once_ok h) 8) sallyportlaw2_InsnFieldsP (fun c _ => OvOk_none c) (sallyportlaw2_InsnFieldsE g) (sallyportlaw2_InsnFieldsT (((g 0).fld 0).num) (((g 0).fld 1).num) (((g 0).fld 2).num) (((g 0).fld 3).num) (((g 0).fld 4).num) (((g 0).fld 5).num) ((g 1).num))
def T8 : List Row := (8, (rowF [(.agg [(.int .i64), (.int .i64), (.int .i64), (.int .i64), (.int .i64), (.int .i64)]), (.int .u8)] none fun g => sallyportlaw2_InsnFieldsV (((g 0).fld 0).num) (((g 0).fld 1).num) (((g 0).fld 2).num) (((g 0).fld 3).num) (((g 0).fld 4).num) (((g 0).fld 5).num) ((g 1).num))) :: T7
theorem T8_ok : PSound Try.prog (lookR T8) := lookR_cons sallyportlaw2_InsnFieldsO T7_ok

/- sallyport/sallyportlaw2.InsnReads -/
def sallyportlaw2_InsnReads0 (a0_Op : Int) (a0_Rd : Int) (a0_Rs1 : Int) (a0_Rs2 : Int) (a0_Imm : Int) (a0_CSR : Int) : Bool :=
  bif !insn_Is0 a0_Op a0_Rd a0_Rs1 a0_Rs2 a0_Imm a0_CSR then
    bif bif iEq (insn_Reads0 a0_Op a0_Rd a0_Rs1 a0_Rs2 a0_Imm a0_CSR) 0 then iEq (insn_Reads1 a0_Op a0_Rd a0_Rs1 a0_Rs2 a0_Imm a0_CSR) 0 else false then
      iEq (insn_Writes0 a0_Op a0_Rd a0_Rs1 a0_Rs2 a0_Imm a0_CSR) 0
    else false
  else
    bif
        bif bif iNe (insn_Reads0 a0_Op a0_Rd a0_Rs1 a0_Rs2 a0_Imm a0_CSR) a0_Rs1 then true else iNe (insn_Reads1 a0_Op a0_Rd a0_Rs1 a0_Rs2 a0_Imm a0_CSR) a0_Rs2 then true
        else iNe (insn_Writes0 a0_Op a0_Rd a0_Rs1 a0_Rs2 a0_Imm a0_CSR) a0_Rd then
      false
    else
      bif
          bif
              bif
                  bif bif bif iNe (insn_Class0 a0_Op) 7 then iNe (insn_Class0 a0_Op) 8 else false then iNe (insn_Class0 a0_Op) 10 else false then true
                  else
                    bif bif iEq (insn_Reads0 a0_Op a0_Rd a0_Rs1 a0_Rs2 a0_Imm a0_CSR) 0 then iEq (insn_Reads1 a0_Op a0_Rd a0_Rs1 a0_Rs2 a0_Imm a0_CSR) 0 else false then
                      iEq (insn_Writes0 a0_Op a0_Rd a0_Rs1 a0_Rs2 a0_Imm a0_CSR) 0
                    else false then
                bif bif bif iNe (insn_Class0 a0_Op) 2 then iNe (insn_Class0 a0_Op) 4 else false then iNe (insn_Class0 a0_Op) 11 else false then true
                else iEq (insn_Writes0 a0_Op a0_Rd a0_Rs1 a0_Rs2 a0_Imm a0_CSR) 0
              else false then
            bif iEq (insn_Class0 a0_Op) 9 then true else iEq a0_CSR 0
          else false then
        bif iNe (insn_Class0 a0_Op) 6 then true else iEq a0_Imm 0
      else false
def sallyportlaw2_InsnReadsG (a0_Op : Int) (a0_Rd : Int) (a0_Rs1 : Int) (a0_Rs2 : Int) (a0_Imm : Int) (a0_CSR : Int) : Bool :=
  bif !insn_Is0 a0_Op a0_Rd a0_Rs1 a0_Rs2 a0_Imm a0_CSR then true
  else
    bif
        bif bif iNe (insn_Reads0 a0_Op a0_Rd a0_Rs1 a0_Rs2 a0_Imm a0_CSR) a0_Rs1 then true else iNe (insn_Reads1 a0_Op a0_Rd a0_Rs1 a0_Rs2 a0_Imm a0_CSR) a0_Rs2 then true
        else iNe (insn_Writes0 a0_Op a0_Rd a0_Rs1 a0_Rs2 a0_Imm a0_CSR) a0_Rd then
      true
    else true
def sallyportlaw2_InsnReadsV (a0_Op : Int) (a0_Rd : Int) (a0_Rs1 : Int) (a0_Rs2 : Int) (a0_Imm : Int) (a0_CSR : Int) : AV := .bl (sallyportlaw2_InsnReads0 a0_Op a0_Rd a0_Rs1 a0_Rs2 a0_Imm a0_CSR)
theorem sallyportlaw2_InsnReadsE (g : Nat → AV) : pcOf Try.prog okT (lookR T8) (inlO Try.prog okT (lookR T8) RO FS 400 ST (hOnce Try.prog 41 55 21) 8) RO NOV 100 false Try.f9 (norms [(.agg [(.int .i64), (.int .i64), (.int .i64), (.int .i64), (.int .i64), (.int .i64)])] 0 g) = some (sallyportlaw2_InsnReadsG (((g 0).fld 0).num) (((g 0).fld 1).num) (((g 0).fld 2).num) (((g 0).fld 3).num) (((g 0).fld 4).num) (((g 0).fld 5).num), sallyportlaw2_InsnReadsV (((g 0).fld 0).num) (((g 0).fld 1).num) (((g 0).fld 2).num) (((g 0).fld 3).num) (((g 0).fld 4).num) (((g 0).fld 5).num)) := by kernel_rfl
theorem sallyportlaw2_InsnReadsP : Plain Try.prog 9 Try.f9 := ⟨Try.func9, of_decide_eq_true (by kernel_rfl)⟩
theorem sallyportlaw2_InsnReadsT (a0_Op : Int) (a0_Rd : Int) (a0_Rs1 : Int) (a0_Rs2 : Int) (a0_Imm : Int) (a0_CSR : Int) : sallyportlaw2_InsnReadsG a0_Op a0_Rd a0_Rs1 a0_Rs2 a0_Imm a0_CSR = true := by
  unfold sallyportlaw2_InsnReadsG
  simp only [Go.Ev.cS1, Go.Ev.cS2, Go.Ev.cS3, Go.Ev.cS4, Go.Ev.cS6, Go.Ev.cS7]
theorem sallyportlaw2_InsnReadsO : RowOk Try.prog 9 (rowF [(.agg [(.int .i64), (.int .i64), (.int .i64), (.int .i64), (.int .i64), (.int .i64)])] none fun g => sallyportlaw2_InsnReadsV (((g 0).fld 0).num) (((g 0).fld 1).num) (((g 0).fld 2).num) (((g 0).fld 3).num) (((g 0).fld 4).num) (((g 0).fld 5).num)) := rowT_ok fun g => pcOf_ok mix fair T8_ok (inlO_ok mix fair T8_ok FS_ok (fun _ h => hOnce_ok once_ok h) 8) sallyportlaw2_InsnReadsP (fun c _ => OvOk_none c) (sallyportlaw2_InsnReadsE g) (sallyportlaw2_InsnReadsT (((g 0).fld 0).num) (((g 0).fld 1).num) (((g 0).fld 2).num) (((g 0).fld 3).num) (((g 0).fld 4).num) (((g 0).fld 5).num))
def T9 : List Row := (9, (rowF [(.agg [(.int .i64), (.int .i64), (.int .i64), (.int .i64), (.int .i64), (.int .i64)])] none fun g => sallyportlaw2_InsnReadsV (((g 0).fld 0).num) (((g 0).fld 1).num) (((g 0).fld 2).num) (((g 0).fld 3).num) (((g 0).fld 4).num) (((g 0).fld 5).num))) :: T8
theorem T9_ok : PSound Try.prog (lookR T9) := lookR_cons sallyportlaw2_InsnReadsO T8_ok

/- sallyport/sallyportlaw2.InsnClasses -/
def sallyportlaw2_InsnClasses0 (a0 : Int) : Bool :=
  bif bif iLt a0 1 then true else iLe 69 a0 then bif iEq (insn_Class0 a0) 0 then true else bif iEq a0 69 then iEq (insn_Class0 a0) 12 else false
  else
    bif
        bif iLe 1 (insn_Class0 a0) then bif iEq (insn_Class0 (iAdd IntKind.i64 a0 1)) (insn_Class0 a0) then true else iEq (insn_Class0 (iAdd IntKind.i64 a0 1)) (iAdd IntKind.i64 (insn_Class0 a0) 1)
        else false then
      iEq (insn_Class0 (iSub IntKind.i64 0 a0)) 0
    else false
def sallyportlaw2_InsnClasses0r (a0 : Int) : Bool :=
  bif bif iLt a0 1 then true else iLe 69 a0 then bif iEq (insn_Class0 a0) 0 then true else bif iEq a0 69 then iEq (insn_Class0 a0) 12 else false
  else
    bif
        bif
            bif
                bif iLe 1 (insn_Class0 a0) then
                  bif iEq (insn_Class0 (iAdd IntKind.i64 a0 1)) (insn_Class0 a0) then true else iEq (insn_Class0 (iAdd IntKind.i64 a0 1)) (iAdd IntKind.i64 (insn_Class0 a0) 1)
                else false then
              true
            else false then
          true
        else false then
      iEq (insn_Class0 (iSub IntKind.i64 0 a0)) 0
    else false
def sallyportlaw2_InsnClassesG (a0 : Int) : Bool :=
  bif bif iLt a0 1 then true else iLe 69 a0 then true else true
theorem sallyportlaw2_InsnClasses0_eq (a0 : Int)  : sallyportlaw2_InsnClasses0r a0  = sallyportlaw2_InsnClasses0 a0  := by
  unfold sallyportlaw2_InsnClasses0r
  first | (simp only [Go.Ev.cS1, Go.Ev.cS2, Go.Ev.cS3, Go.Ev.cS4, Go.Ev.cS6, Go.Ev.cS7]; done) | (simp only [Go.Ev.cS1, Go.Ev.cS2, Go.Ev.cS3, Go.Ev.cS4, Go.Ev.cS6, Go.Ev.cS7]; kernel_rfl)
def sallyportlaw2_InsnClassesV (a0 : Int) : AV := .bl (sallyportlaw2_InsnClasses0 a0)
def sallyportlaw2_InsnClassesVr (a0 : Int) : AV := .bl (sallyportlaw2_InsnClasses0r a0)
theorem sallyportlaw2_InsnClassesV_eq (a0 : Int) : sallyportlaw2_InsnClassesVr a0 = sallyportlaw2_InsnClassesV a0 := by
  unfold sallyportlaw2_InsnClassesVr sallyportlaw2_InsnClassesV
  simp only [sallyportlaw2_InsnClasses0_eq]
theorem sallyportlaw2_InsnClassesE (g : Nat → AV) : pcOf Try.prog okT (lookR T9) (inlO Try.prog okT (lookR T9) RO FS 400 ST (hOnce Try.prog 41 55 21) 8) RO NOV 100 false Try.f10 (norms [(.int .i64)] 0 g) = some (sallyportlaw2_InsnClassesG ((g 0).num), sallyportlaw2_InsnClassesV ((g 0).num)) :=
  (by kernel_rfl : pcOf Try.prog okT (lookR T9) (inlO Try.prog okT (lookR T9) RO FS 400 ST (hOnce Try.prog 41 55 21) 8) RO NOV 100 false Try.f10 (norms [(.int .i64)] 0 g) = some (sallyportlaw2_InsnClassesG ((g 0).num), sallyportlaw2_InsnClassesVr ((g 0).num))).trans (by rw [sallyportlaw2_InsnClassesV_eq])
theorem sallyportlaw2_InsnClassesP : Plain Try.prog 10 Try.f10 := ⟨Try.func10, of_decide_eq_true (by kernel_rfl)⟩
theorem sallyportlaw2_InsnClassesT (a0 : Int) : sallyportlaw2_InsnClassesG a0 = true := by
  unfold sallyportlaw2_InsnClassesG
  simp only [Go.Ev.cS1, Go.Ev.cS2, Go.Ev.cS3, Go.Ev.cS4, Go.Ev.cS6, Go.Ev.cS7]
theorem sallyportlaw2_InsnClassesO : RowOk Try.prog 10 (rowF [(.int .i64)] none fun g => sallyportlaw2_InsnClassesV ((g 0).num)) := rowT_ok fun g => pcOf_ok mix fair T9_ok (inlO_ok mix fair T9_ok FS_ok (fun _ h => hOnce_ok once_ok h) 8) sallyportlaw2_InsnClassesP (fun c _ => OvOk_none c) (sallyportlaw2_InsnClassesE g) (sallyportlaw2_InsnClassesT ((g 0).num))
def T10 : List Row := (10, (rowF [(.int .i64)] none fun g => sallyportlaw2_InsnClassesV ((g 0).num))) :: T9
theorem T10_ok : PSound Try.prog (lookR T10) := lookR_cons sallyportlaw2_InsnClassesO T9_ok

end
end Go.Proofs.Ytihmjmaabednjaa.PV
