/-
  What functions of the program and of the document yield, evaluated (sallyportref11.Make .. sallyportref11.May). Printed by a program of the prover's own (wip/prt).
-/
import Derived.Test.YtjnpaegoobclfaaDoorRows
import Derived.Test.YtjnpaegoobclfaaDoorEvW
import Derived.Test.YtjnpaegoobclfaaDoorGa
set_option linter.unusedVariables false
set_option linter.unusedSimpArgs false
namespace Go.Proofs.YtjnpaegoobclfaaDoor.PV
noncomputable section
open Go Go.Ev
/- sallyport/sallyportref11.Make -/
def sallyportref11_Make0 (a0 : Int) (a1 : Int) : Int :=
  iOr IntKind.u64 (iShl IntKind.u64 (iConv IntKind.u64 (iAnd IntKind.i64 a0 255)) 8) (iConv IntKind.u64 (iAnd IntKind.i64 a1 255))
def sallyportref11_MakeG (a0 : Int) (a1 : Int) : Bool :=
  true
def sallyportref11_MakeV (a0 : Int) (a1 : Int) : AV := .it .u64 (sallyportref11_Make0 a0 a1)
theorem sallyportref11_MakeE (g : Nat → AV) : pcOf Tryd.prog okT (lookR T6) (inl Tryd.prog okT (lookR T6) RO FS 100 ST 6) RO NOV 100 false Tryd.f9 (norms [(.int .i64), (.int .i64)] 0 g) = some (sallyportref11_MakeG ((g 0).num) ((g 1).num), sallyportref11_MakeV ((g 0).num) ((g 1).num)) := by kernel_rfl
theorem sallyportref11_MakeP : Plain Tryd.prog 9 Tryd.f9 := ⟨Tryd.func9, of_decide_eq_true (by kernel_rfl)⟩
theorem sallyportref11_MakeT (a0 : Int) (a1 : Int) : sallyportref11_MakeG a0 a1 = true := rfl
theorem sallyportref11_MakeO : RowOk Tryd.prog 9 (rowF [(.int .i64), (.int .i64)] none fun g => sallyportref11_MakeV ((g 0).num) ((g 1).num)) := rowT_ok fun g => pcOf_ok mix fair T6_ok (inl_ok mix fair T6_ok FS_ok 6) sallyportref11_MakeP (fun c _ => OvOk_none c) (sallyportref11_MakeE g) (sallyportref11_MakeT ((g 0).num) ((g 1).num))
def T9 : List Row := (9, (rowF [(.int .i64), (.int .i64)] none fun g => sallyportref11_MakeV ((g 0).num) ((g 1).num))) :: T6
theorem T9_ok : PSound Tryd.prog (lookR T9) := lookR_cons sallyportref11_MakeO T6_ok

/- sallyport/sallyportref11.Frame -/
def sallyportref11_Frame0 (a0 : Int) : Int :=
  iConv IntKind.i64 (iAnd IntKind.u64 (iShr IntKind.u64 a0 8) 255)
def sallyportref11_FrameG (a0 : Int) : Bool :=
  true
def sallyportref11_FrameV (a0 : Int) : AV := .it .i64 (sallyportref11_Frame0 a0)
theorem sallyportref11_FrameE (g : Nat → AV) : pcOf Tryd.prog okT (lookR T9) (inl Tryd.prog okT (lookR T9) RO FS 100 ST 6) RO NOV 100 false Tryd.f11 (norms [(.int .u64)] 0 g) = some (sallyportref11_FrameG ((g 0).num), sallyportref11_FrameV ((g 0).num)) := by kernel_rfl
theorem sallyportref11_FrameP : Plain Tryd.prog 11 Tryd.f11 := ⟨Tryd.func11, of_decide_eq_true (by kernel_rfl)⟩
theorem sallyportref11_FrameT (a0 : Int) : sallyportref11_FrameG a0 = true := rfl
theorem sallyportref11_FrameO : RowOk Tryd.prog 11 (rowF [(.int .u64)] none fun g => sallyportref11_FrameV ((g 0).num)) := rowT_ok fun g => pcOf_ok mix fair T9_ok (inl_ok mix fair T9_ok FS_ok 6) sallyportref11_FrameP (fun c _ => OvOk_none c) (sallyportref11_FrameE g) (sallyportref11_FrameT ((g 0).num))
def T11 : List Row := (11, (rowF [(.int .u64)] none fun g => sallyportref11_FrameV ((g 0).num))) :: T9
theorem T11_ok : PSound Tryd.prog (lookR T11) := lookR_cons sallyportref11_FrameO T9_ok

/- sallyport/sallyportref11.Is -/
def sallyportref11_Is0 (a0 : Int) : Bool :=
  bif bif bif iEq (iAnd IntKind.u64 a0 1) 1 then bif iEq (iAnd IntKind.u64 a0 4) 0 then true else iNe (iAnd IntKind.u64 a0 2) 0 else false then iEq (iShr IntKind.u64 a0 16) 0 else false then
    iEq (iAnd IntKind.u64 a0 32) 0
  else false
def sallyportref11_IsG (a0 : Int) : Bool :=
  true
def sallyportref11_IsV (a0 : Int) : AV := .bl (sallyportref11_Is0 a0)
theorem sallyportref11_IsE (g : Nat → AV) : pcOf Tryd.prog okT (lookR T11) (inl Tryd.prog okT (lookR T11) RO FS 100 ST 6) RO NOV 100 false Tryd.f13 (norms [(.int .u64)] 0 g) = some (sallyportref11_IsG ((g 0).num), sallyportref11_IsV ((g 0).num)) := by kernel_rfl
theorem sallyportref11_IsP : Plain Tryd.prog 13 Tryd.f13 := ⟨Tryd.func13, of_decide_eq_true (by kernel_rfl)⟩
theorem sallyportref11_IsT (a0 : Int) : sallyportref11_IsG a0 = true := rfl
theorem sallyportref11_IsO : RowOk Tryd.prog 13 (rowF [(.int .u64)] none fun g => sallyportref11_IsV ((g 0).num)) := rowT_ok fun g => pcOf_ok mix fair T11_ok (inl_ok mix fair T11_ok FS_ok 6) sallyportref11_IsP (fun c _ => OvOk_none c) (sallyportref11_IsE g) (sallyportref11_IsT ((g 0).num))
def T13 : List Row := (13, (rowF [(.int .u64)] none fun g => sallyportref11_IsV ((g 0).num))) :: T11
theorem T13_ok : PSound Tryd.prog (lookR T13) := lookR_cons sallyportref11_IsO T11_ok

/- sallyport/sallyportref11.Leaf -/
def sallyportref11_Leaf0 (a0 : Int) : Bool :=
  bif sallyportref11_Is0 a0 then iNe (iAnd IntKind.u64 a0 10) 0 else false
def sallyportref11_LeafG (a0 : Int) : Bool :=
  true
def sallyportref11_LeafV (a0 : Int) : AV := .bl (sallyportref11_Leaf0 a0)
theorem sallyportref11_LeafE (g : Nat → AV) : pcOf Tryd.prog okT (lookR T13) (inl Tryd.prog okT (lookR T13) RO FS 100 ST 6) RO NOV 100 false Tryd.f15 (norms [(.int .u64)] 0 g) = some (sallyportref11_LeafG ((g 0).num), sallyportref11_LeafV ((g 0).num)) := by kernel_rfl
theorem sallyportref11_LeafP : Plain Tryd.prog 15 Tryd.f15 := ⟨Tryd.func15, of_decide_eq_true (by kernel_rfl)⟩
theorem sallyportref11_LeafT (a0 : Int) : sallyportref11_LeafG a0 = true := rfl
theorem sallyportref11_LeafO : RowOk Tryd.prog 15 (rowF [(.int .u64)] none fun g => sallyportref11_LeafV ((g 0).num)) := rowT_ok fun g => pcOf_ok mix fair T13_ok (inl_ok mix fair T13_ok FS_ok 6) sallyportref11_LeafP (fun c _ => OvOk_none c) (sallyportref11_LeafE g) (sallyportref11_LeafT ((g 0).num))
def T15 : List Row := (15, (rowF [(.int .u64)] none fun g => sallyportref11_LeafV ((g 0).num))) :: T13
theorem T15_ok : PSound Tryd.prog (lookR T15) := lookR_cons sallyportref11_LeafO T13_ok

/- sallyport/sallyportref11.May -/
def sallyportref11_May0 (a0 : Int) (a1 : Int) (a2 : Bool) (a3 : Bool) (a4 : Bool) : Bool :=
  bif
      bif bif iEq (iAnd IntKind.i64 a0 64) 0 then true else bif a2 then iEq (iAnd IntKind.i64 a0 16) 0 else false then true
      else bif bif !a2 then iNe (iAnd IntKind.i64 a0 16) 0 else false then bif !a3 then true else iEq a1 0 else false then
    false
  else
    bif iEq a1 0 then iNe (iAnd IntKind.i64 a0 8) 0
    else
      bif iEq a1 1 then bif iNe (iAnd IntKind.i64 a0 2) 0 then true else bif a4 then iNe (iAnd IntKind.i64 a0 8) 0 else false
      else bif iEq a1 2 then bif iNe (iAnd IntKind.i64 a0 4) 0 then iNe (iAnd IntKind.i64 a0 128) 0 else false else false
def sallyportref11_MayG (a0 : Int) (a1 : Int) (a2 : Bool) (a3 : Bool) (a4 : Bool) : Bool :=
  bif
      bif bif iEq (iAnd IntKind.i64 a0 64) 0 then true else bif a2 then iEq (iAnd IntKind.i64 a0 16) 0 else false then true
      else bif bif !a2 then iNe (iAnd IntKind.i64 a0 16) 0 else false then bif !a3 then true else iEq a1 0 else false then
    true
  else bif iEq a1 0 then true else bif iEq a1 1 then true else bif iEq a1 2 then true else true
def sallyportref11_MayV (a0 : Int) (a1 : Int) (a2 : Bool) (a3 : Bool) (a4 : Bool) : AV := .bl (sallyportref11_May0 a0 a1 a2 a3 a4)
theorem sallyportref11_MayE (g : Nat → AV) : pcOf Tryd.prog okT (lookR T15) (inl Tryd.prog okT (lookR T15) RO FS 100 ST 6) RO NOV 100 false Tryd.f17 (norms [(.int .i64), (.int .i64), .bool, .bool, .bool] 0 g) = some (sallyportref11_MayG ((g 0).num) ((g 1).num) ((g 2).bool) ((g 3).bool) ((g 4).bool), sallyportref11_MayV ((g 0).num) ((g 1).num) ((g 2).bool) ((g 3).bool) ((g 4).bool)) := by kernel_rfl
theorem sallyportref11_MayP : Plain Tryd.prog 17 Tryd.f17 := ⟨Tryd.func17, of_decide_eq_true (by kernel_rfl)⟩
theorem sallyportref11_MayT (a0 : Int) (a1 : Int) (a2 : Bool) (a3 : Bool) (a4 : Bool) : sallyportref11_MayG a0 a1 a2 a3 a4 = true := by
  unfold sallyportref11_MayG
  simp only [Go.Ev.cS1, Go.Ev.cS2, Go.Ev.cS3, Go.Ev.cS4, Go.Ev.cS6, Go.Ev.cS7]
theorem sallyportref11_MayO : RowOk Tryd.prog 17 (rowF [(.int .i64), (.int .i64), .bool, .bool, .bool] none fun g => sallyportref11_MayV ((g 0).num) ((g 1).num) ((g 2).bool) ((g 3).bool) ((g 4).bool)) := rowT_ok fun g => pcOf_ok mix fair T15_ok (inl_ok mix fair T15_ok FS_ok 6) sallyportref11_MayP (fun c _ => OvOk_none c) (sallyportref11_MayE g) (sallyportref11_MayT ((g 0).num) ((g 1).num) ((g 2).bool) ((g 3).bool) ((g 4).bool))
def T17 : List Row := (17, (rowF [(.int .i64), (.int .i64), .bool, .bool, .bool] none fun g => sallyportref11_MayV ((g 0).num) ((g 1).num) ((g 2).bool) ((g 3).bool) ((g 4).bool))) :: T15
theorem T17_ok : PSound Tryd.prog (lookR T17) := lookR_cons sallyportref11_MayO T15_ok

end
end Go.Proofs.YtjnpaegoobclfaaDoor.PV
