/-
  What functions of the program and of the document yield, evaluated (word.mask .. sallyportlaw10.PteUsers). Printed by a program of the prover's own (wip/prt).
-/
import Derived.Test.YtjnpaegoobclfaaDoorRows
import Derived.Test.YtjnpaegoobclfaaDoorEvW
set_option linter.unusedVariables false
set_option linter.unusedSimpArgs false
namespace Go.Proofs.YtjnpaegoobclfaaDoor.PV
noncomputable section
open Go Go.Ev
def okT : List TypeId := []
theorem fair : Go.Ev.Fair Tryd.prog okT :=
  ⟨fun t h => by (cases h), fun t h => by (cases h)⟩
theorem mix : Tryd.prog.follows .mixedOrders = true := Checked.mixed Tryd.checked
def RO : FuncId → Bool := fun _ => true
abbrev NOV : Ov := fun _ _ _ _ => none
abbrev NOH : Hd := fun _ _ _ _ => none
def T0 : List Row := []
theorem T0_ok : PSound Tryd.prog (lookR T0) := lookR_nil
def FS : List FuncId := [23, 18, 24, 28, 29, 30]
theorem FS_ok : Names Tryd.prog FS := names_of (by kernel_rfl)
def ST : FuncId → Bool := fun f => memN f [18, 24, 28, 29, 30]
/- sallyport/word.mask -/
def word_mask0 (a0 : Int) : Int :=
  bif iLe 64 a0 then 18446744073709551615 else iSub IntKind.u64 (iShl IntKind.u64 1 a0) 1
def word_maskG (a0 : Int) : Bool :=
  bif iLe 64 a0 then true else iLe 0 a0 && true
def word_maskV (a0 : Int) : AV := .it .u64 (word_mask0 a0)
theorem word_maskE (g : Nat → AV) : pcOf Tryd.prog okT (lookR T0) (inl Tryd.prog okT (lookR T0) RO FS 100 ST 6) RO NOV 100 false Tryd.f27 (norms [(.int .i64)] 0 g) = some (word_maskG ((g 0).num), word_maskV ((g 0).num)) := by kernel_rfl
theorem word_maskP : Plain Tryd.prog 27 Tryd.f27 := ⟨Tryd.func27, of_decide_eq_true (by kernel_rfl)⟩
theorem word_maskO : RowOk Tryd.prog 27 (rowF [(.int .i64)] (some fun g => word_maskG ((g 0).num)) fun g => word_maskV ((g 0).num)) := rowF_ok fun g hg => pcOf_ok mix fair T0_ok (inl_ok mix fair T0_ok FS_ok 6) word_maskP (fun c _ => OvOk_none c) (word_maskE g) hg
def T27 : List Row := (27, (rowF [(.int .i64)] (some fun g => word_maskG ((g 0).num)) fun g => word_maskV ((g 0).num))) :: T0
theorem T27_ok : PSound Tryd.prog (lookR T27) := lookR_cons word_maskO T0_ok

/- sallyport/word.Zext -/
def word_Zext0 (a0 : Int) (a1 : Int) : Int :=
  iAnd IntKind.u64 a0 (word_mask0 (iMin (iMax a1 1) 64))
def word_ZextG (a0 : Int) (a1 : Int) : Bool :=
  word_maskG (iMin (iMax a1 1) 64) && true
def word_ZextV (a0 : Int) (a1 : Int) : AV := .it .u64 (word_Zext0 a0 a1)
theorem word_ZextE (g : Nat → AV) : pcOf Tryd.prog okT (lookR T27) (inl Tryd.prog okT (lookR T27) RO FS 100 ST 6) RO NOV 100 false Tryd.f21 (norms [(.int .u64), (.int .i64)] 0 g) = some (word_ZextG ((g 0).num) ((g 1).num), word_ZextV ((g 0).num) ((g 1).num)) := by kernel_rfl
theorem word_ZextP : Plain Tryd.prog 21 Tryd.f21 := ⟨Tryd.func21, of_decide_eq_true (by kernel_rfl)⟩
theorem word_ZextO : RowOk Tryd.prog 21 (rowF [(.int .u64), (.int .i64)] (some fun g => word_ZextG ((g 0).num) ((g 1).num)) fun g => word_ZextV ((g 0).num) ((g 1).num)) := rowF_ok fun g hg => pcOf_ok mix fair T27_ok (inl_ok mix fair T27_ok FS_ok 6) word_ZextP (fun c _ => OvOk_none c) (word_ZextE g) hg
def T21 : List Row := (21, (rowF [(.int .u64), (.int .i64)] (some fun g => word_ZextG ((g 0).num) ((g 1).num)) fun g => word_ZextV ((g 0).num) ((g 1).num))) :: T27
theorem T21_ok : PSound Tryd.prog (lookR T21) := lookR_cons word_ZextO T27_ok

/- sallyport/word.part -/
def word_part0 (a0 : Int) (a1 : Int) : Int :=
  iMin (iMax a0 0) 63
def word_part1 (a0 : Int) (a1 : Int) : Int :=
  iMin (iMax a1 0) (iSub IntKind.i64 64 (iMin (iMax a0 0) 63))
def word_partG (a0 : Int) (a1 : Int) : Bool :=
  true
def word_partV (a0 : Int) (a1 : Int) : AV := .tup [.it .i64 (word_part0 a0 a1), .it .i64 (word_part1 a0 a1)]
theorem word_partE (g : Nat → AV) : pcOf Tryd.prog okT (lookR T21) (inl Tryd.prog okT (lookR T21) RO FS 100 ST 6) RO NOV 100 false Tryd.f26 (norms [(.int .i64), (.int .i64)] 0 g) = some (word_partG ((g 0).num) ((g 1).num), word_partV ((g 0).num) ((g 1).num)) := by kernel_rfl
theorem word_partP : Plain Tryd.prog 26 Tryd.f26 := ⟨Tryd.func26, of_decide_eq_true (by kernel_rfl)⟩
theorem word_partT (a0 : Int) (a1 : Int) : word_partG a0 a1 = true := rfl
theorem word_partO : RowOk Tryd.prog 26 (rowF [(.int .i64), (.int .i64)] none fun g => word_partV ((g 0).num) ((g 1).num)) := rowT_ok fun g => pcOf_ok mix fair T21_ok (inl_ok mix fair T21_ok FS_ok 6) word_partP (fun c _ => OvOk_none c) (word_partE g) (word_partT ((g 0).num) ((g 1).num))
def T26 : List Row := (26, (rowF [(.int .i64), (.int .i64)] none fun g => word_partV ((g 0).num) ((g 1).num))) :: T21
theorem T26_ok : PSound Tryd.prog (lookR T26) := lookR_cons word_partO T21_ok

theorem part0_in (a b : Int) : 0 ≤ word_part0 a b ∧ word_part0 a b ≤ 63 := by
  unfold word_part0; rw [iMin_eq, iMax_eq]; split <;> split <;> omega
theorem part1_in (a b : Int) : 0 ≤ word_part1 a b ∧ word_part1 a b ≤ 64 - word_part0 a b := by
  have h := part0_in a b
  have e : word_part1 a b = iMin (iMax b 0) (iSub .i64 64 (word_part0 a b)) := rfl
  rw [e, iSub_i64 (by omega) (by omega), iMin_eq, iMax_eq]; split <;> split <;> omega
/- sallyport/word.Set -/
def word_Set0 (a0 : Int) (a1 : Int) (a2 : Int) (a3 : Int) : Int :=
  iOr IntKind.u64 (iAndNot IntKind.u64 a0 (iShl IntKind.u64 (word_mask0 (word_part1 a1 a2)) (word_part0 a1 a2)))
    (iShl IntKind.u64 (iAnd IntKind.u64 a3 (word_mask0 (word_part1 a1 a2))) (word_part0 a1 a2))
def word_SetG (a0 : Int) (a1 : Int) (a2 : Int) (a3 : Int) : Bool :=
  word_maskG (word_part1 a1 a2) && (iLe 0 (word_part0 a1 a2) && (word_maskG (word_part1 a1 a2) && (iLe 0 (word_part0 a1 a2) && true)))
def word_SetV (a0 : Int) (a1 : Int) (a2 : Int) (a3 : Int) : AV := .it .u64 (word_Set0 a0 a1 a2 a3)
theorem word_SetE (g : Nat → AV) : pcOf Tryd.prog okT (lookR T26) (inl Tryd.prog okT (lookR T26) RO FS 100 ST 6) RO NOV 100 false Tryd.f20 (norms [(.int .u64), (.int .i64), (.int .i64), (.int .u64)] 0 g) = some (word_SetG ((g 0).num) ((g 1).num) ((g 2).num) ((g 3).num), word_SetV ((g 0).num) ((g 1).num) ((g 2).num) ((g 3).num)) := by kernel_rfl
theorem word_SetP : Plain Tryd.prog 20 Tryd.f20 := ⟨Tryd.func20, of_decide_eq_true (by kernel_rfl)⟩
theorem word_SetT (a0 : Int) (a1 : Int) (a2 : Int) (a3 : Int) : word_SetG a0 a1 a2 a3 = true := by unfold word_SetG word_maskG; have h0 := part0_in a1 a2; have h1 := part1_in a1 a2; simp [iLe_true.2 h0.1, iLe_true.2 h1.1]
theorem word_SetO : RowOk Tryd.prog 20 (rowF [(.int .u64), (.int .i64), (.int .i64), (.int .u64)] none fun g => word_SetV ((g 0).num) ((g 1).num) ((g 2).num) ((g 3).num)) := rowT_ok fun g => pcOf_ok mix fair T26_ok (inl_ok mix fair T26_ok FS_ok 6) word_SetP (fun c _ => OvOk_none c) (word_SetE g) (word_SetT ((g 0).num) ((g 1).num) ((g 2).num) ((g 3).num))
def T20 : List Row := (20, (rowF [(.int .u64), (.int .i64), (.int .i64), (.int .u64)] none fun g => word_SetV ((g 0).num) ((g 1).num) ((g 2).num) ((g 3).num))) :: T26
theorem T20_ok : PSound Tryd.prog (lookR T20) := lookR_cons word_SetO T26_ok

/- sallyport/pte.Make -/
def pte_Make0 (a0 : Int) (a1 : Int) : Int :=
  word_Set0 (word_Zext0 (iConv IntKind.u64 a1) 8) 8 8 (iConv IntKind.u64 a0)
def pte_MakeG (a0 : Int) (a1 : Int) : Bool :=
  word_ZextG (iConv IntKind.u64 a1) 8 && true
def pte_MakeV (a0 : Int) (a1 : Int) : AV := .it .u64 (pte_Make0 a0 a1)
theorem pte_MakeE (g : Nat → AV) : pcOf Tryd.prog okT (lookR T20) (inl Tryd.prog okT (lookR T20) RO FS 100 ST 6) RO NOV 100 false Tryd.f8 (norms [(.int .i64), (.int .i64)] 0 g) = some (pte_MakeG ((g 0).num) ((g 1).num), pte_MakeV ((g 0).num) ((g 1).num)) := by kernel_rfl
theorem pte_MakeP : Plain Tryd.prog 8 Tryd.f8 := ⟨Tryd.func8, of_decide_eq_true (by kernel_rfl)⟩
theorem pte_MakeT (a0 : Int) (a1 : Int) : pte_MakeG a0 a1 = true := by
  have h : iMin (iMax 8 1) 64 = 8 := by decide
  unfold pte_MakeG word_ZextG word_maskG; rw [h]; decide
theorem pte_MakeO : RowOk Tryd.prog 8 (rowF [(.int .i64), (.int .i64)] none fun g => pte_MakeV ((g 0).num) ((g 1).num)) := rowT_ok fun g => pcOf_ok mix fair T20_ok (inl_ok mix fair T20_ok FS_ok 6) pte_MakeP (fun c _ => OvOk_none c) (pte_MakeE g) (pte_MakeT ((g 0).num) ((g 1).num))
def T8 : List Row := (8, (rowF [(.int .i64), (.int .i64)] none fun g => pte_MakeV ((g 0).num) ((g 1).num))) :: T20
theorem T8_ok : PSound Tryd.prog (lookR T8) := lookR_cons pte_MakeO T20_ok

/- sallyport/word.Bits -/
def word_Bits0 (a0 : Int) (a1 : Int) (a2 : Int) : Int :=
  iAnd IntKind.u64 (iShr IntKind.u64 a0 (word_part0 a1 a2)) (word_mask0 (word_part1 a1 a2))
def word_BitsG (a0 : Int) (a1 : Int) (a2 : Int) : Bool :=
  iLe 0 (word_part0 a1 a2) && (word_maskG (word_part1 a1 a2) && true)
def word_BitsV (a0 : Int) (a1 : Int) (a2 : Int) : AV := .it .u64 (word_Bits0 a0 a1 a2)
theorem word_BitsE (g : Nat → AV) : pcOf Tryd.prog okT (lookR T8) (inl Tryd.prog okT (lookR T8) RO FS 100 ST 6) RO NOV 100 false Tryd.f22 (norms [(.int .u64), (.int .i64), (.int .i64)] 0 g) = some (word_BitsG ((g 0).num) ((g 1).num) ((g 2).num), word_BitsV ((g 0).num) ((g 1).num) ((g 2).num)) := by kernel_rfl
theorem word_BitsP : Plain Tryd.prog 22 Tryd.f22 := ⟨Tryd.func22, of_decide_eq_true (by kernel_rfl)⟩
theorem word_BitsT (a0 : Int) (a1 : Int) (a2 : Int) : word_BitsG a0 a1 a2 = true := by unfold word_BitsG word_maskG; have h0 := part0_in a1 a2; have h1 := part1_in a1 a2; simp [iLe_true.2 h0.1, iLe_true.2 h1.1]
theorem word_BitsO : RowOk Tryd.prog 22 (rowF [(.int .u64), (.int .i64), (.int .i64)] none fun g => word_BitsV ((g 0).num) ((g 1).num) ((g 2).num)) := rowT_ok fun g => pcOf_ok mix fair T8_ok (inl_ok mix fair T8_ok FS_ok 6) word_BitsP (fun c _ => OvOk_none c) (word_BitsE g) (word_BitsT ((g 0).num) ((g 1).num) ((g 2).num))
def T22 : List Row := (22, (rowF [(.int .u64), (.int .i64), (.int .i64)] none fun g => word_BitsV ((g 0).num) ((g 1).num) ((g 2).num))) :: T8
theorem T22_ok : PSound Tryd.prog (lookR T22) := lookR_cons word_BitsO T8_ok

/- sallyport/pte.Frame -/
def pte_Frame0 (a0 : Int) : Int :=
  iConv IntKind.i64 (word_Bits0 a0 8 8)
def pte_FrameG (a0 : Int) : Bool :=
  true
def pte_FrameV (a0 : Int) : AV := .it .i64 (pte_Frame0 a0)
theorem pte_FrameE (g : Nat → AV) : pcOf Tryd.prog okT (lookR T22) (inl Tryd.prog okT (lookR T22) RO FS 100 ST 6) RO NOV 100 false Tryd.f10 (norms [(.int .u64)] 0 g) = some (pte_FrameG ((g 0).num), pte_FrameV ((g 0).num)) := by kernel_rfl
theorem pte_FrameP : Plain Tryd.prog 10 Tryd.f10 := ⟨Tryd.func10, of_decide_eq_true (by kernel_rfl)⟩
theorem pte_FrameT (a0 : Int) : pte_FrameG a0 = true := rfl
theorem pte_FrameO : RowOk Tryd.prog 10 (rowF [(.int .u64)] none fun g => pte_FrameV ((g 0).num)) := rowT_ok fun g => pcOf_ok mix fair T22_ok (inl_ok mix fair T22_ok FS_ok 6) pte_FrameP (fun c _ => OvOk_none c) (pte_FrameE g) (pte_FrameT ((g 0).num))
def T10 : List Row := (10, (rowF [(.int .u64)] none fun g => pte_FrameV ((g 0).num))) :: T22
theorem T10_ok : PSound Tryd.prog (lookR T10) := lookR_cons pte_FrameO T22_ok

/- sallyport/pte.Is -/
def pte_Is0 (a0 : Int) : Bool :=
  bif bif bif iNe (iAnd IntKind.u64 a0 1) 0 then bif iEq (iAnd IntKind.u64 a0 4) 0 then true else iNe (iAnd IntKind.u64 a0 2) 0 else false then iEq (iAnd IntKind.u64 a0 32) 0 else false then
    iEq (iShr IntKind.u64 a0 16) 0
  else false
def pte_IsG (a0 : Int) : Bool :=
  true
def pte_IsV (a0 : Int) : AV := .bl (pte_Is0 a0)
theorem pte_IsE (g : Nat → AV) : pcOf Tryd.prog okT (lookR T10) (inl Tryd.prog okT (lookR T10) RO FS 100 ST 6) RO NOV 100 false Tryd.f12 (norms [(.int .u64)] 0 g) = some (pte_IsG ((g 0).num), pte_IsV ((g 0).num)) := by kernel_rfl
theorem pte_IsP : Plain Tryd.prog 12 Tryd.f12 := ⟨Tryd.func12, of_decide_eq_true (by kernel_rfl)⟩
theorem pte_IsT (a0 : Int) : pte_IsG a0 = true := rfl
theorem pte_IsO : RowOk Tryd.prog 12 (rowF [(.int .u64)] none fun g => pte_IsV ((g 0).num)) := rowT_ok fun g => pcOf_ok mix fair T10_ok (inl_ok mix fair T10_ok FS_ok 6) pte_IsP (fun c _ => OvOk_none c) (pte_IsE g) (pte_IsT ((g 0).num))
def T12 : List Row := (12, (rowF [(.int .u64)] none fun g => pte_IsV ((g 0).num))) :: T10
theorem T12_ok : PSound Tryd.prog (lookR T12) := lookR_cons pte_IsO T10_ok

/- sallyport/pte.Leaf -/
def pte_Leaf0 (a0 : Int) : Bool :=
  bif pte_Is0 a0 then iNe (iAnd IntKind.u64 a0 10) 0 else false
def pte_LeafG (a0 : Int) : Bool :=
  true
def pte_LeafV (a0 : Int) : AV := .bl (pte_Leaf0 a0)
theorem pte_LeafE (g : Nat → AV) : pcOf Tryd.prog okT (lookR T12) (inl Tryd.prog okT (lookR T12) RO FS 100 ST 6) RO NOV 100 false Tryd.f14 (norms [(.int .u64)] 0 g) = some (pte_LeafG ((g 0).num), pte_LeafV ((g 0).num)) := by kernel_rfl
theorem pte_LeafP : Plain Tryd.prog 14 Tryd.f14 := ⟨Tryd.func14, of_decide_eq_true (by kernel_rfl)⟩
theorem pte_LeafT (a0 : Int) : pte_LeafG a0 = true := rfl
theorem pte_LeafO : RowOk Tryd.prog 14 (rowF [(.int .u64)] none fun g => pte_LeafV ((g 0).num)) := rowT_ok fun g => pcOf_ok mix fair T12_ok (inl_ok mix fair T12_ok FS_ok 6) pte_LeafP (fun c _ => OvOk_none c) (pte_LeafE g) (pte_LeafT ((g 0).num))
def T14 : List Row := (14, (rowF [(.int .u64)] none fun g => pte_LeafV ((g 0).num))) :: T12
theorem T14_ok : PSound Tryd.prog (lookR T14) := lookR_cons pte_LeafO T12_ok

/- sallyport/pte.May -/
def pte_May_c0 (a0 : Int) (a1 : Int) (a2 : Bool) (a3 : Bool) (a4 : Bool) : Bool :=
  bif !iEq (iAnd IntKind.i64 a0 2) 2 && a4 then iIn a1 3 && true else (!!iEq (iAnd IntKind.i64 a0 2) 2 || !a4) && (iIn a1 3 && true)
def pte_May_c1 (a0 : Int) (a1 : Int) (a2 : Bool) (a3 : Bool) (a4 : Bool) : Bool :=
  bif !iEq (iAnd IntKind.i64 a0 2) 2 && a4 then
    bif a1.toNat == 2 then iEq (iAnd IntKind.i64 a0 132) 132
    else bif a1.toNat == 1 then bif iEq (iAnd IntKind.i64 a0 2) 2 then true else bif a4 then iEq (iAnd IntKind.i64 a0 8) 8 else false else bif a1.toNat == 0 then iEq (iAnd IntKind.i64 a0 8) 8 else false
  else bif a1.toNat == 2 then iEq (iAnd IntKind.i64 a0 132) 132 else bif a1.toNat == 1 then iEq (iAnd IntKind.i64 a0 2) 2 else bif a1.toNat == 0 then iEq (iAnd IntKind.i64 a0 8) 8 else false
def pte_May_c2 (a0 : Int) (a1 : Int) (a2 : Bool) (a3 : Bool) (a4 : Bool) : Bool :=
  bif !iEq (iAnd IntKind.i64 a0 2) 2 && a4 then
    bif a1.toNat == 2 then iEq (iAnd IntKind.i64 a0 132) 132
    else bif a1.toNat == 1 then bif iEq (iAnd IntKind.i64 a0 2) 2 then true else bif a4 then iEq (iAnd IntKind.i64 a0 8) 8 else false else bif a1.toNat == 0 then iEq (iAnd IntKind.i64 a0 8) 8 else false
  else
    bif a1.toNat == 2 then iEq (iAnd IntKind.i64 a0 132) 132
    else bif a1.toNat == 1 then bif iEq (iAnd IntKind.i64 a0 2) 2 then true else false else bif a1.toNat == 0 then iEq (iAnd IntKind.i64 a0 8) 8 else false
def pte_May0 (a0 : Int) (a1 : Int) (a2 : Bool) (a3 : Bool) (a4 : Bool) : Bool :=
  bif !a2 then
    bif
        bif bif bif !iEq (iAnd IntKind.i64 a0 64) 64 then true else !bif !iEq (iAnd IntKind.i64 a0 16) 16 then true else bif a3 then iNe a1 0 else false then true else iLt a1 0 then true
        else iLt 2 a1 then
      false
    else pte_May_c1 a0 a1 a2 a3 a4
  else bif bif bif bif !iEq (iAnd IntKind.i64 a0 64) 64 then true else !iEq (iAnd IntKind.i64 a0 16) 16 then true else iLt a1 0 then true else iLt 2 a1 then false else pte_May_c1 a0 a1 a2 a3 a4
def pte_May0r (a0 : Int) (a1 : Int) (a2 : Bool) (a3 : Bool) (a4 : Bool) : Bool :=
  bif !a2 then
    bif
        bif bif bif !iEq (iAnd IntKind.i64 a0 64) 64 then true else !bif !iEq (iAnd IntKind.i64 a0 16) 16 then true else bif a3 then iNe a1 0 else false then true else iLt a1 0 then true
        else iLt 2 a1 then
      false
    else pte_May_c2 a0 a1 a2 a3 a4
  else bif bif bif bif !iEq (iAnd IntKind.i64 a0 64) 64 then true else !iEq (iAnd IntKind.i64 a0 16) 16 then true else iLt a1 0 then true else iLt 2 a1 then false else pte_May_c2 a0 a1 a2 a3 a4
def pte_MayG (a0 : Int) (a1 : Int) (a2 : Bool) (a3 : Bool) (a4 : Bool) : Bool :=
  bif !a2 then
    bif
        bif bif bif !iEq (iAnd IntKind.i64 a0 64) 64 then true else !bif !iEq (iAnd IntKind.i64 a0 16) 16 then true else bif a3 then iNe a1 0 else false then true else iLt a1 0 then true
        else iLt 2 a1 then
      true
    else pte_May_c0 a0 a1 a2 a3 a4
  else bif bif bif bif !iEq (iAnd IntKind.i64 a0 64) 64 then true else !iEq (iAnd IntKind.i64 a0 16) 16 then true else iLt a1 0 then true else iLt 2 a1 then true else pte_May_c0 a0 a1 a2 a3 a4
theorem pte_May0_eq (a0 : Int) (a1 : Int) (a2 : Bool) (a3 : Bool) (a4 : Bool)  : pte_May0r a0 a1 a2 a3 a4  = pte_May0 a0 a1 a2 a3 a4  := by
  unfold pte_May0r
  first | (simp only [pte_May_c0, pte_May_c1, pte_May_c2, Go.Ev.cS1, Go.Ev.cS2, Go.Ev.cS3, Go.Ev.cS4, Go.Ev.cS6, Go.Ev.cS7]; done) | (simp only [pte_May_c0, pte_May_c1, pte_May_c2, Go.Ev.cS1, Go.Ev.cS2, Go.Ev.cS3, Go.Ev.cS4, Go.Ev.cS6, Go.Ev.cS7]; kernel_rfl)
def pte_MayV (a0 : Int) (a1 : Int) (a2 : Bool) (a3 : Bool) (a4 : Bool) : AV := .bl (pte_May0 a0 a1 a2 a3 a4)
def pte_MayVr (a0 : Int) (a1 : Int) (a2 : Bool) (a3 : Bool) (a4 : Bool) : AV := .bl (pte_May0r a0 a1 a2 a3 a4)
theorem pte_MayV_eq (a0 : Int) (a1 : Int) (a2 : Bool) (a3 : Bool) (a4 : Bool) : pte_MayVr a0 a1 a2 a3 a4 = pte_MayV a0 a1 a2 a3 a4 := by
  unfold pte_MayVr pte_MayV
  simp only [pte_May0_eq]
theorem pte_MayE (g : Nat → AV) : pcOf Tryd.prog okT (lookR T14) (inl Tryd.prog okT (lookR T14) RO FS 100 ST 6) RO NOV 100 false Tryd.f16 (norms [(.int .i64), (.int .i64), .bool, .bool, .bool] 0 g) = some (pte_MayG ((g 0).num) ((g 1).num) ((g 2).bool) ((g 3).bool) ((g 4).bool), pte_MayV ((g 0).num) ((g 1).num) ((g 2).bool) ((g 3).bool) ((g 4).bool)) :=
  (by kernel_rfl : pcOf Tryd.prog okT (lookR T14) (inl Tryd.prog okT (lookR T14) RO FS 100 ST 6) RO NOV 100 false Tryd.f16 (norms [(.int .i64), (.int .i64), .bool, .bool, .bool] 0 g) = some (pte_MayG ((g 0).num) ((g 1).num) ((g 2).bool) ((g 3).bool) ((g 4).bool), pte_MayVr ((g 0).num) ((g 1).num) ((g 2).bool) ((g 3).bool) ((g 4).bool))).trans (by rw [pte_MayV_eq])
theorem pte_MayP : Plain Tryd.prog 16 Tryd.f16 := ⟨Tryd.func16, of_decide_eq_true (by kernel_rfl)⟩
theorem pte_MayT (a0 : Int) (a1 : Int) (a2 : Bool) (a3 : Bool) (a4 : Bool) : pte_MayG a0 a1 a2 a3 a4 = true := by
  unfold pte_MayG
  cases h1 : iLt a1 0 with
  | true => cases a2 <;> simp
  | false =>
    cases h2 : iLt 2 a1 with
    | true => cases a2 <;> simp
    | false =>
      have h3 : iIn a1 3 = true := iIn_true.2 ⟨iLt_false.1 h1, by have := iLt_false.1 h2; omega⟩
      unfold pte_May_c0
      rw [h3]
      cases (iEq (iAnd IntKind.i64 a0 2) 2) <;> cases a4 <;> cases a2 <;> simp
theorem pte_MayO : RowOk Tryd.prog 16 (rowF [(.int .i64), (.int .i64), .bool, .bool, .bool] none fun g => pte_MayV ((g 0).num) ((g 1).num) ((g 2).bool) ((g 3).bool) ((g 4).bool)) := rowT_ok fun g => pcOf_ok mix fair T14_ok (inl_ok mix fair T14_ok FS_ok 6) pte_MayP (fun c _ => OvOk_none c) (pte_MayE g) (pte_MayT ((g 0).num) ((g 1).num) ((g 2).bool) ((g 3).bool) ((g 4).bool))
def T16 : List Row := (16, (rowF [(.int .i64), (.int .i64), .bool, .bool, .bool] none fun g => pte_MayV ((g 0).num) ((g 1).num) ((g 2).bool) ((g 3).bool) ((g 4).bool))) :: T14
theorem T16_ok : PSound Tryd.prog (lookR T16) := lookR_cons pte_MayO T14_ok

/- sallyport/sallyportlaw10.known -/
def sallyportlaw10_knownG  : Bool :=
  true
def sallyportlaw10_knownV  : AV := .bl true
theorem sallyportlaw10_knownE (g : Nat → AV) : pcOf Tryd.prog okT (lookR T16) (inl Tryd.prog okT (lookR T16) RO FS 100 ST 6) RO NOV 100 true Tryd.f7 (norms [] 0 g) = some (sallyportlaw10_knownG , sallyportlaw10_knownV ) := by kernel_rfl
theorem sallyportlaw10_knownP : Plain Tryd.prog 7 Tryd.f7 := ⟨Tryd.func7, of_decide_eq_true (by kernel_rfl)⟩
theorem sallyportlaw10_knownT  : sallyportlaw10_knownG  = true := rfl
theorem sallyportlaw10_knownO : RowOk Tryd.prog 7 (rowF [] none fun g => sallyportlaw10_knownV ) := rowT_ok fun g => pcOf_ok mix fair T16_ok (inl_ok mix fair T16_ok FS_ok 6) sallyportlaw10_knownP (fun c _ => OvOk_none c) (sallyportlaw10_knownE g) (sallyportlaw10_knownT )
def T7 : List Row := (7, (rowF [] none fun g => sallyportlaw10_knownV )) :: T16
theorem T7_ok : PSound Tryd.prog (lookR T7) := lookR_cons sallyportlaw10_knownO T16_ok

/- sallyport/sallyportlaw10.PteLess -/
def sallyportlaw10_PteLess0 (a0 : Int) (a1 : Int) (a2 : Int) (a3 : Bool) (a4 : Bool) (a5 : Bool) : Bool :=
  bif
      bif pte_May0 (iAndNot IntKind.i64 (iConv IntKind.i64 a0) (iAndNot IntKind.i64 (iConv IntKind.i64 a1) 16)) (iConv IntKind.i64 (iRem a2 3)) a3 a4 a5 then
        !pte_May0 (iConv IntKind.i64 a0) (iConv IntKind.i64 (iRem a2 3)) a3 a4 a5
      else false then
    false
  else
    bif
        bif
            bif bif !pte_May0 (iConv IntKind.i64 a0) (iConv IntKind.i64 (iRem a2 3)) a3 a4 a5 then true else iNe (iAnd IntKind.i64 (iConv IntKind.i64 a0) 64) 0 then
              bif bif !pte_May0 (iConv IntKind.i64 a0) (iConv IntKind.i64 (iRem a2 3)) a3 a4 a5 then true else !a3 then true else iNe (iAnd IntKind.i64 (iConv IntKind.i64 a0) 16) 0
            else false then
          bif bif !pte_May0 (iConv IntKind.i64 a0) (iConv IntKind.i64 (iRem a2 3)) a3 a4 a5 then true else iNe (iConv IntKind.i64 (iRem a2 3)) 2 then true
          else bif iNe (iAnd IntKind.i64 (iConv IntKind.i64 a0) 4) 0 then iNe (iAnd IntKind.i64 (iConv IntKind.i64 a0) 128) 0 else false
        else false then
      bif !pte_May0 (iConv IntKind.i64 a0) (iConv IntKind.i64 (iRem a2 3)) a3 false false then true else pte_May0 (iConv IntKind.i64 a0) (iConv IntKind.i64 (iRem a2 3)) a3 true true
    else false
def sallyportlaw10_PteLessG (a0 : Int) (a1 : Int) (a2 : Int) (a3 : Bool) (a4 : Bool) (a5 : Bool) : Bool :=
  bif
      bif pte_May0 (iAndNot IntKind.i64 (iConv IntKind.i64 a0) (iAndNot IntKind.i64 (iConv IntKind.i64 a1) 16)) (iConv IntKind.i64 (iRem a2 3)) a3 a4 a5 then
        !pte_May0 (iConv IntKind.i64 a0) (iConv IntKind.i64 (iRem a2 3)) a3 a4 a5
      else false then
    true
  else true
def sallyportlaw10_PteLessV (a0 : Int) (a1 : Int) (a2 : Int) (a3 : Bool) (a4 : Bool) (a5 : Bool) : AV := .bl (sallyportlaw10_PteLess0 a0 a1 a2 a3 a4 a5)
theorem sallyportlaw10_PteLessE (g : Nat → AV) : pcOf Tryd.prog okT (lookR T7) (inl Tryd.prog okT (lookR T7) RO FS 100 ST 6) RO NOV 100 false Tryd.f4 (norms [(.int .u8), (.int .u8), (.int .u8), .bool, .bool, .bool] 0 g) = some (sallyportlaw10_PteLessG ((g 0).num) ((g 1).num) ((g 2).num) ((g 3).bool) ((g 4).bool) ((g 5).bool), sallyportlaw10_PteLessV ((g 0).num) ((g 1).num) ((g 2).num) ((g 3).bool) ((g 4).bool) ((g 5).bool)) := by kernel_rfl
theorem sallyportlaw10_PteLessP : Plain Tryd.prog 4 Tryd.f4 := ⟨Tryd.func4, of_decide_eq_true (by kernel_rfl)⟩
theorem sallyportlaw10_PteLessT (a0 : Int) (a1 : Int) (a2 : Int) (a3 : Bool) (a4 : Bool) (a5 : Bool) : sallyportlaw10_PteLessG a0 a1 a2 a3 a4 a5 = true := by
  unfold sallyportlaw10_PteLessG
  simp only [Go.Ev.cS1, Go.Ev.cS2, Go.Ev.cS3, Go.Ev.cS4, Go.Ev.cS6, Go.Ev.cS7]
theorem sallyportlaw10_PteLessO : RowOk Tryd.prog 4 (rowF [(.int .u8), (.int .u8), (.int .u8), .bool, .bool, .bool] none fun g => sallyportlaw10_PteLessV ((g 0).num) ((g 1).num) ((g 2).num) ((g 3).bool) ((g 4).bool) ((g 5).bool)) := rowT_ok fun g => pcOf_ok mix fair T7_ok (inl_ok mix fair T7_ok FS_ok 6) sallyportlaw10_PteLessP (fun c _ => OvOk_none c) (sallyportlaw10_PteLessE g) (sallyportlaw10_PteLessT ((g 0).num) ((g 1).num) ((g 2).num) ((g 3).bool) ((g 4).bool) ((g 5).bool))
def T4 : List Row := (4, (rowF [(.int .u8), (.int .u8), (.int .u8), .bool, .bool, .bool] none fun g => sallyportlaw10_PteLessV ((g 0).num) ((g 1).num) ((g 2).num) ((g 3).bool) ((g 4).bool) ((g 5).bool))) :: T7
theorem T4_ok : PSound Tryd.prog (lookR T4) := lookR_cons sallyportlaw10_PteLessO T7_ok

/- sallyport/sallyportlaw10.PteMade -/
def sallyportlaw10_PteMade_c0 (a0 : Int) (a1 : Int) : Bool :=
  bif bif iNe (iAnd IntKind.i64 (iConv IntKind.i64 a1) 1) 0 then bif iEq (iAnd IntKind.i64 (iConv IntKind.i64 a1) 4) 0 then true else iNe (iAnd IntKind.i64 (iConv IntKind.i64 a1) 2) 0 else false then
    iEq (iAnd IntKind.i64 (iConv IntKind.i64 a1) 32) 0
  else false
def sallyportlaw10_PteMade0 (a0 : Int) (a1 : Int) : Bool :=
  bif
      bif
          bif
              bif
                  bif iEq (pte_Frame0 (pte_Make0 (iConv IntKind.i64 a0) (iConv IntKind.i64 a1))) (iConv IntKind.i64 a0) then
                    iEq (iAnd IntKind.u64 (pte_Make0 (iConv IntKind.i64 a0) (iConv IntKind.i64 a1)) 255) (iConv IntKind.u64 a1)
                  else false then
                pte_Is0 (pte_Make0 (iConv IntKind.i64 a0) (iConv IntKind.i64 a1)) == sallyportlaw10_PteMade_c0 a0 a1
              else false then
            pte_Leaf0 (pte_Make0 (iConv IntKind.i64 a0) (iConv IntKind.i64 a1)) == bif sallyportlaw10_PteMade_c0 a0 a1 then iNe (iAnd IntKind.i64 (iConv IntKind.i64 a1) 10) 0 else false
          else false then
        !pte_Is0 (iOr IntKind.u64 (pte_Make0 (iConv IntKind.i64 a0) (iConv IntKind.i64 a1)) 65536)
      else false then
    !pte_Is0 (iOr IntKind.u64 (pte_Make0 (iConv IntKind.i64 a0) (iConv IntKind.i64 a1)) 9223372036854775808)
  else false
def sallyportlaw10_PteMadeG (a0 : Int) (a1 : Int) : Bool :=
  true
def sallyportlaw10_PteMadeV (a0 : Int) (a1 : Int) : AV := .bl (sallyportlaw10_PteMade0 a0 a1)
theorem sallyportlaw10_PteMadeE (g : Nat → AV) : pcOf Tryd.prog okT (lookR T4) (inl Tryd.prog okT (lookR T4) RO FS 100 ST 6) RO NOV 100 false Tryd.f5 (norms [(.int .u8), (.int .u8)] 0 g) = some (sallyportlaw10_PteMadeG ((g 0).num) ((g 1).num), sallyportlaw10_PteMadeV ((g 0).num) ((g 1).num)) := by kernel_rfl
theorem sallyportlaw10_PteMadeP : Plain Tryd.prog 5 Tryd.f5 := ⟨Tryd.func5, of_decide_eq_true (by kernel_rfl)⟩
theorem sallyportlaw10_PteMadeT (a0 : Int) (a1 : Int) : sallyportlaw10_PteMadeG a0 a1 = true := rfl
theorem sallyportlaw10_PteMadeO : RowOk Tryd.prog 5 (rowF [(.int .u8), (.int .u8)] none fun g => sallyportlaw10_PteMadeV ((g 0).num) ((g 1).num)) := rowT_ok fun g => pcOf_ok mix fair T4_ok (inl_ok mix fair T4_ok FS_ok 6) sallyportlaw10_PteMadeP (fun c _ => OvOk_none c) (sallyportlaw10_PteMadeE g) (sallyportlaw10_PteMadeT ((g 0).num) ((g 1).num))
def T5 : List Row := (5, (rowF [(.int .u8), (.int .u8)] none fun g => sallyportlaw10_PteMadeV ((g 0).num) ((g 1).num))) :: T4
theorem T5_ok : PSound Tryd.prog (lookR T5) := lookR_cons sallyportlaw10_PteMadeO T4_ok

/- sallyport/sallyportlaw10.PteUsers -/
def sallyportlaw10_PteUsers_c0 (a0 : Int) (a1 : Bool) : Bool :=
  bif iEq (iAnd IntKind.i64 (iOr IntKind.i64 (iOr IntKind.i64 (iConv IntKind.i64 a0) 64) 128) 16) 0 then
    bif pte_May0 (iOr IntKind.i64 (iOr IntKind.i64 (iConv IntKind.i64 a0) 64) 128) 0 true false a1 then true
    else !pte_May0 (iOr IntKind.i64 (iOr IntKind.i64 (iConv IntKind.i64 a0) 64) 128) 0 false true a1 == pte_May0 (iOr IntKind.i64 (iOr IntKind.i64 (iConv IntKind.i64 a0) 64) 128) 0 false false a1
  else false
def sallyportlaw10_PteUsers_c1 (a0 : Int) (a1 : Bool) : Bool :=
  bif iEq (iAnd IntKind.i64 (iOr IntKind.i64 (iOr IntKind.i64 (iConv IntKind.i64 a0) 64) 128) 16) 0 then
    bif pte_May0 (iOr IntKind.i64 (iOr IntKind.i64 (iConv IntKind.i64 a0) 64) 128) 1 true false a1 then true
    else !pte_May0 (iOr IntKind.i64 (iOr IntKind.i64 (iConv IntKind.i64 a0) 64) 128) 1 false true a1 == pte_May0 (iOr IntKind.i64 (iOr IntKind.i64 (iConv IntKind.i64 a0) 64) 128) 1 false false a1
  else false
def sallyportlaw10_PteUsers_c2 (a0 : Int) (a1 : Bool) : Bool :=
  bif iEq (iAnd IntKind.i64 (iOr IntKind.i64 (iOr IntKind.i64 (iConv IntKind.i64 a0) 64) 128) 16) 0 then
    bif pte_May0 (iOr IntKind.i64 (iOr IntKind.i64 (iConv IntKind.i64 a0) 64) 128) 2 true false a1 then true
    else !pte_May0 (iOr IntKind.i64 (iOr IntKind.i64 (iConv IntKind.i64 a0) 64) 128) 2 false true a1 == pte_May0 (iOr IntKind.i64 (iOr IntKind.i64 (iConv IntKind.i64 a0) 64) 128) 2 false false a1
  else false
def sallyportlaw10_PteUsers_c3 (a0 : Int) (a1 : Bool) : Bool :=
  bif !pte_May0 (iOr IntKind.i64 (iOr IntKind.i64 (iConv IntKind.i64 a0) 64) 128) 3 true true true then !pte_May0 (iOr IntKind.i64 (iOr IntKind.i64 (iConv IntKind.i64 a0) 64) 128) (-1) false true true
  else false
def sallyportlaw10_PteUsers0 (a0 : Int) (a1 : Bool) : Bool :=
  bif
      bif
          bif
              bif
                  bif pte_May0 (iOr IntKind.i64 (iOr IntKind.i64 (iConv IntKind.i64 a0) 64) 128) 0 true false a1 then
                    pte_May0 (iOr IntKind.i64 (iOr IntKind.i64 (iConv IntKind.i64 a0) 64) 128) 0 false false a1
                  else false then
                true
              else
                !pte_May0 (iOr IntKind.i64 (iOr IntKind.i64 (iConv IntKind.i64 a0) 64) 128) 0 true false a1 ==
                    pte_May0 (iOr IntKind.i64 (iOr IntKind.i64 (iConv IntKind.i64 a0) 64) 128) 0 true true a1 then
            true
          else
            bif iNe (iAnd IntKind.i64 (iOr IntKind.i64 (iOr IntKind.i64 (iConv IntKind.i64 a0) 64) 128) 16) 0 then
              bif pte_May0 (iOr IntKind.i64 (iOr IntKind.i64 (iConv IntKind.i64 a0) 64) 128) 0 false false a1 then true
              else !pte_May0 (iOr IntKind.i64 (iOr IntKind.i64 (iConv IntKind.i64 a0) 64) 128) 0 false true a1 == false
            else false then
        true
      else sallyportlaw10_PteUsers_c0 a0 a1 then
    false
  else
    bif
        bif
            bif
                bif
                    bif pte_May0 (iOr IntKind.i64 (iOr IntKind.i64 (iConv IntKind.i64 a0) 64) 128) 1 true false a1 then
                      pte_May0 (iOr IntKind.i64 (iOr IntKind.i64 (iConv IntKind.i64 a0) 64) 128) 1 false false a1
                    else false then
                  true
                else
                  !pte_May0 (iOr IntKind.i64 (iOr IntKind.i64 (iConv IntKind.i64 a0) 64) 128) 1 true false a1 ==
                      pte_May0 (iOr IntKind.i64 (iOr IntKind.i64 (iConv IntKind.i64 a0) 64) 128) 1 true true a1 then
              true
            else
              bif iNe (iAnd IntKind.i64 (iOr IntKind.i64 (iOr IntKind.i64 (iConv IntKind.i64 a0) 64) 128) 16) 0 then
                bif pte_May0 (iOr IntKind.i64 (iOr IntKind.i64 (iConv IntKind.i64 a0) 64) 128) 1 false false a1 then true
                else
                  !pte_May0 (iOr IntKind.i64 (iOr IntKind.i64 (iConv IntKind.i64 a0) 64) 128) 1 false true a1 ==
                      pte_May0 (iOr IntKind.i64 (iOr IntKind.i64 (iConv IntKind.i64 a0) 64) 128) 1 true false a1
              else false then
          true
        else sallyportlaw10_PteUsers_c1 a0 a1 then
      false
    else
      bif
          bif
              bif
                  bif
                      bif pte_May0 (iOr IntKind.i64 (iOr IntKind.i64 (iConv IntKind.i64 a0) 64) 128) 2 true false a1 then
                        pte_May0 (iOr IntKind.i64 (iOr IntKind.i64 (iConv IntKind.i64 a0) 64) 128) 2 false false a1
                      else false then
                    true
                  else
                    !pte_May0 (iOr IntKind.i64 (iOr IntKind.i64 (iConv IntKind.i64 a0) 64) 128) 2 true false a1 ==
                        pte_May0 (iOr IntKind.i64 (iOr IntKind.i64 (iConv IntKind.i64 a0) 64) 128) 2 true true a1 then
                true
              else
                bif iNe (iAnd IntKind.i64 (iOr IntKind.i64 (iOr IntKind.i64 (iConv IntKind.i64 a0) 64) 128) 16) 0 then
                  bif pte_May0 (iOr IntKind.i64 (iOr IntKind.i64 (iConv IntKind.i64 a0) 64) 128) 2 false false a1 then true
                  else
                    !pte_May0 (iOr IntKind.i64 (iOr IntKind.i64 (iConv IntKind.i64 a0) 64) 128) 2 false true a1 ==
                        pte_May0 (iOr IntKind.i64 (iOr IntKind.i64 (iConv IntKind.i64 a0) 64) 128) 2 true false a1
                else false then
            true
          else sallyportlaw10_PteUsers_c2 a0 a1 then
        false
      else sallyportlaw10_PteUsers_c3 a0 a1
def sallyportlaw10_PteUsers0r (a0 : Int) (a1 : Bool) : Bool :=
  bif
      bif
          bif
              bif
                  bif pte_May0 (iOr IntKind.i64 (iOr IntKind.i64 (iConv IntKind.i64 a0) 64) 128) 0 true false a1 then
                    pte_May0 (iOr IntKind.i64 (iOr IntKind.i64 (iConv IntKind.i64 a0) 64) 128) 0 false false a1
                  else false then
                true
              else
                !pte_May0 (iOr IntKind.i64 (iOr IntKind.i64 (iConv IntKind.i64 a0) 64) 128) 0 true false a1 ==
                    pte_May0 (iOr IntKind.i64 (iOr IntKind.i64 (iConv IntKind.i64 a0) 64) 128) 0 true true a1 then
            true
          else
            bif iNe (iAnd IntKind.i64 (iOr IntKind.i64 (iOr IntKind.i64 (iConv IntKind.i64 a0) 64) 128) 16) 0 then
              bif pte_May0 (iOr IntKind.i64 (iOr IntKind.i64 (iConv IntKind.i64 a0) 64) 128) 0 false false a1 then true
              else
                !pte_May0 (iOr IntKind.i64 (iOr IntKind.i64 (iConv IntKind.i64 a0) 64) 128) 0 false true a1 ==
                    bif pte_May0 (iOr IntKind.i64 (iOr IntKind.i64 (iConv IntKind.i64 a0) 64) 128) 0 true false a1 then false else false
            else false then
        true
      else sallyportlaw10_PteUsers_c0 a0 a1 then
    false
  else
    bif
        bif
            bif
                bif
                    bif pte_May0 (iOr IntKind.i64 (iOr IntKind.i64 (iConv IntKind.i64 a0) 64) 128) 1 true false a1 then
                      pte_May0 (iOr IntKind.i64 (iOr IntKind.i64 (iConv IntKind.i64 a0) 64) 128) 1 false false a1
                    else false then
                  true
                else
                  !pte_May0 (iOr IntKind.i64 (iOr IntKind.i64 (iConv IntKind.i64 a0) 64) 128) 1 true false a1 ==
                      pte_May0 (iOr IntKind.i64 (iOr IntKind.i64 (iConv IntKind.i64 a0) 64) 128) 1 true true a1 then
              true
            else
              bif iNe (iAnd IntKind.i64 (iOr IntKind.i64 (iOr IntKind.i64 (iConv IntKind.i64 a0) 64) 128) 16) 0 then
                bif pte_May0 (iOr IntKind.i64 (iOr IntKind.i64 (iConv IntKind.i64 a0) 64) 128) 1 false false a1 then true
                else
                  !pte_May0 (iOr IntKind.i64 (iOr IntKind.i64 (iConv IntKind.i64 a0) 64) 128) 1 false true a1 ==
                      bif pte_May0 (iOr IntKind.i64 (iOr IntKind.i64 (iConv IntKind.i64 a0) 64) 128) 1 true false a1 then true else false
              else false then
          true
        else sallyportlaw10_PteUsers_c1 a0 a1 then
      false
    else
      bif
          bif
              bif
                  bif
                      bif pte_May0 (iOr IntKind.i64 (iOr IntKind.i64 (iConv IntKind.i64 a0) 64) 128) 2 true false a1 then
                        pte_May0 (iOr IntKind.i64 (iOr IntKind.i64 (iConv IntKind.i64 a0) 64) 128) 2 false false a1
                      else false then
                    true
                  else
                    !pte_May0 (iOr IntKind.i64 (iOr IntKind.i64 (iConv IntKind.i64 a0) 64) 128) 2 true false a1 ==
                        pte_May0 (iOr IntKind.i64 (iOr IntKind.i64 (iConv IntKind.i64 a0) 64) 128) 2 true true a1 then
                true
              else
                bif iNe (iAnd IntKind.i64 (iOr IntKind.i64 (iOr IntKind.i64 (iConv IntKind.i64 a0) 64) 128) 16) 0 then
                  bif pte_May0 (iOr IntKind.i64 (iOr IntKind.i64 (iConv IntKind.i64 a0) 64) 128) 2 false false a1 then true
                  else
                    !pte_May0 (iOr IntKind.i64 (iOr IntKind.i64 (iConv IntKind.i64 a0) 64) 128) 2 false true a1 ==
                        bif pte_May0 (iOr IntKind.i64 (iOr IntKind.i64 (iConv IntKind.i64 a0) 64) 128) 2 true false a1 then true else false
                else false then
            true
          else sallyportlaw10_PteUsers_c2 a0 a1 then
        false
      else sallyportlaw10_PteUsers_c3 a0 a1
def sallyportlaw10_PteUsersG (a0 : Int) (a1 : Bool) : Bool :=
  bif
      bif
          bif
              bif
                  bif pte_May0 (iOr IntKind.i64 (iOr IntKind.i64 (iConv IntKind.i64 a0) 64) 128) 0 true false a1 then
                    pte_May0 (iOr IntKind.i64 (iOr IntKind.i64 (iConv IntKind.i64 a0) 64) 128) 0 false false a1
                  else false then
                true
              else
                !pte_May0 (iOr IntKind.i64 (iOr IntKind.i64 (iConv IntKind.i64 a0) 64) 128) 0 true false a1 ==
                    pte_May0 (iOr IntKind.i64 (iOr IntKind.i64 (iConv IntKind.i64 a0) 64) 128) 0 true true a1 then
            true
          else
            bif iNe (iAnd IntKind.i64 (iOr IntKind.i64 (iOr IntKind.i64 (iConv IntKind.i64 a0) 64) 128) 16) 0 then
              bif pte_May0 (iOr IntKind.i64 (iOr IntKind.i64 (iConv IntKind.i64 a0) 64) 128) 0 false false a1 then true
              else
                !pte_May0 (iOr IntKind.i64 (iOr IntKind.i64 (iConv IntKind.i64 a0) 64) 128) 0 false true a1 ==
                    bif pte_May0 (iOr IntKind.i64 (iOr IntKind.i64 (iConv IntKind.i64 a0) 64) 128) 0 true false a1 then false else false
            else false then
        true
      else sallyportlaw10_PteUsers_c0 a0 a1 then
    true
  else
    bif
        bif
            bif
                bif
                    bif pte_May0 (iOr IntKind.i64 (iOr IntKind.i64 (iConv IntKind.i64 a0) 64) 128) 1 true false a1 then
                      pte_May0 (iOr IntKind.i64 (iOr IntKind.i64 (iConv IntKind.i64 a0) 64) 128) 1 false false a1
                    else false then
                  true
                else
                  !pte_May0 (iOr IntKind.i64 (iOr IntKind.i64 (iConv IntKind.i64 a0) 64) 128) 1 true false a1 ==
                      pte_May0 (iOr IntKind.i64 (iOr IntKind.i64 (iConv IntKind.i64 a0) 64) 128) 1 true true a1 then
              true
            else
              bif iNe (iAnd IntKind.i64 (iOr IntKind.i64 (iOr IntKind.i64 (iConv IntKind.i64 a0) 64) 128) 16) 0 then
                bif pte_May0 (iOr IntKind.i64 (iOr IntKind.i64 (iConv IntKind.i64 a0) 64) 128) 1 false false a1 then true
                else
                  !pte_May0 (iOr IntKind.i64 (iOr IntKind.i64 (iConv IntKind.i64 a0) 64) 128) 1 false true a1 ==
                      bif pte_May0 (iOr IntKind.i64 (iOr IntKind.i64 (iConv IntKind.i64 a0) 64) 128) 1 true false a1 then true else false
              else false then
          true
        else sallyportlaw10_PteUsers_c1 a0 a1 then
      true
    else
      bif
          bif
              bif
                  bif
                      bif pte_May0 (iOr IntKind.i64 (iOr IntKind.i64 (iConv IntKind.i64 a0) 64) 128) 2 true false a1 then
                        pte_May0 (iOr IntKind.i64 (iOr IntKind.i64 (iConv IntKind.i64 a0) 64) 128) 2 false false a1
                      else false then
                    true
                  else
                    !pte_May0 (iOr IntKind.i64 (iOr IntKind.i64 (iConv IntKind.i64 a0) 64) 128) 2 true false a1 ==
                        pte_May0 (iOr IntKind.i64 (iOr IntKind.i64 (iConv IntKind.i64 a0) 64) 128) 2 true true a1 then
                true
              else
                bif iNe (iAnd IntKind.i64 (iOr IntKind.i64 (iOr IntKind.i64 (iConv IntKind.i64 a0) 64) 128) 16) 0 then
                  bif pte_May0 (iOr IntKind.i64 (iOr IntKind.i64 (iConv IntKind.i64 a0) 64) 128) 2 false false a1 then true
                  else
                    !pte_May0 (iOr IntKind.i64 (iOr IntKind.i64 (iConv IntKind.i64 a0) 64) 128) 2 false true a1 ==
                        bif pte_May0 (iOr IntKind.i64 (iOr IntKind.i64 (iConv IntKind.i64 a0) 64) 128) 2 true false a1 then true else false
                else false then
            true
          else sallyportlaw10_PteUsers_c2 a0 a1 then
        true
      else true
theorem sallyportlaw10_PteUsers0_eq (a0 : Int) (a1 : Bool)  : sallyportlaw10_PteUsers0r a0 a1  = sallyportlaw10_PteUsers0 a0 a1  := by
  unfold sallyportlaw10_PteUsers0r
  first | (simp only [sallyportlaw10_PteUsers_c0, sallyportlaw10_PteUsers_c1, sallyportlaw10_PteUsers_c2, sallyportlaw10_PteUsers_c3, Go.Ev.cS1, Go.Ev.cS2, Go.Ev.cS3, Go.Ev.cS4, Go.Ev.cS6, Go.Ev.cS7]; done) | (simp only [sallyportlaw10_PteUsers_c0, sallyportlaw10_PteUsers_c1, sallyportlaw10_PteUsers_c2, sallyportlaw10_PteUsers_c3, Go.Ev.cS1, Go.Ev.cS2, Go.Ev.cS3, Go.Ev.cS4, Go.Ev.cS6, Go.Ev.cS7]; kernel_rfl)
def sallyportlaw10_PteUsersV (a0 : Int) (a1 : Bool) : AV := .bl (sallyportlaw10_PteUsers0 a0 a1)
def sallyportlaw10_PteUsersVr (a0 : Int) (a1 : Bool) : AV := .bl (sallyportlaw10_PteUsers0r a0 a1)
theorem sallyportlaw10_PteUsersV_eq (a0 : Int) (a1 : Bool) : sallyportlaw10_PteUsersVr a0 a1 = sallyportlaw10_PteUsersV a0 a1 := by
  unfold sallyportlaw10_PteUsersVr sallyportlaw10_PteUsersV
  simp only [sallyportlaw10_PteUsers0_eq]
theorem sallyportlaw10_PteUsersE (g : Nat → AV) : pcOf Tryd.prog okT (lookR T5) (inl Tryd.prog okT (lookR T5) RO FS 100 ST 6) RO NOV 100 false Tryd.f6 (norms [(.int .u8), .bool] 0 g) = some (sallyportlaw10_PteUsersG ((g 0).num) ((g 1).bool), sallyportlaw10_PteUsersV ((g 0).num) ((g 1).bool)) :=
  (by kernel_rfl : pcOf Tryd.prog okT (lookR T5) (inl Tryd.prog okT (lookR T5) RO FS 100 ST 6) RO NOV 100 false Tryd.f6 (norms [(.int .u8), .bool] 0 g) = some (sallyportlaw10_PteUsersG ((g 0).num) ((g 1).bool), sallyportlaw10_PteUsersVr ((g 0).num) ((g 1).bool))).trans (by rw [sallyportlaw10_PteUsersV_eq])
theorem sallyportlaw10_PteUsersP : Plain Tryd.prog 6 Tryd.f6 := ⟨Tryd.func6, of_decide_eq_true (by kernel_rfl)⟩
theorem sallyportlaw10_PteUsersT (a0 : Int) (a1 : Bool) : sallyportlaw10_PteUsersG a0 a1 = true := by
  unfold sallyportlaw10_PteUsersG
  simp only [sallyportlaw10_PteUsers_c0, sallyportlaw10_PteUsers_c1, sallyportlaw10_PteUsers_c2, sallyportlaw10_PteUsers_c3, Go.Ev.cS1, Go.Ev.cS2, Go.Ev.cS3, Go.Ev.cS4, Go.Ev.cS6, Go.Ev.cS7]
theorem sallyportlaw10_PteUsersO : RowOk Tryd.prog 6 (rowF [(.int .u8), .bool] none fun g => sallyportlaw10_PteUsersV ((g 0).num) ((g 1).bool)) := rowT_ok fun g => pcOf_ok mix fair T5_ok (inl_ok mix fair T5_ok FS_ok 6) sallyportlaw10_PteUsersP (fun c _ => OvOk_none c) (sallyportlaw10_PteUsersE g) (sallyportlaw10_PteUsersT ((g 0).num) ((g 1).bool))
def T6 : List Row := (6, (rowF [(.int .u8), .bool] none fun g => sallyportlaw10_PteUsersV ((g 0).num) ((g 1).bool))) :: T5
theorem T6_ok : PSound Tryd.prog (lookR T6) := lookR_cons sallyportlaw10_PteUsersO T5_ok

end
end Go.Proofs.YtjnpaegoobclfaaDoor.PV
