/-
  What functions of the program and of the document yield, evaluated (fence.is .. sallyportref8.Mpp). Printed by a program of the prover's own (wip/prt).
-/
import Derived.Test.YtcmknfnnapnecaaRows
import Derived.Test.YtcmknfnnapnecaaEvW
import Derived.Test.YtcmknfnnapnecaaUb
set_option linter.unusedVariables false
set_option linter.unusedSimpArgs false
namespace Go.Proofs.Ytcmknfnnapnecaa.PV
noncomputable section
open Go Go.Ev
abbrev NOH : Hd := fun _ _ _ _ => none
def FSx : List FuncId := [58, 53]
theorem FSx_ok : Names Try.prog FSx := names_of (by kernel_rfl)
/- sallyport/fence.is -/
def fence_is0 (a0 : Int) (a1 : Int) : Bool :=
  bif iEq a1 (-1) then true else iEq a0 a1
def fence_isG (a0 : Int) (a1 : Int) : Bool :=
  true
def fence_isV (a0 : Int) (a1 : Int) : AV := .bl (fence_is0 a0 a1)
theorem fence_isE (g : Nat → AV) : pcOf Try.prog okT (lookR T0) (inl Try.prog okT (lookR T0) RO FSx 100 ST 2) RO NOV 100 false Try.f42 (norms [(.int .i64), (.int .i64)] 0 g) = some (fence_isG ((g 0).num) ((g 1).num), fence_isV ((g 0).num) ((g 1).num)) := by kernel_rfl
theorem fence_isP : Plain Try.prog 42 Try.f42 := ⟨Try.func42, of_decide_eq_true (by kernel_rfl)⟩
theorem fence_isT (a0 : Int) (a1 : Int) : fence_isG a0 a1 = true := rfl
theorem fence_isO : RowOk Try.prog 42 (rowF [(.int .i64), (.int .i64)] none fun g => fence_isV ((g 0).num) ((g 1).num)) := rowT_ok fun g => pcOf_ok mix fair T0_ok (inl_ok mix fair T0_ok FSx_ok 2) fence_isP (fun c _ => OvOk_none c) (fence_isE g) (fence_isT ((g 0).num) ((g 1).num))
def T42 : List Row := (42, (rowF [(.int .i64), (.int .i64)] none fun g => fence_isV ((g 0).num) ((g 1).num))) :: T0
theorem T42_ok : PSound Try.prog (lookR T42) := lookR_cons fence_isO T0_ok

/- sallyport/sallyportref13.named -/
def sallyportref13_named0 (a0 : Int) (a1 : Int) : Bool :=
  bif iEq a1 (-1) then true else iEq a0 a1
def sallyportref13_namedG (a0 : Int) (a1 : Int) : Bool :=
  true
def sallyportref13_namedV (a0 : Int) (a1 : Int) : AV := .bl (sallyportref13_named0 a0 a1)
theorem sallyportref13_namedE (g : Nat → AV) : pcOf Try.prog okT (lookR T42) (inl Try.prog okT (lookR T42) RO FSx 100 ST 2) RO NOV 100 false Try.f44 (norms [(.int .i64), (.int .i64)] 0 g) = some (sallyportref13_namedG ((g 0).num) ((g 1).num), sallyportref13_namedV ((g 0).num) ((g 1).num)) := by kernel_rfl
theorem sallyportref13_namedP : Plain Try.prog 44 Try.f44 := ⟨Try.func44, of_decide_eq_true (by kernel_rfl)⟩
theorem sallyportref13_namedT (a0 : Int) (a1 : Int) : sallyportref13_namedG a0 a1 = true := rfl
theorem sallyportref13_namedO : RowOk Try.prog 44 (rowF [(.int .i64), (.int .i64)] none fun g => sallyportref13_namedV ((g 0).num) ((g 1).num)) := rowT_ok fun g => pcOf_ok mix fair T42_ok (inl_ok mix fair T42_ok FSx_ok 2) sallyportref13_namedP (fun c _ => OvOk_none c) (sallyportref13_namedE g) (sallyportref13_namedT ((g 0).num) ((g 1).num))
def T44 : List Row := (44, (rowF [(.int .i64), (.int .i64)] none fun g => sallyportref13_namedV ((g 0).num) ((g 1).num))) :: T42
theorem T44_ok : PSound Try.prog (lookR T44) := lookR_cons sallyportref13_namedO T42_ok

/- sallyport/word.part -/
def word_part0 (a0 : Int) (a1 : Int) : Int :=
  iMin (iMax a0 0) 63
def word_part1 (a0 : Int) (a1 : Int) : Int :=
  iMin (iMax a1 0) (iSub IntKind.i64 64 (iMin (iMax a0 0) 63))
def word_partG (a0 : Int) (a1 : Int) : Bool :=
  true
def word_partV (a0 : Int) (a1 : Int) : AV := .tup [.it .i64 (word_part0 a0 a1), .it .i64 (word_part1 a0 a1)]
theorem word_partE (g : Nat → AV) : pcOf Try.prog okT (lookR T44) (inl Try.prog okT (lookR T44) RO FSx 100 ST 2) RO NOV 100 false Try.f56 (norms [(.int .i64), (.int .i64)] 0 g) = some (word_partG ((g 0).num) ((g 1).num), word_partV ((g 0).num) ((g 1).num)) := by kernel_rfl
theorem word_partP : Plain Try.prog 56 Try.f56 := ⟨Try.func56, of_decide_eq_true (by kernel_rfl)⟩
theorem word_partT (a0 : Int) (a1 : Int) : word_partG a0 a1 = true := rfl
theorem word_partO : RowOk Try.prog 56 (rowF [(.int .i64), (.int .i64)] none fun g => word_partV ((g 0).num) ((g 1).num)) := rowT_ok fun g => pcOf_ok mix fair T44_ok (inl_ok mix fair T44_ok FSx_ok 2) word_partP (fun c _ => OvOk_none c) (word_partE g) (word_partT ((g 0).num) ((g 1).num))
def T56 : List Row := (56, (rowF [(.int .i64), (.int .i64)] none fun g => word_partV ((g 0).num) ((g 1).num))) :: T44
theorem T56_ok : PSound Try.prog (lookR T56) := lookR_cons word_partO T44_ok

theorem part0_in (a b : Int) : 0 ≤ word_part0 a b ∧ word_part0 a b ≤ 63 := by
  unfold word_part0; rw [iMin_eq, iMax_eq]; split <;> split <;> omega
theorem part1_in (a b : Int) : 0 ≤ word_part1 a b ∧ word_part1 a b ≤ 64 - word_part0 a b := by
  have h := part0_in a b
  have e : word_part1 a b = iMin (iMax b 0) (iSub .i64 64 (word_part0 a b)) := rfl
  rw [e, iSub_i64 (by omega) (by omega), iMin_eq, iMax_eq]; split <;> split <;> omega
/- sallyport/word.mask -/
def word_mask0 (a0 : Int) : Int :=
  bif iLe 64 a0 then 18446744073709551615 else iSub IntKind.u64 (iShl IntKind.u64 1 a0) 1
def word_maskG (a0 : Int) : Bool :=
  bif iLe 64 a0 then true else iLe 0 a0 && true
def word_maskV (a0 : Int) : AV := .it .u64 (word_mask0 a0)
theorem word_maskE (g : Nat → AV) : pcOf Try.prog okT (lookR T56) (inl Try.prog okT (lookR T56) RO FSx 100 ST 2) RO NOV 100 false Try.f57 (norms [(.int .i64)] 0 g) = some (word_maskG ((g 0).num), word_maskV ((g 0).num)) := by kernel_rfl
theorem word_maskP : Plain Try.prog 57 Try.f57 := ⟨Try.func57, of_decide_eq_true (by kernel_rfl)⟩
theorem word_maskO : RowOk Try.prog 57 (rowF [(.int .i64)] (some fun g => word_maskG ((g 0).num)) fun g => word_maskV ((g 0).num)) := rowF_ok fun g hg => pcOf_ok mix fair T56_ok (inl_ok mix fair T56_ok FSx_ok 2) word_maskP (fun c _ => OvOk_none c) (word_maskE g) hg
def T57 : List Row := (57, (rowF [(.int .i64)] (some fun g => word_maskG ((g 0).num)) fun g => word_maskV ((g 0).num))) :: T56
theorem T57_ok : PSound Try.prog (lookR T57) := lookR_cons word_maskO T56_ok

/- sallyport/word.Bits -/
def word_Bits0 (a0 : Int) (a1 : Int) (a2 : Int) : Int :=
  iAnd IntKind.u64 (iShr IntKind.u64 a0 (word_part0 a1 a2)) (word_mask0 (word_part1 a1 a2))
def word_BitsG (a0 : Int) (a1 : Int) (a2 : Int) : Bool :=
  iLe 0 (word_part0 a1 a2) && (word_maskG (word_part1 a1 a2) && true)
def word_BitsV (a0 : Int) (a1 : Int) (a2 : Int) : AV := .it .u64 (word_Bits0 a0 a1 a2)
theorem word_BitsE (g : Nat → AV) : pcOf Try.prog okT (lookR T57) (inl Try.prog okT (lookR T57) RO FSx 100 ST 2) RO NOV 100 false Try.f54 (norms [(.int .u64), (.int .i64), (.int .i64)] 0 g) = some (word_BitsG ((g 0).num) ((g 1).num) ((g 2).num), word_BitsV ((g 0).num) ((g 1).num) ((g 2).num)) := by kernel_rfl
theorem word_BitsP : Plain Try.prog 54 Try.f54 := ⟨Try.func54, of_decide_eq_true (by kernel_rfl)⟩
theorem word_BitsT (a0 : Int) (a1 : Int) (a2 : Int) : word_BitsG a0 a1 a2 = true := by unfold word_BitsG word_maskG; have h0 := part0_in a1 a2; have h1 := part1_in a1 a2; simp [iLe_true.2 h0.1, iLe_true.2 h1.1]
theorem word_BitsO : RowOk Try.prog 54 (rowF [(.int .u64), (.int .i64), (.int .i64)] none fun g => word_BitsV ((g 0).num) ((g 1).num) ((g 2).num)) := rowT_ok fun g => pcOf_ok mix fair T57_ok (inl_ok mix fair T57_ok FSx_ok 2) word_BitsP (fun c _ => OvOk_none c) (word_BitsE g) (word_BitsT ((g 0).num) ((g 1).num) ((g 2).num))
def T54 : List Row := (54, (rowF [(.int .u64), (.int .i64), (.int .i64)] none fun g => word_BitsV ((g 0).num) ((g 1).num) ((g 2).num))) :: T57
theorem T54_ok : PSound Try.prog (lookR T54) := lookR_cons word_BitsO T57_ok

/- sallyport/fence.vmid -/
def fence_vmid0 (a0_X : Nat → Int) (a0_PC : Int) (a0_Level : Int) (a0_V : Bool) (a0_C : Nat → Int) (a0_Done : Int) : Int :=
  iConv IntKind.i64 (word_Bits0 (a0_C 21) 16 8)
def fence_vmidG (a0_X : Nat → Int) (a0_PC : Int) (a0_Level : Int) (a0_V : Bool) (a0_C : Nat → Int) (a0_Done : Int) : Bool :=
  true
def fence_vmidV (a0_X : Nat → Int) (a0_PC : Int) (a0_Level : Int) (a0_V : Bool) (a0_C : Nat → Int) (a0_Done : Int) : AV := .it .i64 (fence_vmid0 a0_X a0_PC a0_Level a0_V a0_C a0_Done)
theorem fence_vmidE (g : Nat → AV) : pcOf Try.prog okT (lookR T54) (inl Try.prog okT (lookR T54) RO FSx 100 ST 2) RO NOV 100 false Try.f45 (norms [(.agg [(.arr 32 (.int .u64)), (.int .u64), (.int .i64), .bool, (.arr 29 (.int .u64)), (.int .u64)])] 0 g) = some (fence_vmidG (fun i0 => (((g 0).fld 0).ix i0).num) (((g 0).fld 1).num) (((g 0).fld 2).num) (((g 0).fld 3).bool) (fun i0 => (((g 0).fld 4).ix i0).num) (((g 0).fld 5).num), fence_vmidV (fun i0 => (((g 0).fld 0).ix i0).num) (((g 0).fld 1).num) (((g 0).fld 2).num) (((g 0).fld 3).bool) (fun i0 => (((g 0).fld 4).ix i0).num) (((g 0).fld 5).num)) := by kernel_rfl
theorem fence_vmidP : Plain Try.prog 45 Try.f45 := ⟨Try.func45, of_decide_eq_true (by kernel_rfl)⟩
theorem fence_vmidT (a0_X : Nat → Int) (a0_PC : Int) (a0_Level : Int) (a0_V : Bool) (a0_C : Nat → Int) (a0_Done : Int) : fence_vmidG a0_X a0_PC a0_Level a0_V a0_C a0_Done = true := rfl
theorem fence_vmidO : RowOk Try.prog 45 (rowF [(.agg [(.arr 32 (.int .u64)), (.int .u64), (.int .i64), .bool, (.arr 29 (.int .u64)), (.int .u64)])] none fun g => fence_vmidV (fun i0 => (((g 0).fld 0).ix i0).num) (((g 0).fld 1).num) (((g 0).fld 2).num) (((g 0).fld 3).bool) (fun i0 => (((g 0).fld 4).ix i0).num) (((g 0).fld 5).num)) := rowT_ok fun g => pcOf_ok mix fair T54_ok (inl_ok mix fair T54_ok FSx_ok 2) fence_vmidP (fun c _ => OvOk_none c) (fence_vmidE g) (fence_vmidT (fun i0 => (((g 0).fld 0).ix i0).num) (((g 0).fld 1).num) (((g 0).fld 2).num) (((g 0).fld 3).bool) (fun i0 => (((g 0).fld 4).ix i0).num) (((g 0).fld 5).num))
def T45 : List Row := (45, (rowF [(.agg [(.arr 32 (.int .u64)), (.int .u64), (.int .i64), .bool, (.arr 29 (.int .u64)), (.int .u64)])] none fun g => fence_vmidV (fun i0 => (((g 0).fld 0).ix i0).num) (((g 0).fld 1).num) (((g 0).fld 2).num) (((g 0).fld 3).bool) (fun i0 => (((g 0).fld 4).ix i0).num) (((g 0).fld 5).num))) :: T54
theorem T45_ok : PSound Try.prog (lookR T45) := lookR_cons fence_vmidO T54_ok

/- sallyport/fence.named -/
def fence_named0 (a0_X : Nat → Int) (a0_PC : Int) (a0_Level : Int) (a0_V : Bool) (a0_C : Nat → Int) (a0_Done : Int) (a1 : Int) (a2 : Int) : Int :=
  bif bif iLe a1 0 then true else iLe 32 a1 then -1 else iConv IntKind.i64 (word_Bits0 (a0_X a1.toNat) a2 8)
def fence_namedG (a0_X : Nat → Int) (a0_PC : Int) (a0_Level : Int) (a0_V : Bool) (a0_C : Nat → Int) (a0_Done : Int) (a1 : Int) (a2 : Int) : Bool :=
  bif bif iLe a1 0 then true else iLe 32 a1 then true else iIn a1 32 && true
def fence_namedV (a0_X : Nat → Int) (a0_PC : Int) (a0_Level : Int) (a0_V : Bool) (a0_C : Nat → Int) (a0_Done : Int) (a1 : Int) (a2 : Int) : AV := .it .i64 (fence_named0 a0_X a0_PC a0_Level a0_V a0_C a0_Done a1 a2)
theorem fence_namedE (g : Nat → AV) : pcOf Try.prog okT (lookR T45) (inl Try.prog okT (lookR T45) RO FSx 100 ST 2) RO NOV 100 false Try.f47 (norms [(.agg [(.arr 32 (.int .u64)), (.int .u64), (.int .i64), .bool, (.arr 29 (.int .u64)), (.int .u64)]), (.int .i64), (.int .i64)] 0 g) = some (fence_namedG (fun i0 => (((g 0).fld 0).ix i0).num) (((g 0).fld 1).num) (((g 0).fld 2).num) (((g 0).fld 3).bool) (fun i0 => (((g 0).fld 4).ix i0).num) (((g 0).fld 5).num) ((g 1).num) ((g 2).num), fence_namedV (fun i0 => (((g 0).fld 0).ix i0).num) (((g 0).fld 1).num) (((g 0).fld 2).num) (((g 0).fld 3).bool) (fun i0 => (((g 0).fld 4).ix i0).num) (((g 0).fld 5).num) ((g 1).num) ((g 2).num)) := by kernel_rfl
theorem fence_namedP : Plain Try.prog 47 Try.f47 := ⟨Try.func47, of_decide_eq_true (by kernel_rfl)⟩
theorem fence_namedT (a0_X : Nat → Int) (a0_PC : Int) (a0_Level : Int) (a0_V : Bool) (a0_C : Nat → Int) (a0_Done : Int) (a1 : Int) (a2 : Int) : fence_namedG a0_X a0_PC a0_Level a0_V a0_C a0_Done a1 a2 = true := by first | (simp [fence_namedG]; done) | (simp [fence_namedG, Go.Ev.iEq, Go.Ev.iNe, Go.Ev.iLt, Go.Ev.iLe, Go.Ev.iIn]; omega)
theorem fence_namedO : RowOk Try.prog 47 (rowF [(.agg [(.arr 32 (.int .u64)), (.int .u64), (.int .i64), .bool, (.arr 29 (.int .u64)), (.int .u64)]), (.int .i64), (.int .i64)] none fun g => fence_namedV (fun i0 => (((g 0).fld 0).ix i0).num) (((g 0).fld 1).num) (((g 0).fld 2).num) (((g 0).fld 3).bool) (fun i0 => (((g 0).fld 4).ix i0).num) (((g 0).fld 5).num) ((g 1).num) ((g 2).num)) := rowT_ok fun g => pcOf_ok mix fair T45_ok (inl_ok mix fair T45_ok FSx_ok 2) fence_namedP (fun c _ => OvOk_none c) (fence_namedE g) (fence_namedT (fun i0 => (((g 0).fld 0).ix i0).num) (((g 0).fld 1).num) (((g 0).fld 2).num) (((g 0).fld 3).bool) (fun i0 => (((g 0).fld 4).ix i0).num) (((g 0).fld 5).num) ((g 1).num) ((g 2).num))
def T47 : List Row := (47, (rowF [(.agg [(.arr 32 (.int .u64)), (.int .u64), (.int .i64), .bool, (.arr 29 (.int .u64)), (.int .u64)]), (.int .i64), (.int .i64)] none fun g => fence_namedV (fun i0 => (((g 0).fld 0).ix i0).num) (((g 0).fld 1).num) (((g 0).fld 2).num) (((g 0).fld 3).bool) (fun i0 => (((g 0).fld 4).ix i0).num) (((g 0).fld 5).num) ((g 1).num) ((g 2).num))) :: T45
theorem T47_ok : PSound Try.prog (lookR T47) := lookR_cons fence_namedO T45_ok

/- sallyport/legal.Writes -/
def legal_Writes0 (a0_Op : Int) (a0_Rd : Int) (a0_Rs1 : Int) (a0_Rs2 : Int) (a0_Imm : Int) (a0_CSR : Int) : Bool :=
  bif bif bif iEq a0_Op 54 then true else iEq a0_Op 57 then true else iNe a0_Rs1 0 then true else iNe a0_Imm 0
def legal_WritesG (a0_Op : Int) (a0_Rd : Int) (a0_Rs1 : Int) (a0_Rs2 : Int) (a0_Imm : Int) (a0_CSR : Int) : Bool :=
  true
def legal_WritesV (a0_Op : Int) (a0_Rd : Int) (a0_Rs1 : Int) (a0_Rs2 : Int) (a0_Imm : Int) (a0_CSR : Int) : AV := .bl (legal_Writes0 a0_Op a0_Rd a0_Rs1 a0_Rs2 a0_Imm a0_CSR)
theorem legal_WritesE (g : Nat → AV) : pcOf Try.prog okT (lookR T47) (inl Try.prog okT (lookR T47) RO FSx 100 ST 2) RO NOV 100 false Try.f48 (norms [(.agg [(.int .i64), (.int .i64), (.int .i64), (.int .i64), (.int .i64), (.int .i64)])] 0 g) = some (legal_WritesG (((g 0).fld 0).num) (((g 0).fld 1).num) (((g 0).fld 2).num) (((g 0).fld 3).num) (((g 0).fld 4).num) (((g 0).fld 5).num), legal_WritesV (((g 0).fld 0).num) (((g 0).fld 1).num) (((g 0).fld 2).num) (((g 0).fld 3).num) (((g 0).fld 4).num) (((g 0).fld 5).num)) := by kernel_rfl
theorem legal_WritesP : Plain Try.prog 48 Try.f48 := ⟨Try.func48, of_decide_eq_true (by kernel_rfl)⟩
theorem legal_WritesT (a0_Op : Int) (a0_Rd : Int) (a0_Rs1 : Int) (a0_Rs2 : Int) (a0_Imm : Int) (a0_CSR : Int) : legal_WritesG a0_Op a0_Rd a0_Rs1 a0_Rs2 a0_Imm a0_CSR = true := rfl
theorem legal_WritesO : RowOk Try.prog 48 (rowF [(.agg [(.int .i64), (.int .i64), (.int .i64), (.int .i64), (.int .i64), (.int .i64)])] none fun g => legal_WritesV (((g 0).fld 0).num) (((g 0).fld 1).num) (((g 0).fld 2).num) (((g 0).fld 3).num) (((g 0).fld 4).num) (((g 0).fld 5).num)) := rowT_ok fun g => pcOf_ok mix fair T47_ok (inl_ok mix fair T47_ok FSx_ok 2) legal_WritesP (fun c _ => OvOk_none c) (legal_WritesE g) (legal_WritesT (((g 0).fld 0).num) (((g 0).fld 1).num) (((g 0).fld 2).num) (((g 0).fld 3).num) (((g 0).fld 4).num) (((g 0).fld 5).num))
def T48 : List Row := (48, (rowF [(.agg [(.int .i64), (.int .i64), (.int .i64), (.int .i64), (.int .i64), (.int .i64)])] none fun g => legal_WritesV (((g 0).fld 0).num) (((g 0).fld 1).num) (((g 0).fld 2).num) (((g 0).fld 3).num) (((g 0).fld 4).num) (((g 0).fld 5).num))) :: T47
theorem T48_ok : PSound Try.prog (lookR T48) := lookR_cons legal_WritesO T47_ok

/- sallyport/fence.table -/
def fence_table0 (a0 : Int) : Bool :=
  bif bif iEq a0 15 then true else iEq a0 28 then true else iEq a0 21
def fence_tableG (a0 : Int) : Bool :=
  true
def fence_tableV (a0 : Int) : AV := .bl (fence_table0 a0)
theorem fence_tableE (g : Nat → AV) : pcOf Try.prog okT (lookR T48) (inl Try.prog okT (lookR T48) RO FSx 100 ST 2) RO NOV 100 false Try.f49 (norms [(.int .i64)] 0 g) = some (fence_tableG ((g 0).num), fence_tableV ((g 0).num)) := by kernel_rfl
theorem fence_tableP : Plain Try.prog 49 Try.f49 := ⟨Try.func49, of_decide_eq_true (by kernel_rfl)⟩
theorem fence_tableT (a0 : Int) : fence_tableG a0 = true := rfl
theorem fence_tableO : RowOk Try.prog 49 (rowF [(.int .i64)] none fun g => fence_tableV ((g 0).num)) := rowT_ok fun g => pcOf_ok mix fair T48_ok (inl_ok mix fair T48_ok FSx_ok 2) fence_tableP (fun c _ => OvOk_none c) (fence_tableE g) (fence_tableT ((g 0).num))
def T49 : List Row := (49, (rowF [(.int .i64)] none fun g => fence_tableV ((g 0).num))) :: T48
theorem T49_ok : PSound Try.prog (lookR T49) := lookR_cons fence_tableO T48_ok

/- sallyport/csr.guests -/
def csr_guestsG  : Bool :=
  true
def csr_guestsV  : AV := .it .u64 786722
theorem csr_guestsE (g : Nat → AV) : pcOf Try.prog okT (lookR T49) (inl Try.prog okT (lookR T49) RO FSx 100 ST 2) RO NOV 100 false Try.f59 (norms [] 0 g) = some (csr_guestsG , csr_guestsV ) := by kernel_rfl
theorem csr_guestsP : Plain Try.prog 59 Try.f59 := ⟨Try.func59, of_decide_eq_true (by kernel_rfl)⟩
theorem csr_guestsT  : csr_guestsG  = true := rfl
theorem csr_guestsO : RowOk Try.prog 59 (rowF [] none fun g => csr_guestsV ) := rowT_ok fun g => pcOf_ok mix fair T49_ok (inl_ok mix fair T49_ok FSx_ok 2) csr_guestsP (fun c _ => OvOk_none c) (csr_guestsE g) (csr_guestsT )
def T59 : List Row := (59, (rowF [] none fun g => csr_guestsV )) :: T49
theorem T59_ok : PSound Try.prog (lookR T59) := lookR_cons csr_guestsO T49_ok

/- sallyport/csr.rows -/
def csr_rows0  : Nat → Int :=
  fun i0 => bif i0 == 28 then 640
  else
    bif i0 == 27 then 579
    else
      bif i0 == 26 then 578
      else
        bif i0 == 25 then 577
        else
          bif i0 == 24 then 576
          else
            bif i0 == 23 then 517
            else
              bif i0 == 22 then 512
              else
                bif i0 == 21 then 1664
                else
                  bif i0 == 20 then 1603
                  else
                    bif i0 == 19 then 1605
                    else
                      bif i0 == 18 then 1539
                      else
                        bif i0 == 17 then 1538
                        else
                          bif i0 == 16 then 1536
                          else
                            bif i0 == 15 then 384
                            else
                              bif i0 == 14 then 323
                              else
                                bif i0 == 13 then 322
                                else
                                  bif i0 == 12 then 321
                                  else
                                    bif i0 == 11 then 320
                                    else
                                      bif i0 == 10 then 261
                                      else
                                        bif i0 == 9 then 843
                                        else
                                          bif i0 == 8 then 835
                                          else
                                            bif i0 == 7 then 834
                                            else
                                              bif i0 == 6 then 833
                                              else
                                                bif i0 == 5 then 832
                                                else bif i0 == 4 then 773 else bif i0 == 3 then 772 else bif i0 == 2 then 771 else bif i0 == 1 then 770 else bif i0 == 0 then 768 else 0
def csr_rows1  : Nat → Int :=
  fun i0 => bif i0 == 28 then 9223372036871487743
  else
    bif i0 == 27 then 18446744073709551615
    else
      bif i0 == 26 then 18446744073709551615
      else
        bif i0 == 25 then 18446744073709551612
        else
          bif i0 == 24 then 18446744073709551615
          else
            bif i0 == 23 then 18446744073709551612
            else
              bif i0 == 22 then 786722
              else
                bif i0 == 21 then 9223372036871487743
                else
                  bif i0 == 20 then 18446744073709551615
                  else
                    bif i0 == 19 then 1088
                    else
                      bif i0 == 18 then 1088
                      else
                        bif i0 == 17 then 45567
                        else
                          bif i0 == 16 then 7340992
                          else
                            bif i0 == 15 then 9223372036871487743
                            else
                              bif i0 == 14 then 18446744073709551615
                              else
                                bif i0 == 13 then 18446744073709551615
                                else
                                  bif i0 == 12 then 18446744073709551612
                                  else
                                    bif i0 == 11 then 18446744073709551615
                                    else
                                      bif i0 == 10 then 18446744073709551612
                                      else
                                        bif i0 == 9 then 18446744073709551615
                                        else
                                          bif i0 == 8 then 18446744073709551615
                                          else
                                            bif i0 == 7 then 18446744073709551615
                                            else
                                              bif i0 == 6 then 18446744073709551612
                                              else
                                                bif i0 == 5 then 18446744073709551615
                                                else
                                                  bif i0 == 4 then 18446744073709551612
                                                  else bif i0 == 3 then 1632 else bif i0 == 2 then 544 else bif i0 == 1 then 15775231 else bif i0 == 0 then 824641853866 else 0
def csr_rowsG  : Bool :=
  true
def csr_rowsV  : AV := .arr 29 (.agg [(.int .i64), (.int .u64)]) fun i0 => .agg [.it .i64 (csr_rows0 i0), .it .u64 (csr_rows1 i0)]
theorem csr_rowsE (g : Nat → AV) : pcOf Try.prog okT (lookR T59) (inl Try.prog okT (lookR T59) RO FSx 100 ST 2) RO NOV 100 false Try.f55 (norms [] 0 g) = some (csr_rowsG , csr_rowsV ) := by kernel_rfl
theorem csr_rowsP : Plain Try.prog 55 Try.f55 := ⟨Try.func55, of_decide_eq_true (by kernel_rfl)⟩
theorem csr_rowsT  : csr_rowsG  = true := rfl
theorem csr_rowsO : RowOk Try.prog 55 (rowF [] none fun g => csr_rowsV ) := rowT_ok fun g => pcOf_ok mix fair T59_ok (inl_ok mix fair T59_ok FSx_ok 2) csr_rowsP (fun c _ => OvOk_none c) (csr_rowsE g) (csr_rowsT )
def T55 : List Row := (55, (rowF [] none fun g => csr_rowsV )) :: T59
theorem T55_ok : PSound Try.prog (lookR T55) := lookR_cons csr_rowsO T59_ok

/- sallyport/csr.Index -/
def csr_Index0 (a0 : Int) : Int :=
  bif iEq 768 a0 then 0
  else
    bif iEq 770 a0 then 1
    else
      bif iEq 771 a0 then 2
      else
        bif iEq 772 a0 then 3
        else
          bif iEq 773 a0 then 4
          else
            bif iEq 832 a0 then 5
            else
              bif iEq 833 a0 then 6
              else
                bif iEq 834 a0 then 7
                else
                  bif iEq 835 a0 then 8
                  else
                    bif iEq 843 a0 then 9
                    else
                      bif iEq 261 a0 then 10
                      else
                        bif iEq 320 a0 then 11
                        else
                          bif iEq 321 a0 then 12
                          else
                            bif iEq 322 a0 then 13
                            else
                              bif iEq 323 a0 then 14
                              else
                                bif iEq 384 a0 then 15
                                else
                                  bif iEq 1536 a0 then 16
                                  else
                                    bif iEq 1538 a0 then 17
                                    else
                                      bif iEq 1539 a0 then 18
                                      else
                                        bif iEq 1605 a0 then 19
                                        else
                                          bif iEq 1603 a0 then 20
                                          else
                                            bif iEq 1664 a0 then 21
                                            else
                                              bif iEq 512 a0 then 22
                                              else
                                                bif iEq 517 a0 then 23
                                                else bif iEq 576 a0 then 24 else bif iEq 577 a0 then 25 else bif iEq 578 a0 then 26 else bif iEq 579 a0 then 27 else bif iEq 640 a0 then 28 else -1
def csr_IndexG (a0 : Int) : Bool :=
  bif iEq 768 a0 then true
  else
    bif iEq 770 a0 then true
    else
      bif iEq 771 a0 then true
      else
        bif iEq 772 a0 then true
        else
          bif iEq 773 a0 then true
          else
            bif iEq 832 a0 then true
            else
              bif iEq 833 a0 then true
              else
                bif iEq 834 a0 then true
                else
                  bif iEq 835 a0 then true
                  else
                    bif iEq 843 a0 then true
                    else
                      bif iEq 261 a0 then true
                      else
                        bif iEq 320 a0 then true
                        else
                          bif iEq 321 a0 then true
                          else
                            bif iEq 322 a0 then true
                            else
                              bif iEq 323 a0 then true
                              else
                                bif iEq 384 a0 then true
                                else
                                  bif iEq 1536 a0 then true
                                  else
                                    bif iEq 1538 a0 then true
                                    else
                                      bif iEq 1539 a0 then true
                                      else
                                        bif iEq 1605 a0 then true
                                        else
                                          bif iEq 1603 a0 then true
                                          else
                                            bif iEq 1664 a0 then true
                                            else
                                              bif iEq 512 a0 then true
                                              else
                                                bif iEq 517 a0 then true
                                                else
                                                  bif iEq 576 a0 then true
                                                  else bif iEq 577 a0 then true else bif iEq 578 a0 then true else bif iEq 579 a0 then true else bif iEq 640 a0 then true else true
def csr_IndexV (a0 : Int) : AV := .it .i64 (csr_Index0 a0)
theorem csr_IndexE (g : Nat → AV) : pcOf Try.prog okT (lookR T55) (inl Try.prog okT (lookR T55) RO FSx 100 ST 2) RO NOV 100 false Try.f50 (norms [(.int .i64)] 0 g) = some (csr_IndexG ((g 0).num), csr_IndexV ((g 0).num)) := by kernel_rfl
theorem csr_IndexP : Plain Try.prog 50 Try.f50 := ⟨Try.func50, of_decide_eq_true (by kernel_rfl)⟩
theorem csr_IndexT (a0 : Int) : csr_IndexG a0 = true := by
  unfold csr_IndexG
  simp only [Go.Ev.cS1, Go.Ev.cS2, Go.Ev.cS3, Go.Ev.cS4, Go.Ev.cS6, Go.Ev.cS7]
theorem csr_IndexO : RowOk Try.prog 50 (rowF [(.int .i64)] none fun g => csr_IndexV ((g 0).num)) := rowT_ok fun g => pcOf_ok mix fair T55_ok (inl_ok mix fair T55_ok FSx_ok 2) csr_IndexP (fun c _ => OvOk_none c) (csr_IndexE g) (csr_IndexT ((g 0).num))
def T50 : List Row := (50, (rowF [(.int .i64)] none fun g => csr_IndexV ((g 0).num))) :: T55
theorem T50_ok : PSound Try.prog (lookR T50) := lookR_cons csr_IndexO T55_ok

theorem index_in (n : Int) : -1 ≤ csr_Index0 n ∧ csr_Index0 n < 29 := by
  show (fun x : Int => -1 ≤ x ∧ x < 29) (csr_Index0 n)
  unfold csr_Index0
  repeat' (refine cond_all (p := fun x : Int => -1 ≤ x ∧ x < 29) ?_ ?_)
  all_goals decide
/- sallyport/sallyportref8.Writes -/
def sallyportref8_Writes0 (a0_Op : Int) (a0_Rd : Int) (a0_Rs1 : Int) (a0_Rs2 : Int) (a0_Imm : Int) (a0_CSR : Int) : Bool :=
  bif bif bif iEq a0_Op 54 then true else iEq a0_Op 57 then true else iNe a0_Rs1 0 then true else iNe a0_Imm 0
def sallyportref8_WritesG (a0_Op : Int) (a0_Rd : Int) (a0_Rs1 : Int) (a0_Rs2 : Int) (a0_Imm : Int) (a0_CSR : Int) : Bool :=
  true
def sallyportref8_WritesV (a0_Op : Int) (a0_Rd : Int) (a0_Rs1 : Int) (a0_Rs2 : Int) (a0_Imm : Int) (a0_CSR : Int) : AV := .bl (sallyportref8_Writes0 a0_Op a0_Rd a0_Rs1 a0_Rs2 a0_Imm a0_CSR)
theorem sallyportref8_WritesE (g : Nat → AV) : pcOf Try.prog okT (lookR T50) (inl Try.prog okT (lookR T50) RO FSx 100 ST 2) RO NOV 100 false Try.f51 (norms [(.agg [(.int .i64), (.int .i64), (.int .i64), (.int .i64), (.int .i64), (.int .i64)])] 0 g) = some (sallyportref8_WritesG (((g 0).fld 0).num) (((g 0).fld 1).num) (((g 0).fld 2).num) (((g 0).fld 3).num) (((g 0).fld 4).num) (((g 0).fld 5).num), sallyportref8_WritesV (((g 0).fld 0).num) (((g 0).fld 1).num) (((g 0).fld 2).num) (((g 0).fld 3).num) (((g 0).fld 4).num) (((g 0).fld 5).num)) := by kernel_rfl
theorem sallyportref8_WritesP : Plain Try.prog 51 Try.f51 := ⟨Try.func51, of_decide_eq_true (by kernel_rfl)⟩
theorem sallyportref8_WritesT (a0_Op : Int) (a0_Rd : Int) (a0_Rs1 : Int) (a0_Rs2 : Int) (a0_Imm : Int) (a0_CSR : Int) : sallyportref8_WritesG a0_Op a0_Rd a0_Rs1 a0_Rs2 a0_Imm a0_CSR = true := rfl
theorem sallyportref8_WritesO : RowOk Try.prog 51 (rowF [(.agg [(.int .i64), (.int .i64), (.int .i64), (.int .i64), (.int .i64), (.int .i64)])] none fun g => sallyportref8_WritesV (((g 0).fld 0).num) (((g 0).fld 1).num) (((g 0).fld 2).num) (((g 0).fld 3).num) (((g 0).fld 4).num) (((g 0).fld 5).num)) := rowT_ok fun g => pcOf_ok mix fair T50_ok (inl_ok mix fair T50_ok FSx_ok 2) sallyportref8_WritesP (fun c _ => OvOk_none c) (sallyportref8_WritesE g) (sallyportref8_WritesT (((g 0).fld 0).num) (((g 0).fld 1).num) (((g 0).fld 2).num) (((g 0).fld 3).num) (((g 0).fld 4).num) (((g 0).fld 5).num))
def T51 : List Row := (51, (rowF [(.agg [(.int .i64), (.int .i64), (.int .i64), (.int .i64), (.int .i64), (.int .i64)])] none fun g => sallyportref8_WritesV (((g 0).fld 0).num) (((g 0).fld 1).num) (((g 0).fld 2).num) (((g 0).fld 3).num) (((g 0).fld 4).num) (((g 0).fld 5).num))) :: T50
theorem T51_ok : PSound Try.prog (lookR T51) := lookR_cons sallyportref8_WritesO T50_ok

/- sallyport/sallyportref8.Redirect -/
def sallyportref8_Redirect0 (a0 : Int) : Int :=
  bif iEq a0 256 then iAdd IntKind.i64 a0 256
  else
    bif iEq a0 260 then iAdd IntKind.i64 a0 256
    else
      bif iEq a0 261 then iAdd IntKind.i64 a0 256
      else
        bif iEq a0 320 then iAdd IntKind.i64 a0 256
        else
          bif iEq a0 321 then iAdd IntKind.i64 a0 256
          else bif iEq a0 322 then iAdd IntKind.i64 a0 256 else bif iEq a0 323 then iAdd IntKind.i64 a0 256 else bif iEq a0 384 then iAdd IntKind.i64 a0 256 else a0
def sallyportref8_Redirect0r (a0 : Int) : Int :=
  bif iEq a0 256 then bif iEq a0 256 then iAdd IntKind.i64 a0 256 else a0
  else
    bif iEq a0 260 then bif iEq a0 260 then iAdd IntKind.i64 a0 256 else a0
    else
      bif iEq a0 261 then bif iEq a0 261 then iAdd IntKind.i64 a0 256 else a0
      else
        bif iEq a0 320 then bif iEq a0 320 then iAdd IntKind.i64 a0 256 else a0
        else
          bif iEq a0 321 then bif iEq a0 321 then iAdd IntKind.i64 a0 256 else a0
          else
            bif iEq a0 322 then bif iEq a0 322 then iAdd IntKind.i64 a0 256 else a0
            else bif iEq a0 323 then bif iEq a0 323 then iAdd IntKind.i64 a0 256 else a0 else bif iEq a0 384 then iAdd IntKind.i64 a0 256 else a0
def sallyportref8_RedirectG (a0 : Int) : Bool :=
  bif iEq a0 256 then bif iEq a0 256 then true else true
  else
    bif iEq a0 260 then bif iEq a0 260 then true else true
    else
      bif iEq a0 261 then bif iEq a0 261 then true else true
      else
        bif iEq a0 320 then bif iEq a0 320 then true else true
        else
          bif iEq a0 321 then bif iEq a0 321 then true else true
          else bif iEq a0 322 then bif iEq a0 322 then true else true else bif iEq a0 323 then bif iEq a0 323 then true else true else bif iEq a0 384 then true else true
theorem sallyportref8_Redirect0_eq (a0 : Int)  : sallyportref8_Redirect0r a0  = sallyportref8_Redirect0 a0  := by
  unfold sallyportref8_Redirect0r
  first | (simp only [Go.Ev.cS1, Go.Ev.cS2, Go.Ev.cS3, Go.Ev.cS4, Go.Ev.cS6, Go.Ev.cS7]; done) | (simp only [Go.Ev.cS1, Go.Ev.cS2, Go.Ev.cS3, Go.Ev.cS4, Go.Ev.cS6, Go.Ev.cS7]; kernel_rfl)
def sallyportref8_RedirectV (a0 : Int) : AV := .it .i64 (sallyportref8_Redirect0 a0)
def sallyportref8_RedirectVr (a0 : Int) : AV := .it .i64 (sallyportref8_Redirect0r a0)
theorem sallyportref8_RedirectV_eq (a0 : Int) : sallyportref8_RedirectVr a0 = sallyportref8_RedirectV a0 := by
  unfold sallyportref8_RedirectVr sallyportref8_RedirectV
  simp only [sallyportref8_Redirect0_eq]
theorem sallyportref8_RedirectE (g : Nat → AV) : pcOf Try.prog okT (lookR T51) (inl Try.prog okT (lookR T51) RO FSx 100 ST 2) RO NOV 100 false Try.f52 (norms [(.int .i64)] 0 g) = some (sallyportref8_RedirectG ((g 0).num), sallyportref8_RedirectV ((g 0).num)) :=
  (by kernel_rfl : pcOf Try.prog okT (lookR T51) (inl Try.prog okT (lookR T51) RO FSx 100 ST 2) RO NOV 100 false Try.f52 (norms [(.int .i64)] 0 g) = some (sallyportref8_RedirectG ((g 0).num), sallyportref8_RedirectVr ((g 0).num))).trans (by rw [sallyportref8_RedirectV_eq])
theorem sallyportref8_RedirectP : Plain Try.prog 52 Try.f52 := ⟨Try.func52, of_decide_eq_true (by kernel_rfl)⟩
theorem sallyportref8_RedirectT (a0 : Int) : sallyportref8_RedirectG a0 = true := by
  unfold sallyportref8_RedirectG
  simp only [Go.Ev.cS1, Go.Ev.cS2, Go.Ev.cS3, Go.Ev.cS4, Go.Ev.cS6, Go.Ev.cS7]
theorem sallyportref8_RedirectO : RowOk Try.prog 52 (rowF [(.int .i64)] none fun g => sallyportref8_RedirectV ((g 0).num)) := rowT_ok fun g => pcOf_ok mix fair T51_ok (inl_ok mix fair T51_ok FSx_ok 2) sallyportref8_RedirectP (fun c _ => OvOk_none c) (sallyportref8_RedirectE g) (sallyportref8_RedirectT ((g 0).num))
def T52 : List Row := (52, (rowF [(.int .i64)] none fun g => sallyportref8_RedirectV ((g 0).num))) :: T51
theorem T52_ok : PSound Try.prog (lookR T52) := lookR_cons sallyportref8_RedirectO T51_ok

/- sallyport/sallyportref8.Mask -/
def sallyportref8_Mask_c0 (a0 : Int) : Bool :=
  bif iEq a0 16 then true
  else
    bif iEq a0 17 then true
    else
      bif iEq a0 18 then bif iEq a0 18 then true else bif iEq a0 22 then true else bif bif iLt a0 0 then true else iLe 29 a0 then true else true
      else bif iEq a0 19 then true else bif iEq a0 22 then true else bif bif iLt a0 0 then true else iLe 29 a0 then true else true
def sallyportref8_Mask_c1 (a0 : Int) : Bool :=
  bif iEq a0 15 then bif iEq a0 15 then true else sallyportref8_Mask_c0 a0
  else bif iEq a0 28 then bif iEq a0 28 then true else sallyportref8_Mask_c0 a0 else bif iEq a0 21 then true else sallyportref8_Mask_c0 a0
def sallyportref8_Mask_c2 (a0 : Int) : Int :=
  bif iEq a0 19 then 1088 else bif iEq a0 22 then 786722 else bif bif iLt a0 0 then true else iLe 29 a0 then 0 else 18446744073709551615
def sallyportref8_Mask_c3 (a0 : Int) : Int :=
  bif iEq a0 16 then 7340992
  else
    bif iEq a0 17 then 45567
    else bif iEq a0 18 then bif iEq a0 18 then 1088 else bif iEq a0 22 then 786722 else bif bif iLt a0 0 then true else iLe 29 a0 then 0 else 18446744073709551615 else sallyportref8_Mask_c2 a0
def sallyportref8_Mask_c4 (a0 : Int) : Int :=
  bif iEq a0 15 then bif iEq a0 15 then 9223372036871487743 else sallyportref8_Mask_c3 a0
  else bif iEq a0 28 then bif iEq a0 28 then 9223372036871487743 else sallyportref8_Mask_c3 a0 else bif iEq a0 21 then 9223372036871487743 else sallyportref8_Mask_c3 a0
def sallyportref8_Mask0 (a0 : Int) : Int :=
  bif iEq a0 0 then 824641853866
  else
    bif iEq a0 1 then 15775231
    else
      bif iEq a0 2 then 544
      else
        bif iEq a0 3 then 1632
        else
          bif iEq a0 4 then 18446744073709551612
          else
            bif iEq a0 10 then 18446744073709551612
            else
              bif iEq a0 23 then 18446744073709551612
              else
                bif iEq a0 6 then 18446744073709551612
                else
                  bif iEq a0 12 then 18446744073709551612
                  else
                    bif iEq a0 25 then 18446744073709551612
                    else
                      bif iEq a0 15 then 9223372036871487743
                      else
                        bif iEq a0 28 then 9223372036871487743
                        else bif iEq a0 21 then 9223372036871487743 else bif iEq a0 16 then 7340992 else bif iEq a0 17 then 45567 else bif iEq a0 18 then 1088 else sallyportref8_Mask_c2 a0
def sallyportref8_Mask0r (a0 : Int) : Int :=
  bif iEq a0 0 then 824641853866
  else
    bif iEq a0 1 then 15775231
    else
      bif iEq a0 2 then 544
      else
        bif iEq a0 3 then 1632
        else
          bif iEq a0 4 then bif iEq a0 4 then 18446744073709551612 else sallyportref8_Mask_c4 a0
          else
            bif iEq a0 10 then bif iEq a0 10 then 18446744073709551612 else sallyportref8_Mask_c4 a0
            else
              bif iEq a0 23 then bif iEq a0 23 then 18446744073709551612 else sallyportref8_Mask_c4 a0
              else
                bif iEq a0 6 then bif iEq a0 6 then 18446744073709551612 else sallyportref8_Mask_c4 a0
                else bif iEq a0 12 then bif iEq a0 12 then 18446744073709551612 else sallyportref8_Mask_c4 a0 else bif iEq a0 25 then 18446744073709551612 else sallyportref8_Mask_c4 a0
def sallyportref8_MaskG (a0 : Int) : Bool :=
  bif iEq a0 0 then true
  else
    bif iEq a0 1 then true
    else
      bif iEq a0 2 then true
      else
        bif iEq a0 3 then true
        else
          bif iEq a0 4 then bif iEq a0 4 then true else sallyportref8_Mask_c1 a0
          else
            bif iEq a0 10 then bif iEq a0 10 then true else sallyportref8_Mask_c1 a0
            else
              bif iEq a0 23 then bif iEq a0 23 then true else sallyportref8_Mask_c1 a0
              else
                bif iEq a0 6 then bif iEq a0 6 then true else sallyportref8_Mask_c1 a0
                else bif iEq a0 12 then bif iEq a0 12 then true else sallyportref8_Mask_c1 a0 else bif iEq a0 25 then true else sallyportref8_Mask_c1 a0
theorem sallyportref8_Mask0_eq (a0 : Int)  : sallyportref8_Mask0r a0  = sallyportref8_Mask0 a0  := by
  unfold sallyportref8_Mask0r
  first | (simp only [sallyportref8_Mask_c0, sallyportref8_Mask_c1, sallyportref8_Mask_c2, sallyportref8_Mask_c3, sallyportref8_Mask_c4, Go.Ev.cS1, Go.Ev.cS2, Go.Ev.cS3, Go.Ev.cS4, Go.Ev.cS6, Go.Ev.cS7]; done) | (simp only [sallyportref8_Mask_c0, sallyportref8_Mask_c1, sallyportref8_Mask_c2, sallyportref8_Mask_c3, sallyportref8_Mask_c4, Go.Ev.cS1, Go.Ev.cS2, Go.Ev.cS3, Go.Ev.cS4, Go.Ev.cS6, Go.Ev.cS7]; kernel_rfl)
def sallyportref8_MaskV (a0 : Int) : AV := .it .u64 (sallyportref8_Mask0 a0)
def sallyportref8_MaskVr (a0 : Int) : AV := .it .u64 (sallyportref8_Mask0r a0)
theorem sallyportref8_MaskV_eq (a0 : Int) : sallyportref8_MaskVr a0 = sallyportref8_MaskV a0 := by
  unfold sallyportref8_MaskVr sallyportref8_MaskV
  simp only [sallyportref8_Mask0_eq]
theorem sallyportref8_MaskE (g : Nat → AV) : pcOf Try.prog okT (lookR T52) (inl Try.prog okT (lookR T52) RO FSx 100 ST 2) RO NOV 100 false Try.f38 (norms [(.int .i64)] 0 g) = some (sallyportref8_MaskG ((g 0).num), sallyportref8_MaskV ((g 0).num)) :=
  (by kernel_rfl : pcOf Try.prog okT (lookR T52) (inl Try.prog okT (lookR T52) RO FSx 100 ST 2) RO NOV 100 false Try.f38 (norms [(.int .i64)] 0 g) = some (sallyportref8_MaskG ((g 0).num), sallyportref8_MaskVr ((g 0).num))).trans (by rw [sallyportref8_MaskV_eq])
theorem sallyportref8_MaskP : Plain Try.prog 38 Try.f38 := ⟨Try.func38, of_decide_eq_true (by kernel_rfl)⟩
theorem sallyportref8_MaskT (a0 : Int) : sallyportref8_MaskG a0 = true := by
  unfold sallyportref8_MaskG
  simp only [sallyportref8_Mask_c0, sallyportref8_Mask_c1, sallyportref8_Mask_c2, sallyportref8_Mask_c3, sallyportref8_Mask_c4, Go.Ev.cS1, Go.Ev.cS2, Go.Ev.cS3, Go.Ev.cS4, Go.Ev.cS6, Go.Ev.cS7]
theorem sallyportref8_MaskO : RowOk Try.prog 38 (rowF [(.int .i64)] none fun g => sallyportref8_MaskV ((g 0).num)) := rowT_ok fun g => pcOf_ok mix fair T52_ok (inl_ok mix fair T52_ok FSx_ok 2) sallyportref8_MaskP (fun c _ => OvOk_none c) (sallyportref8_MaskE g) (sallyportref8_MaskT ((g 0).num))
def T38 : List Row := (38, (rowF [(.int .i64)] none fun g => sallyportref8_MaskV ((g 0).num))) :: T52
theorem T38_ok : PSound Try.prog (lookR T38) := lookR_cons sallyportref8_MaskO T52_ok

/- sallyport/sallyportref8.Mpp -/
def sallyportref8_Mpp0 (a0 : Int) : Int :=
  bif iEq (iAnd IntKind.u64 (iShr IntKind.u64 a0 11) 3) 2 then iAndNot IntKind.u64 a0 6144 else a0
def sallyportref8_MppG (a0 : Int) : Bool :=
  bif iEq (iAnd IntKind.u64 (iShr IntKind.u64 a0 11) 3) 2 then true else true
def sallyportref8_MppV (a0 : Int) : AV := .it .u64 (sallyportref8_Mpp0 a0)
theorem sallyportref8_MppE (g : Nat → AV) : pcOf Try.prog okT (lookR T38) (inl Try.prog okT (lookR T38) RO FSx 100 ST 2) RO NOV 100 false Try.f39 (norms [(.int .u64)] 0 g) = some (sallyportref8_MppG ((g 0).num), sallyportref8_MppV ((g 0).num)) := by kernel_rfl
theorem sallyportref8_MppP : Plain Try.prog 39 Try.f39 := ⟨Try.func39, of_decide_eq_true (by kernel_rfl)⟩
theorem sallyportref8_MppT (a0 : Int) : sallyportref8_MppG a0 = true := by
  unfold sallyportref8_MppG
  simp only [Go.Ev.cS1, Go.Ev.cS2, Go.Ev.cS3, Go.Ev.cS4, Go.Ev.cS6, Go.Ev.cS7]
theorem sallyportref8_MppO : RowOk Try.prog 39 (rowF [(.int .u64)] none fun g => sallyportref8_MppV ((g 0).num)) := rowT_ok fun g => pcOf_ok mix fair T38_ok (inl_ok mix fair T38_ok FSx_ok 2) sallyportref8_MppP (fun c _ => OvOk_none c) (sallyportref8_MppE g) (sallyportref8_MppT ((g 0).num))
def T39 : List Row := (39, (rowF [(.int .u64)] none fun g => sallyportref8_MppV ((g 0).num))) :: T38
theorem T39_ok : PSound Try.prog (lookR T39) := lookR_cons sallyportref8_MppO T38_ok

end
end Go.Proofs.Ytcmknfnnapnecaa.PV
