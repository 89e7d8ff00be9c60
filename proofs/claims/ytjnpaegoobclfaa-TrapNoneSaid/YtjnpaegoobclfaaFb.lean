/-
  What functions of the program and of the document yield, evaluated ((trap.told).enter .. sallyportlaw16.known). Printed by a program of the prover's own (wip/prt).
-/
import Derived.Test.YtjnpaegoobclfaaRows
import Derived.Test.YtjnpaegoobclfaaEvW
import Derived.Test.YtjnpaegoobclfaaFa
set_option linter.unusedVariables false
set_option linter.unusedSimpArgs false
namespace Go.Proofs.Ytjnpaegoobclfaa.PV
noncomputable section
open Go Go.Ev
/- (sallyport/trap.told).enter -/
def trap_told__enter0r (a0_pc : Int) (a0_cause : Int) (a0_value : Int) (a0_place : Int) (a0_at : Int) (a1_X : Nat → Int) (a1_PC : Int) (a1_Level : Int) (a1_V : Bool) (a1_C : Nat → Int) (a1_Done : Int) (a2_Cause : Int) (a2_Value : Int) (a2_Place : Int) (a2_GVA : Bool) : Nat → Int :=
  fun i0 => bif iLe 0 a0_place then a1_X i0 else a1_X i0
def trap_told__enter1 (a0_pc : Int) (a0_cause : Int) (a0_value : Int) (a0_place : Int) (a0_at : Int) (a1_X : Nat → Int) (a1_PC : Int) (a1_Level : Int) (a1_V : Bool) (a1_C : Nat → Int) (a1_Done : Int) (a2_Cause : Int) (a2_Value : Int) (a2_Place : Int) (a2_GVA : Bool) : Int :=
  bif iLe 0 a0_place then
    bif a0_at.toNat == a0_place.toNat then a2_Place
    else bif a0_at.toNat == a0_value.toNat then a2_Value else bif a0_at.toNat == a0_cause.toNat then a2_Cause else bif a0_at.toNat == a0_pc.toNat then a1_PC else a1_C a0_at.toNat
  else bif a0_at.toNat == a0_value.toNat then a2_Value else bif a0_at.toNat == a0_cause.toNat then a2_Cause else bif a0_at.toNat == a0_pc.toNat then a1_PC else a1_C a0_at.toNat
def trap_told__enter2r (a0_pc : Int) (a0_cause : Int) (a0_value : Int) (a0_place : Int) (a0_at : Int) (a1_X : Nat → Int) (a1_PC : Int) (a1_Level : Int) (a1_V : Bool) (a1_C : Nat → Int) (a1_Done : Int) (a2_Cause : Int) (a2_Value : Int) (a2_Place : Int) (a2_GVA : Bool) : Int :=
  bif iLe 0 a0_place then a1_Level else a1_Level
def trap_told__enter3r (a0_pc : Int) (a0_cause : Int) (a0_value : Int) (a0_place : Int) (a0_at : Int) (a1_X : Nat → Int) (a1_PC : Int) (a1_Level : Int) (a1_V : Bool) (a1_C : Nat → Int) (a1_Done : Int) (a2_Cause : Int) (a2_Value : Int) (a2_Place : Int) (a2_GVA : Bool) : Bool :=
  bif iLe 0 a0_place then a1_V else a1_V
def trap_told__enter4 (a0_pc : Int) (a0_cause : Int) (a0_value : Int) (a0_place : Int) (a0_at : Int) (a1_X : Nat → Int) (a1_PC : Int) (a1_Level : Int) (a1_V : Bool) (a1_C : Nat → Int) (a1_Done : Int) (a2_Cause : Int) (a2_Value : Int) (a2_Place : Int) (a2_GVA : Bool) : Nat → Int :=
  fun i0 => bif iLe 0 a0_place then
    bif i0 == a0_place.toNat then a2_Place else bif i0 == a0_value.toNat then a2_Value else bif i0 == a0_cause.toNat then a2_Cause else bif i0 == a0_pc.toNat then a1_PC else a1_C i0
  else bif i0 == a0_value.toNat then a2_Value else bif i0 == a0_cause.toNat then a2_Cause else bif i0 == a0_pc.toNat then a1_PC else a1_C i0
def trap_told__enter5r (a0_pc : Int) (a0_cause : Int) (a0_value : Int) (a0_place : Int) (a0_at : Int) (a1_X : Nat → Int) (a1_PC : Int) (a1_Level : Int) (a1_V : Bool) (a1_C : Nat → Int) (a1_Done : Int) (a2_Cause : Int) (a2_Value : Int) (a2_Place : Int) (a2_GVA : Bool) : Int :=
  bif iLe 0 a0_place then a1_Done else a1_Done
def trap_told__enterG (a0_pc : Int) (a0_cause : Int) (a0_value : Int) (a0_place : Int) (a0_at : Int) (a1_X : Nat → Int) (a1_PC : Int) (a1_Level : Int) (a1_V : Bool) (a1_C : Nat → Int) (a1_Done : Int) (a2_Cause : Int) (a2_Value : Int) (a2_Place : Int) (a2_GVA : Bool) : Bool :=
  iIn a0_pc 29 && (iIn a0_cause 29 && (iIn a0_value 29 && bif iLe 0 a0_place then iIn a0_place 29 && (iIn a0_at 29 && true) else iIn a0_at 29 && true))
theorem trap_told__enter0_eq (a0_pc : Int) (a0_cause : Int) (a0_value : Int) (a0_place : Int) (a0_at : Int) (a1_X : Nat → Int) (a1_PC : Int) (a1_Level : Int) (a1_V : Bool) (a1_C : Nat → Int) (a1_Done : Int) (a2_Cause : Int) (a2_Value : Int) (a2_Place : Int) (a2_GVA : Bool) (i0 : Nat) : trap_told__enter0r a0_pc a0_cause a0_value a0_place a0_at a1_X a1_PC a1_Level a1_V a1_C a1_Done a2_Cause a2_Value a2_Place a2_GVA i0 = a1_X i0 := by
  unfold trap_told__enter0r
  first | (simp only [Go.Ev.cS1, Go.Ev.cS2, Go.Ev.cS3, Go.Ev.cS4, Go.Ev.cS6, Go.Ev.cS7]; done) | (simp only [Go.Ev.cS1, Go.Ev.cS2, Go.Ev.cS3, Go.Ev.cS4, Go.Ev.cS6, Go.Ev.cS7]; kernel_rfl)
theorem trap_told__enter2_eq (a0_pc : Int) (a0_cause : Int) (a0_value : Int) (a0_place : Int) (a0_at : Int) (a1_X : Nat → Int) (a1_PC : Int) (a1_Level : Int) (a1_V : Bool) (a1_C : Nat → Int) (a1_Done : Int) (a2_Cause : Int) (a2_Value : Int) (a2_Place : Int) (a2_GVA : Bool)  : trap_told__enter2r a0_pc a0_cause a0_value a0_place a0_at a1_X a1_PC a1_Level a1_V a1_C a1_Done a2_Cause a2_Value a2_Place a2_GVA  = a1_Level := by
  unfold trap_told__enter2r
  first | (simp only [Go.Ev.cS1, Go.Ev.cS2, Go.Ev.cS3, Go.Ev.cS4, Go.Ev.cS6, Go.Ev.cS7]; done) | (simp only [Go.Ev.cS1, Go.Ev.cS2, Go.Ev.cS3, Go.Ev.cS4, Go.Ev.cS6, Go.Ev.cS7]; kernel_rfl)
theorem trap_told__enter3_eq (a0_pc : Int) (a0_cause : Int) (a0_value : Int) (a0_place : Int) (a0_at : Int) (a1_X : Nat → Int) (a1_PC : Int) (a1_Level : Int) (a1_V : Bool) (a1_C : Nat → Int) (a1_Done : Int) (a2_Cause : Int) (a2_Value : Int) (a2_Place : Int) (a2_GVA : Bool)  : trap_told__enter3r a0_pc a0_cause a0_value a0_place a0_at a1_X a1_PC a1_Level a1_V a1_C a1_Done a2_Cause a2_Value a2_Place a2_GVA  = a1_V := by
  unfold trap_told__enter3r
  first | (simp only [Go.Ev.cS1, Go.Ev.cS2, Go.Ev.cS3, Go.Ev.cS4, Go.Ev.cS6, Go.Ev.cS7]; done) | (simp only [Go.Ev.cS1, Go.Ev.cS2, Go.Ev.cS3, Go.Ev.cS4, Go.Ev.cS6, Go.Ev.cS7]; kernel_rfl)
theorem trap_told__enter5_eq (a0_pc : Int) (a0_cause : Int) (a0_value : Int) (a0_place : Int) (a0_at : Int) (a1_X : Nat → Int) (a1_PC : Int) (a1_Level : Int) (a1_V : Bool) (a1_C : Nat → Int) (a1_Done : Int) (a2_Cause : Int) (a2_Value : Int) (a2_Place : Int) (a2_GVA : Bool)  : trap_told__enter5r a0_pc a0_cause a0_value a0_place a0_at a1_X a1_PC a1_Level a1_V a1_C a1_Done a2_Cause a2_Value a2_Place a2_GVA  = a1_Done := by
  unfold trap_told__enter5r
  first | (simp only [Go.Ev.cS1, Go.Ev.cS2, Go.Ev.cS3, Go.Ev.cS4, Go.Ev.cS6, Go.Ev.cS7]; done) | (simp only [Go.Ev.cS1, Go.Ev.cS2, Go.Ev.cS3, Go.Ev.cS4, Go.Ev.cS6, Go.Ev.cS7]; kernel_rfl)
def trap_told__enterV (a0_pc : Int) (a0_cause : Int) (a0_value : Int) (a0_place : Int) (a0_at : Int) (a1_X : Nat → Int) (a1_PC : Int) (a1_Level : Int) (a1_V : Bool) (a1_C : Nat → Int) (a1_Done : Int) (a2_Cause : Int) (a2_Value : Int) (a2_Place : Int) (a2_GVA : Bool) : AV := .agg [.arr 32 (.int .u64) fun i0 => .it .u64 (a1_X i0), .it .u64 (trap_told__enter1 a0_pc a0_cause a0_value a0_place a0_at a1_X a1_PC a1_Level a1_V a1_C a1_Done a2_Cause a2_Value a2_Place a2_GVA), .it .i64 (a1_Level), .bl (a1_V), .arr 29 (.int .u64) fun i0 => .it .u64 (trap_told__enter4 a0_pc a0_cause a0_value a0_place a0_at a1_X a1_PC a1_Level a1_V a1_C a1_Done a2_Cause a2_Value a2_Place a2_GVA i0), .it .u64 (a1_Done)]
def trap_told__enterVr (a0_pc : Int) (a0_cause : Int) (a0_value : Int) (a0_place : Int) (a0_at : Int) (a1_X : Nat → Int) (a1_PC : Int) (a1_Level : Int) (a1_V : Bool) (a1_C : Nat → Int) (a1_Done : Int) (a2_Cause : Int) (a2_Value : Int) (a2_Place : Int) (a2_GVA : Bool) : AV := .agg [.arr 32 (.int .u64) fun i0 => .it .u64 (trap_told__enter0r a0_pc a0_cause a0_value a0_place a0_at a1_X a1_PC a1_Level a1_V a1_C a1_Done a2_Cause a2_Value a2_Place a2_GVA i0), .it .u64 (trap_told__enter1 a0_pc a0_cause a0_value a0_place a0_at a1_X a1_PC a1_Level a1_V a1_C a1_Done a2_Cause a2_Value a2_Place a2_GVA), .it .i64 (trap_told__enter2r a0_pc a0_cause a0_value a0_place a0_at a1_X a1_PC a1_Level a1_V a1_C a1_Done a2_Cause a2_Value a2_Place a2_GVA), .bl (trap_told__enter3r a0_pc a0_cause a0_value a0_place a0_at a1_X a1_PC a1_Level a1_V a1_C a1_Done a2_Cause a2_Value a2_Place a2_GVA), .arr 29 (.int .u64) fun i0 => .it .u64 (trap_told__enter4 a0_pc a0_cause a0_value a0_place a0_at a1_X a1_PC a1_Level a1_V a1_C a1_Done a2_Cause a2_Value a2_Place a2_GVA i0), .it .u64 (trap_told__enter5r a0_pc a0_cause a0_value a0_place a0_at a1_X a1_PC a1_Level a1_V a1_C a1_Done a2_Cause a2_Value a2_Place a2_GVA)]
theorem trap_told__enterV_eq (a0_pc : Int) (a0_cause : Int) (a0_value : Int) (a0_place : Int) (a0_at : Int) (a1_X : Nat → Int) (a1_PC : Int) (a1_Level : Int) (a1_V : Bool) (a1_C : Nat → Int) (a1_Done : Int) (a2_Cause : Int) (a2_Value : Int) (a2_Place : Int) (a2_GVA : Bool) : trap_told__enterVr a0_pc a0_cause a0_value a0_place a0_at a1_X a1_PC a1_Level a1_V a1_C a1_Done a2_Cause a2_Value a2_Place a2_GVA = trap_told__enterV a0_pc a0_cause a0_value a0_place a0_at a1_X a1_PC a1_Level a1_V a1_C a1_Done a2_Cause a2_Value a2_Place a2_GVA := by
  unfold trap_told__enterVr trap_told__enterV
  simp only [trap_told__enter0_eq, trap_told__enter2_eq, trap_told__enter3_eq, trap_told__enter5_eq]
theorem trap_told__enterE (g : Nat → AV) : pcOf Try.prog okT (lookR T25) (inl Try.prog okT (lookR T25) RO FS 100 ST 2) RO NOV 100 false Try.f27 (norms [(.agg [(.int .i64), (.int .i64), (.int .i64), (.int .i64), (.int .i64)]), (.agg [(.arr 32 (.int .u64)), (.int .u64), (.int .i64), .bool, (.arr 29 (.int .u64)), (.int .u64)]), (.agg [(.int .u64), (.int .u64), (.int .u64), .bool])] 0 g) = some (trap_told__enterG (((g 0).fld 0).num) (((g 0).fld 1).num) (((g 0).fld 2).num) (((g 0).fld 3).num) (((g 0).fld 4).num) (fun i0 => (((g 1).fld 0).ix i0).num) (((g 1).fld 1).num) (((g 1).fld 2).num) (((g 1).fld 3).bool) (fun i0 => (((g 1).fld 4).ix i0).num) (((g 1).fld 5).num) (((g 2).fld 0).num) (((g 2).fld 1).num) (((g 2).fld 2).num) (((g 2).fld 3).bool), trap_told__enterV (((g 0).fld 0).num) (((g 0).fld 1).num) (((g 0).fld 2).num) (((g 0).fld 3).num) (((g 0).fld 4).num) (fun i0 => (((g 1).fld 0).ix i0).num) (((g 1).fld 1).num) (((g 1).fld 2).num) (((g 1).fld 3).bool) (fun i0 => (((g 1).fld 4).ix i0).num) (((g 1).fld 5).num) (((g 2).fld 0).num) (((g 2).fld 1).num) (((g 2).fld 2).num) (((g 2).fld 3).bool)) :=
  (by kernel_rfl : pcOf Try.prog okT (lookR T25) (inl Try.prog okT (lookR T25) RO FS 100 ST 2) RO NOV 100 false Try.f27 (norms [(.agg [(.int .i64), (.int .i64), (.int .i64), (.int .i64), (.int .i64)]), (.agg [(.arr 32 (.int .u64)), (.int .u64), (.int .i64), .bool, (.arr 29 (.int .u64)), (.int .u64)]), (.agg [(.int .u64), (.int .u64), (.int .u64), .bool])] 0 g) = some (trap_told__enterG (((g 0).fld 0).num) (((g 0).fld 1).num) (((g 0).fld 2).num) (((g 0).fld 3).num) (((g 0).fld 4).num) (fun i0 => (((g 1).fld 0).ix i0).num) (((g 1).fld 1).num) (((g 1).fld 2).num) (((g 1).fld 3).bool) (fun i0 => (((g 1).fld 4).ix i0).num) (((g 1).fld 5).num) (((g 2).fld 0).num) (((g 2).fld 1).num) (((g 2).fld 2).num) (((g 2).fld 3).bool), trap_told__enterVr (((g 0).fld 0).num) (((g 0).fld 1).num) (((g 0).fld 2).num) (((g 0).fld 3).num) (((g 0).fld 4).num) (fun i0 => (((g 1).fld 0).ix i0).num) (((g 1).fld 1).num) (((g 1).fld 2).num) (((g 1).fld 3).bool) (fun i0 => (((g 1).fld 4).ix i0).num) (((g 1).fld 5).num) (((g 2).fld 0).num) (((g 2).fld 1).num) (((g 2).fld 2).num) (((g 2).fld 3).bool))).trans (by rw [trap_told__enterV_eq])
theorem trap_told__enterP : Plain Try.prog 27 Try.f27 := ⟨Try.func27, of_decide_eq_true (by kernel_rfl)⟩
theorem trap_told__enterO : RowOk Try.prog 27 (rowF [(.agg [(.int .i64), (.int .i64), (.int .i64), (.int .i64), (.int .i64)]), (.agg [(.arr 32 (.int .u64)), (.int .u64), (.int .i64), .bool, (.arr 29 (.int .u64)), (.int .u64)]), (.agg [(.int .u64), (.int .u64), (.int .u64), .bool])] (some fun g => trap_told__enterG (((g 0).fld 0).num) (((g 0).fld 1).num) (((g 0).fld 2).num) (((g 0).fld 3).num) (((g 0).fld 4).num) (fun i0 => (((g 1).fld 0).ix i0).num) (((g 1).fld 1).num) (((g 1).fld 2).num) (((g 1).fld 3).bool) (fun i0 => (((g 1).fld 4).ix i0).num) (((g 1).fld 5).num) (((g 2).fld 0).num) (((g 2).fld 1).num) (((g 2).fld 2).num) (((g 2).fld 3).bool)) fun g => trap_told__enterV (((g 0).fld 0).num) (((g 0).fld 1).num) (((g 0).fld 2).num) (((g 0).fld 3).num) (((g 0).fld 4).num) (fun i0 => (((g 1).fld 0).ix i0).num) (((g 1).fld 1).num) (((g 1).fld 2).num) (((g 1).fld 3).bool) (fun i0 => (((g 1).fld 4).ix i0).num) (((g 1).fld 5).num) (((g 2).fld 0).num) (((g 2).fld 1).num) (((g 2).fld 2).num) (((g 2).fld 3).bool)) := rowF_ok fun g hg => pcOf_ok mix fair T25_ok (inl_ok mix fair T25_ok FS_ok 2) trap_told__enterP (fun c _ => OvOk_none c) (trap_told__enterE g) hg
def T27 : List Row := (27, (rowF [(.agg [(.int .i64), (.int .i64), (.int .i64), (.int .i64), (.int .i64)]), (.agg [(.arr 32 (.int .u64)), (.int .u64), (.int .i64), .bool, (.arr 29 (.int .u64)), (.int .u64)]), (.agg [(.int .u64), (.int .u64), (.int .u64), .bool])] (some fun g => trap_told__enterG (((g 0).fld 0).num) (((g 0).fld 1).num) (((g 0).fld 2).num) (((g 0).fld 3).num) (((g 0).fld 4).num) (fun i0 => (((g 1).fld 0).ix i0).num) (((g 1).fld 1).num) (((g 1).fld 2).num) (((g 1).fld 3).bool) (fun i0 => (((g 1).fld 4).ix i0).num) (((g 1).fld 5).num) (((g 2).fld 0).num) (((g 2).fld 1).num) (((g 2).fld 2).num) (((g 2).fld 3).bool)) fun g => trap_told__enterV (((g 0).fld 0).num) (((g 0).fld 1).num) (((g 0).fld 2).num) (((g 0).fld 3).num) (((g 0).fld 4).num) (fun i0 => (((g 1).fld 0).ix i0).num) (((g 1).fld 1).num) (((g 1).fld 2).num) (((g 1).fld 3).bool) (fun i0 => (((g 1).fld 4).ix i0).num) (((g 1).fld 5).num) (((g 2).fld 0).num) (((g 2).fld 1).num) (((g 2).fld 2).num) (((g 2).fld 3).bool))) :: T25
theorem T27_ok : PSound Try.prog (lookR T27) := lookR_cons trap_told__enterO T25_ok

/- sallyport/word.Set -/
def word_Set0 (a0 : Int) (a1 : Int) (a2 : Int) (a3 : Int) : Int :=
  iOr IntKind.u64 (iAndNot IntKind.u64 a0 (iShl IntKind.u64 (word_mask0 (word_part1 a1 a2)) (word_part0 a1 a2)))
    (iShl IntKind.u64 (iAnd IntKind.u64 a3 (word_mask0 (word_part1 a1 a2))) (word_part0 a1 a2))
def word_SetG (a0 : Int) (a1 : Int) (a2 : Int) (a3 : Int) : Bool :=
  word_maskG (word_part1 a1 a2) && (iLe 0 (word_part0 a1 a2) && (word_maskG (word_part1 a1 a2) && (iLe 0 (word_part0 a1 a2) && true)))
def word_SetV (a0 : Int) (a1 : Int) (a2 : Int) (a3 : Int) : AV := .it .u64 (word_Set0 a0 a1 a2 a3)
theorem word_SetE (g : Nat → AV) : pcOf Try.prog okT (lookR T27) (inl Try.prog okT (lookR T27) RO FS 100 ST 2) RO NOV 100 false Try.f23 (norms [(.int .u64), (.int .i64), (.int .i64), (.int .u64)] 0 g) = some (word_SetG ((g 0).num) ((g 1).num) ((g 2).num) ((g 3).num), word_SetV ((g 0).num) ((g 1).num) ((g 2).num) ((g 3).num)) := by kernel_rfl
theorem word_SetP : Plain Try.prog 23 Try.f23 := ⟨Try.func23, of_decide_eq_true (by kernel_rfl)⟩
theorem word_SetT (a0 : Int) (a1 : Int) (a2 : Int) (a3 : Int) : word_SetG a0 a1 a2 a3 = true := by unfold word_SetG word_maskG; have h0 := part0_in a1 a2; have h1 := part1_in a1 a2; simp [iLe_true.2 h0.1, iLe_true.2 h1.1]
theorem word_SetO : RowOk Try.prog 23 (rowF [(.int .u64), (.int .i64), (.int .i64), (.int .u64)] none fun g => word_SetV ((g 0).num) ((g 1).num) ((g 2).num) ((g 3).num)) := rowT_ok fun g => pcOf_ok mix fair T27_ok (inl_ok mix fair T27_ok FS_ok 2) word_SetP (fun c _ => OvOk_none c) (word_SetE g) (word_SetT ((g 0).num) ((g 1).num) ((g 2).num) ((g 3).num))
def T23 : List Row := (23, (rowF [(.int .u64), (.int .i64), (.int .i64), (.int .u64)] none fun g => word_SetV ((g 0).num) ((g 1).num) ((g 2).num) ((g 3).num))) :: T27
theorem T23_ok : PSound Try.prog (lookR T23) := lookR_cons word_SetO T27_ok

/- sallyport/csr.Put -/
def csr_Put0r (a0_X : Nat → Int) (a0_PC : Int) (a0_Level : Int) (a0_V : Bool) (a0_C : Nat → Int) (a0_Done : Int) (a1 : Int) (a2 : Int) (a3 : Bool) : Nat → Int :=
  fun i0 => bif a3 then a0_X i0 else a0_X i0
def csr_Put1r (a0_X : Nat → Int) (a0_PC : Int) (a0_Level : Int) (a0_V : Bool) (a0_C : Nat → Int) (a0_Done : Int) (a1 : Int) (a2 : Int) (a3 : Bool) : Int :=
  bif a3 then a0_PC else a0_PC
def csr_Put2r (a0_X : Nat → Int) (a0_PC : Int) (a0_Level : Int) (a0_V : Bool) (a0_C : Nat → Int) (a0_Done : Int) (a1 : Int) (a2 : Int) (a3 : Bool) : Int :=
  bif a3 then a0_Level else a0_Level
def csr_Put3r (a0_X : Nat → Int) (a0_PC : Int) (a0_Level : Int) (a0_V : Bool) (a0_C : Nat → Int) (a0_Done : Int) (a1 : Int) (a2 : Int) (a3 : Bool) : Bool :=
  bif a3 then a0_V else a0_V
def csr_Put4 (a0_X : Nat → Int) (a0_PC : Int) (a0_Level : Int) (a0_V : Bool) (a0_C : Nat → Int) (a0_Done : Int) (a1 : Int) (a2 : Int) (a3 : Bool) : Nat → Int :=
  fun i0 => bif a3 then bif i0 == a1.toNat then word_Set0 (a0_C a1.toNat) a2 1 1 else a0_C i0 else bif i0 == a1.toNat then word_Set0 (a0_C a1.toNat) a2 1 0 else a0_C i0
def csr_Put5r (a0_X : Nat → Int) (a0_PC : Int) (a0_Level : Int) (a0_V : Bool) (a0_C : Nat → Int) (a0_Done : Int) (a1 : Int) (a2 : Int) (a3 : Bool) : Int :=
  bif a3 then a0_Done else a0_Done
def csr_PutG (a0_X : Nat → Int) (a0_PC : Int) (a0_Level : Int) (a0_V : Bool) (a0_C : Nat → Int) (a0_Done : Int) (a1 : Int) (a2 : Int) (a3 : Bool) : Bool :=
  bif a3 then iIn a1 29 && (iIn a1 29 && true) else iIn a1 29 && (iIn a1 29 && true)
theorem csr_Put0_eq (a0_X : Nat → Int) (a0_PC : Int) (a0_Level : Int) (a0_V : Bool) (a0_C : Nat → Int) (a0_Done : Int) (a1 : Int) (a2 : Int) (a3 : Bool) (i0 : Nat) : csr_Put0r a0_X a0_PC a0_Level a0_V a0_C a0_Done a1 a2 a3 i0 = a0_X i0 := by
  unfold csr_Put0r
  first | (simp only [Go.Ev.cS1, Go.Ev.cS2, Go.Ev.cS3, Go.Ev.cS4, Go.Ev.cS6, Go.Ev.cS7]; done) | (simp only [Go.Ev.cS1, Go.Ev.cS2, Go.Ev.cS3, Go.Ev.cS4, Go.Ev.cS6, Go.Ev.cS7]; kernel_rfl)
theorem csr_Put1_eq (a0_X : Nat → Int) (a0_PC : Int) (a0_Level : Int) (a0_V : Bool) (a0_C : Nat → Int) (a0_Done : Int) (a1 : Int) (a2 : Int) (a3 : Bool)  : csr_Put1r a0_X a0_PC a0_Level a0_V a0_C a0_Done a1 a2 a3  = a0_PC := by
  unfold csr_Put1r
  first | (simp only [Go.Ev.cS1, Go.Ev.cS2, Go.Ev.cS3, Go.Ev.cS4, Go.Ev.cS6, Go.Ev.cS7]; done) | (simp only [Go.Ev.cS1, Go.Ev.cS2, Go.Ev.cS3, Go.Ev.cS4, Go.Ev.cS6, Go.Ev.cS7]; kernel_rfl)
theorem csr_Put2_eq (a0_X : Nat → Int) (a0_PC : Int) (a0_Level : Int) (a0_V : Bool) (a0_C : Nat → Int) (a0_Done : Int) (a1 : Int) (a2 : Int) (a3 : Bool)  : csr_Put2r a0_X a0_PC a0_Level a0_V a0_C a0_Done a1 a2 a3  = a0_Level := by
  unfold csr_Put2r
  first | (simp only [Go.Ev.cS1, Go.Ev.cS2, Go.Ev.cS3, Go.Ev.cS4, Go.Ev.cS6, Go.Ev.cS7]; done) | (simp only [Go.Ev.cS1, Go.Ev.cS2, Go.Ev.cS3, Go.Ev.cS4, Go.Ev.cS6, Go.Ev.cS7]; kernel_rfl)
theorem csr_Put3_eq (a0_X : Nat → Int) (a0_PC : Int) (a0_Level : Int) (a0_V : Bool) (a0_C : Nat → Int) (a0_Done : Int) (a1 : Int) (a2 : Int) (a3 : Bool)  : csr_Put3r a0_X a0_PC a0_Level a0_V a0_C a0_Done a1 a2 a3  = a0_V := by
  unfold csr_Put3r
  first | (simp only [Go.Ev.cS1, Go.Ev.cS2, Go.Ev.cS3, Go.Ev.cS4, Go.Ev.cS6, Go.Ev.cS7]; done) | (simp only [Go.Ev.cS1, Go.Ev.cS2, Go.Ev.cS3, Go.Ev.cS4, Go.Ev.cS6, Go.Ev.cS7]; kernel_rfl)
theorem csr_Put5_eq (a0_X : Nat → Int) (a0_PC : Int) (a0_Level : Int) (a0_V : Bool) (a0_C : Nat → Int) (a0_Done : Int) (a1 : Int) (a2 : Int) (a3 : Bool)  : csr_Put5r a0_X a0_PC a0_Level a0_V a0_C a0_Done a1 a2 a3  = a0_Done := by
  unfold csr_Put5r
  first | (simp only [Go.Ev.cS1, Go.Ev.cS2, Go.Ev.cS3, Go.Ev.cS4, Go.Ev.cS6, Go.Ev.cS7]; done) | (simp only [Go.Ev.cS1, Go.Ev.cS2, Go.Ev.cS3, Go.Ev.cS4, Go.Ev.cS6, Go.Ev.cS7]; kernel_rfl)
def csr_PutV (a0_X : Nat → Int) (a0_PC : Int) (a0_Level : Int) (a0_V : Bool) (a0_C : Nat → Int) (a0_Done : Int) (a1 : Int) (a2 : Int) (a3 : Bool) : AV := .agg [.arr 32 (.int .u64) fun i0 => .it .u64 (a0_X i0), .it .u64 (a0_PC), .it .i64 (a0_Level), .bl (a0_V), .arr 29 (.int .u64) fun i0 => .it .u64 (csr_Put4 a0_X a0_PC a0_Level a0_V a0_C a0_Done a1 a2 a3 i0), .it .u64 (a0_Done)]
def csr_PutVr (a0_X : Nat → Int) (a0_PC : Int) (a0_Level : Int) (a0_V : Bool) (a0_C : Nat → Int) (a0_Done : Int) (a1 : Int) (a2 : Int) (a3 : Bool) : AV := .agg [.arr 32 (.int .u64) fun i0 => .it .u64 (csr_Put0r a0_X a0_PC a0_Level a0_V a0_C a0_Done a1 a2 a3 i0), .it .u64 (csr_Put1r a0_X a0_PC a0_Level a0_V a0_C a0_Done a1 a2 a3), .it .i64 (csr_Put2r a0_X a0_PC a0_Level a0_V a0_C a0_Done a1 a2 a3), .bl (csr_Put3r a0_X a0_PC a0_Level a0_V a0_C a0_Done a1 a2 a3), .arr 29 (.int .u64) fun i0 => .it .u64 (csr_Put4 a0_X a0_PC a0_Level a0_V a0_C a0_Done a1 a2 a3 i0), .it .u64 (csr_Put5r a0_X a0_PC a0_Level a0_V a0_C a0_Done a1 a2 a3)]
theorem csr_PutV_eq (a0_X : Nat → Int) (a0_PC : Int) (a0_Level : Int) (a0_V : Bool) (a0_C : Nat → Int) (a0_Done : Int) (a1 : Int) (a2 : Int) (a3 : Bool) : csr_PutVr a0_X a0_PC a0_Level a0_V a0_C a0_Done a1 a2 a3 = csr_PutV a0_X a0_PC a0_Level a0_V a0_C a0_Done a1 a2 a3 := by
  unfold csr_PutVr csr_PutV
  simp only [csr_Put0_eq, csr_Put1_eq, csr_Put2_eq, csr_Put3_eq, csr_Put5_eq]
theorem csr_PutE (g : Nat → AV) : pcOf Try.prog okT (lookR T23) (inl Try.prog okT (lookR T23) RO FS 100 ST 2) RO NOV 100 false Try.f24 (norms [(.agg [(.arr 32 (.int .u64)), (.int .u64), (.int .i64), .bool, (.arr 29 (.int .u64)), (.int .u64)]), (.int .i64), (.int .i64), .bool] 0 g) = some (csr_PutG (fun i0 => (((g 0).fld 0).ix i0).num) (((g 0).fld 1).num) (((g 0).fld 2).num) (((g 0).fld 3).bool) (fun i0 => (((g 0).fld 4).ix i0).num) (((g 0).fld 5).num) ((g 1).num) ((g 2).num) ((g 3).bool), csr_PutV (fun i0 => (((g 0).fld 0).ix i0).num) (((g 0).fld 1).num) (((g 0).fld 2).num) (((g 0).fld 3).bool) (fun i0 => (((g 0).fld 4).ix i0).num) (((g 0).fld 5).num) ((g 1).num) ((g 2).num) ((g 3).bool)) :=
  (by kernel_rfl : pcOf Try.prog okT (lookR T23) (inl Try.prog okT (lookR T23) RO FS 100 ST 2) RO NOV 100 false Try.f24 (norms [(.agg [(.arr 32 (.int .u64)), (.int .u64), (.int .i64), .bool, (.arr 29 (.int .u64)), (.int .u64)]), (.int .i64), (.int .i64), .bool] 0 g) = some (csr_PutG (fun i0 => (((g 0).fld 0).ix i0).num) (((g 0).fld 1).num) (((g 0).fld 2).num) (((g 0).fld 3).bool) (fun i0 => (((g 0).fld 4).ix i0).num) (((g 0).fld 5).num) ((g 1).num) ((g 2).num) ((g 3).bool), csr_PutVr (fun i0 => (((g 0).fld 0).ix i0).num) (((g 0).fld 1).num) (((g 0).fld 2).num) (((g 0).fld 3).bool) (fun i0 => (((g 0).fld 4).ix i0).num) (((g 0).fld 5).num) ((g 1).num) ((g 2).num) ((g 3).bool))).trans (by rw [csr_PutV_eq])
theorem csr_PutP : Plain Try.prog 24 Try.f24 := ⟨Try.func24, of_decide_eq_true (by kernel_rfl)⟩
theorem csr_PutO : RowOk Try.prog 24 (rowF [(.agg [(.arr 32 (.int .u64)), (.int .u64), (.int .i64), .bool, (.arr 29 (.int .u64)), (.int .u64)]), (.int .i64), (.int .i64), .bool] (some fun g => csr_PutG (fun i0 => (((g 0).fld 0).ix i0).num) (((g 0).fld 1).num) (((g 0).fld 2).num) (((g 0).fld 3).bool) (fun i0 => (((g 0).fld 4).ix i0).num) (((g 0).fld 5).num) ((g 1).num) ((g 2).num) ((g 3).bool)) fun g => csr_PutV (fun i0 => (((g 0).fld 0).ix i0).num) (((g 0).fld 1).num) (((g 0).fld 2).num) (((g 0).fld 3).bool) (fun i0 => (((g 0).fld 4).ix i0).num) (((g 0).fld 5).num) ((g 1).num) ((g 2).num) ((g 3).bool)) := rowF_ok fun g hg => pcOf_ok mix fair T23_ok (inl_ok mix fair T23_ok FS_ok 2) csr_PutP (fun c _ => OvOk_none c) (csr_PutE g) hg
def T24 : List Row := (24, (rowF [(.agg [(.arr 32 (.int .u64)), (.int .u64), (.int .i64), .bool, (.arr 29 (.int .u64)), (.int .u64)]), (.int .i64), (.int .i64), .bool] (some fun g => csr_PutG (fun i0 => (((g 0).fld 0).ix i0).num) (((g 0).fld 1).num) (((g 0).fld 2).num) (((g 0).fld 3).bool) (fun i0 => (((g 0).fld 4).ix i0).num) (((g 0).fld 5).num) ((g 1).num) ((g 2).num) ((g 3).bool)) fun g => csr_PutV (fun i0 => (((g 0).fld 0).ix i0).num) (((g 0).fld 1).num) (((g 0).fld 2).num) (((g 0).fld 3).bool) (fun i0 => (((g 0).fld 4).ix i0).num) (((g 0).fld 5).num) ((g 1).num) ((g 2).num) ((g 3).bool))) :: T23
theorem T24_ok : PSound Try.prog (lookR T24) := lookR_cons csr_PutO T23_ok

theorem put_g (X : Nat → Int) (PC L : Int) (V : Bool) (C : Nat → Int) (D : Int) (i b : Int) (t : Bool) (h : iIn i 29 = true) : csr_PutG X PC L V C D i b t = true := by
  unfold csr_PutG; rw [h]; cases t <;> rfl
theorem bit_g (X : Nat → Int) (PC L : Int) (V : Bool) (C : Nat → Int) (D : Int) (i b : Int) (h : iIn i 29 = true) : csr_BitG X PC L V C D i b = true := by
  unfold csr_BitG; rw [h]; rfl
/- (sallyport/trap.kept).enter -/
def trap_kept__enter0 (a0_index : Int) (a0_now : Int) (a0_was : Int) (a1_X : Nat → Int) (a1_PC : Int) (a1_Level : Int) (a1_V : Bool) (a1_C : Nat → Int) (a1_Done : Int) : Nat → Int :=
  fun i0 => csr_Put4 (fun i0 => a1_X i0) a1_PC a1_Level a1_V
    (fun i0 =>
      csr_Put4 (fun i0 => a1_X i0) a1_PC a1_Level a1_V (fun i0 => a1_C i0) a1_Done a0_index a0_was (csr_Bit0 (fun i0 => a1_X i0) a1_PC a1_Level a1_V (fun i0 => a1_C i0) a1_Done a0_index a0_now) i0)
    a1_Done a0_index a0_now false i0
def trap_kept__enterG (a0_index : Int) (a0_now : Int) (a0_was : Int) (a1_X : Nat → Int) (a1_PC : Int) (a1_Level : Int) (a1_V : Bool) (a1_C : Nat → Int) (a1_Done : Int) : Bool :=
  csr_BitG (fun i0 => a1_X i0) a1_PC a1_Level a1_V (fun i0 => a1_C i0) a1_Done a0_index a0_now &&
    (csr_PutG (fun i0 => a1_X i0) a1_PC a1_Level a1_V (fun i0 => a1_C i0) a1_Done a0_index a0_was (csr_Bit0 (fun i0 => a1_X i0) a1_PC a1_Level a1_V (fun i0 => a1_C i0) a1_Done a0_index a0_now) &&
      (csr_PutG (fun i0 => a1_X i0) a1_PC a1_Level a1_V
          (fun i0 =>
            csr_Put4 (fun i0 => a1_X i0) a1_PC a1_Level a1_V (fun i0 => a1_C i0) a1_Done a0_index a0_was (csr_Bit0 (fun i0 => a1_X i0) a1_PC a1_Level a1_V (fun i0 => a1_C i0) a1_Done a0_index a0_now)
              i0)
          a1_Done a0_index a0_now false &&
        true))
def trap_kept__enterV (a0_index : Int) (a0_now : Int) (a0_was : Int) (a1_X : Nat → Int) (a1_PC : Int) (a1_Level : Int) (a1_V : Bool) (a1_C : Nat → Int) (a1_Done : Int) : AV := .agg [.arr 32 (.int .u64) fun i0 => .it .u64 (a1_X i0), .it .u64 (a1_PC), .it .i64 (a1_Level), .bl (a1_V), .arr 29 (.int .u64) fun i0 => .it .u64 (trap_kept__enter0 a0_index a0_now a0_was a1_X a1_PC a1_Level a1_V a1_C a1_Done i0), .it .u64 (a1_Done)]
theorem trap_kept__enterE (g : Nat → AV) : pcOf Try.prog okT (lookR T24) (inl Try.prog okT (lookR T24) RO FS 100 ST 2) RO NOV 100 false Try.f28 (norms [(.agg [(.int .i64), (.int .i64), (.int .i64)]), (.agg [(.arr 32 (.int .u64)), (.int .u64), (.int .i64), .bool, (.arr 29 (.int .u64)), (.int .u64)])] 0 g) = some (trap_kept__enterG (((g 0).fld 0).num) (((g 0).fld 1).num) (((g 0).fld 2).num) (fun i0 => (((g 1).fld 0).ix i0).num) (((g 1).fld 1).num) (((g 1).fld 2).num) (((g 1).fld 3).bool) (fun i0 => (((g 1).fld 4).ix i0).num) (((g 1).fld 5).num), trap_kept__enterV (((g 0).fld 0).num) (((g 0).fld 1).num) (((g 0).fld 2).num) (fun i0 => (((g 1).fld 0).ix i0).num) (((g 1).fld 1).num) (((g 1).fld 2).num) (((g 1).fld 3).bool) (fun i0 => (((g 1).fld 4).ix i0).num) (((g 1).fld 5).num)) := by kernel_rfl
theorem trap_kept__enterP : Plain Try.prog 28 Try.f28 := ⟨Try.func28, of_decide_eq_true (by kernel_rfl)⟩
theorem trap_kept__enterO : RowOk Try.prog 28 (rowF [(.agg [(.int .i64), (.int .i64), (.int .i64)]), (.agg [(.arr 32 (.int .u64)), (.int .u64), (.int .i64), .bool, (.arr 29 (.int .u64)), (.int .u64)])] (some fun g => trap_kept__enterG (((g 0).fld 0).num) (((g 0).fld 1).num) (((g 0).fld 2).num) (fun i0 => (((g 1).fld 0).ix i0).num) (((g 1).fld 1).num) (((g 1).fld 2).num) (((g 1).fld 3).bool) (fun i0 => (((g 1).fld 4).ix i0).num) (((g 1).fld 5).num)) fun g => trap_kept__enterV (((g 0).fld 0).num) (((g 0).fld 1).num) (((g 0).fld 2).num) (fun i0 => (((g 1).fld 0).ix i0).num) (((g 1).fld 1).num) (((g 1).fld 2).num) (((g 1).fld 3).bool) (fun i0 => (((g 1).fld 4).ix i0).num) (((g 1).fld 5).num)) := rowF_ok fun g hg => pcOf_ok mix fair T24_ok (inl_ok mix fair T24_ok FS_ok 2) trap_kept__enterP (fun c _ => OvOk_none c) (trap_kept__enterE g) hg
def T28 : List Row := (28, (rowF [(.agg [(.int .i64), (.int .i64), (.int .i64)]), (.agg [(.arr 32 (.int .u64)), (.int .u64), (.int .i64), .bool, (.arr 29 (.int .u64)), (.int .u64)])] (some fun g => trap_kept__enterG (((g 0).fld 0).num) (((g 0).fld 1).num) (((g 0).fld 2).num) (fun i0 => (((g 1).fld 0).ix i0).num) (((g 1).fld 1).num) (((g 1).fld 2).num) (((g 1).fld 3).bool) (fun i0 => (((g 1).fld 4).ix i0).num) (((g 1).fld 5).num)) fun g => trap_kept__enterV (((g 0).fld 0).num) (((g 0).fld 1).num) (((g 0).fld 2).num) (fun i0 => (((g 1).fld 0).ix i0).num) (((g 1).fld 1).num) (((g 1).fld 2).num) (((g 1).fld 3).bool) (fun i0 => (((g 1).fld 4).ix i0).num) (((g 1).fld 5).num))) :: T24
theorem T28_ok : PSound Try.prog (lookR T28) := lookR_cons trap_kept__enterO T24_ok

theorem kept_g (i a b : Int) (X : Nat → Int) (PC L : Int) (V : Bool) (C : Nat → Int) (D : Int) (h : iIn i 29 = true) : trap_kept__enterG i a b X PC L V C D = true := by
  unfold trap_kept__enterG; simp only [put_g _ _ _ _ _ _ _ _ _ h, bit_g _ _ _ _ _ _ _ _ h, Bool.and_true]
/- sallyport/trap.lower -/
def trap_lower0 (a0_X : Nat → Int) (a0_PC : Int) (a0_Level : Int) (a0_V : Bool) (a0_C : Nat → Int) (a0_Done : Int) (a1 : Int) (a2 : Int) : Nat → Int :=
  fun i0 => trap_kept__enter0 a1 1 5 (fun i0 => a0_X i0) a0_PC a0_Level a0_V (fun i0 => csr_Put4 (fun i0 => a0_X i0) a0_PC a0_Level a0_V (fun i0 => a0_C i0) a0_Done a1 8 (iEq (iAnd IntKind.i64 a2 1) 1) i0)
    a0_Done i0
def trap_lowerG (a0_X : Nat → Int) (a0_PC : Int) (a0_Level : Int) (a0_V : Bool) (a0_C : Nat → Int) (a0_Done : Int) (a1 : Int) (a2 : Int) : Bool :=
  csr_PutG (fun i0 => a0_X i0) a0_PC a0_Level a0_V (fun i0 => a0_C i0) a0_Done a1 8 (iEq (iAnd IntKind.i64 a2 1) 1) &&
    (trap_kept__enterG a1 1 5 (fun i0 => a0_X i0) a0_PC a0_Level a0_V (fun i0 => csr_Put4 (fun i0 => a0_X i0) a0_PC a0_Level a0_V (fun i0 => a0_C i0) a0_Done a1 8 (iEq (iAnd IntKind.i64 a2 1) 1) i0)
        a0_Done &&
      true)
def trap_lowerV (a0_X : Nat → Int) (a0_PC : Int) (a0_Level : Int) (a0_V : Bool) (a0_C : Nat → Int) (a0_Done : Int) (a1 : Int) (a2 : Int) : AV := .agg [.arr 32 (.int .u64) fun i0 => .it .u64 (a0_X i0), .it .u64 (a0_PC), .it .i64 (a0_Level), .bl (a0_V), .arr 29 (.int .u64) fun i0 => .it .u64 (trap_lower0 a0_X a0_PC a0_Level a0_V a0_C a0_Done a1 a2 i0), .it .u64 (a0_Done)]
theorem trap_lowerE (g : Nat → AV) : pcOf Try.prog okT (lookR T28) (inl Try.prog okT (lookR T28) RO FS 100 ST 2) RO NOV 100 false Try.f29 (norms [(.agg [(.arr 32 (.int .u64)), (.int .u64), (.int .i64), .bool, (.arr 29 (.int .u64)), (.int .u64)]), (.int .i64), (.int .i64)] 0 g) = some (trap_lowerG (fun i0 => (((g 0).fld 0).ix i0).num) (((g 0).fld 1).num) (((g 0).fld 2).num) (((g 0).fld 3).bool) (fun i0 => (((g 0).fld 4).ix i0).num) (((g 0).fld 5).num) ((g 1).num) ((g 2).num), trap_lowerV (fun i0 => (((g 0).fld 0).ix i0).num) (((g 0).fld 1).num) (((g 0).fld 2).num) (((g 0).fld 3).bool) (fun i0 => (((g 0).fld 4).ix i0).num) (((g 0).fld 5).num) ((g 1).num) ((g 2).num)) := by kernel_rfl
theorem trap_lowerP : Plain Try.prog 29 Try.f29 := ⟨Try.func29, of_decide_eq_true (by kernel_rfl)⟩
theorem trap_lowerO : RowOk Try.prog 29 (rowF [(.agg [(.arr 32 (.int .u64)), (.int .u64), (.int .i64), .bool, (.arr 29 (.int .u64)), (.int .u64)]), (.int .i64), (.int .i64)] (some fun g => trap_lowerG (fun i0 => (((g 0).fld 0).ix i0).num) (((g 0).fld 1).num) (((g 0).fld 2).num) (((g 0).fld 3).bool) (fun i0 => (((g 0).fld 4).ix i0).num) (((g 0).fld 5).num) ((g 1).num) ((g 2).num)) fun g => trap_lowerV (fun i0 => (((g 0).fld 0).ix i0).num) (((g 0).fld 1).num) (((g 0).fld 2).num) (((g 0).fld 3).bool) (fun i0 => (((g 0).fld 4).ix i0).num) (((g 0).fld 5).num) ((g 1).num) ((g 2).num)) := rowF_ok fun g hg => pcOf_ok mix fair T28_ok (inl_ok mix fair T28_ok FS_ok 2) trap_lowerP (fun c _ => OvOk_none c) (trap_lowerE g) hg
def T29 : List Row := (29, (rowF [(.agg [(.arr 32 (.int .u64)), (.int .u64), (.int .i64), .bool, (.arr 29 (.int .u64)), (.int .u64)]), (.int .i64), (.int .i64)] (some fun g => trap_lowerG (fun i0 => (((g 0).fld 0).ix i0).num) (((g 0).fld 1).num) (((g 0).fld 2).num) (((g 0).fld 3).bool) (fun i0 => (((g 0).fld 4).ix i0).num) (((g 0).fld 5).num) ((g 1).num) ((g 2).num)) fun g => trap_lowerV (fun i0 => (((g 0).fld 0).ix i0).num) (((g 0).fld 1).num) (((g 0).fld 2).num) (((g 0).fld 3).bool) (fun i0 => (((g 0).fld 4).ix i0).num) (((g 0).fld 5).num) ((g 1).num) ((g 2).num))) :: T28
theorem T29_ok : PSound Try.prog (lookR T29) := lookR_cons trap_lowerO T28_ok

theorem lower_g (X : Nat → Int) (PC L : Int) (V : Bool) (C : Nat → Int) (D : Int) (i b : Int) (h : iIn i 29 = true) : trap_lowerG X PC L V C D i b = true := by
  unfold trap_lowerG; simp only [put_g _ _ _ _ _ _ _ _ _ h, kept_g _ _ _ _ _ _ _ _ _ h, Bool.and_true]
/- sallyport/trap.Enter -/
def trap_Enter_c0 (a0_X : Nat → Int) (a0_PC : Int) (a0_Level : Int) (a0_V : Bool) (a0_C : Nat → Int) (a0_Done : Int) (a1_Cause : Int) (a1_Value : Int) (a1_Place : Int) (a1_GVA : Bool) (a2 : Int) (a3 : Bool) : Nat → Int :=
  csr_Put4 (fun i0 => a0_X i0) (trap_told__enter1 12 13 14 20 10 (fun i0 => a0_X i0) a0_PC a0_Level a0_V (fun i0 => a0_C i0) a0_Done a1_Cause a1_Value a1_Place a1_GVA) a0_Level a0_V
    (fun i0 =>
      csr_Put4 (fun i0 => a0_X i0) (trap_told__enter1 12 13 14 20 10 (fun i0 => a0_X i0) a0_PC a0_Level a0_V (fun i0 => a0_C i0) a0_Done a1_Cause a1_Value a1_Place a1_GVA) a0_Level a0_V
        (fun i0 =>
          trap_lower0 (fun i0 => a0_X i0) (trap_told__enter1 12 13 14 20 10 (fun i0 => a0_X i0) a0_PC a0_Level a0_V (fun i0 => a0_C i0) a0_Done a1_Cause a1_Value a1_Place a1_GVA) a0_Level a0_V
            (fun i0 => trap_told__enter4 12 13 14 20 10 (fun i0 => a0_X i0) a0_PC a0_Level a0_V (fun i0 => a0_C i0) a0_Done a1_Cause a1_Value a1_Place a1_GVA i0) a0_Done 0 a0_Level i0)
        a0_Done 16 7 a0_V i0)
    a0_Done 16 6 a1_GVA
def trap_Enter0r (a0_X : Nat → Int) (a0_PC : Int) (a0_Level : Int) (a0_V : Bool) (a0_C : Nat → Int) (a0_Done : Int) (a1_Cause : Int) (a1_Value : Int) (a1_Place : Int) (a1_GVA : Bool) (a2 : Int) (a3 : Bool) : Nat → Int :=
  fun i0 => bif iEq a2 3 && (a3 == false && true) then a0_X i0
  else bif iEq a2 1 && (a3 == false && true) then bif a0_V then a0_X i0 else a0_X i0 else bif bif iEq a2 1 && (a3 == true && true) then a0_V else false then a0_X i0 else a0_X i0
def trap_Enter1 (a0_X : Nat → Int) (a0_PC : Int) (a0_Level : Int) (a0_V : Bool) (a0_C : Nat → Int) (a0_Done : Int) (a1_Cause : Int) (a1_Value : Int) (a1_Place : Int) (a1_GVA : Bool) (a2 : Int) (a3 : Bool) : Int :=
  bif iEq a2 3 && a3 == false then trap_told__enter1 6 7 8 9 4 (fun i0 => a0_X i0) a0_PC a0_Level a0_V (fun i0 => a0_C i0) a0_Done a1_Cause a1_Value a1_Place a1_GVA
  else
    bif iEq a2 1 && a3 == false then trap_told__enter1 12 13 14 20 10 (fun i0 => a0_X i0) a0_PC a0_Level a0_V (fun i0 => a0_C i0) a0_Done a1_Cause a1_Value a1_Place a1_GVA
    else
      bif bif iEq a2 1 && a3 == true then a0_V else false then trap_told__enter1 25 26 27 (-1) 23 (fun i0 => a0_X i0) a0_PC a0_Level a0_V (fun i0 => a0_C i0) a0_Done a1_Cause a1_Value a1_Place a1_GVA
      else a0_PC
def trap_Enter1r (a0_X : Nat → Int) (a0_PC : Int) (a0_Level : Int) (a0_V : Bool) (a0_C : Nat → Int) (a0_Done : Int) (a1_Cause : Int) (a1_Value : Int) (a1_Place : Int) (a1_GVA : Bool) (a2 : Int) (a3 : Bool) : Int :=
  bif iEq a2 3 && (a3 == false && true) then trap_told__enter1 6 7 8 9 4 (fun i0 => a0_X i0) a0_PC a0_Level a0_V (fun i0 => a0_C i0) a0_Done a1_Cause a1_Value a1_Place a1_GVA
  else
    bif iEq a2 1 && (a3 == false && true) then
      bif a0_V then trap_told__enter1 12 13 14 20 10 (fun i0 => a0_X i0) a0_PC a0_Level a0_V (fun i0 => a0_C i0) a0_Done a1_Cause a1_Value a1_Place a1_GVA
      else trap_told__enter1 12 13 14 20 10 (fun i0 => a0_X i0) a0_PC a0_Level a0_V (fun i0 => a0_C i0) a0_Done a1_Cause a1_Value a1_Place a1_GVA
    else
      bif bif iEq a2 1 && (a3 == true && true) then a0_V else false then
        trap_told__enter1 25 26 27 (-1) 23 (fun i0 => a0_X i0) a0_PC a0_Level a0_V (fun i0 => a0_C i0) a0_Done a1_Cause a1_Value a1_Place a1_GVA
      else a0_PC
def trap_Enter2 (a0_X : Nat → Int) (a0_PC : Int) (a0_Level : Int) (a0_V : Bool) (a0_C : Nat → Int) (a0_Done : Int) (a1_Cause : Int) (a1_Value : Int) (a1_Place : Int) (a1_GVA : Bool) (a2 : Int) (a3 : Bool) : Int :=
  bif iEq a2 3 && a3 == false then a2 else bif iEq a2 1 && a3 == false then a2 else bif bif iEq a2 1 && a3 == true then a0_V else false then a2 else a0_Level
def trap_Enter2r (a0_X : Nat → Int) (a0_PC : Int) (a0_Level : Int) (a0_V : Bool) (a0_C : Nat → Int) (a0_Done : Int) (a1_Cause : Int) (a1_Value : Int) (a1_Place : Int) (a1_GVA : Bool) (a2 : Int) (a3 : Bool) : Int :=
  bif iEq a2 3 && (a3 == false && true) then a2
  else bif iEq a2 1 && (a3 == false && true) then bif a0_V then a2 else a2 else bif bif iEq a2 1 && (a3 == true && true) then a0_V else false then a2 else a0_Level
def trap_Enter3 (a0_X : Nat → Int) (a0_PC : Int) (a0_Level : Int) (a0_V : Bool) (a0_C : Nat → Int) (a0_Done : Int) (a1_Cause : Int) (a1_Value : Int) (a1_Place : Int) (a1_GVA : Bool) (a2 : Int) (a3 : Bool) : Bool :=
  bif iEq a2 3 && a3 == false then a3 else bif iEq a2 1 && a3 == false then a3 else bif bif iEq a2 1 && a3 == true then a0_V else false then a3 else a0_V
def trap_Enter3r (a0_X : Nat → Int) (a0_PC : Int) (a0_Level : Int) (a0_V : Bool) (a0_C : Nat → Int) (a0_Done : Int) (a1_Cause : Int) (a1_Value : Int) (a1_Place : Int) (a1_GVA : Bool) (a2 : Int) (a3 : Bool) : Bool :=
  bif iEq a2 3 && (a3 == false && true) then a3
  else bif iEq a2 1 && (a3 == false && true) then bif a0_V then a3 else a3 else bif bif iEq a2 1 && (a3 == true && true) then a0_V else false then a3 else a0_V
def trap_Enter4 (a0_X : Nat → Int) (a0_PC : Int) (a0_Level : Int) (a0_V : Bool) (a0_C : Nat → Int) (a0_Done : Int) (a1_Cause : Int) (a1_Value : Int) (a1_Place : Int) (a1_GVA : Bool) (a2 : Int) (a3 : Bool) : Nat → Int :=
  fun i0 => bif iEq a2 3 && a3 == false then
    trap_kept__enter0 0 3 7 (fun i0 => a0_X i0) (trap_told__enter1 6 7 8 9 4 (fun i0 => a0_X i0) a0_PC a0_Level a0_V (fun i0 => a0_C i0) a0_Done a1_Cause a1_Value a1_Place a1_GVA) a0_Level a0_V
      (fun i0 =>
        csr_Put4 (fun i0 => a0_X i0) (trap_told__enter1 6 7 8 9 4 (fun i0 => a0_X i0) a0_PC a0_Level a0_V (fun i0 => a0_C i0) a0_Done a1_Cause a1_Value a1_Place a1_GVA) a0_Level a0_V
          (fun i0 =>
            csr_Put4 (fun i0 => a0_X i0) (trap_told__enter1 6 7 8 9 4 (fun i0 => a0_X i0) a0_PC a0_Level a0_V (fun i0 => a0_C i0) a0_Done a1_Cause a1_Value a1_Place a1_GVA) a0_Level a0_V
              (fun i0 =>
                bif i0 == 0 then
                  word_Set0 (trap_told__enter4 6 7 8 9 4 (fun i0 => a0_X i0) a0_PC a0_Level a0_V (fun i0 => a0_C i0) a0_Done a1_Cause a1_Value a1_Place a1_GVA 0) 11 2 (iConv IntKind.u64 a0_Level)
                else trap_told__enter4 6 7 8 9 4 (fun i0 => a0_X i0) a0_PC a0_Level a0_V (fun i0 => a0_C i0) a0_Done a1_Cause a1_Value a1_Place a1_GVA i0)
              a0_Done 0 39 a0_V i0)
          a0_Done 0 38 a1_GVA i0)
      a0_Done i0
  else
    bif iEq a2 1 && a3 == false then
      bif a0_V then
        csr_Put4 (fun i0 => a0_X i0) (trap_told__enter1 12 13 14 20 10 (fun i0 => a0_X i0) a0_PC a0_Level a0_V (fun i0 => a0_C i0) a0_Done a1_Cause a1_Value a1_Place a1_GVA) a0_Level a0_V
          (fun i0 => trap_Enter_c0 a0_X a0_PC a0_Level a0_V a0_C a0_Done a1_Cause a1_Value a1_Place a1_GVA a2 a3 i0) a0_Done 16 8 (iEq (iAnd IntKind.i64 a0_Level 1) 1) i0
      else trap_Enter_c0 a0_X a0_PC a0_Level a0_V a0_C a0_Done a1_Cause a1_Value a1_Place a1_GVA a2 a3 i0
    else
      bif bif iEq a2 1 && a3 == true then a0_V else false then
        trap_lower0 (fun i0 => a0_X i0) (trap_told__enter1 25 26 27 (-1) 23 (fun i0 => a0_X i0) a0_PC a0_Level a0_V (fun i0 => a0_C i0) a0_Done a1_Cause a1_Value a1_Place a1_GVA) a0_Level a0_V
          (fun i0 => trap_told__enter4 25 26 27 (-1) 23 (fun i0 => a0_X i0) a0_PC a0_Level a0_V (fun i0 => a0_C i0) a0_Done a1_Cause a1_Value a1_Place a1_GVA i0) a0_Done 22 a0_Level i0
      else a0_C i0
def trap_Enter4r (a0_X : Nat → Int) (a0_PC : Int) (a0_Level : Int) (a0_V : Bool) (a0_C : Nat → Int) (a0_Done : Int) (a1_Cause : Int) (a1_Value : Int) (a1_Place : Int) (a1_GVA : Bool) (a2 : Int) (a3 : Bool) : Nat → Int :=
  fun i0 => bif iEq a2 3 && (a3 == false && true) then
    trap_kept__enter0 0 3 7 (fun i0 => a0_X i0) (trap_told__enter1 6 7 8 9 4 (fun i0 => a0_X i0) a0_PC a0_Level a0_V (fun i0 => a0_C i0) a0_Done a1_Cause a1_Value a1_Place a1_GVA) a0_Level a0_V
      (fun i0 =>
        csr_Put4 (fun i0 => a0_X i0) (trap_told__enter1 6 7 8 9 4 (fun i0 => a0_X i0) a0_PC a0_Level a0_V (fun i0 => a0_C i0) a0_Done a1_Cause a1_Value a1_Place a1_GVA) a0_Level a0_V
          (fun i0 =>
            csr_Put4 (fun i0 => a0_X i0) (trap_told__enter1 6 7 8 9 4 (fun i0 => a0_X i0) a0_PC a0_Level a0_V (fun i0 => a0_C i0) a0_Done a1_Cause a1_Value a1_Place a1_GVA) a0_Level a0_V
              (fun i0 =>
                bif i0 == 0 then
                  word_Set0 (trap_told__enter4 6 7 8 9 4 (fun i0 => a0_X i0) a0_PC a0_Level a0_V (fun i0 => a0_C i0) a0_Done a1_Cause a1_Value a1_Place a1_GVA 0) 11 2 (iConv IntKind.u64 a0_Level)
                else trap_told__enter4 6 7 8 9 4 (fun i0 => a0_X i0) a0_PC a0_Level a0_V (fun i0 => a0_C i0) a0_Done a1_Cause a1_Value a1_Place a1_GVA i0)
              a0_Done 0 39 a0_V i0)
          a0_Done 0 38 a1_GVA i0)
      a0_Done i0
  else
    bif iEq a2 1 && (a3 == false && true) then
      bif a0_V then
        csr_Put4 (fun i0 => a0_X i0) (trap_told__enter1 12 13 14 20 10 (fun i0 => a0_X i0) a0_PC a0_Level a0_V (fun i0 => a0_C i0) a0_Done a1_Cause a1_Value a1_Place a1_GVA) a0_Level a0_V
          (fun i0 => trap_Enter_c0 a0_X a0_PC a0_Level a0_V a0_C a0_Done a1_Cause a1_Value a1_Place a1_GVA a2 a3 i0) a0_Done 16 8 (iEq (iAnd IntKind.i64 a0_Level 1) 1) i0
      else trap_Enter_c0 a0_X a0_PC a0_Level a0_V a0_C a0_Done a1_Cause a1_Value a1_Place a1_GVA a2 a3 i0
    else
      bif bif iEq a2 1 && (a3 == true && true) then a0_V else false then
        trap_lower0 (fun i0 => a0_X i0) (trap_told__enter1 25 26 27 (-1) 23 (fun i0 => a0_X i0) a0_PC a0_Level a0_V (fun i0 => a0_C i0) a0_Done a1_Cause a1_Value a1_Place a1_GVA) a0_Level a0_V
          (fun i0 => trap_told__enter4 25 26 27 (-1) 23 (fun i0 => a0_X i0) a0_PC a0_Level a0_V (fun i0 => a0_C i0) a0_Done a1_Cause a1_Value a1_Place a1_GVA i0) a0_Done 22 a0_Level i0
      else a0_C i0
def trap_Enter5r (a0_X : Nat → Int) (a0_PC : Int) (a0_Level : Int) (a0_V : Bool) (a0_C : Nat → Int) (a0_Done : Int) (a1_Cause : Int) (a1_Value : Int) (a1_Place : Int) (a1_GVA : Bool) (a2 : Int) (a3 : Bool) : Int :=
  bif iEq a2 3 && (a3 == false && true) then a0_Done
  else bif iEq a2 1 && (a3 == false && true) then bif a0_V then a0_Done else a0_Done else bif bif iEq a2 1 && (a3 == true && true) then a0_V else false then a0_Done else a0_Done
def trap_EnterG (a0_X : Nat → Int) (a0_PC : Int) (a0_Level : Int) (a0_V : Bool) (a0_C : Nat → Int) (a0_Done : Int) (a1_Cause : Int) (a1_Value : Int) (a1_Place : Int) (a1_GVA : Bool) (a2 : Int) (a3 : Bool) : Bool :=
  bif iEq a2 3 && (a3 == false && true) then
    trap_told__enterG 6 7 8 9 4 (fun i0 => a0_X i0) a0_PC a0_Level a0_V (fun i0 => a0_C i0) a0_Done a1_Cause a1_Value a1_Place a1_GVA &&
      (csr_PutG (fun i0 => a0_X i0) (trap_told__enter1 6 7 8 9 4 (fun i0 => a0_X i0) a0_PC a0_Level a0_V (fun i0 => a0_C i0) a0_Done a1_Cause a1_Value a1_Place a1_GVA) a0_Level a0_V
          (fun i0 =>
            bif i0 == 0 then
              word_Set0 (trap_told__enter4 6 7 8 9 4 (fun i0 => a0_X i0) a0_PC a0_Level a0_V (fun i0 => a0_C i0) a0_Done a1_Cause a1_Value a1_Place a1_GVA 0) 11 2 (iConv IntKind.u64 a0_Level)
            else trap_told__enter4 6 7 8 9 4 (fun i0 => a0_X i0) a0_PC a0_Level a0_V (fun i0 => a0_C i0) a0_Done a1_Cause a1_Value a1_Place a1_GVA i0)
          a0_Done 0 39 a0_V &&
        (csr_PutG (fun i0 => a0_X i0) (trap_told__enter1 6 7 8 9 4 (fun i0 => a0_X i0) a0_PC a0_Level a0_V (fun i0 => a0_C i0) a0_Done a1_Cause a1_Value a1_Place a1_GVA) a0_Level a0_V
            (fun i0 =>
              csr_Put4 (fun i0 => a0_X i0) (trap_told__enter1 6 7 8 9 4 (fun i0 => a0_X i0) a0_PC a0_Level a0_V (fun i0 => a0_C i0) a0_Done a1_Cause a1_Value a1_Place a1_GVA) a0_Level a0_V
                (fun i0 =>
                  bif i0 == 0 then
                    word_Set0 (trap_told__enter4 6 7 8 9 4 (fun i0 => a0_X i0) a0_PC a0_Level a0_V (fun i0 => a0_C i0) a0_Done a1_Cause a1_Value a1_Place a1_GVA 0) 11 2 (iConv IntKind.u64 a0_Level)
                  else trap_told__enter4 6 7 8 9 4 (fun i0 => a0_X i0) a0_PC a0_Level a0_V (fun i0 => a0_C i0) a0_Done a1_Cause a1_Value a1_Place a1_GVA i0)
                a0_Done 0 39 a0_V i0)
            a0_Done 0 38 a1_GVA &&
          (trap_kept__enterG 0 3 7 (fun i0 => a0_X i0) (trap_told__enter1 6 7 8 9 4 (fun i0 => a0_X i0) a0_PC a0_Level a0_V (fun i0 => a0_C i0) a0_Done a1_Cause a1_Value a1_Place a1_GVA) a0_Level a0_V
              (fun i0 =>
                csr_Put4 (fun i0 => a0_X i0) (trap_told__enter1 6 7 8 9 4 (fun i0 => a0_X i0) a0_PC a0_Level a0_V (fun i0 => a0_C i0) a0_Done a1_Cause a1_Value a1_Place a1_GVA) a0_Level a0_V
                  (fun i0 =>
                    csr_Put4 (fun i0 => a0_X i0) (trap_told__enter1 6 7 8 9 4 (fun i0 => a0_X i0) a0_PC a0_Level a0_V (fun i0 => a0_C i0) a0_Done a1_Cause a1_Value a1_Place a1_GVA) a0_Level a0_V
                      (fun i0 =>
                        bif i0 == 0 then
                          word_Set0 (trap_told__enter4 6 7 8 9 4 (fun i0 => a0_X i0) a0_PC a0_Level a0_V (fun i0 => a0_C i0) a0_Done a1_Cause a1_Value a1_Place a1_GVA 0) 11 2
                            (iConv IntKind.u64 a0_Level)
                        else trap_told__enter4 6 7 8 9 4 (fun i0 => a0_X i0) a0_PC a0_Level a0_V (fun i0 => a0_C i0) a0_Done a1_Cause a1_Value a1_Place a1_GVA i0)
                      a0_Done 0 39 a0_V i0)
                  a0_Done 0 38 a1_GVA i0)
              a0_Done &&
            true)))
  else
    bif iEq a2 1 && (a3 == false && true) then
      trap_told__enterG 12 13 14 20 10 (fun i0 => a0_X i0) a0_PC a0_Level a0_V (fun i0 => a0_C i0) a0_Done a1_Cause a1_Value a1_Place a1_GVA &&
        (trap_lowerG (fun i0 => a0_X i0) (trap_told__enter1 12 13 14 20 10 (fun i0 => a0_X i0) a0_PC a0_Level a0_V (fun i0 => a0_C i0) a0_Done a1_Cause a1_Value a1_Place a1_GVA) a0_Level a0_V
            (fun i0 => trap_told__enter4 12 13 14 20 10 (fun i0 => a0_X i0) a0_PC a0_Level a0_V (fun i0 => a0_C i0) a0_Done a1_Cause a1_Value a1_Place a1_GVA i0) a0_Done 0 a0_Level &&
          (csr_PutG (fun i0 => a0_X i0) (trap_told__enter1 12 13 14 20 10 (fun i0 => a0_X i0) a0_PC a0_Level a0_V (fun i0 => a0_C i0) a0_Done a1_Cause a1_Value a1_Place a1_GVA) a0_Level a0_V
              (fun i0 =>
                trap_lower0 (fun i0 => a0_X i0) (trap_told__enter1 12 13 14 20 10 (fun i0 => a0_X i0) a0_PC a0_Level a0_V (fun i0 => a0_C i0) a0_Done a1_Cause a1_Value a1_Place a1_GVA) a0_Level a0_V
                  (fun i0 => trap_told__enter4 12 13 14 20 10 (fun i0 => a0_X i0) a0_PC a0_Level a0_V (fun i0 => a0_C i0) a0_Done a1_Cause a1_Value a1_Place a1_GVA i0) a0_Done 0 a0_Level i0)
              a0_Done 16 7 a0_V &&
            (csr_PutG (fun i0 => a0_X i0) (trap_told__enter1 12 13 14 20 10 (fun i0 => a0_X i0) a0_PC a0_Level a0_V (fun i0 => a0_C i0) a0_Done a1_Cause a1_Value a1_Place a1_GVA) a0_Level a0_V
                (fun i0 =>
                  csr_Put4 (fun i0 => a0_X i0) (trap_told__enter1 12 13 14 20 10 (fun i0 => a0_X i0) a0_PC a0_Level a0_V (fun i0 => a0_C i0) a0_Done a1_Cause a1_Value a1_Place a1_GVA) a0_Level a0_V
                    (fun i0 =>
                      trap_lower0 (fun i0 => a0_X i0) (trap_told__enter1 12 13 14 20 10 (fun i0 => a0_X i0) a0_PC a0_Level a0_V (fun i0 => a0_C i0) a0_Done a1_Cause a1_Value a1_Place a1_GVA) a0_Level
                        a0_V (fun i0 => trap_told__enter4 12 13 14 20 10 (fun i0 => a0_X i0) a0_PC a0_Level a0_V (fun i0 => a0_C i0) a0_Done a1_Cause a1_Value a1_Place a1_GVA i0) a0_Done 0 a0_Level i0)
                    a0_Done 16 7 a0_V i0)
                a0_Done 16 6 a1_GVA &&
              bif a0_V then
                csr_PutG (fun i0 => a0_X i0) (trap_told__enter1 12 13 14 20 10 (fun i0 => a0_X i0) a0_PC a0_Level a0_V (fun i0 => a0_C i0) a0_Done a1_Cause a1_Value a1_Place a1_GVA) a0_Level a0_V
                    (fun i0 => trap_Enter_c0 a0_X a0_PC a0_Level a0_V a0_C a0_Done a1_Cause a1_Value a1_Place a1_GVA a2 a3 i0) a0_Done 16 8 (iEq (iAnd IntKind.i64 a0_Level 1) 1) &&
                  true
              else true)))
    else
      bif bif iEq a2 1 && (a3 == true && true) then a0_V else false then
        trap_told__enterG 25 26 27 (-1) 23 (fun i0 => a0_X i0) a0_PC a0_Level a0_V (fun i0 => a0_C i0) a0_Done a1_Cause a1_Value a1_Place a1_GVA &&
          (trap_lowerG (fun i0 => a0_X i0) (trap_told__enter1 25 26 27 (-1) 23 (fun i0 => a0_X i0) a0_PC a0_Level a0_V (fun i0 => a0_C i0) a0_Done a1_Cause a1_Value a1_Place a1_GVA) a0_Level a0_V
              (fun i0 => trap_told__enter4 25 26 27 (-1) 23 (fun i0 => a0_X i0) a0_PC a0_Level a0_V (fun i0 => a0_C i0) a0_Done a1_Cause a1_Value a1_Place a1_GVA i0) a0_Done 22 a0_Level &&
            true)
      else true
theorem trap_Enter0_eq (a0_X : Nat → Int) (a0_PC : Int) (a0_Level : Int) (a0_V : Bool) (a0_C : Nat → Int) (a0_Done : Int) (a1_Cause : Int) (a1_Value : Int) (a1_Place : Int) (a1_GVA : Bool) (a2 : Int) (a3 : Bool) (i0 : Nat) : trap_Enter0r a0_X a0_PC a0_Level a0_V a0_C a0_Done a1_Cause a1_Value a1_Place a1_GVA a2 a3 i0 = a0_X i0 := by
  unfold trap_Enter0r
  first | (simp only [trap_Enter_c0, Go.Ev.cS1, Go.Ev.cS2, Go.Ev.cS3, Go.Ev.cS4, Go.Ev.cS6, Go.Ev.cS7]; done) | (simp only [trap_Enter_c0, Go.Ev.cS1, Go.Ev.cS2, Go.Ev.cS3, Go.Ev.cS4, Go.Ev.cS6, Go.Ev.cS7]; kernel_rfl)
theorem trap_Enter1_eq (a0_X : Nat → Int) (a0_PC : Int) (a0_Level : Int) (a0_V : Bool) (a0_C : Nat → Int) (a0_Done : Int) (a1_Cause : Int) (a1_Value : Int) (a1_Place : Int) (a1_GVA : Bool) (a2 : Int) (a3 : Bool)  : trap_Enter1r a0_X a0_PC a0_Level a0_V a0_C a0_Done a1_Cause a1_Value a1_Place a1_GVA a2 a3  = trap_Enter1 a0_X a0_PC a0_Level a0_V a0_C a0_Done a1_Cause a1_Value a1_Place a1_GVA a2 a3  := by
  unfold trap_Enter1r
  first | (simp only [trap_Enter_c0, Go.Ev.cS1, Go.Ev.cS2, Go.Ev.cS3, Go.Ev.cS4, Go.Ev.cS6, Go.Ev.cS7]; done) | (simp only [trap_Enter_c0, Go.Ev.cS1, Go.Ev.cS2, Go.Ev.cS3, Go.Ev.cS4, Go.Ev.cS6, Go.Ev.cS7]; kernel_rfl)
theorem trap_Enter2_eq (a0_X : Nat → Int) (a0_PC : Int) (a0_Level : Int) (a0_V : Bool) (a0_C : Nat → Int) (a0_Done : Int) (a1_Cause : Int) (a1_Value : Int) (a1_Place : Int) (a1_GVA : Bool) (a2 : Int) (a3 : Bool)  : trap_Enter2r a0_X a0_PC a0_Level a0_V a0_C a0_Done a1_Cause a1_Value a1_Place a1_GVA a2 a3  = trap_Enter2 a0_X a0_PC a0_Level a0_V a0_C a0_Done a1_Cause a1_Value a1_Place a1_GVA a2 a3  := by
  unfold trap_Enter2r
  first | (simp only [trap_Enter_c0, Go.Ev.cS1, Go.Ev.cS2, Go.Ev.cS3, Go.Ev.cS4, Go.Ev.cS6, Go.Ev.cS7]; done) | (simp only [trap_Enter_c0, Go.Ev.cS1, Go.Ev.cS2, Go.Ev.cS3, Go.Ev.cS4, Go.Ev.cS6, Go.Ev.cS7]; kernel_rfl)
theorem trap_Enter3_eq (a0_X : Nat → Int) (a0_PC : Int) (a0_Level : Int) (a0_V : Bool) (a0_C : Nat → Int) (a0_Done : Int) (a1_Cause : Int) (a1_Value : Int) (a1_Place : Int) (a1_GVA : Bool) (a2 : Int) (a3 : Bool)  : trap_Enter3r a0_X a0_PC a0_Level a0_V a0_C a0_Done a1_Cause a1_Value a1_Place a1_GVA a2 a3  = trap_Enter3 a0_X a0_PC a0_Level a0_V a0_C a0_Done a1_Cause a1_Value a1_Place a1_GVA a2 a3  := by
  unfold trap_Enter3r
  first | (simp only [trap_Enter_c0, Go.Ev.cS1, Go.Ev.cS2, Go.Ev.cS3, Go.Ev.cS4, Go.Ev.cS6, Go.Ev.cS7]; done) | (simp only [trap_Enter_c0, Go.Ev.cS1, Go.Ev.cS2, Go.Ev.cS3, Go.Ev.cS4, Go.Ev.cS6, Go.Ev.cS7]; kernel_rfl)
theorem trap_Enter4_eq (a0_X : Nat → Int) (a0_PC : Int) (a0_Level : Int) (a0_V : Bool) (a0_C : Nat → Int) (a0_Done : Int) (a1_Cause : Int) (a1_Value : Int) (a1_Place : Int) (a1_GVA : Bool) (a2 : Int) (a3 : Bool) (i0 : Nat) : trap_Enter4r a0_X a0_PC a0_Level a0_V a0_C a0_Done a1_Cause a1_Value a1_Place a1_GVA a2 a3 i0 = trap_Enter4 a0_X a0_PC a0_Level a0_V a0_C a0_Done a1_Cause a1_Value a1_Place a1_GVA a2 a3 i0 := by
  unfold trap_Enter4r
  first | (simp only [trap_Enter_c0, Go.Ev.cS1, Go.Ev.cS2, Go.Ev.cS3, Go.Ev.cS4, Go.Ev.cS6, Go.Ev.cS7]; done) | (simp only [trap_Enter_c0, Go.Ev.cS1, Go.Ev.cS2, Go.Ev.cS3, Go.Ev.cS4, Go.Ev.cS6, Go.Ev.cS7]; kernel_rfl)
theorem trap_Enter5_eq (a0_X : Nat → Int) (a0_PC : Int) (a0_Level : Int) (a0_V : Bool) (a0_C : Nat → Int) (a0_Done : Int) (a1_Cause : Int) (a1_Value : Int) (a1_Place : Int) (a1_GVA : Bool) (a2 : Int) (a3 : Bool)  : trap_Enter5r a0_X a0_PC a0_Level a0_V a0_C a0_Done a1_Cause a1_Value a1_Place a1_GVA a2 a3  = a0_Done := by
  unfold trap_Enter5r
  first | (simp only [trap_Enter_c0, Go.Ev.cS1, Go.Ev.cS2, Go.Ev.cS3, Go.Ev.cS4, Go.Ev.cS6, Go.Ev.cS7]; done) | (simp only [trap_Enter_c0, Go.Ev.cS1, Go.Ev.cS2, Go.Ev.cS3, Go.Ev.cS4, Go.Ev.cS6, Go.Ev.cS7]; kernel_rfl)
def trap_EnterV (a0_X : Nat → Int) (a0_PC : Int) (a0_Level : Int) (a0_V : Bool) (a0_C : Nat → Int) (a0_Done : Int) (a1_Cause : Int) (a1_Value : Int) (a1_Place : Int) (a1_GVA : Bool) (a2 : Int) (a3 : Bool) : AV := .agg [.arr 32 (.int .u64) fun i0 => .it .u64 (a0_X i0), .it .u64 (trap_Enter1 a0_X a0_PC a0_Level a0_V a0_C a0_Done a1_Cause a1_Value a1_Place a1_GVA a2 a3), .it .i64 (trap_Enter2 a0_X a0_PC a0_Level a0_V a0_C a0_Done a1_Cause a1_Value a1_Place a1_GVA a2 a3), .bl (trap_Enter3 a0_X a0_PC a0_Level a0_V a0_C a0_Done a1_Cause a1_Value a1_Place a1_GVA a2 a3), .arr 29 (.int .u64) fun i0 => .it .u64 (trap_Enter4 a0_X a0_PC a0_Level a0_V a0_C a0_Done a1_Cause a1_Value a1_Place a1_GVA a2 a3 i0), .it .u64 (a0_Done)]
def trap_EnterVr (a0_X : Nat → Int) (a0_PC : Int) (a0_Level : Int) (a0_V : Bool) (a0_C : Nat → Int) (a0_Done : Int) (a1_Cause : Int) (a1_Value : Int) (a1_Place : Int) (a1_GVA : Bool) (a2 : Int) (a3 : Bool) : AV := .agg [.arr 32 (.int .u64) fun i0 => .it .u64 (trap_Enter0r a0_X a0_PC a0_Level a0_V a0_C a0_Done a1_Cause a1_Value a1_Place a1_GVA a2 a3 i0), .it .u64 (trap_Enter1r a0_X a0_PC a0_Level a0_V a0_C a0_Done a1_Cause a1_Value a1_Place a1_GVA a2 a3), .it .i64 (trap_Enter2r a0_X a0_PC a0_Level a0_V a0_C a0_Done a1_Cause a1_Value a1_Place a1_GVA a2 a3), .bl (trap_Enter3r a0_X a0_PC a0_Level a0_V a0_C a0_Done a1_Cause a1_Value a1_Place a1_GVA a2 a3), .arr 29 (.int .u64) fun i0 => .it .u64 (trap_Enter4r a0_X a0_PC a0_Level a0_V a0_C a0_Done a1_Cause a1_Value a1_Place a1_GVA a2 a3 i0), .it .u64 (trap_Enter5r a0_X a0_PC a0_Level a0_V a0_C a0_Done a1_Cause a1_Value a1_Place a1_GVA a2 a3)]
theorem trap_EnterV_eq (a0_X : Nat → Int) (a0_PC : Int) (a0_Level : Int) (a0_V : Bool) (a0_C : Nat → Int) (a0_Done : Int) (a1_Cause : Int) (a1_Value : Int) (a1_Place : Int) (a1_GVA : Bool) (a2 : Int) (a3 : Bool) : trap_EnterVr a0_X a0_PC a0_Level a0_V a0_C a0_Done a1_Cause a1_Value a1_Place a1_GVA a2 a3 = trap_EnterV a0_X a0_PC a0_Level a0_V a0_C a0_Done a1_Cause a1_Value a1_Place a1_GVA a2 a3 := by
  unfold trap_EnterVr trap_EnterV
  simp only [trap_Enter0_eq, trap_Enter1_eq, trap_Enter2_eq, trap_Enter3_eq, trap_Enter4_eq, trap_Enter5_eq]
theorem trap_EnterE (g : Nat → AV) : pcOf Try.prog okT (lookR T29) (inl Try.prog okT (lookR T29) RO FS 100 ST 2) RO NOV 100 false Try.f15 (norms [(.agg [(.arr 32 (.int .u64)), (.int .u64), (.int .i64), .bool, (.arr 29 (.int .u64)), (.int .u64)]), (.agg [(.int .u64), (.int .u64), (.int .u64), .bool]), (.int .i64), .bool] 0 g) = some (trap_EnterG (fun i0 => (((g 0).fld 0).ix i0).num) (((g 0).fld 1).num) (((g 0).fld 2).num) (((g 0).fld 3).bool) (fun i0 => (((g 0).fld 4).ix i0).num) (((g 0).fld 5).num) (((g 1).fld 0).num) (((g 1).fld 1).num) (((g 1).fld 2).num) (((g 1).fld 3).bool) ((g 2).num) ((g 3).bool), trap_EnterV (fun i0 => (((g 0).fld 0).ix i0).num) (((g 0).fld 1).num) (((g 0).fld 2).num) (((g 0).fld 3).bool) (fun i0 => (((g 0).fld 4).ix i0).num) (((g 0).fld 5).num) (((g 1).fld 0).num) (((g 1).fld 1).num) (((g 1).fld 2).num) (((g 1).fld 3).bool) ((g 2).num) ((g 3).bool)) :=
  (by kernel_rfl : pcOf Try.prog okT (lookR T29) (inl Try.prog okT (lookR T29) RO FS 100 ST 2) RO NOV 100 false Try.f15 (norms [(.agg [(.arr 32 (.int .u64)), (.int .u64), (.int .i64), .bool, (.arr 29 (.int .u64)), (.int .u64)]), (.agg [(.int .u64), (.int .u64), (.int .u64), .bool]), (.int .i64), .bool] 0 g) = some (trap_EnterG (fun i0 => (((g 0).fld 0).ix i0).num) (((g 0).fld 1).num) (((g 0).fld 2).num) (((g 0).fld 3).bool) (fun i0 => (((g 0).fld 4).ix i0).num) (((g 0).fld 5).num) (((g 1).fld 0).num) (((g 1).fld 1).num) (((g 1).fld 2).num) (((g 1).fld 3).bool) ((g 2).num) ((g 3).bool), trap_EnterVr (fun i0 => (((g 0).fld 0).ix i0).num) (((g 0).fld 1).num) (((g 0).fld 2).num) (((g 0).fld 3).bool) (fun i0 => (((g 0).fld 4).ix i0).num) (((g 0).fld 5).num) (((g 1).fld 0).num) (((g 1).fld 1).num) (((g 1).fld 2).num) (((g 1).fld 3).bool) ((g 2).num) ((g 3).bool))).trans (by rw [trap_EnterV_eq])
theorem trap_EnterP : Plain Try.prog 15 Try.f15 := ⟨Try.func15, of_decide_eq_true (by kernel_rfl)⟩
theorem trap_EnterT (a0_X : Nat → Int) (a0_PC : Int) (a0_Level : Int) (a0_V : Bool) (a0_C : Nat → Int) (a0_Done : Int) (a1_Cause : Int) (a1_Value : Int) (a1_Place : Int) (a1_GVA : Bool) (a2 : Int) (a3 : Bool) : trap_EnterG a0_X a0_PC a0_Level a0_V a0_C a0_Done a1_Cause a1_Value a1_Place a1_GVA a2 a3 = true := by
  unfold trap_EnterG
  simp only [put_g _ _ _ _ _ _ _ _ _ (show iIn 0 29 = true from by decide), put_g _ _ _ _ _ _ _ _ _ (show iIn 16 29 = true from by decide), put_g _ _ _ _ _ _ _ _ _ (show iIn 22 29 = true from by decide), bit_g _ _ _ _ _ _ _ _ (show iIn 0 29 = true from by decide), bit_g _ _ _ _ _ _ _ _ (show iIn 16 29 = true from by decide), bit_g _ _ _ _ _ _ _ _ (show iIn 22 29 = true from by decide), kept_g _ _ _ _ _ _ _ _ _ (show iIn 0 29 = true from by decide), kept_g _ _ _ _ _ _ _ _ _ (show iIn 22 29 = true from by decide), lower_g _ _ _ _ _ _ _ _ (show iIn 0 29 = true from by decide), lower_g _ _ _ _ _ _ _ _ (show iIn 22 29 = true from by decide), Bool.and_true, Bool.true_and, Bool.cond_self, trap_told__enterG]
  simp [Go.Ev.iIn, Go.Ev.iLe]
theorem trap_EnterO : RowOk Try.prog 15 (rowF [(.agg [(.arr 32 (.int .u64)), (.int .u64), (.int .i64), .bool, (.arr 29 (.int .u64)), (.int .u64)]), (.agg [(.int .u64), (.int .u64), (.int .u64), .bool]), (.int .i64), .bool] none fun g => trap_EnterV (fun i0 => (((g 0).fld 0).ix i0).num) (((g 0).fld 1).num) (((g 0).fld 2).num) (((g 0).fld 3).bool) (fun i0 => (((g 0).fld 4).ix i0).num) (((g 0).fld 5).num) (((g 1).fld 0).num) (((g 1).fld 1).num) (((g 1).fld 2).num) (((g 1).fld 3).bool) ((g 2).num) ((g 3).bool)) := rowT_ok fun g => pcOf_ok mix fair T29_ok (inl_ok mix fair T29_ok FS_ok 2) trap_EnterP (fun c _ => OvOk_none c) (trap_EnterE g) (trap_EnterT (fun i0 => (((g 0).fld 0).ix i0).num) (((g 0).fld 1).num) (((g 0).fld 2).num) (((g 0).fld 3).bool) (fun i0 => (((g 0).fld 4).ix i0).num) (((g 0).fld 5).num) (((g 1).fld 0).num) (((g 1).fld 1).num) (((g 1).fld 2).num) (((g 1).fld 3).bool) ((g 2).num) ((g 3).bool))
def T15 : List Row := (15, (rowF [(.agg [(.arr 32 (.int .u64)), (.int .u64), (.int .i64), .bool, (.arr 29 (.int .u64)), (.int .u64)]), (.agg [(.int .u64), (.int .u64), (.int .u64), .bool]), (.int .i64), .bool] none fun g => trap_EnterV (fun i0 => (((g 0).fld 0).ix i0).num) (((g 0).fld 1).num) (((g 0).fld 2).num) (((g 0).fld 3).bool) (fun i0 => (((g 0).fld 4).ix i0).num) (((g 0).fld 5).num) (((g 1).fld 0).num) (((g 1).fld 1).num) (((g 1).fld 2).num) (((g 1).fld 3).bool) ((g 2).num) ((g 3).bool))) :: T29
theorem T15_ok : PSound Try.prog (lookR T15) := lookR_cons trap_EnterO T29_ok

/- (sallyport/trap.kept).back -/
def trap_kept__back0 (a0_index : Int) (a0_now : Int) (a0_was : Int) (a1_X : Nat → Int) (a1_PC : Int) (a1_Level : Int) (a1_V : Bool) (a1_C : Nat → Int) (a1_Done : Int) : Nat → Int :=
  fun i0 => csr_Put4 (fun i0 => a1_X i0) a1_PC a1_Level a1_V
    (fun i0 =>
      csr_Put4 (fun i0 => a1_X i0) a1_PC a1_Level a1_V (fun i0 => a1_C i0) a1_Done a0_index a0_now (csr_Bit0 (fun i0 => a1_X i0) a1_PC a1_Level a1_V (fun i0 => a1_C i0) a1_Done a0_index a0_was) i0)
    a1_Done a0_index a0_was true i0
def trap_kept__backG (a0_index : Int) (a0_now : Int) (a0_was : Int) (a1_X : Nat → Int) (a1_PC : Int) (a1_Level : Int) (a1_V : Bool) (a1_C : Nat → Int) (a1_Done : Int) : Bool :=
  csr_BitG (fun i0 => a1_X i0) a1_PC a1_Level a1_V (fun i0 => a1_C i0) a1_Done a0_index a0_was &&
    (csr_PutG (fun i0 => a1_X i0) a1_PC a1_Level a1_V (fun i0 => a1_C i0) a1_Done a0_index a0_now (csr_Bit0 (fun i0 => a1_X i0) a1_PC a1_Level a1_V (fun i0 => a1_C i0) a1_Done a0_index a0_was) &&
      (csr_PutG (fun i0 => a1_X i0) a1_PC a1_Level a1_V
          (fun i0 =>
            csr_Put4 (fun i0 => a1_X i0) a1_PC a1_Level a1_V (fun i0 => a1_C i0) a1_Done a0_index a0_now (csr_Bit0 (fun i0 => a1_X i0) a1_PC a1_Level a1_V (fun i0 => a1_C i0) a1_Done a0_index a0_was)
              i0)
          a1_Done a0_index a0_was true &&
        true))
def trap_kept__backV (a0_index : Int) (a0_now : Int) (a0_was : Int) (a1_X : Nat → Int) (a1_PC : Int) (a1_Level : Int) (a1_V : Bool) (a1_C : Nat → Int) (a1_Done : Int) : AV := .agg [.arr 32 (.int .u64) fun i0 => .it .u64 (a1_X i0), .it .u64 (a1_PC), .it .i64 (a1_Level), .bl (a1_V), .arr 29 (.int .u64) fun i0 => .it .u64 (trap_kept__back0 a0_index a0_now a0_was a1_X a1_PC a1_Level a1_V a1_C a1_Done i0), .it .u64 (a1_Done)]
theorem trap_kept__backE (g : Nat → AV) : pcOf Try.prog okT (lookR T15) (inl Try.prog okT (lookR T15) RO FS 100 ST 2) RO NOV 100 false Try.f22 (norms [(.agg [(.int .i64), (.int .i64), (.int .i64)]), (.agg [(.arr 32 (.int .u64)), (.int .u64), (.int .i64), .bool, (.arr 29 (.int .u64)), (.int .u64)])] 0 g) = some (trap_kept__backG (((g 0).fld 0).num) (((g 0).fld 1).num) (((g 0).fld 2).num) (fun i0 => (((g 1).fld 0).ix i0).num) (((g 1).fld 1).num) (((g 1).fld 2).num) (((g 1).fld 3).bool) (fun i0 => (((g 1).fld 4).ix i0).num) (((g 1).fld 5).num), trap_kept__backV (((g 0).fld 0).num) (((g 0).fld 1).num) (((g 0).fld 2).num) (fun i0 => (((g 1).fld 0).ix i0).num) (((g 1).fld 1).num) (((g 1).fld 2).num) (((g 1).fld 3).bool) (fun i0 => (((g 1).fld 4).ix i0).num) (((g 1).fld 5).num)) := by kernel_rfl
theorem trap_kept__backP : Plain Try.prog 22 Try.f22 := ⟨Try.func22, of_decide_eq_true (by kernel_rfl)⟩
theorem trap_kept__backO : RowOk Try.prog 22 (rowF [(.agg [(.int .i64), (.int .i64), (.int .i64)]), (.agg [(.arr 32 (.int .u64)), (.int .u64), (.int .i64), .bool, (.arr 29 (.int .u64)), (.int .u64)])] (some fun g => trap_kept__backG (((g 0).fld 0).num) (((g 0).fld 1).num) (((g 0).fld 2).num) (fun i0 => (((g 1).fld 0).ix i0).num) (((g 1).fld 1).num) (((g 1).fld 2).num) (((g 1).fld 3).bool) (fun i0 => (((g 1).fld 4).ix i0).num) (((g 1).fld 5).num)) fun g => trap_kept__backV (((g 0).fld 0).num) (((g 0).fld 1).num) (((g 0).fld 2).num) (fun i0 => (((g 1).fld 0).ix i0).num) (((g 1).fld 1).num) (((g 1).fld 2).num) (((g 1).fld 3).bool) (fun i0 => (((g 1).fld 4).ix i0).num) (((g 1).fld 5).num)) := rowF_ok fun g hg => pcOf_ok mix fair T15_ok (inl_ok mix fair T15_ok FS_ok 2) trap_kept__backP (fun c _ => OvOk_none c) (trap_kept__backE g) hg
def T22 : List Row := (22, (rowF [(.agg [(.int .i64), (.int .i64), (.int .i64)]), (.agg [(.arr 32 (.int .u64)), (.int .u64), (.int .i64), .bool, (.arr 29 (.int .u64)), (.int .u64)])] (some fun g => trap_kept__backG (((g 0).fld 0).num) (((g 0).fld 1).num) (((g 0).fld 2).num) (fun i0 => (((g 1).fld 0).ix i0).num) (((g 1).fld 1).num) (((g 1).fld 2).num) (((g 1).fld 3).bool) (fun i0 => (((g 1).fld 4).ix i0).num) (((g 1).fld 5).num)) fun g => trap_kept__backV (((g 0).fld 0).num) (((g 0).fld 1).num) (((g 0).fld 2).num) (fun i0 => (((g 1).fld 0).ix i0).num) (((g 1).fld 1).num) (((g 1).fld 2).num) (((g 1).fld 3).bool) (fun i0 => (((g 1).fld 4).ix i0).num) (((g 1).fld 5).num))) :: T15
theorem T22_ok : PSound Try.prog (lookR T22) := lookR_cons trap_kept__backO T15_ok

theorem keptb_g (i a b : Int) (X : Nat → Int) (PC L : Int) (V : Bool) (C : Nat → Int) (D : Int) (h : iIn i 29 = true) : trap_kept__backG i a b X PC L V C D = true := by
  unfold trap_kept__backG; simp only [put_g _ _ _ _ _ _ _ _ _ h, bit_g _ _ _ _ _ _ _ _ h, Bool.and_true]
/- sallyport/trap.Mret -/
def trap_Mret_c0 (a0_X : Nat → Int) (a0_PC : Int) (a0_Level : Int) (a0_V : Bool) (a0_C : Nat → Int) (a0_Done : Int) : Bool :=
  bif csr_Bit0 (fun i0 => a0_X i0) a0_PC (iConv IntKind.i64 (word_Bits0 (a0_C 0) 11 2)) a0_V (fun i0 => a0_C i0) a0_Done 0 39 then iNe (iConv IntKind.i64 (word_Bits0 (a0_C 0) 11 2)) 3 else false
def trap_Mret_c1 (a0_X : Nat → Int) (a0_PC : Int) (a0_Level : Int) (a0_V : Bool) (a0_C : Nat → Int) (a0_Done : Int) : Nat → Int :=
  trap_kept__back0 0 3 7 (fun i0 => a0_X i0) a0_PC (iConv IntKind.i64 (word_Bits0 (a0_C 0) 11 2)) (trap_Mret_c0 a0_X a0_PC a0_Level a0_V a0_C a0_Done) (fun i0 => a0_C i0) a0_Done
def trap_Mret_c2 (a0_X : Nat → Int) (a0_PC : Int) (a0_Level : Int) (a0_V : Bool) (a0_C : Nat → Int) (a0_Done : Int) : Nat → Int :=
  csr_Put4 (fun i0 => a0_X i0) a0_PC (iConv IntKind.i64 (word_Bits0 (a0_C 0) 11 2)) (trap_Mret_c0 a0_X a0_PC a0_Level a0_V a0_C a0_Done)
    (fun i0 => bif i0 == 0 then word_Set0 (trap_Mret_c1 a0_X a0_PC a0_Level a0_V a0_C a0_Done 0) 11 2 0 else trap_Mret_c1 a0_X a0_PC a0_Level a0_V a0_C a0_Done i0) a0_Done 0 39 false
def trap_Mret0r (a0_X : Nat → Int) (a0_PC : Int) (a0_Level : Int) (a0_V : Bool) (a0_C : Nat → Int) (a0_Done : Int) : Nat → Int :=
  fun i0 => bif !legal_Insn1 (fun i0 => a0_X i0) a0_PC a0_Level a0_V (fun i0 => a0_C i0) a0_Done 60 0 0 0 0 0 then a0_X i0 else a0_X i0
def trap_Mret1 (a0_X : Nat → Int) (a0_PC : Int) (a0_Level : Int) (a0_V : Bool) (a0_C : Nat → Int) (a0_Done : Int) : Int :=
  bif !legal_Insn1 (fun i0 => a0_X i0) a0_PC a0_Level a0_V (fun i0 => a0_C i0) a0_Done 60 0 0 0 0 0 then a0_PC else trap_Mret_c2 a0_X a0_PC a0_Level a0_V a0_C a0_Done 6
def trap_Mret2 (a0_X : Nat → Int) (a0_PC : Int) (a0_Level : Int) (a0_V : Bool) (a0_C : Nat → Int) (a0_Done : Int) : Int :=
  bif !legal_Insn1 (fun i0 => a0_X i0) a0_PC a0_Level a0_V (fun i0 => a0_C i0) a0_Done 60 0 0 0 0 0 then a0_Level else iConv IntKind.i64 (word_Bits0 (a0_C 0) 11 2)
def trap_Mret3 (a0_X : Nat → Int) (a0_PC : Int) (a0_Level : Int) (a0_V : Bool) (a0_C : Nat → Int) (a0_Done : Int) : Bool :=
  bif !legal_Insn1 (fun i0 => a0_X i0) a0_PC a0_Level a0_V (fun i0 => a0_C i0) a0_Done 60 0 0 0 0 0 then a0_V else trap_Mret_c0 a0_X a0_PC a0_Level a0_V a0_C a0_Done
def trap_Mret4 (a0_X : Nat → Int) (a0_PC : Int) (a0_Level : Int) (a0_V : Bool) (a0_C : Nat → Int) (a0_Done : Int) : Nat → Int :=
  fun i0 => bif !legal_Insn1 (fun i0 => a0_X i0) a0_PC a0_Level a0_V (fun i0 => a0_C i0) a0_Done 60 0 0 0 0 0 then a0_C i0 else trap_Mret_c2 a0_X a0_PC a0_Level a0_V a0_C a0_Done i0
def trap_Mret5r (a0_X : Nat → Int) (a0_PC : Int) (a0_Level : Int) (a0_V : Bool) (a0_C : Nat → Int) (a0_Done : Int) : Int :=
  bif !legal_Insn1 (fun i0 => a0_X i0) a0_PC a0_Level a0_V (fun i0 => a0_C i0) a0_Done 60 0 0 0 0 0 then a0_Done else a0_Done
def trap_Mret6 (a0_X : Nat → Int) (a0_PC : Int) (a0_Level : Int) (a0_V : Bool) (a0_C : Nat → Int) (a0_Done : Int) : Int :=
  bif !legal_Insn1 (fun i0 => a0_X i0) a0_PC a0_Level a0_V (fun i0 => a0_C i0) a0_Done 60 0 0 0 0 0 then legal_Insn0 (fun i0 => a0_X i0) a0_PC a0_Level a0_V (fun i0 => a0_C i0) a0_Done 60 0 0 0 0 0
  else 0
def trap_Mret7 (a0_X : Nat → Int) (a0_PC : Int) (a0_Level : Int) (a0_V : Bool) (a0_C : Nat → Int) (a0_Done : Int) : Bool :=
  bif !legal_Insn1 (fun i0 => a0_X i0) a0_PC a0_Level a0_V (fun i0 => a0_C i0) a0_Done 60 0 0 0 0 0 then false else true
def trap_MretG (a0_X : Nat → Int) (a0_PC : Int) (a0_Level : Int) (a0_V : Bool) (a0_C : Nat → Int) (a0_Done : Int) : Bool :=
  bif !legal_Insn1 (fun i0 => a0_X i0) a0_PC a0_Level a0_V (fun i0 => a0_C i0) a0_Done 60 0 0 0 0 0 then true
  else
    csr_BitG (fun i0 => a0_X i0) a0_PC (iConv IntKind.i64 (word_Bits0 (a0_C 0) 11 2)) a0_V (fun i0 => a0_C i0) a0_Done 0 39 &&
      (trap_kept__backG 0 3 7 (fun i0 => a0_X i0) a0_PC (iConv IntKind.i64 (word_Bits0 (a0_C 0) 11 2)) (trap_Mret_c0 a0_X a0_PC a0_Level a0_V a0_C a0_Done) (fun i0 => a0_C i0) a0_Done &&
        (csr_PutG (fun i0 => a0_X i0) a0_PC (iConv IntKind.i64 (word_Bits0 (a0_C 0) 11 2)) (trap_Mret_c0 a0_X a0_PC a0_Level a0_V a0_C a0_Done)
            (fun i0 => bif i0 == 0 then word_Set0 (trap_Mret_c1 a0_X a0_PC a0_Level a0_V a0_C a0_Done 0) 11 2 0 else trap_Mret_c1 a0_X a0_PC a0_Level a0_V a0_C a0_Done i0) a0_Done 0 39 false &&
          true))
theorem trap_Mret0_eq (a0_X : Nat → Int) (a0_PC : Int) (a0_Level : Int) (a0_V : Bool) (a0_C : Nat → Int) (a0_Done : Int) (i0 : Nat) : trap_Mret0r a0_X a0_PC a0_Level a0_V a0_C a0_Done i0 = a0_X i0 := by
  unfold trap_Mret0r
  first | (simp only [trap_Mret_c0, trap_Mret_c1, trap_Mret_c2, Go.Ev.cS1, Go.Ev.cS2, Go.Ev.cS3, Go.Ev.cS4, Go.Ev.cS6, Go.Ev.cS7]; done) | (simp only [trap_Mret_c0, trap_Mret_c1, trap_Mret_c2, Go.Ev.cS1, Go.Ev.cS2, Go.Ev.cS3, Go.Ev.cS4, Go.Ev.cS6, Go.Ev.cS7]; kernel_rfl)
theorem trap_Mret5_eq (a0_X : Nat → Int) (a0_PC : Int) (a0_Level : Int) (a0_V : Bool) (a0_C : Nat → Int) (a0_Done : Int)  : trap_Mret5r a0_X a0_PC a0_Level a0_V a0_C a0_Done  = a0_Done := by
  unfold trap_Mret5r
  first | (simp only [trap_Mret_c0, trap_Mret_c1, trap_Mret_c2, Go.Ev.cS1, Go.Ev.cS2, Go.Ev.cS3, Go.Ev.cS4, Go.Ev.cS6, Go.Ev.cS7]; done) | (simp only [trap_Mret_c0, trap_Mret_c1, trap_Mret_c2, Go.Ev.cS1, Go.Ev.cS2, Go.Ev.cS3, Go.Ev.cS4, Go.Ev.cS6, Go.Ev.cS7]; kernel_rfl)
def trap_MretV (a0_X : Nat → Int) (a0_PC : Int) (a0_Level : Int) (a0_V : Bool) (a0_C : Nat → Int) (a0_Done : Int) : AV := .tup [.agg [.arr 32 (.int .u64) fun i0 => .it .u64 (a0_X i0), .it .u64 (trap_Mret1 a0_X a0_PC a0_Level a0_V a0_C a0_Done), .it .i64 (trap_Mret2 a0_X a0_PC a0_Level a0_V a0_C a0_Done), .bl (trap_Mret3 a0_X a0_PC a0_Level a0_V a0_C a0_Done), .arr 29 (.int .u64) fun i0 => .it .u64 (trap_Mret4 a0_X a0_PC a0_Level a0_V a0_C a0_Done i0), .it .u64 (a0_Done)], .it .u64 (trap_Mret6 a0_X a0_PC a0_Level a0_V a0_C a0_Done), .bl (trap_Mret7 a0_X a0_PC a0_Level a0_V a0_C a0_Done)]
def trap_MretVr (a0_X : Nat → Int) (a0_PC : Int) (a0_Level : Int) (a0_V : Bool) (a0_C : Nat → Int) (a0_Done : Int) : AV := .tup [.agg [.arr 32 (.int .u64) fun i0 => .it .u64 (trap_Mret0r a0_X a0_PC a0_Level a0_V a0_C a0_Done i0), .it .u64 (trap_Mret1 a0_X a0_PC a0_Level a0_V a0_C a0_Done), .it .i64 (trap_Mret2 a0_X a0_PC a0_Level a0_V a0_C a0_Done), .bl (trap_Mret3 a0_X a0_PC a0_Level a0_V a0_C a0_Done), .arr 29 (.int .u64) fun i0 => .it .u64 (trap_Mret4 a0_X a0_PC a0_Level a0_V a0_C a0_Done i0), .it .u64 (trap_Mret5r a0_X a0_PC a0_Level a0_V a0_C a0_Done)], .it .u64 (trap_Mret6 a0_X a0_PC a0_Level a0_V a0_C a0_Done), .bl (trap_Mret7 a0_X a0_PC a0_Level a0_V a0_C a0_Done)]
theorem trap_MretV_eq (a0_X : Nat → Int) (a0_PC : Int) (a0_Level : Int) (a0_V : Bool) (a0_C : Nat → Int) (a0_Done : Int) : trap_MretVr a0_X a0_PC a0_Level a0_V a0_C a0_Done = trap_MretV a0_X a0_PC a0_Level a0_V a0_C a0_Done := by
  unfold trap_MretVr trap_MretV
  simp only [trap_Mret0_eq, trap_Mret5_eq]
theorem trap_MretE (g : Nat → AV) : pcOf Try.prog okT (lookR T22) (inl Try.prog okT (lookR T22) RO FS 100 ST 2) RO NOV 100 false Try.f11 (norms [(.agg [(.arr 32 (.int .u64)), (.int .u64), (.int .i64), .bool, (.arr 29 (.int .u64)), (.int .u64)])] 0 g) = some (trap_MretG (fun i0 => (((g 0).fld 0).ix i0).num) (((g 0).fld 1).num) (((g 0).fld 2).num) (((g 0).fld 3).bool) (fun i0 => (((g 0).fld 4).ix i0).num) (((g 0).fld 5).num), trap_MretV (fun i0 => (((g 0).fld 0).ix i0).num) (((g 0).fld 1).num) (((g 0).fld 2).num) (((g 0).fld 3).bool) (fun i0 => (((g 0).fld 4).ix i0).num) (((g 0).fld 5).num)) :=
  (by kernel_rfl : pcOf Try.prog okT (lookR T22) (inl Try.prog okT (lookR T22) RO FS 100 ST 2) RO NOV 100 false Try.f11 (norms [(.agg [(.arr 32 (.int .u64)), (.int .u64), (.int .i64), .bool, (.arr 29 (.int .u64)), (.int .u64)])] 0 g) = some (trap_MretG (fun i0 => (((g 0).fld 0).ix i0).num) (((g 0).fld 1).num) (((g 0).fld 2).num) (((g 0).fld 3).bool) (fun i0 => (((g 0).fld 4).ix i0).num) (((g 0).fld 5).num), trap_MretVr (fun i0 => (((g 0).fld 0).ix i0).num) (((g 0).fld 1).num) (((g 0).fld 2).num) (((g 0).fld 3).bool) (fun i0 => (((g 0).fld 4).ix i0).num) (((g 0).fld 5).num))).trans (by rw [trap_MretV_eq])
theorem trap_MretP : Plain Try.prog 11 Try.f11 := ⟨Try.func11, of_decide_eq_true (by kernel_rfl)⟩
theorem trap_MretT (a0_X : Nat → Int) (a0_PC : Int) (a0_Level : Int) (a0_V : Bool) (a0_C : Nat → Int) (a0_Done : Int) : trap_MretG a0_X a0_PC a0_Level a0_V a0_C a0_Done = true := by
  unfold trap_MretG
  simp only [put_g _ _ _ _ _ _ _ _ _ (show iIn 0 29 = true from by decide), put_g _ _ _ _ _ _ _ _ _ (show iIn 16 29 = true from by decide), put_g _ _ _ _ _ _ _ _ _ (show iIn 22 29 = true from by decide), bit_g _ _ _ _ _ _ _ _ (show iIn 0 29 = true from by decide), bit_g _ _ _ _ _ _ _ _ (show iIn 16 29 = true from by decide), bit_g _ _ _ _ _ _ _ _ (show iIn 22 29 = true from by decide), keptb_g _ _ _ _ _ _ _ _ _ (show iIn 0 29 = true from by decide), keptb_g _ _ _ _ _ _ _ _ _ (show iIn 22 29 = true from by decide), Bool.and_true, Bool.true_and, Bool.cond_self]
  try simp [Go.Ev.iIn, Go.Ev.iLe]
theorem trap_MretO : RowOk Try.prog 11 (rowF [(.agg [(.arr 32 (.int .u64)), (.int .u64), (.int .i64), .bool, (.arr 29 (.int .u64)), (.int .u64)])] none fun g => trap_MretV (fun i0 => (((g 0).fld 0).ix i0).num) (((g 0).fld 1).num) (((g 0).fld 2).num) (((g 0).fld 3).bool) (fun i0 => (((g 0).fld 4).ix i0).num) (((g 0).fld 5).num)) := rowT_ok fun g => pcOf_ok mix fair T22_ok (inl_ok mix fair T22_ok FS_ok 2) trap_MretP (fun c _ => OvOk_none c) (trap_MretE g) (trap_MretT (fun i0 => (((g 0).fld 0).ix i0).num) (((g 0).fld 1).num) (((g 0).fld 2).num) (((g 0).fld 3).bool) (fun i0 => (((g 0).fld 4).ix i0).num) (((g 0).fld 5).num))
def T11 : List Row := (11, (rowF [(.agg [(.arr 32 (.int .u64)), (.int .u64), (.int .i64), .bool, (.arr 29 (.int .u64)), (.int .u64)])] none fun g => trap_MretV (fun i0 => (((g 0).fld 0).ix i0).num) (((g 0).fld 1).num) (((g 0).fld 2).num) (((g 0).fld 3).bool) (fun i0 => (((g 0).fld 4).ix i0).num) (((g 0).fld 5).num))) :: T22
theorem T11_ok : PSound Try.prog (lookR T11) := lookR_cons trap_MretO T22_ok

/- sallyport/trap.Sret -/
def trap_Sret_c0 (a0_X : Nat → Int) (a0_PC : Int) (a0_Level : Int) (a0_V : Bool) (a0_C : Nat → Int) (a0_Done : Int) : Int :=
  iConv IntKind.i64
    (word_Bits0 (csr_Put4 (fun i0 => a0_X i0) a0_PC a0_Level (csr_Bit0 (fun i0 => a0_X i0) a0_PC a0_Level a0_V (fun i0 => a0_C i0) a0_Done 16 7) (fun i0 => a0_C i0) a0_Done 16 7 false 0) 8 1)
def trap_Sret_c1 (a0_X : Nat → Int) (a0_PC : Int) (a0_Level : Int) (a0_V : Bool) (a0_C : Nat → Int) (a0_Done : Int) : Nat → Int :=
  csr_Put4 (fun i0 => a0_X i0) a0_PC (iConv IntKind.i64 (word_Bits0 (a0_C 22) 8 1)) a0_V
    (fun i0 => trap_kept__back0 22 1 5 (fun i0 => a0_X i0) a0_PC (iConv IntKind.i64 (word_Bits0 (a0_C 22) 8 1)) a0_V (fun i0 => a0_C i0) a0_Done i0) a0_Done 22 8 false
def trap_Sret_c2 (a0_X : Nat → Int) (a0_PC : Int) (a0_Level : Int) (a0_V : Bool) (a0_C : Nat → Int) (a0_Done : Int) : Nat → Int :=
  csr_Put4 (fun i0 => a0_X i0) a0_PC (trap_Sret_c0 a0_X a0_PC a0_Level a0_V a0_C a0_Done) (csr_Bit0 (fun i0 => a0_X i0) a0_PC a0_Level a0_V (fun i0 => a0_C i0) a0_Done 16 7)
    (fun i0 =>
      trap_kept__back0 0 1 5 (fun i0 => a0_X i0) a0_PC (trap_Sret_c0 a0_X a0_PC a0_Level a0_V a0_C a0_Done) (csr_Bit0 (fun i0 => a0_X i0) a0_PC a0_Level a0_V (fun i0 => a0_C i0) a0_Done 16 7)
        (fun i0 => csr_Put4 (fun i0 => a0_X i0) a0_PC a0_Level (csr_Bit0 (fun i0 => a0_X i0) a0_PC a0_Level a0_V (fun i0 => a0_C i0) a0_Done 16 7) (fun i0 => a0_C i0) a0_Done 16 7 false i0) a0_Done i0)
    a0_Done 0 8 false
def trap_Sret0r (a0_X : Nat → Int) (a0_PC : Int) (a0_Level : Int) (a0_V : Bool) (a0_C : Nat → Int) (a0_Done : Int) : Nat → Int :=
  fun i0 => bif !legal_Insn1 (fun i0 => a0_X i0) a0_PC a0_Level a0_V (fun i0 => a0_C i0) a0_Done 61 0 0 0 0 0 then a0_X i0 else bif a0_V then a0_X i0 else a0_X i0
def trap_Sret1 (a0_X : Nat → Int) (a0_PC : Int) (a0_Level : Int) (a0_V : Bool) (a0_C : Nat → Int) (a0_Done : Int) : Int :=
  bif !legal_Insn1 (fun i0 => a0_X i0) a0_PC a0_Level a0_V (fun i0 => a0_C i0) a0_Done 61 0 0 0 0 0 then a0_PC
  else bif a0_V then trap_Sret_c1 a0_X a0_PC a0_Level a0_V a0_C a0_Done 25 else trap_Sret_c2 a0_X a0_PC a0_Level a0_V a0_C a0_Done 12
def trap_Sret2 (a0_X : Nat → Int) (a0_PC : Int) (a0_Level : Int) (a0_V : Bool) (a0_C : Nat → Int) (a0_Done : Int) : Int :=
  bif !legal_Insn1 (fun i0 => a0_X i0) a0_PC a0_Level a0_V (fun i0 => a0_C i0) a0_Done 61 0 0 0 0 0 then a0_Level
  else bif a0_V then iConv IntKind.i64 (word_Bits0 (a0_C 22) 8 1) else trap_Sret_c0 a0_X a0_PC a0_Level a0_V a0_C a0_Done
def trap_Sret3 (a0_X : Nat → Int) (a0_PC : Int) (a0_Level : Int) (a0_V : Bool) (a0_C : Nat → Int) (a0_Done : Int) : Bool :=
  bif !legal_Insn1 (fun i0 => a0_X i0) a0_PC a0_Level a0_V (fun i0 => a0_C i0) a0_Done 61 0 0 0 0 0 then a0_V
  else bif a0_V then a0_V else csr_Bit0 (fun i0 => a0_X i0) a0_PC a0_Level a0_V (fun i0 => a0_C i0) a0_Done 16 7
def trap_Sret4 (a0_X : Nat → Int) (a0_PC : Int) (a0_Level : Int) (a0_V : Bool) (a0_C : Nat → Int) (a0_Done : Int) : Nat → Int :=
  fun i0 => bif !legal_Insn1 (fun i0 => a0_X i0) a0_PC a0_Level a0_V (fun i0 => a0_C i0) a0_Done 61 0 0 0 0 0 then a0_C i0
  else bif a0_V then trap_Sret_c1 a0_X a0_PC a0_Level a0_V a0_C a0_Done i0 else trap_Sret_c2 a0_X a0_PC a0_Level a0_V a0_C a0_Done i0
def trap_Sret5r (a0_X : Nat → Int) (a0_PC : Int) (a0_Level : Int) (a0_V : Bool) (a0_C : Nat → Int) (a0_Done : Int) : Int :=
  bif !legal_Insn1 (fun i0 => a0_X i0) a0_PC a0_Level a0_V (fun i0 => a0_C i0) a0_Done 61 0 0 0 0 0 then a0_Done else bif a0_V then a0_Done else a0_Done
def trap_Sret6 (a0_X : Nat → Int) (a0_PC : Int) (a0_Level : Int) (a0_V : Bool) (a0_C : Nat → Int) (a0_Done : Int) : Int :=
  bif !legal_Insn1 (fun i0 => a0_X i0) a0_PC a0_Level a0_V (fun i0 => a0_C i0) a0_Done 61 0 0 0 0 0 then legal_Insn0 (fun i0 => a0_X i0) a0_PC a0_Level a0_V (fun i0 => a0_C i0) a0_Done 61 0 0 0 0 0
  else 0
def trap_Sret6r (a0_X : Nat → Int) (a0_PC : Int) (a0_Level : Int) (a0_V : Bool) (a0_C : Nat → Int) (a0_Done : Int) : Int :=
  bif !legal_Insn1 (fun i0 => a0_X i0) a0_PC a0_Level a0_V (fun i0 => a0_C i0) a0_Done 61 0 0 0 0 0 then legal_Insn0 (fun i0 => a0_X i0) a0_PC a0_Level a0_V (fun i0 => a0_C i0) a0_Done 61 0 0 0 0 0
  else bif a0_V then 0 else 0
def trap_Sret7 (a0_X : Nat → Int) (a0_PC : Int) (a0_Level : Int) (a0_V : Bool) (a0_C : Nat → Int) (a0_Done : Int) : Bool :=
  bif !legal_Insn1 (fun i0 => a0_X i0) a0_PC a0_Level a0_V (fun i0 => a0_C i0) a0_Done 61 0 0 0 0 0 then false else true
def trap_Sret7r (a0_X : Nat → Int) (a0_PC : Int) (a0_Level : Int) (a0_V : Bool) (a0_C : Nat → Int) (a0_Done : Int) : Bool :=
  bif !legal_Insn1 (fun i0 => a0_X i0) a0_PC a0_Level a0_V (fun i0 => a0_C i0) a0_Done 61 0 0 0 0 0 then false else bif a0_V then true else true
def trap_SretG (a0_X : Nat → Int) (a0_PC : Int) (a0_Level : Int) (a0_V : Bool) (a0_C : Nat → Int) (a0_Done : Int) : Bool :=
  bif !legal_Insn1 (fun i0 => a0_X i0) a0_PC a0_Level a0_V (fun i0 => a0_C i0) a0_Done 61 0 0 0 0 0 then true
  else
    bif a0_V then
      trap_kept__backG 22 1 5 (fun i0 => a0_X i0) a0_PC (iConv IntKind.i64 (word_Bits0 (a0_C 22) 8 1)) a0_V (fun i0 => a0_C i0) a0_Done &&
        (csr_PutG (fun i0 => a0_X i0) a0_PC (iConv IntKind.i64 (word_Bits0 (a0_C 22) 8 1)) a0_V
            (fun i0 => trap_kept__back0 22 1 5 (fun i0 => a0_X i0) a0_PC (iConv IntKind.i64 (word_Bits0 (a0_C 22) 8 1)) a0_V (fun i0 => a0_C i0) a0_Done i0) a0_Done 22 8 false &&
          true)
    else
      csr_BitG (fun i0 => a0_X i0) a0_PC a0_Level a0_V (fun i0 => a0_C i0) a0_Done 16 7 &&
        (csr_PutG (fun i0 => a0_X i0) a0_PC a0_Level (csr_Bit0 (fun i0 => a0_X i0) a0_PC a0_Level a0_V (fun i0 => a0_C i0) a0_Done 16 7) (fun i0 => a0_C i0) a0_Done 16 7 false &&
          (trap_kept__backG 0 1 5 (fun i0 => a0_X i0) a0_PC (trap_Sret_c0 a0_X a0_PC a0_Level a0_V a0_C a0_Done) (csr_Bit0 (fun i0 => a0_X i0) a0_PC a0_Level a0_V (fun i0 => a0_C i0) a0_Done 16 7)
              (fun i0 => csr_Put4 (fun i0 => a0_X i0) a0_PC a0_Level (csr_Bit0 (fun i0 => a0_X i0) a0_PC a0_Level a0_V (fun i0 => a0_C i0) a0_Done 16 7) (fun i0 => a0_C i0) a0_Done 16 7 false i0)
              a0_Done &&
            (csr_PutG (fun i0 => a0_X i0) a0_PC (trap_Sret_c0 a0_X a0_PC a0_Level a0_V a0_C a0_Done) (csr_Bit0 (fun i0 => a0_X i0) a0_PC a0_Level a0_V (fun i0 => a0_C i0) a0_Done 16 7)
                (fun i0 =>
                  trap_kept__back0 0 1 5 (fun i0 => a0_X i0) a0_PC (trap_Sret_c0 a0_X a0_PC a0_Level a0_V a0_C a0_Done)
                    (csr_Bit0 (fun i0 => a0_X i0) a0_PC a0_Level a0_V (fun i0 => a0_C i0) a0_Done 16 7)
                    (fun i0 => csr_Put4 (fun i0 => a0_X i0) a0_PC a0_Level (csr_Bit0 (fun i0 => a0_X i0) a0_PC a0_Level a0_V (fun i0 => a0_C i0) a0_Done 16 7) (fun i0 => a0_C i0) a0_Done 16 7 false i0)
                    a0_Done i0)
                a0_Done 0 8 false &&
              true)))
theorem trap_Sret0_eq (a0_X : Nat → Int) (a0_PC : Int) (a0_Level : Int) (a0_V : Bool) (a0_C : Nat → Int) (a0_Done : Int) (i0 : Nat) : trap_Sret0r a0_X a0_PC a0_Level a0_V a0_C a0_Done i0 = a0_X i0 := by
  unfold trap_Sret0r
  first | (simp only [trap_Sret_c0, trap_Sret_c1, trap_Sret_c2, Go.Ev.cS1, Go.Ev.cS2, Go.Ev.cS3, Go.Ev.cS4, Go.Ev.cS6, Go.Ev.cS7]; done) | (simp only [trap_Sret_c0, trap_Sret_c1, trap_Sret_c2, Go.Ev.cS1, Go.Ev.cS2, Go.Ev.cS3, Go.Ev.cS4, Go.Ev.cS6, Go.Ev.cS7]; kernel_rfl)
theorem trap_Sret5_eq (a0_X : Nat → Int) (a0_PC : Int) (a0_Level : Int) (a0_V : Bool) (a0_C : Nat → Int) (a0_Done : Int)  : trap_Sret5r a0_X a0_PC a0_Level a0_V a0_C a0_Done  = a0_Done := by
  unfold trap_Sret5r
  first | (simp only [trap_Sret_c0, trap_Sret_c1, trap_Sret_c2, Go.Ev.cS1, Go.Ev.cS2, Go.Ev.cS3, Go.Ev.cS4, Go.Ev.cS6, Go.Ev.cS7]; done) | (simp only [trap_Sret_c0, trap_Sret_c1, trap_Sret_c2, Go.Ev.cS1, Go.Ev.cS2, Go.Ev.cS3, Go.Ev.cS4, Go.Ev.cS6, Go.Ev.cS7]; kernel_rfl)
theorem trap_Sret6_eq (a0_X : Nat → Int) (a0_PC : Int) (a0_Level : Int) (a0_V : Bool) (a0_C : Nat → Int) (a0_Done : Int)  : trap_Sret6r a0_X a0_PC a0_Level a0_V a0_C a0_Done  = trap_Sret6 a0_X a0_PC a0_Level a0_V a0_C a0_Done  := by
  unfold trap_Sret6r
  first | (simp only [trap_Sret_c0, trap_Sret_c1, trap_Sret_c2, Go.Ev.cS1, Go.Ev.cS2, Go.Ev.cS3, Go.Ev.cS4, Go.Ev.cS6, Go.Ev.cS7]; done) | (simp only [trap_Sret_c0, trap_Sret_c1, trap_Sret_c2, Go.Ev.cS1, Go.Ev.cS2, Go.Ev.cS3, Go.Ev.cS4, Go.Ev.cS6, Go.Ev.cS7]; kernel_rfl)
theorem trap_Sret7_eq (a0_X : Nat → Int) (a0_PC : Int) (a0_Level : Int) (a0_V : Bool) (a0_C : Nat → Int) (a0_Done : Int)  : trap_Sret7r a0_X a0_PC a0_Level a0_V a0_C a0_Done  = trap_Sret7 a0_X a0_PC a0_Level a0_V a0_C a0_Done  := by
  unfold trap_Sret7r
  first | (simp only [trap_Sret_c0, trap_Sret_c1, trap_Sret_c2, Go.Ev.cS1, Go.Ev.cS2, Go.Ev.cS3, Go.Ev.cS4, Go.Ev.cS6, Go.Ev.cS7]; done) | (simp only [trap_Sret_c0, trap_Sret_c1, trap_Sret_c2, Go.Ev.cS1, Go.Ev.cS2, Go.Ev.cS3, Go.Ev.cS4, Go.Ev.cS6, Go.Ev.cS7]; kernel_rfl)
def trap_SretV (a0_X : Nat → Int) (a0_PC : Int) (a0_Level : Int) (a0_V : Bool) (a0_C : Nat → Int) (a0_Done : Int) : AV := .tup [.agg [.arr 32 (.int .u64) fun i0 => .it .u64 (a0_X i0), .it .u64 (trap_Sret1 a0_X a0_PC a0_Level a0_V a0_C a0_Done), .it .i64 (trap_Sret2 a0_X a0_PC a0_Level a0_V a0_C a0_Done), .bl (trap_Sret3 a0_X a0_PC a0_Level a0_V a0_C a0_Done), .arr 29 (.int .u64) fun i0 => .it .u64 (trap_Sret4 a0_X a0_PC a0_Level a0_V a0_C a0_Done i0), .it .u64 (a0_Done)], .it .u64 (trap_Sret6 a0_X a0_PC a0_Level a0_V a0_C a0_Done), .bl (trap_Sret7 a0_X a0_PC a0_Level a0_V a0_C a0_Done)]
def trap_SretVr (a0_X : Nat → Int) (a0_PC : Int) (a0_Level : Int) (a0_V : Bool) (a0_C : Nat → Int) (a0_Done : Int) : AV := .tup [.agg [.arr 32 (.int .u64) fun i0 => .it .u64 (trap_Sret0r a0_X a0_PC a0_Level a0_V a0_C a0_Done i0), .it .u64 (trap_Sret1 a0_X a0_PC a0_Level a0_V a0_C a0_Done), .it .i64 (trap_Sret2 a0_X a0_PC a0_Level a0_V a0_C a0_Done), .bl (trap_Sret3 a0_X a0_PC a0_Level a0_V a0_C a0_Done), .arr 29 (.int .u64) fun i0 => .it .u64 (trap_Sret4 a0_X a0_PC a0_Level a0_V a0_C a0_Done i0), .it .u64 (trap_Sret5r a0_X a0_PC a0_Level a0_V a0_C a0_Done)], .it .u64 (trap_Sret6r a0_X a0_PC a0_Level a0_V a0_C a0_Done), .bl (trap_Sret7r a0_X a0_PC a0_Level a0_V a0_C a0_Done)]
theorem trap_SretV_eq (a0_X : Nat → Int) (a0_PC : Int) (a0_Level : Int) (a0_V : Bool) (a0_C : Nat → Int) (a0_Done : Int) : trap_SretVr a0_X a0_PC a0_Level a0_V a0_C a0_Done = trap_SretV a0_X a0_PC a0_Level a0_V a0_C a0_Done := by
  unfold trap_SretVr trap_SretV
  simp only [trap_Sret0_eq, trap_Sret5_eq, trap_Sret6_eq, trap_Sret7_eq]
theorem trap_SretE (g : Nat → AV) : pcOf Try.prog okT (lookR T11) (inl Try.prog okT (lookR T11) RO FS 100 ST 2) RO NOV 100 false Try.f13 (norms [(.agg [(.arr 32 (.int .u64)), (.int .u64), (.int .i64), .bool, (.arr 29 (.int .u64)), (.int .u64)])] 0 g) = some (trap_SretG (fun i0 => (((g 0).fld 0).ix i0).num) (((g 0).fld 1).num) (((g 0).fld 2).num) (((g 0).fld 3).bool) (fun i0 => (((g 0).fld 4).ix i0).num) (((g 0).fld 5).num), trap_SretV (fun i0 => (((g 0).fld 0).ix i0).num) (((g 0).fld 1).num) (((g 0).fld 2).num) (((g 0).fld 3).bool) (fun i0 => (((g 0).fld 4).ix i0).num) (((g 0).fld 5).num)) :=
  (by kernel_rfl : pcOf Try.prog okT (lookR T11) (inl Try.prog okT (lookR T11) RO FS 100 ST 2) RO NOV 100 false Try.f13 (norms [(.agg [(.arr 32 (.int .u64)), (.int .u64), (.int .i64), .bool, (.arr 29 (.int .u64)), (.int .u64)])] 0 g) = some (trap_SretG (fun i0 => (((g 0).fld 0).ix i0).num) (((g 0).fld 1).num) (((g 0).fld 2).num) (((g 0).fld 3).bool) (fun i0 => (((g 0).fld 4).ix i0).num) (((g 0).fld 5).num), trap_SretVr (fun i0 => (((g 0).fld 0).ix i0).num) (((g 0).fld 1).num) (((g 0).fld 2).num) (((g 0).fld 3).bool) (fun i0 => (((g 0).fld 4).ix i0).num) (((g 0).fld 5).num))).trans (by rw [trap_SretV_eq])
theorem trap_SretP : Plain Try.prog 13 Try.f13 := ⟨Try.func13, of_decide_eq_true (by kernel_rfl)⟩
theorem trap_SretT (a0_X : Nat → Int) (a0_PC : Int) (a0_Level : Int) (a0_V : Bool) (a0_C : Nat → Int) (a0_Done : Int) : trap_SretG a0_X a0_PC a0_Level a0_V a0_C a0_Done = true := by
  unfold trap_SretG
  simp only [put_g _ _ _ _ _ _ _ _ _ (show iIn 0 29 = true from by decide), put_g _ _ _ _ _ _ _ _ _ (show iIn 16 29 = true from by decide), put_g _ _ _ _ _ _ _ _ _ (show iIn 22 29 = true from by decide), bit_g _ _ _ _ _ _ _ _ (show iIn 0 29 = true from by decide), bit_g _ _ _ _ _ _ _ _ (show iIn 16 29 = true from by decide), bit_g _ _ _ _ _ _ _ _ (show iIn 22 29 = true from by decide), keptb_g _ _ _ _ _ _ _ _ _ (show iIn 0 29 = true from by decide), keptb_g _ _ _ _ _ _ _ _ _ (show iIn 22 29 = true from by decide), Bool.and_true, Bool.true_and, Bool.cond_self]
  try simp [Go.Ev.iIn, Go.Ev.iLe]
theorem trap_SretO : RowOk Try.prog 13 (rowF [(.agg [(.arr 32 (.int .u64)), (.int .u64), (.int .i64), .bool, (.arr 29 (.int .u64)), (.int .u64)])] none fun g => trap_SretV (fun i0 => (((g 0).fld 0).ix i0).num) (((g 0).fld 1).num) (((g 0).fld 2).num) (((g 0).fld 3).bool) (fun i0 => (((g 0).fld 4).ix i0).num) (((g 0).fld 5).num)) := rowT_ok fun g => pcOf_ok mix fair T11_ok (inl_ok mix fair T11_ok FS_ok 2) trap_SretP (fun c _ => OvOk_none c) (trap_SretE g) (trap_SretT (fun i0 => (((g 0).fld 0).ix i0).num) (((g 0).fld 1).num) (((g 0).fld 2).num) (((g 0).fld 3).bool) (fun i0 => (((g 0).fld 4).ix i0).num) (((g 0).fld 5).num))
def T13 : List Row := (13, (rowF [(.agg [(.arr 32 (.int .u64)), (.int .u64), (.int .i64), .bool, (.arr 29 (.int .u64)), (.int .u64)])] none fun g => trap_SretV (fun i0 => (((g 0).fld 0).ix i0).num) (((g 0).fld 1).num) (((g 0).fld 2).num) (((g 0).fld 3).bool) (fun i0 => (((g 0).fld 4).ix i0).num) (((g 0).fld 5).num))) :: T11
theorem T13_ok : PSound Try.prog (lookR T13) := lookR_cons trap_SretO T11_ok

/- sallyport/sallyportref16.set -/
def sallyportref16_set0 (a0 : Int) (a1 : Int) (a2 : Bool) : Int :=
  bif a2 then iOr IntKind.u64 a0 (iShl IntKind.u64 1 (iConv IntKind.u64 a1)) else iAndNot IntKind.u64 a0 (iShl IntKind.u64 1 (iConv IntKind.u64 a1))
def sallyportref16_setG (a0 : Int) (a1 : Int) (a2 : Bool) : Bool :=
  bif a2 then true else true
def sallyportref16_setV (a0 : Int) (a1 : Int) (a2 : Bool) : AV := .it .u64 (sallyportref16_set0 a0 a1 a2)
theorem sallyportref16_setE (g : Nat → AV) : pcOf Try.prog okT (lookR T13) (inl Try.prog okT (lookR T13) RO FS 100 ST 2) RO NOV 100 false Try.f26 (norms [(.int .u64), (.int .i64), .bool] 0 g) = some (sallyportref16_setG ((g 0).num) ((g 1).num) ((g 2).bool), sallyportref16_setV ((g 0).num) ((g 1).num) ((g 2).bool)) := by kernel_rfl
theorem sallyportref16_setP : Plain Try.prog 26 Try.f26 := ⟨Try.func26, of_decide_eq_true (by kernel_rfl)⟩
theorem sallyportref16_setT (a0 : Int) (a1 : Int) (a2 : Bool) : sallyportref16_setG a0 a1 a2 = true := by
  unfold sallyportref16_setG
  simp only [Go.Ev.cS1, Go.Ev.cS2, Go.Ev.cS3, Go.Ev.cS4, Go.Ev.cS6, Go.Ev.cS7]
theorem sallyportref16_setO : RowOk Try.prog 26 (rowF [(.int .u64), (.int .i64), .bool] none fun g => sallyportref16_setV ((g 0).num) ((g 1).num) ((g 2).bool)) := rowT_ok fun g => pcOf_ok mix fair T13_ok (inl_ok mix fair T13_ok FS_ok 2) sallyportref16_setP (fun c _ => OvOk_none c) (sallyportref16_setE g) (sallyportref16_setT ((g 0).num) ((g 1).num) ((g 2).bool))
def T26 : List Row := (26, (rowF [(.int .u64), (.int .i64), .bool] none fun g => sallyportref16_setV ((g 0).num) ((g 1).num) ((g 2).bool))) :: T13
theorem T26_ok : PSound Try.prog (lookR T26) := lookR_cons sallyportref16_setO T13_ok

/- sallyport/sallyportref16.Enter -/
def sallyportref16_Enter_c0 (a0_X : Nat → Int) (a0_PC : Int) (a0_Level : Int) (a0_V : Bool) (a0_C : Nat → Int) (a0_Done : Int) (a1_Cause : Int) (a1_Value : Int) (a1_Place : Int) (a1_GVA : Bool) (a2 : Int) (a3 : Bool) : Int :=
  sallyportref16_set0 (sallyportref16_set0 (iOr IntKind.u64 (iAndNot IntKind.u64 (a0_C 0) 6144) (iShl IntKind.u64 (iConv IntKind.u64 (iAnd IntKind.i64 a0_Level 3)) 11)) 39 a0_V) 38 a1_GVA
def sallyportref16_Enter0r (a0_X : Nat → Int) (a0_PC : Int) (a0_Level : Int) (a0_V : Bool) (a0_C : Nat → Int) (a0_Done : Int) (a1_Cause : Int) (a1_Value : Int) (a1_Place : Int) (a1_GVA : Bool) (a2 : Int) (a3 : Bool) : Nat → Int :=
  fun i0 => bif bif iEq a2 3 then !a3 else false then a0_X i0 else bif bif iEq a2 1 then !a3 else false then bif a0_V then a0_X i0 else a0_X i0 else bif bif iEq a2 1 then a0_V else false then a0_X i0 else a0_X i0
def sallyportref16_Enter1 (a0_X : Nat → Int) (a0_PC : Int) (a0_Level : Int) (a0_V : Bool) (a0_C : Nat → Int) (a0_Done : Int) (a1_Cause : Int) (a1_Value : Int) (a1_Place : Int) (a1_GVA : Bool) (a2 : Int) (a3 : Bool) : Int :=
  bif bif iEq a2 3 then !a3 else false then a0_C 4 else bif bif iEq a2 1 then !a3 else false then a0_C 10 else bif bif iEq a2 1 then a0_V else false then a0_C 23 else a0_PC
def sallyportref16_Enter1r (a0_X : Nat → Int) (a0_PC : Int) (a0_Level : Int) (a0_V : Bool) (a0_C : Nat → Int) (a0_Done : Int) (a1_Cause : Int) (a1_Value : Int) (a1_Place : Int) (a1_GVA : Bool) (a2 : Int) (a3 : Bool) : Int :=
  bif bif iEq a2 3 then !a3 else false then a0_C 4 else bif bif iEq a2 1 then !a3 else false then bif a0_V then a0_C 10 else a0_C 10 else bif bif iEq a2 1 then a0_V else false then a0_C 23 else a0_PC
def sallyportref16_Enter2 (a0_X : Nat → Int) (a0_PC : Int) (a0_Level : Int) (a0_V : Bool) (a0_C : Nat → Int) (a0_Done : Int) (a1_Cause : Int) (a1_Value : Int) (a1_Place : Int) (a1_GVA : Bool) (a2 : Int) (a3 : Bool) : Int :=
  bif bif iEq a2 3 then !a3 else false then a2 else bif bif iEq a2 1 then !a3 else false then a2 else bif bif iEq a2 1 then a0_V else false then a2 else a0_Level
def sallyportref16_Enter2r (a0_X : Nat → Int) (a0_PC : Int) (a0_Level : Int) (a0_V : Bool) (a0_C : Nat → Int) (a0_Done : Int) (a1_Cause : Int) (a1_Value : Int) (a1_Place : Int) (a1_GVA : Bool) (a2 : Int) (a3 : Bool) : Int :=
  bif bif iEq a2 3 then !a3 else false then a2 else bif bif iEq a2 1 then !a3 else false then bif a0_V then a2 else a2 else bif bif iEq a2 1 then a0_V else false then a2 else a0_Level
def sallyportref16_Enter3 (a0_X : Nat → Int) (a0_PC : Int) (a0_Level : Int) (a0_V : Bool) (a0_C : Nat → Int) (a0_Done : Int) (a1_Cause : Int) (a1_Value : Int) (a1_Place : Int) (a1_GVA : Bool) (a2 : Int) (a3 : Bool) : Bool :=
  bif bif iEq a2 3 then !a3 else false then false else bif bif iEq a2 1 then !a3 else false then false else a0_V
def sallyportref16_Enter3r (a0_X : Nat → Int) (a0_PC : Int) (a0_Level : Int) (a0_V : Bool) (a0_C : Nat → Int) (a0_Done : Int) (a1_Cause : Int) (a1_Value : Int) (a1_Place : Int) (a1_GVA : Bool) (a2 : Int) (a3 : Bool) : Bool :=
  bif bif iEq a2 3 then !a3 else false then false else bif bif iEq a2 1 then !a3 else false then bif a0_V then false else false else bif bif iEq a2 1 then a0_V else false then a0_V else a0_V
def sallyportref16_Enter4 (a0_X : Nat → Int) (a0_PC : Int) (a0_Level : Int) (a0_V : Bool) (a0_C : Nat → Int) (a0_Done : Int) (a1_Cause : Int) (a1_Value : Int) (a1_Place : Int) (a1_GVA : Bool) (a2 : Int) (a3 : Bool) : Nat → Int :=
  fun i0 => bif bif iEq a2 3 then !a3 else false then
    bif i0 == 0 then
      sallyportref16_set0
        (sallyportref16_set0 (sallyportref16_Enter_c0 a0_X a0_PC a0_Level a0_V a0_C a0_Done a1_Cause a1_Value a1_Place a1_GVA a2 a3) 7
          (iEq (iAnd IntKind.u64 (iShr IntKind.u64 (sallyportref16_Enter_c0 a0_X a0_PC a0_Level a0_V a0_C a0_Done a1_Cause a1_Value a1_Place a1_GVA a2 a3) 3) 1) 1))
        3 false
    else bif i0 == 9 then a1_Place else bif i0 == 8 then a1_Value else bif i0 == 7 then a1_Cause else bif i0 == 6 then a0_PC else a0_C i0
  else
    bif bif iEq a2 1 then !a3 else false then
      bif a0_V then
        bif i0 == 16 then sallyportref16_set0 (sallyportref16_set0 (sallyportref16_set0 (a0_C 16) 7 a0_V) 6 a1_GVA) 8 (iEq (iAnd IntKind.i64 a0_Level 1) 1)
        else
          bif i0 == 0 then
            sallyportref16_set0
              (sallyportref16_set0 (sallyportref16_set0 (a0_C 0) 8 (iEq (iAnd IntKind.i64 a0_Level 1) 1)) 5
                (iEq (iAnd IntKind.u64 (iShr IntKind.u64 (sallyportref16_set0 (a0_C 0) 8 (iEq (iAnd IntKind.i64 a0_Level 1) 1)) 1) 1) 1))
              1 false
          else bif i0 == 20 then a1_Place else bif i0 == 14 then a1_Value else bif i0 == 13 then a1_Cause else bif i0 == 12 then a0_PC else a0_C i0
      else
        bif i0 == 16 then sallyportref16_set0 (sallyportref16_set0 (a0_C 16) 7 a0_V) 6 a1_GVA
        else
          bif i0 == 0 then
            sallyportref16_set0
              (sallyportref16_set0 (sallyportref16_set0 (a0_C 0) 8 (iEq (iAnd IntKind.i64 a0_Level 1) 1)) 5
                (iEq (iAnd IntKind.u64 (iShr IntKind.u64 (sallyportref16_set0 (a0_C 0) 8 (iEq (iAnd IntKind.i64 a0_Level 1) 1)) 1) 1) 1))
              1 false
          else bif i0 == 20 then a1_Place else bif i0 == 14 then a1_Value else bif i0 == 13 then a1_Cause else bif i0 == 12 then a0_PC else a0_C i0
    else
      bif bif iEq a2 1 then a0_V else false then
        bif i0 == 22 then
          sallyportref16_set0
            (sallyportref16_set0 (sallyportref16_set0 (a0_C 22) 8 (iEq (iAnd IntKind.i64 a0_Level 1) 1)) 5
              (iEq (iAnd IntKind.u64 (iShr IntKind.u64 (sallyportref16_set0 (a0_C 22) 8 (iEq (iAnd IntKind.i64 a0_Level 1) 1)) 1) 1) 1))
            1 false
        else bif i0 == 27 then a1_Value else bif i0 == 26 then a1_Cause else bif i0 == 25 then a0_PC else a0_C i0
      else a0_C i0
def sallyportref16_Enter5r (a0_X : Nat → Int) (a0_PC : Int) (a0_Level : Int) (a0_V : Bool) (a0_C : Nat → Int) (a0_Done : Int) (a1_Cause : Int) (a1_Value : Int) (a1_Place : Int) (a1_GVA : Bool) (a2 : Int) (a3 : Bool) : Int :=
  bif bif iEq a2 3 then !a3 else false then a0_Done else bif bif iEq a2 1 then !a3 else false then bif a0_V then a0_Done else a0_Done else bif bif iEq a2 1 then a0_V else false then a0_Done else a0_Done
def sallyportref16_EnterG (a0_X : Nat → Int) (a0_PC : Int) (a0_Level : Int) (a0_V : Bool) (a0_C : Nat → Int) (a0_Done : Int) (a1_Cause : Int) (a1_Value : Int) (a1_Place : Int) (a1_GVA : Bool) (a2 : Int) (a3 : Bool) : Bool :=
  bif bif iEq a2 3 then !a3 else false then true else bif bif iEq a2 1 then !a3 else false then bif a0_V then true else true else bif bif iEq a2 1 then a0_V else false then true else true
theorem sallyportref16_Enter0_eq (a0_X : Nat → Int) (a0_PC : Int) (a0_Level : Int) (a0_V : Bool) (a0_C : Nat → Int) (a0_Done : Int) (a1_Cause : Int) (a1_Value : Int) (a1_Place : Int) (a1_GVA : Bool) (a2 : Int) (a3 : Bool) (i0 : Nat) : sallyportref16_Enter0r a0_X a0_PC a0_Level a0_V a0_C a0_Done a1_Cause a1_Value a1_Place a1_GVA a2 a3 i0 = a0_X i0 := by
  unfold sallyportref16_Enter0r
  first | (simp only [sallyportref16_Enter_c0, Go.Ev.cS1, Go.Ev.cS2, Go.Ev.cS3, Go.Ev.cS4, Go.Ev.cS6, Go.Ev.cS7]; done) | (simp only [sallyportref16_Enter_c0, Go.Ev.cS1, Go.Ev.cS2, Go.Ev.cS3, Go.Ev.cS4, Go.Ev.cS6, Go.Ev.cS7]; kernel_rfl)
theorem sallyportref16_Enter1_eq (a0_X : Nat → Int) (a0_PC : Int) (a0_Level : Int) (a0_V : Bool) (a0_C : Nat → Int) (a0_Done : Int) (a1_Cause : Int) (a1_Value : Int) (a1_Place : Int) (a1_GVA : Bool) (a2 : Int) (a3 : Bool)  : sallyportref16_Enter1r a0_X a0_PC a0_Level a0_V a0_C a0_Done a1_Cause a1_Value a1_Place a1_GVA a2 a3  = sallyportref16_Enter1 a0_X a0_PC a0_Level a0_V a0_C a0_Done a1_Cause a1_Value a1_Place a1_GVA a2 a3  := by
  unfold sallyportref16_Enter1r
  first | (simp only [sallyportref16_Enter_c0, Go.Ev.cS1, Go.Ev.cS2, Go.Ev.cS3, Go.Ev.cS4, Go.Ev.cS6, Go.Ev.cS7]; done) | (simp only [sallyportref16_Enter_c0, Go.Ev.cS1, Go.Ev.cS2, Go.Ev.cS3, Go.Ev.cS4, Go.Ev.cS6, Go.Ev.cS7]; kernel_rfl)
theorem sallyportref16_Enter2_eq (a0_X : Nat → Int) (a0_PC : Int) (a0_Level : Int) (a0_V : Bool) (a0_C : Nat → Int) (a0_Done : Int) (a1_Cause : Int) (a1_Value : Int) (a1_Place : Int) (a1_GVA : Bool) (a2 : Int) (a3 : Bool)  : sallyportref16_Enter2r a0_X a0_PC a0_Level a0_V a0_C a0_Done a1_Cause a1_Value a1_Place a1_GVA a2 a3  = sallyportref16_Enter2 a0_X a0_PC a0_Level a0_V a0_C a0_Done a1_Cause a1_Value a1_Place a1_GVA a2 a3  := by
  unfold sallyportref16_Enter2r
  first | (simp only [sallyportref16_Enter_c0, Go.Ev.cS1, Go.Ev.cS2, Go.Ev.cS3, Go.Ev.cS4, Go.Ev.cS6, Go.Ev.cS7]; done) | (simp only [sallyportref16_Enter_c0, Go.Ev.cS1, Go.Ev.cS2, Go.Ev.cS3, Go.Ev.cS4, Go.Ev.cS6, Go.Ev.cS7]; kernel_rfl)
theorem sallyportref16_Enter3_eq (a0_X : Nat → Int) (a0_PC : Int) (a0_Level : Int) (a0_V : Bool) (a0_C : Nat → Int) (a0_Done : Int) (a1_Cause : Int) (a1_Value : Int) (a1_Place : Int) (a1_GVA : Bool) (a2 : Int) (a3 : Bool)  : sallyportref16_Enter3r a0_X a0_PC a0_Level a0_V a0_C a0_Done a1_Cause a1_Value a1_Place a1_GVA a2 a3  = sallyportref16_Enter3 a0_X a0_PC a0_Level a0_V a0_C a0_Done a1_Cause a1_Value a1_Place a1_GVA a2 a3  := by
  unfold sallyportref16_Enter3r
  first | (simp only [sallyportref16_Enter_c0, Go.Ev.cS1, Go.Ev.cS2, Go.Ev.cS3, Go.Ev.cS4, Go.Ev.cS6, Go.Ev.cS7]; done) | (simp only [sallyportref16_Enter_c0, Go.Ev.cS1, Go.Ev.cS2, Go.Ev.cS3, Go.Ev.cS4, Go.Ev.cS6, Go.Ev.cS7]; kernel_rfl)
theorem sallyportref16_Enter5_eq (a0_X : Nat → Int) (a0_PC : Int) (a0_Level : Int) (a0_V : Bool) (a0_C : Nat → Int) (a0_Done : Int) (a1_Cause : Int) (a1_Value : Int) (a1_Place : Int) (a1_GVA : Bool) (a2 : Int) (a3 : Bool)  : sallyportref16_Enter5r a0_X a0_PC a0_Level a0_V a0_C a0_Done a1_Cause a1_Value a1_Place a1_GVA a2 a3  = a0_Done := by
  unfold sallyportref16_Enter5r
  first | (simp only [sallyportref16_Enter_c0, Go.Ev.cS1, Go.Ev.cS2, Go.Ev.cS3, Go.Ev.cS4, Go.Ev.cS6, Go.Ev.cS7]; done) | (simp only [sallyportref16_Enter_c0, Go.Ev.cS1, Go.Ev.cS2, Go.Ev.cS3, Go.Ev.cS4, Go.Ev.cS6, Go.Ev.cS7]; kernel_rfl)
def sallyportref16_EnterV (a0_X : Nat → Int) (a0_PC : Int) (a0_Level : Int) (a0_V : Bool) (a0_C : Nat → Int) (a0_Done : Int) (a1_Cause : Int) (a1_Value : Int) (a1_Place : Int) (a1_GVA : Bool) (a2 : Int) (a3 : Bool) : AV := .agg [.arr 32 (.int .u64) fun i0 => .it .u64 (a0_X i0), .it .u64 (sallyportref16_Enter1 a0_X a0_PC a0_Level a0_V a0_C a0_Done a1_Cause a1_Value a1_Place a1_GVA a2 a3), .it .i64 (sallyportref16_Enter2 a0_X a0_PC a0_Level a0_V a0_C a0_Done a1_Cause a1_Value a1_Place a1_GVA a2 a3), .bl (sallyportref16_Enter3 a0_X a0_PC a0_Level a0_V a0_C a0_Done a1_Cause a1_Value a1_Place a1_GVA a2 a3), .arr 29 (.int .u64) fun i0 => .it .u64 (sallyportref16_Enter4 a0_X a0_PC a0_Level a0_V a0_C a0_Done a1_Cause a1_Value a1_Place a1_GVA a2 a3 i0), .it .u64 (a0_Done)]
def sallyportref16_EnterVr (a0_X : Nat → Int) (a0_PC : Int) (a0_Level : Int) (a0_V : Bool) (a0_C : Nat → Int) (a0_Done : Int) (a1_Cause : Int) (a1_Value : Int) (a1_Place : Int) (a1_GVA : Bool) (a2 : Int) (a3 : Bool) : AV := .agg [.arr 32 (.int .u64) fun i0 => .it .u64 (sallyportref16_Enter0r a0_X a0_PC a0_Level a0_V a0_C a0_Done a1_Cause a1_Value a1_Place a1_GVA a2 a3 i0), .it .u64 (sallyportref16_Enter1r a0_X a0_PC a0_Level a0_V a0_C a0_Done a1_Cause a1_Value a1_Place a1_GVA a2 a3), .it .i64 (sallyportref16_Enter2r a0_X a0_PC a0_Level a0_V a0_C a0_Done a1_Cause a1_Value a1_Place a1_GVA a2 a3), .bl (sallyportref16_Enter3r a0_X a0_PC a0_Level a0_V a0_C a0_Done a1_Cause a1_Value a1_Place a1_GVA a2 a3), .arr 29 (.int .u64) fun i0 => .it .u64 (sallyportref16_Enter4 a0_X a0_PC a0_Level a0_V a0_C a0_Done a1_Cause a1_Value a1_Place a1_GVA a2 a3 i0), .it .u64 (sallyportref16_Enter5r a0_X a0_PC a0_Level a0_V a0_C a0_Done a1_Cause a1_Value a1_Place a1_GVA a2 a3)]
theorem sallyportref16_EnterV_eq (a0_X : Nat → Int) (a0_PC : Int) (a0_Level : Int) (a0_V : Bool) (a0_C : Nat → Int) (a0_Done : Int) (a1_Cause : Int) (a1_Value : Int) (a1_Place : Int) (a1_GVA : Bool) (a2 : Int) (a3 : Bool) : sallyportref16_EnterVr a0_X a0_PC a0_Level a0_V a0_C a0_Done a1_Cause a1_Value a1_Place a1_GVA a2 a3 = sallyportref16_EnterV a0_X a0_PC a0_Level a0_V a0_C a0_Done a1_Cause a1_Value a1_Place a1_GVA a2 a3 := by
  unfold sallyportref16_EnterVr sallyportref16_EnterV
  simp only [sallyportref16_Enter0_eq, sallyportref16_Enter1_eq, sallyportref16_Enter2_eq, sallyportref16_Enter3_eq, sallyportref16_Enter5_eq]
theorem sallyportref16_EnterE (g : Nat → AV) : pcOf Try.prog okT (lookR T26) (inl Try.prog okT (lookR T26) RO FS 100 ST 2) RO NOV 100 false Try.f16 (norms [(.agg [(.arr 32 (.int .u64)), (.int .u64), (.int .i64), .bool, (.arr 29 (.int .u64)), (.int .u64)]), (.agg [(.int .u64), (.int .u64), (.int .u64), .bool]), (.int .i64), .bool] 0 g) = some (sallyportref16_EnterG (fun i0 => (((g 0).fld 0).ix i0).num) (((g 0).fld 1).num) (((g 0).fld 2).num) (((g 0).fld 3).bool) (fun i0 => (((g 0).fld 4).ix i0).num) (((g 0).fld 5).num) (((g 1).fld 0).num) (((g 1).fld 1).num) (((g 1).fld 2).num) (((g 1).fld 3).bool) ((g 2).num) ((g 3).bool), sallyportref16_EnterV (fun i0 => (((g 0).fld 0).ix i0).num) (((g 0).fld 1).num) (((g 0).fld 2).num) (((g 0).fld 3).bool) (fun i0 => (((g 0).fld 4).ix i0).num) (((g 0).fld 5).num) (((g 1).fld 0).num) (((g 1).fld 1).num) (((g 1).fld 2).num) (((g 1).fld 3).bool) ((g 2).num) ((g 3).bool)) :=
  (by kernel_rfl : pcOf Try.prog okT (lookR T26) (inl Try.prog okT (lookR T26) RO FS 100 ST 2) RO NOV 100 false Try.f16 (norms [(.agg [(.arr 32 (.int .u64)), (.int .u64), (.int .i64), .bool, (.arr 29 (.int .u64)), (.int .u64)]), (.agg [(.int .u64), (.int .u64), (.int .u64), .bool]), (.int .i64), .bool] 0 g) = some (sallyportref16_EnterG (fun i0 => (((g 0).fld 0).ix i0).num) (((g 0).fld 1).num) (((g 0).fld 2).num) (((g 0).fld 3).bool) (fun i0 => (((g 0).fld 4).ix i0).num) (((g 0).fld 5).num) (((g 1).fld 0).num) (((g 1).fld 1).num) (((g 1).fld 2).num) (((g 1).fld 3).bool) ((g 2).num) ((g 3).bool), sallyportref16_EnterVr (fun i0 => (((g 0).fld 0).ix i0).num) (((g 0).fld 1).num) (((g 0).fld 2).num) (((g 0).fld 3).bool) (fun i0 => (((g 0).fld 4).ix i0).num) (((g 0).fld 5).num) (((g 1).fld 0).num) (((g 1).fld 1).num) (((g 1).fld 2).num) (((g 1).fld 3).bool) ((g 2).num) ((g 3).bool))).trans (by rw [sallyportref16_EnterV_eq])
theorem sallyportref16_EnterP : Plain Try.prog 16 Try.f16 := ⟨Try.func16, of_decide_eq_true (by kernel_rfl)⟩
theorem sallyportref16_EnterT (a0_X : Nat → Int) (a0_PC : Int) (a0_Level : Int) (a0_V : Bool) (a0_C : Nat → Int) (a0_Done : Int) (a1_Cause : Int) (a1_Value : Int) (a1_Place : Int) (a1_GVA : Bool) (a2 : Int) (a3 : Bool) : sallyportref16_EnterG a0_X a0_PC a0_Level a0_V a0_C a0_Done a1_Cause a1_Value a1_Place a1_GVA a2 a3 = true := by
  unfold sallyportref16_EnterG
  simp only [sallyportref16_Enter_c0, Go.Ev.cS1, Go.Ev.cS2, Go.Ev.cS3, Go.Ev.cS4, Go.Ev.cS6, Go.Ev.cS7]
theorem sallyportref16_EnterO : RowOk Try.prog 16 (rowF [(.agg [(.arr 32 (.int .u64)), (.int .u64), (.int .i64), .bool, (.arr 29 (.int .u64)), (.int .u64)]), (.agg [(.int .u64), (.int .u64), (.int .u64), .bool]), (.int .i64), .bool] none fun g => sallyportref16_EnterV (fun i0 => (((g 0).fld 0).ix i0).num) (((g 0).fld 1).num) (((g 0).fld 2).num) (((g 0).fld 3).bool) (fun i0 => (((g 0).fld 4).ix i0).num) (((g 0).fld 5).num) (((g 1).fld 0).num) (((g 1).fld 1).num) (((g 1).fld 2).num) (((g 1).fld 3).bool) ((g 2).num) ((g 3).bool)) := rowT_ok fun g => pcOf_ok mix fair T26_ok (inl_ok mix fair T26_ok FS_ok 2) sallyportref16_EnterP (fun c _ => OvOk_none c) (sallyportref16_EnterE g) (sallyportref16_EnterT (fun i0 => (((g 0).fld 0).ix i0).num) (((g 0).fld 1).num) (((g 0).fld 2).num) (((g 0).fld 3).bool) (fun i0 => (((g 0).fld 4).ix i0).num) (((g 0).fld 5).num) (((g 1).fld 0).num) (((g 1).fld 1).num) (((g 1).fld 2).num) (((g 1).fld 3).bool) ((g 2).num) ((g 3).bool))
def T16 : List Row := (16, (rowF [(.agg [(.arr 32 (.int .u64)), (.int .u64), (.int .i64), .bool, (.arr 29 (.int .u64)), (.int .u64)]), (.agg [(.int .u64), (.int .u64), (.int .u64), .bool]), (.int .i64), .bool] none fun g => sallyportref16_EnterV (fun i0 => (((g 0).fld 0).ix i0).num) (((g 0).fld 1).num) (((g 0).fld 2).num) (((g 0).fld 3).bool) (fun i0 => (((g 0).fld 4).ix i0).num) (((g 0).fld 5).num) (((g 1).fld 0).num) (((g 1).fld 1).num) (((g 1).fld 2).num) (((g 1).fld 3).bool) ((g 2).num) ((g 3).bool))) :: T26
theorem T16_ok : PSound Try.prog (lookR T16) := lookR_cons sallyportref16_EnterO T26_ok

/- sallyport/sallyportref16.Mret -/
def sallyportref16_Mret0r (a0_X : Nat → Int) (a0_PC : Int) (a0_Level : Int) (a0_V : Bool) (a0_C : Nat → Int) (a0_Done : Int) : Nat → Int :=
  fun i0 => bif !sallyportref8_Insn1 (fun i0 => a0_X i0) a0_PC a0_Level a0_V (fun i0 => a0_C i0) a0_Done 60 0 0 0 0 0 then a0_X i0 else a0_X i0
def sallyportref16_Mret1 (a0_X : Nat → Int) (a0_PC : Int) (a0_Level : Int) (a0_V : Bool) (a0_C : Nat → Int) (a0_Done : Int) : Int :=
  bif !sallyportref8_Insn1 (fun i0 => a0_X i0) a0_PC a0_Level a0_V (fun i0 => a0_C i0) a0_Done 60 0 0 0 0 0 then a0_PC else a0_C 6
def sallyportref16_Mret2 (a0_X : Nat → Int) (a0_PC : Int) (a0_Level : Int) (a0_V : Bool) (a0_C : Nat → Int) (a0_Done : Int) : Int :=
  bif !sallyportref8_Insn1 (fun i0 => a0_X i0) a0_PC a0_Level a0_V (fun i0 => a0_C i0) a0_Done 60 0 0 0 0 0 then a0_Level else iConv IntKind.i64 (iAnd IntKind.u64 (iShr IntKind.u64 (a0_C 0) 11) 3)
def sallyportref16_Mret3 (a0_X : Nat → Int) (a0_PC : Int) (a0_Level : Int) (a0_V : Bool) (a0_C : Nat → Int) (a0_Done : Int) : Bool :=
  bif !sallyportref8_Insn1 (fun i0 => a0_X i0) a0_PC a0_Level a0_V (fun i0 => a0_C i0) a0_Done 60 0 0 0 0 0 then a0_V
  else bif iEq (iAnd IntKind.u64 (iShr IntKind.u64 (a0_C 0) 39) 1) 1 then iNe (iConv IntKind.i64 (iAnd IntKind.u64 (iShr IntKind.u64 (a0_C 0) 11) 3)) 3 else false
def sallyportref16_Mret4 (a0_X : Nat → Int) (a0_PC : Int) (a0_Level : Int) (a0_V : Bool) (a0_C : Nat → Int) (a0_Done : Int) : Nat → Int :=
  fun i0 => bif !sallyportref8_Insn1 (fun i0 => a0_X i0) a0_PC a0_Level a0_V (fun i0 => a0_C i0) a0_Done 60 0 0 0 0 0 then a0_C i0
  else
    bif i0 == 0 then sallyportref16_set0 (iAndNot IntKind.u64 (sallyportref16_set0 (sallyportref16_set0 (a0_C 0) 3 (iEq (iAnd IntKind.u64 (iShr IntKind.u64 (a0_C 0) 7) 1) 1)) 7 true) 6144) 39 false
    else a0_C i0
def sallyportref16_Mret5r (a0_X : Nat → Int) (a0_PC : Int) (a0_Level : Int) (a0_V : Bool) (a0_C : Nat → Int) (a0_Done : Int) : Int :=
  bif !sallyportref8_Insn1 (fun i0 => a0_X i0) a0_PC a0_Level a0_V (fun i0 => a0_C i0) a0_Done 60 0 0 0 0 0 then a0_Done else a0_Done
def sallyportref16_Mret6 (a0_X : Nat → Int) (a0_PC : Int) (a0_Level : Int) (a0_V : Bool) (a0_C : Nat → Int) (a0_Done : Int) : Int :=
  bif !sallyportref8_Insn1 (fun i0 => a0_X i0) a0_PC a0_Level a0_V (fun i0 => a0_C i0) a0_Done 60 0 0 0 0 0 then
    sallyportref8_Insn0 (fun i0 => a0_X i0) a0_PC a0_Level a0_V (fun i0 => a0_C i0) a0_Done 60 0 0 0 0 0
  else 0
def sallyportref16_Mret7 (a0_X : Nat → Int) (a0_PC : Int) (a0_Level : Int) (a0_V : Bool) (a0_C : Nat → Int) (a0_Done : Int) : Bool :=
  bif !sallyportref8_Insn1 (fun i0 => a0_X i0) a0_PC a0_Level a0_V (fun i0 => a0_C i0) a0_Done 60 0 0 0 0 0 then false else true
def sallyportref16_MretG (a0_X : Nat → Int) (a0_PC : Int) (a0_Level : Int) (a0_V : Bool) (a0_C : Nat → Int) (a0_Done : Int) : Bool :=
  bif !sallyportref8_Insn1 (fun i0 => a0_X i0) a0_PC a0_Level a0_V (fun i0 => a0_C i0) a0_Done 60 0 0 0 0 0 then true else true
theorem sallyportref16_Mret0_eq (a0_X : Nat → Int) (a0_PC : Int) (a0_Level : Int) (a0_V : Bool) (a0_C : Nat → Int) (a0_Done : Int) (i0 : Nat) : sallyportref16_Mret0r a0_X a0_PC a0_Level a0_V a0_C a0_Done i0 = a0_X i0 := by
  unfold sallyportref16_Mret0r
  first | (simp only [Go.Ev.cS1, Go.Ev.cS2, Go.Ev.cS3, Go.Ev.cS4, Go.Ev.cS6, Go.Ev.cS7]; done) | (simp only [Go.Ev.cS1, Go.Ev.cS2, Go.Ev.cS3, Go.Ev.cS4, Go.Ev.cS6, Go.Ev.cS7]; kernel_rfl)
theorem sallyportref16_Mret5_eq (a0_X : Nat → Int) (a0_PC : Int) (a0_Level : Int) (a0_V : Bool) (a0_C : Nat → Int) (a0_Done : Int)  : sallyportref16_Mret5r a0_X a0_PC a0_Level a0_V a0_C a0_Done  = a0_Done := by
  unfold sallyportref16_Mret5r
  first | (simp only [Go.Ev.cS1, Go.Ev.cS2, Go.Ev.cS3, Go.Ev.cS4, Go.Ev.cS6, Go.Ev.cS7]; done) | (simp only [Go.Ev.cS1, Go.Ev.cS2, Go.Ev.cS3, Go.Ev.cS4, Go.Ev.cS6, Go.Ev.cS7]; kernel_rfl)
def sallyportref16_MretV (a0_X : Nat → Int) (a0_PC : Int) (a0_Level : Int) (a0_V : Bool) (a0_C : Nat → Int) (a0_Done : Int) : AV := .tup [.agg [.arr 32 (.int .u64) fun i0 => .it .u64 (a0_X i0), .it .u64 (sallyportref16_Mret1 a0_X a0_PC a0_Level a0_V a0_C a0_Done), .it .i64 (sallyportref16_Mret2 a0_X a0_PC a0_Level a0_V a0_C a0_Done), .bl (sallyportref16_Mret3 a0_X a0_PC a0_Level a0_V a0_C a0_Done), .arr 29 (.int .u64) fun i0 => .it .u64 (sallyportref16_Mret4 a0_X a0_PC a0_Level a0_V a0_C a0_Done i0), .it .u64 (a0_Done)], .it .u64 (sallyportref16_Mret6 a0_X a0_PC a0_Level a0_V a0_C a0_Done), .bl (sallyportref16_Mret7 a0_X a0_PC a0_Level a0_V a0_C a0_Done)]
def sallyportref16_MretVr (a0_X : Nat → Int) (a0_PC : Int) (a0_Level : Int) (a0_V : Bool) (a0_C : Nat → Int) (a0_Done : Int) : AV := .tup [.agg [.arr 32 (.int .u64) fun i0 => .it .u64 (sallyportref16_Mret0r a0_X a0_PC a0_Level a0_V a0_C a0_Done i0), .it .u64 (sallyportref16_Mret1 a0_X a0_PC a0_Level a0_V a0_C a0_Done), .it .i64 (sallyportref16_Mret2 a0_X a0_PC a0_Level a0_V a0_C a0_Done), .bl (sallyportref16_Mret3 a0_X a0_PC a0_Level a0_V a0_C a0_Done), .arr 29 (.int .u64) fun i0 => .it .u64 (sallyportref16_Mret4 a0_X a0_PC a0_Level a0_V a0_C a0_Done i0), .it .u64 (sallyportref16_Mret5r a0_X a0_PC a0_Level a0_V a0_C a0_Done)], .it .u64 (sallyportref16_Mret6 a0_X a0_PC a0_Level a0_V a0_C a0_Done), .bl (sallyportref16_Mret7 a0_X a0_PC a0_Level a0_V a0_C a0_Done)]
theorem sallyportref16_MretV_eq (a0_X : Nat → Int) (a0_PC : Int) (a0_Level : Int) (a0_V : Bool) (a0_C : Nat → Int) (a0_Done : Int) : sallyportref16_MretVr a0_X a0_PC a0_Level a0_V a0_C a0_Done = sallyportref16_MretV a0_X a0_PC a0_Level a0_V a0_C a0_Done := by
  unfold sallyportref16_MretVr sallyportref16_MretV
  simp only [sallyportref16_Mret0_eq, sallyportref16_Mret5_eq]
theorem sallyportref16_MretE (g : Nat → AV) : pcOf Try.prog okT (lookR T16) (inl Try.prog okT (lookR T16) RO FS 100 ST 2) RO NOV 100 false Try.f12 (norms [(.agg [(.arr 32 (.int .u64)), (.int .u64), (.int .i64), .bool, (.arr 29 (.int .u64)), (.int .u64)])] 0 g) = some (sallyportref16_MretG (fun i0 => (((g 0).fld 0).ix i0).num) (((g 0).fld 1).num) (((g 0).fld 2).num) (((g 0).fld 3).bool) (fun i0 => (((g 0).fld 4).ix i0).num) (((g 0).fld 5).num), sallyportref16_MretV (fun i0 => (((g 0).fld 0).ix i0).num) (((g 0).fld 1).num) (((g 0).fld 2).num) (((g 0).fld 3).bool) (fun i0 => (((g 0).fld 4).ix i0).num) (((g 0).fld 5).num)) :=
  (by kernel_rfl : pcOf Try.prog okT (lookR T16) (inl Try.prog okT (lookR T16) RO FS 100 ST 2) RO NOV 100 false Try.f12 (norms [(.agg [(.arr 32 (.int .u64)), (.int .u64), (.int .i64), .bool, (.arr 29 (.int .u64)), (.int .u64)])] 0 g) = some (sallyportref16_MretG (fun i0 => (((g 0).fld 0).ix i0).num) (((g 0).fld 1).num) (((g 0).fld 2).num) (((g 0).fld 3).bool) (fun i0 => (((g 0).fld 4).ix i0).num) (((g 0).fld 5).num), sallyportref16_MretVr (fun i0 => (((g 0).fld 0).ix i0).num) (((g 0).fld 1).num) (((g 0).fld 2).num) (((g 0).fld 3).bool) (fun i0 => (((g 0).fld 4).ix i0).num) (((g 0).fld 5).num))).trans (by rw [sallyportref16_MretV_eq])
theorem sallyportref16_MretP : Plain Try.prog 12 Try.f12 := ⟨Try.func12, of_decide_eq_true (by kernel_rfl)⟩
theorem sallyportref16_MretT (a0_X : Nat → Int) (a0_PC : Int) (a0_Level : Int) (a0_V : Bool) (a0_C : Nat → Int) (a0_Done : Int) : sallyportref16_MretG a0_X a0_PC a0_Level a0_V a0_C a0_Done = true := by
  unfold sallyportref16_MretG
  simp only [Go.Ev.cS1, Go.Ev.cS2, Go.Ev.cS3, Go.Ev.cS4, Go.Ev.cS6, Go.Ev.cS7]
theorem sallyportref16_MretO : RowOk Try.prog 12 (rowF [(.agg [(.arr 32 (.int .u64)), (.int .u64), (.int .i64), .bool, (.arr 29 (.int .u64)), (.int .u64)])] none fun g => sallyportref16_MretV (fun i0 => (((g 0).fld 0).ix i0).num) (((g 0).fld 1).num) (((g 0).fld 2).num) (((g 0).fld 3).bool) (fun i0 => (((g 0).fld 4).ix i0).num) (((g 0).fld 5).num)) := rowT_ok fun g => pcOf_ok mix fair T16_ok (inl_ok mix fair T16_ok FS_ok 2) sallyportref16_MretP (fun c _ => OvOk_none c) (sallyportref16_MretE g) (sallyportref16_MretT (fun i0 => (((g 0).fld 0).ix i0).num) (((g 0).fld 1).num) (((g 0).fld 2).num) (((g 0).fld 3).bool) (fun i0 => (((g 0).fld 4).ix i0).num) (((g 0).fld 5).num))
def T12 : List Row := (12, (rowF [(.agg [(.arr 32 (.int .u64)), (.int .u64), (.int .i64), .bool, (.arr 29 (.int .u64)), (.int .u64)])] none fun g => sallyportref16_MretV (fun i0 => (((g 0).fld 0).ix i0).num) (((g 0).fld 1).num) (((g 0).fld 2).num) (((g 0).fld 3).bool) (fun i0 => (((g 0).fld 4).ix i0).num) (((g 0).fld 5).num))) :: T16
theorem T12_ok : PSound Try.prog (lookR T12) := lookR_cons sallyportref16_MretO T16_ok

/- sallyport/sallyportref16.Sret -/
def sallyportref16_Sret0r (a0_X : Nat → Int) (a0_PC : Int) (a0_Level : Int) (a0_V : Bool) (a0_C : Nat → Int) (a0_Done : Int) : Nat → Int :=
  fun i0 => bif !sallyportref8_Insn1 (fun i0 => a0_X i0) a0_PC a0_Level a0_V (fun i0 => a0_C i0) a0_Done 61 0 0 0 0 0 then a0_X i0 else bif a0_V then a0_X i0 else a0_X i0
def sallyportref16_Sret1 (a0_X : Nat → Int) (a0_PC : Int) (a0_Level : Int) (a0_V : Bool) (a0_C : Nat → Int) (a0_Done : Int) : Int :=
  bif !sallyportref8_Insn1 (fun i0 => a0_X i0) a0_PC a0_Level a0_V (fun i0 => a0_C i0) a0_Done 61 0 0 0 0 0 then a0_PC else bif a0_V then a0_C 25 else a0_C 12
def sallyportref16_Sret2 (a0_X : Nat → Int) (a0_PC : Int) (a0_Level : Int) (a0_V : Bool) (a0_C : Nat → Int) (a0_Done : Int) : Int :=
  bif !sallyportref8_Insn1 (fun i0 => a0_X i0) a0_PC a0_Level a0_V (fun i0 => a0_C i0) a0_Done 61 0 0 0 0 0 then a0_Level
  else bif a0_V then iConv IntKind.i64 (iAnd IntKind.u64 (iShr IntKind.u64 (a0_C 22) 8) 1) else iConv IntKind.i64 (iAnd IntKind.u64 (iShr IntKind.u64 (a0_C 0) 8) 1)
def sallyportref16_Sret3 (a0_X : Nat → Int) (a0_PC : Int) (a0_Level : Int) (a0_V : Bool) (a0_C : Nat → Int) (a0_Done : Int) : Bool :=
  bif !sallyportref8_Insn1 (fun i0 => a0_X i0) a0_PC a0_Level a0_V (fun i0 => a0_C i0) a0_Done 61 0 0 0 0 0 then a0_V
  else bif a0_V then a0_V else iEq (iAnd IntKind.u64 (iShr IntKind.u64 (a0_C 16) 7) 1) 1
def sallyportref16_Sret4 (a0_X : Nat → Int) (a0_PC : Int) (a0_Level : Int) (a0_V : Bool) (a0_C : Nat → Int) (a0_Done : Int) : Nat → Int :=
  fun i0 => bif !sallyportref8_Insn1 (fun i0 => a0_X i0) a0_PC a0_Level a0_V (fun i0 => a0_C i0) a0_Done 61 0 0 0 0 0 then a0_C i0
  else
    bif a0_V then bif i0 == 22 then sallyportref16_set0 (sallyportref16_set0 (sallyportref16_set0 (a0_C 22) 1 (iEq (iAnd IntKind.u64 (iShr IntKind.u64 (a0_C 22) 5) 1) 1)) 5 true) 8 false else a0_C i0
    else
      bif i0 == 0 then sallyportref16_set0 (sallyportref16_set0 (sallyportref16_set0 (a0_C 0) 1 (iEq (iAnd IntKind.u64 (iShr IntKind.u64 (a0_C 0) 5) 1) 1)) 5 true) 8 false
      else bif i0 == 16 then sallyportref16_set0 (a0_C 16) 7 false else a0_C i0
def sallyportref16_Sret5r (a0_X : Nat → Int) (a0_PC : Int) (a0_Level : Int) (a0_V : Bool) (a0_C : Nat → Int) (a0_Done : Int) : Int :=
  bif !sallyportref8_Insn1 (fun i0 => a0_X i0) a0_PC a0_Level a0_V (fun i0 => a0_C i0) a0_Done 61 0 0 0 0 0 then a0_Done else bif a0_V then a0_Done else a0_Done
def sallyportref16_Sret6 (a0_X : Nat → Int) (a0_PC : Int) (a0_Level : Int) (a0_V : Bool) (a0_C : Nat → Int) (a0_Done : Int) : Int :=
  bif !sallyportref8_Insn1 (fun i0 => a0_X i0) a0_PC a0_Level a0_V (fun i0 => a0_C i0) a0_Done 61 0 0 0 0 0 then
    sallyportref8_Insn0 (fun i0 => a0_X i0) a0_PC a0_Level a0_V (fun i0 => a0_C i0) a0_Done 61 0 0 0 0 0
  else 0
def sallyportref16_Sret6r (a0_X : Nat → Int) (a0_PC : Int) (a0_Level : Int) (a0_V : Bool) (a0_C : Nat → Int) (a0_Done : Int) : Int :=
  bif !sallyportref8_Insn1 (fun i0 => a0_X i0) a0_PC a0_Level a0_V (fun i0 => a0_C i0) a0_Done 61 0 0 0 0 0 then
    sallyportref8_Insn0 (fun i0 => a0_X i0) a0_PC a0_Level a0_V (fun i0 => a0_C i0) a0_Done 61 0 0 0 0 0
  else bif a0_V then 0 else 0
def sallyportref16_Sret7 (a0_X : Nat → Int) (a0_PC : Int) (a0_Level : Int) (a0_V : Bool) (a0_C : Nat → Int) (a0_Done : Int) : Bool :=
  bif !sallyportref8_Insn1 (fun i0 => a0_X i0) a0_PC a0_Level a0_V (fun i0 => a0_C i0) a0_Done 61 0 0 0 0 0 then false else true
def sallyportref16_Sret7r (a0_X : Nat → Int) (a0_PC : Int) (a0_Level : Int) (a0_V : Bool) (a0_C : Nat → Int) (a0_Done : Int) : Bool :=
  bif !sallyportref8_Insn1 (fun i0 => a0_X i0) a0_PC a0_Level a0_V (fun i0 => a0_C i0) a0_Done 61 0 0 0 0 0 then false else bif a0_V then true else true
def sallyportref16_SretG (a0_X : Nat → Int) (a0_PC : Int) (a0_Level : Int) (a0_V : Bool) (a0_C : Nat → Int) (a0_Done : Int) : Bool :=
  bif !sallyportref8_Insn1 (fun i0 => a0_X i0) a0_PC a0_Level a0_V (fun i0 => a0_C i0) a0_Done 61 0 0 0 0 0 then true else bif a0_V then true else true
theorem sallyportref16_Sret0_eq (a0_X : Nat → Int) (a0_PC : Int) (a0_Level : Int) (a0_V : Bool) (a0_C : Nat → Int) (a0_Done : Int) (i0 : Nat) : sallyportref16_Sret0r a0_X a0_PC a0_Level a0_V a0_C a0_Done i0 = a0_X i0 := by
  unfold sallyportref16_Sret0r
  first | (simp only [Go.Ev.cS1, Go.Ev.cS2, Go.Ev.cS3, Go.Ev.cS4, Go.Ev.cS6, Go.Ev.cS7]; done) | (simp only [Go.Ev.cS1, Go.Ev.cS2, Go.Ev.cS3, Go.Ev.cS4, Go.Ev.cS6, Go.Ev.cS7]; kernel_rfl)
theorem sallyportref16_Sret5_eq (a0_X : Nat → Int) (a0_PC : Int) (a0_Level : Int) (a0_V : Bool) (a0_C : Nat → Int) (a0_Done : Int)  : sallyportref16_Sret5r a0_X a0_PC a0_Level a0_V a0_C a0_Done  = a0_Done := by
  unfold sallyportref16_Sret5r
  first | (simp only [Go.Ev.cS1, Go.Ev.cS2, Go.Ev.cS3, Go.Ev.cS4, Go.Ev.cS6, Go.Ev.cS7]; done) | (simp only [Go.Ev.cS1, Go.Ev.cS2, Go.Ev.cS3, Go.Ev.cS4, Go.Ev.cS6, Go.Ev.cS7]; kernel_rfl)
theorem sallyportref16_Sret6_eq (a0_X : Nat → Int) (a0_PC : Int) (a0_Level : Int) (a0_V : Bool) (a0_C : Nat → Int) (a0_Done : Int)  : sallyportref16_Sret6r a0_X a0_PC a0_Level a0_V a0_C a0_Done  = sallyportref16_Sret6 a0_X a0_PC a0_Level a0_V a0_C a0_Done  := by
  unfold sallyportref16_Sret6r
  first | (simp only [Go.Ev.cS1, Go.Ev.cS2, Go.Ev.cS3, Go.Ev.cS4, Go.Ev.cS6, Go.Ev.cS7]; done) | (simp only [Go.Ev.cS1, Go.Ev.cS2, Go.Ev.cS3, Go.Ev.cS4, Go.Ev.cS6, Go.Ev.cS7]; kernel_rfl)
theorem sallyportref16_Sret7_eq (a0_X : Nat → Int) (a0_PC : Int) (a0_Level : Int) (a0_V : Bool) (a0_C : Nat → Int) (a0_Done : Int)  : sallyportref16_Sret7r a0_X a0_PC a0_Level a0_V a0_C a0_Done  = sallyportref16_Sret7 a0_X a0_PC a0_Level a0_V a0_C a0_Done  := by
  unfold sallyportref16_Sret7r
  first | (simp only [Go.Ev.cS1, Go.Ev.cS2, Go.Ev.cS3, Go.Ev.cS4, Go.Ev.cS6, Go.Ev.cS7]; done) | (simp only [Go.Ev.cS1, Go.Ev.cS2, Go.Ev.cS3, Go.Ev.cS4, Go.Ev.cS6, Go.Ev.cS7]; kernel_rfl)
def sallyportref16_SretV (a0_X : Nat → Int) (a0_PC : Int) (a0_Level : Int) (a0_V : Bool) (a0_C : Nat → Int) (a0_Done : Int) : AV := .tup [.agg [.arr 32 (.int .u64) fun i0 => .it .u64 (a0_X i0), .it .u64 (sallyportref16_Sret1 a0_X a0_PC a0_Level a0_V a0_C a0_Done), .it .i64 (sallyportref16_Sret2 a0_X a0_PC a0_Level a0_V a0_C a0_Done), .bl (sallyportref16_Sret3 a0_X a0_PC a0_Level a0_V a0_C a0_Done), .arr 29 (.int .u64) fun i0 => .it .u64 (sallyportref16_Sret4 a0_X a0_PC a0_Level a0_V a0_C a0_Done i0), .it .u64 (a0_Done)], .it .u64 (sallyportref16_Sret6 a0_X a0_PC a0_Level a0_V a0_C a0_Done), .bl (sallyportref16_Sret7 a0_X a0_PC a0_Level a0_V a0_C a0_Done)]
def sallyportref16_SretVr (a0_X : Nat → Int) (a0_PC : Int) (a0_Level : Int) (a0_V : Bool) (a0_C : Nat → Int) (a0_Done : Int) : AV := .tup [.agg [.arr 32 (.int .u64) fun i0 => .it .u64 (sallyportref16_Sret0r a0_X a0_PC a0_Level a0_V a0_C a0_Done i0), .it .u64 (sallyportref16_Sret1 a0_X a0_PC a0_Level a0_V a0_C a0_Done), .it .i64 (sallyportref16_Sret2 a0_X a0_PC a0_Level a0_V a0_C a0_Done), .bl (sallyportref16_Sret3 a0_X a0_PC a0_Level a0_V a0_C a0_Done), .arr 29 (.int .u64) fun i0 => .it .u64 (sallyportref16_Sret4 a0_X a0_PC a0_Level a0_V a0_C a0_Done i0), .it .u64 (sallyportref16_Sret5r a0_X a0_PC a0_Level a0_V a0_C a0_Done)], .it .u64 (sallyportref16_Sret6r a0_X a0_PC a0_Level a0_V a0_C a0_Done), .bl (sallyportref16_Sret7r a0_X a0_PC a0_Level a0_V a0_C a0_Done)]
theorem sallyportref16_SretV_eq (a0_X : Nat → Int) (a0_PC : Int) (a0_Level : Int) (a0_V : Bool) (a0_C : Nat → Int) (a0_Done : Int) : sallyportref16_SretVr a0_X a0_PC a0_Level a0_V a0_C a0_Done = sallyportref16_SretV a0_X a0_PC a0_Level a0_V a0_C a0_Done := by
  unfold sallyportref16_SretVr sallyportref16_SretV
  simp only [sallyportref16_Sret0_eq, sallyportref16_Sret5_eq, sallyportref16_Sret6_eq, sallyportref16_Sret7_eq]
theorem sallyportref16_SretE (g : Nat → AV) : pcOf Try.prog okT (lookR T12) (inl Try.prog okT (lookR T12) RO FS 100 ST 2) RO NOV 100 false Try.f14 (norms [(.agg [(.arr 32 (.int .u64)), (.int .u64), (.int .i64), .bool, (.arr 29 (.int .u64)), (.int .u64)])] 0 g) = some (sallyportref16_SretG (fun i0 => (((g 0).fld 0).ix i0).num) (((g 0).fld 1).num) (((g 0).fld 2).num) (((g 0).fld 3).bool) (fun i0 => (((g 0).fld 4).ix i0).num) (((g 0).fld 5).num), sallyportref16_SretV (fun i0 => (((g 0).fld 0).ix i0).num) (((g 0).fld 1).num) (((g 0).fld 2).num) (((g 0).fld 3).bool) (fun i0 => (((g 0).fld 4).ix i0).num) (((g 0).fld 5).num)) :=
  (by kernel_rfl : pcOf Try.prog okT (lookR T12) (inl Try.prog okT (lookR T12) RO FS 100 ST 2) RO NOV 100 false Try.f14 (norms [(.agg [(.arr 32 (.int .u64)), (.int .u64), (.int .i64), .bool, (.arr 29 (.int .u64)), (.int .u64)])] 0 g) = some (sallyportref16_SretG (fun i0 => (((g 0).fld 0).ix i0).num) (((g 0).fld 1).num) (((g 0).fld 2).num) (((g 0).fld 3).bool) (fun i0 => (((g 0).fld 4).ix i0).num) (((g 0).fld 5).num), sallyportref16_SretVr (fun i0 => (((g 0).fld 0).ix i0).num) (((g 0).fld 1).num) (((g 0).fld 2).num) (((g 0).fld 3).bool) (fun i0 => (((g 0).fld 4).ix i0).num) (((g 0).fld 5).num))).trans (by rw [sallyportref16_SretV_eq])
theorem sallyportref16_SretP : Plain Try.prog 14 Try.f14 := ⟨Try.func14, of_decide_eq_true (by kernel_rfl)⟩
theorem sallyportref16_SretT (a0_X : Nat → Int) (a0_PC : Int) (a0_Level : Int) (a0_V : Bool) (a0_C : Nat → Int) (a0_Done : Int) : sallyportref16_SretG a0_X a0_PC a0_Level a0_V a0_C a0_Done = true := by
  unfold sallyportref16_SretG
  simp only [Go.Ev.cS1, Go.Ev.cS2, Go.Ev.cS3, Go.Ev.cS4, Go.Ev.cS6, Go.Ev.cS7]
theorem sallyportref16_SretO : RowOk Try.prog 14 (rowF [(.agg [(.arr 32 (.int .u64)), (.int .u64), (.int .i64), .bool, (.arr 29 (.int .u64)), (.int .u64)])] none fun g => sallyportref16_SretV (fun i0 => (((g 0).fld 0).ix i0).num) (((g 0).fld 1).num) (((g 0).fld 2).num) (((g 0).fld 3).bool) (fun i0 => (((g 0).fld 4).ix i0).num) (((g 0).fld 5).num)) := rowT_ok fun g => pcOf_ok mix fair T12_ok (inl_ok mix fair T12_ok FS_ok 2) sallyportref16_SretP (fun c _ => OvOk_none c) (sallyportref16_SretE g) (sallyportref16_SretT (fun i0 => (((g 0).fld 0).ix i0).num) (((g 0).fld 1).num) (((g 0).fld 2).num) (((g 0).fld 3).bool) (fun i0 => (((g 0).fld 4).ix i0).num) (((g 0).fld 5).num))
def T14 : List Row := (14, (rowF [(.agg [(.arr 32 (.int .u64)), (.int .u64), (.int .i64), .bool, (.arr 29 (.int .u64)), (.int .u64)])] none fun g => sallyportref16_SretV (fun i0 => (((g 0).fld 0).ix i0).num) (((g 0).fld 1).num) (((g 0).fld 2).num) (((g 0).fld 3).bool) (fun i0 => (((g 0).fld 4).ix i0).num) (((g 0).fld 5).num))) :: T12
theorem T14_ok : PSound Try.prog (lookR T14) := lookR_cons sallyportref16_SretO T12_ok

/- sallyport/sallyportlaw16.known -/
def sallyportlaw16_knownG  : Bool :=
  true
def sallyportlaw16_knownV  : AV := .bl true
theorem sallyportlaw16_knownE (g : Nat → AV) : pcOf Try.prog okT (lookR T14) (inl Try.prog okT (lookR T14) RO FS 100 ST 2) RO NOV 100 true Try.f9 (norms [] 0 g) = some (sallyportlaw16_knownG , sallyportlaw16_knownV ) := by kernel_rfl
theorem sallyportlaw16_knownP : Plain Try.prog 9 Try.f9 := ⟨Try.func9, of_decide_eq_true (by kernel_rfl)⟩
theorem sallyportlaw16_knownT  : sallyportlaw16_knownG  = true := rfl
theorem sallyportlaw16_knownO : RowOk Try.prog 9 (rowF [] none fun g => sallyportlaw16_knownV ) := rowT_ok fun g => pcOf_ok mix fair T14_ok (inl_ok mix fair T14_ok FS_ok 2) sallyportlaw16_knownP (fun c _ => OvOk_none c) (sallyportlaw16_knownE g) (sallyportlaw16_knownT )
def T9 : List Row := (9, (rowF [] none fun g => sallyportlaw16_knownV )) :: T14
theorem T9_ok : PSound Try.prog (lookR T9) := lookR_cons sallyportlaw16_knownO T14_ok

end
end Go.Proofs.Ytjnpaegoobclfaa.PV
