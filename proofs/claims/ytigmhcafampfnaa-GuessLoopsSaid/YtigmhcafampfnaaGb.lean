/-
  What functions of the program and of the document yield, evaluated (decode.Format .. sallyportlaw20.GuessSure). Printed by a program of the prover's own (wip/prt).
-/
import Derived.Test.YtigmhcafampfnaaRows
import Derived.Test.YtigmhcafampfnaaEvW
import Derived.Test.YtigmhcafampfnaaGa
set_option linter.unusedVariables false
set_option linter.unusedSimpArgs false
namespace Go.Proofs.Ytigmhcafampfnaa.PV
noncomputable section
open Go Go.Ev
/- sallyport/decode.Format -/
def decode_Format0 (a0 : Int) : Int :=
  bif iEq (insn_Class0 a0) 0 then 45
  else
    bif iEq (insn_Class0 a0) 1 then bif iEq a0 3 then 74 else bif iEq a0 4 then 73 else 85
    else
      bif iEq (insn_Class0 a0) 2 then 66
      else bif iEq (insn_Class0 a0) 4 then 83 else bif iEq (insn_Class0 a0) 6 then 82 else bif iEq (insn_Class0 a0) 11 then 82 else bif iEq (insn_Class0 a0) 12 then 82 else 73
def decode_Format0r (a0 : Int) : Int :=
  bif iEq (insn_Class0 a0) 0 then 45
  else
    bif iEq (insn_Class0 a0) 1 then bif iEq a0 3 then 74 else bif iEq a0 4 then 73 else 85
    else
      bif iEq (insn_Class0 a0) 2 then 66
      else
        bif iEq (insn_Class0 a0) 4 then 83
        else
          bif iEq (insn_Class0 a0) 6 then bif iEq (insn_Class0 a0) 6 then 82 else 73
          else bif iEq (insn_Class0 a0) 11 then bif iEq (insn_Class0 a0) 11 then 82 else 73 else bif iEq (insn_Class0 a0) 12 then 82 else 73
def decode_FormatG (a0 : Int) : Bool :=
  bif iEq (insn_Class0 a0) 0 then true
  else
    bif iEq (insn_Class0 a0) 1 then bif iEq a0 3 then true else bif iEq a0 4 then true else true
    else
      bif iEq (insn_Class0 a0) 2 then true
      else
        bif iEq (insn_Class0 a0) 4 then true
        else
          bif iEq (insn_Class0 a0) 6 then bif iEq (insn_Class0 a0) 6 then true else true
          else bif iEq (insn_Class0 a0) 11 then bif iEq (insn_Class0 a0) 11 then true else true else bif iEq (insn_Class0 a0) 12 then true else true
theorem decode_Format0_eq (a0 : Int)  : decode_Format0r a0  = decode_Format0 a0  := by
  unfold decode_Format0r
  first | (simp only [Go.Ev.cS1, Go.Ev.cS2, Go.Ev.cS3, Go.Ev.cS4, Go.Ev.cS6, Go.Ev.cS7]; done) | (simp only [Go.Ev.cS1, Go.Ev.cS2, Go.Ev.cS3, Go.Ev.cS4, Go.Ev.cS6, Go.Ev.cS7]; kernel_rfl)
def decode_FormatV (a0 : Int) : AV := .it .u8 (decode_Format0 a0)
def decode_FormatVr (a0 : Int) : AV := .it .u8 (decode_Format0r a0)
theorem decode_FormatV_eq (a0 : Int) : decode_FormatVr a0 = decode_FormatV a0 := by
  unfold decode_FormatVr decode_FormatV
  simp only [decode_Format0_eq]
theorem decode_FormatE (g : Nat → AV) : pcOf Try.prog okT (lookR T22) (inlO Try.prog okT (lookR T22) RO FS 400 ST (hOnce Try.prog 64 25 21) 8) RO NOV 100 false Try.f24 (norms [(.int .i64)] 0 g) = some (decode_FormatG ((g 0).num), decode_FormatV ((g 0).num)) :=
  (by kernel_rfl : pcOf Try.prog okT (lookR T22) (inlO Try.prog okT (lookR T22) RO FS 400 ST (hOnce Try.prog 64 25 21) 8) RO NOV 100 false Try.f24 (norms [(.int .i64)] 0 g) = some (decode_FormatG ((g 0).num), decode_FormatVr ((g 0).num))).trans (by rw [decode_FormatV_eq])
theorem decode_FormatP : Plain Try.prog 24 Try.f24 := ⟨Try.func24, of_decide_eq_true (by kernel_rfl)⟩
theorem decode_FormatT (a0 : Int) : decode_FormatG a0 = true := by
  unfold decode_FormatG
  simp only [Go.Ev.cS1, Go.Ev.cS2, Go.Ev.cS3, Go.Ev.cS4, Go.Ev.cS6, Go.Ev.cS7]
theorem decode_FormatO : RowOk Try.prog 24 (rowF [(.int .i64)] none fun g => decode_FormatV ((g 0).num)) := rowT_ok fun g => pcOf_ok mix fair T22_ok (inlO_ok mix fair T22_ok FS_ok (fun _ h => hOnce_ok once_ok h) 8) decode_FormatP (fun c _ => OvOk_none c) (decode_FormatE g) (decode_FormatT ((g 0).num))
def T24 : List Row := (24, (rowF [(.int .i64)] none fun g => decode_FormatV ((g 0).num))) :: T22
theorem T24_ok : PSound Try.prog (lookR T24) := lookR_cons decode_FormatO T22_ok

/- sallyport/sallyportlaw3.known -/
def sallyportlaw3_knownG  : Bool :=
  true
def sallyportlaw3_knownV  : AV := .bl true
theorem sallyportlaw3_knownE (g : Nat → AV) : pcOf Try.prog okT (lookR T24) (inlO Try.prog okT (lookR T24) RO FS 400 ST (hOnce Try.prog 64 25 21) 8) RO NOV 100 true Try.f21 (norms [] 0 g) = some (sallyportlaw3_knownG , sallyportlaw3_knownV ) := by kernel_rfl
theorem sallyportlaw3_knownP : Plain Try.prog 21 Try.f21 := ⟨Try.func21, of_decide_eq_true (by kernel_rfl)⟩
theorem sallyportlaw3_knownT  : sallyportlaw3_knownG  = true := rfl
theorem sallyportlaw3_knownO : RowOk Try.prog 21 (rowF [] none fun g => sallyportlaw3_knownV ) := rowT_ok fun g => pcOf_ok mix fair T24_ok (inlO_ok mix fair T24_ok FS_ok (fun _ h => hOnce_ok once_ok h) 8) sallyportlaw3_knownP (fun c _ => OvOk_none c) (sallyportlaw3_knownE g) (sallyportlaw3_knownT )
def T21 : List Row := (21, (rowF [] none fun g => sallyportlaw3_knownV )) :: T24
theorem T21_ok : PSound Try.prog (lookR T21) := lookR_cons sallyportlaw3_knownO T24_ok

/- sallyport/sallyportlaw3.DecodeMade -/
def sallyportlaw3_DecodeMade0 (a0_Op : Int) (a0_Rd : Int) (a0_Rs1 : Int) (a0_Rs2 : Int) (a0_Imm : Int) (a0_CSR : Int) : Bool :=
  bif !sallyportref3_Encode1 a0_Op a0_Rd a0_Rs1 a0_Rs2 a0_Imm a0_CSR then true
  else
    bif iEq (decode_Decode6 (sallyportref3_Encode0 a0_Op a0_Rd a0_Rs1 a0_Rs2 a0_Imm a0_CSR)) 0 then
      iEq (decode_Decode0 (sallyportref3_Encode0 a0_Op a0_Rd a0_Rs1 a0_Rs2 a0_Imm a0_CSR)) a0_Op &&
        (iEq (decode_Decode1 (sallyportref3_Encode0 a0_Op a0_Rd a0_Rs1 a0_Rs2 a0_Imm a0_CSR)) a0_Rd &&
          (iEq (decode_Decode2 (sallyportref3_Encode0 a0_Op a0_Rd a0_Rs1 a0_Rs2 a0_Imm a0_CSR)) a0_Rs1 &&
            (iEq (decode_Decode3 (sallyportref3_Encode0 a0_Op a0_Rd a0_Rs1 a0_Rs2 a0_Imm a0_CSR)) a0_Rs2 &&
              (iEq (decode_Decode4 (sallyportref3_Encode0 a0_Op a0_Rd a0_Rs1 a0_Rs2 a0_Imm a0_CSR)) a0_Imm &&
                iEq (decode_Decode5 (sallyportref3_Encode0 a0_Op a0_Rd a0_Rs1 a0_Rs2 a0_Imm a0_CSR)) a0_CSR))))
    else false
def sallyportlaw3_DecodeMade0r (a0_Op : Int) (a0_Rd : Int) (a0_Rs1 : Int) (a0_Rs2 : Int) (a0_Imm : Int) (a0_CSR : Int) : Bool :=
  bif !sallyportref3_Encode1 a0_Op a0_Rd a0_Rs1 a0_Rs2 a0_Imm a0_CSR then true
  else
    bif iEq (decode_Decode6 (sallyportref3_Encode0 a0_Op a0_Rd a0_Rs1 a0_Rs2 a0_Imm a0_CSR)) 0 then
      iEq (decode_Decode0 (sallyportref3_Encode0 a0_Op a0_Rd a0_Rs1 a0_Rs2 a0_Imm a0_CSR)) a0_Op &&
        (iEq (decode_Decode1 (sallyportref3_Encode0 a0_Op a0_Rd a0_Rs1 a0_Rs2 a0_Imm a0_CSR)) a0_Rd &&
          (iEq (decode_Decode2 (sallyportref3_Encode0 a0_Op a0_Rd a0_Rs1 a0_Rs2 a0_Imm a0_CSR)) a0_Rs1 &&
            (iEq (decode_Decode3 (sallyportref3_Encode0 a0_Op a0_Rd a0_Rs1 a0_Rs2 a0_Imm a0_CSR)) a0_Rs2 &&
              (iEq (decode_Decode4 (sallyportref3_Encode0 a0_Op a0_Rd a0_Rs1 a0_Rs2 a0_Imm a0_CSR)) a0_Imm &&
                (iEq (decode_Decode5 (sallyportref3_Encode0 a0_Op a0_Rd a0_Rs1 a0_Rs2 a0_Imm a0_CSR)) a0_CSR && true)))))
    else false
def sallyportlaw3_DecodeMadeG (a0_Op : Int) (a0_Rd : Int) (a0_Rs1 : Int) (a0_Rs2 : Int) (a0_Imm : Int) (a0_CSR : Int) : Bool :=
  bif !sallyportref3_Encode1 a0_Op a0_Rd a0_Rs1 a0_Rs2 a0_Imm a0_CSR then true else true
theorem sallyportlaw3_DecodeMade0_eq (a0_Op : Int) (a0_Rd : Int) (a0_Rs1 : Int) (a0_Rs2 : Int) (a0_Imm : Int) (a0_CSR : Int)  : sallyportlaw3_DecodeMade0r a0_Op a0_Rd a0_Rs1 a0_Rs2 a0_Imm a0_CSR  = sallyportlaw3_DecodeMade0 a0_Op a0_Rd a0_Rs1 a0_Rs2 a0_Imm a0_CSR  := by
  unfold sallyportlaw3_DecodeMade0r
  first | (simp only [Go.Ev.cS1, Go.Ev.cS2, Go.Ev.cS3, Go.Ev.cS4, Go.Ev.cS6, Go.Ev.cS7]; done) | (simp only [Go.Ev.cS1, Go.Ev.cS2, Go.Ev.cS3, Go.Ev.cS4, Go.Ev.cS6, Go.Ev.cS7]; kernel_rfl)
def sallyportlaw3_DecodeMadeV (a0_Op : Int) (a0_Rd : Int) (a0_Rs1 : Int) (a0_Rs2 : Int) (a0_Imm : Int) (a0_CSR : Int) : AV := .bl (sallyportlaw3_DecodeMade0 a0_Op a0_Rd a0_Rs1 a0_Rs2 a0_Imm a0_CSR)
def sallyportlaw3_DecodeMadeVr (a0_Op : Int) (a0_Rd : Int) (a0_Rs1 : Int) (a0_Rs2 : Int) (a0_Imm : Int) (a0_CSR : Int) : AV := .bl (sallyportlaw3_DecodeMade0r a0_Op a0_Rd a0_Rs1 a0_Rs2 a0_Imm a0_CSR)
theorem sallyportlaw3_DecodeMadeV_eq (a0_Op : Int) (a0_Rd : Int) (a0_Rs1 : Int) (a0_Rs2 : Int) (a0_Imm : Int) (a0_CSR : Int) : sallyportlaw3_DecodeMadeVr a0_Op a0_Rd a0_Rs1 a0_Rs2 a0_Imm a0_CSR = sallyportlaw3_DecodeMadeV a0_Op a0_Rd a0_Rs1 a0_Rs2 a0_Imm a0_CSR := by
  unfold sallyportlaw3_DecodeMadeVr sallyportlaw3_DecodeMadeV
  simp only [sallyportlaw3_DecodeMade0_eq]
theorem sallyportlaw3_DecodeMadeE (g : Nat → AV) : pcOf Try.prog okT (lookR T21) (inlO Try.prog okT (lookR T21) RO FS 400 ST (hOnce Try.prog 64 25 21) 8) RO NOV 100 false Try.f7 (norms [(.agg [(.int .i64), (.int .i64), (.int .i64), (.int .i64), (.int .i64), (.int .i64)])] 0 g) = some (sallyportlaw3_DecodeMadeG (((g 0).fld 0).num) (((g 0).fld 1).num) (((g 0).fld 2).num) (((g 0).fld 3).num) (((g 0).fld 4).num) (((g 0).fld 5).num), sallyportlaw3_DecodeMadeV (((g 0).fld 0).num) (((g 0).fld 1).num) (((g 0).fld 2).num) (((g 0).fld 3).num) (((g 0).fld 4).num) (((g 0).fld 5).num)) :=
  (by kernel_rfl : pcOf Try.prog okT (lookR T21) (inlO Try.prog okT (lookR T21) RO FS 400 ST (hOnce Try.prog 64 25 21) 8) RO NOV 100 false Try.f7 (norms [(.agg [(.int .i64), (.int .i64), (.int .i64), (.int .i64), (.int .i64), (.int .i64)])] 0 g) = some (sallyportlaw3_DecodeMadeG (((g 0).fld 0).num) (((g 0).fld 1).num) (((g 0).fld 2).num) (((g 0).fld 3).num) (((g 0).fld 4).num) (((g 0).fld 5).num), sallyportlaw3_DecodeMadeVr (((g 0).fld 0).num) (((g 0).fld 1).num) (((g 0).fld 2).num) (((g 0).fld 3).num) (((g 0).fld 4).num) (((g 0).fld 5).num))).trans (by rw [sallyportlaw3_DecodeMadeV_eq])
theorem sallyportlaw3_DecodeMadeP : Plain Try.prog 7 Try.f7 := ⟨Try.func7, of_decide_eq_true (by kernel_rfl)⟩
theorem sallyportlaw3_DecodeMadeT (a0_Op : Int) (a0_Rd : Int) (a0_Rs1 : Int) (a0_Rs2 : Int) (a0_Imm : Int) (a0_CSR : Int) : sallyportlaw3_DecodeMadeG a0_Op a0_Rd a0_Rs1 a0_Rs2 a0_Imm a0_CSR = true := by
  unfold sallyportlaw3_DecodeMadeG
  simp only [Go.Ev.cS1, Go.Ev.cS2, Go.Ev.cS3, Go.Ev.cS4, Go.Ev.cS6, Go.Ev.cS7]
theorem sallyportlaw3_DecodeMadeO : RowOk Try.prog 7 (rowF [(.agg [(.int .i64), (.int .i64), (.int .i64), (.int .i64), (.int .i64), (.int .i64)])] none fun g => sallyportlaw3_DecodeMadeV (((g 0).fld 0).num) (((g 0).fld 1).num) (((g 0).fld 2).num) (((g 0).fld 3).num) (((g 0).fld 4).num) (((g 0).fld 5).num)) := rowT_ok fun g => pcOf_ok mix fair T21_ok (inlO_ok mix fair T21_ok FS_ok (fun _ h => hOnce_ok once_ok h) 8) sallyportlaw3_DecodeMadeP (fun c _ => OvOk_none c) (sallyportlaw3_DecodeMadeE g) (sallyportlaw3_DecodeMadeT (((g 0).fld 0).num) (((g 0).fld 1).num) (((g 0).fld 2).num) (((g 0).fld 3).num) (((g 0).fld 4).num) (((g 0).fld 5).num))
def T7 : List Row := (7, (rowF [(.agg [(.int .i64), (.int .i64), (.int .i64), (.int .i64), (.int .i64), (.int .i64)])] none fun g => sallyportlaw3_DecodeMadeV (((g 0).fld 0).num) (((g 0).fld 1).num) (((g 0).fld 2).num) (((g 0).fld 3).num) (((g 0).fld 4).num) (((g 0).fld 5).num))) :: T21
theorem T7_ok : PSound Try.prog (lookR T7) := lookR_cons sallyportlaw3_DecodeMadeO T21_ok

/- sallyport/sallyportlaw3.DecodeIs -/
def sallyportlaw3_DecodeIs_c0 (a0 : Int) : Bool :=
  bif
      bif
          bif
              bif
                  bif
                      bif insn_Is0 (decode_Decode0 a0) (decode_Decode1 a0) (decode_Decode2 a0) (decode_Decode3 a0) (decode_Decode4 a0) (decode_Decode5 a0) then
                        bif iNe (insn_Class0 (decode_Decode0 a0)) 2 then true else iEq (decode_Opcode0 a0) 99
                      else false then
                    bif iNe (insn_Class0 (decode_Decode0 a0)) 3 then true else iEq (decode_Opcode0 a0) 3
                  else false then
                bif iNe (insn_Class0 (decode_Decode0 a0)) 4 then true else iEq (decode_Opcode0 a0) 35
              else false then
            bif iLt (insn_Class0 (decode_Decode0 a0)) 8 then true else iEq (decode_Opcode0 a0) 115
          else false then
        bif bif iNe (insn_Class0 (decode_Decode0 a0)) 6 then true else iEq (decode_Opcode0 a0) 51 then true else iEq (decode_Opcode0 a0) 59
      else false then
    iEq (iAnd IntKind.i64 (decode_Opcode0 a0) 3) 3
  else false
def sallyportlaw3_DecodeIs0 (a0 : Int) : Bool :=
  bif iNe (decode_Decode6 a0) 0 then
    bif iEq (decode_Decode0 a0) 0 && (iEq (decode_Decode1 a0) 0 && (iEq (decode_Decode2 a0) 0 && (iEq (decode_Decode3 a0) 0 && (iEq (decode_Decode4 a0) 0 && iEq (decode_Decode5 a0) 0)))) then
      iEq (decode_Decode6 a0) 40
    else false
  else sallyportlaw3_DecodeIs_c0 a0
def sallyportlaw3_DecodeIs0r (a0 : Int) : Bool :=
  bif iNe (decode_Decode6 a0) 0 then
    bif iEq (decode_Decode0 a0) 0 && (iEq (decode_Decode1 a0) 0 && (iEq (decode_Decode2 a0) 0 && (iEq (decode_Decode3 a0) 0 && (iEq (decode_Decode4 a0) 0 && (iEq (decode_Decode5 a0) 0 && true))))) then
      iEq (decode_Decode6 a0) 40
    else false
  else sallyportlaw3_DecodeIs_c0 a0
def sallyportlaw3_DecodeIsG (a0 : Int) : Bool :=
  bif iNe (decode_Decode6 a0) 0 then true else true
theorem sallyportlaw3_DecodeIs0_eq (a0 : Int)  : sallyportlaw3_DecodeIs0r a0  = sallyportlaw3_DecodeIs0 a0  := by
  unfold sallyportlaw3_DecodeIs0r
  first | (simp only [sallyportlaw3_DecodeIs_c0, Go.Ev.cS1, Go.Ev.cS2, Go.Ev.cS3, Go.Ev.cS4, Go.Ev.cS6, Go.Ev.cS7]; done) | (simp only [sallyportlaw3_DecodeIs_c0, Go.Ev.cS1, Go.Ev.cS2, Go.Ev.cS3, Go.Ev.cS4, Go.Ev.cS6, Go.Ev.cS7]; kernel_rfl)
def sallyportlaw3_DecodeIsV (a0 : Int) : AV := .bl (sallyportlaw3_DecodeIs0 a0)
def sallyportlaw3_DecodeIsVr (a0 : Int) : AV := .bl (sallyportlaw3_DecodeIs0r a0)
theorem sallyportlaw3_DecodeIsV_eq (a0 : Int) : sallyportlaw3_DecodeIsVr a0 = sallyportlaw3_DecodeIsV a0 := by
  unfold sallyportlaw3_DecodeIsVr sallyportlaw3_DecodeIsV
  simp only [sallyportlaw3_DecodeIs0_eq]
theorem sallyportlaw3_DecodeIsE (g : Nat → AV) : pcOf Try.prog okT (lookR T7) (inlO Try.prog okT (lookR T7) RO FS 400 ST (hOnce Try.prog 64 25 21) 8) RO NOV 100 false Try.f9 (norms [(.int .u32)] 0 g) = some (sallyportlaw3_DecodeIsG ((g 0).num), sallyportlaw3_DecodeIsV ((g 0).num)) :=
  (by kernel_rfl : pcOf Try.prog okT (lookR T7) (inlO Try.prog okT (lookR T7) RO FS 400 ST (hOnce Try.prog 64 25 21) 8) RO NOV 100 false Try.f9 (norms [(.int .u32)] 0 g) = some (sallyportlaw3_DecodeIsG ((g 0).num), sallyportlaw3_DecodeIsVr ((g 0).num))).trans (by rw [sallyportlaw3_DecodeIsV_eq])
theorem sallyportlaw3_DecodeIsP : Plain Try.prog 9 Try.f9 := ⟨Try.func9, of_decide_eq_true (by kernel_rfl)⟩
theorem sallyportlaw3_DecodeIsT (a0 : Int) : sallyportlaw3_DecodeIsG a0 = true := by
  unfold sallyportlaw3_DecodeIsG
  simp only [sallyportlaw3_DecodeIs_c0, Go.Ev.cS1, Go.Ev.cS2, Go.Ev.cS3, Go.Ev.cS4, Go.Ev.cS6, Go.Ev.cS7]
theorem sallyportlaw3_DecodeIsO : RowOk Try.prog 9 (rowF [(.int .u32)] none fun g => sallyportlaw3_DecodeIsV ((g 0).num)) := rowT_ok fun g => pcOf_ok mix fair T7_ok (inlO_ok mix fair T7_ok FS_ok (fun _ h => hOnce_ok once_ok h) 8) sallyportlaw3_DecodeIsP (fun c _ => OvOk_none c) (sallyportlaw3_DecodeIsE g) (sallyportlaw3_DecodeIsT ((g 0).num))
def T9 : List Row := (9, (rowF [(.int .u32)] none fun g => sallyportlaw3_DecodeIsV ((g 0).num))) :: T7
theorem T9_ok : PSound Try.prog (lookR T9) := lookR_cons sallyportlaw3_DecodeIsO T7_ok

/- sallyport/sallyportlaw3.DecodeNumbers -/
def sallyportlaw3_DecodeNumbers_c0 (a0 : Int) (a1 : Int) (a2 : Int) : Int :=
  iOr IntKind.u32
    (iOr IntKind.u32
      (iOr IntKind.u32 (iShl IntKind.u32 (iAnd IntKind.u32 (iConv IntKind.u32 (iShr IntKind.i64 (iShl IntKind.i64 (iConv IntKind.i64 a0) 52) 52)) 4095) 20)
        (iShl IntKind.u32 (iConv IntKind.u32 (iRem a2 32)) 15))
      (iShl IntKind.u32 (iConv IntKind.u32 (iRem a1 32)) 7))
    19
def sallyportlaw3_DecodeNumbers_c1 (a0 : Int) (a1 : Int) (a2 : Int) : Int :=
  iOr IntKind.u32
    (iOr IntKind.u32
      (iOr IntKind.u32
        (iOr IntKind.u32 (iShl IntKind.u32 (iAnd IntKind.u32 (iConv IntKind.u32 (iShr IntKind.i64 (iShl IntKind.i64 (iConv IntKind.i64 a0) 52) 52)) 4095) 20)
          (iShl IntKind.u32 (iConv IntKind.u32 (iRem a2 32)) 15))
        12288)
      (iShl IntKind.u32 (iConv IntKind.u32 (iRem a1 32)) 7))
    3
def sallyportlaw3_DecodeNumbers_c2 (a0 : Int) (a1 : Int) (a2 : Int) : Int :=
  iOr IntKind.u32
    (iOr IntKind.u32
      (iOr IntKind.u32
        (iOr IntKind.u32
          (iOr IntKind.u32 (iShl IntKind.u32 (iShr IntKind.u32 (iAnd IntKind.u32 (iConv IntKind.u32 (iShr IntKind.i64 (iShl IntKind.i64 (iConv IntKind.i64 a0) 52) 52)) 4095) 5) 25)
            (iShl IntKind.u32 (iConv IntKind.u32 (iRem a1 32)) 20))
          (iShl IntKind.u32 (iConv IntKind.u32 (iRem a2 32)) 15))
        12288)
      (iShl IntKind.u32 (iAnd IntKind.u32 (iAnd IntKind.u32 (iConv IntKind.u32 (iShr IntKind.i64 (iShl IntKind.i64 (iConv IntKind.i64 a0) 52) 52)) 4095) 31) 7))
    35
def sallyportlaw3_DecodeNumbers_c3 (a0 : Int) (a1 : Int) (a2 : Int) : Bool :=
  bif
      bif bif iEq (decode_Decode6 (sallyportlaw3_DecodeNumbers_c0 a0 a1 a2)) 0 then iEq (decode_Decode6 (sallyportlaw3_DecodeNumbers_c1 a0 a1 a2)) 0 else false then
        iEq (decode_Decode6 (sallyportlaw3_DecodeNumbers_c2 a0 a1 a2)) 0
      else false then
    iEq (decode_Decode6 (iOr IntKind.u32 (iOr IntKind.u32 (iShl IntKind.u32 (iConv IntKind.u32 a0) 12) (iShl IntKind.u32 (iConv IntKind.u32 (iRem a1 32)) 7)) 55)) 0
  else false
def sallyportlaw3_DecodeNumbers_c4 (a0 : Int) (a1 : Int) (a2 : Int) : Bool :=
  iEq (decode_Decode5 (sallyportlaw3_DecodeNumbers_c0 a0 a1 a2)) 0
def sallyportlaw3_DecodeNumbers_c5 (a0 : Int) (a1 : Int) (a2 : Int) : Bool :=
  bif sallyportlaw3_DecodeNumbers_c3 a0 a1 a2 then
    iEq (decode_Decode0 (sallyportlaw3_DecodeNumbers_c0 a0 a1 a2)) 22 &&
      (iEq (decode_Decode1 (sallyportlaw3_DecodeNumbers_c0 a0 a1 a2)) (iConv IntKind.i64 (iConv IntKind.u32 (iRem a1 32))) &&
        (iEq (decode_Decode2 (sallyportlaw3_DecodeNumbers_c0 a0 a1 a2)) (iConv IntKind.i64 (iConv IntKind.u32 (iRem a2 32))) &&
          (iEq (decode_Decode3 (sallyportlaw3_DecodeNumbers_c0 a0 a1 a2)) 0 &&
            (iEq (decode_Decode4 (sallyportlaw3_DecodeNumbers_c0 a0 a1 a2)) (iShr IntKind.i64 (iShl IntKind.i64 (iConv IntKind.i64 a0) 52) 52) && (sallyportlaw3_DecodeNumbers_c4 a0 a1 a2 && true)))))
  else false
def sallyportlaw3_DecodeNumbers_c6 (a0 : Int) (a1 : Int) (a2 : Int) : Bool :=
  iEq (decode_Decode5 (sallyportlaw3_DecodeNumbers_c1 a0 a1 a2)) 0
def sallyportlaw3_DecodeNumbers_c7 (a0 : Int) (a1 : Int) (a2 : Int) : Bool :=
  bif sallyportlaw3_DecodeNumbers_c5 a0 a1 a2 then
    iEq (decode_Decode0 (sallyportlaw3_DecodeNumbers_c1 a0 a1 a2)) 14 &&
      (iEq (decode_Decode1 (sallyportlaw3_DecodeNumbers_c1 a0 a1 a2)) (iConv IntKind.i64 (iConv IntKind.u32 (iRem a1 32))) &&
        (iEq (decode_Decode2 (sallyportlaw3_DecodeNumbers_c1 a0 a1 a2)) (iConv IntKind.i64 (iConv IntKind.u32 (iRem a2 32))) &&
          (iEq (decode_Decode3 (sallyportlaw3_DecodeNumbers_c1 a0 a1 a2)) 0 &&
            (iEq (decode_Decode4 (sallyportlaw3_DecodeNumbers_c1 a0 a1 a2)) (iShr IntKind.i64 (iShl IntKind.i64 (iConv IntKind.i64 a0) 52) 52) && (sallyportlaw3_DecodeNumbers_c6 a0 a1 a2 && true)))))
  else false
def sallyportlaw3_DecodeNumbers_c8 (a0 : Int) (a1 : Int) (a2 : Int) : Bool :=
  iEq (decode_Decode5 (sallyportlaw3_DecodeNumbers_c2 a0 a1 a2)) 0
def sallyportlaw3_DecodeNumbers_c9 (a0 : Int) (a1 : Int) (a2 : Int) : Bool :=
  iEq (decode_Decode4 (iOr IntKind.u32 (iOr IntKind.u32 (iShl IntKind.u32 (iConv IntKind.u32 a0) 12) (iShl IntKind.u32 (iConv IntKind.u32 (iRem a1 32)) 7)) 55))
    (iConv IntKind.i64 (iConv IntKind.i32 (iShl IntKind.u32 (iConv IntKind.u32 a0) 12)))
def sallyportlaw3_DecodeNumbers0 (a0 : Int) (a1 : Int) (a2 : Int) : Bool :=
  bif sallyportlaw3_DecodeNumbers_c3 a0 a1 a2 then
    bif
        bif sallyportlaw3_DecodeNumbers_c3 a0 a1 a2 then
          iEq (decode_Decode0 (sallyportlaw3_DecodeNumbers_c0 a0 a1 a2)) 22 &&
            (iEq (decode_Decode1 (sallyportlaw3_DecodeNumbers_c0 a0 a1 a2)) (iConv IntKind.i64 (iConv IntKind.u32 (iRem a1 32))) &&
              (iEq (decode_Decode2 (sallyportlaw3_DecodeNumbers_c0 a0 a1 a2)) (iConv IntKind.i64 (iConv IntKind.u32 (iRem a2 32))) &&
                (iEq (decode_Decode3 (sallyportlaw3_DecodeNumbers_c0 a0 a1 a2)) 0 &&
                  (iEq (decode_Decode4 (sallyportlaw3_DecodeNumbers_c0 a0 a1 a2)) (iShr IntKind.i64 (iShl IntKind.i64 (iConv IntKind.i64 a0) 52) 52) && sallyportlaw3_DecodeNumbers_c4 a0 a1 a2))))
        else false then
      bif
          bif
              bif sallyportlaw3_DecodeNumbers_c3 a0 a1 a2 then
                iEq (decode_Decode0 (sallyportlaw3_DecodeNumbers_c0 a0 a1 a2)) 22 &&
                  (iEq (decode_Decode1 (sallyportlaw3_DecodeNumbers_c0 a0 a1 a2)) (iConv IntKind.i64 (iConv IntKind.u32 (iRem a1 32))) &&
                    (iEq (decode_Decode2 (sallyportlaw3_DecodeNumbers_c0 a0 a1 a2)) (iConv IntKind.i64 (iConv IntKind.u32 (iRem a2 32))) &&
                      (iEq (decode_Decode3 (sallyportlaw3_DecodeNumbers_c0 a0 a1 a2)) 0 &&
                        (iEq (decode_Decode4 (sallyportlaw3_DecodeNumbers_c0 a0 a1 a2)) (iShr IntKind.i64 (iShl IntKind.i64 (iConv IntKind.i64 a0) 52) 52) && sallyportlaw3_DecodeNumbers_c4 a0 a1 a2))))
              else false then
            iEq (decode_Decode0 (sallyportlaw3_DecodeNumbers_c1 a0 a1 a2)) 14 &&
              (iEq (decode_Decode1 (sallyportlaw3_DecodeNumbers_c1 a0 a1 a2)) (iConv IntKind.i64 (iConv IntKind.u32 (iRem a1 32))) &&
                (iEq (decode_Decode2 (sallyportlaw3_DecodeNumbers_c1 a0 a1 a2)) (iConv IntKind.i64 (iConv IntKind.u32 (iRem a2 32))) &&
                  (iEq (decode_Decode3 (sallyportlaw3_DecodeNumbers_c1 a0 a1 a2)) 0 &&
                    (iEq (decode_Decode4 (sallyportlaw3_DecodeNumbers_c1 a0 a1 a2)) (iShr IntKind.i64 (iShl IntKind.i64 (iConv IntKind.i64 a0) 52) 52) && sallyportlaw3_DecodeNumbers_c6 a0 a1 a2))))
          else false then
        bif
            bif
                bif
                    bif
                        bif sallyportlaw3_DecodeNumbers_c3 a0 a1 a2 then
                          iEq (decode_Decode0 (sallyportlaw3_DecodeNumbers_c0 a0 a1 a2)) 22 &&
                            (iEq (decode_Decode1 (sallyportlaw3_DecodeNumbers_c0 a0 a1 a2)) (iConv IntKind.i64 (iConv IntKind.u32 (iRem a1 32))) &&
                              (iEq (decode_Decode2 (sallyportlaw3_DecodeNumbers_c0 a0 a1 a2)) (iConv IntKind.i64 (iConv IntKind.u32 (iRem a2 32))) &&
                                (iEq (decode_Decode3 (sallyportlaw3_DecodeNumbers_c0 a0 a1 a2)) 0 &&
                                  (iEq (decode_Decode4 (sallyportlaw3_DecodeNumbers_c0 a0 a1 a2)) (iShr IntKind.i64 (iShl IntKind.i64 (iConv IntKind.i64 a0) 52) 52) &&
                                    sallyportlaw3_DecodeNumbers_c4 a0 a1 a2))))
                        else false then
                      iEq (decode_Decode0 (sallyportlaw3_DecodeNumbers_c1 a0 a1 a2)) 14 &&
                        (iEq (decode_Decode1 (sallyportlaw3_DecodeNumbers_c1 a0 a1 a2)) (iConv IntKind.i64 (iConv IntKind.u32 (iRem a1 32))) &&
                          (iEq (decode_Decode2 (sallyportlaw3_DecodeNumbers_c1 a0 a1 a2)) (iConv IntKind.i64 (iConv IntKind.u32 (iRem a2 32))) &&
                            (iEq (decode_Decode3 (sallyportlaw3_DecodeNumbers_c1 a0 a1 a2)) 0 &&
                              (iEq (decode_Decode4 (sallyportlaw3_DecodeNumbers_c1 a0 a1 a2)) (iShr IntKind.i64 (iShl IntKind.i64 (iConv IntKind.i64 a0) 52) 52) &&
                                sallyportlaw3_DecodeNumbers_c6 a0 a1 a2))))
                    else false then
                  iEq (decode_Decode0 (sallyportlaw3_DecodeNumbers_c2 a0 a1 a2)) 21 &&
                    (iEq (decode_Decode1 (sallyportlaw3_DecodeNumbers_c2 a0 a1 a2)) 0 &&
                      (iEq (decode_Decode2 (sallyportlaw3_DecodeNumbers_c2 a0 a1 a2)) (iConv IntKind.i64 (iConv IntKind.u32 (iRem a2 32))) &&
                        (iEq (decode_Decode3 (sallyportlaw3_DecodeNumbers_c2 a0 a1 a2)) (iConv IntKind.i64 (iConv IntKind.u32 (iRem a1 32))) &&
                          (iEq (decode_Decode4 (sallyportlaw3_DecodeNumbers_c2 a0 a1 a2)) (iShr IntKind.i64 (iShl IntKind.i64 (iConv IntKind.i64 a0) 52) 52) &&
                            sallyportlaw3_DecodeNumbers_c8 a0 a1 a2))))
                else false then
              iEq (decode_Decode0 (iOr IntKind.u32 (iOr IntKind.u32 (iShl IntKind.u32 (iConv IntKind.u32 a0) 12) (iShl IntKind.u32 (iConv IntKind.u32 (iRem a1 32)) 7)) 55)) 1
            else false then
          sallyportlaw3_DecodeNumbers_c9 a0 a1 a2
        else false
      else false
    else false
  else false
def sallyportlaw3_DecodeNumbers0r (a0 : Int) (a1 : Int) (a2 : Int) : Bool :=
  bif sallyportlaw3_DecodeNumbers_c3 a0 a1 a2 then
    bif sallyportlaw3_DecodeNumbers_c5 a0 a1 a2 then
      bif sallyportlaw3_DecodeNumbers_c7 a0 a1 a2 then
        bif
            bif
                bif sallyportlaw3_DecodeNumbers_c7 a0 a1 a2 then
                  iEq (decode_Decode0 (sallyportlaw3_DecodeNumbers_c2 a0 a1 a2)) 21 &&
                    (iEq (decode_Decode1 (sallyportlaw3_DecodeNumbers_c2 a0 a1 a2)) 0 &&
                      (iEq (decode_Decode2 (sallyportlaw3_DecodeNumbers_c2 a0 a1 a2)) (iConv IntKind.i64 (iConv IntKind.u32 (iRem a2 32))) &&
                        (iEq (decode_Decode3 (sallyportlaw3_DecodeNumbers_c2 a0 a1 a2)) (iConv IntKind.i64 (iConv IntKind.u32 (iRem a1 32))) &&
                          (iEq (decode_Decode4 (sallyportlaw3_DecodeNumbers_c2 a0 a1 a2)) (iShr IntKind.i64 (iShl IntKind.i64 (iConv IntKind.i64 a0) 52) 52) &&
                            (sallyportlaw3_DecodeNumbers_c8 a0 a1 a2 && true)))))
                else false then
              iEq (decode_Decode0 (iOr IntKind.u32 (iOr IntKind.u32 (iShl IntKind.u32 (iConv IntKind.u32 a0) 12) (iShl IntKind.u32 (iConv IntKind.u32 (iRem a1 32)) 7)) 55)) 1
            else false then
          sallyportlaw3_DecodeNumbers_c9 a0 a1 a2
        else false
      else false
    else false
  else false
def sallyportlaw3_DecodeNumbersG (a0 : Int) (a1 : Int) (a2 : Int) : Bool :=
  bif sallyportlaw3_DecodeNumbers_c3 a0 a1 a2 then
    bif sallyportlaw3_DecodeNumbers_c5 a0 a1 a2 then
      bif sallyportlaw3_DecodeNumbers_c7 a0 a1 a2 then true else !sallyportlaw3_DecodeNumbers_c7 a0 a1 a2 && (!sallyportlaw3_DecodeNumbers_c7 a0 a1 a2 && true)
    else !sallyportlaw3_DecodeNumbers_c5 a0 a1 a2 && (!sallyportlaw3_DecodeNumbers_c5 a0 a1 a2 && true)
  else !sallyportlaw3_DecodeNumbers_c3 a0 a1 a2 && (!sallyportlaw3_DecodeNumbers_c3 a0 a1 a2 && true)
theorem sallyportlaw3_DecodeNumbers0_eq (a0 : Int) (a1 : Int) (a2 : Int)  : sallyportlaw3_DecodeNumbers0r a0 a1 a2  = sallyportlaw3_DecodeNumbers0 a0 a1 a2  := by
  unfold sallyportlaw3_DecodeNumbers0r
  first | (simp only [sallyportlaw3_DecodeNumbers_c0, sallyportlaw3_DecodeNumbers_c1, sallyportlaw3_DecodeNumbers_c2, sallyportlaw3_DecodeNumbers_c3, sallyportlaw3_DecodeNumbers_c4, sallyportlaw3_DecodeNumbers_c5, sallyportlaw3_DecodeNumbers_c6, sallyportlaw3_DecodeNumbers_c7, sallyportlaw3_DecodeNumbers_c8, sallyportlaw3_DecodeNumbers_c9, Go.Ev.cS1, Go.Ev.cS2, Go.Ev.cS3, Go.Ev.cS4, Go.Ev.cS6, Go.Ev.cS7]; done) | (simp only [sallyportlaw3_DecodeNumbers_c0, sallyportlaw3_DecodeNumbers_c1, sallyportlaw3_DecodeNumbers_c2, sallyportlaw3_DecodeNumbers_c3, sallyportlaw3_DecodeNumbers_c4, sallyportlaw3_DecodeNumbers_c5, sallyportlaw3_DecodeNumbers_c6, sallyportlaw3_DecodeNumbers_c7, sallyportlaw3_DecodeNumbers_c8, sallyportlaw3_DecodeNumbers_c9, Go.Ev.cS1, Go.Ev.cS2, Go.Ev.cS3, Go.Ev.cS4, Go.Ev.cS6, Go.Ev.cS7]; kernel_rfl)
def sallyportlaw3_DecodeNumbersV (a0 : Int) (a1 : Int) (a2 : Int) : AV := .bl (sallyportlaw3_DecodeNumbers0 a0 a1 a2)
def sallyportlaw3_DecodeNumbersVr (a0 : Int) (a1 : Int) (a2 : Int) : AV := .bl (sallyportlaw3_DecodeNumbers0r a0 a1 a2)
theorem sallyportlaw3_DecodeNumbersV_eq (a0 : Int) (a1 : Int) (a2 : Int) : sallyportlaw3_DecodeNumbersVr a0 a1 a2 = sallyportlaw3_DecodeNumbersV a0 a1 a2 := by
  unfold sallyportlaw3_DecodeNumbersVr sallyportlaw3_DecodeNumbersV
  simp only [sallyportlaw3_DecodeNumbers0_eq]
theorem sallyportlaw3_DecodeNumbersE (g : Nat → AV) : pcOf Try.prog okT (lookR T9) (inlO Try.prog okT (lookR T9) RO FS 400 ST (hOnce Try.prog 64 25 21) 8) RO NOV 100 false Try.f10 (norms [(.int .i16), (.int .u8), (.int .u8)] 0 g) = some (sallyportlaw3_DecodeNumbersG ((g 0).num) ((g 1).num) ((g 2).num), sallyportlaw3_DecodeNumbersV ((g 0).num) ((g 1).num) ((g 2).num)) :=
  (by kernel_rfl : pcOf Try.prog okT (lookR T9) (inlO Try.prog okT (lookR T9) RO FS 400 ST (hOnce Try.prog 64 25 21) 8) RO NOV 100 false Try.f10 (norms [(.int .i16), (.int .u8), (.int .u8)] 0 g) = some (sallyportlaw3_DecodeNumbersG ((g 0).num) ((g 1).num) ((g 2).num), sallyportlaw3_DecodeNumbersVr ((g 0).num) ((g 1).num) ((g 2).num))).trans (by rw [sallyportlaw3_DecodeNumbersV_eq])
theorem sallyportlaw3_DecodeNumbersP : Plain Try.prog 10 Try.f10 := ⟨Try.func10, of_decide_eq_true (by kernel_rfl)⟩
theorem sallyportlaw3_DecodeNumbersT (a0 : Int) (a1 : Int) (a2 : Int) : sallyportlaw3_DecodeNumbersG a0 a1 a2 = true := by first | (simp [sallyportlaw3_DecodeNumbersG]; done) | (simp [sallyportlaw3_DecodeNumbersG, Go.Ev.iEq, Go.Ev.iNe, Go.Ev.iLt, Go.Ev.iLe, Go.Ev.iIn]; omega)
theorem sallyportlaw3_DecodeNumbersO : RowOk Try.prog 10 (rowF [(.int .i16), (.int .u8), (.int .u8)] none fun g => sallyportlaw3_DecodeNumbersV ((g 0).num) ((g 1).num) ((g 2).num)) := rowT_ok fun g => pcOf_ok mix fair T9_ok (inlO_ok mix fair T9_ok FS_ok (fun _ h => hOnce_ok once_ok h) 8) sallyportlaw3_DecodeNumbersP (fun c _ => OvOk_none c) (sallyportlaw3_DecodeNumbersE g) (sallyportlaw3_DecodeNumbersT ((g 0).num) ((g 1).num) ((g 2).num))
def T10 : List Row := (10, (rowF [(.int .i16), (.int .u8), (.int .u8)] none fun g => sallyportlaw3_DecodeNumbersV ((g 0).num) ((g 1).num) ((g 2).num))) :: T9
theorem T10_ok : PSound Try.prog (lookR T10) := lookR_cons sallyportlaw3_DecodeNumbersO T9_ok

/- sallyport/guess.Next -/
def guess_Next0 (a0 : Int) (a1 : Int) : Int :=
  bif bif iEq (decode_Decode6 a1) 0 then bif iEq (decode_Decode0 a1) 3 then true else bif iEq (insn_Class0 (decode_Decode0 a1)) 2 then iLt (decode_Decode4 a1) 0 else false else false then
    iAdd IntKind.u64 a0 (iConv IntKind.u64 (decode_Decode4 a1))
  else iAdd IntKind.u64 a0 4
def guess_NextG (a0 : Int) (a1 : Int) : Bool :=
  bif bif iEq (decode_Decode6 a1) 0 then bif iEq (decode_Decode0 a1) 3 then true else bif iEq (insn_Class0 (decode_Decode0 a1)) 2 then iLt (decode_Decode4 a1) 0 else false else false then true else true
def guess_NextV (a0 : Int) (a1 : Int) : AV := .it .u64 (guess_Next0 a0 a1)
theorem guess_NextE (g : Nat → AV) : pcOf Try.prog okT (lookR T10) (inlO Try.prog okT (lookR T10) RO FS 400 ST (hOnce Try.prog 64 25 21) 8) RO NOV 100 false Try.f15 (norms [(.int .u64), (.int .u32)] 0 g) = some (guess_NextG ((g 0).num) ((g 1).num), guess_NextV ((g 0).num) ((g 1).num)) := by kernel_rfl
theorem guess_NextP : Plain Try.prog 15 Try.f15 := ⟨Try.func15, of_decide_eq_true (by kernel_rfl)⟩
theorem guess_NextT (a0 : Int) (a1 : Int) : guess_NextG a0 a1 = true := by
  unfold guess_NextG
  simp only [Go.Ev.cS1, Go.Ev.cS2, Go.Ev.cS3, Go.Ev.cS4, Go.Ev.cS6, Go.Ev.cS7]
theorem guess_NextO : RowOk Try.prog 15 (rowF [(.int .u64), (.int .u32)] none fun g => guess_NextV ((g 0).num) ((g 1).num)) := rowT_ok fun g => pcOf_ok mix fair T10_ok (inlO_ok mix fair T10_ok FS_ok (fun _ h => hOnce_ok once_ok h) 8) guess_NextP (fun c _ => OvOk_none c) (guess_NextE g) (guess_NextT ((g 0).num) ((g 1).num))
def T15 : List Row := (15, (rowF [(.int .u64), (.int .u32)] none fun g => guess_NextV ((g 0).num) ((g 1).num))) :: T10
theorem T15_ok : PSound Try.prog (lookR T15) := lookR_cons guess_NextO T10_ok

/- sallyport/guess.Sure -/
def guess_Sure0 (a0 : Int) : Bool :=
  bif iNe (decode_Decode6 a0) 0 then false
  else
    bif
        bif iNe (decode_Decode0 a0) 4 then
          bif (insn_Class0 (decode_Decode0 a0)).toNat == 6 then true
          else
            bif (insn_Class0 (decode_Decode0 a0)).toNat == 5 then true
            else bif (insn_Class0 (decode_Decode0 a0)).toNat == 4 then true else bif (insn_Class0 (decode_Decode0 a0)).toNat == 3 then true else (insn_Class0 (decode_Decode0 a0)).toNat == 1
        else false then
      true
    else iEq (decode_Decode0 a0) 50
def guess_Sure0r (a0 : Int) : Bool :=
  bif iNe (decode_Decode6 a0) 0 then false
  else
    bif
        bif iNe (decode_Decode0 a0) 4 then
          bif (insn_Class0 (decode_Decode0 a0)).toNat == 6 then true
          else
            bif (insn_Class0 (decode_Decode0 a0)).toNat == 5 then true
            else
              bif (insn_Class0 (decode_Decode0 a0)).toNat == 4 then true
              else bif (insn_Class0 (decode_Decode0 a0)).toNat == 3 then true else bif (insn_Class0 (decode_Decode0 a0)).toNat == 1 then true else false
        else false then
      true
    else iEq (decode_Decode0 a0) 50
def guess_SureG (a0 : Int) : Bool :=
  bif iNe (decode_Decode6 a0) 0 then true else (!iNe (decode_Decode0 a0) 4 || iIn (insn_Class0 (decode_Decode0 a0)) 13) && true
theorem guess_Sure0_eq (a0 : Int)  : guess_Sure0r a0  = guess_Sure0 a0  := by
  unfold guess_Sure0r
  first | (simp only [Go.Ev.cS1, Go.Ev.cS2, Go.Ev.cS3, Go.Ev.cS4, Go.Ev.cS6, Go.Ev.cS7]; done) | (simp only [Go.Ev.cS1, Go.Ev.cS2, Go.Ev.cS3, Go.Ev.cS4, Go.Ev.cS6, Go.Ev.cS7]; kernel_rfl)
def guess_SureV (a0 : Int) : AV := .bl (guess_Sure0 a0)
def guess_SureVr (a0 : Int) : AV := .bl (guess_Sure0r a0)
theorem guess_SureV_eq (a0 : Int) : guess_SureVr a0 = guess_SureV a0 := by
  unfold guess_SureVr guess_SureV
  simp only [guess_Sure0_eq]
theorem guess_SureE (g : Nat → AV) : pcOf Try.prog okT (lookR T15) (inlO Try.prog okT (lookR T15) RO FS 400 ST (hOnce Try.prog 64 25 21) 8) RO NOV 100 false Try.f16 (norms [(.int .u32)] 0 g) = some (guess_SureG ((g 0).num), guess_SureV ((g 0).num)) :=
  (by kernel_rfl : pcOf Try.prog okT (lookR T15) (inlO Try.prog okT (lookR T15) RO FS 400 ST (hOnce Try.prog 64 25 21) 8) RO NOV 100 false Try.f16 (norms [(.int .u32)] 0 g) = some (guess_SureG ((g 0).num), guess_SureVr ((g 0).num))).trans (by rw [guess_SureV_eq])
theorem guess_SureP : Plain Try.prog 16 Try.f16 := ⟨Try.func16, of_decide_eq_true (by kernel_rfl)⟩
theorem guess_SureT (a0 : Int) : guess_SureG a0 = true := by
  unfold guess_SureG
  rw [show iIn (insn_Class0 (decode_Decode0 a0)) 13 = true from iIn_true.2 (iclass_in _)]
  simp
theorem guess_SureO : RowOk Try.prog 16 (rowF [(.int .u32)] none fun g => guess_SureV ((g 0).num)) := rowT_ok fun g => pcOf_ok mix fair T15_ok (inlO_ok mix fair T15_ok FS_ok (fun _ h => hOnce_ok once_ok h) 8) guess_SureP (fun c _ => OvOk_none c) (guess_SureE g) (guess_SureT ((g 0).num))
def T16 : List Row := (16, (rowF [(.int .u32)] none fun g => guess_SureV ((g 0).num))) :: T15
theorem T16_ok : PSound Try.prog (lookR T16) := lookR_cons guess_SureO T15_ok

/- sallyport/guess.Wrong -/
def guess_Wrong0 (a0 : Int) (a1 : Int) (a2 : Int) : Bool :=
  iNe (guess_Next0 a0 a1) a2
def guess_WrongG (a0 : Int) (a1 : Int) (a2 : Int) : Bool :=
  true
def guess_WrongV (a0 : Int) (a1 : Int) (a2 : Int) : AV := .bl (guess_Wrong0 a0 a1 a2)
theorem guess_WrongE (g : Nat → AV) : pcOf Try.prog okT (lookR T16) (inlO Try.prog okT (lookR T16) RO FS 400 ST (hOnce Try.prog 64 25 21) 8) RO NOV 100 false Try.f18 (norms [(.int .u64), (.int .u32), (.int .u64)] 0 g) = some (guess_WrongG ((g 0).num) ((g 1).num) ((g 2).num), guess_WrongV ((g 0).num) ((g 1).num) ((g 2).num)) := by kernel_rfl
theorem guess_WrongP : Plain Try.prog 18 Try.f18 := ⟨Try.func18, of_decide_eq_true (by kernel_rfl)⟩
theorem guess_WrongT (a0 : Int) (a1 : Int) (a2 : Int) : guess_WrongG a0 a1 a2 = true := rfl
theorem guess_WrongO : RowOk Try.prog 18 (rowF [(.int .u64), (.int .u32), (.int .u64)] none fun g => guess_WrongV ((g 0).num) ((g 1).num) ((g 2).num)) := rowT_ok fun g => pcOf_ok mix fair T16_ok (inlO_ok mix fair T16_ok FS_ok (fun _ h => hOnce_ok once_ok h) 8) guess_WrongP (fun c _ => OvOk_none c) (guess_WrongE g) (guess_WrongT ((g 0).num) ((g 1).num) ((g 2).num))
def T18 : List Row := (18, (rowF [(.int .u64), (.int .u32), (.int .u64)] none fun g => guess_WrongV ((g 0).num) ((g 1).num) ((g 2).num))) :: T16
theorem T18_ok : PSound Try.prog (lookR T18) := lookR_cons guess_WrongO T16_ok

/- sallyport/sallyportlaw20.known -/
def sallyportlaw20_knownG  : Bool :=
  true
def sallyportlaw20_knownV  : AV := .bl true
theorem sallyportlaw20_knownE (g : Nat → AV) : pcOf Try.prog okT (lookR T18) (inlO Try.prog okT (lookR T18) RO FS 400 ST (hOnce Try.prog 64 25 21) 8) RO NOV 100 true Try.f11 (norms [] 0 g) = some (sallyportlaw20_knownG , sallyportlaw20_knownV ) := by kernel_rfl
theorem sallyportlaw20_knownP : Plain Try.prog 11 Try.f11 := ⟨Try.func11, of_decide_eq_true (by kernel_rfl)⟩
theorem sallyportlaw20_knownT  : sallyportlaw20_knownG  = true := rfl
theorem sallyportlaw20_knownO : RowOk Try.prog 11 (rowF [] none fun g => sallyportlaw20_knownV ) := rowT_ok fun g => pcOf_ok mix fair T18_ok (inlO_ok mix fair T18_ok FS_ok (fun _ h => hOnce_ok once_ok h) 8) sallyportlaw20_knownP (fun c _ => OvOk_none c) (sallyportlaw20_knownE g) (sallyportlaw20_knownT )
def T11 : List Row := (11, (rowF [] none fun g => sallyportlaw20_knownV )) :: T18
theorem T11_ok : PSound Try.prog (lookR T11) := lookR_cons sallyportlaw20_knownO T18_ok

/- sallyport/sallyportlaw20.GuessLoops -/
def sallyportlaw20_GuessLoops_c0 (a0 : Int) (a1 : Int) (a2 : Int) : Int → Bool :=
  guess_Wrong0 a0 (sallyportref3_Encode0 (iAdd IntKind.i64 5 (iConv IntKind.i64 (iRem a2 6))) 0 1 2 (iSub IntKind.i64 0 (iAdd IntKind.i64 (iMul IntKind.i64 (iConv IntKind.i64 (iRem a1 2000)) 2) 2)) 0)
def sallyportlaw20_GuessLoops_c1 (a0 : Int) (a1 : Int) (a2 : Int) : Int → Bool :=
  guess_Wrong0 a0 (sallyportref3_Encode0 (iAdd IntKind.i64 5 (iConv IntKind.i64 (iRem a2 6))) 0 1 2 (iAdd IntKind.i64 (iMul IntKind.i64 (iConv IntKind.i64 (iRem a1 2000)) 2) 2) 0)
def sallyportlaw20_GuessLoops_c2 (a0 : Int) (a1 : Int) (a2 : Int) : Bool :=
  bif
      bif
          bif
              bif
                  bif
                      bif
                          sallyportref3_Encode1 (iAdd IntKind.i64 5 (iConv IntKind.i64 (iRem a2 6))) 0 1 2
                            (iSub IntKind.i64 0 (iAdd IntKind.i64 (iMul IntKind.i64 (iConv IntKind.i64 (iRem a1 2000)) 2) 2)) 0 then
                        sallyportref3_Encode1 (iAdd IntKind.i64 5 (iConv IntKind.i64 (iRem a2 6))) 0 1 2 (iAdd IntKind.i64 (iMul IntKind.i64 (iConv IntKind.i64 (iRem a1 2000)) 2) 2) 0
                      else false then
                    !sallyportlaw20_GuessLoops_c0 a0 a1 a2 (iSub IntKind.u64 a0 (iConv IntKind.u64 (iAdd IntKind.i64 (iMul IntKind.i64 (iConv IntKind.i64 (iRem a1 2000)) 2) 2)))
                  else false then
                sallyportlaw20_GuessLoops_c0 a0 a1 a2 (iAdd IntKind.u64 a0 4)
              else false then
            !sallyportlaw20_GuessLoops_c1 a0 a1 a2 (iAdd IntKind.u64 a0 4)
          else false then
        bif iEq (iAdd IntKind.i64 (iMul IntKind.i64 (iConv IntKind.i64 (iRem a1 2000)) 2) 2) 4 then true
        else sallyportlaw20_GuessLoops_c1 a0 a1 a2 (iAdd IntKind.u64 a0 (iConv IntKind.u64 (iAdd IntKind.i64 (iMul IntKind.i64 (iConv IntKind.i64 (iRem a1 2000)) 2) 2)))
      else false then
    iEq (guess_Next0 a0 115) (iAdd IntKind.u64 a0 4)
  else false
def sallyportlaw20_GuessLoops0 (a0 : Int) (a1 : Int) (a2 : Int) : Bool :=
  sallyportlaw20_GuessLoops_c2 a0 a1 a2
def sallyportlaw20_GuessLoops0r (a0 : Int) (a1 : Int) (a2 : Int) : Bool :=
  bif bif sallyportlaw20_GuessLoops_c2 a0 a1 a2 then true else false then true else false
def sallyportlaw20_GuessLoopsG (a0 : Int) (a1 : Int) (a2 : Int) : Bool :=
  true
theorem sallyportlaw20_GuessLoops0_eq (a0 : Int) (a1 : Int) (a2 : Int)  : sallyportlaw20_GuessLoops0r a0 a1 a2  = sallyportlaw20_GuessLoops0 a0 a1 a2  := by
  unfold sallyportlaw20_GuessLoops0r
  first | (simp only [sallyportlaw20_GuessLoops_c0, sallyportlaw20_GuessLoops_c1, sallyportlaw20_GuessLoops_c2, Go.Ev.cS1, Go.Ev.cS2, Go.Ev.cS3, Go.Ev.cS4, Go.Ev.cS6, Go.Ev.cS7]; done) | (simp only [sallyportlaw20_GuessLoops_c0, sallyportlaw20_GuessLoops_c1, sallyportlaw20_GuessLoops_c2, Go.Ev.cS1, Go.Ev.cS2, Go.Ev.cS3, Go.Ev.cS4, Go.Ev.cS6, Go.Ev.cS7]; kernel_rfl)
def sallyportlaw20_GuessLoopsV (a0 : Int) (a1 : Int) (a2 : Int) : AV := .bl (sallyportlaw20_GuessLoops0 a0 a1 a2)
def sallyportlaw20_GuessLoopsVr (a0 : Int) (a1 : Int) (a2 : Int) : AV := .bl (sallyportlaw20_GuessLoops0r a0 a1 a2)
theorem sallyportlaw20_GuessLoopsV_eq (a0 : Int) (a1 : Int) (a2 : Int) : sallyportlaw20_GuessLoopsVr a0 a1 a2 = sallyportlaw20_GuessLoopsV a0 a1 a2 := by
  unfold sallyportlaw20_GuessLoopsVr sallyportlaw20_GuessLoopsV
  simp only [sallyportlaw20_GuessLoops0_eq]
theorem sallyportlaw20_GuessLoopsE (g : Nat → AV) : pcOf Try.prog okT (lookR T11) (inlO Try.prog okT (lookR T11) RO FS 400 ST (hOnce Try.prog 64 25 21) 8) RO NOV 100 false Try.f5 (norms [(.int .u64), (.int .u16), (.int .u8)] 0 g) = some (sallyportlaw20_GuessLoopsG ((g 0).num) ((g 1).num) ((g 2).num), sallyportlaw20_GuessLoopsV ((g 0).num) ((g 1).num) ((g 2).num)) :=
  (by kernel_rfl : pcOf Try.prog okT (lookR T11) (inlO Try.prog okT (lookR T11) RO FS 400 ST (hOnce Try.prog 64 25 21) 8) RO NOV 100 false Try.f5 (norms [(.int .u64), (.int .u16), (.int .u8)] 0 g) = some (sallyportlaw20_GuessLoopsG ((g 0).num) ((g 1).num) ((g 2).num), sallyportlaw20_GuessLoopsVr ((g 0).num) ((g 1).num) ((g 2).num))).trans (by rw [sallyportlaw20_GuessLoopsV_eq])
theorem sallyportlaw20_GuessLoopsP : Plain Try.prog 5 Try.f5 := ⟨Try.func5, of_decide_eq_true (by kernel_rfl)⟩
theorem sallyportlaw20_GuessLoopsT (a0 : Int) (a1 : Int) (a2 : Int) : sallyportlaw20_GuessLoopsG a0 a1 a2 = true := rfl
theorem sallyportlaw20_GuessLoopsO : RowOk Try.prog 5 (rowF [(.int .u64), (.int .u16), (.int .u8)] none fun g => sallyportlaw20_GuessLoopsV ((g 0).num) ((g 1).num) ((g 2).num)) := rowT_ok fun g => pcOf_ok mix fair T11_ok (inlO_ok mix fair T11_ok FS_ok (fun _ h => hOnce_ok once_ok h) 8) sallyportlaw20_GuessLoopsP (fun c _ => OvOk_none c) (sallyportlaw20_GuessLoopsE g) (sallyportlaw20_GuessLoopsT ((g 0).num) ((g 1).num) ((g 2).num))
def T5 : List Row := (5, (rowF [(.int .u64), (.int .u16), (.int .u8)] none fun g => sallyportlaw20_GuessLoopsV ((g 0).num) ((g 1).num) ((g 2).num))) :: T11
theorem T5_ok : PSound Try.prog (lookR T5) := lookR_cons sallyportlaw20_GuessLoopsO T11_ok

/- sallyport/sallyportref8.Mask -/
def sallyportref8_Mask_c0 (a0 : Int) : Bool :=
  bif iEq a0 16 then true
  else
    bif iEq a0 17 then true
    else
      bif iEq a0 18 then bif iEq a0 18 then true else bif iEq a0 22 then true else bif bif iLt a0 0 then true else iLe 29 a0 then true else true
      else bif iEq a0 19 then true else bif iEq a0 22 then true else bif bif iLt a0 0 then true else iLe 29 a0 then true else true
def sallyportref8_Mask_c1 (a0 : Int) : Bool :=
  bif iEq a0 15 then bif iEq a0 15 then true else sallyportref8_Mask_c0 a0
  else bif iEq a0 28 then bif iEq a0 28 then true else sallyportref8_Mask_c0 a0 else bif iEq a0 21 then true else sallyportref8_Mask_c0 a0
def sallyportref8_Mask_c2 (a0 : Int) : Int :=
  bif iEq a0 19 then 1088 else bif iEq a0 22 then 786722 else bif bif iLt a0 0 then true else iLe 29 a0 then 0 else 18446744073709551615
def sallyportref8_Mask_c3 (a0 : Int) : Int :=
  bif iEq a0 16 then 7340992
  else
    bif iEq a0 17 then 45567
    else bif iEq a0 18 then bif iEq a0 18 then 1088 else bif iEq a0 22 then 786722 else bif bif iLt a0 0 then true else iLe 29 a0 then 0 else 18446744073709551615 else sallyportref8_Mask_c2 a0
def sallyportref8_Mask_c4 (a0 : Int) : Int :=
  bif iEq a0 15 then bif iEq a0 15 then 9223372036871487743 else sallyportref8_Mask_c3 a0
  else bif iEq a0 28 then bif iEq a0 28 then 9223372036871487743 else sallyportref8_Mask_c3 a0 else bif iEq a0 21 then 9223372036871487743 else sallyportref8_Mask_c3 a0
def sallyportref8_Mask0 (a0 : Int) : Int :=
  bif iEq a0 0 then 824641853866
  else
    bif iEq a0 1 then 15775231
    else
      bif iEq a0 2 then 544
      else
        bif iEq a0 3 then 1632
        else
          bif iEq a0 4 then 18446744073709551612
          else
            bif iEq a0 10 then 18446744073709551612
            else
              bif iEq a0 23 then 18446744073709551612
              else
                bif iEq a0 6 then 18446744073709551612
                else
                  bif iEq a0 12 then 18446744073709551612
                  else
                    bif iEq a0 25 then 18446744073709551612
                    else
                      bif iEq a0 15 then 9223372036871487743
                      else
                        bif iEq a0 28 then 9223372036871487743
                        else bif iEq a0 21 then 9223372036871487743 else bif iEq a0 16 then 7340992 else bif iEq a0 17 then 45567 else bif iEq a0 18 then 1088 else sallyportref8_Mask_c2 a0
def sallyportref8_Mask0r (a0 : Int) : Int :=
  bif iEq a0 0 then 824641853866
  else
    bif iEq a0 1 then 15775231
    else
      bif iEq a0 2 then 544
      else
        bif iEq a0 3 then 1632
        else
          bif iEq a0 4 then bif iEq a0 4 then 18446744073709551612 else sallyportref8_Mask_c4 a0
          else
            bif iEq a0 10 then bif iEq a0 10 then 18446744073709551612 else sallyportref8_Mask_c4 a0
            else
              bif iEq a0 23 then bif iEq a0 23 then 18446744073709551612 else sallyportref8_Mask_c4 a0
              else
                bif iEq a0 6 then bif iEq a0 6 then 18446744073709551612 else sallyportref8_Mask_c4 a0
                else bif iEq a0 12 then bif iEq a0 12 then 18446744073709551612 else sallyportref8_Mask_c4 a0 else bif iEq a0 25 then 18446744073709551612 else sallyportref8_Mask_c4 a0
def sallyportref8_MaskG (a0 : Int) : Bool :=
  bif iEq a0 0 then true
  else
    bif iEq a0 1 then true
    else
      bif iEq a0 2 then true
      else
        bif iEq a0 3 then true
        else
          bif iEq a0 4 then bif iEq a0 4 then true else sallyportref8_Mask_c1 a0
          else
            bif iEq a0 10 then bif iEq a0 10 then true else sallyportref8_Mask_c1 a0
            else
              bif iEq a0 23 then bif iEq a0 23 then true else sallyportref8_Mask_c1 a0
              else
                bif iEq a0 6 then bif iEq a0 6 then true else sallyportref8_Mask_c1 a0
                else bif iEq a0 12 then bif iEq a0 12 then true else sallyportref8_Mask_c1 a0 else bif iEq a0 25 then true else sallyportref8_Mask_c1 a0
theorem sallyportref8_Mask0_eq (a0 : Int)  : sallyportref8_Mask0r a0  = sallyportref8_Mask0 a0  := by
  unfold sallyportref8_Mask0r
  first | (simp only [sallyportref8_Mask_c0, sallyportref8_Mask_c1, sallyportref8_Mask_c2, sallyportref8_Mask_c3, sallyportref8_Mask_c4, Go.Ev.cS1, Go.Ev.cS2, Go.Ev.cS3, Go.Ev.cS4, Go.Ev.cS6, Go.Ev.cS7]; done) | (simp only [sallyportref8_Mask_c0, sallyportref8_Mask_c1, sallyportref8_Mask_c2, sallyportref8_Mask_c3, sallyportref8_Mask_c4, Go.Ev.cS1, Go.Ev.cS2, Go.Ev.cS3, Go.Ev.cS4, Go.Ev.cS6, Go.Ev.cS7]; kernel_rfl)
def sallyportref8_MaskV (a0 : Int) : AV := .it .u64 (sallyportref8_Mask0 a0)
def sallyportref8_MaskVr (a0 : Int) : AV := .it .u64 (sallyportref8_Mask0r a0)
theorem sallyportref8_MaskV_eq (a0 : Int) : sallyportref8_MaskVr a0 = sallyportref8_MaskV a0 := by
  unfold sallyportref8_MaskVr sallyportref8_MaskV
  simp only [sallyportref8_Mask0_eq]
theorem sallyportref8_MaskE (g : Nat → AV) : pcOf Try.prog okT (lookR T5) (inlO Try.prog okT (lookR T5) RO FS 400 ST (hOnce Try.prog 64 25 21) 8) RO NOV 100 false Try.f33 (norms [(.int .i64)] 0 g) = some (sallyportref8_MaskG ((g 0).num), sallyportref8_MaskV ((g 0).num)) :=
  (by kernel_rfl : pcOf Try.prog okT (lookR T5) (inlO Try.prog okT (lookR T5) RO FS 400 ST (hOnce Try.prog 64 25 21) 8) RO NOV 100 false Try.f33 (norms [(.int .i64)] 0 g) = some (sallyportref8_MaskG ((g 0).num), sallyportref8_MaskVr ((g 0).num))).trans (by rw [sallyportref8_MaskV_eq])
theorem sallyportref8_MaskP : Plain Try.prog 33 Try.f33 := ⟨Try.func33, of_decide_eq_true (by kernel_rfl)⟩
theorem sallyportref8_MaskT (a0 : Int) : sallyportref8_MaskG a0 = true := by
  unfold sallyportref8_MaskG
  simp only [sallyportref8_Mask_c0, sallyportref8_Mask_c1, sallyportref8_Mask_c2, sallyportref8_Mask_c3, sallyportref8_Mask_c4, Go.Ev.cS1, Go.Ev.cS2, Go.Ev.cS3, Go.Ev.cS4, Go.Ev.cS6, Go.Ev.cS7]
theorem sallyportref8_MaskO : RowOk Try.prog 33 (rowF [(.int .i64)] none fun g => sallyportref8_MaskV ((g 0).num)) := rowT_ok fun g => pcOf_ok mix fair T5_ok (inlO_ok mix fair T5_ok FS_ok (fun _ h => hOnce_ok once_ok h) 8) sallyportref8_MaskP (fun c _ => OvOk_none c) (sallyportref8_MaskE g) (sallyportref8_MaskT ((g 0).num))
def T33 : List Row := (33, (rowF [(.int .i64)] none fun g => sallyportref8_MaskV ((g 0).num))) :: T5
theorem T33_ok : PSound Try.prog (lookR T33) := lookR_cons sallyportref8_MaskO T5_ok

/- sallyport/sallyportref8.Mpp -/
def sallyportref8_Mpp0 (a0 : Int) : Int :=
  bif iEq (iAnd IntKind.u64 (iShr IntKind.u64 a0 11) 3) 2 then iAndNot IntKind.u64 a0 6144 else a0
def sallyportref8_MppG (a0 : Int) : Bool :=
  bif iEq (iAnd IntKind.u64 (iShr IntKind.u64 a0 11) 3) 2 then true else true
def sallyportref8_MppV (a0 : Int) : AV := .it .u64 (sallyportref8_Mpp0 a0)
theorem sallyportref8_MppE (g : Nat → AV) : pcOf Try.prog okT (lookR T33) (inlO Try.prog okT (lookR T33) RO FS 400 ST (hOnce Try.prog 64 25 21) 8) RO NOV 100 false Try.f34 (norms [(.int .u64)] 0 g) = some (sallyportref8_MppG ((g 0).num), sallyportref8_MppV ((g 0).num)) := by kernel_rfl
theorem sallyportref8_MppP : Plain Try.prog 34 Try.f34 := ⟨Try.func34, of_decide_eq_true (by kernel_rfl)⟩
theorem sallyportref8_MppT (a0 : Int) : sallyportref8_MppG a0 = true := by
  unfold sallyportref8_MppG
  simp only [Go.Ev.cS1, Go.Ev.cS2, Go.Ev.cS3, Go.Ev.cS4, Go.Ev.cS6, Go.Ev.cS7]
theorem sallyportref8_MppO : RowOk Try.prog 34 (rowF [(.int .u64)] none fun g => sallyportref8_MppV ((g 0).num)) := rowT_ok fun g => pcOf_ok mix fair T33_ok (inlO_ok mix fair T33_ok FS_ok (fun _ h => hOnce_ok once_ok h) 8) sallyportref8_MppP (fun c _ => OvOk_none c) (sallyportref8_MppE g) (sallyportref8_MppT ((g 0).num))
def T34 : List Row := (34, (rowF [(.int .u64)] none fun g => sallyportref8_MppV ((g 0).num))) :: T33
theorem T34_ok : PSound Try.prog (lookR T34) := lookR_cons sallyportref8_MppO T33_ok

/- sallyport/sallyportref18.Clean -/
def sallyportref18_Clean0 (a0_X : Nat → Int) (a0_PC : Int) (a0_Level : Int) (a0_V : Bool) (a0_C : Nat → Int) (a0_Done : Int) : Nat → Int :=
  fun i0 => bif i0 == 0 then 0 else a0_X i0
def sallyportref18_Clean0r (a0_X : Nat → Int) (a0_PC : Int) (a0_Level : Int) (a0_V : Bool) (a0_C : Nat → Int) (a0_Done : Int) : Nat → Int :=
  fun i0 => bif bif bif iNe a0_Level 0 then iNe a0_Level 1 else false then iNe a0_Level 3 else false then bif i0 == 0 then 0 else a0_X i0
  else bif iEq a0_Level 3 then bif i0 == 0 then 0 else a0_X i0 else bif i0 == 0 then 0 else a0_X i0
def sallyportref18_Clean1 (a0_X : Nat → Int) (a0_PC : Int) (a0_Level : Int) (a0_V : Bool) (a0_C : Nat → Int) (a0_Done : Int) : Int :=
  iAndNot IntKind.u64 a0_PC 3
def sallyportref18_Clean1r (a0_X : Nat → Int) (a0_PC : Int) (a0_Level : Int) (a0_V : Bool) (a0_C : Nat → Int) (a0_Done : Int) : Int :=
  bif bif bif iNe a0_Level 0 then iNe a0_Level 1 else false then iNe a0_Level 3 else false then iAndNot IntKind.u64 a0_PC 3
  else bif iEq a0_Level 3 then iAndNot IntKind.u64 a0_PC 3 else iAndNot IntKind.u64 a0_PC 3
def sallyportref18_Clean2 (a0_X : Nat → Int) (a0_PC : Int) (a0_Level : Int) (a0_V : Bool) (a0_C : Nat → Int) (a0_Done : Int) : Int :=
  bif bif bif iNe a0_Level 0 then iNe a0_Level 1 else false then iNe a0_Level 3 else false then 3 else a0_Level
def sallyportref18_Clean2r (a0_X : Nat → Int) (a0_PC : Int) (a0_Level : Int) (a0_V : Bool) (a0_C : Nat → Int) (a0_Done : Int) : Int :=
  bif bif bif iNe a0_Level 0 then iNe a0_Level 1 else false then iNe a0_Level 3 else false then 3 else bif iEq a0_Level 3 then a0_Level else a0_Level
def sallyportref18_Clean3 (a0_X : Nat → Int) (a0_PC : Int) (a0_Level : Int) (a0_V : Bool) (a0_C : Nat → Int) (a0_Done : Int) : Bool :=
  bif bif bif iNe a0_Level 0 then iNe a0_Level 1 else false then iNe a0_Level 3 else false then false else bif iEq a0_Level 3 then false else a0_V
def sallyportref18_Clean4 (a0_X : Nat → Int) (a0_PC : Int) (a0_Level : Int) (a0_V : Bool) (a0_C : Nat → Int) (a0_Done : Int) : Nat → Int :=
  fun i0 => bif i0 == 0 then sallyportref8_Mpp0 (iAnd IntKind.u64 (a0_C 0) 824641853866)
  else
    bif i0 == 28 then iAnd IntKind.u64 (a0_C 28) 9223372036871487743
    else
      bif i0 == 27 then iAnd IntKind.u64 (a0_C 27) 18446744073709551615
      else
        bif i0 == 26 then iAnd IntKind.u64 (a0_C 26) 18446744073709551615
        else
          bif i0 == 25 then iAnd IntKind.u64 (a0_C 25) 18446744073709551612
          else
            bif i0 == 24 then iAnd IntKind.u64 (a0_C 24) 18446744073709551615
            else
              bif i0 == 23 then iAnd IntKind.u64 (a0_C 23) 18446744073709551612
              else
                bif i0 == 22 then iAnd IntKind.u64 (a0_C 22) 786722
                else
                  bif i0 == 21 then iAnd IntKind.u64 (a0_C 21) 9223372036871487743
                  else
                    bif i0 == 20 then iAnd IntKind.u64 (a0_C 20) 18446744073709551615
                    else
                      bif i0 == 19 then iAnd IntKind.u64 (a0_C 19) 1088
                      else
                        bif i0 == 18 then iAnd IntKind.u64 (a0_C 18) 1088
                        else
                          bif i0 == 17 then iAnd IntKind.u64 (a0_C 17) 45567
                          else
                            bif i0 == 16 then iAnd IntKind.u64 (a0_C 16) 7340992
                            else
                              bif i0 == 15 then iAnd IntKind.u64 (a0_C 15) 9223372036871487743
                              else
                                bif i0 == 14 then iAnd IntKind.u64 (a0_C 14) 18446744073709551615
                                else
                                  bif i0 == 13 then iAnd IntKind.u64 (a0_C 13) 18446744073709551615
                                  else
                                    bif i0 == 12 then iAnd IntKind.u64 (a0_C 12) 18446744073709551612
                                    else
                                      bif i0 == 11 then iAnd IntKind.u64 (a0_C 11) 18446744073709551615
                                      else
                                        bif i0 == 10 then iAnd IntKind.u64 (a0_C 10) 18446744073709551612
                                        else
                                          bif i0 == 9 then iAnd IntKind.u64 (a0_C 9) 18446744073709551615
                                          else
                                            bif i0 == 8 then iAnd IntKind.u64 (a0_C 8) 18446744073709551615
                                            else
                                              bif i0 == 7 then iAnd IntKind.u64 (a0_C 7) 18446744073709551615
                                              else
                                                bif i0 == 6 then iAnd IntKind.u64 (a0_C 6) 18446744073709551612
                                                else
                                                  bif i0 == 5 then iAnd IntKind.u64 (a0_C 5) 18446744073709551615
                                                  else
                                                    bif i0 == 4 then iAnd IntKind.u64 (a0_C 4) 18446744073709551612
                                                    else
                                                      bif i0 == 3 then iAnd IntKind.u64 (a0_C 3) 1632
                                                      else
                                                        bif i0 == 2 then iAnd IntKind.u64 (a0_C 2) 544
                                                        else bif i0 == 1 then iAnd IntKind.u64 (a0_C 1) 15775231 else bif i0 == 0 then iAnd IntKind.u64 (a0_C 0) 824641853866 else a0_C i0
def sallyportref18_Clean4r (a0_X : Nat → Int) (a0_PC : Int) (a0_Level : Int) (a0_V : Bool) (a0_C : Nat → Int) (a0_Done : Int) : Nat → Int :=
  fun i0 => bif bif bif iNe a0_Level 0 then iNe a0_Level 1 else false then iNe a0_Level 3 else false then
    bif i0 == 0 then sallyportref8_Mpp0 (iAnd IntKind.u64 (a0_C 0) 824641853866)
    else
      bif i0 == 28 then iAnd IntKind.u64 (a0_C 28) 9223372036871487743
      else
        bif i0 == 27 then iAnd IntKind.u64 (a0_C 27) 18446744073709551615
        else
          bif i0 == 26 then iAnd IntKind.u64 (a0_C 26) 18446744073709551615
          else
            bif i0 == 25 then iAnd IntKind.u64 (a0_C 25) 18446744073709551612
            else
              bif i0 == 24 then iAnd IntKind.u64 (a0_C 24) 18446744073709551615
              else
                bif i0 == 23 then iAnd IntKind.u64 (a0_C 23) 18446744073709551612
                else
                  bif i0 == 22 then iAnd IntKind.u64 (a0_C 22) 786722
                  else
                    bif i0 == 21 then iAnd IntKind.u64 (a0_C 21) 9223372036871487743
                    else
                      bif i0 == 20 then iAnd IntKind.u64 (a0_C 20) 18446744073709551615
                      else
                        bif i0 == 19 then iAnd IntKind.u64 (a0_C 19) 1088
                        else
                          bif i0 == 18 then iAnd IntKind.u64 (a0_C 18) 1088
                          else
                            bif i0 == 17 then iAnd IntKind.u64 (a0_C 17) 45567
                            else
                              bif i0 == 16 then iAnd IntKind.u64 (a0_C 16) 7340992
                              else
                                bif i0 == 15 then iAnd IntKind.u64 (a0_C 15) 9223372036871487743
                                else
                                  bif i0 == 14 then iAnd IntKind.u64 (a0_C 14) 18446744073709551615
                                  else
                                    bif i0 == 13 then iAnd IntKind.u64 (a0_C 13) 18446744073709551615
                                    else
                                      bif i0 == 12 then iAnd IntKind.u64 (a0_C 12) 18446744073709551612
                                      else
                                        bif i0 == 11 then iAnd IntKind.u64 (a0_C 11) 18446744073709551615
                                        else
                                          bif i0 == 10 then iAnd IntKind.u64 (a0_C 10) 18446744073709551612
                                          else
                                            bif i0 == 9 then iAnd IntKind.u64 (a0_C 9) 18446744073709551615
                                            else
                                              bif i0 == 8 then iAnd IntKind.u64 (a0_C 8) 18446744073709551615
                                              else
                                                bif i0 == 7 then iAnd IntKind.u64 (a0_C 7) 18446744073709551615
                                                else
                                                  bif i0 == 6 then iAnd IntKind.u64 (a0_C 6) 18446744073709551612
                                                  else
                                                    bif i0 == 5 then iAnd IntKind.u64 (a0_C 5) 18446744073709551615
                                                    else
                                                      bif i0 == 4 then iAnd IntKind.u64 (a0_C 4) 18446744073709551612
                                                      else
                                                        bif i0 == 3 then iAnd IntKind.u64 (a0_C 3) 1632
                                                        else
                                                          bif i0 == 2 then iAnd IntKind.u64 (a0_C 2) 544
                                                          else bif i0 == 1 then iAnd IntKind.u64 (a0_C 1) 15775231 else bif i0 == 0 then iAnd IntKind.u64 (a0_C 0) 824641853866 else a0_C i0
  else
    bif iEq a0_Level 3 then
      bif i0 == 0 then sallyportref8_Mpp0 (iAnd IntKind.u64 (a0_C 0) 824641853866)
      else
        bif i0 == 28 then iAnd IntKind.u64 (a0_C 28) 9223372036871487743
        else
          bif i0 == 27 then iAnd IntKind.u64 (a0_C 27) 18446744073709551615
          else
            bif i0 == 26 then iAnd IntKind.u64 (a0_C 26) 18446744073709551615
            else
              bif i0 == 25 then iAnd IntKind.u64 (a0_C 25) 18446744073709551612
              else
                bif i0 == 24 then iAnd IntKind.u64 (a0_C 24) 18446744073709551615
                else
                  bif i0 == 23 then iAnd IntKind.u64 (a0_C 23) 18446744073709551612
                  else
                    bif i0 == 22 then iAnd IntKind.u64 (a0_C 22) 786722
                    else
                      bif i0 == 21 then iAnd IntKind.u64 (a0_C 21) 9223372036871487743
                      else
                        bif i0 == 20 then iAnd IntKind.u64 (a0_C 20) 18446744073709551615
                        else
                          bif i0 == 19 then iAnd IntKind.u64 (a0_C 19) 1088
                          else
                            bif i0 == 18 then iAnd IntKind.u64 (a0_C 18) 1088
                            else
                              bif i0 == 17 then iAnd IntKind.u64 (a0_C 17) 45567
                              else
                                bif i0 == 16 then iAnd IntKind.u64 (a0_C 16) 7340992
                                else
                                  bif i0 == 15 then iAnd IntKind.u64 (a0_C 15) 9223372036871487743
                                  else
                                    bif i0 == 14 then iAnd IntKind.u64 (a0_C 14) 18446744073709551615
                                    else
                                      bif i0 == 13 then iAnd IntKind.u64 (a0_C 13) 18446744073709551615
                                      else
                                        bif i0 == 12 then iAnd IntKind.u64 (a0_C 12) 18446744073709551612
                                        else
                                          bif i0 == 11 then iAnd IntKind.u64 (a0_C 11) 18446744073709551615
                                          else
                                            bif i0 == 10 then iAnd IntKind.u64 (a0_C 10) 18446744073709551612
                                            else
                                              bif i0 == 9 then iAnd IntKind.u64 (a0_C 9) 18446744073709551615
                                              else
                                                bif i0 == 8 then iAnd IntKind.u64 (a0_C 8) 18446744073709551615
                                                else
                                                  bif i0 == 7 then iAnd IntKind.u64 (a0_C 7) 18446744073709551615
                                                  else
                                                    bif i0 == 6 then iAnd IntKind.u64 (a0_C 6) 18446744073709551612
                                                    else
                                                      bif i0 == 5 then iAnd IntKind.u64 (a0_C 5) 18446744073709551615
                                                      else
                                                        bif i0 == 4 then iAnd IntKind.u64 (a0_C 4) 18446744073709551612
                                                        else
                                                          bif i0 == 3 then iAnd IntKind.u64 (a0_C 3) 1632
                                                          else
                                                            bif i0 == 2 then iAnd IntKind.u64 (a0_C 2) 544
                                                            else bif i0 == 1 then iAnd IntKind.u64 (a0_C 1) 15775231 else bif i0 == 0 then iAnd IntKind.u64 (a0_C 0) 824641853866 else a0_C i0
    else
      bif i0 == 0 then sallyportref8_Mpp0 (iAnd IntKind.u64 (a0_C 0) 824641853866)
      else
        bif i0 == 28 then iAnd IntKind.u64 (a0_C 28) 9223372036871487743
        else
          bif i0 == 27 then iAnd IntKind.u64 (a0_C 27) 18446744073709551615
          else
            bif i0 == 26 then iAnd IntKind.u64 (a0_C 26) 18446744073709551615
            else
              bif i0 == 25 then iAnd IntKind.u64 (a0_C 25) 18446744073709551612
              else
                bif i0 == 24 then iAnd IntKind.u64 (a0_C 24) 18446744073709551615
                else
                  bif i0 == 23 then iAnd IntKind.u64 (a0_C 23) 18446744073709551612
                  else
                    bif i0 == 22 then iAnd IntKind.u64 (a0_C 22) 786722
                    else
                      bif i0 == 21 then iAnd IntKind.u64 (a0_C 21) 9223372036871487743
                      else
                        bif i0 == 20 then iAnd IntKind.u64 (a0_C 20) 18446744073709551615
                        else
                          bif i0 == 19 then iAnd IntKind.u64 (a0_C 19) 1088
                          else
                            bif i0 == 18 then iAnd IntKind.u64 (a0_C 18) 1088
                            else
                              bif i0 == 17 then iAnd IntKind.u64 (a0_C 17) 45567
                              else
                                bif i0 == 16 then iAnd IntKind.u64 (a0_C 16) 7340992
                                else
                                  bif i0 == 15 then iAnd IntKind.u64 (a0_C 15) 9223372036871487743
                                  else
                                    bif i0 == 14 then iAnd IntKind.u64 (a0_C 14) 18446744073709551615
                                    else
                                      bif i0 == 13 then iAnd IntKind.u64 (a0_C 13) 18446744073709551615
                                      else
                                        bif i0 == 12 then iAnd IntKind.u64 (a0_C 12) 18446744073709551612
                                        else
                                          bif i0 == 11 then iAnd IntKind.u64 (a0_C 11) 18446744073709551615
                                          else
                                            bif i0 == 10 then iAnd IntKind.u64 (a0_C 10) 18446744073709551612
                                            else
                                              bif i0 == 9 then iAnd IntKind.u64 (a0_C 9) 18446744073709551615
                                              else
                                                bif i0 == 8 then iAnd IntKind.u64 (a0_C 8) 18446744073709551615
                                                else
                                                  bif i0 == 7 then iAnd IntKind.u64 (a0_C 7) 18446744073709551615
                                                  else
                                                    bif i0 == 6 then iAnd IntKind.u64 (a0_C 6) 18446744073709551612
                                                    else
                                                      bif i0 == 5 then iAnd IntKind.u64 (a0_C 5) 18446744073709551615
                                                      else
                                                        bif i0 == 4 then iAnd IntKind.u64 (a0_C 4) 18446744073709551612
                                                        else
                                                          bif i0 == 3 then iAnd IntKind.u64 (a0_C 3) 1632
                                                          else
                                                            bif i0 == 2 then iAnd IntKind.u64 (a0_C 2) 544
                                                            else bif i0 == 1 then iAnd IntKind.u64 (a0_C 1) 15775231 else bif i0 == 0 then iAnd IntKind.u64 (a0_C 0) 824641853866 else a0_C i0
def sallyportref18_Clean5r (a0_X : Nat → Int) (a0_PC : Int) (a0_Level : Int) (a0_V : Bool) (a0_C : Nat → Int) (a0_Done : Int) : Int :=
  bif bif bif iNe a0_Level 0 then iNe a0_Level 1 else false then iNe a0_Level 3 else false then a0_Done else bif iEq a0_Level 3 then a0_Done else a0_Done
def sallyportref18_CleanG (a0_X : Nat → Int) (a0_PC : Int) (a0_Level : Int) (a0_V : Bool) (a0_C : Nat → Int) (a0_Done : Int) : Bool :=
  bif bif bif iNe a0_Level 0 then iNe a0_Level 1 else false then iNe a0_Level 3 else false then true else bif iEq a0_Level 3 then true else true
theorem sallyportref18_Clean0_eq (a0_X : Nat → Int) (a0_PC : Int) (a0_Level : Int) (a0_V : Bool) (a0_C : Nat → Int) (a0_Done : Int) (i0 : Nat) : sallyportref18_Clean0r a0_X a0_PC a0_Level a0_V a0_C a0_Done i0 = sallyportref18_Clean0 a0_X a0_PC a0_Level a0_V a0_C a0_Done i0 := by
  unfold sallyportref18_Clean0r
  first | (simp only [Go.Ev.cS1, Go.Ev.cS2, Go.Ev.cS3, Go.Ev.cS4, Go.Ev.cS6, Go.Ev.cS7]; done) | (simp only [Go.Ev.cS1, Go.Ev.cS2, Go.Ev.cS3, Go.Ev.cS4, Go.Ev.cS6, Go.Ev.cS7]; kernel_rfl)
theorem sallyportref18_Clean1_eq (a0_X : Nat → Int) (a0_PC : Int) (a0_Level : Int) (a0_V : Bool) (a0_C : Nat → Int) (a0_Done : Int)  : sallyportref18_Clean1r a0_X a0_PC a0_Level a0_V a0_C a0_Done  = sallyportref18_Clean1 a0_X a0_PC a0_Level a0_V a0_C a0_Done  := by
  unfold sallyportref18_Clean1r
  first | (simp only [Go.Ev.cS1, Go.Ev.cS2, Go.Ev.cS3, Go.Ev.cS4, Go.Ev.cS6, Go.Ev.cS7]; done) | (simp only [Go.Ev.cS1, Go.Ev.cS2, Go.Ev.cS3, Go.Ev.cS4, Go.Ev.cS6, Go.Ev.cS7]; kernel_rfl)
theorem sallyportref18_Clean2_eq (a0_X : Nat → Int) (a0_PC : Int) (a0_Level : Int) (a0_V : Bool) (a0_C : Nat → Int) (a0_Done : Int)  : sallyportref18_Clean2r a0_X a0_PC a0_Level a0_V a0_C a0_Done  = sallyportref18_Clean2 a0_X a0_PC a0_Level a0_V a0_C a0_Done  := by
  unfold sallyportref18_Clean2r
  first | (simp only [Go.Ev.cS1, Go.Ev.cS2, Go.Ev.cS3, Go.Ev.cS4, Go.Ev.cS6, Go.Ev.cS7]; done) | (simp only [Go.Ev.cS1, Go.Ev.cS2, Go.Ev.cS3, Go.Ev.cS4, Go.Ev.cS6, Go.Ev.cS7]; kernel_rfl)
theorem sallyportref18_Clean4_eq (a0_X : Nat → Int) (a0_PC : Int) (a0_Level : Int) (a0_V : Bool) (a0_C : Nat → Int) (a0_Done : Int) (i0 : Nat) : sallyportref18_Clean4r a0_X a0_PC a0_Level a0_V a0_C a0_Done i0 = sallyportref18_Clean4 a0_X a0_PC a0_Level a0_V a0_C a0_Done i0 := by
  unfold sallyportref18_Clean4r
  first | (simp only [Go.Ev.cS1, Go.Ev.cS2, Go.Ev.cS3, Go.Ev.cS4, Go.Ev.cS6, Go.Ev.cS7]; done) | (simp only [Go.Ev.cS1, Go.Ev.cS2, Go.Ev.cS3, Go.Ev.cS4, Go.Ev.cS6, Go.Ev.cS7]; kernel_rfl)
theorem sallyportref18_Clean5_eq (a0_X : Nat → Int) (a0_PC : Int) (a0_Level : Int) (a0_V : Bool) (a0_C : Nat → Int) (a0_Done : Int)  : sallyportref18_Clean5r a0_X a0_PC a0_Level a0_V a0_C a0_Done  = a0_Done := by
  unfold sallyportref18_Clean5r
  first | (simp only [Go.Ev.cS1, Go.Ev.cS2, Go.Ev.cS3, Go.Ev.cS4, Go.Ev.cS6, Go.Ev.cS7]; done) | (simp only [Go.Ev.cS1, Go.Ev.cS2, Go.Ev.cS3, Go.Ev.cS4, Go.Ev.cS6, Go.Ev.cS7]; kernel_rfl)
def sallyportref18_CleanV (a0_X : Nat → Int) (a0_PC : Int) (a0_Level : Int) (a0_V : Bool) (a0_C : Nat → Int) (a0_Done : Int) : AV := .agg [.arr 32 (.int .u64) fun i0 => .it .u64 (sallyportref18_Clean0 a0_X a0_PC a0_Level a0_V a0_C a0_Done i0), .it .u64 (sallyportref18_Clean1 a0_X a0_PC a0_Level a0_V a0_C a0_Done), .it .i64 (sallyportref18_Clean2 a0_X a0_PC a0_Level a0_V a0_C a0_Done), .bl (sallyportref18_Clean3 a0_X a0_PC a0_Level a0_V a0_C a0_Done), .arr 29 (.int .u64) fun i0 => .it .u64 (sallyportref18_Clean4 a0_X a0_PC a0_Level a0_V a0_C a0_Done i0), .it .u64 (a0_Done)]
def sallyportref18_CleanVr (a0_X : Nat → Int) (a0_PC : Int) (a0_Level : Int) (a0_V : Bool) (a0_C : Nat → Int) (a0_Done : Int) : AV := .agg [.arr 32 (.int .u64) fun i0 => .it .u64 (sallyportref18_Clean0r a0_X a0_PC a0_Level a0_V a0_C a0_Done i0), .it .u64 (sallyportref18_Clean1r a0_X a0_PC a0_Level a0_V a0_C a0_Done), .it .i64 (sallyportref18_Clean2r a0_X a0_PC a0_Level a0_V a0_C a0_Done), .bl (sallyportref18_Clean3 a0_X a0_PC a0_Level a0_V a0_C a0_Done), .arr 29 (.int .u64) fun i0 => .it .u64 (sallyportref18_Clean4r a0_X a0_PC a0_Level a0_V a0_C a0_Done i0), .it .u64 (sallyportref18_Clean5r a0_X a0_PC a0_Level a0_V a0_C a0_Done)]
theorem sallyportref18_CleanV_eq (a0_X : Nat → Int) (a0_PC : Int) (a0_Level : Int) (a0_V : Bool) (a0_C : Nat → Int) (a0_Done : Int) : sallyportref18_CleanVr a0_X a0_PC a0_Level a0_V a0_C a0_Done = sallyportref18_CleanV a0_X a0_PC a0_Level a0_V a0_C a0_Done := by
  unfold sallyportref18_CleanVr sallyportref18_CleanV
  simp only [sallyportref18_Clean0_eq, sallyportref18_Clean1_eq, sallyportref18_Clean2_eq, sallyportref18_Clean4_eq, sallyportref18_Clean5_eq]
theorem sallyportref18_CleanE (g : Nat → AV) : pcOf Try.prog okT (lookR T34) (inlO Try.prog okT (lookR T34) RO FS 400 ST (hOnce Try.prog 64 25 21) 8) RO NOV 100 false Try.f19 (norms [(.agg [(.arr 32 (.int .u64)), (.int .u64), (.int .i64), .bool, (.arr 29 (.int .u64)), (.int .u64)])] 0 g) = some (sallyportref18_CleanG (fun i0 => (((g 0).fld 0).ix i0).num) (((g 0).fld 1).num) (((g 0).fld 2).num) (((g 0).fld 3).bool) (fun i0 => (((g 0).fld 4).ix i0).num) (((g 0).fld 5).num), sallyportref18_CleanV (fun i0 => (((g 0).fld 0).ix i0).num) (((g 0).fld 1).num) (((g 0).fld 2).num) (((g 0).fld 3).bool) (fun i0 => (((g 0).fld 4).ix i0).num) (((g 0).fld 5).num)) :=
  (by kernel_rfl : pcOf Try.prog okT (lookR T34) (inlO Try.prog okT (lookR T34) RO FS 400 ST (hOnce Try.prog 64 25 21) 8) RO NOV 100 false Try.f19 (norms [(.agg [(.arr 32 (.int .u64)), (.int .u64), (.int .i64), .bool, (.arr 29 (.int .u64)), (.int .u64)])] 0 g) = some (sallyportref18_CleanG (fun i0 => (((g 0).fld 0).ix i0).num) (((g 0).fld 1).num) (((g 0).fld 2).num) (((g 0).fld 3).bool) (fun i0 => (((g 0).fld 4).ix i0).num) (((g 0).fld 5).num), sallyportref18_CleanVr (fun i0 => (((g 0).fld 0).ix i0).num) (((g 0).fld 1).num) (((g 0).fld 2).num) (((g 0).fld 3).bool) (fun i0 => (((g 0).fld 4).ix i0).num) (((g 0).fld 5).num))).trans (by rw [sallyportref18_CleanV_eq])
theorem sallyportref18_CleanP : Plain Try.prog 19 Try.f19 := ⟨Try.func19, of_decide_eq_true (by kernel_rfl)⟩
theorem sallyportref18_CleanT (a0_X : Nat → Int) (a0_PC : Int) (a0_Level : Int) (a0_V : Bool) (a0_C : Nat → Int) (a0_Done : Int) : sallyportref18_CleanG a0_X a0_PC a0_Level a0_V a0_C a0_Done = true := by
  unfold sallyportref18_CleanG
  simp only [Go.Ev.cS1, Go.Ev.cS2, Go.Ev.cS3, Go.Ev.cS4, Go.Ev.cS6, Go.Ev.cS7]
theorem sallyportref18_CleanO : RowOk Try.prog 19 (rowF [(.agg [(.arr 32 (.int .u64)), (.int .u64), (.int .i64), .bool, (.arr 29 (.int .u64)), (.int .u64)])] none fun g => sallyportref18_CleanV (fun i0 => (((g 0).fld 0).ix i0).num) (((g 0).fld 1).num) (((g 0).fld 2).num) (((g 0).fld 3).bool) (fun i0 => (((g 0).fld 4).ix i0).num) (((g 0).fld 5).num)) := rowT_ok fun g => pcOf_ok mix fair T34_ok (inlO_ok mix fair T34_ok FS_ok (fun _ h => hOnce_ok once_ok h) 8) sallyportref18_CleanP (fun c _ => OvOk_none c) (sallyportref18_CleanE g) (sallyportref18_CleanT (fun i0 => (((g 0).fld 0).ix i0).num) (((g 0).fld 1).num) (((g 0).fld 2).num) (((g 0).fld 3).bool) (fun i0 => (((g 0).fld 4).ix i0).num) (((g 0).fld 5).num))
def T19 : List Row := (19, (rowF [(.agg [(.arr 32 (.int .u64)), (.int .u64), (.int .i64), .bool, (.arr 29 (.int .u64)), (.int .u64)])] none fun g => sallyportref18_CleanV (fun i0 => (((g 0).fld 0).ix i0).num) (((g 0).fld 1).num) (((g 0).fld 2).num) (((g 0).fld 3).bool) (fun i0 => (((g 0).fld 4).ix i0).num) (((g 0).fld 5).num))) :: T34
theorem T19_ok : PSound Try.prog (lookR T19) := lookR_cons sallyportref18_CleanO T34_ok

/- sallyport/sallyportref1.Less -/
def sallyportref1_Less0 (a0 : Int) (a1 : Int) : Bool :=
  iLt (iConv IntKind.i64 a0) (iConv IntKind.i64 a1)
def sallyportref1_LessG (a0 : Int) (a1 : Int) : Bool :=
  true
def sallyportref1_LessV (a0 : Int) (a1 : Int) : AV := .bl (sallyportref1_Less0 a0 a1)
theorem sallyportref1_LessE (g : Nat → AV) : pcOf Try.prog okT (lookR T19) (inlO Try.prog okT (lookR T19) RO FS 400 ST (hOnce Try.prog 64 25 21) 8) RO NOV 100 false Try.f46 (norms [(.int .u64), (.int .u64)] 0 g) = some (sallyportref1_LessG ((g 0).num) ((g 1).num), sallyportref1_LessV ((g 0).num) ((g 1).num)) := by kernel_rfl
theorem sallyportref1_LessP : Plain Try.prog 46 Try.f46 := ⟨Try.func46, of_decide_eq_true (by kernel_rfl)⟩
theorem sallyportref1_LessT (a0 : Int) (a1 : Int) : sallyportref1_LessG a0 a1 = true := rfl
theorem sallyportref1_LessO : RowOk Try.prog 46 (rowF [(.int .u64), (.int .u64)] none fun g => sallyportref1_LessV ((g 0).num) ((g 1).num)) := rowT_ok fun g => pcOf_ok mix fair T19_ok (inlO_ok mix fair T19_ok FS_ok (fun _ h => hOnce_ok once_ok h) 8) sallyportref1_LessP (fun c _ => OvOk_none c) (sallyportref1_LessE g) (sallyportref1_LessT ((g 0).num) ((g 1).num))
def T46 : List Row := (46, (rowF [(.int .u64), (.int .u64)] none fun g => sallyportref1_LessV ((g 0).num) ((g 1).num))) :: T19
theorem T46_ok : PSound Try.prog (lookR T46) := lookR_cons sallyportref1_LessO T19_ok

/- sallyport/sallyportref1.Taken -/
def sallyportref1_Taken0 (a0 : Int) (a1 : Int) (a2 : Int) : Bool :=
  bif iEq a0 5 then iEq a1 a2
  else
    bif iEq a0 6 then iNe a1 a2
    else bif iEq a0 7 then sallyportref1_Less0 a1 a2 else bif iEq a0 8 then !sallyportref1_Less0 a1 a2 else bif iEq a0 9 then iLt a1 a2 else bif iEq a0 10 then iLe a2 a1 else false
def sallyportref1_TakenG (a0 : Int) (a1 : Int) (a2 : Int) : Bool :=
  bif iEq a0 5 then true else bif iEq a0 6 then true else bif iEq a0 7 then true else bif iEq a0 8 then true else bif iEq a0 9 then true else bif iEq a0 10 then true else true
def sallyportref1_TakenV (a0 : Int) (a1 : Int) (a2 : Int) : AV := .bl (sallyportref1_Taken0 a0 a1 a2)
theorem sallyportref1_TakenE (g : Nat → AV) : pcOf Try.prog okT (lookR T46) (inlO Try.prog okT (lookR T46) RO FS 400 ST (hOnce Try.prog 64 25 21) 8) RO NOV 100 false Try.f35 (norms [(.int .i64), (.int .u64), (.int .u64)] 0 g) = some (sallyportref1_TakenG ((g 0).num) ((g 1).num) ((g 2).num), sallyportref1_TakenV ((g 0).num) ((g 1).num) ((g 2).num)) := by kernel_rfl
theorem sallyportref1_TakenP : Plain Try.prog 35 Try.f35 := ⟨Try.func35, of_decide_eq_true (by kernel_rfl)⟩
theorem sallyportref1_TakenT (a0 : Int) (a1 : Int) (a2 : Int) : sallyportref1_TakenG a0 a1 a2 = true := by
  unfold sallyportref1_TakenG
  simp only [Go.Ev.cS1, Go.Ev.cS2, Go.Ev.cS3, Go.Ev.cS4, Go.Ev.cS6, Go.Ev.cS7]
theorem sallyportref1_TakenO : RowOk Try.prog 35 (rowF [(.int .i64), (.int .u64), (.int .u64)] none fun g => sallyportref1_TakenV ((g 0).num) ((g 1).num) ((g 2).num)) := rowT_ok fun g => pcOf_ok mix fair T46_ok (inlO_ok mix fair T46_ok FS_ok (fun _ h => hOnce_ok once_ok h) 8) sallyportref1_TakenP (fun c _ => OvOk_none c) (sallyportref1_TakenE g) (sallyportref1_TakenT ((g 0).num) ((g 1).num) ((g 2).num))
def T35 : List Row := (35, (rowF [(.int .i64), (.int .u64), (.int .u64)] none fun g => sallyportref1_TakenV ((g 0).num) ((g 1).num) ((g 2).num))) :: T46
theorem T35_ok : PSound Try.prog (lookR T35) := lookR_cons sallyportref1_TakenO T46_ok

theorem and31_in (x : Int) : iIn (iAnd .i64 x 31) 32 = true := by
  unfold iAnd
  have h : (BitVec.ofInt IntKind.i64.bits x &&& BitVec.ofInt IntKind.i64.bits 31).toNat ≤ 31 := by
    rw [BitVec.toNat_and]
    exact Nat.and_le_right
  rw [wrapI (by omega) (by omega), iIn_true]
  omega
/- sallyport/sallyportref18.Goes -/
def sallyportref18_Goes0 (a0_X : Nat → Int) (a0_PC : Int) (a0_Level : Int) (a0_V : Bool) (a0_C : Nat → Int) (a0_Done : Int) (a1_Op : Int) (a1_Rd : Int) (a1_Rs1 : Int) (a1_Rs2 : Int) (a1_Imm : Int) (a1_CSR : Int) : Int :=
  bif
      bif iEq a1_Op 3 then true
      else bif iEq (sallyportref3_Class0 a1_Op) 2 then sallyportref1_Taken0 a1_Op (a0_X (iAnd IntKind.i64 a1_Rs1 31).toNat) (a0_X (iAnd IntKind.i64 a1_Rs2 31).toNat) else false then
    iAdd IntKind.u64 a0_PC (iConv IntKind.u64 a1_Imm)
  else bif iEq a1_Op 4 then iAndNot IntKind.u64 (iAdd IntKind.u64 (a0_X (iAnd IntKind.i64 a1_Rs1 31).toNat) (iConv IntKind.u64 a1_Imm)) 1 else iAdd IntKind.u64 a0_PC 4
def sallyportref18_GoesG (a0_X : Nat → Int) (a0_PC : Int) (a0_Level : Int) (a0_V : Bool) (a0_C : Nat → Int) (a0_Done : Int) (a1_Op : Int) (a1_Rd : Int) (a1_Rs1 : Int) (a1_Rs2 : Int) (a1_Imm : Int) (a1_CSR : Int) : Bool :=
  (!(!iEq a1_Op 3 && iEq (sallyportref3_Class0 a1_Op) 2) || iIn (iAnd IntKind.i64 a1_Rs1 31) 32) &&
    ((!(!iEq a1_Op 3 && iEq (sallyportref3_Class0 a1_Op) 2) || iIn (iAnd IntKind.i64 a1_Rs2 31) 32) &&
      bif
          bif iEq a1_Op 3 then true
          else bif iEq (sallyportref3_Class0 a1_Op) 2 then sallyportref1_Taken0 a1_Op (a0_X (iAnd IntKind.i64 a1_Rs1 31).toNat) (a0_X (iAnd IntKind.i64 a1_Rs2 31).toNat) else false then
        true
      else bif iEq a1_Op 4 then iIn (iAnd IntKind.i64 a1_Rs1 31) 32 && true else true)
def sallyportref18_GoesV (a0_X : Nat → Int) (a0_PC : Int) (a0_Level : Int) (a0_V : Bool) (a0_C : Nat → Int) (a0_Done : Int) (a1_Op : Int) (a1_Rd : Int) (a1_Rs1 : Int) (a1_Rs2 : Int) (a1_Imm : Int) (a1_CSR : Int) : AV := .it .u64 (sallyportref18_Goes0 a0_X a0_PC a0_Level a0_V a0_C a0_Done a1_Op a1_Rd a1_Rs1 a1_Rs2 a1_Imm a1_CSR)
theorem sallyportref18_GoesE (g : Nat → AV) : pcOf Try.prog okT (lookR T35) (inlO Try.prog okT (lookR T35) RO FS 400 ST (hOnce Try.prog 64 25 21) 8) RO NOV 100 false Try.f20 (norms [(.agg [(.arr 32 (.int .u64)), (.int .u64), (.int .i64), .bool, (.arr 29 (.int .u64)), (.int .u64)]), (.agg [(.int .i64), (.int .i64), (.int .i64), (.int .i64), (.int .i64), (.int .i64)])] 0 g) = some (sallyportref18_GoesG (fun i0 => (((g 0).fld 0).ix i0).num) (((g 0).fld 1).num) (((g 0).fld 2).num) (((g 0).fld 3).bool) (fun i0 => (((g 0).fld 4).ix i0).num) (((g 0).fld 5).num) (((g 1).fld 0).num) (((g 1).fld 1).num) (((g 1).fld 2).num) (((g 1).fld 3).num) (((g 1).fld 4).num) (((g 1).fld 5).num), sallyportref18_GoesV (fun i0 => (((g 0).fld 0).ix i0).num) (((g 0).fld 1).num) (((g 0).fld 2).num) (((g 0).fld 3).bool) (fun i0 => (((g 0).fld 4).ix i0).num) (((g 0).fld 5).num) (((g 1).fld 0).num) (((g 1).fld 1).num) (((g 1).fld 2).num) (((g 1).fld 3).num) (((g 1).fld 4).num) (((g 1).fld 5).num)) := by kernel_rfl
theorem sallyportref18_GoesP : Plain Try.prog 20 Try.f20 := ⟨Try.func20, of_decide_eq_true (by kernel_rfl)⟩
theorem sallyportref18_GoesT (a0_X : Nat → Int) (a0_PC : Int) (a0_Level : Int) (a0_V : Bool) (a0_C : Nat → Int) (a0_Done : Int) (a1_Op : Int) (a1_Rd : Int) (a1_Rs1 : Int) (a1_Rs2 : Int) (a1_Imm : Int) (a1_CSR : Int) : sallyportref18_GoesG a0_X a0_PC a0_Level a0_V a0_C a0_Done a1_Op a1_Rd a1_Rs1 a1_Rs2 a1_Imm a1_CSR = true := by
  unfold sallyportref18_GoesG
  simp [and31_in]
theorem sallyportref18_GoesO : RowOk Try.prog 20 (rowF [(.agg [(.arr 32 (.int .u64)), (.int .u64), (.int .i64), .bool, (.arr 29 (.int .u64)), (.int .u64)]), (.agg [(.int .i64), (.int .i64), (.int .i64), (.int .i64), (.int .i64), (.int .i64)])] none fun g => sallyportref18_GoesV (fun i0 => (((g 0).fld 0).ix i0).num) (((g 0).fld 1).num) (((g 0).fld 2).num) (((g 0).fld 3).bool) (fun i0 => (((g 0).fld 4).ix i0).num) (((g 0).fld 5).num) (((g 1).fld 0).num) (((g 1).fld 1).num) (((g 1).fld 2).num) (((g 1).fld 3).num) (((g 1).fld 4).num) (((g 1).fld 5).num)) := rowT_ok fun g => pcOf_ok mix fair T35_ok (inlO_ok mix fair T35_ok FS_ok (fun _ h => hOnce_ok once_ok h) 8) sallyportref18_GoesP (fun c _ => OvOk_none c) (sallyportref18_GoesE g) (sallyportref18_GoesT (fun i0 => (((g 0).fld 0).ix i0).num) (((g 0).fld 1).num) (((g 0).fld 2).num) (((g 0).fld 3).bool) (fun i0 => (((g 0).fld 4).ix i0).num) (((g 0).fld 5).num) (((g 1).fld 0).num) (((g 1).fld 1).num) (((g 1).fld 2).num) (((g 1).fld 3).num) (((g 1).fld 4).num) (((g 1).fld 5).num))
def T20 : List Row := (20, (rowF [(.agg [(.arr 32 (.int .u64)), (.int .u64), (.int .i64), .bool, (.arr 29 (.int .u64)), (.int .u64)]), (.agg [(.int .i64), (.int .i64), (.int .i64), (.int .i64), (.int .i64), (.int .i64)])] none fun g => sallyportref18_GoesV (fun i0 => (((g 0).fld 0).ix i0).num) (((g 0).fld 1).num) (((g 0).fld 2).num) (((g 0).fld 3).bool) (fun i0 => (((g 0).fld 4).ix i0).num) (((g 0).fld 5).num) (((g 1).fld 0).num) (((g 1).fld 1).num) (((g 1).fld 2).num) (((g 1).fld 3).num) (((g 1).fld 4).num) (((g 1).fld 5).num))) :: T35
theorem T20_ok : PSound Try.prog (lookR T20) := lookR_cons sallyportref18_GoesO T35_ok

/- sallyport/sallyportlaw20.GuessSure -/
def sallyportlaw20_GuessSure0 (a0_X : Nat → Int) (a0_PC : Int) (a0_Level : Int) (a0_V : Bool) (a0_C : Nat → Int) (a0_Done : Int) (a1_Op : Int) (a1_Rd : Int) (a1_Rs1 : Int) (a1_Rs2 : Int) (a1_Imm : Int) (a1_CSR : Int) : Bool :=
  bif bif !sallyportref3_Encode1 a1_Op a1_Rd a1_Rs1 a1_Rs2 a1_Imm a1_CSR then true else !guess_Sure0 (sallyportref3_Encode0 a1_Op a1_Rd a1_Rs1 a1_Rs2 a1_Imm a1_CSR) then true
  else
    iEq (guess_Next0 (sallyportref18_Clean1 (fun i0 => a0_X i0) a0_PC a0_Level a0_V (fun i0 => a0_C i0) a0_Done) (sallyportref3_Encode0 a1_Op a1_Rd a1_Rs1 a1_Rs2 a1_Imm a1_CSR))
      (sallyportref18_Goes0 (fun i0 => sallyportref18_Clean0 (fun i0 => a0_X i0) a0_PC a0_Level a0_V (fun i0 => a0_C i0) a0_Done i0)
        (sallyportref18_Clean1 (fun i0 => a0_X i0) a0_PC a0_Level a0_V (fun i0 => a0_C i0) a0_Done) (sallyportref18_Clean2 (fun i0 => a0_X i0) a0_PC a0_Level a0_V (fun i0 => a0_C i0) a0_Done)
        (sallyportref18_Clean3 (fun i0 => a0_X i0) a0_PC a0_Level a0_V (fun i0 => a0_C i0) a0_Done)
        (fun i0 => sallyportref18_Clean4 (fun i0 => a0_X i0) a0_PC a0_Level a0_V (fun i0 => a0_C i0) a0_Done i0) a0_Done a1_Op a1_Rd a1_Rs1 a1_Rs2 a1_Imm a1_CSR)
def sallyportlaw20_GuessSureG (a0_X : Nat → Int) (a0_PC : Int) (a0_Level : Int) (a0_V : Bool) (a0_C : Nat → Int) (a0_Done : Int) (a1_Op : Int) (a1_Rd : Int) (a1_Rs1 : Int) (a1_Rs2 : Int) (a1_Imm : Int) (a1_CSR : Int) : Bool :=
  bif bif !sallyportref3_Encode1 a1_Op a1_Rd a1_Rs1 a1_Rs2 a1_Imm a1_CSR then true else !guess_Sure0 (sallyportref3_Encode0 a1_Op a1_Rd a1_Rs1 a1_Rs2 a1_Imm a1_CSR) then true else true
def sallyportlaw20_GuessSureV (a0_X : Nat → Int) (a0_PC : Int) (a0_Level : Int) (a0_V : Bool) (a0_C : Nat → Int) (a0_Done : Int) (a1_Op : Int) (a1_Rd : Int) (a1_Rs1 : Int) (a1_Rs2 : Int) (a1_Imm : Int) (a1_CSR : Int) : AV := .bl (sallyportlaw20_GuessSure0 a0_X a0_PC a0_Level a0_V a0_C a0_Done a1_Op a1_Rd a1_Rs1 a1_Rs2 a1_Imm a1_CSR)
theorem sallyportlaw20_GuessSureE (g : Nat → AV) : pcOf Try.prog okT (lookR T20) (inlO Try.prog okT (lookR T20) RO FS 400 ST (hOnce Try.prog 64 25 21) 8) RO NOV 100 false Try.f4 (norms [(.agg [(.arr 32 (.int .u64)), (.int .u64), (.int .i64), .bool, (.arr 29 (.int .u64)), (.int .u64)]), (.agg [(.int .i64), (.int .i64), (.int .i64), (.int .i64), (.int .i64), (.int .i64)])] 0 g) = some (sallyportlaw20_GuessSureG (fun i0 => (((g 0).fld 0).ix i0).num) (((g 0).fld 1).num) (((g 0).fld 2).num) (((g 0).fld 3).bool) (fun i0 => (((g 0).fld 4).ix i0).num) (((g 0).fld 5).num) (((g 1).fld 0).num) (((g 1).fld 1).num) (((g 1).fld 2).num) (((g 1).fld 3).num) (((g 1).fld 4).num) (((g 1).fld 5).num), sallyportlaw20_GuessSureV (fun i0 => (((g 0).fld 0).ix i0).num) (((g 0).fld 1).num) (((g 0).fld 2).num) (((g 0).fld 3).bool) (fun i0 => (((g 0).fld 4).ix i0).num) (((g 0).fld 5).num) (((g 1).fld 0).num) (((g 1).fld 1).num) (((g 1).fld 2).num) (((g 1).fld 3).num) (((g 1).fld 4).num) (((g 1).fld 5).num)) := by kernel_rfl
theorem sallyportlaw20_GuessSureP : Plain Try.prog 4 Try.f4 := ⟨Try.func4, of_decide_eq_true (by kernel_rfl)⟩
theorem sallyportlaw20_GuessSureT (a0_X : Nat → Int) (a0_PC : Int) (a0_Level : Int) (a0_V : Bool) (a0_C : Nat → Int) (a0_Done : Int) (a1_Op : Int) (a1_Rd : Int) (a1_Rs1 : Int) (a1_Rs2 : Int) (a1_Imm : Int) (a1_CSR : Int) : sallyportlaw20_GuessSureG a0_X a0_PC a0_Level a0_V a0_C a0_Done a1_Op a1_Rd a1_Rs1 a1_Rs2 a1_Imm a1_CSR = true := by
  unfold sallyportlaw20_GuessSureG
  simp only [Go.Ev.cS1, Go.Ev.cS2, Go.Ev.cS3, Go.Ev.cS4, Go.Ev.cS6, Go.Ev.cS7]
theorem sallyportlaw20_GuessSureO : RowOk Try.prog 4 (rowF [(.agg [(.arr 32 (.int .u64)), (.int .u64), (.int .i64), .bool, (.arr 29 (.int .u64)), (.int .u64)]), (.agg [(.int .i64), (.int .i64), (.int .i64), (.int .i64), (.int .i64), (.int .i64)])] none fun g => sallyportlaw20_GuessSureV (fun i0 => (((g 0).fld 0).ix i0).num) (((g 0).fld 1).num) (((g 0).fld 2).num) (((g 0).fld 3).bool) (fun i0 => (((g 0).fld 4).ix i0).num) (((g 0).fld 5).num) (((g 1).fld 0).num) (((g 1).fld 1).num) (((g 1).fld 2).num) (((g 1).fld 3).num) (((g 1).fld 4).num) (((g 1).fld 5).num)) := rowT_ok fun g => pcOf_ok mix fair T20_ok (inlO_ok mix fair T20_ok FS_ok (fun _ h => hOnce_ok once_ok h) 8) sallyportlaw20_GuessSureP (fun c _ => OvOk_none c) (sallyportlaw20_GuessSureE g) (sallyportlaw20_GuessSureT (fun i0 => (((g 0).fld 0).ix i0).num) (((g 0).fld 1).num) (((g 0).fld 2).num) (((g 0).fld 3).bool) (fun i0 => (((g 0).fld 4).ix i0).num) (((g 0).fld 5).num) (((g 1).fld 0).num) (((g 1).fld 1).num) (((g 1).fld 2).num) (((g 1).fld 3).num) (((g 1).fld 4).num) (((g 1).fld 5).num))
def T4 : List Row := (4, (rowF [(.agg [(.arr 32 (.int .u64)), (.int .u64), (.int .i64), .bool, (.arr 29 (.int .u64)), (.int .u64)]), (.agg [(.int .i64), (.int .i64), (.int .i64), (.int .i64), (.int .i64), (.int .i64)])] none fun g => sallyportlaw20_GuessSureV (fun i0 => (((g 0).fld 0).ix i0).num) (((g 0).fld 1).num) (((g 0).fld 2).num) (((g 0).fld 3).bool) (fun i0 => (((g 0).fld 4).ix i0).num) (((g 0).fld 5).num) (((g 1).fld 0).num) (((g 1).fld 1).num) (((g 1).fld 2).num) (((g 1).fld 3).num) (((g 1).fld 4).num) (((g 1).fld 5).num))) :: T20
theorem T4_ok : PSound Try.prog (lookR T4) := lookR_cons sallyportlaw20_GuessSureO T20_ok

end
end Go.Proofs.Ytigmhcafampfnaa.PV
