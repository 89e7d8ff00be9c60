/-
  What functions of the program and of the document yield, evaluated (sallyportref3.Decode .. sallyportlaw20.GuessTells). Printed by a program of the prover's own (wip/prt).
-/
import Derived.Test.YtigmhcafampfnaaRows
import Derived.Test.YtigmhcafampfnaaEvW
import Derived.Test.YtigmhcafampfnaaGa
import Derived.Test.YtigmhcafampfnaaGc
import Derived.Test.YtigmhcafampfnaaGd
import Derived.Test.YtigmhcafampfnaaGb
set_option linter.unusedVariables false
set_option linter.unusedSimpArgs false
namespace Go.Proofs.Ytigmhcafampfnaa.PV
noncomputable section
open Go Go.Ev
/- sallyport/sallyportref3.Decode -/
def sallyportref3_Decode0 (a0 : Int) : Int :=
  bif iLt (opOf a0) 70 then opOf a0 else 0
def sallyportref3_Decode1 (a0 : Int) : Int :=
  bif iLt (opOf a0) 70 then sallyportref3_guess1 (opOf a0) a0 else 0
def sallyportref3_Decode2 (a0 : Int) : Int :=
  bif iLt (opOf a0) 70 then sallyportref3_guess2 (opOf a0) a0 else 0
def sallyportref3_Decode3 (a0 : Int) : Int :=
  bif iLt (opOf a0) 70 then sallyportref3_guess3 (opOf a0) a0 else 0
def sallyportref3_Decode4 (a0 : Int) : Int :=
  bif iLt (opOf a0) 70 then sallyportref3_guess4 (opOf a0) a0 else 0
def sallyportref3_Decode5 (a0 : Int) : Int :=
  bif iLt (opOf a0) 70 then sallyportref3_guess5 (opOf a0) a0 else 0
def sallyportref3_Decode6 (a0 : Int) : Bool :=
  iLt (opOf a0) 70
def sallyportref3_Decode6r (a0 : Int) : Bool :=
  bif iLt (opOf a0) 70 then true else false
def sallyportref3_DecodeG (a0 : Int) : Bool :=
  bif iLt (opOf a0) 70 then true else true
theorem sallyportref3_Decode6_eq (a0 : Int)  : sallyportref3_Decode6r a0  = sallyportref3_Decode6 a0  := by
  unfold sallyportref3_Decode6r
  first | (simp only [Go.Ev.cS1, Go.Ev.cS2, Go.Ev.cS3, Go.Ev.cS4, Go.Ev.cS6, Go.Ev.cS7]; done) | (simp only [Go.Ev.cS1, Go.Ev.cS2, Go.Ev.cS3, Go.Ev.cS4, Go.Ev.cS6, Go.Ev.cS7]; kernel_rfl)
def sallyportref3_DecodeV (a0 : Int) : AV := .tup [.agg [.it .i64 (sallyportref3_Decode0 a0), .it .i64 (sallyportref3_Decode1 a0), .it .i64 (sallyportref3_Decode2 a0), .it .i64 (sallyportref3_Decode3 a0), .it .i64 (sallyportref3_Decode4 a0), .it .i64 (sallyportref3_Decode5 a0)], .bl (sallyportref3_Decode6 a0)]
def sallyportref3_DecodeVr (a0 : Int) : AV := .tup [.agg [.it .i64 (sallyportref3_Decode0 a0), .it .i64 (sallyportref3_Decode1 a0), .it .i64 (sallyportref3_Decode2 a0), .it .i64 (sallyportref3_Decode3 a0), .it .i64 (sallyportref3_Decode4 a0), .it .i64 (sallyportref3_Decode5 a0)], .bl (sallyportref3_Decode6r a0)]
theorem sallyportref3_DecodeV_eq (a0 : Int) : sallyportref3_DecodeVr a0 = sallyportref3_DecodeV a0 := by
  unfold sallyportref3_DecodeVr sallyportref3_DecodeV
  simp only [sallyportref3_Decode6_eq]
theorem sallyportref3_DecodeE (g : Nat → AV) : pcOf Try.prog okT (lookR T4) (inlO Try.prog okT (lookR T4) RO FS 400 ST (hOnce Try.prog 64 25 21) 8) RO rdOv 100 false Try.f13 (norms [(.int .u32)] 0 g) = some (sallyportref3_DecodeG ((g 0).num), sallyportref3_DecodeV ((g 0).num)) :=
  (by kernel_rfl : pcOf Try.prog okT (lookR T4) (inlO Try.prog okT (lookR T4) RO FS 400 ST (hOnce Try.prog 64 25 21) 8) RO rdOv 100 false Try.f13 (norms [(.int .u32)] 0 g) = some (sallyportref3_DecodeG ((g 0).num), sallyportref3_DecodeVr ((g 0).num))).trans (by rw [sallyportref3_DecodeV_eq])
theorem sallyportref3_DecodeP : Plain Try.prog 13 Try.f13 := ⟨Try.func13, of_decide_eq_true (by kernel_rfl)⟩
theorem sallyportref3_DecodeT (a0 : Int) : sallyportref3_DecodeG a0 = true := by
  unfold sallyportref3_DecodeG
  simp only [Go.Ev.cS1, Go.Ev.cS2, Go.Ev.cS3, Go.Ev.cS4, Go.Ev.cS6, Go.Ev.cS7]
theorem sallyportref3_DecodeO : RowOk Try.prog 13 (rowF [(.int .u32)] none fun g => sallyportref3_DecodeV ((g 0).num)) := rowT_ok fun g => pcOf_ok mix fair T4_ok (inlO_ok mix fair T4_ok FS_ok (fun _ h => hOnce_ok once_ok h) 8) sallyportref3_DecodeP (rdOv_ok) (sallyportref3_DecodeE g) (sallyportref3_DecodeT ((g 0).num))
def T13 : List Row := (13, (rowF [(.int .u32)] none fun g => sallyportref3_DecodeV ((g 0).num))) :: T4
theorem T13_ok : PSound Try.prog (lookR T13) := lookR_cons sallyportref3_DecodeO T4_ok

/- sallyport/sallyportlaw3.format -/
def sallyportlaw3_format0 (a0 : Int) : Int :=
  bif iEq (sallyportref3_Class0 a0) 0 then 45
  else
    bif iLe a0 2 then 85
    else
      bif iEq a0 3 then 74
      else
        bif iEq (sallyportref3_Class0 a0) 2 then 66
        else
          bif iEq (sallyportref3_Class0 a0) 4 then 83
          else bif bif bif iEq (sallyportref3_Class0 a0) 6 then true else iEq (sallyportref3_Class0 a0) 11 then true else iEq (sallyportref3_Class0 a0) 12 then 82 else 73
def sallyportlaw3_formatG (a0 : Int) : Bool :=
  bif iEq (sallyportref3_Class0 a0) 0 then true
  else
    bif iLe a0 2 then true
    else
      bif iEq a0 3 then true
      else
        bif iEq (sallyportref3_Class0 a0) 2 then true
        else
          bif iEq (sallyportref3_Class0 a0) 4 then true
          else bif bif bif iEq (sallyportref3_Class0 a0) 6 then true else iEq (sallyportref3_Class0 a0) 11 then true else iEq (sallyportref3_Class0 a0) 12 then true else true
def sallyportlaw3_formatV (a0 : Int) : AV := .it .u8 (sallyportlaw3_format0 a0)
theorem sallyportlaw3_formatE (g : Nat → AV) : pcOf Try.prog okT (lookR T13) (inlO Try.prog okT (lookR T13) RO FS 400 ST (hOnce Try.prog 64 25 21) 8) RO NOV 100 false Try.f25 (norms [(.int .i64)] 0 g) = some (sallyportlaw3_formatG ((g 0).num), sallyportlaw3_formatV ((g 0).num)) := by kernel_rfl
theorem sallyportlaw3_formatP : Plain Try.prog 25 Try.f25 := ⟨Try.func25, of_decide_eq_true (by kernel_rfl)⟩
theorem sallyportlaw3_formatT (a0 : Int) : sallyportlaw3_formatG a0 = true := by
  unfold sallyportlaw3_formatG
  simp only [Go.Ev.cS1, Go.Ev.cS2, Go.Ev.cS3, Go.Ev.cS4, Go.Ev.cS6, Go.Ev.cS7]
theorem sallyportlaw3_formatO : RowOk Try.prog 25 (rowF [(.int .i64)] none fun g => sallyportlaw3_formatV ((g 0).num)) := rowT_ok fun g => pcOf_ok mix fair T13_ok (inlO_ok mix fair T13_ok FS_ok (fun _ h => hOnce_ok once_ok h) 8) sallyportlaw3_formatP (fun c _ => OvOk_none c) (sallyportlaw3_formatE g) (sallyportlaw3_formatT ((g 0).num))
def T25 : List Row := (25, (rowF [(.int .i64)] none fun g => sallyportlaw3_formatV ((g 0).num))) :: T13
theorem T25_ok : PSound Try.prog (lookR T25) := lookR_cons sallyportlaw3_formatO T13_ok

/- sallyport/sallyportlaw3.DecodeTells -/
def sallyportlaw3_DecodeTells0 (a0 : Int) (a1 : Int) : Bool :=
  bif
      bif
          bif
              bif
                  iEq (decode_Decode0 a0) (sallyportref3_Decode0 a0) &&
                    (iEq (decode_Decode1 a0) (sallyportref3_Decode1 a0) &&
                      (iEq (decode_Decode2 a0) (sallyportref3_Decode2 a0) &&
                        (iEq (decode_Decode3 a0) (sallyportref3_Decode3 a0) && (iEq (decode_Decode4 a0) (sallyportref3_Decode4 a0) && iEq (decode_Decode5 a0) (sallyportref3_Decode5 a0))))) then
                iEq (decode_Decode6 a0) 0 == sallyportref3_Decode6 a0
              else false then
            bif sallyportref3_Decode6 a0 then true else iEq (decode_Decode6 a0) 40
          else false then
        iEq (decode_Opcode0 a0) (iConv IntKind.i64 (iAnd IntKind.u32 a0 127))
      else false then
    iEq (decode_Format0 a1) (sallyportlaw3_format0 a1)
  else false
def sallyportlaw3_DecodeTells0r (a0 : Int) (a1 : Int) : Bool :=
  bif
      bif
          bif
              bif
                  iEq (decode_Decode0 a0) (sallyportref3_Decode0 a0) &&
                    (iEq (decode_Decode1 a0) (sallyportref3_Decode1 a0) &&
                      (iEq (decode_Decode2 a0) (sallyportref3_Decode2 a0) &&
                        (iEq (decode_Decode3 a0) (sallyportref3_Decode3 a0) &&
                          (iEq (decode_Decode4 a0) (sallyportref3_Decode4 a0) && (iEq (decode_Decode5 a0) (sallyportref3_Decode5 a0) && true))))) then
                iEq (decode_Decode6 a0) 0 == sallyportref3_Decode6 a0
              else false then
            bif sallyportref3_Decode6 a0 then true else iEq (decode_Decode6 a0) 40
          else false then
        iEq (decode_Opcode0 a0) (iConv IntKind.i64 (iAnd IntKind.u32 a0 127))
      else false then
    iEq (decode_Format0 a1) (sallyportlaw3_format0 a1)
  else false
def sallyportlaw3_DecodeTellsG (a0 : Int) (a1 : Int) : Bool :=
  true
theorem sallyportlaw3_DecodeTells0_eq (a0 : Int) (a1 : Int)  : sallyportlaw3_DecodeTells0r a0 a1  = sallyportlaw3_DecodeTells0 a0 a1  := by
  unfold sallyportlaw3_DecodeTells0r
  first | (simp only [Go.Ev.cS1, Go.Ev.cS2, Go.Ev.cS3, Go.Ev.cS4, Go.Ev.cS6, Go.Ev.cS7]; done) | (simp only [Go.Ev.cS1, Go.Ev.cS2, Go.Ev.cS3, Go.Ev.cS4, Go.Ev.cS6, Go.Ev.cS7]; kernel_rfl)
def sallyportlaw3_DecodeTellsV (a0 : Int) (a1 : Int) : AV := .bl (sallyportlaw3_DecodeTells0 a0 a1)
def sallyportlaw3_DecodeTellsVr (a0 : Int) (a1 : Int) : AV := .bl (sallyportlaw3_DecodeTells0r a0 a1)
theorem sallyportlaw3_DecodeTellsV_eq (a0 : Int) (a1 : Int) : sallyportlaw3_DecodeTellsVr a0 a1 = sallyportlaw3_DecodeTellsV a0 a1 := by
  unfold sallyportlaw3_DecodeTellsVr sallyportlaw3_DecodeTellsV
  simp only [sallyportlaw3_DecodeTells0_eq]
theorem sallyportlaw3_DecodeTellsE (g : Nat → AV) : pcOf Try.prog okT (lookR T25) (inlO Try.prog okT (lookR T25) RO FS 400 ST (hOnce Try.prog 64 25 21) 8) RO NOV 100 false Try.f6 (norms [(.int .u32), (.int .i64)] 0 g) = some (sallyportlaw3_DecodeTellsG ((g 0).num) ((g 1).num), sallyportlaw3_DecodeTellsV ((g 0).num) ((g 1).num)) :=
  (by kernel_rfl : pcOf Try.prog okT (lookR T25) (inlO Try.prog okT (lookR T25) RO FS 400 ST (hOnce Try.prog 64 25 21) 8) RO NOV 100 false Try.f6 (norms [(.int .u32), (.int .i64)] 0 g) = some (sallyportlaw3_DecodeTellsG ((g 0).num) ((g 1).num), sallyportlaw3_DecodeTellsVr ((g 0).num) ((g 1).num))).trans (by rw [sallyportlaw3_DecodeTellsV_eq])
theorem sallyportlaw3_DecodeTellsP : Plain Try.prog 6 Try.f6 := ⟨Try.func6, of_decide_eq_true (by kernel_rfl)⟩
theorem sallyportlaw3_DecodeTellsT (a0 : Int) (a1 : Int) : sallyportlaw3_DecodeTellsG a0 a1 = true := rfl
theorem sallyportlaw3_DecodeTellsO : RowOk Try.prog 6 (rowF [(.int .u32), (.int .i64)] none fun g => sallyportlaw3_DecodeTellsV ((g 0).num) ((g 1).num)) := rowT_ok fun g => pcOf_ok mix fair T25_ok (inlO_ok mix fair T25_ok FS_ok (fun _ h => hOnce_ok once_ok h) 8) sallyportlaw3_DecodeTellsP (fun c _ => OvOk_none c) (sallyportlaw3_DecodeTellsE g) (sallyportlaw3_DecodeTellsT ((g 0).num) ((g 1).num))
def T6 : List Row := (6, (rowF [(.int .u32), (.int .i64)] none fun g => sallyportlaw3_DecodeTellsV ((g 0).num) ((g 1).num))) :: T25
theorem T6_ok : PSound Try.prog (lookR T6) := lookR_cons sallyportlaw3_DecodeTellsO T25_ok

/- sallyport/sallyportlaw3.DecodeTurned -/
def sallyportlaw3_DecodeTurned_c0 (a0_Op : Int) (a0_Rd : Int) (a0_Rs1 : Int) (a0_Rs2 : Int) (a0_Imm : Int) (a0_CSR : Int) (a1 : Int) : Bool :=
  iEq (decode_Decode5 (iXor IntKind.u32 (sallyportref3_Encode0 a0_Op a0_Rd a0_Rs1 a0_Rs2 a0_Imm a0_CSR) (iShl IntKind.u32 1 (iConv IntKind.u64 (iRem a1 32)))))
    (sallyportref3_Decode5 (iXor IntKind.u32 (sallyportref3_Encode0 a0_Op a0_Rd a0_Rs1 a0_Rs2 a0_Imm a0_CSR) (iShl IntKind.u32 1 (iConv IntKind.u64 (iRem a1 32)))))
def sallyportlaw3_DecodeTurned0 (a0_Op : Int) (a0_Rd : Int) (a0_Rs1 : Int) (a0_Rs2 : Int) (a0_Imm : Int) (a0_CSR : Int) (a1 : Int) : Bool :=
  bif !sallyportref3_Encode1 a0_Op a0_Rd a0_Rs1 a0_Rs2 a0_Imm a0_CSR then true
  else
    bif
        bif
            iEq (decode_Decode6 (iXor IntKind.u32 (sallyportref3_Encode0 a0_Op a0_Rd a0_Rs1 a0_Rs2 a0_Imm a0_CSR) (iShl IntKind.u32 1 (iConv IntKind.u64 (iRem a1 32))))) 0 ==
              sallyportref3_Decode6 (iXor IntKind.u32 (sallyportref3_Encode0 a0_Op a0_Rd a0_Rs1 a0_Rs2 a0_Imm a0_CSR) (iShl IntKind.u32 1 (iConv IntKind.u64 (iRem a1 32)))) then
          iEq (decode_Decode0 (iXor IntKind.u32 (sallyportref3_Encode0 a0_Op a0_Rd a0_Rs1 a0_Rs2 a0_Imm a0_CSR) (iShl IntKind.u32 1 (iConv IntKind.u64 (iRem a1 32)))))
              (sallyportref3_Decode0 (iXor IntKind.u32 (sallyportref3_Encode0 a0_Op a0_Rd a0_Rs1 a0_Rs2 a0_Imm a0_CSR) (iShl IntKind.u32 1 (iConv IntKind.u64 (iRem a1 32))))) &&
            (iEq (decode_Decode1 (iXor IntKind.u32 (sallyportref3_Encode0 a0_Op a0_Rd a0_Rs1 a0_Rs2 a0_Imm a0_CSR) (iShl IntKind.u32 1 (iConv IntKind.u64 (iRem a1 32)))))
                (sallyportref3_Decode1 (iXor IntKind.u32 (sallyportref3_Encode0 a0_Op a0_Rd a0_Rs1 a0_Rs2 a0_Imm a0_CSR) (iShl IntKind.u32 1 (iConv IntKind.u64 (iRem a1 32))))) &&
              (iEq (decode_Decode2 (iXor IntKind.u32 (sallyportref3_Encode0 a0_Op a0_Rd a0_Rs1 a0_Rs2 a0_Imm a0_CSR) (iShl IntKind.u32 1 (iConv IntKind.u64 (iRem a1 32)))))
                  (sallyportref3_Decode2 (iXor IntKind.u32 (sallyportref3_Encode0 a0_Op a0_Rd a0_Rs1 a0_Rs2 a0_Imm a0_CSR) (iShl IntKind.u32 1 (iConv IntKind.u64 (iRem a1 32))))) &&
                (iEq (decode_Decode3 (iXor IntKind.u32 (sallyportref3_Encode0 a0_Op a0_Rd a0_Rs1 a0_Rs2 a0_Imm a0_CSR) (iShl IntKind.u32 1 (iConv IntKind.u64 (iRem a1 32)))))
                    (sallyportref3_Decode3 (iXor IntKind.u32 (sallyportref3_Encode0 a0_Op a0_Rd a0_Rs1 a0_Rs2 a0_Imm a0_CSR) (iShl IntKind.u32 1 (iConv IntKind.u64 (iRem a1 32))))) &&
                  (iEq (decode_Decode4 (iXor IntKind.u32 (sallyportref3_Encode0 a0_Op a0_Rd a0_Rs1 a0_Rs2 a0_Imm a0_CSR) (iShl IntKind.u32 1 (iConv IntKind.u64 (iRem a1 32)))))
                      (sallyportref3_Decode4 (iXor IntKind.u32 (sallyportref3_Encode0 a0_Op a0_Rd a0_Rs1 a0_Rs2 a0_Imm a0_CSR) (iShl IntKind.u32 1 (iConv IntKind.u64 (iRem a1 32))))) &&
                    sallyportlaw3_DecodeTurned_c0 a0_Op a0_Rd a0_Rs1 a0_Rs2 a0_Imm a0_CSR a1))))
        else false then
      !(iEq (decode_Decode0 (iXor IntKind.u32 (sallyportref3_Encode0 a0_Op a0_Rd a0_Rs1 a0_Rs2 a0_Imm a0_CSR) (iShl IntKind.u32 1 (iConv IntKind.u64 (iRem a1 32))))) a0_Op &&
          (iEq (decode_Decode1 (iXor IntKind.u32 (sallyportref3_Encode0 a0_Op a0_Rd a0_Rs1 a0_Rs2 a0_Imm a0_CSR) (iShl IntKind.u32 1 (iConv IntKind.u64 (iRem a1 32))))) a0_Rd &&
            (iEq (decode_Decode2 (iXor IntKind.u32 (sallyportref3_Encode0 a0_Op a0_Rd a0_Rs1 a0_Rs2 a0_Imm a0_CSR) (iShl IntKind.u32 1 (iConv IntKind.u64 (iRem a1 32))))) a0_Rs1 &&
              (iEq (decode_Decode3 (iXor IntKind.u32 (sallyportref3_Encode0 a0_Op a0_Rd a0_Rs1 a0_Rs2 a0_Imm a0_CSR) (iShl IntKind.u32 1 (iConv IntKind.u64 (iRem a1 32))))) a0_Rs2 &&
                (iEq (decode_Decode4 (iXor IntKind.u32 (sallyportref3_Encode0 a0_Op a0_Rd a0_Rs1 a0_Rs2 a0_Imm a0_CSR) (iShl IntKind.u32 1 (iConv IntKind.u64 (iRem a1 32))))) a0_Imm &&
                  iEq (decode_Decode5 (iXor IntKind.u32 (sallyportref3_Encode0 a0_Op a0_Rd a0_Rs1 a0_Rs2 a0_Imm a0_CSR) (iShl IntKind.u32 1 (iConv IntKind.u64 (iRem a1 32))))) a0_CSR)))))
    else false
def sallyportlaw3_DecodeTurned0r (a0_Op : Int) (a0_Rd : Int) (a0_Rs1 : Int) (a0_Rs2 : Int) (a0_Imm : Int) (a0_CSR : Int) (a1 : Int) : Bool :=
  bif !sallyportref3_Encode1 a0_Op a0_Rd a0_Rs1 a0_Rs2 a0_Imm a0_CSR then true
  else
    bif
        bif
            iEq (decode_Decode6 (iXor IntKind.u32 (sallyportref3_Encode0 a0_Op a0_Rd a0_Rs1 a0_Rs2 a0_Imm a0_CSR) (iShl IntKind.u32 1 (iConv IntKind.u64 (iRem a1 32))))) 0 ==
              sallyportref3_Decode6 (iXor IntKind.u32 (sallyportref3_Encode0 a0_Op a0_Rd a0_Rs1 a0_Rs2 a0_Imm a0_CSR) (iShl IntKind.u32 1 (iConv IntKind.u64 (iRem a1 32)))) then
          iEq (decode_Decode0 (iXor IntKind.u32 (sallyportref3_Encode0 a0_Op a0_Rd a0_Rs1 a0_Rs2 a0_Imm a0_CSR) (iShl IntKind.u32 1 (iConv IntKind.u64 (iRem a1 32)))))
              (sallyportref3_Decode0 (iXor IntKind.u32 (sallyportref3_Encode0 a0_Op a0_Rd a0_Rs1 a0_Rs2 a0_Imm a0_CSR) (iShl IntKind.u32 1 (iConv IntKind.u64 (iRem a1 32))))) &&
            (iEq (decode_Decode1 (iXor IntKind.u32 (sallyportref3_Encode0 a0_Op a0_Rd a0_Rs1 a0_Rs2 a0_Imm a0_CSR) (iShl IntKind.u32 1 (iConv IntKind.u64 (iRem a1 32)))))
                (sallyportref3_Decode1 (iXor IntKind.u32 (sallyportref3_Encode0 a0_Op a0_Rd a0_Rs1 a0_Rs2 a0_Imm a0_CSR) (iShl IntKind.u32 1 (iConv IntKind.u64 (iRem a1 32))))) &&
              (iEq (decode_Decode2 (iXor IntKind.u32 (sallyportref3_Encode0 a0_Op a0_Rd a0_Rs1 a0_Rs2 a0_Imm a0_CSR) (iShl IntKind.u32 1 (iConv IntKind.u64 (iRem a1 32)))))
                  (sallyportref3_Decode2 (iXor IntKind.u32 (sallyportref3_Encode0 a0_Op a0_Rd a0_Rs1 a0_Rs2 a0_Imm a0_CSR) (iShl IntKind.u32 1 (iConv IntKind.u64 (iRem a1 32))))) &&
                (iEq (decode_Decode3 (iXor IntKind.u32 (sallyportref3_Encode0 a0_Op a0_Rd a0_Rs1 a0_Rs2 a0_Imm a0_CSR) (iShl IntKind.u32 1 (iConv IntKind.u64 (iRem a1 32)))))
                    (sallyportref3_Decode3 (iXor IntKind.u32 (sallyportref3_Encode0 a0_Op a0_Rd a0_Rs1 a0_Rs2 a0_Imm a0_CSR) (iShl IntKind.u32 1 (iConv IntKind.u64 (iRem a1 32))))) &&
                  (iEq (decode_Decode4 (iXor IntKind.u32 (sallyportref3_Encode0 a0_Op a0_Rd a0_Rs1 a0_Rs2 a0_Imm a0_CSR) (iShl IntKind.u32 1 (iConv IntKind.u64 (iRem a1 32)))))
                      (sallyportref3_Decode4 (iXor IntKind.u32 (sallyportref3_Encode0 a0_Op a0_Rd a0_Rs1 a0_Rs2 a0_Imm a0_CSR) (iShl IntKind.u32 1 (iConv IntKind.u64 (iRem a1 32))))) &&
                    (sallyportlaw3_DecodeTurned_c0 a0_Op a0_Rd a0_Rs1 a0_Rs2 a0_Imm a0_CSR a1 && true)))))
        else false then
      !(iEq (decode_Decode0 (iXor IntKind.u32 (sallyportref3_Encode0 a0_Op a0_Rd a0_Rs1 a0_Rs2 a0_Imm a0_CSR) (iShl IntKind.u32 1 (iConv IntKind.u64 (iRem a1 32))))) a0_Op &&
          (iEq (decode_Decode1 (iXor IntKind.u32 (sallyportref3_Encode0 a0_Op a0_Rd a0_Rs1 a0_Rs2 a0_Imm a0_CSR) (iShl IntKind.u32 1 (iConv IntKind.u64 (iRem a1 32))))) a0_Rd &&
            (iEq (decode_Decode2 (iXor IntKind.u32 (sallyportref3_Encode0 a0_Op a0_Rd a0_Rs1 a0_Rs2 a0_Imm a0_CSR) (iShl IntKind.u32 1 (iConv IntKind.u64 (iRem a1 32))))) a0_Rs1 &&
              (iEq (decode_Decode3 (iXor IntKind.u32 (sallyportref3_Encode0 a0_Op a0_Rd a0_Rs1 a0_Rs2 a0_Imm a0_CSR) (iShl IntKind.u32 1 (iConv IntKind.u64 (iRem a1 32))))) a0_Rs2 &&
                (iEq (decode_Decode4 (iXor IntKind.u32 (sallyportref3_Encode0 a0_Op a0_Rd a0_Rs1 a0_Rs2 a0_Imm a0_CSR) (iShl IntKind.u32 1 (iConv IntKind.u64 (iRem a1 32))))) a0_Imm &&
                  (iEq (decode_Decode5 (iXor IntKind.u32 (sallyportref3_Encode0 a0_Op a0_Rd a0_Rs1 a0_Rs2 a0_Imm a0_CSR) (iShl IntKind.u32 1 (iConv IntKind.u64 (iRem a1 32))))) a0_CSR && true))))))
    else false
def sallyportlaw3_DecodeTurnedG (a0_Op : Int) (a0_Rd : Int) (a0_Rs1 : Int) (a0_Rs2 : Int) (a0_Imm : Int) (a0_CSR : Int) (a1 : Int) : Bool :=
  bif !sallyportref3_Encode1 a0_Op a0_Rd a0_Rs1 a0_Rs2 a0_Imm a0_CSR then true else true
theorem sallyportlaw3_DecodeTurned0_eq (a0_Op : Int) (a0_Rd : Int) (a0_Rs1 : Int) (a0_Rs2 : Int) (a0_Imm : Int) (a0_CSR : Int) (a1 : Int)  : sallyportlaw3_DecodeTurned0r a0_Op a0_Rd a0_Rs1 a0_Rs2 a0_Imm a0_CSR a1  = sallyportlaw3_DecodeTurned0 a0_Op a0_Rd a0_Rs1 a0_Rs2 a0_Imm a0_CSR a1  := by
  unfold sallyportlaw3_DecodeTurned0r
  first | (simp only [sallyportlaw3_DecodeTurned_c0, Go.Ev.cS1, Go.Ev.cS2, Go.Ev.cS3, Go.Ev.cS4, Go.Ev.cS6, Go.Ev.cS7]; done) | (simp only [sallyportlaw3_DecodeTurned_c0, Go.Ev.cS1, Go.Ev.cS2, Go.Ev.cS3, Go.Ev.cS4, Go.Ev.cS6, Go.Ev.cS7]; kernel_rfl)
def sallyportlaw3_DecodeTurnedV (a0_Op : Int) (a0_Rd : Int) (a0_Rs1 : Int) (a0_Rs2 : Int) (a0_Imm : Int) (a0_CSR : Int) (a1 : Int) : AV := .bl (sallyportlaw3_DecodeTurned0 a0_Op a0_Rd a0_Rs1 a0_Rs2 a0_Imm a0_CSR a1)
def sallyportlaw3_DecodeTurnedVr (a0_Op : Int) (a0_Rd : Int) (a0_Rs1 : Int) (a0_Rs2 : Int) (a0_Imm : Int) (a0_CSR : Int) (a1 : Int) : AV := .bl (sallyportlaw3_DecodeTurned0r a0_Op a0_Rd a0_Rs1 a0_Rs2 a0_Imm a0_CSR a1)
theorem sallyportlaw3_DecodeTurnedV_eq (a0_Op : Int) (a0_Rd : Int) (a0_Rs1 : Int) (a0_Rs2 : Int) (a0_Imm : Int) (a0_CSR : Int) (a1 : Int) : sallyportlaw3_DecodeTurnedVr a0_Op a0_Rd a0_Rs1 a0_Rs2 a0_Imm a0_CSR a1 = sallyportlaw3_DecodeTurnedV a0_Op a0_Rd a0_Rs1 a0_Rs2 a0_Imm a0_CSR a1 := by
  unfold sallyportlaw3_DecodeTurnedVr sallyportlaw3_DecodeTurnedV
  simp only [sallyportlaw3_DecodeTurned0_eq]
theorem sallyportlaw3_DecodeTurnedE (g : Nat → AV) : pcOf Try.prog okT (lookR T6) (inlO Try.prog okT (lookR T6) RO FS 400 ST (hOnce Try.prog 64 25 21) 8) RO NOV 100 false Try.f8 (norms [(.agg [(.int .i64), (.int .i64), (.int .i64), (.int .i64), (.int .i64), (.int .i64)]), (.int .u8)] 0 g) = some (sallyportlaw3_DecodeTurnedG (((g 0).fld 0).num) (((g 0).fld 1).num) (((g 0).fld 2).num) (((g 0).fld 3).num) (((g 0).fld 4).num) (((g 0).fld 5).num) ((g 1).num), sallyportlaw3_DecodeTurnedV (((g 0).fld 0).num) (((g 0).fld 1).num) (((g 0).fld 2).num) (((g 0).fld 3).num) (((g 0).fld 4).num) (((g 0).fld 5).num) ((g 1).num)) :=
  (by kernel_rfl : pcOf Try.prog okT (lookR T6) (inlO Try.prog okT (lookR T6) RO FS 400 ST (hOnce Try.prog 64 25 21) 8) RO NOV 100 false Try.f8 (norms [(.agg [(.int .i64), (.int .i64), (.int .i64), (.int .i64), (.int .i64), (.int .i64)]), (.int .u8)] 0 g) = some (sallyportlaw3_DecodeTurnedG (((g 0).fld 0).num) (((g 0).fld 1).num) (((g 0).fld 2).num) (((g 0).fld 3).num) (((g 0).fld 4).num) (((g 0).fld 5).num) ((g 1).num), sallyportlaw3_DecodeTurnedVr (((g 0).fld 0).num) (((g 0).fld 1).num) (((g 0).fld 2).num) (((g 0).fld 3).num) (((g 0).fld 4).num) (((g 0).fld 5).num) ((g 1).num))).trans (by rw [sallyportlaw3_DecodeTurnedV_eq])
theorem sallyportlaw3_DecodeTurnedP : Plain Try.prog 8 Try.f8 := ⟨Try.func8, of_decide_eq_true (by kernel_rfl)⟩
theorem sallyportlaw3_DecodeTurnedT (a0_Op : Int) (a0_Rd : Int) (a0_Rs1 : Int) (a0_Rs2 : Int) (a0_Imm : Int) (a0_CSR : Int) (a1 : Int) : sallyportlaw3_DecodeTurnedG a0_Op a0_Rd a0_Rs1 a0_Rs2 a0_Imm a0_CSR a1 = true := by
  unfold sallyportlaw3_DecodeTurnedG
  simp only [sallyportlaw3_DecodeTurned_c0, Go.Ev.cS1, Go.Ev.cS2, Go.Ev.cS3, Go.Ev.cS4, Go.Ev.cS6, Go.Ev.cS7]
theorem sallyportlaw3_DecodeTurnedO : RowOk Try.prog 8 (rowF [(.agg [(.int .i64), (.int .i64), (.int .i64), (.int .i64), (.int .i64), (.int .i64)]), (.int .u8)] none fun g => sallyportlaw3_DecodeTurnedV (((g 0).fld 0).num) (((g 0).fld 1).num) (((g 0).fld 2).num) (((g 0).fld 3).num) (((g 0).fld 4).num) (((g 0).fld 5).num) ((g 1).num)) := rowT_ok fun g => pcOf_ok mix fair T6_ok (inlO_ok mix fair T6_ok FS_ok (fun _ h => hOnce_ok once_ok h) 8) sallyportlaw3_DecodeTurnedP (fun c _ => OvOk_none c) (sallyportlaw3_DecodeTurnedE g) (sallyportlaw3_DecodeTurnedT (((g 0).fld 0).num) (((g 0).fld 1).num) (((g 0).fld 2).num) (((g 0).fld 3).num) (((g 0).fld 4).num) (((g 0).fld 5).num) ((g 1).num))
def T8 : List Row := (8, (rowF [(.agg [(.int .i64), (.int .i64), (.int .i64), (.int .i64), (.int .i64), (.int .i64)]), (.int .u8)] none fun g => sallyportlaw3_DecodeTurnedV (((g 0).fld 0).num) (((g 0).fld 1).num) (((g 0).fld 2).num) (((g 0).fld 3).num) (((g 0).fld 4).num) (((g 0).fld 5).num) ((g 1).num))) :: T6
theorem T8_ok : PSound Try.prog (lookR T8) := lookR_cons sallyportlaw3_DecodeTurnedO T6_ok

/- sallyport/sallyportlaw20.next -/
def sallyportlaw20_next0 (a0 : Int) (a1_Op : Int) (a1_Rd : Int) (a1_Rs1 : Int) (a1_Rs2 : Int) (a1_Imm : Int) (a1_CSR : Int) : Int :=
  bif bif iEq a1_Op 3 then true else bif iEq (sallyportref3_Class0 a1_Op) 2 then iLt a1_Imm 0 else false then iAdd IntKind.u64 a0 (iConv IntKind.u64 a1_Imm) else iAdd IntKind.u64 a0 4
def sallyportlaw20_nextG (a0 : Int) (a1_Op : Int) (a1_Rd : Int) (a1_Rs1 : Int) (a1_Rs2 : Int) (a1_Imm : Int) (a1_CSR : Int) : Bool :=
  bif bif iEq a1_Op 3 then true else bif iEq (sallyportref3_Class0 a1_Op) 2 then iLt a1_Imm 0 else false then true else true
def sallyportlaw20_nextV (a0 : Int) (a1_Op : Int) (a1_Rd : Int) (a1_Rs1 : Int) (a1_Rs2 : Int) (a1_Imm : Int) (a1_CSR : Int) : AV := .it .u64 (sallyportlaw20_next0 a0 a1_Op a1_Rd a1_Rs1 a1_Rs2 a1_Imm a1_CSR)
theorem sallyportlaw20_nextE (g : Nat → AV) : pcOf Try.prog okT (lookR T8) (inlO Try.prog okT (lookR T8) RO FS 400 ST (hOnce Try.prog 64 25 21) 8) RO NOV 100 false Try.f14 (norms [(.int .u64), (.agg [(.int .i64), (.int .i64), (.int .i64), (.int .i64), (.int .i64), (.int .i64)])] 0 g) = some (sallyportlaw20_nextG ((g 0).num) (((g 1).fld 0).num) (((g 1).fld 1).num) (((g 1).fld 2).num) (((g 1).fld 3).num) (((g 1).fld 4).num) (((g 1).fld 5).num), sallyportlaw20_nextV ((g 0).num) (((g 1).fld 0).num) (((g 1).fld 1).num) (((g 1).fld 2).num) (((g 1).fld 3).num) (((g 1).fld 4).num) (((g 1).fld 5).num)) := by kernel_rfl
theorem sallyportlaw20_nextP : Plain Try.prog 14 Try.f14 := ⟨Try.func14, of_decide_eq_true (by kernel_rfl)⟩
theorem sallyportlaw20_nextT (a0 : Int) (a1_Op : Int) (a1_Rd : Int) (a1_Rs1 : Int) (a1_Rs2 : Int) (a1_Imm : Int) (a1_CSR : Int) : sallyportlaw20_nextG a0 a1_Op a1_Rd a1_Rs1 a1_Rs2 a1_Imm a1_CSR = true := by
  unfold sallyportlaw20_nextG
  simp only [Go.Ev.cS1, Go.Ev.cS2, Go.Ev.cS3, Go.Ev.cS4, Go.Ev.cS6, Go.Ev.cS7]
theorem sallyportlaw20_nextO : RowOk Try.prog 14 (rowF [(.int .u64), (.agg [(.int .i64), (.int .i64), (.int .i64), (.int .i64), (.int .i64), (.int .i64)])] none fun g => sallyportlaw20_nextV ((g 0).num) (((g 1).fld 0).num) (((g 1).fld 1).num) (((g 1).fld 2).num) (((g 1).fld 3).num) (((g 1).fld 4).num) (((g 1).fld 5).num)) := rowT_ok fun g => pcOf_ok mix fair T8_ok (inlO_ok mix fair T8_ok FS_ok (fun _ h => hOnce_ok once_ok h) 8) sallyportlaw20_nextP (fun c _ => OvOk_none c) (sallyportlaw20_nextE g) (sallyportlaw20_nextT ((g 0).num) (((g 1).fld 0).num) (((g 1).fld 1).num) (((g 1).fld 2).num) (((g 1).fld 3).num) (((g 1).fld 4).num) (((g 1).fld 5).num))
def T14 : List Row := (14, (rowF [(.int .u64), (.agg [(.int .i64), (.int .i64), (.int .i64), (.int .i64), (.int .i64), (.int .i64)])] none fun g => sallyportlaw20_nextV ((g 0).num) (((g 1).fld 0).num) (((g 1).fld 1).num) (((g 1).fld 2).num) (((g 1).fld 3).num) (((g 1).fld 4).num) (((g 1).fld 5).num))) :: T8
theorem T14_ok : PSound Try.prog (lookR T14) := lookR_cons sallyportlaw20_nextO T8_ok

/- sallyport/sallyportlaw20.sure -/
def sallyportlaw20_sure0 (a0_Op : Int) (a0_Rd : Int) (a0_Rs1 : Int) (a0_Rs2 : Int) (a0_Imm : Int) (a0_CSR : Int) : Bool :=
  bif bif bif iEq (sallyportref3_Class0 a0_Op) 1 then iNe a0_Op 4 else false then true else bif iLe 3 (sallyportref3_Class0 a0_Op) then iLe (sallyportref3_Class0 a0_Op) 6 else false then true
  else iEq a0_Op 50
def sallyportlaw20_sureG (a0_Op : Int) (a0_Rd : Int) (a0_Rs1 : Int) (a0_Rs2 : Int) (a0_Imm : Int) (a0_CSR : Int) : Bool :=
  true
def sallyportlaw20_sureV (a0_Op : Int) (a0_Rd : Int) (a0_Rs1 : Int) (a0_Rs2 : Int) (a0_Imm : Int) (a0_CSR : Int) : AV := .bl (sallyportlaw20_sure0 a0_Op a0_Rd a0_Rs1 a0_Rs2 a0_Imm a0_CSR)
theorem sallyportlaw20_sureE (g : Nat → AV) : pcOf Try.prog okT (lookR T14) (inlO Try.prog okT (lookR T14) RO FS 400 ST (hOnce Try.prog 64 25 21) 8) RO NOV 100 false Try.f17 (norms [(.agg [(.int .i64), (.int .i64), (.int .i64), (.int .i64), (.int .i64), (.int .i64)])] 0 g) = some (sallyportlaw20_sureG (((g 0).fld 0).num) (((g 0).fld 1).num) (((g 0).fld 2).num) (((g 0).fld 3).num) (((g 0).fld 4).num) (((g 0).fld 5).num), sallyportlaw20_sureV (((g 0).fld 0).num) (((g 0).fld 1).num) (((g 0).fld 2).num) (((g 0).fld 3).num) (((g 0).fld 4).num) (((g 0).fld 5).num)) := by kernel_rfl
theorem sallyportlaw20_sureP : Plain Try.prog 17 Try.f17 := ⟨Try.func17, of_decide_eq_true (by kernel_rfl)⟩
theorem sallyportlaw20_sureT (a0_Op : Int) (a0_Rd : Int) (a0_Rs1 : Int) (a0_Rs2 : Int) (a0_Imm : Int) (a0_CSR : Int) : sallyportlaw20_sureG a0_Op a0_Rd a0_Rs1 a0_Rs2 a0_Imm a0_CSR = true := rfl
theorem sallyportlaw20_sureO : RowOk Try.prog 17 (rowF [(.agg [(.int .i64), (.int .i64), (.int .i64), (.int .i64), (.int .i64), (.int .i64)])] none fun g => sallyportlaw20_sureV (((g 0).fld 0).num) (((g 0).fld 1).num) (((g 0).fld 2).num) (((g 0).fld 3).num) (((g 0).fld 4).num) (((g 0).fld 5).num)) := rowT_ok fun g => pcOf_ok mix fair T14_ok (inlO_ok mix fair T14_ok FS_ok (fun _ h => hOnce_ok once_ok h) 8) sallyportlaw20_sureP (fun c _ => OvOk_none c) (sallyportlaw20_sureE g) (sallyportlaw20_sureT (((g 0).fld 0).num) (((g 0).fld 1).num) (((g 0).fld 2).num) (((g 0).fld 3).num) (((g 0).fld 4).num) (((g 0).fld 5).num))
def T17 : List Row := (17, (rowF [(.agg [(.int .i64), (.int .i64), (.int .i64), (.int .i64), (.int .i64), (.int .i64)])] none fun g => sallyportlaw20_sureV (((g 0).fld 0).num) (((g 0).fld 1).num) (((g 0).fld 2).num) (((g 0).fld 3).num) (((g 0).fld 4).num) (((g 0).fld 5).num))) :: T14
theorem T17_ok : PSound Try.prog (lookR T17) := lookR_cons sallyportlaw20_sureO T14_ok

/- sallyport/sallyportlaw20.GuessTells -/
def sallyportlaw20_GuessTells0 (a0 : Int) (a1_Op : Int) (a1_Rd : Int) (a1_Rs1 : Int) (a1_Rs2 : Int) (a1_Imm : Int) (a1_CSR : Int) (a2 : Int) (a3 : Int) : Bool :=
  bif !sallyportref3_Encode1 a1_Op a1_Rd a1_Rs1 a1_Rs2 a1_Imm a1_CSR then
    bif
        bif
            iEq (guess_Next0 a0 a2)
              (sallyportlaw20_next0 a0 (sallyportref3_Decode0 a2) (sallyportref3_Decode1 a2) (sallyportref3_Decode2 a2) (sallyportref3_Decode3 a2) (sallyportref3_Decode4 a2)
                (sallyportref3_Decode5 a2)) then
          guess_Sure0 a2 ==
            sallyportlaw20_sure0 (sallyportref3_Decode0 a2) (sallyportref3_Decode1 a2) (sallyportref3_Decode2 a2) (sallyportref3_Decode3 a2) (sallyportref3_Decode4 a2) (sallyportref3_Decode5 a2)
        else false then
      guess_Wrong0 a0 a2 a3 ==
        iNe (sallyportlaw20_next0 a0 (sallyportref3_Decode0 a2) (sallyportref3_Decode1 a2) (sallyportref3_Decode2 a2) (sallyportref3_Decode3 a2) (sallyportref3_Decode4 a2) (sallyportref3_Decode5 a2)) a3
    else false
  else
    bif
        bif iEq (guess_Next0 a0 (sallyportref3_Encode0 a1_Op a1_Rd a1_Rs1 a1_Rs2 a1_Imm a1_CSR)) (sallyportlaw20_next0 a0 a1_Op a1_Rd a1_Rs1 a1_Rs2 a1_Imm a1_CSR) then
          guess_Sure0 (sallyportref3_Encode0 a1_Op a1_Rd a1_Rs1 a1_Rs2 a1_Imm a1_CSR) == sallyportlaw20_sure0 a1_Op a1_Rd a1_Rs1 a1_Rs2 a1_Imm a1_CSR
        else false then
      guess_Wrong0 a0 (sallyportref3_Encode0 a1_Op a1_Rd a1_Rs1 a1_Rs2 a1_Imm a1_CSR) a3 == iNe (sallyportlaw20_next0 a0 a1_Op a1_Rd a1_Rs1 a1_Rs2 a1_Imm a1_CSR) a3
    else false
def sallyportlaw20_GuessTellsG (a0 : Int) (a1_Op : Int) (a1_Rd : Int) (a1_Rs1 : Int) (a1_Rs2 : Int) (a1_Imm : Int) (a1_CSR : Int) (a2 : Int) (a3 : Int) : Bool :=
  bif !sallyportref3_Encode1 a1_Op a1_Rd a1_Rs1 a1_Rs2 a1_Imm a1_CSR then true else true
def sallyportlaw20_GuessTellsV (a0 : Int) (a1_Op : Int) (a1_Rd : Int) (a1_Rs1 : Int) (a1_Rs2 : Int) (a1_Imm : Int) (a1_CSR : Int) (a2 : Int) (a3 : Int) : AV := .bl (sallyportlaw20_GuessTells0 a0 a1_Op a1_Rd a1_Rs1 a1_Rs2 a1_Imm a1_CSR a2 a3)
theorem sallyportlaw20_GuessTellsE (g : Nat → AV) : pcOf Try.prog okT (lookR T17) (inlO Try.prog okT (lookR T17) RO FS 400 ST (hOnce Try.prog 64 25 21) 8) RO NOV 100 false Try.f3 (norms [(.int .u64), (.agg [(.int .i64), (.int .i64), (.int .i64), (.int .i64), (.int .i64), (.int .i64)]), (.int .u32), (.int .u64)] 0 g) = some (sallyportlaw20_GuessTellsG ((g 0).num) (((g 1).fld 0).num) (((g 1).fld 1).num) (((g 1).fld 2).num) (((g 1).fld 3).num) (((g 1).fld 4).num) (((g 1).fld 5).num) ((g 2).num) ((g 3).num), sallyportlaw20_GuessTellsV ((g 0).num) (((g 1).fld 0).num) (((g 1).fld 1).num) (((g 1).fld 2).num) (((g 1).fld 3).num) (((g 1).fld 4).num) (((g 1).fld 5).num) ((g 2).num) ((g 3).num)) := by kernel_rfl
theorem sallyportlaw20_GuessTellsP : Plain Try.prog 3 Try.f3 := ⟨Try.func3, of_decide_eq_true (by kernel_rfl)⟩
theorem sallyportlaw20_GuessTellsT (a0 : Int) (a1_Op : Int) (a1_Rd : Int) (a1_Rs1 : Int) (a1_Rs2 : Int) (a1_Imm : Int) (a1_CSR : Int) (a2 : Int) (a3 : Int) : sallyportlaw20_GuessTellsG a0 a1_Op a1_Rd a1_Rs1 a1_Rs2 a1_Imm a1_CSR a2 a3 = true := by
  unfold sallyportlaw20_GuessTellsG
  simp only [Go.Ev.cS1, Go.Ev.cS2, Go.Ev.cS3, Go.Ev.cS4, Go.Ev.cS6, Go.Ev.cS7]
theorem sallyportlaw20_GuessTellsO : RowOk Try.prog 3 (rowF [(.int .u64), (.agg [(.int .i64), (.int .i64), (.int .i64), (.int .i64), (.int .i64), (.int .i64)]), (.int .u32), (.int .u64)] none fun g => sallyportlaw20_GuessTellsV ((g 0).num) (((g 1).fld 0).num) (((g 1).fld 1).num) (((g 1).fld 2).num) (((g 1).fld 3).num) (((g 1).fld 4).num) (((g 1).fld 5).num) ((g 2).num) ((g 3).num)) := rowT_ok fun g => pcOf_ok mix fair T17_ok (inlO_ok mix fair T17_ok FS_ok (fun _ h => hOnce_ok once_ok h) 8) sallyportlaw20_GuessTellsP (fun c _ => OvOk_none c) (sallyportlaw20_GuessTellsE g) (sallyportlaw20_GuessTellsT ((g 0).num) (((g 1).fld 0).num) (((g 1).fld 1).num) (((g 1).fld 2).num) (((g 1).fld 3).num) (((g 1).fld 4).num) (((g 1).fld 5).num) ((g 2).num) ((g 3).num))
def T3 : List Row := (3, (rowF [(.int .u64), (.agg [(.int .i64), (.int .i64), (.int .i64), (.int .i64), (.int .i64), (.int .i64)]), (.int .u32), (.int .u64)] none fun g => sallyportlaw20_GuessTellsV ((g 0).num) (((g 1).fld 0).num) (((g 1).fld 1).num) (((g 1).fld 2).num) (((g 1).fld 3).num) (((g 1).fld 4).num) (((g 1).fld 5).num) ((g 2).num) ((g 3).num))) :: T17
theorem T3_ok : PSound Try.prog (lookR T3) := lookR_cons sallyportlaw20_GuessTellsO T17_ok

end
end Go.Proofs.Ytigmhcafampfnaa.PV
