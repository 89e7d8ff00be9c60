/-
  One round of the document's Decode, evaluated. Printed by a program of the prover's own (wip/prt).
-/
import Derived.Test.YtigmhcafampfnaaRows
import Derived.Test.YtigmhcafampfnaaEvW
import Derived.Test.YtigmhcafampfnaaEvY
import Derived.Test.YtigmhcafampfnaaGa
set_option linter.unusedVariables false
set_option linter.unusedSimpArgs false
namespace Go.Proofs.Ytigmhcafampfnaa.PV
noncomputable section
open Go Go.Ev
def insnSh : Sh := .agg [.int .i64, .int .i64, .int .i64, .int .i64, .int .i64, .int .i64]
noncomputable def rdCode : Code := (Try.f13.body).getD .skip
def rdL : Lp := { n := 57, n0 := 1, ts := [0, 3, 4], ps := [(2, 0, insnSh)], ids := [0] }
noncomputable def rdBody : Code := inLoop (blkAt rdCode 0)
/- rdRound -/
def rdRound_c0 (a0 : Int) (a1 : Bool) (a2 : Int) (a3_Op : Int) (a3_Rd : Int) (a3_Rs1 : Int) (a3_Rs2 : Int) (a3_Imm : Int) (a3_CSR : Int) : Bool :=
  bif iEq (sallyportref3_fixed0 a2) 0 then
    bif iNe (iAnd IntKind.u32 a0 127) (sallyportref3_Code0 a2) then true else bif iLt 3 a2 then iNe (iAnd IntKind.u32 (iShr IntKind.u32 a0 12) 7) (sallyportref3_Code1 a2) else false
  else false
def rdRound0 (a0 : Int) (a1 : Bool) (a2 : Int) (a3_Op : Int) (a3_Rd : Int) (a3_Rs1 : Int) (a3_Rs2 : Int) (a3_Imm : Int) (a3_CSR : Int) : Int :=
  bif iLt a2 70 then
    bif rdRound_c0 a0 a1 a2 a3_Op a3_Rd a3_Rs1 a3_Rs2 a3_Imm a3_CSR then 0
    else
      bif
          bif sallyportref3_Encode1 a2 (sallyportref3_guess1 a2 a0) (sallyportref3_guess2 a2 a0) (sallyportref3_guess3 a2 a0) (sallyportref3_guess4 a2 a0) (sallyportref3_guess5 a2 a0) then
            iEq (sallyportref3_Encode0 a2 (sallyportref3_guess1 a2 a0) (sallyportref3_guess2 a2 a0) (sallyportref3_guess3 a2 a0) (sallyportref3_guess4 a2 a0) (sallyportref3_guess5 a2 a0)) a0
          else false then
        1
      else 0
  else 2
def rdRound1r (a0 : Int) (a1 : Bool) (a2 : Int) (a3_Op : Int) (a3_Rd : Int) (a3_Rs1 : Int) (a3_Rs2 : Int) (a3_Imm : Int) (a3_CSR : Int) : Int :=
  bif iLt a2 70 then
    bif rdRound_c0 a0 a1 a2 a3_Op a3_Rd a3_Rs1 a3_Rs2 a3_Imm a3_CSR then a0
    else
      bif
          bif sallyportref3_Encode1 a2 (sallyportref3_guess1 a2 a0) (sallyportref3_guess2 a2 a0) (sallyportref3_guess3 a2 a0) (sallyportref3_guess4 a2 a0) (sallyportref3_guess5 a2 a0) then
            iEq (sallyportref3_Encode0 a2 (sallyportref3_guess1 a2 a0) (sallyportref3_guess2 a2 a0) (sallyportref3_guess3 a2 a0) (sallyportref3_guess4 a2 a0) (sallyportref3_guess5 a2 a0)) a0
          else false then
        a0
      else a0
  else a0
def rdRound2 (a0 : Int) (a1 : Bool) (a2 : Int) (a3_Op : Int) (a3_Rd : Int) (a3_Rs1 : Int) (a3_Rs2 : Int) (a3_Imm : Int) (a3_CSR : Int) : Bool :=
  bif iLt a2 70 then
    bif rdRound_c0 a0 a1 a2 a3_Op a3_Rd a3_Rs1 a3_Rs2 a3_Imm a3_CSR then a1
    else
      bif
          bif sallyportref3_Encode1 a2 (sallyportref3_guess1 a2 a0) (sallyportref3_guess2 a2 a0) (sallyportref3_guess3 a2 a0) (sallyportref3_guess4 a2 a0) (sallyportref3_guess5 a2 a0) then
            iEq (sallyportref3_Encode0 a2 (sallyportref3_guess1 a2 a0) (sallyportref3_guess2 a2 a0) (sallyportref3_guess3 a2 a0) (sallyportref3_guess4 a2 a0) (sallyportref3_guess5 a2 a0)) a0
          else false then
        true
      else a1
  else a1
def rdRound3 (a0 : Int) (a1 : Bool) (a2 : Int) (a3_Op : Int) (a3_Rd : Int) (a3_Rs1 : Int) (a3_Rs2 : Int) (a3_Imm : Int) (a3_CSR : Int) : Int :=
  bif iLt a2 70 then
    bif rdRound_c0 a0 a1 a2 a3_Op a3_Rd a3_Rs1 a3_Rs2 a3_Imm a3_CSR then iAdd IntKind.i64 a2 1
    else
      bif
          bif sallyportref3_Encode1 a2 (sallyportref3_guess1 a2 a0) (sallyportref3_guess2 a2 a0) (sallyportref3_guess3 a2 a0) (sallyportref3_guess4 a2 a0) (sallyportref3_guess5 a2 a0) then
            iEq (sallyportref3_Encode0 a2 (sallyportref3_guess1 a2 a0) (sallyportref3_guess2 a2 a0) (sallyportref3_guess3 a2 a0) (sallyportref3_guess4 a2 a0) (sallyportref3_guess5 a2 a0)) a0
          else false then
        a2
      else iAdd IntKind.i64 a2 1
  else a2
def rdRound4 (a0 : Int) (a1 : Bool) (a2 : Int) (a3_Op : Int) (a3_Rd : Int) (a3_Rs1 : Int) (a3_Rs2 : Int) (a3_Imm : Int) (a3_CSR : Int) : Int :=
  bif iLt a2 70 then
    bif rdRound_c0 a0 a1 a2 a3_Op a3_Rd a3_Rs1 a3_Rs2 a3_Imm a3_CSR then a3_Op
    else
      bif
          bif sallyportref3_Encode1 a2 (sallyportref3_guess1 a2 a0) (sallyportref3_guess2 a2 a0) (sallyportref3_guess3 a2 a0) (sallyportref3_guess4 a2 a0) (sallyportref3_guess5 a2 a0) then
            iEq (sallyportref3_Encode0 a2 (sallyportref3_guess1 a2 a0) (sallyportref3_guess2 a2 a0) (sallyportref3_guess3 a2 a0) (sallyportref3_guess4 a2 a0) (sallyportref3_guess5 a2 a0)) a0
          else false then
        a2
      else a3_Op
  else a3_Op
def rdRound5 (a0 : Int) (a1 : Bool) (a2 : Int) (a3_Op : Int) (a3_Rd : Int) (a3_Rs1 : Int) (a3_Rs2 : Int) (a3_Imm : Int) (a3_CSR : Int) : Int :=
  bif iLt a2 70 then
    bif rdRound_c0 a0 a1 a2 a3_Op a3_Rd a3_Rs1 a3_Rs2 a3_Imm a3_CSR then a3_Rd
    else
      bif
          bif sallyportref3_Encode1 a2 (sallyportref3_guess1 a2 a0) (sallyportref3_guess2 a2 a0) (sallyportref3_guess3 a2 a0) (sallyportref3_guess4 a2 a0) (sallyportref3_guess5 a2 a0) then
            iEq (sallyportref3_Encode0 a2 (sallyportref3_guess1 a2 a0) (sallyportref3_guess2 a2 a0) (sallyportref3_guess3 a2 a0) (sallyportref3_guess4 a2 a0) (sallyportref3_guess5 a2 a0)) a0
          else false then
        sallyportref3_guess1 a2 a0
      else a3_Rd
  else a3_Rd
def rdRound6 (a0 : Int) (a1 : Bool) (a2 : Int) (a3_Op : Int) (a3_Rd : Int) (a3_Rs1 : Int) (a3_Rs2 : Int) (a3_Imm : Int) (a3_CSR : Int) : Int :=
  bif iLt a2 70 then
    bif rdRound_c0 a0 a1 a2 a3_Op a3_Rd a3_Rs1 a3_Rs2 a3_Imm a3_CSR then a3_Rs1
    else
      bif
          bif sallyportref3_Encode1 a2 (sallyportref3_guess1 a2 a0) (sallyportref3_guess2 a2 a0) (sallyportref3_guess3 a2 a0) (sallyportref3_guess4 a2 a0) (sallyportref3_guess5 a2 a0) then
            iEq (sallyportref3_Encode0 a2 (sallyportref3_guess1 a2 a0) (sallyportref3_guess2 a2 a0) (sallyportref3_guess3 a2 a0) (sallyportref3_guess4 a2 a0) (sallyportref3_guess5 a2 a0)) a0
          else false then
        sallyportref3_guess2 a2 a0
      else a3_Rs1
  else a3_Rs1
def rdRound7 (a0 : Int) (a1 : Bool) (a2 : Int) (a3_Op : Int) (a3_Rd : Int) (a3_Rs1 : Int) (a3_Rs2 : Int) (a3_Imm : Int) (a3_CSR : Int) : Int :=
  bif iLt a2 70 then
    bif rdRound_c0 a0 a1 a2 a3_Op a3_Rd a3_Rs1 a3_Rs2 a3_Imm a3_CSR then a3_Rs2
    else
      bif
          bif sallyportref3_Encode1 a2 (sallyportref3_guess1 a2 a0) (sallyportref3_guess2 a2 a0) (sallyportref3_guess3 a2 a0) (sallyportref3_guess4 a2 a0) (sallyportref3_guess5 a2 a0) then
            iEq (sallyportref3_Encode0 a2 (sallyportref3_guess1 a2 a0) (sallyportref3_guess2 a2 a0) (sallyportref3_guess3 a2 a0) (sallyportref3_guess4 a2 a0) (sallyportref3_guess5 a2 a0)) a0
          else false then
        sallyportref3_guess3 a2 a0
      else a3_Rs2
  else a3_Rs2
def rdRound8 (a0 : Int) (a1 : Bool) (a2 : Int) (a3_Op : Int) (a3_Rd : Int) (a3_Rs1 : Int) (a3_Rs2 : Int) (a3_Imm : Int) (a3_CSR : Int) : Int :=
  bif iLt a2 70 then
    bif rdRound_c0 a0 a1 a2 a3_Op a3_Rd a3_Rs1 a3_Rs2 a3_Imm a3_CSR then a3_Imm
    else
      bif
          bif sallyportref3_Encode1 a2 (sallyportref3_guess1 a2 a0) (sallyportref3_guess2 a2 a0) (sallyportref3_guess3 a2 a0) (sallyportref3_guess4 a2 a0) (sallyportref3_guess5 a2 a0) then
            iEq (sallyportref3_Encode0 a2 (sallyportref3_guess1 a2 a0) (sallyportref3_guess2 a2 a0) (sallyportref3_guess3 a2 a0) (sallyportref3_guess4 a2 a0) (sallyportref3_guess5 a2 a0)) a0
          else false then
        sallyportref3_guess4 a2 a0
      else a3_Imm
  else a3_Imm
def rdRound9 (a0 : Int) (a1 : Bool) (a2 : Int) (a3_Op : Int) (a3_Rd : Int) (a3_Rs1 : Int) (a3_Rs2 : Int) (a3_Imm : Int) (a3_CSR : Int) : Int :=
  bif iLt a2 70 then
    bif rdRound_c0 a0 a1 a2 a3_Op a3_Rd a3_Rs1 a3_Rs2 a3_Imm a3_CSR then a3_CSR
    else
      bif
          bif sallyportref3_Encode1 a2 (sallyportref3_guess1 a2 a0) (sallyportref3_guess2 a2 a0) (sallyportref3_guess3 a2 a0) (sallyportref3_guess4 a2 a0) (sallyportref3_guess5 a2 a0) then
            iEq (sallyportref3_Encode0 a2 (sallyportref3_guess1 a2 a0) (sallyportref3_guess2 a2 a0) (sallyportref3_guess3 a2 a0) (sallyportref3_guess4 a2 a0) (sallyportref3_guess5 a2 a0)) a0
          else false then
        sallyportref3_guess5 a2 a0
      else a3_CSR
  else a3_CSR
def rdRoundG (a0 : Int) (a1 : Bool) (a2 : Int) (a3_Op : Int) (a3_Rd : Int) (a3_Rs1 : Int) (a3_Rs2 : Int) (a3_Imm : Int) (a3_CSR : Int) : Bool :=
  bif iLt a2 70 then
    sallyportref3_CodeG a2 &&
      bif rdRound_c0 a0 a1 a2 a3_Op a3_Rd a3_Rs1 a3_Rs2 a3_Imm a3_CSR then true
      else
        bif
            bif sallyportref3_Encode1 a2 (sallyportref3_guess1 a2 a0) (sallyportref3_guess2 a2 a0) (sallyportref3_guess3 a2 a0) (sallyportref3_guess4 a2 a0) (sallyportref3_guess5 a2 a0) then
              iEq (sallyportref3_Encode0 a2 (sallyportref3_guess1 a2 a0) (sallyportref3_guess2 a2 a0) (sallyportref3_guess3 a2 a0) (sallyportref3_guess4 a2 a0) (sallyportref3_guess5 a2 a0)) a0
            else false then
          true
        else true
  else true
theorem rdRound1_eq (a0 : Int) (a1 : Bool) (a2 : Int) (a3_Op : Int) (a3_Rd : Int) (a3_Rs1 : Int) (a3_Rs2 : Int) (a3_Imm : Int) (a3_CSR : Int)  : rdRound1r a0 a1 a2 a3_Op a3_Rd a3_Rs1 a3_Rs2 a3_Imm a3_CSR  = a0 := by
  unfold rdRound1r
  first | (simp only [rdRound_c0, Go.Ev.cS1, Go.Ev.cS2, Go.Ev.cS3, Go.Ev.cS4, Go.Ev.cS6, Go.Ev.cS7]; done) | (simp only [rdRound_c0, Go.Ev.cS1, Go.Ev.cS2, Go.Ev.cS3, Go.Ev.cS4, Go.Ev.cS6, Go.Ev.cS7]; kernel_rfl)
def rdRoundV (a0 : Int) (a1 : Bool) (a2 : Int) (a3_Op : Int) (a3_Rd : Int) (a3_Rs1 : Int) (a3_Rs2 : Int) (a3_Imm : Int) (a3_CSR : Int) : AV := .tup [.it .i64 (rdRound0 a0 a1 a2 a3_Op a3_Rd a3_Rs1 a3_Rs2 a3_Imm a3_CSR), .it .u32 a0, .bl (rdRound2 a0 a1 a2 a3_Op a3_Rd a3_Rs1 a3_Rs2 a3_Imm a3_CSR), .it .i64 (rdRound3 a0 a1 a2 a3_Op a3_Rd a3_Rs1 a3_Rs2 a3_Imm a3_CSR), .agg [.it .i64 (rdRound4 a0 a1 a2 a3_Op a3_Rd a3_Rs1 a3_Rs2 a3_Imm a3_CSR), .it .i64 (rdRound5 a0 a1 a2 a3_Op a3_Rd a3_Rs1 a3_Rs2 a3_Imm a3_CSR), .it .i64 (rdRound6 a0 a1 a2 a3_Op a3_Rd a3_Rs1 a3_Rs2 a3_Imm a3_CSR), .it .i64 (rdRound7 a0 a1 a2 a3_Op a3_Rd a3_Rs1 a3_Rs2 a3_Imm a3_CSR), .it .i64 (rdRound8 a0 a1 a2 a3_Op a3_Rd a3_Rs1 a3_Rs2 a3_Imm a3_CSR), .it .i64 (rdRound9 a0 a1 a2 a3_Op a3_Rd a3_Rs1 a3_Rs2 a3_Imm a3_CSR)]]
def rdRoundVr (a0 : Int) (a1 : Bool) (a2 : Int) (a3_Op : Int) (a3_Rd : Int) (a3_Rs1 : Int) (a3_Rs2 : Int) (a3_Imm : Int) (a3_CSR : Int) : AV := .tup [.it .i64 (rdRound0 a0 a1 a2 a3_Op a3_Rd a3_Rs1 a3_Rs2 a3_Imm a3_CSR), .it .u32 (rdRound1r a0 a1 a2 a3_Op a3_Rd a3_Rs1 a3_Rs2 a3_Imm a3_CSR), .bl (rdRound2 a0 a1 a2 a3_Op a3_Rd a3_Rs1 a3_Rs2 a3_Imm a3_CSR), .it .i64 (rdRound3 a0 a1 a2 a3_Op a3_Rd a3_Rs1 a3_Rs2 a3_Imm a3_CSR), .agg [.it .i64 (rdRound4 a0 a1 a2 a3_Op a3_Rd a3_Rs1 a3_Rs2 a3_Imm a3_CSR), .it .i64 (rdRound5 a0 a1 a2 a3_Op a3_Rd a3_Rs1 a3_Rs2 a3_Imm a3_CSR), .it .i64 (rdRound6 a0 a1 a2 a3_Op a3_Rd a3_Rs1 a3_Rs2 a3_Imm a3_CSR), .it .i64 (rdRound7 a0 a1 a2 a3_Op a3_Rd a3_Rs1 a3_Rs2 a3_Imm a3_CSR), .it .i64 (rdRound8 a0 a1 a2 a3_Op a3_Rd a3_Rs1 a3_Rs2 a3_Imm a3_CSR), .it .i64 (rdRound9 a0 a1 a2 a3_Op a3_Rd a3_Rs1 a3_Rs2 a3_Imm a3_CSR)]]
theorem rdRoundV_eq (a0 : Int) (a1 : Bool) (a2 : Int) (a3_Op : Int) (a3_Rd : Int) (a3_Rs1 : Int) (a3_Rs2 : Int) (a3_Imm : Int) (a3_CSR : Int) : rdRoundVr a0 a1 a2 a3_Op a3_Rd a3_Rs1 a3_Rs2 a3_Imm a3_CSR = rdRoundV a0 a1 a2 a3_Op a3_Rd a3_Rs1 a3_Rs2 a3_Imm a3_CSR := by
  unfold rdRoundVr rdRoundV
  simp only [rdRound1_eq]
theorem rdRoundE (g : Nat → AV) : roundOf Try.prog okT (lookR T22) (inlO Try.prog okT (lookR T22) RO FS 400 ST (hOnce Try.prog 64 25 21) 8) RO NOV 101 false rdBody rdL (norms [(.int .u32), .bool, (.int .i64), (.agg [(.int .i64), (.int .i64), (.int .i64), (.int .i64), (.int .i64), (.int .i64)])] 0 g) = some (rdRoundG ((g 0).num) ((g 1).bool) ((g 2).num) (((g 3).fld 0).num) (((g 3).fld 1).num) (((g 3).fld 2).num) (((g 3).fld 3).num) (((g 3).fld 4).num) (((g 3).fld 5).num), rdRoundV ((g 0).num) ((g 1).bool) ((g 2).num) (((g 3).fld 0).num) (((g 3).fld 1).num) (((g 3).fld 2).num) (((g 3).fld 3).num) (((g 3).fld 4).num) (((g 3).fld 5).num)) :=
  (by kernel_rfl : roundOf Try.prog okT (lookR T22) (inlO Try.prog okT (lookR T22) RO FS 400 ST (hOnce Try.prog 64 25 21) 8) RO NOV 101 false rdBody rdL (norms [(.int .u32), .bool, (.int .i64), (.agg [(.int .i64), (.int .i64), (.int .i64), (.int .i64), (.int .i64), (.int .i64)])] 0 g) = some (rdRoundG ((g 0).num) ((g 1).bool) ((g 2).num) (((g 3).fld 0).num) (((g 3).fld 1).num) (((g 3).fld 2).num) (((g 3).fld 3).num) (((g 3).fld 4).num) (((g 3).fld 5).num), rdRoundVr ((g 0).num) ((g 1).bool) ((g 2).num) (((g 3).fld 0).num) (((g 3).fld 1).num) (((g 3).fld 2).num) (((g 3).fld 3).num) (((g 3).fld 4).num) (((g 3).fld 5).num))).trans (by rw [rdRoundV_eq])

end
end Go.Proofs.Ytigmhcafampfnaa.PV
