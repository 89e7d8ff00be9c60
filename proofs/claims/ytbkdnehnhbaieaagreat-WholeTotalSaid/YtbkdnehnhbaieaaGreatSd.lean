/-
  Lemmas of the prover's own, joined: Gb Gc Gd EvY EvZ EwA EwB EwC EwD EwE EwF.
-/
import Derived.Test.YtbkdnehnhbaieaaGreatRows
import Derived.Carry
import Derived.ChangeOld
import Derived.ChangeArms
import Derived.Test.YtbkdnehnhbaieaaGreatSc
set_option linter.unusedVariables false
set_option linter.unusedSimpArgs false
namespace Go.Proofs.YtbkdnehnhbaieaaGreat.PV
noncomputable section
open Go Go.Ev
def cN9 (a0 : List UInt8) (a1 a2 : Int) : Int :=
 bif bif iLe 0 a1 then iLt a1 (sLen a0) else false then
 iOr .u64
 (iOr .u64
 (iOr .u64
 (iOr .u64
 (iOr .u64
 (iOr .u64
 (iOr .u64
 (iOr .u64 0
 (iShl .u64
 (g8 .u64
 (bif Nat.blt 0 (0 + instMinNat.1 (sCut a0 a1 (sLen a0)).length ((iMin (iMax a2 0) 8).toNat - 0)) then ↑((sCut a0 a1 (sLen a0)).getD (Int.toNat 0 - Int.toNat 0) 0).toBitVec.1.1
 else 0))
 0))
 (iShl .u64
 (g8 .u64
 (bif Nat.blt 1 (0 + instMinNat.1 (sCut a0 a1 (sLen a0)).length ((iMin (iMax a2 0) 8).toNat - 0)) then
 ↑((sCut a0 a1 (sLen a0)).getD ((iAdd .i64 0 1).toNat - Int.toNat 0) 0).toBitVec.1.1
 else 0))
 8))
 (iShl .u64
 (g8 .u64
 (bif Nat.blt 2 (0 + instMinNat.1 (sCut a0 a1 (sLen a0)).length ((iMin (iMax a2 0) 8).toNat - 0)) then
 ↑((sCut a0 a1 (sLen a0)).getD ((iAdd .i64 (iAdd .i64 0 1) 1).toNat - Int.toNat 0) 0).toBitVec.1.1
 else 0))
 16))
 (iShl .u64
 (g8 .u64
 (bif Nat.blt 3 (0 + instMinNat.1 (sCut a0 a1 (sLen a0)).length ((iMin (iMax a2 0) 8).toNat - 0)) then
 ↑((sCut a0 a1 (sLen a0)).getD ((iAdd .i64 (iAdd .i64 (iAdd .i64 0 1) 1) 1).toNat - Int.toNat 0) 0).toBitVec.1.1
 else 0))
 24))
 (iShl .u64
 (g8 .u64
 (bif Nat.blt 4 (0 + instMinNat.1 (sCut a0 a1 (sLen a0)).length ((iMin (iMax a2 0) 8).toNat - 0)) then
 ↑((sCut a0 a1 (sLen a0)).getD ((iAdd .i64 (iAdd .i64 (iAdd .i64 (iAdd .i64 0 1) 1) 1) 1).toNat - Int.toNat 0) 0).toBitVec.1.1
 else 0))
 32))
 (iShl .u64
 (g8 .u64
 (bif Nat.blt 5 (0 + instMinNat.1 (sCut a0 a1 (sLen a0)).length ((iMin (iMax a2 0) 8).toNat - 0)) then
 ↑((sCut a0 a1 (sLen a0)).getD ((iAdd .i64 (iAdd .i64 (iAdd .i64 (iAdd .i64 (iAdd .i64 0 1) 1) 1) 1) 1).toNat - Int.toNat 0) 0).toBitVec.1.1
 else 0))
 40))
 (iShl .u64
 (g8 .u64
 (bif Nat.blt 6 (0 + instMinNat.1 (sCut a0 a1 (sLen a0)).length ((iMin (iMax a2 0) 8).toNat - 0)) then
 ↑((sCut a0 a1 (sLen a0)).getD ((iAdd .i64 (iAdd .i64 (iAdd .i64 (iAdd .i64 (iAdd .i64 (iAdd .i64 0 1) 1) 1) 1) 1) 1).toNat - Int.toNat 0)
 0).toBitVec.1.1
 else 0))
 48))
 (iShl .u64
 (g8 .u64
 (bif Nat.blt 7 (0 + instMinNat.1 (sCut a0 a1 (sLen a0)).length ((iMin (iMax a2 0) 8).toNat - 0)) then
 ↑((sCut a0 a1 (sLen a0)).getD
 ((iAdd .i64 (iAdd .i64 (iAdd .i64 (iAdd .i64 (iAdd .i64 (iAdd .i64 (iAdd .i64 0 1) 1) 1) 1) 1) 1) 1).toNat - Int.toNat 0)
 0).toBitVec.1.1
 else 0))
 56)
 else
 bif bif iLt a1 0 then iLt (-8) a1 else false then
 iOr .u64
 (iOr .u64
 (iOr .u64
 (iOr .u64
 (iOr .u64
 (iOr .u64
 (iOr .u64
 (iOr .u64 0
 (iShl .u64
 (g8 .u64
 (bif
 (iSub .i64 0 a1).toNat.ble 0 &&
 Nat.blt 0 ((iSub .i64 0 a1).toNat + instMinNat.1 a0.length ((iMax (iMin a2 8) (iSub .i64 0 a1)).toNat - (iSub .i64 0 a1).toNat)) then
 ↑(a0.getD (Int.toNat 0 - (iSub .i64 0 a1).toNat) 0).toBitVec.1.1
 else 0))
 0))
 (iShl .u64
 (g8 .u64
 (bif
 (iSub .i64 0 a1).toNat.ble 1 &&
 Nat.blt 1 ((iSub .i64 0 a1).toNat + instMinNat.1 a0.length ((iMax (iMin a2 8) (iSub .i64 0 a1)).toNat - (iSub .i64 0 a1).toNat)) then
 ↑(a0.getD ((iAdd .i64 0 1).toNat - (iSub .i64 0 a1).toNat) 0).toBitVec.1.1
 else 0))
 8))
 (iShl .u64
 (g8 .u64
 (bif
 (iSub .i64 0 a1).toNat.ble 2 &&
 Nat.blt 2 ((iSub .i64 0 a1).toNat + instMinNat.1 a0.length ((iMax (iMin a2 8) (iSub .i64 0 a1)).toNat - (iSub .i64 0 a1).toNat)) then
 ↑(a0.getD ((iAdd .i64 (iAdd .i64 0 1) 1).toNat - (iSub .i64 0 a1).toNat) 0).toBitVec.1.1
 else 0))
 16))
 (iShl .u64
 (g8 .u64
 (bif
 (iSub .i64 0 a1).toNat.ble 3 &&
 Nat.blt 3 ((iSub .i64 0 a1).toNat + instMinNat.1 a0.length ((iMax (iMin a2 8) (iSub .i64 0 a1)).toNat - (iSub .i64 0 a1).toNat)) then
 ↑(a0.getD ((iAdd .i64 (iAdd .i64 (iAdd .i64 0 1) 1) 1).toNat - (iSub .i64 0 a1).toNat) 0).toBitVec.1.1
 else 0))
 24))
 (iShl .u64
 (g8 .u64
 (bif
 (iSub .i64 0 a1).toNat.ble 4 &&
 Nat.blt 4 ((iSub .i64 0 a1).toNat + instMinNat.1 a0.length ((iMax (iMin a2 8) (iSub .i64 0 a1)).toNat - (iSub .i64 0 a1).toNat)) then
 ↑(a0.getD ((iAdd .i64 (iAdd .i64 (iAdd .i64 (iAdd .i64 0 1) 1) 1) 1).toNat - (iSub .i64 0 a1).toNat) 0).toBitVec.1.1
 else 0))
 32))
 (iShl .u64
 (g8 .u64
 (bif
 (iSub .i64 0 a1).toNat.ble 5 &&
 Nat.blt 5 ((iSub .i64 0 a1).toNat + instMinNat.1 a0.length ((iMax (iMin a2 8) (iSub .i64 0 a1)).toNat - (iSub .i64 0 a1).toNat)) then
 ↑(a0.getD ((iAdd .i64 (iAdd .i64 (iAdd .i64 (iAdd .i64 (iAdd .i64 0 1) 1) 1) 1) 1).toNat - (iSub .i64 0 a1).toNat) 0).toBitVec.1.1
 else 0))
 40))
 (iShl .u64
 (g8 .u64
 (bif
 (iSub .i64 0 a1).toNat.ble 6 &&
 Nat.blt 6 ((iSub .i64 0 a1).toNat + instMinNat.1 a0.length ((iMax (iMin a2 8) (iSub .i64 0 a1)).toNat - (iSub .i64 0 a1).toNat)) then
 ↑(a0.getD ((iAdd .i64 (iAdd .i64 (iAdd .i64 (iAdd .i64 (iAdd .i64 (iAdd .i64 0 1) 1) 1) 1) 1) 1).toNat - (iSub .i64 0 a1).toNat)
 0).toBitVec.1.1
 else 0))
 48))
 (iShl .u64
 (g8 .u64
 (bif
 (iSub .i64 0 a1).toNat.ble 7 &&
 Nat.blt 7 ((iSub .i64 0 a1).toNat + instMinNat.1 a0.length ((iMax (iMin a2 8) (iSub .i64 0 a1)).toNat - (iSub .i64 0 a1).toNat)) then
 ↑(a0.getD
 ((iAdd .i64 (iAdd .i64 (iAdd .i64 (iAdd .i64 (iAdd .i64 (iAdd .i64 (iAdd .i64 0 1) 1) 1) 1) 1) 1) 1).toNat -
 (iSub .i64 0 a1).toNat)
 0).toBitVec.1.1
 else 0))
 56)
 else 0
def aS4 (a0 : List UInt8) (a1 a2 : Int) : Bool :=
 bif bif iLe 0 a1 then iLt a1 (sLen a0) else false then iLe 0 (iMin (iMax a2 0) 8) && iLe (iMin (iMax a2 0) 8) 8 && (iLe 0 a1 && (iLe a1 (sLen a0) && iLe (sLen a0) (sLen a0)) && true)
 else
 bif bif iLt a1 0 then iLt (-8) a1 else false then
 iLe 0 (iSub .i64 0 a1) && (iLe (iSub .i64 0 a1) (iMax (iMin a2 8) (iSub .i64 0 a1)) && iLe (iMax (iMin a2 8) (iSub .i64 0 a1)) 8) && true
 else true
def cn3 (a0 : List UInt8) (a1 a2 : Int) : AV := .it .u64 (cN9 a0 a1 a2)
def word_GetA (g : Nat → AV) : AV := cn3 ((g 0).str) ((g 1).num) ((g 2).num)
def word_GetB (g : Nat → AV) : Bool := aS4 ((g 0).str) ((g 1).num) ((g 2).num)
theorem word_GetE (g : Nat → AV) : pO T193 100 false Tryz.f94 (r7 [.str, (.int .i64), (.int .i64)] 0 g) = some (word_GetB g, word_GetA g) := by kernel_rfl
theorem word_GetP : Plain Tryz.prog 94 Tryz.f94 := ⟨Tryz.func94, of_decide_eq_true (by kernel_rfl)⟩
def row94Q : List AV → Option (Option Bool × AV) := rowF [.str, (.int .i64), (.int .i64)] (some fun g => word_GetB g) word_GetA
theorem word_GetO : D1 Tryz.prog 94 row94Q := R9 fun g hg => p6 mix A7 dA1 (o9 mix A7 dA1 D5 (fun _ h => o5 p8 h) 8) word_GetP (fun c _ => m7 c) (word_GetE g) hg
def T94 : List Row := (94, row94Q) :: T193
theorem T94_ok : r0 Tryz.prog (m5 T94) := m8 word_GetO dA1
def aW2 (a0 a1 : Int) : List UInt8 :=
 bytesOf
 (fun j =>
 AV.it .u8
 (bif j == 7 then g8 .u8 (iShr .u64 a0 56)
 else
 bif j == 6 then g8 .u8 (iShr .u64 a0 48)
 else
 bif j == 5 then g8 .u8 (iShr .u64 a0 40)
 else
 bif j == 4 then g8 .u8 (iShr .u64 a0 32)
 else
 bif j == 3 then g8 .u8 (iShr .u64 a0 24)
 else
 bif j == 2 then g8 .u8 (iShr .u64 a0 16)
 else bif j == 1 then g8 .u8 (iShr .u64 a0 8) else bif j == 0 then g8 .u8 (iShr .u64 a0 0) else 0))
 0 ((iMin (iMax a1 0) 8).toNat - 0)
def az3 (a0 a1 : Int) : Bool :=
 iLe 0 (iMin (iMax a1 0) 8) && iLe (iMin (iMax a1 0) 8) 8 && true
def by2 (a0 a1 : Int) : AV := .st (aW2 a0 a1)
def word_BytesA (g : Nat → AV) : AV := by2 ((g 0).num) ((g 1).num)
def word_BytesB (g : Nat → AV) : Bool := az3 ((g 0).num) ((g 1).num)
theorem dm1 (g : Nat → AV) : pO T94 100 false Tryz.f88 (r7 [(.int .u64), (.int .i64)] 0 g) = some (word_BytesB g, word_BytesA g) := by kernel_rfl
theorem dt2 : Plain Tryz.prog 88 Tryz.f88 := ⟨Tryz.func88, of_decide_eq_true (by kernel_rfl)⟩
def row88Q : List AV → Option (Option Bool × AV) := rowF [(.int .u64), (.int .i64)] (some fun g => word_BytesB g) word_BytesA
theorem dd5 : D1 Tryz.prog 88 row88Q := R9 fun g hg => p6 mix A7 T94_ok (o9 mix A7 T94_ok D5 (fun _ h => o5 p8 h) 8) dt2 (fun c _ => m7 c) (dm1 g) hg
def T88 : List Row := (88, row88Q) :: T94
theorem T88_ok : r0 Tryz.prog (m5 T88) := m8 dd5 T94_ok
def P9 (a0 a1 : Int) : Bool :=
 bif bif bif bif iNe a1 1 then iNe a1 2 else false then iNe a1 4 else false then iNe a1 8 else false then true else iNe (iRem a0 (g8 .u64 a1)) 0
def bp6 (a0 a1 : Int) : Int :=
 bif P9 a0 a1 then 61 else bif iLe 32768 a0 then 60 else 0
def ar4 (a0 a1 : Int) : Bool :=
 ((!!bif bif bif iNe a1 1 then iNe a1 2 else false then iNe a1 4 else false then iNe a1 8 else false) || iNe (g8 .u64 a1) 0) &&
 bif P9 a0 a1 then true else bif iLe 32768 a0 then true else true
def bM8 (a0 a1 : Int) : AV := .it .i64 (bp6 a0 a1)
def mem_checkA (g : Nat → AV) : AV := bM8 ((g 0).num) ((g 1).num)
def mem_checkB (g : Nat → AV) : Bool := ar4 ((g 0).num) ((g 1).num)
theorem dO4 (g : Nat → AV) : pO T88 100 false Tryz.f87 (r7 [(.int .u64), (.int .i64)] 0 g) = some (mem_checkB g, mem_checkA g) := by kernel_rfl
theorem dM3 : Plain Tryz.prog 87 Tryz.f87 := ⟨Tryz.func87, of_decide_eq_true (by kernel_rfl)⟩
def row87Q : List AV → Option (Option Bool × AV) := rowF [(.int .u64), (.int .i64)] (some fun g => mem_checkB g) mem_checkA
theorem dJ7 : D1 Tryz.prog 87 row87Q := R9 fun g hg => p6 mix A7 T88_ok (o9 mix A7 T88_ok D5 (fun _ h => o5 p8 h) 8) dM3 (fun c _ => m7 c) (dO4 g) hg
def T87 : List Row := (87, row87Q) :: T88
theorem T87_ok : r0 Tryz.prog (m5 T87) := m8 dJ7 T88_ok
def ai6 (a0 : Int) : Int :=
 bif iEq a0 12 then 1 else bif iEq a0 20 then 2 else 0
def bg5 (a0 : Int) : Bool :=
 bif iEq a0 12 then true else bif iEq a0 20 then true else true
def bj9 (a0 : Int) : AV := .it .i64 (ai6 a0)
def access_sortA (g : Nat → AV) : AV := bj9 ((g 0).num)
def access_sortB (g : Nat → AV) : Bool := bg5 ((g 0).num)
theorem db1 (g : Nat → AV) : pO T87 100 false Tryz.f316 (r7 [(.int .u64)] 0 g) = some (access_sortB g, access_sortA g) := by kernel_rfl
theorem cO0 : Plain Tryz.prog 316 Tryz.f316 := ⟨Tryz.func316, of_decide_eq_true (by kernel_rfl)⟩
theorem cN1 (a0 : Int) : bg5 a0 = true := by
  unfold bg5
  simp only [cS1, cS2, cS3, cS4, cS6, cS7]
def row316Q : List AV → Option (Option Bool × AV) := rowF [(.int .u64)] none access_sortA
theorem cQ5 : D1 Tryz.prog 316 row316Q := s3 fun g => p6 mix A7 T87_ok (o9 mix A7 T87_ok D5 (fun _ h => o5 p8 h) 8) cO0 (fun c _ => m7 c) (db1 g) (cN1 ..)
def T316 : List Row := (316, row316Q) :: T87
theorem dl2 : r0 Tryz.prog (m5 T316) := m8 cQ5 T87_ok
def aB3 (f8 : Nat → Int) (b8 a7 : Int) (f9 : Bool) (g0 : Nat → Int) (a9 l7 n7 l3 l5 l6 k9 : Int) : Int :=
 bif bif iEq (a8 l7) 2 then N4 l7 (f8 l3.toNat) (f8 l5.toNat) else false then iAdd .u64 b8 (g8 .u64 l6)
 else bif iEq l7 4 then T1 .u64 (iAdd .u64 (f8 l3.toNat) (g8 .u64 l6)) 1 else iAdd .u64 b8 4
def J7 (f8 : Nat → Int) (b8 a7 : Int) (f9 : Bool) (g0 : Nat → Int) (a9 l7 n7 l3 l5 l6 k9 : Int) : Int :=
 bif !E6 l7 n7 l3 l5 l6 k9 then iAdd .u64 b8 4
 else bif iEq l7 3 then iAdd .u64 b8 (g8 .u64 l6) else aB3 f8 b8 a7 f9 g0 a9 l7 n7 l3 l5 l6 k9
def bu9 (f8 : Nat → Int) (b8 a7 : Int) (f9 : Bool) (g0 : Nat → Int) (a9 l7 n7 l3 l5 l6 k9 : Int) : Int :=
 bif !E6 l7 n7 l3 l5 l6 k9 then iAdd .u64 b8 4
 else
 bif iEq l7 3 then
 bif iEq l7 3 then iAdd .u64 b8 (g8 .u64 l6)
 else bif iEq l7 4 then T1 .u64 (iAdd .u64 (f8 l3.toNat) (g8 .u64 l6)) 1 else iAdd .u64 b8 4
 else aB3 f8 b8 a7 f9 g0 a9 l7 n7 l3 l5 l6 k9
def aG8 (f8 : Nat → Int) (b8 a7 : Int) (f9 : Bool) (g0 : Nat → Int) (a9 l7 n7 l3 l5 l6 k9 : Int) : Bool :=
 bif !E6 l7 n7 l3 l5 l6 k9 then true
 else
 bif iEq l7 3 then bif iEq l7 3 then true else bif iEq l7 4 then iIn l3 32 && true else true
 else
 (!iEq (a8 l7) 2 || iIn l3 32) &&
 ((!iEq (a8 l7) 2 || iIn l5 32) &&
 bif bif iEq (a8 l7) 2 then N4 l7 (f8 l3.toNat) (f8 l5.toNat) else false then true else bif iEq l7 4 then iIn l3 32 && true else true)
theorem cD5 (f8 : Nat → Int) (b8 a7 : Int) (f9 : Bool) (g0 : Nat → Int) (a9 l7 n7 l3 l5 l6 k9 : Int)  : bu9 f8 b8 a7 f9 g0 a9 l7 n7 l3 l5 l6 k9  = J7 f8 b8 a7 f9 g0 a9 l7 n7 l3 l5 l6 k9  := by
  unfold bu9
  first | (simp only [aB3, cS1, cS2, cS3, cS4, cS6, cS7]; done) | (simp only [aB3, cS1, cS2, cS3, cS4, cS6, cS7]; kernel_rfl)
def aQ3 (f8 : Nat → Int) (b8 a7 : Int) (f9 : Bool) (g0 : Nat → Int) (a9 l7 n7 l3 l5 l6 k9 : Int) : AV := .it .u64 (J7 f8 b8 a7 f9 g0 a9 l7 n7 l3 l5 l6 k9)
def bw2 (f8 : Nat → Int) (b8 a7 : Int) (f9 : Bool) (g0 : Nat → Int) (a9 l7 n7 l3 l5 l6 k9 : Int) : AV := .it .u64 (bu9 f8 b8 a7 f9 g0 a9 l7 n7 l3 l5 l6 k9)
theorem cC8 (f8 : Nat → Int) (b8 a7 : Int) (f9 : Bool) (g0 : Nat → Int) (a9 l7 n7 l3 l5 l6 k9 : Int) : bw2 f8 b8 a7 f9 g0 a9 l7 n7 l3 l5 l6 k9 = aQ3 f8 b8 a7 f9 g0 a9 l7 n7 l3 l5 l6 k9 := by
  unfold bw2 aQ3
  simp only [cD5]
def exec_GoesA (g : Nat → AV) : AV := aQ3 (fun i0 => (((g 0).fld 0).ix i0).num) (((g 0).fld 1).num) (((g 0).fld 2).num) (((g 0).fld 3).bool) (fun i0 => (((g 0).fld 4).ix i0).num) (((g 0).fld 5).num) (((g 1).fld 0).num) (((g 1).fld 1).num) (((g 1).fld 2).num) (((g 1).fld 3).num) (((g 1).fld 4).num) (((g 1).fld 5).num)
def exec_GoesB (g : Nat → AV) : Bool := aG8 (fun i0 => (((g 0).fld 0).ix i0).num) (((g 0).fld 1).num) (((g 0).fld 2).num) (((g 0).fld 3).bool) (fun i0 => (((g 0).fld 4).ix i0).num) (((g 0).fld 5).num) (((g 1).fld 0).num) (((g 1).fld 1).num) (((g 1).fld 2).num) (((g 1).fld 3).num) (((g 1).fld 4).num) (((g 1).fld 5).num)
theorem dK1 (g : Nat → AV) : pO T316 100 false Tryz.f271 (r7 [sh0Q, sh1Q] 0 g) = some (exec_GoesB g, exec_GoesA g) := (by kernel_rfl : _ = some (exec_GoesB g, bw2 (fun i0 => (((g 0).fld 0).ix i0).num) (((g 0).fld 1).num) (((g 0).fld 2).num) (((g 0).fld 3).bool) (fun i0 => (((g 0).fld 4).ix i0).num) (((g 0).fld 5).num) (((g 1).fld 0).num) (((g 1).fld 1).num) (((g 1).fld 2).num) (((g 1).fld 3).num) (((g 1).fld 4).num) (((g 1).fld 5).num))).trans (by rw [cC8]; rfl)
theorem dS9 : Plain Tryz.prog 271 Tryz.f271 := ⟨Tryz.func271, of_decide_eq_true (by kernel_rfl)⟩
def row271Q : List AV → Option (Option Bool × AV) := rowF [sh0Q, sh1Q] (some fun g => exec_GoesB g) exec_GoesA
theorem dN8 : D1 Tryz.prog 271 row271Q := R9 fun g hg => p6 mix A7 dl2 (o9 mix A7 dl2 D5 (fun _ h => o5 p8 h) 8) dS9 (fun c _ => m7 c) (dK1 g) hg
def T271 : List Row := (271, row271Q) :: T316
theorem dm2 : r0 Tryz.prog (m5 T271) := m8 dN8 dl2
def ai3 (f8 : Nat → Int) (b8 a7 : Int) (f9 : Bool) (g0 : Nat → Int) (a9 l7 n7 l3 l5 l6 k9 : Int) : Int :=
 bif iEq l7 53 then 3
 else
 bif (p0 f8 b8 a7 f9 g0 a9).toNat == 5 then 10
 else
 bif (p0 f8 b8 a7 f9 g0 a9).toNat == 4 then 8
 else
 bif (p0 f8 b8 a7 f9 g0 a9).toNat == 3 then 11
 else
 bif (p0 f8 b8 a7 f9 g0 a9).toNat == 2 then 0
 else
 bif (p0 f8 b8 a7 f9 g0 a9).toNat == 1 then 9
 else bif (p0 f8 b8 a7 f9 g0 a9).toNat == 0 then 8 else 0
def ai4 (f8 : Nat → Int) (b8 a7 : Int) (f9 : Bool) (g0 : Nat → Int) (a9 l7 n7 l3 l5 l6 k9 : Int) : Int :=
 bif iEq l7 53 then b8 else 0
def bi0 (f8 : Nat → Int) (b8 a7 : Int) (f9 : Bool) (g0 : Nat → Int) (a9 l7 n7 l3 l5 l6 k9 : Int) : Int :=
 bif iEq l7 53 then 0 else 0
def bi3 (f8 : Nat → Int) (b8 a7 : Int) (f9 : Bool) (g0 : Nat → Int) (a9 l7 n7 l3 l5 l6 k9 : Int) : Bool :=
 bif iEq l7 53 then false else false
def ax8 (f8 : Nat → Int) (b8 a7 : Int) (f9 : Bool) (g0 : Nat → Int) (a9 l7 n7 l3 l5 l6 k9 : Int) : Bool :=
 bif iEq l7 53 then true else iIn (p0 f8 b8 a7 f9 g0 a9) 6 && true
theorem cs6 (f8 : Nat → Int) (b8 a7 : Int) (f9 : Bool) (g0 : Nat → Int) (a9 l7 n7 l3 l5 l6 k9 : Int)  : bi0 f8 b8 a7 f9 g0 a9 l7 n7 l3 l5 l6 k9  = 0 := by
  unfold bi0
  first | (simp only [cS1, cS2, cS3, cS4, cS6, cS7]; done) | (simp only [cS1, cS2, cS3, cS4, cS6, cS7]; kernel_rfl)
theorem cq6 (f8 : Nat → Int) (b8 a7 : Int) (f9 : Bool) (g0 : Nat → Int) (a9 l7 n7 l3 l5 l6 k9 : Int)  : bi3 f8 b8 a7 f9 g0 a9 l7 n7 l3 l5 l6 k9  = false := by
  unfold bi3
  first | (simp only [cS1, cS2, cS3, cS4, cS6, cS7]; done) | (simp only [cS1, cS2, cS3, cS4, cS6, cS7]; kernel_rfl)
def aI9 (f8 : Nat → Int) (b8 a7 : Int) (f9 : Bool) (g0 : Nat → Int) (a9 l7 n7 l3 l5 l6 k9 : Int) : AV := .agg [.it .u64 (ai3 f8 b8 a7 f9 g0 a9 l7 n7 l3 l5 l6 k9), .it .u64 (ai4 f8 b8 a7 f9 g0 a9 l7 n7 l3 l5 l6 k9), .it .u64 0, .bl false]
def bf8 (f8 : Nat → Int) (b8 a7 : Int) (f9 : Bool) (g0 : Nat → Int) (a9 l7 n7 l3 l5 l6 k9 : Int) : AV := .agg [.it .u64 (ai3 f8 b8 a7 f9 g0 a9 l7 n7 l3 l5 l6 k9), .it .u64 (ai4 f8 b8 a7 f9 g0 a9 l7 n7 l3 l5 l6 k9), .it .u64 (bi0 f8 b8 a7 f9 g0 a9 l7 n7 l3 l5 l6 k9), .bl (bi3 f8 b8 a7 f9 g0 a9 l7 n7 l3 l5 l6 k9)]
theorem ct6 (f8 : Nat → Int) (b8 a7 : Int) (f9 : Bool) (g0 : Nat → Int) (a9 l7 n7 l3 l5 l6 k9 : Int) : bf8 f8 b8 a7 f9 g0 a9 l7 n7 l3 l5 l6 k9 = aI9 f8 b8 a7 f9 g0 a9 l7 n7 l3 l5 l6 k9 := by
  unfold bf8 aI9
  simp only [cs6, cq6]
def exec_callsA (g : Nat → AV) : AV := aI9 (fun i0 => (((g 0).fld 0).ix i0).num) (((g 0).fld 1).num) (((g 0).fld 2).num) (((g 0).fld 3).bool) (fun i0 => (((g 0).fld 4).ix i0).num) (((g 0).fld 5).num) (((g 1).fld 0).num) (((g 1).fld 1).num) (((g 1).fld 2).num) (((g 1).fld 3).num) (((g 1).fld 4).num) (((g 1).fld 5).num)
def exec_callsB (g : Nat → AV) : Bool := ax8 (fun i0 => (((g 0).fld 0).ix i0).num) (((g 0).fld 1).num) (((g 0).fld 2).num) (((g 0).fld 3).bool) (fun i0 => (((g 0).fld 4).ix i0).num) (((g 0).fld 5).num) (((g 1).fld 0).num) (((g 1).fld 1).num) (((g 1).fld 2).num) (((g 1).fld 3).num) (((g 1).fld 4).num) (((g 1).fld 5).num)
theorem dt6 (g : Nat → AV) : pO T271 100 false Tryz.f210 (r7 [sh0Q, sh1Q] 0 g) = some (exec_callsB g, exec_callsA g) := (by kernel_rfl : _ = some (exec_callsB g, bf8 (fun i0 => (((g 0).fld 0).ix i0).num) (((g 0).fld 1).num) (((g 0).fld 2).num) (((g 0).fld 3).bool) (fun i0 => (((g 0).fld 4).ix i0).num) (((g 0).fld 5).num) (((g 1).fld 0).num) (((g 1).fld 1).num) (((g 1).fld 2).num) (((g 1).fld 3).num) (((g 1).fld 4).num) (((g 1).fld 5).num))).trans (by rw [ct6]; rfl)
theorem dg0 : Plain Tryz.prog 210 Tryz.f210 := ⟨Tryz.func210, of_decide_eq_true (by kernel_rfl)⟩
def row210Q : List AV → Option (Option Bool × AV) := rowF [sh0Q, sh1Q] (some fun g => exec_callsB g) exec_callsA
theorem do9 : D1 Tryz.prog 210 row210Q := R9 fun g hg => p6 mix A7 dm2 (o9 mix A7 dm2 D5 (fun _ h => o5 p8 h) 8) dg0 (fun c _ => m7 c) (dt6 g) hg
def T210 : List Row := (210, row210Q) :: T271
theorem dj2 : r0 Tryz.prog (m5 T210) := m8 do9 dm2
def E8 (a0 : Int) : Int :=
 bif iEq a0 256 then iAdd .i64 a0 256
 else
 bif iEq a0 260 then iAdd .i64 a0 256
 else
 bif iEq a0 261 then iAdd .i64 a0 256
 else
 bif iEq a0 320 then iAdd .i64 a0 256
 else
 bif iEq a0 321 then iAdd .i64 a0 256
 else bif iEq a0 322 then iAdd .i64 a0 256 else bif iEq a0 323 then iAdd .i64 a0 256 else bif iEq a0 384 then iAdd .i64 a0 256 else a0
def aO2 (a0 : Int) : Int :=
 bif iEq a0 256 then bif iEq a0 256 then iAdd .i64 a0 256 else a0
 else
 bif iEq a0 260 then bif iEq a0 260 then iAdd .i64 a0 256 else a0
 else
 bif iEq a0 261 then bif iEq a0 261 then iAdd .i64 a0 256 else a0
 else
 bif iEq a0 320 then bif iEq a0 320 then iAdd .i64 a0 256 else a0
 else
 bif iEq a0 321 then bif iEq a0 321 then iAdd .i64 a0 256 else a0
 else
 bif iEq a0 322 then bif iEq a0 322 then iAdd .i64 a0 256 else a0
 else bif iEq a0 323 then bif iEq a0 323 then iAdd .i64 a0 256 else a0 else bif iEq a0 384 then iAdd .i64 a0 256 else a0
def aF5 (a0 : Int) : Bool :=
 bif iEq a0 256 then bif iEq a0 256 then true else true
 else
 bif iEq a0 260 then bif iEq a0 260 then true else true
 else
 bif iEq a0 261 then bif iEq a0 261 then true else true
 else
 bif iEq a0 320 then bif iEq a0 320 then true else true
 else
 bif iEq a0 321 then bif iEq a0 321 then true else true
 else bif iEq a0 322 then bif iEq a0 322 then true else true else bif iEq a0 323 then bif iEq a0 323 then true else true else bif iEq a0 384 then true else true
theorem bV6 (a0 : Int)  : aO2 a0  = E8 a0  := by
  unfold aO2
  first | (simp only [cS1, cS2, cS3, cS4, cS6, cS7]; done) | (simp only [cS1, cS2, cS3, cS4, cS6, cS7]; kernel_rfl)
def as8 (a0 : Int) : AV := .it .i64 (E8 a0)
def aM6 (a0 : Int) : AV := .it .i64 (aO2 a0)
theorem bW1 (a0 : Int) : aM6 a0 = as8 a0 := by
  unfold aM6 as8
  simp only [bV6]
def csr_RedirectA (g : Nat → AV) : AV := as8 ((g 0).num)
def csr_RedirectB (g : Nat → AV) : Bool := aF5 ((g 0).num)
theorem cy9 (g : Nat → AV) : pO T210 100 false Tryz.f280 (r7 [(.int .i64)] 0 g) = some (csr_RedirectB g, csr_RedirectA g) := (by kernel_rfl : _ = some (csr_RedirectB g, aM6 ((g 0).num))).trans (by rw [bW1]; rfl)
theorem cG3 : Plain Tryz.prog 280 Tryz.f280 := ⟨Tryz.func280, of_decide_eq_true (by kernel_rfl)⟩
theorem cJ1 (a0 : Int) : aF5 a0 = true := by
  unfold aF5
  simp only [cS1, cS2, cS3, cS4, cS6, cS7]
def row280Q : List AV → Option (Option Bool × AV) := rowF [(.int .i64)] none csr_RedirectA
theorem cI4 : D1 Tryz.prog 280 row280Q := s3 fun g => p6 mix A7 dj2 (o9 mix A7 dj2 D5 (fun _ h => o5 p8 h) 8) cG3 (fun c _ => m7 c) (cy9 g) (cJ1 ..)
def T280 : List Row := (280, row280Q) :: T210
theorem de9 : r0 Tryz.prog (m5 T280) := m8 cI4 dj2
def cv6 (f8 : Nat → Int) (b8 a7 : Int) (f9 : Bool) (g0 : Nat → Int) (a9 a1 : Int) : Bool :=
 true
def bP6 (f8 : Nat → Int) (b8 a7 : Int) (f9 : Bool) (g0 : Nat → Int) (a9 a1 : Int) : AV := .agg [.agg [.arr 32 (.int .u64) fun i0 => .it .u64 (f8 i0), .it .u64 (b8), .it .i64 (a7), .bl (f9), .arr 29 (.int .u64) fun i0 => .it .u64 (g0 i0), .it .u64 (a9)], .it .u64 a1, .agg [.it .u64 0, .it .u64 0, .it .u64 0, .bl false], .bl true]
def exec_doneA (g : Nat → AV) : AV := bP6 (fun i0 => (((g 0).fld 0).ix i0).num) (((g 0).fld 1).num) (((g 0).fld 2).num) (((g 0).fld 3).bool) (fun i0 => (((g 0).fld 4).ix i0).num) (((g 0).fld 5).num) ((g 1).num)
def exec_doneB (g : Nat → AV) : Bool := cv6 (fun i0 => (((g 0).fld 0).ix i0).num) (((g 0).fld 1).num) (((g 0).fld 2).num) (((g 0).fld 3).bool) (fun i0 => (((g 0).fld 4).ix i0).num) (((g 0).fld 5).num) ((g 1).num)
theorem dV1 (g : Nat → AV) : pO T280 100 false Tryz.f273 (r7 [sh0Q, (.int .u64)] 0 g) = some (exec_doneB g, exec_doneA g) := by kernel_rfl
theorem dJ6 : Plain Tryz.prog 273 Tryz.f273 := ⟨Tryz.func273, of_decide_eq_true (by kernel_rfl)⟩
theorem dM2 (f8 : Nat → Int) (b8 a7 : Int) (f9 : Bool) (g0 : Nat → Int) (a9 a1 : Int) : cv6 f8 b8 a7 f9 g0 a9 a1 = true := rfl
def row273Q : List AV → Option (Option Bool × AV) := rowF [sh0Q, (.int .u64)] none exec_doneA
theorem dK9 : D1 Tryz.prog 273 row273Q := s3 fun g => p6 mix A7 de9 (o9 mix A7 de9 D5 (fun _ h => o5 p8 h) 8) dJ6 (fun c _ => m7 c) (dV1 g) (dM2 ..)
def T273 : List Row := (273, row273Q) :: T280
theorem dl9 : r0 Tryz.prog (m5 T273) := m8 dK9 de9
def H7 (f8 : Nat → Int) (b8 a7 : Int) (f9 : Bool) (g0 : Nat → Int) (a9 a1 : Int) : Int :=
 iAdd .u64 b8 4
def cx4 (f8 : Nat → Int) (b8 a7 : Int) (f9 : Bool) (g0 : Nat → Int) (a9 a1 : Int) : Bool :=
 true
def bL0 (f8 : Nat → Int) (b8 a7 : Int) (f9 : Bool) (g0 : Nat → Int) (a9 a1 : Int) : AV := .agg [.agg [.arr 32 (.int .u64) fun i0 => .it .u64 (f8 i0), .it .u64 (H7 f8 b8 a7 f9 g0 a9 a1), .it .i64 (a7), .bl (f9), .arr 29 (.int .u64) fun i0 => .it .u64 (g0 i0), .it .u64 (a9)], .it .u64 a1, .agg [.it .u64 0, .it .u64 0, .it .u64 0, .bl false], .bl true]
def exec_nextA (g : Nat → AV) : AV := bL0 (fun i0 => (((g 0).fld 0).ix i0).num) (((g 0).fld 1).num) (((g 0).fld 2).num) (((g 0).fld 3).bool) (fun i0 => (((g 0).fld 4).ix i0).num) (((g 0).fld 5).num) ((g 1).num)
def exec_nextB (g : Nat → AV) : Bool := cx4 (fun i0 => (((g 0).fld 0).ix i0).num) (((g 0).fld 1).num) (((g 0).fld 2).num) (((g 0).fld 3).bool) (fun i0 => (((g 0).fld 4).ix i0).num) (((g 0).fld 5).num) ((g 1).num)
theorem dU0 (g : Nat → AV) : pO T273 100 false Tryz.f208 (r7 [sh0Q, (.int .u64)] 0 g) = some (exec_nextB g, exec_nextA g) := by kernel_rfl
theorem dT5 : Plain Tryz.prog 208 Tryz.f208 := ⟨Tryz.func208, of_decide_eq_true (by kernel_rfl)⟩
theorem dO8 (f8 : Nat → Int) (b8 a7 : Int) (f9 : Bool) (g0 : Nat → Int) (a9 a1 : Int) : cx4 f8 b8 a7 f9 g0 a9 a1 = true := rfl
def row208Q : List AV → Option (Option Bool × AV) := rowF [sh0Q, (.int .u64)] none exec_nextA
theorem dN4 : D1 Tryz.prog 208 row208Q := s3 fun g => p6 mix A7 dl9 (o9 mix A7 dl9 D5 (fun _ h => o5 p8 h) 8) dT5 (fun c _ => m7 c) (dU0 g) (dO8 ..)
def T208 : List Row := (208, row208Q) :: T273
theorem dg6 : r0 Tryz.prog (m5 T208) := m8 dN4 dl9
def B1 (f8 : Nat → Int) (b8 a7 : Int) (f9 : Bool) (g0 : Nat → Int) (a9 l7 n7 l3 l5 l6 k9 : Int) : Int :=
 bif iLt l7 57 then bif p7 l7 n7 l3 l5 l6 k9 then 0 else 0 else bif p7 l7 n7 l3 l5 l6 k9 then 0 else 0
def z8 (f8 : Nat → Int) (b8 a7 : Int) (f9 : Bool) (g0 : Nat → Int) (a9 l7 n7 l3 l5 l6 k9 : Int) : Int :=
 bif f9 then B1 f8 b8 a7 f9 g0 a9 l7 n7 l3 l5 l6 k9
 else B1 f8 b8 a7 f9 g0 a9 l7 n7 l3 l5 l6 k9
def aO1 (f8 : Nat → Int) (b8 a7 : Int) (f9 : Bool) (g0 : Nat → Int) (a9 l7 n7 l3 l5 l6 k9 : Int) : Nat → Int :=
 fun i0 => bif f9 then
 bif iLt l7 57 then bif p7 l7 n7 l3 l5 l6 k9 then f8 i0 else f8 i0 else bif p7 l7 n7 l3 l5 l6 k9 then f8 i0 else f8 i0
 else bif iLt l7 57 then bif p7 l7 n7 l3 l5 l6 k9 then f8 i0 else f8 i0 else bif p7 l7 n7 l3 l5 l6 k9 then f8 i0 else f8 i0
def aj6 (f8 : Nat → Int) (b8 a7 : Int) (f9 : Bool) (g0 : Nat → Int) (a9 l7 n7 l3 l5 l6 k9 : Int) : Int :=
 bif f9 then
 bif iLt l7 57 then
 bif p7 l7 n7 l3 l5 l6 k9 then
 H7 f8 b8 a7 f9
 (fun i0 =>
 Q7 f8 b8 a7 f9 g0 a9 (E8 k9)
 (aA6 l7 (G0 f8 b8 a7 f9 g0 a9 (E8 k9)) (f8 l3.toNat)) i0)
 a9 (G0 f8 b8 a7 f9 g0 a9 (E8 k9))
 else H7 f8 b8 a7 f9 g0 a9 (G0 f8 b8 a7 f9 g0 a9 (E8 k9))
 else
 bif p7 l7 n7 l3 l5 l6 k9 then
 H7 f8 b8 a7 f9
 (fun i0 =>
 Q7 f8 b8 a7 f9 g0 a9 (E8 k9)
 (aA6 l7 (G0 f8 b8 a7 f9 g0 a9 (E8 k9)) (g8 .u64 l6)) i0)
 a9 (G0 f8 b8 a7 f9 g0 a9 (E8 k9))
 else H7 f8 b8 a7 f9 g0 a9 (G0 f8 b8 a7 f9 g0 a9 (E8 k9))
 else
 bif iLt l7 57 then
 bif p7 l7 n7 l3 l5 l6 k9 then
 H7 f8 b8 a7 f9
 (fun i0 =>
 Q7 f8 b8 a7 f9 g0 a9 k9
 (aA6 l7 (G0 f8 b8 a7 f9 g0 a9 k9) (f8 l3.toNat)) i0)
 a9 (G0 f8 b8 a7 f9 g0 a9 k9)
 else H7 f8 b8 a7 f9 g0 a9 (G0 f8 b8 a7 f9 g0 a9 k9)
 else
 bif p7 l7 n7 l3 l5 l6 k9 then
 H7 f8 b8 a7 f9
 (fun i0 =>
 Q7 f8 b8 a7 f9 g0 a9 k9
 (aA6 l7 (G0 f8 b8 a7 f9 g0 a9 k9) (g8 .u64 l6)) i0)
 a9 (G0 f8 b8 a7 f9 g0 a9 k9)
 else H7 f8 b8 a7 f9 g0 a9 (G0 f8 b8 a7 f9 g0 a9 k9)
def aL6 (f8 : Nat → Int) (b8 a7 : Int) (f9 : Bool) (g0 : Nat → Int) (a9 l7 n7 l3 l5 l6 k9 : Int) : Int :=
 bif f9 then
 bif iLt l7 57 then bif p7 l7 n7 l3 l5 l6 k9 then a7 else a7 else bif p7 l7 n7 l3 l5 l6 k9 then a7 else a7
 else
 bif iLt l7 57 then bif p7 l7 n7 l3 l5 l6 k9 then a7 else a7 else bif p7 l7 n7 l3 l5 l6 k9 then a7 else a7
def aM0 (f8 : Nat → Int) (b8 a7 : Int) (f9 : Bool) (g0 : Nat → Int) (a9 l7 n7 l3 l5 l6 k9 : Int) : Bool :=
 bif f9 then bif iLt l7 57 then bif p7 l7 n7 l3 l5 l6 k9 then f9 else f9 else bif p7 l7 n7 l3 l5 l6 k9 then f9 else f9
 else bif iLt l7 57 then bif p7 l7 n7 l3 l5 l6 k9 then f9 else f9 else bif p7 l7 n7 l3 l5 l6 k9 then f9 else f9
def J9 (f8 : Nat → Int) (b8 a7 : Int) (f9 : Bool) (g0 : Nat → Int) (a9 l7 n7 l3 l5 l6 k9 : Int) : Nat → Int :=
 fun i0 => bif f9 then
 bif iLt l7 57 then
 bif p7 l7 n7 l3 l5 l6 k9 then
 Q7 f8 b8 a7 f9 g0 a9 (E8 k9)
 (aA6 l7 (G0 f8 b8 a7 f9 g0 a9 (E8 k9)) (f8 l3.toNat)) i0
 else g0 i0
 else
 bif p7 l7 n7 l3 l5 l6 k9 then
 Q7 f8 b8 a7 f9 g0 a9 (E8 k9)
 (aA6 l7 (G0 f8 b8 a7 f9 g0 a9 (E8 k9)) (g8 .u64 l6)) i0
 else g0 i0
 else
 bif iLt l7 57 then
 bif p7 l7 n7 l3 l5 l6 k9 then
 Q7 f8 b8 a7 f9 g0 a9 k9
 (aA6 l7 (G0 f8 b8 a7 f9 g0 a9 k9) (f8 l3.toNat)) i0
 else g0 i0
 else
 bif p7 l7 n7 l3 l5 l6 k9 then
 Q7 f8 b8 a7 f9 g0 a9 k9
 (aA6 l7 (G0 f8 b8 a7 f9 g0 a9 k9) (g8 .u64 l6)) i0
 else g0 i0
def aL2 (f8 : Nat → Int) (b8 a7 : Int) (f9 : Bool) (g0 : Nat → Int) (a9 l7 n7 l3 l5 l6 k9 : Int) : Int :=
 bif f9 then
 bif iLt l7 57 then bif p7 l7 n7 l3 l5 l6 k9 then a9 else a9 else bif p7 l7 n7 l3 l5 l6 k9 then a9 else a9
 else bif iLt l7 57 then bif p7 l7 n7 l3 l5 l6 k9 then a9 else a9 else bif p7 l7 n7 l3 l5 l6 k9 then a9 else a9
def av7 (f8 : Nat → Int) (b8 a7 : Int) (f9 : Bool) (g0 : Nat → Int) (a9 l7 n7 l3 l5 l6 k9 : Int) : Int :=
 bif f9 then G0 f8 b8 a7 f9 g0 a9 (E8 k9)
 else G0 f8 b8 a7 f9 g0 a9 k9
def aN3 (f8 : Nat → Int) (b8 a7 : Int) (f9 : Bool) (g0 : Nat → Int) (a9 l7 n7 l3 l5 l6 k9 : Int) : Int :=
 bif f9 then
 bif iLt l7 57 then
 bif p7 l7 n7 l3 l5 l6 k9 then G0 f8 b8 a7 f9 g0 a9 (E8 k9)
 else G0 f8 b8 a7 f9 g0 a9 (E8 k9)
 else
 bif p7 l7 n7 l3 l5 l6 k9 then G0 f8 b8 a7 f9 g0 a9 (E8 k9)
 else G0 f8 b8 a7 f9 g0 a9 (E8 k9)
 else
 bif iLt l7 57 then
 bif p7 l7 n7 l3 l5 l6 k9 then G0 f8 b8 a7 f9 g0 a9 k9
 else G0 f8 b8 a7 f9 g0 a9 k9
 else
 bif p7 l7 n7 l3 l5 l6 k9 then G0 f8 b8 a7 f9 g0 a9 k9
 else G0 f8 b8 a7 f9 g0 a9 k9
def aN1 (f8 : Nat → Int) (b8 a7 : Int) (f9 : Bool) (g0 : Nat → Int) (a9 l7 n7 l3 l5 l6 k9 : Int) : Int :=
 z8 f8 b8 a7 f9 g0 a9 l7 n7 l3 l5 l6 k9
def aM1 (f8 : Nat → Int) (b8 a7 : Int) (f9 : Bool) (g0 : Nat → Int) (a9 l7 n7 l3 l5 l6 k9 : Int) : Int :=
 z8 f8 b8 a7 f9 g0 a9 l7 n7 l3 l5 l6 k9
def aM3 (f8 : Nat → Int) (b8 a7 : Int) (f9 : Bool) (g0 : Nat → Int) (a9 l7 n7 l3 l5 l6 k9 : Int) : Int :=
 z8 f8 b8 a7 f9 g0 a9 l7 n7 l3 l5 l6 k9
def aH9 (f8 : Nat → Int) (b8 a7 : Int) (f9 : Bool) (g0 : Nat → Int) (a9 l7 n7 l3 l5 l6 k9 : Int) : Bool :=
 bif f9 then bif iLt l7 57 then bif p7 l7 n7 l3 l5 l6 k9 then false else false else bif p7 l7 n7 l3 l5 l6 k9 then false else false
 else bif iLt l7 57 then bif p7 l7 n7 l3 l5 l6 k9 then false else false else bif p7 l7 n7 l3 l5 l6 k9 then false else false
def aJ8 (f8 : Nat → Int) (b8 a7 : Int) (f9 : Bool) (g0 : Nat → Int) (a9 l7 n7 l3 l5 l6 k9 : Int) : Bool :=
 bif f9 then bif iLt l7 57 then bif p7 l7 n7 l3 l5 l6 k9 then true else true else bif p7 l7 n7 l3 l5 l6 k9 then true else true
 else bif iLt l7 57 then bif p7 l7 n7 l3 l5 l6 k9 then true else true else bif p7 l7 n7 l3 l5 l6 k9 then true else true
def ak4 (f8 : Nat → Int) (b8 a7 : Int) (f9 : Bool) (g0 : Nat → Int) (a9 l7 n7 l3 l5 l6 k9 : Int) : Bool :=
 bif f9 then
 bif iLt l7 57 then iIn l3 32 && bif p7 l7 n7 l3 l5 l6 k9 then true else true
 else bif p7 l7 n7 l3 l5 l6 k9 then true else true
 else
 bif iLt l7 57 then iIn l3 32 && bif p7 l7 n7 l3 l5 l6 k9 then true else true
 else bif p7 l7 n7 l3 l5 l6 k9 then true else true
theorem bX1 (f8 : Nat → Int) (b8 a7 : Int) (f9 : Bool) (g0 : Nat → Int) (a9 l7 n7 l3 l5 l6 k9 : Int) (i0 : Nat) : aO1 f8 b8 a7 f9 g0 a9 l7 n7 l3 l5 l6 k9 i0 = f8 i0 := by
  unfold aO1
  first | (simp only [B1, z8, cS1, cS2, cS3, cS4, cS6, cS7]; done) | (simp only [B1, z8, cS1, cS2, cS3, cS4, cS6, cS7]; kernel_rfl)
theorem bT7 (f8 : Nat → Int) (b8 a7 : Int) (f9 : Bool) (g0 : Nat → Int) (a9 l7 n7 l3 l5 l6 k9 : Int)  : aL6 f8 b8 a7 f9 g0 a9 l7 n7 l3 l5 l6 k9  = a7 := by
  unfold aL6
  first | (simp only [B1, z8, cS1, cS2, cS3, cS4, cS6, cS7]; done) | (simp only [B1, z8, cS1, cS2, cS3, cS4, cS6, cS7]; kernel_rfl)
theorem bV8 (f8 : Nat → Int) (b8 a7 : Int) (f9 : Bool) (g0 : Nat → Int) (a9 l7 n7 l3 l5 l6 k9 : Int)  : aM0 f8 b8 a7 f9 g0 a9 l7 n7 l3 l5 l6 k9  = f9 := by
  unfold aM0
  first | (simp only [B1, z8, cS1, cS2, cS3, cS4, cS6, cS7]; done) | (simp only [B1, z8, cS1, cS2, cS3, cS4, cS6, cS7]; kernel_rfl)
theorem bV5 (f8 : Nat → Int) (b8 a7 : Int) (f9 : Bool) (g0 : Nat → Int) (a9 l7 n7 l3 l5 l6 k9 : Int)  : aL2 f8 b8 a7 f9 g0 a9 l7 n7 l3 l5 l6 k9  = a9 := by
  unfold aL2
  first | (simp only [B1, z8, cS1, cS2, cS3, cS4, cS6, cS7]; done) | (simp only [B1, z8, cS1, cS2, cS3, cS4, cS6, cS7]; kernel_rfl)
theorem bU2 (f8 : Nat → Int) (b8 a7 : Int) (f9 : Bool) (g0 : Nat → Int) (a9 l7 n7 l3 l5 l6 k9 : Int)  : aN3 f8 b8 a7 f9 g0 a9 l7 n7 l3 l5 l6 k9  = av7 f8 b8 a7 f9 g0 a9 l7 n7 l3 l5 l6 k9  := by
  unfold aN3
  first | (simp only [B1, z8, cS1, cS2, cS3, cS4, cS6, cS7]; done) | (simp only [B1, z8, cS1, cS2, cS3, cS4, cS6, cS7]; kernel_rfl)
theorem bT8 (f8 : Nat → Int) (b8 a7 : Int) (f9 : Bool) (g0 : Nat → Int) (a9 l7 n7 l3 l5 l6 k9 : Int)  : aN1 f8 b8 a7 f9 g0 a9 l7 n7 l3 l5 l6 k9  = 0 := by
  unfold aN1
  first | (simp only [B1, z8, cS1, cS2, cS3, cS4, cS6, cS7]; done) | (simp only [B1, z8, cS1, cS2, cS3, cS4, cS6, cS7]; kernel_rfl)
theorem bT2 (f8 : Nat → Int) (b8 a7 : Int) (f9 : Bool) (g0 : Nat → Int) (a9 l7 n7 l3 l5 l6 k9 : Int)  : aM1 f8 b8 a7 f9 g0 a9 l7 n7 l3 l5 l6 k9  = 0 := by
  unfold aM1
  first | (simp only [B1, z8, cS1, cS2, cS3, cS4, cS6, cS7]; done) | (simp only [B1, z8, cS1, cS2, cS3, cS4, cS6, cS7]; kernel_rfl)
theorem bV0 (f8 : Nat → Int) (b8 a7 : Int) (f9 : Bool) (g0 : Nat → Int) (a9 l7 n7 l3 l5 l6 k9 : Int)  : aM3 f8 b8 a7 f9 g0 a9 l7 n7 l3 l5 l6 k9  = 0 := by
  unfold aM3
  first | (simp only [B1, z8, cS1, cS2, cS3, cS4, cS6, cS7]; done) | (simp only [B1, z8, cS1, cS2, cS3, cS4, cS6, cS7]; kernel_rfl)
theorem bL6 (f8 : Nat → Int) (b8 a7 : Int) (f9 : Bool) (g0 : Nat → Int) (a9 l7 n7 l3 l5 l6 k9 : Int)  : aH9 f8 b8 a7 f9 g0 a9 l7 n7 l3 l5 l6 k9  = false := by
  unfold aH9
  first | (simp only [B1, z8, cS1, cS2, cS3, cS4, cS6, cS7]; done) | (simp only [B1, z8, cS1, cS2, cS3, cS4, cS6, cS7]; kernel_rfl)
theorem bO2 (f8 : Nat → Int) (b8 a7 : Int) (f9 : Bool) (g0 : Nat → Int) (a9 l7 n7 l3 l5 l6 k9 : Int)  : aJ8 f8 b8 a7 f9 g0 a9 l7 n7 l3 l5 l6 k9  = true := by
  unfold aJ8
  first | (simp only [B1, z8, cS1, cS2, cS3, cS4, cS6, cS7]; done) | (simp only [B1, z8, cS1, cS2, cS3, cS4, cS6, cS7]; kernel_rfl)
def aw8 (f8 : Nat → Int) (b8 a7 : Int) (f9 : Bool) (g0 : Nat → Int) (a9 l7 n7 l3 l5 l6 k9 : Int) : AV := .agg [.agg [.arr 32 (.int .u64) fun i0 => .it .u64 (f8 i0), .it .u64 (aj6 f8 b8 a7 f9 g0 a9 l7 n7 l3 l5 l6 k9), .it .i64 (a7), .bl (f9), .arr 29 (.int .u64) fun i0 => .it .u64 (J9 f8 b8 a7 f9 g0 a9 l7 n7 l3 l5 l6 k9 i0), .it .u64 (a9)], .it .u64 (av7 f8 b8 a7 f9 g0 a9 l7 n7 l3 l5 l6 k9), .agg [.it .u64 0, .it .u64 0, .it .u64 0, .bl false], .bl true]
def aN0 (f8 : Nat → Int) (b8 a7 : Int) (f9 : Bool) (g0 : Nat → Int) (a9 l7 n7 l3 l5 l6 k9 : Int) : AV := .agg [.agg [.arr 32 (.int .u64) fun i0 => .it .u64 (aO1 f8 b8 a7 f9 g0 a9 l7 n7 l3 l5 l6 k9 i0), .it .u64 (aj6 f8 b8 a7 f9 g0 a9 l7 n7 l3 l5 l6 k9), .it .i64 (aL6 f8 b8 a7 f9 g0 a9 l7 n7 l3 l5 l6 k9), .bl (aM0 f8 b8 a7 f9 g0 a9 l7 n7 l3 l5 l6 k9), .arr 29 (.int .u64) fun i0 => .it .u64 (J9 f8 b8 a7 f9 g0 a9 l7 n7 l3 l5 l6 k9 i0), .it .u64 (aL2 f8 b8 a7 f9 g0 a9 l7 n7 l3 l5 l6 k9)], .it .u64 (aN3 f8 b8 a7 f9 g0 a9 l7 n7 l3 l5 l6 k9), .agg [.it .u64 (aN1 f8 b8 a7 f9 g0 a9 l7 n7 l3 l5 l6 k9), .it .u64 (aM1 f8 b8 a7 f9 g0 a9 l7 n7 l3 l5 l6 k9), .it .u64 (aM3 f8 b8 a7 f9 g0 a9 l7 n7 l3 l5 l6 k9), .bl (aH9 f8 b8 a7 f9 g0 a9 l7 n7 l3 l5 l6 k9)], .bl (aJ8 f8 b8 a7 f9 g0 a9 l7 n7 l3 l5 l6 k9)]
theorem bU0 (f8 : Nat → Int) (b8 a7 : Int) (f9 : Bool) (g0 : Nat → Int) (a9 l7 n7 l3 l5 l6 k9 : Int) : aN0 f8 b8 a7 f9 g0 a9 l7 n7 l3 l5 l6 k9 = aw8 f8 b8 a7 f9 g0 a9 l7 n7 l3 l5 l6 k9 := by
  unfold aN0 aw8
  simp only [bX1, bT7, bV8, bV5, bU2, bT8, bT2, bV0, bL6, bO2]
def exec_controlA (g : Nat → AV) : AV := aw8 (fun i0 => (((g 0).fld 0).ix i0).num) (((g 0).fld 1).num) (((g 0).fld 2).num) (((g 0).fld 3).bool) (fun i0 => (((g 0).fld 4).ix i0).num) (((g 0).fld 5).num) (((g 1).fld 0).num) (((g 1).fld 1).num) (((g 1).fld 2).num) (((g 1).fld 3).num) (((g 1).fld 4).num) (((g 1).fld 5).num)
def exec_controlB (g : Nat → AV) : Bool := ak4 (fun i0 => (((g 0).fld 0).ix i0).num) (((g 0).fld 1).num) (((g 0).fld 2).num) (((g 0).fld 3).bool) (fun i0 => (((g 0).fld 4).ix i0).num) (((g 0).fld 5).num) (((g 1).fld 0).num) (((g 1).fld 1).num) (((g 1).fld 2).num) (((g 1).fld 3).num) (((g 1).fld 4).num) (((g 1).fld 5).num)
theorem cJ9 (g : Nat → AV) : pO T208 100 false Tryz.f211 (r7 [sh0Q, sh1Q] 0 g) = some (exec_controlB g, exec_controlA g) := (by kernel_rfl : _ = some (exec_controlB g, aN0 (fun i0 => (((g 0).fld 0).ix i0).num) (((g 0).fld 1).num) (((g 0).fld 2).num) (((g 0).fld 3).bool) (fun i0 => (((g 0).fld 4).ix i0).num) (((g 0).fld 5).num) (((g 1).fld 0).num) (((g 1).fld 1).num) (((g 1).fld 2).num) (((g 1).fld 3).num) (((g 1).fld 4).num) (((g 1).fld 5).num))).trans (by rw [bU0]; rfl)
theorem cz0 : Plain Tryz.prog 211 Tryz.f211 := ⟨Tryz.func211, of_decide_eq_true (by kernel_rfl)⟩
def row211Q : List AV → Option (Option Bool × AV) := rowF [sh0Q, sh1Q] (some fun g => exec_controlB g) exec_controlA
theorem cy8 : D1 Tryz.prog 211 row211Q := R9 fun g hg => p6 mix A7 dg6 (o9 mix A7 dg6 D5 (fun _ h => o5 p8 h) 8) cz0 (fun c _ => m7 c) (cJ9 g) hg
def T211 : List Row := (211, row211Q) :: T208
theorem dq2 : r0 Tryz.prog (m5 T211) := m8 cy8 dg6
def r6 (f8 : Nat → Int) (b8 a7 : Int) (f9 : Bool) (g0 : Nat → Int) (a9 l7 n7 l3 l5 l6 k9 : Int) : Bool :=
 ((List.range 32).all fun i => iEq (f8 i) (f8 i)) &&
 (iEq (ap3 f8 b8 a7 f9 g0 a9) b8 &&
 (iEq (aq5 f8 b8 a7 f9 g0 a9) a7 &&
 (aq0 f8 b8 a7 f9 g0 a9 == f9 &&
 (((List.range 29).all fun i => iEq (ar1 f8 b8 a7 f9 g0 a9 i) (g0 i)) && (iEq a9 a9 && true)))))
def r5 (f8 : Nat → Int) (b8 a7 : Int) (f9 : Bool) (g0 : Nat → Int) (a9 l7 n7 l3 l5 l6 k9 : Int) : Bool :=
 ((List.range 32).all fun i => iEq (f8 i) (f8 i)) &&
 (iEq (ar7 f8 b8 a7 f9 g0 a9) b8 &&
 (iEq (aq6 f8 b8 a7 f9 g0 a9) a7 &&
 (ap9 f8 b8 a7 f9 g0 a9 == f9 &&
 (((List.range 29).all fun i => iEq (aq8 f8 b8 a7 f9 g0 a9 i) (g0 i)) && (iEq a9 a9 && true)))))
def t9 (f8 : Nat → Int) (b8 a7 : Int) (f9 : Bool) (g0 : Nat → Int) (a9 l7 n7 l3 l5 l6 k9 : Int) : Bool :=
 bif iEq l7 60 then bif r6 f8 b8 a7 f9 g0 a9 l7 n7 l3 l5 l6 k9 then true else true
 else bif iEq l7 61 then bif r5 f8 b8 a7 f9 g0 a9 l7 n7 l3 l5 l6 k9 then true else true else true
def s7 (f8 : Nat → Int) (b8 a7 : Int) (f9 : Bool) (g0 : Nat → Int) (a9 l7 n7 l3 l5 l6 k9 : Int) : Bool :=
 ((List.range 32).all fun i => iEq (f8 i) (f8 i)) &&
 (iEq (ap3 f8 b8 a7 f9 g0 a9) b8 &&
 (iEq (aq5 f8 b8 a7 f9 g0 a9) a7 &&
 (aq0 f8 b8 a7 f9 g0 a9 == f9 &&
 (((List.range 29).all fun i => iEq (ar1 f8 b8 a7 f9 g0 a9 i) (g0 i)) && iEq a9 a9))))
def s6 (f8 : Nat → Int) (b8 a7 : Int) (f9 : Bool) (g0 : Nat → Int) (a9 l7 n7 l3 l5 l6 k9 : Int) : Bool :=
 ((List.range 32).all fun i => iEq (f8 i) (f8 i)) &&
 (iEq (ar7 f8 b8 a7 f9 g0 a9) b8 &&
 (iEq (aq6 f8 b8 a7 f9 g0 a9) a7 &&
 (ap9 f8 b8 a7 f9 g0 a9 == f9 &&
 (((List.range 29).all fun i => iEq (aq8 f8 b8 a7 f9 g0 a9 i) (g0 i)) && iEq a9 a9))))
def t5 (f8 : Nat → Int) (b8 a7 : Int) (f9 : Bool) (g0 : Nat → Int) (a9 l7 n7 l3 l5 l6 k9 : Int) : Int :=
 bif iEq l7 60 then bif r6 f8 b8 a7 f9 g0 a9 l7 n7 l3 l5 l6 k9 then 0 else 0
 else bif iEq l7 61 then bif r5 f8 b8 a7 f9 g0 a9 l7 n7 l3 l5 l6 k9 then 0 else 0 else 0
def aL3 (f8 : Nat → Int) (b8 a7 : Int) (f9 : Bool) (g0 : Nat → Int) (a9 l7 n7 l3 l5 l6 k9 : Int) : Nat → Int :=
 fun i0 => bif iEq l7 60 then bif r6 f8 b8 a7 f9 g0 a9 l7 n7 l3 l5 l6 k9 then f8 i0 else f8 i0
 else bif iEq l7 61 then bif r5 f8 b8 a7 f9 g0 a9 l7 n7 l3 l5 l6 k9 then f8 i0 else f8 i0 else f8 i0
def ak6 (f8 : Nat → Int) (b8 a7 : Int) (f9 : Bool) (g0 : Nat → Int) (a9 l7 n7 l3 l5 l6 k9 : Int) : Int :=
 bif iEq l7 60 then
 bif s7 f8 b8 a7 f9 g0 a9 l7 n7 l3 l5 l6 k9 then b8 else ap3 f8 b8 a7 f9 g0 a9
 else
 bif iEq l7 61 then
 bif s6 f8 b8 a7 f9 g0 a9 l7 n7 l3 l5 l6 k9 then b8 else ar7 f8 b8 a7 f9 g0 a9
 else H7 f8 b8 a7 f9 g0 a9 0
def aN8 (f8 : Nat → Int) (b8 a7 : Int) (f9 : Bool) (g0 : Nat → Int) (a9 l7 n7 l3 l5 l6 k9 : Int) : Int :=
 bif iEq l7 60 then
 bif r6 f8 b8 a7 f9 g0 a9 l7 n7 l3 l5 l6 k9 then b8 else ap3 f8 b8 a7 f9 g0 a9
 else
 bif iEq l7 61 then
 bif r5 f8 b8 a7 f9 g0 a9 l7 n7 l3 l5 l6 k9 then b8 else ar7 f8 b8 a7 f9 g0 a9
 else H7 f8 b8 a7 f9 g0 a9 0
def ak1 (f8 : Nat → Int) (b8 a7 : Int) (f9 : Bool) (g0 : Nat → Int) (a9 l7 n7 l3 l5 l6 k9 : Int) : Int :=
 bif iEq l7 60 then
 bif s7 f8 b8 a7 f9 g0 a9 l7 n7 l3 l5 l6 k9 then a7 else aq5 f8 b8 a7 f9 g0 a9
 else
 bif iEq l7 61 then
 bif s6 f8 b8 a7 f9 g0 a9 l7 n7 l3 l5 l6 k9 then a7 else aq6 f8 b8 a7 f9 g0 a9
 else a7
def aM7 (f8 : Nat → Int) (b8 a7 : Int) (f9 : Bool) (g0 : Nat → Int) (a9 l7 n7 l3 l5 l6 k9 : Int) : Int :=
 bif iEq l7 60 then
 bif r6 f8 b8 a7 f9 g0 a9 l7 n7 l3 l5 l6 k9 then a7 else aq5 f8 b8 a7 f9 g0 a9
 else
 bif iEq l7 61 then
 bif r5 f8 b8 a7 f9 g0 a9 l7 n7 l3 l5 l6 k9 then a7 else aq6 f8 b8 a7 f9 g0 a9
 else a7
def aj7 (f8 : Nat → Int) (b8 a7 : Int) (f9 : Bool) (g0 : Nat → Int) (a9 l7 n7 l3 l5 l6 k9 : Int) : Bool :=
 bif iEq l7 60 then
 bif s7 f8 b8 a7 f9 g0 a9 l7 n7 l3 l5 l6 k9 then f9 else aq0 f8 b8 a7 f9 g0 a9
 else
 bif iEq l7 61 then
 bif s6 f8 b8 a7 f9 g0 a9 l7 n7 l3 l5 l6 k9 then f9 else ap9 f8 b8 a7 f9 g0 a9
 else f9
def aM4 (f8 : Nat → Int) (b8 a7 : Int) (f9 : Bool) (g0 : Nat → Int) (a9 l7 n7 l3 l5 l6 k9 : Int) : Bool :=
 bif iEq l7 60 then
 bif r6 f8 b8 a7 f9 g0 a9 l7 n7 l3 l5 l6 k9 then f9 else aq0 f8 b8 a7 f9 g0 a9
 else
 bif iEq l7 61 then
 bif r5 f8 b8 a7 f9 g0 a9 l7 n7 l3 l5 l6 k9 then f9 else ap9 f8 b8 a7 f9 g0 a9
 else f9
def K7 (f8 : Nat → Int) (b8 a7 : Int) (f9 : Bool) (g0 : Nat → Int) (a9 l7 n7 l3 l5 l6 k9 : Int) : Nat → Int :=
 fun i0 => bif iEq l7 60 then
 bif s7 f8 b8 a7 f9 g0 a9 l7 n7 l3 l5 l6 k9 then g0 i0 else ar1 f8 b8 a7 f9 g0 a9 i0
 else
 bif iEq l7 61 then
 bif s6 f8 b8 a7 f9 g0 a9 l7 n7 l3 l5 l6 k9 then g0 i0
 else aq8 f8 b8 a7 f9 g0 a9 i0
 else g0 i0
def aL4 (f8 : Nat → Int) (b8 a7 : Int) (f9 : Bool) (g0 : Nat → Int) (a9 l7 n7 l3 l5 l6 k9 : Int) : Nat → Int :=
 fun i0 => bif iEq l7 60 then
 bif r6 f8 b8 a7 f9 g0 a9 l7 n7 l3 l5 l6 k9 then g0 i0 else ar1 f8 b8 a7 f9 g0 a9 i0
 else
 bif iEq l7 61 then
 bif r5 f8 b8 a7 f9 g0 a9 l7 n7 l3 l5 l6 k9 then g0 i0
 else aq8 f8 b8 a7 f9 g0 a9 i0
 else g0 i0
def aL9 (f8 : Nat → Int) (b8 a7 : Int) (f9 : Bool) (g0 : Nat → Int) (a9 l7 n7 l3 l5 l6 k9 : Int) : Int :=
 bif iEq l7 60 then bif r6 f8 b8 a7 f9 g0 a9 l7 n7 l3 l5 l6 k9 then a9 else a9
 else bif iEq l7 61 then bif r5 f8 b8 a7 f9 g0 a9 l7 n7 l3 l5 l6 k9 then a9 else a9 else a9
def aO7 (f8 : Nat → Int) (b8 a7 : Int) (f9 : Bool) (g0 : Nat → Int) (a9 l7 n7 l3 l5 l6 k9 : Int) : Int :=
 t5 f8 b8 a7 f9 g0 a9 l7 n7 l3 l5 l6 k9
def aN2 (f8 : Nat → Int) (b8 a7 : Int) (f9 : Bool) (g0 : Nat → Int) (a9 l7 n7 l3 l5 l6 k9 : Int) : Int :=
 t5 f8 b8 a7 f9 g0 a9 l7 n7 l3 l5 l6 k9
def aM9 (f8 : Nat → Int) (b8 a7 : Int) (f9 : Bool) (g0 : Nat → Int) (a9 l7 n7 l3 l5 l6 k9 : Int) : Int :=
 t5 f8 b8 a7 f9 g0 a9 l7 n7 l3 l5 l6 k9
def aM5 (f8 : Nat → Int) (b8 a7 : Int) (f9 : Bool) (g0 : Nat → Int) (a9 l7 n7 l3 l5 l6 k9 : Int) : Int :=
 t5 f8 b8 a7 f9 g0 a9 l7 n7 l3 l5 l6 k9
def aI6 (f8 : Nat → Int) (b8 a7 : Int) (f9 : Bool) (g0 : Nat → Int) (a9 l7 n7 l3 l5 l6 k9 : Int) : Bool :=
 bif iEq l7 60 then bif r6 f8 b8 a7 f9 g0 a9 l7 n7 l3 l5 l6 k9 then false else false
 else bif iEq l7 61 then bif r5 f8 b8 a7 f9 g0 a9 l7 n7 l3 l5 l6 k9 then false else false else false
def aI8 (f8 : Nat → Int) (b8 a7 : Int) (f9 : Bool) (g0 : Nat → Int) (a9 l7 n7 l3 l5 l6 k9 : Int) : Bool :=
 t9 f8 b8 a7 f9 g0 a9 l7 n7 l3 l5 l6 k9
def aF0 (f8 : Nat → Int) (b8 a7 : Int) (f9 : Bool) (g0 : Nat → Int) (a9 l7 n7 l3 l5 l6 k9 : Int) : Bool :=
 t9 f8 b8 a7 f9 g0 a9 l7 n7 l3 l5 l6 k9
theorem bW3 (f8 : Nat → Int) (b8 a7 : Int) (f9 : Bool) (g0 : Nat → Int) (a9 l7 n7 l3 l5 l6 k9 : Int) (i0 : Nat) : aL3 f8 b8 a7 f9 g0 a9 l7 n7 l3 l5 l6 k9 i0 = f8 i0 := by
  unfold aL3
  first | (simp only [r6, r5, t9, s7, s6, t5, cS1, cS2, cS3, cS4, cS6, cS7]; done) | (simp only [r6, r5, t9, s7, s6, t5, cS1, cS2, cS3, cS4, cS6, cS7]; kernel_rfl)
theorem bV1 (f8 : Nat → Int) (b8 a7 : Int) (f9 : Bool) (g0 : Nat → Int) (a9 l7 n7 l3 l5 l6 k9 : Int)  : aN8 f8 b8 a7 f9 g0 a9 l7 n7 l3 l5 l6 k9  = ak6 f8 b8 a7 f9 g0 a9 l7 n7 l3 l5 l6 k9  := by
  unfold aN8
  first | (simp only [r6, r5, t9, s7, s6, t5, cS1, cS2, cS3, cS4, cS6, cS7]; done) | (simp only [r6, r5, t9, s7, s6, t5, cS1, cS2, cS3, cS4, cS6, cS7]; kernel_rfl)
theorem bW2 (f8 : Nat → Int) (b8 a7 : Int) (f9 : Bool) (g0 : Nat → Int) (a9 l7 n7 l3 l5 l6 k9 : Int)  : aM7 f8 b8 a7 f9 g0 a9 l7 n7 l3 l5 l6 k9  = ak1 f8 b8 a7 f9 g0 a9 l7 n7 l3 l5 l6 k9  := by
  unfold aM7
  first | (simp only [r6, r5, t9, s7, s6, t5, cS1, cS2, cS3, cS4, cS6, cS7]; done) | (simp only [r6, r5, t9, s7, s6, t5, cS1, cS2, cS3, cS4, cS6, cS7]; kernel_rfl)
theorem bT0 (f8 : Nat → Int) (b8 a7 : Int) (f9 : Bool) (g0 : Nat → Int) (a9 l7 n7 l3 l5 l6 k9 : Int)  : aM4 f8 b8 a7 f9 g0 a9 l7 n7 l3 l5 l6 k9  = aj7 f8 b8 a7 f9 g0 a9 l7 n7 l3 l5 l6 k9  := by
  unfold aM4
  first | (simp only [r6, r5, t9, s7, s6, t5, cS1, cS2, cS3, cS4, cS6, cS7]; done) | (simp only [r6, r5, t9, s7, s6, t5, cS1, cS2, cS3, cS4, cS6, cS7]; kernel_rfl)
theorem bT3 (f8 : Nat → Int) (b8 a7 : Int) (f9 : Bool) (g0 : Nat → Int) (a9 l7 n7 l3 l5 l6 k9 : Int) (i0 : Nat) : aL4 f8 b8 a7 f9 g0 a9 l7 n7 l3 l5 l6 k9 i0 = K7 f8 b8 a7 f9 g0 a9 l7 n7 l3 l5 l6 k9 i0 := by
  unfold aL4
  first | (simp only [r6, r5, t9, s7, s6, t5, cS1, cS2, cS3, cS4, cS6, cS7]; done) | (simp only [r6, r5, t9, s7, s6, t5, cS1, cS2, cS3, cS4, cS6, cS7]; kernel_rfl)
theorem bV9 (f8 : Nat → Int) (b8 a7 : Int) (f9 : Bool) (g0 : Nat → Int) (a9 l7 n7 l3 l5 l6 k9 : Int)  : aL9 f8 b8 a7 f9 g0 a9 l7 n7 l3 l5 l6 k9  = a9 := by
  unfold aL9
  first | (simp only [r6, r5, t9, s7, s6, t5, cS1, cS2, cS3, cS4, cS6, cS7]; done) | (simp only [r6, r5, t9, s7, s6, t5, cS1, cS2, cS3, cS4, cS6, cS7]; kernel_rfl)
theorem bW6 (f8 : Nat → Int) (b8 a7 : Int) (f9 : Bool) (g0 : Nat → Int) (a9 l7 n7 l3 l5 l6 k9 : Int)  : aO7 f8 b8 a7 f9 g0 a9 l7 n7 l3 l5 l6 k9  = 0 := by
  unfold aO7
  first | (simp only [r6, r5, t9, s7, s6, t5, cS1, cS2, cS3, cS4, cS6, cS7]; done) | (simp only [r6, r5, t9, s7, s6, t5, cS1, cS2, cS3, cS4, cS6, cS7]; kernel_rfl)
theorem bW0 (f8 : Nat → Int) (b8 a7 : Int) (f9 : Bool) (g0 : Nat → Int) (a9 l7 n7 l3 l5 l6 k9 : Int)  : aN2 f8 b8 a7 f9 g0 a9 l7 n7 l3 l5 l6 k9  = 0 := by
  unfold aN2
  first | (simp only [r6, r5, t9, s7, s6, t5, cS1, cS2, cS3, cS4, cS6, cS7]; done) | (simp only [r6, r5, t9, s7, s6, t5, cS1, cS2, cS3, cS4, cS6, cS7]; kernel_rfl)
theorem bW7 (f8 : Nat → Int) (b8 a7 : Int) (f9 : Bool) (g0 : Nat → Int) (a9 l7 n7 l3 l5 l6 k9 : Int)  : aM9 f8 b8 a7 f9 g0 a9 l7 n7 l3 l5 l6 k9  = 0 := by
  unfold aM9
  first | (simp only [r6, r5, t9, s7, s6, t5, cS1, cS2, cS3, cS4, cS6, cS7]; done) | (simp only [r6, r5, t9, s7, s6, t5, cS1, cS2, cS3, cS4, cS6, cS7]; kernel_rfl)
theorem bV7 (f8 : Nat → Int) (b8 a7 : Int) (f9 : Bool) (g0 : Nat → Int) (a9 l7 n7 l3 l5 l6 k9 : Int)  : aM5 f8 b8 a7 f9 g0 a9 l7 n7 l3 l5 l6 k9  = 0 := by
  unfold aM5
  first | (simp only [r6, r5, t9, s7, s6, t5, cS1, cS2, cS3, cS4, cS6, cS7]; done) | (simp only [r6, r5, t9, s7, s6, t5, cS1, cS2, cS3, cS4, cS6, cS7]; kernel_rfl)
theorem bL1 (f8 : Nat → Int) (b8 a7 : Int) (f9 : Bool) (g0 : Nat → Int) (a9 l7 n7 l3 l5 l6 k9 : Int)  : aI6 f8 b8 a7 f9 g0 a9 l7 n7 l3 l5 l6 k9  = false := by
  unfold aI6
  first | (simp only [r6, r5, t9, s7, s6, t5, cS1, cS2, cS3, cS4, cS6, cS7]; done) | (simp only [r6, r5, t9, s7, s6, t5, cS1, cS2, cS3, cS4, cS6, cS7]; kernel_rfl)
theorem bM7 (f8 : Nat → Int) (b8 a7 : Int) (f9 : Bool) (g0 : Nat → Int) (a9 l7 n7 l3 l5 l6 k9 : Int)  : aI8 f8 b8 a7 f9 g0 a9 l7 n7 l3 l5 l6 k9  = true := by
  unfold aI8
  first | (simp only [r6, r5, t9, s7, s6, t5, cS1, cS2, cS3, cS4, cS6, cS7]; done) | (simp only [r6, r5, t9, s7, s6, t5, cS1, cS2, cS3, cS4, cS6, cS7]; kernel_rfl)
def av6 (f8 : Nat → Int) (b8 a7 : Int) (f9 : Bool) (g0 : Nat → Int) (a9 l7 n7 l3 l5 l6 k9 : Int) : AV := .agg [.agg [.arr 32 (.int .u64) fun i0 => .it .u64 (f8 i0), .it .u64 (ak6 f8 b8 a7 f9 g0 a9 l7 n7 l3 l5 l6 k9), .it .i64 (ak1 f8 b8 a7 f9 g0 a9 l7 n7 l3 l5 l6 k9), .bl (aj7 f8 b8 a7 f9 g0 a9 l7 n7 l3 l5 l6 k9), .arr 29 (.int .u64) fun i0 => .it .u64 (K7 f8 b8 a7 f9 g0 a9 l7 n7 l3 l5 l6 k9 i0), .it .u64 (a9)], .it .u64 0, .agg [.it .u64 0, .it .u64 0, .it .u64 0, .bl false], .bl true]
def aL8 (f8 : Nat → Int) (b8 a7 : Int) (f9 : Bool) (g0 : Nat → Int) (a9 l7 n7 l3 l5 l6 k9 : Int) : AV := .agg [.agg [.arr 32 (.int .u64) fun i0 => .it .u64 (aL3 f8 b8 a7 f9 g0 a9 l7 n7 l3 l5 l6 k9 i0), .it .u64 (aN8 f8 b8 a7 f9 g0 a9 l7 n7 l3 l5 l6 k9), .it .i64 (aM7 f8 b8 a7 f9 g0 a9 l7 n7 l3 l5 l6 k9), .bl (aM4 f8 b8 a7 f9 g0 a9 l7 n7 l3 l5 l6 k9), .arr 29 (.int .u64) fun i0 => .it .u64 (aL4 f8 b8 a7 f9 g0 a9 l7 n7 l3 l5 l6 k9 i0), .it .u64 (aL9 f8 b8 a7 f9 g0 a9 l7 n7 l3 l5 l6 k9)], .it .u64 (aO7 f8 b8 a7 f9 g0 a9 l7 n7 l3 l5 l6 k9), .agg [.it .u64 (aN2 f8 b8 a7 f9 g0 a9 l7 n7 l3 l5 l6 k9), .it .u64 (aM9 f8 b8 a7 f9 g0 a9 l7 n7 l3 l5 l6 k9), .it .u64 (aM5 f8 b8 a7 f9 g0 a9 l7 n7 l3 l5 l6 k9), .bl (aI6 f8 b8 a7 f9 g0 a9 l7 n7 l3 l5 l6 k9)], .bl (aI8 f8 b8 a7 f9 g0 a9 l7 n7 l3 l5 l6 k9)]
theorem bS8 (f8 : Nat → Int) (b8 a7 : Int) (f9 : Bool) (g0 : Nat → Int) (a9 l7 n7 l3 l5 l6 k9 : Int) : aL8 f8 b8 a7 f9 g0 a9 l7 n7 l3 l5 l6 k9 = av6 f8 b8 a7 f9 g0 a9 l7 n7 l3 l5 l6 k9 := by
  unfold aL8 av6
  simp only [bW3, bV1, bW2, bT0, bT3, bV9, bW6, bW0, bW7, bV7, bL1, bM7]
def exec_returnsA (g : Nat → AV) : AV := av6 (fun i0 => (((g 0).fld 0).ix i0).num) (((g 0).fld 1).num) (((g 0).fld 2).num) (((g 0).fld 3).bool) (fun i0 => (((g 0).fld 4).ix i0).num) (((g 0).fld 5).num) (((g 1).fld 0).num) (((g 1).fld 1).num) (((g 1).fld 2).num) (((g 1).fld 3).num) (((g 1).fld 4).num) (((g 1).fld 5).num)
def exec_returnsB (g : Nat → AV) : Bool := aF0 (fun i0 => (((g 0).fld 0).ix i0).num) (((g 0).fld 1).num) (((g 0).fld 2).num) (((g 0).fld 3).bool) (fun i0 => (((g 0).fld 4).ix i0).num) (((g 0).fld 5).num) (((g 1).fld 0).num) (((g 1).fld 1).num) (((g 1).fld 2).num) (((g 1).fld 3).num) (((g 1).fld 4).num) (((g 1).fld 5).num)
theorem cL0 (g : Nat → AV) : pO T211 100 false Tryz.f212 (r7 [sh0Q, sh1Q] 0 g) = some (exec_returnsB g, exec_returnsA g) := (by kernel_rfl : _ = some (exec_returnsB g, aL8 (fun i0 => (((g 0).fld 0).ix i0).num) (((g 0).fld 1).num) (((g 0).fld 2).num) (((g 0).fld 3).bool) (fun i0 => (((g 0).fld 4).ix i0).num) (((g 0).fld 5).num) (((g 1).fld 0).num) (((g 1).fld 1).num) (((g 1).fld 2).num) (((g 1).fld 3).num) (((g 1).fld 4).num) (((g 1).fld 5).num))).trans (by rw [bS8]; rfl)
theorem cI0 : Plain Tryz.prog 212 Tryz.f212 := ⟨Tryz.func212, of_decide_eq_true (by kernel_rfl)⟩
theorem cD1 (f8 : Nat → Int) (b8 a7 : Int) (f9 : Bool) (g0 : Nat → Int) (a9 l7 n7 l3 l5 l6 k9 : Int) : aF0 f8 b8 a7 f9 g0 a9 l7 n7 l3 l5 l6 k9 = true := by
  unfold aF0
  simp only [r6, r5, t9, s7, s6, t5, cS1, cS2, cS3, cS4, cS6, cS7]
def row212Q : List AV → Option (Option Bool × AV) := rowF [sh0Q, sh1Q] none exec_returnsA
theorem cA0 : D1 Tryz.prog 212 row212Q := s3 fun g => p6 mix A7 dq2 (o9 mix A7 dq2 D5 (fun _ h => o5 p8 h) 8) cI0 (fun c _ => m7 c) (cL0 g) (cD1 ..)
def T212 : List Row := (212, row212Q) :: T211
theorem dh6 : r0 Tryz.prog (m5 T212) := m8 cA0 dq2
def bR6 (bY2 bX4 bY8 : Int) (dH6 : Bool) : Bool :=
 true
def bg4 (bY2 bX4 bY8 : Int) (dH6 : Bool) : AV := .agg [.agg [.arr 32 (.int .u64) fun i0 => .it .u64 0, .it .u64 0, .it .i64 0, .bl false, .arr 29 (.int .u64) fun i0 => .it .u64 0, .it .u64 0], .it .u64 0, .agg [.it .u64 (bY2), .it .u64 (bX4), .it .u64 (bY8), .bl (dH6)], .bl false]
def exec_failedA (g : Nat → AV) : AV := bg4 (((g 0).fld 0).num) (((g 0).fld 1).num) (((g 0).fld 2).num) (((g 0).fld 3).bool)
def exec_failedB (g : Nat → AV) : Bool := bR6 (((g 0).fld 0).num) (((g 0).fld 1).num) (((g 0).fld 2).num) (((g 0).fld 3).bool)
theorem cZ3 (g : Nat → AV) : pO T212 100 false Tryz.f207 (r7 [sh4Q] 0 g) = some (exec_failedB g, exec_failedA g) := by kernel_rfl
theorem cN8 : Plain Tryz.prog 207 Tryz.f207 := ⟨Tryz.func207, of_decide_eq_true (by kernel_rfl)⟩
theorem cY1 (bY2 bX4 bY8 : Int) (dH6 : Bool) : bR6 bY2 bX4 bY8 dH6 = true := rfl
def row207Q : List AV → Option (Option Bool × AV) := rowF [sh4Q] none exec_failedA
theorem cM6 : D1 Tryz.prog 207 row207Q := s3 fun g => p6 mix A7 dh6 (o9 mix A7 dh6 D5 (fun _ h => o5 p8 h) 8) cN8 (fun c _ => m7 c) (cZ3 g) (cY1 ..)
def T207 : List Row := (207, row207Q) :: T212
theorem dz7 : r0 Tryz.prog (m5 T207) := m8 cM6 dh6
def aj2 (f8 : Nat → Int) (b8 a7 : Int) (f9 : Bool) (g0 : Nat → Int) (a9 l7 n7 l3 l5 l6 k9 : Int) : Int :=
 bif iEq l7 1 then 0
 else
 bif iEq l7 2 then 0
 else
 bif bif iEq (a8 l7) 2 then !N4 l7 (f8 l3.toNat) (f8 l5.toNat) else false then 0
 else bif iNe (iRem (J7 f8 b8 a7 f9 g0 a9 l7 n7 l3 l5 l6 k9) 4) 0 then 0 else 0
def ab9 (f8 : Nat → Int) (b8 a7 : Int) (f9 : Bool) (g0 : Nat → Int) (a9 l7 n7 l3 l5 l6 k9 : Int) : Nat → Int :=
 fun i0 => bif iEq l7 1 then f8 i0
 else
 bif iEq l7 2 then f8 i0
 else
 bif bif iEq (a8 l7) 2 then !N4 l7 (f8 l3.toNat) (f8 l5.toNat) else false then f8 i0
 else bif iNe (iRem (J7 f8 b8 a7 f9 g0 a9 l7 n7 l3 l5 l6 k9) 4) 0 then 0 else f8 i0
def X6 (f8 : Nat → Int) (b8 a7 : Int) (f9 : Bool) (g0 : Nat → Int) (a9 l7 n7 l3 l5 l6 k9 : Int) : Int :=
 bif iEq l7 1 then H7 f8 b8 a7 f9 g0 a9 (g8 .u64 l6)
 else
 bif iEq l7 2 then H7 f8 b8 a7 f9 g0 a9 (iAdd .u64 b8 (g8 .u64 l6))
 else
 bif bif iEq (a8 l7) 2 then !N4 l7 (f8 l3.toNat) (f8 l5.toNat) else false then H7 f8 b8 a7 f9 g0 a9 0
 else
 bif iNe (iRem (J7 f8 b8 a7 f9 g0 a9 l7 n7 l3 l5 l6 k9) 4) 0 then 0
 else J7 f8 b8 a7 f9 g0 a9 l7 n7 l3 l5 l6 k9
def ac5 (f8 : Nat → Int) (b8 a7 : Int) (f9 : Bool) (g0 : Nat → Int) (a9 l7 n7 l3 l5 l6 k9 : Int) : Int :=
 bif iEq l7 1 then a7
 else
 bif iEq l7 2 then a7
 else
 bif bif iEq (a8 l7) 2 then !N4 l7 (f8 l3.toNat) (f8 l5.toNat) else false then a7
 else bif iNe (iRem (J7 f8 b8 a7 f9 g0 a9 l7 n7 l3 l5 l6 k9) 4) 0 then 0 else a7
def ab2 (f8 : Nat → Int) (b8 a7 : Int) (f9 : Bool) (g0 : Nat → Int) (a9 l7 n7 l3 l5 l6 k9 : Int) : Bool :=
 bif iEq l7 1 then f9
 else
 bif iEq l7 2 then f9
 else
 bif bif iEq (a8 l7) 2 then !N4 l7 (f8 l3.toNat) (f8 l5.toNat) else false then f9
 else bif iNe (iRem (J7 f8 b8 a7 f9 g0 a9 l7 n7 l3 l5 l6 k9) 4) 0 then false else f9
def ab5 (f8 : Nat → Int) (b8 a7 : Int) (f9 : Bool) (g0 : Nat → Int) (a9 l7 n7 l3 l5 l6 k9 : Int) : Nat → Int :=
 fun i0 => bif iEq l7 1 then g0 i0
 else
 bif iEq l7 2 then g0 i0
 else
 bif bif iEq (a8 l7) 2 then !N4 l7 (f8 l3.toNat) (f8 l5.toNat) else false then g0 i0
 else bif iNe (iRem (J7 f8 b8 a7 f9 g0 a9 l7 n7 l3 l5 l6 k9) 4) 0 then 0 else g0 i0
def aa9 (f8 : Nat → Int) (b8 a7 : Int) (f9 : Bool) (g0 : Nat → Int) (a9 l7 n7 l3 l5 l6 k9 : Int) : Int :=
 bif iEq l7 1 then a9
 else
 bif iEq l7 2 then a9
 else
 bif bif iEq (a8 l7) 2 then !N4 l7 (f8 l3.toNat) (f8 l5.toNat) else false then a9
 else bif iNe (iRem (J7 f8 b8 a7 f9 g0 a9 l7 n7 l3 l5 l6 k9) 4) 0 then 0 else a9
def ao9 (f8 : Nat → Int) (b8 a7 : Int) (f9 : Bool) (g0 : Nat → Int) (a9 l7 n7 l3 l5 l6 k9 : Int) : Int :=
 bif iEq l7 1 then g8 .u64 l6
 else
 bif iEq l7 2 then iAdd .u64 b8 (g8 .u64 l6)
 else
 bif bif iEq (a8 l7) 2 then !N4 l7 (f8 l3.toNat) (f8 l5.toNat) else false then 0
 else bif iNe (iRem (J7 f8 b8 a7 f9 g0 a9 l7 n7 l3 l5 l6 k9) 4) 0 then 0 else iAdd .u64 b8 4
def bj1 (f8 : Nat → Int) (b8 a7 : Int) (f9 : Bool) (g0 : Nat → Int) (a9 l7 n7 l3 l5 l6 k9 : Int) : Int :=
 aj2 f8 b8 a7 f9 g0 a9 l7 n7 l3 l5 l6 k9
def X1 (f8 : Nat → Int) (b8 a7 : Int) (f9 : Bool) (g0 : Nat → Int) (a9 l7 n7 l3 l5 l6 k9 : Int) : Int :=
 bif iEq l7 1 then 0
 else
 bif iEq l7 2 then 0
 else
 bif bif iEq (a8 l7) 2 then !N4 l7 (f8 l3.toNat) (f8 l5.toNat) else false then 0
 else
 bif iNe (iRem (J7 f8 b8 a7 f9 g0 a9 l7 n7 l3 l5 l6 k9) 4) 0 then
 J7 f8 b8 a7 f9 g0 a9 l7 n7 l3 l5 l6 k9
 else 0
def bl2 (f8 : Nat → Int) (b8 a7 : Int) (f9 : Bool) (g0 : Nat → Int) (a9 l7 n7 l3 l5 l6 k9 : Int) : Int :=
 aj2 f8 b8 a7 f9 g0 a9 l7 n7 l3 l5 l6 k9
def ai7 (f8 : Nat → Int) (b8 a7 : Int) (f9 : Bool) (g0 : Nat → Int) (a9 l7 n7 l3 l5 l6 k9 : Int) : Bool :=
 bif iEq l7 1 then false
 else
 bif iEq l7 2 then false
 else
 bif bif iEq (a8 l7) 2 then !N4 l7 (f8 l3.toNat) (f8 l5.toNat) else false then false
 else bif iNe (iRem (J7 f8 b8 a7 f9 g0 a9 l7 n7 l3 l5 l6 k9) 4) 0 then f9 else false
def U6 (f8 : Nat → Int) (b8 a7 : Int) (f9 : Bool) (g0 : Nat → Int) (a9 l7 n7 l3 l5 l6 k9 : Int) : Bool :=
 bif iEq l7 1 then true
 else
 bif iEq l7 2 then true
 else
 bif bif iEq (a8 l7) 2 then !N4 l7 (f8 l3.toNat) (f8 l5.toNat) else false then true
 else bif iNe (iRem (J7 f8 b8 a7 f9 g0 a9 l7 n7 l3 l5 l6 k9) 4) 0 then false else true
def aj0 (f8 : Nat → Int) (b8 a7 : Int) (f9 : Bool) (g0 : Nat → Int) (a9 l7 n7 l3 l5 l6 k9 : Int) : Bool :=
 bif iEq l7 1 then true
 else
 bif iEq l7 2 then true
 else
 aG8 f8 b8 a7 f9 g0 a9 l7 n7 l3 l5 l6 k9 &&
 ((!iEq (a8 l7) 2 || iIn l3 32) &&
 ((!iEq (a8 l7) 2 || iIn l5 32) &&
 bif bif iEq (a8 l7) 2 then !N4 l7 (f8 l3.toNat) (f8 l5.toNat) else false then true
 else bif iNe (iRem (J7 f8 b8 a7 f9 g0 a9 l7 n7 l3 l5 l6 k9) 4) 0 then true else true))
theorem cr1 (f8 : Nat → Int) (b8 a7 : Int) (f9 : Bool) (g0 : Nat → Int) (a9 l7 n7 l3 l5 l6 k9 : Int)  : bj1 f8 b8 a7 f9 g0 a9 l7 n7 l3 l5 l6 k9  = 0 := by
  unfold bj1
  first | (simp only [aj2, cS1, cS2, cS3, cS4, cS6, cS7]; done) | (simp only [aj2, cS1, cS2, cS3, cS4, cS6, cS7]; kernel_rfl)
theorem cr8 (f8 : Nat → Int) (b8 a7 : Int) (f9 : Bool) (g0 : Nat → Int) (a9 l7 n7 l3 l5 l6 k9 : Int)  : bl2 f8 b8 a7 f9 g0 a9 l7 n7 l3 l5 l6 k9  = 0 := by
  unfold bl2
  first | (simp only [aj2, cS1, cS2, cS3, cS4, cS6, cS7]; done) | (simp only [aj2, cS1, cS2, cS3, cS4, cS6, cS7]; kernel_rfl)
def aJ4 (f8 : Nat → Int) (b8 a7 : Int) (f9 : Bool) (g0 : Nat → Int) (a9 l7 n7 l3 l5 l6 k9 : Int) : AV := .agg [.agg [.arr 32 (.int .u64) fun i0 => .it .u64 (ab9 f8 b8 a7 f9 g0 a9 l7 n7 l3 l5 l6 k9 i0), .it .u64 (X6 f8 b8 a7 f9 g0 a9 l7 n7 l3 l5 l6 k9), .it .i64 (ac5 f8 b8 a7 f9 g0 a9 l7 n7 l3 l5 l6 k9), .bl (ab2 f8 b8 a7 f9 g0 a9 l7 n7 l3 l5 l6 k9), .arr 29 (.int .u64) fun i0 => .it .u64 (ab5 f8 b8 a7 f9 g0 a9 l7 n7 l3 l5 l6 k9 i0), .it .u64 (aa9 f8 b8 a7 f9 g0 a9 l7 n7 l3 l5 l6 k9)], .it .u64 (ao9 f8 b8 a7 f9 g0 a9 l7 n7 l3 l5 l6 k9), .agg [.it .u64 0, .it .u64 (X1 f8 b8 a7 f9 g0 a9 l7 n7 l3 l5 l6 k9), .it .u64 0, .bl (ai7 f8 b8 a7 f9 g0 a9 l7 n7 l3 l5 l6 k9)], .bl (U6 f8 b8 a7 f9 g0 a9 l7 n7 l3 l5 l6 k9)]
def bf2 (f8 : Nat → Int) (b8 a7 : Int) (f9 : Bool) (g0 : Nat → Int) (a9 l7 n7 l3 l5 l6 k9 : Int) : AV := .agg [.agg [.arr 32 (.int .u64) fun i0 => .it .u64 (ab9 f8 b8 a7 f9 g0 a9 l7 n7 l3 l5 l6 k9 i0), .it .u64 (X6 f8 b8 a7 f9 g0 a9 l7 n7 l3 l5 l6 k9), .it .i64 (ac5 f8 b8 a7 f9 g0 a9 l7 n7 l3 l5 l6 k9), .bl (ab2 f8 b8 a7 f9 g0 a9 l7 n7 l3 l5 l6 k9), .arr 29 (.int .u64) fun i0 => .it .u64 (ab5 f8 b8 a7 f9 g0 a9 l7 n7 l3 l5 l6 k9 i0), .it .u64 (aa9 f8 b8 a7 f9 g0 a9 l7 n7 l3 l5 l6 k9)], .it .u64 (ao9 f8 b8 a7 f9 g0 a9 l7 n7 l3 l5 l6 k9), .agg [.it .u64 (bj1 f8 b8 a7 f9 g0 a9 l7 n7 l3 l5 l6 k9), .it .u64 (X1 f8 b8 a7 f9 g0 a9 l7 n7 l3 l5 l6 k9), .it .u64 (bl2 f8 b8 a7 f9 g0 a9 l7 n7 l3 l5 l6 k9), .bl (ai7 f8 b8 a7 f9 g0 a9 l7 n7 l3 l5 l6 k9)], .bl (U6 f8 b8 a7 f9 g0 a9 l7 n7 l3 l5 l6 k9)]
theorem ct1 (f8 : Nat → Int) (b8 a7 : Int) (f9 : Bool) (g0 : Nat → Int) (a9 l7 n7 l3 l5 l6 k9 : Int) : bf2 f8 b8 a7 f9 g0 a9 l7 n7 l3 l5 l6 k9 = aJ4 f8 b8 a7 f9 g0 a9 l7 n7 l3 l5 l6 k9 := by
  unfold bf2 aJ4
  simp only [cr1, cr8]
def exec_jumpsA (g : Nat → AV) : AV := aJ4 (fun i0 => (((g 0).fld 0).ix i0).num) (((g 0).fld 1).num) (((g 0).fld 2).num) (((g 0).fld 3).bool) (fun i0 => (((g 0).fld 4).ix i0).num) (((g 0).fld 5).num) (((g 1).fld 0).num) (((g 1).fld 1).num) (((g 1).fld 2).num) (((g 1).fld 3).num) (((g 1).fld 4).num) (((g 1).fld 5).num)
def exec_jumpsB (g : Nat → AV) : Bool := aj0 (fun i0 => (((g 0).fld 0).ix i0).num) (((g 0).fld 1).num) (((g 0).fld 2).num) (((g 0).fld 3).bool) (fun i0 => (((g 0).fld 4).ix i0).num) (((g 0).fld 5).num) (((g 1).fld 0).num) (((g 1).fld 1).num) (((g 1).fld 2).num) (((g 1).fld 3).num) (((g 1).fld 4).num) (((g 1).fld 5).num)
theorem dl5 (g : Nat → AV) : pO T207 100 false Tryz.f205 (r7 [sh0Q, sh1Q] 0 g) = some (exec_jumpsB g, exec_jumpsA g) := (by kernel_rfl : _ = some (exec_jumpsB g, bf2 (fun i0 => (((g 0).fld 0).ix i0).num) (((g 0).fld 1).num) (((g 0).fld 2).num) (((g 0).fld 3).bool) (fun i0 => (((g 0).fld 4).ix i0).num) (((g 0).fld 5).num) (((g 1).fld 0).num) (((g 1).fld 1).num) (((g 1).fld 2).num) (((g 1).fld 3).num) (((g 1).fld 4).num) (((g 1).fld 5).num))).trans (by rw [ct1]; rfl)
theorem dl8 : Plain Tryz.prog 205 Tryz.f205 := ⟨Tryz.func205, of_decide_eq_true (by kernel_rfl)⟩
def row205Q : List AV → Option (Option Bool × AV) := rowF [sh0Q, sh1Q] (some fun g => exec_jumpsB g) exec_jumpsA
theorem du4 : D1 Tryz.prog 205 row205Q := R9 fun g hg => p6 mix A7 dz7 (o9 mix A7 dz7 D5 (fun _ h => o5 p8 h) 8) dl8 (fun c _ => m7 c) (dl5 g) hg
def T205 : List Row := (205, row205Q) :: T207
theorem dg2 : r0 Tryz.prog (m5 T205) := m8 du4 dz7
def ai5 (f8 : Nat → Int) (b8 a7 : Int) (f9 : Bool) (g0 : Nat → Int) (a9 n9 o4 o0 : Int) (r9 : Bool) (a2 : Int) : Int :=
 L2 f8 b8 a7 f9 g0 a9 n9 o4 o0 r9
 (J3 f8 b8 a7 f9 g0 a9 n9) (N8 f8 b8 a7 f9 g0 a9 n9)
def ag2 (f8 : Nat → Int) (b8 a7 : Int) (f9 : Bool) (g0 : Nat → Int) (a9 n9 o4 o0 : Int) (r9 : Bool) (a2 : Int) : Int :=
 R7 f8 b8 a7 f9 g0 a9 n9 o4 o0 r9
 (J3 f8 b8 a7 f9 g0 a9 n9) (N8 f8 b8 a7 f9 g0 a9 n9)
def ai9 (f8 : Nat → Int) (b8 a7 : Int) (f9 : Bool) (g0 : Nat → Int) (a9 n9 o4 o0 : Int) (r9 : Bool) (a2 : Int) : Bool :=
 az8 f8 b8 a7 f9 g0 a9 n9 o4 o0 r9
 (J3 f8 b8 a7 f9 g0 a9 n9) (N8 f8 b8 a7 f9 g0 a9 n9)
def ai8 (f8 : Nat → Int) (b8 a7 : Int) (f9 : Bool) (g0 : Nat → Int) (a9 n9 o4 o0 : Int) (r9 : Bool) (a2 : Int) : Nat → Int :=
 fun i0 => I1 f8 b8 a7 f9 g0 a9 n9 o4 o0 r9
 (J3 f8 b8 a7 f9 g0 a9 n9) (N8 f8 b8 a7 f9 g0 a9 n9) i0
def ag3 (f8 : Nat → Int) (b8 a7 : Int) (f9 : Bool) (g0 : Nat → Int) (a9 n9 o4 o0 : Int) (r9 : Bool) (a2 : Int) : Int :=
 J3 f8 b8 a7 f9 g0 a9 n9
def ah1 (f8 : Nat → Int) (b8 a7 : Int) (f9 : Bool) (g0 : Nat → Int) (a9 n9 o4 o0 : Int) (r9 : Bool) (a2 : Int) : Bool :=
 N8 f8 b8 a7 f9 g0 a9 n9
def ce7 (f8 : Nat → Int) (b8 a7 : Int) (f9 : Bool) (g0 : Nat → Int) (a9 n9 o4 o0 : Int) (r9 : Bool) (a2 : Int) : Bool :=
 true
def bv1 (f8 : Nat → Int) (b8 a7 : Int) (f9 : Bool) (g0 : Nat → Int) (a9 n9 o4 o0 : Int) (r9 : Bool) (a2 : Int) : AV := .tup [.agg [.arr 32 (.int .u64) fun i0 => .it .u64 (f8 i0), .it .u64 (ai5 f8 b8 a7 f9 g0 a9 n9 o4 o0 r9 a2), .it .i64 (ag2 f8 b8 a7 f9 g0 a9 n9 o4 o0 r9 a2), .bl (ai9 f8 b8 a7 f9 g0 a9 n9 o4 o0 r9 a2), .arr 29 (.int .u64) fun i0 => .it .u64 (ai8 f8 b8 a7 f9 g0 a9 n9 o4 o0 r9 a2 i0), .it .u64 (a9)], .agg [.it .u64 (b8), .it .u32 a2, .it .i64 0, .it .u64 0, .bl true, .agg [.it .u64 (n9), .it .u64 (o4), .it .u64 (o0), .bl (r9)], .it .i64 (ag3 f8 b8 a7 f9 g0 a9 n9 o4 o0 r9 a2), .bl (ah1 f8 b8 a7 f9 g0 a9 n9 o4 o0 r9 a2), .bl false]]
def exec_FaultA (g : Nat → AV) : AV := bv1 (fun i0 => (((g 0).fld 0).ix i0).num) (((g 0).fld 1).num) (((g 0).fld 2).num) (((g 0).fld 3).bool) (fun i0 => (((g 0).fld 4).ix i0).num) (((g 0).fld 5).num) (((g 1).fld 0).num) (((g 1).fld 1).num) (((g 1).fld 2).num) (((g 1).fld 3).bool) ((g 2).num)
def exec_FaultB (g : Nat → AV) : Bool := ce7 (fun i0 => (((g 0).fld 0).ix i0).num) (((g 0).fld 1).num) (((g 0).fld 2).num) (((g 0).fld 3).bool) (fun i0 => (((g 0).fld 4).ix i0).num) (((g 0).fld 5).num) (((g 1).fld 0).num) (((g 1).fld 1).num) (((g 1).fld 2).num) (((g 1).fld 3).bool) ((g 2).num)
theorem dj1 (g : Nat → AV) : pO T205 100 false Tryz.f82 (r7 [sh0Q, sh4Q, (.int .u32)] 0 g) = some (exec_FaultB g, exec_FaultA g) := by kernel_rfl
theorem dl1 : Plain Tryz.prog 82 Tryz.f82 := ⟨Tryz.func82, of_decide_eq_true (by kernel_rfl)⟩
theorem dp5 (f8 : Nat → Int) (b8 a7 : Int) (f9 : Bool) (g0 : Nat → Int) (a9 n9 o4 o0 : Int) (r9 : Bool) (a2 : Int) : ce7 f8 b8 a7 f9 g0 a9 n9 o4 o0 r9 a2 = true := rfl
def row82Q : List AV → Option (Option Bool × AV) := rowF [sh0Q, sh4Q, (.int .u32)] none exec_FaultA
theorem dx3 : D1 Tryz.prog 82 row82Q := s3 fun g => p6 mix A7 dg2 (o9 mix A7 dg2 D5 (fun _ h => o5 p8 h) 8) dl1 (fun c _ => m7 c) (dj1 g) (dp5 ..)
def T82 : List Row := (82, row82Q) :: T205
theorem T82_ok : r0 Tryz.prog (m5 T82) := m8 dx3 dg2
def bd4 (f8 : Nat → Int) (b8 a7 : Int) (f9 : Bool) (g0 : Nat → Int) (a9 a1 a2 : Int) (a3 : Bool) : Int :=
 L2 f8 b8 a7 f9 g0 a9 a1 0 0 false a2 a3
def bj4 (f8 : Nat → Int) (b8 a7 : Int) (f9 : Bool) (g0 : Nat → Int) (a9 a1 a2 : Int) (a3 : Bool) : Int :=
 R7 f8 b8 a7 f9 g0 a9 a1 0 0 false a2 a3
def be1 (f8 : Nat → Int) (b8 a7 : Int) (f9 : Bool) (g0 : Nat → Int) (a9 a1 a2 : Int) (a3 : Bool) : Bool :=
 az8 f8 b8 a7 f9 g0 a9 a1 0 0 false a2 a3
def bd3 (f8 : Nat → Int) (b8 a7 : Int) (f9 : Bool) (g0 : Nat → Int) (a9 a1 a2 : Int) (a3 : Bool) : Nat → Int :=
 fun i0 => I1 f8 b8 a7 f9 g0 a9 a1 0 0 false a2 a3 i0
def bc9 (f8 : Nat → Int) (b8 a7 : Int) (f9 : Bool) (g0 : Nat → Int) (a9 a1 a2 : Int) (a3 : Bool) : Bool :=
 true
def aI5 (f8 : Nat → Int) (b8 a7 : Int) (f9 : Bool) (g0 : Nat → Int) (a9 a1 a2 : Int) (a3 : Bool) : AV := .tup [.agg [.arr 32 (.int .u64) fun i0 => .it .u64 (f8 i0), .it .u64 (bd4 f8 b8 a7 f9 g0 a9 a1 a2 a3), .it .i64 (bj4 f8 b8 a7 f9 g0 a9 a1 a2 a3), .bl (be1 f8 b8 a7 f9 g0 a9 a1 a2 a3), .arr 29 (.int .u64) fun i0 => .it .u64 (bd3 f8 b8 a7 f9 g0 a9 a1 a2 a3 i0), .it .u64 (a9)], .agg [.it .u64 (b8), .it .u32 0, .it .i64 0, .it .u64 0, .bl true, .agg [.it .u64 a1, .it .u64 0, .it .u64 0, .bl false], .it .i64 a2, .bl a3, .bl false]]
def exec_InterruptA (g : Nat → AV) : AV := aI5 (fun i0 => (((g 0).fld 0).ix i0).num) (((g 0).fld 1).num) (((g 0).fld 2).num) (((g 0).fld 3).bool) (fun i0 => (((g 0).fld 4).ix i0).num) (((g 0).fld 5).num) ((g 1).num) ((g 2).num) ((g 3).bool)
def exec_InterruptB (g : Nat → AV) : Bool := bc9 (fun i0 => (((g 0).fld 0).ix i0).num) (((g 0).fld 1).num) (((g 0).fld 2).num) (((g 0).fld 3).bool) (fun i0 => (((g 0).fld 4).ix i0).num) (((g 0).fld 5).num) ((g 1).num) ((g 2).num) ((g 3).bool)
theorem cl0 (g : Nat → AV) : pO T82 100 false Tryz.f80 (r7 [sh0Q, (.int .u64), (.int .i64), .bool] 0 g) = some (exec_InterruptB g, exec_InterruptA g) := by kernel_rfl
theorem cf4 : Plain Tryz.prog 80 Tryz.f80 := ⟨Tryz.func80, of_decide_eq_true (by kernel_rfl)⟩
theorem cl9 (f8 : Nat → Int) (b8 a7 : Int) (f9 : Bool) (g0 : Nat → Int) (a9 a1 a2 : Int) (a3 : Bool) : bc9 f8 b8 a7 f9 g0 a9 a1 a2 a3 = true := rfl
def row80Q : List AV → Option (Option Bool × AV) := rowF [sh0Q, (.int .u64), (.int .i64), .bool] none exec_InterruptA
theorem ce4 : D1 Tryz.prog 80 row80Q := s3 fun g => p6 mix A7 T82_ok (o9 mix A7 T82_ok D5 (fun _ h => o5 p8 h) 8) cf4 (fun c _ => m7 c) (cl0 g) (cl9 ..)
def T80 : List Row := (80, row80Q) :: T82
theorem aB8 : r0 Tryz.prog (m5 T80) := m8 ce4 T82_ok
end
end Go.Proofs.YtbkdnehnhbaieaaGreat.PV
set_option linter.unusedVariables false
set_option linter.unusedSimpArgs false
namespace Go.Proofs.YtbkdnehnhbaieaaGreat.PV
noncomputable section
open Go Go.Ev
def bh5 (a0 : Int) : Bool :=
 bif bif bif iNe (iAnd .u64 a0 1) 0 then bif iEq (iAnd .u64 a0 4) 0 then true else iNe (iAnd .u64 a0 2) 0 else false then iEq (iAnd .u64 a0 32) 0 else false then
 iEq (iShr .u64 a0 16) 0
 else false
def pte_IsG (a0 : Int) : Bool :=
 true
def dl3 (a0 : Int) : AV := .bl (bh5 a0)
def pte_IsA (g : Nat → AV) : AV := dl3 ((g 0).num)
def pte_IsB (g : Nat → AV) : Bool := pte_IsG ((g 0).num)
theorem pte_IsE (g : Nat → AV) : pO T80 100 false Tryz.f148 (r7 [(.int .u64)] 0 g) = some (pte_IsB g, pte_IsA g) := by kernel_rfl
theorem pte_IsP : Plain Tryz.prog 148 Tryz.f148 := ⟨Tryz.func148, of_decide_eq_true (by kernel_rfl)⟩
theorem pte_IsT (a0 : Int) : pte_IsG a0 = true := rfl
def row148Q : List AV → Option (Option Bool × AV) := rowF [(.int .u64)] none pte_IsA
theorem pte_IsO : D1 Tryz.prog 148 row148Q := s3 fun g => p6 mix A7 aB8 (o9 mix A7 aB8 D5 (fun _ h => o5 p8 h) 8) pte_IsP (fun c _ => m7 c) (pte_IsE g) (pte_IsT ..)
def T148 : List Row := (148, row148Q) :: T80
theorem dp4 : r0 Tryz.prog (m5 T148) := m8 pte_IsO aB8
def aI7 (a0 : Int) : Bool :=
 bif bh5 a0 then iNe (iAnd .u64 a0 10) 0 else false
def cU8 (a0 : Int) : Bool :=
 true
def cc6 (a0 : Int) : AV := .bl (aI7 a0)
def pte_LeafA (g : Nat → AV) : AV := cc6 ((g 0).num)
def pte_LeafB (g : Nat → AV) : Bool := cU8 ((g 0).num)
theorem pte_LeafE (g : Nat → AV) : pO T148 100 false Tryz.f149 (r7 [(.int .u64)] 0 g) = some (pte_LeafB g, pte_LeafA g) := by kernel_rfl
theorem pte_LeafP : Plain Tryz.prog 149 Tryz.f149 := ⟨Tryz.func149, of_decide_eq_true (by kernel_rfl)⟩
theorem pte_LeafT (a0 : Int) : cU8 a0 = true := rfl
def row149Q : List AV → Option (Option Bool × AV) := rowF [(.int .u64)] none pte_LeafA
theorem pte_LeafO : D1 Tryz.prog 149 row149Q := s3 fun g => p6 mix A7 dp4 (o9 mix A7 dp4 D5 (fun _ h => o5 p8 h) 8) pte_LeafP (fun c _ => m7 c) (pte_LeafE g) (pte_LeafT ..)
def T149 : List Row := (149, row149Q) :: T148
theorem dz6 : r0 Tryz.prog (m5 T149) := m8 pte_LeafO dp4
def aD0 (a0 a1 : Int) : Int :=
 iOr .u64 (iShl .u64 (g8 .u64 a0) 8) (I5 a1 8)
def cO7 (a0 a1 : Int) : Bool :=
 true
def cf8 (a0 a1 : Int) : AV := .it .u64 (aD0 a0 a1)
def two_joinA (g : Nat → AV) : AV := cf8 ((g 0).num) ((g 1).num)
def two_joinB (g : Nat → AV) : Bool := cO7 ((g 0).num) ((g 1).num)
theorem two_joinE (g : Nat → AV) : pO T149 100 false Tryz.f107 (r7 [(.int .i64), (.int .u64)] 0 g) = some (two_joinB g, two_joinA g) := by kernel_rfl
theorem two_joinP : Plain Tryz.prog 107 Tryz.f107 := ⟨Tryz.func107, of_decide_eq_true (by kernel_rfl)⟩
theorem two_joinT (a0 a1 : Int) : cO7 a0 a1 = true := rfl
def row107Q : List AV → Option (Option Bool × AV) := rowF [(.int .i64), (.int .u64)] none two_joinA
theorem two_joinO : D1 Tryz.prog 107 row107Q := s3 fun g => p6 mix A7 dz6 (o9 mix A7 dz6 D5 (fun _ h => o5 p8 h) 8) two_joinP (fun c _ => m7 c) (two_joinE g) (two_joinT ..)
def T107 : List Row := (107, row107Q) :: T149
theorem do8 : r0 Tryz.prog (m5 T107) := m8 two_joinO dz6
def V2 (E3 C6 : Int) (ai2 : Bool) (a1 : Int) (a2 : Nat → Int) : Int :=
 a2 (iMin (iMax C6 0) 2).toNat
def W9 (E3 C6 : Int) (ai2 : Bool) (a1 : Int) (a2 : Nat → Int) : Int :=
 iQuo .u64 a1 4
def av8 (E3 C6 : Int) (ai2 : Bool) (a1 : Int) (a2 : Nat → Int) : Bool :=
 iIn (iMin (iMax C6 0) 2) 3 && true
def au1 (E3 C6 : Int) (ai2 : Bool) (a1 : Int) (a2 : Nat → Int) : AV := .agg [.it .u64 (V2 E3 C6 ai2 a1 a2), .it .u64 (E3), .it .u64 (W9 E3 C6 ai2 a1 a2), .bl (ai2)]
def two_faults__faultA (g : Nat → AV) : AV := au1 (((g 0).fld 0).num) (((g 0).fld 1).num) (((g 0).fld 2).bool) ((g 1).num) (fun i0 => ((g 2).ix i0).num)
def two_faults__faultB (g : Nat → AV) : Bool := av8 (((g 0).fld 0).num) (((g 0).fld 1).num) (((g 0).fld 2).bool) ((g 1).num) (fun i0 => ((g 2).ix i0).num)
theorem bF1 (g : Nat → AV) : pO T107 100 false Tryz.f102 (r7 [sh3Q, (.int .u64), (.arr 3 (.int .u64))] 0 g) = some (two_faults__faultB g, two_faults__faultA g) := by kernel_rfl
theorem bF8 : Plain Tryz.prog 102 Tryz.f102 := ⟨Tryz.func102, of_decide_eq_true (by kernel_rfl)⟩
theorem bG8 (E3 C6 : Int) (ai2 : Bool) (a1 : Int) (a2 : Nat → Int) : av8 E3 C6 ai2 a1 a2 = true := by
  unfold av8
  rw [Bool.and_true, V8, aO5, aD6]
  split <;> split <;> omega
def row102Q : List AV → Option (Option Bool × AV) := rowF [sh3Q, (.int .u64), (.arr 3 (.int .u64))] none two_faults__faultA
theorem bE4 : D1 Tryz.prog 102 row102Q := s3 fun g => p6 mix A7 do8 (o9 mix A7 do8 D5 (fun _ h => o5 p8 h) 8) bF8 (fun c _ => m7 c) (bF1 g) (bG8 ..)
def T102 : List Row := (102, row102Q) :: T107
theorem df7 : r0 Tryz.prog (m5 T102) := m8 bE4 do8
def D9 (E3 C6 : Int) (ai2 : Bool) : Int :=
 V2 E3 C6 ai2 0 fun i0 => bif i0 == 2 then 15 else bif i0 == 1 then 13 else bif i0 == 0 then 12 else 0
def E0 (E3 C6 : Int) (ai2 : Bool) : Int :=
 W9 E3 C6 ai2 0 fun i0 => bif i0 == 2 then 15 else bif i0 == 1 then 13 else bif i0 == 0 then 12 else 0
def aU7 (E3 C6 : Int) (ai2 : Bool) : Bool :=
 true
def aA5 (E3 C6 : Int) (ai2 : Bool) : AV := .agg [.it .u64 (D9 E3 C6 ai2), .it .u64 (E3), .it .u64 (E0 E3 C6 ai2), .bl (ai2)]
def two_faults__pageA (g : Nat → AV) : AV := aA5 (((g 0).fld 0).num) (((g 0).fld 1).num) (((g 0).fld 2).bool)
def two_faults__pageB (g : Nat → AV) : Bool := aU7 (((g 0).fld 0).num) (((g 0).fld 1).num) (((g 0).fld 2).bool)
theorem bP4 (g : Nat → AV) : pO T102 100 false Tryz.f60 (r7 [sh3Q] 0 g) = some (two_faults__pageB g, two_faults__pageA g) := by kernel_rfl
theorem bP9 : Plain Tryz.prog 60 Tryz.f60 := ⟨Tryz.func60, of_decide_eq_true (by kernel_rfl)⟩
theorem bO6 (E3 C6 : Int) (ai2 : Bool) : aU7 E3 C6 ai2 = true := rfl
def row60Q : List AV → Option (Option Bool × AV) := rowF [sh3Q] none two_faults__pageA
theorem bK4 : D1 Tryz.prog 60 row60Q := s3 fun g => p6 mix A7 df7 (o9 mix A7 df7 D5 (fun _ h => o5 p8 h) 8) bP9 (fun c _ => m7 c) (bP4 g) (bO6 ..)
def T60 : List Row := (60, row60Q) :: T102
theorem T60_ok : r0 Tryz.prog (m5 T60) := m8 bK4 df7
def V5 (E3 C6 : Int) (ai2 : Bool) (a1 : Int) : Int :=
 V2 E3 C6 ai2 a1 fun i0 => bif i0 == 2 then 23 else bif i0 == 1 then 21 else bif i0 == 0 then 20 else 0
def W1 (E3 C6 : Int) (ai2 : Bool) (a1 : Int) : Int :=
 W9 E3 C6 ai2 a1 fun i0 => bif i0 == 2 then 23 else bif i0 == 1 then 21 else bif i0 == 0 then 20 else 0
def aK4 (E3 C6 : Int) (ai2 : Bool) (a1 : Int) : Bool :=
 true
def av5 (E3 C6 : Int) (ai2 : Bool) (a1 : Int) : AV := .agg [.it .u64 (V5 E3 C6 ai2 a1), .it .u64 (E3), .it .u64 (W1 E3 C6 ai2 a1), .bl (ai2)]
def two_faults__guestA (g : Nat → AV) : AV := av5 (((g 0).fld 0).num) (((g 0).fld 1).num) (((g 0).fld 2).bool) ((g 1).num)
def two_faults__guestB (g : Nat → AV) : Bool := aK4 (((g 0).fld 0).num) (((g 0).fld 1).num) (((g 0).fld 2).bool) ((g 1).num)
theorem bC0 (g : Nat → AV) : pO T60 100 false Tryz.f61 (r7 [sh3Q, (.int .u64)] 0 g) = some (two_faults__guestB g, two_faults__guestA g) := by kernel_rfl
theorem bB9 : Plain Tryz.prog 61 Tryz.f61 := ⟨Tryz.func61, of_decide_eq_true (by kernel_rfl)⟩
theorem bH5 (E3 C6 : Int) (ai2 : Bool) (a1 : Int) : aK4 E3 C6 ai2 a1 = true := rfl
def row61Q : List AV → Option (Option Bool × AV) := rowF [sh3Q, (.int .u64)] none two_faults__guestA
theorem bI2 : D1 Tryz.prog 61 row61Q := s3 fun g => p6 mix A7 T60_ok (o9 mix A7 T60_ok D5 (fun _ h => o5 p8 h) 8) bB9 (fun c _ => m7 c) (bC0 g) (bH5 ..)
def T61 : List Row := (61, row61Q) :: T60
theorem T61_ok : r0 Tryz.prog (m5 T61) := m8 bI2 T60_ok
def ao5 (E3 C6 : Int) (ai2 : Bool) : Int :=
 V2 E3 C6 ai2 0 fun i0 => bif i0 == 2 then 7 else bif i0 == 1 then 5 else bif i0 == 0 then 1 else 0
def ap0 (E3 C6 : Int) (ai2 : Bool) : Int :=
 W9 E3 C6 ai2 0 fun i0 => bif i0 == 2 then 7 else bif i0 == 1 then 5 else bif i0 == 0 then 1 else 0
def aJ5 (E3 C6 : Int) (ai2 : Bool) : Bool :=
 true
def ao2 (E3 C6 : Int) (ai2 : Bool) : AV := .agg [.it .u64 (ao5 E3 C6 ai2), .it .u64 (E3), .it .u64 (ap0 E3 C6 ai2), .bl (ai2)]
def two_faults__accessA (g : Nat → AV) : AV := ao2 (((g 0).fld 0).num) (((g 0).fld 1).num) (((g 0).fld 2).bool)
def two_faults__accessB (g : Nat → AV) : Bool := aJ5 (((g 0).fld 0).num) (((g 0).fld 1).num) (((g 0).fld 2).bool)
theorem bv3 (g : Nat → AV) : pO T61 100 false Tryz.f110 (r7 [sh3Q] 0 g) = some (two_faults__accessB g, two_faults__accessA g) := by kernel_rfl
theorem bz7 : Plain Tryz.prog 110 Tryz.f110 := ⟨Tryz.func110, of_decide_eq_true (by kernel_rfl)⟩
theorem bA3 (E3 C6 : Int) (ai2 : Bool) : aJ5 E3 C6 ai2 = true := rfl
def row110Q : List AV → Option (Option Bool × AV) := rowF [sh3Q] none two_faults__accessA
theorem bt8 : D1 Tryz.prog 110 row110Q := s3 fun g => p6 mix A7 T61_ok (o9 mix A7 T61_ok D5 (fun _ h => o5 p8 h) 8) bz7 (fun c _ => m7 c) (bv3 g) (bA3 ..)
def T110 : List Row := (110, row110Q) :: T61
theorem dh7 : r0 Tryz.prog (m5 T110) := m8 bt8 T61_ok
def M5 (E3 C6 : Int) (ai2 : Bool) (a1 a2 : Int) : Int :=
 bif iEq a1 1 then V5 E3 C6 ai2 a2 else ao5 E3 C6 ai2
def aD3 (E3 C6 : Int) (ai2 : Bool) (a1 a2 : Int) : Int :=
 bif iEq a1 1 then E3 else E3
def M7 (E3 C6 : Int) (ai2 : Bool) (a1 a2 : Int) : Int :=
 bif iEq a1 1 then W1 E3 C6 ai2 a2 else ap0 E3 C6 ai2
def aE1 (E3 C6 : Int) (ai2 : Bool) (a1 a2 : Int) : Bool :=
 bif iEq a1 1 then ai2 else ai2
def aw1 (E3 C6 : Int) (ai2 : Bool) (a1 a2 : Int) : Bool :=
 bif iEq a1 1 then true else true
theorem bF4 (E3 C6 : Int) (ai2 : Bool) (a1 a2 : Int)  : aD3 E3 C6 ai2 a1 a2  = E3 := by
  unfold aD3
  first | (simp only [cS1, cS2, cS3, cS4, cS6, cS7]; done) | (simp only [cS1, cS2, cS3, cS4, cS6, cS7]; kernel_rfl)
theorem bI8 (E3 C6 : Int) (ai2 : Bool) (a1 a2 : Int)  : aE1 E3 C6 ai2 a1 a2  = ai2 := by
  unfold aE1
  first | (simp only [cS1, cS2, cS3, cS4, cS6, cS7]; done) | (simp only [cS1, cS2, cS3, cS4, cS6, cS7]; kernel_rfl)
def ag5 (E3 C6 : Int) (ai2 : Bool) (a1 a2 : Int) : AV := .agg [.it .u64 (M5 E3 C6 ai2 a1 a2), .it .u64 (E3), .it .u64 (M7 E3 C6 ai2 a1 a2), .bl (ai2)]
def aE0 (E3 C6 : Int) (ai2 : Bool) (a1 a2 : Int) : AV := .agg [.it .u64 (M5 E3 C6 ai2 a1 a2), .it .u64 (aD3 E3 C6 ai2 a1 a2), .it .u64 (M7 E3 C6 ai2 a1 a2), .bl (aE1 E3 C6 ai2 a1 a2)]
theorem bB6 (E3 C6 : Int) (ai2 : Bool) (a1 a2 : Int) : aE0 E3 C6 ai2 a1 a2 = ag5 E3 C6 ai2 a1 a2 := by
  unfold aE0 ag5
  simp only [bF4, bI8]
def two_faults__ofA (g : Nat → AV) : AV := ag5 (((g 0).fld 0).num) (((g 0).fld 1).num) (((g 0).fld 2).bool) ((g 1).num) ((g 2).num)
def two_faults__ofB (g : Nat → AV) : Bool := aw1 (((g 0).fld 0).num) (((g 0).fld 1).num) (((g 0).fld 2).bool) ((g 1).num) ((g 2).num)
theorem cj3 (g : Nat → AV) : pO T110 100 false Tryz.f64 (r7 [sh3Q, (.int .i64), (.int .u64)] 0 g) = some (two_faults__ofB g, two_faults__ofA g) := (by kernel_rfl : _ = some (two_faults__ofB g, aE0 (((g 0).fld 0).num) (((g 0).fld 1).num) (((g 0).fld 2).bool) ((g 1).num) ((g 2).num))).trans (by rw [bB6]; rfl)
theorem cc2 : Plain Tryz.prog 64 Tryz.f64 := ⟨Tryz.func64, of_decide_eq_true (by kernel_rfl)⟩
theorem ch8 (E3 C6 : Int) (ai2 : Bool) (a1 a2 : Int) : aw1 E3 C6 ai2 a1 a2 = true := by
  unfold aw1
  simp only [cS1, cS2, cS3, cS4, cS6, cS7]
def row64Q : List AV → Option (Option Bool × AV) := rowF [sh3Q, (.int .i64), (.int .u64)] none two_faults__ofA
theorem ch4 : D1 Tryz.prog 64 row64Q := s3 fun g => p6 mix A7 dh7 (o9 mix A7 dh7 D5 (fun _ h => o5 p8 h) 8) cc2 (fun c _ => m7 c) (cj3 g) (ch8 ..)
def T64 : List Row := (64, row64Q) :: T110
theorem T64_ok : r0 Tryz.prog (m5 T64) := m8 ch4 dh7
def cR2 (f8 : Nat → Int) (b8 a7 : Int) (f9 : Bool) (g0 : Nat → Int) (a9 : Int) (aj4 ag1 : Bool) (az9 az6 ay0 ak5 R8 S0 ac1 a2 a3 a4 : Int) (a5 : Bool) : Int :=
 bif
 bif iNe R8 255 then
 !O1 R8 a3 (iEq a4 0) (P6 f8 b8 a7 f9 g0 a9 a4 a5)
 (P7 f8 b8 a7 f9 g0 a9 a4 a5)
 else false then
 D9 a2 a3 a5
 else bif bif iNe S0 255 then !O1 S0 a3 true false false else false then V5 a2 a3 a5 (aD0 ac1 a2) else 0
def cO4 (f8 : Nat → Int) (b8 a7 : Int) (f9 : Bool) (g0 : Nat → Int) (a9 : Int) (aj4 ag1 : Bool) (az9 az6 ay0 ak5 R8 S0 ac1 a2 a3 a4 : Int) (a5 : Bool) : Int :=
 bif
 bif iNe R8 255 then
 !O1 R8 a3 (iEq a4 0) (P6 f8 b8 a7 f9 g0 a9 a4 a5)
 (P7 f8 b8 a7 f9 g0 a9 a4 a5)
 else false then
 a2
 else bif bif iNe S0 255 then !O1 S0 a3 true false false else false then a2 else 0
def cR7 (f8 : Nat → Int) (b8 a7 : Int) (f9 : Bool) (g0 : Nat → Int) (a9 : Int) (aj4 ag1 : Bool) (az9 az6 ay0 ak5 R8 S0 ac1 a2 a3 a4 : Int) (a5 : Bool) : Int :=
 bif
 bif iNe R8 255 then
 !O1 R8 a3 (iEq a4 0) (P6 f8 b8 a7 f9 g0 a9 a4 a5)
 (P7 f8 b8 a7 f9 g0 a9 a4 a5)
 else false then
 E0 a2 a3 a5
 else bif bif iNe S0 255 then !O1 S0 a3 true false false else false then W1 a2 a3 a5 (aD0 ac1 a2) else 0
def da5 (f8 : Nat → Int) (b8 a7 : Int) (f9 : Bool) (g0 : Nat → Int) (a9 : Int) (aj4 ag1 : Bool) (az9 az6 ay0 ak5 R8 S0 ac1 a2 a3 a4 : Int) (a5 : Bool) : Bool :=
 bif
 bif iNe R8 255 then
 !O1 R8 a3 (iEq a4 0) (P6 f8 b8 a7 f9 g0 a9 a4 a5)
 (P7 f8 b8 a7 f9 g0 a9 a4 a5)
 else false then
 a5
 else bif bif iNe S0 255 then !O1 S0 a3 true false false else false then a5 else false
def cW4 (f8 : Nat → Int) (b8 a7 : Int) (f9 : Bool) (g0 : Nat → Int) (a9 : Int) (aj4 ag1 : Bool) (az9 az6 ay0 ak5 R8 S0 ac1 a2 a3 a4 : Int) (a5 : Bool) : Bool :=
 bif
 bif iNe R8 255 then
 !O1 R8 a3 (iEq a4 0) (P6 f8 b8 a7 f9 g0 a9 a4 a5)
 (P7 f8 b8 a7 f9 g0 a9 a4 a5)
 else false then
 false
 else bif bif iNe S0 255 then !O1 S0 a3 true false false else false then false else true
def bi4 (f8 : Nat → Int) (b8 a7 : Int) (f9 : Bool) (g0 : Nat → Int) (a9 : Int) (aj4 ag1 : Bool) (az9 az6 ay0 ak5 R8 S0 ac1 a2 a3 a4 : Int) (a5 : Bool) : Bool :=
 bif
 bif iNe R8 255 then
 !O1 R8 a3 (iEq a4 0) (P6 f8 b8 a7 f9 g0 a9 a4 a5)
 (P7 f8 b8 a7 f9 g0 a9 a4 a5)
 else false then
 true
 else bif bif iNe S0 255 then !O1 S0 a3 true false false else false then true else true
def bm4 (f8 : Nat → Int) (b8 a7 : Int) (f9 : Bool) (g0 : Nat → Int) (a9 : Int) (aj4 ag1 : Bool) (az9 az6 ay0 ak5 R8 S0 ac1 a2 a3 a4 : Int) (a5 : Bool) : AV := .tup [.agg [.it .u64 (cR2 f8 b8 a7 f9 g0 a9 aj4 ag1 az9 az6 ay0 ak5 R8 S0 ac1 a2 a3 a4 a5), .it .u64 (cO4 f8 b8 a7 f9 g0 a9 aj4 ag1 az9 az6 ay0 ak5 R8 S0 ac1 a2 a3 a4 a5), .it .u64 (cR7 f8 b8 a7 f9 g0 a9 aj4 ag1 az9 az6 ay0 ak5 R8 S0 ac1 a2 a3 a4 a5), .bl (da5 f8 b8 a7 f9 g0 a9 aj4 ag1 az9 az6 ay0 ak5 R8 S0 ac1 a2 a3 a4 a5)], .bl (cW4 f8 b8 a7 f9 g0 a9 aj4 ag1 az9 az6 ay0 ak5 R8 S0 ac1 a2 a3 a4 a5)]
def two_AllowedA (g : Nat → AV) : AV := bm4 (fun i0 => (((g 0).fld 0).ix i0).num) (((g 0).fld 1).num) (((g 0).fld 2).num) (((g 0).fld 3).bool) (fun i0 => (((g 0).fld 4).ix i0).num) (((g 0).fld 5).num) (((g 1).fld 0).bool) (((g 1).fld 1).bool) (((g 1).fld 2).num) (((g 1).fld 3).num) (((g 1).fld 4).num) (((g 1).fld 5).num) (((g 1).fld 6).num) (((g 1).fld 7).num) (((g 1).fld 8).num) ((g 2).num) ((g 3).num) ((g 4).num) ((g 5).bool)
def two_AllowedB (g : Nat → AV) : Bool := bi4 (fun i0 => (((g 0).fld 0).ix i0).num) (((g 0).fld 1).num) (((g 0).fld 2).num) (((g 0).fld 3).bool) (fun i0 => (((g 0).fld 4).ix i0).num) (((g 0).fld 5).num) (((g 1).fld 0).bool) (((g 1).fld 1).bool) (((g 1).fld 2).num) (((g 1).fld 3).num) (((g 1).fld 4).num) (((g 1).fld 5).num) (((g 1).fld 6).num) (((g 1).fld 7).num) (((g 1).fld 8).num) ((g 2).num) ((g 3).num) ((g 4).num) ((g 5).bool)
theorem da6 (g : Nat → AV) : pO T64 100 false Tryz.f226 (r7 [sh0Q, (.agg [.bool, .bool, (.int .i64), (.int .i64), (.int .i64), (.int .i64), (.int .i64), (.int .i64), (.int .i64)]), (.int .u64), (.int .i64), (.int .i64), .bool] 0 g) = some (two_AllowedB g, two_AllowedA g) := by kernel_rfl
theorem cW6 : Plain Tryz.prog 226 Tryz.f226 := ⟨Tryz.func226, of_decide_eq_true (by kernel_rfl)⟩
theorem cW8 (f8 : Nat → Int) (b8 a7 : Int) (f9 : Bool) (g0 : Nat → Int) (a9 : Int) (aj4 ag1 : Bool) (az9 az6 ay0 ak5 R8 S0 ac1 a2 a3 a4 : Int) (a5 : Bool) : bi4 f8 b8 a7 f9 g0 a9 aj4 ag1 az9 az6 ay0 ak5 R8 S0 ac1 a2 a3 a4 a5 = true := by
  unfold bi4
  simp only [cS1, cS2, cS3, cS4, cS6, cS7]
def row226Q : List AV → Option (Option Bool × AV) := rowF [sh0Q, (.agg [.bool, .bool, (.int .i64), (.int .i64), (.int .i64), (.int .i64), (.int .i64), (.int .i64), (.int .i64)]), (.int .u64), (.int .i64), (.int .i64), .bool] none two_AllowedA
theorem cV1 : D1 Tryz.prog 226 row226Q := s3 fun g => p6 mix A7 T64_ok (o9 mix A7 T64_ok D5 (fun _ h => o5 p8 h) 8) cW6 (fun c _ => m7 c) (da6 g) (cW8 ..)
def bq9 : List Row := (226, row226Q) :: T64
theorem ac2 : r0 Tryz.prog (m5 bq9) := m8 cV1 T64_ok
end
end Go.Proofs.YtbkdnehnhbaieaaGreat.PV
set_option linter.unusedVariables false
set_option linter.unusedSimpArgs false
namespace Go.Proofs.YtbkdnehnhbaieaaGreat.PV
noncomputable section
open Go Go.Ev
def M0 (a0 : Int) : Bool :=
 bif iEq a0 16 then true
 else
 bif iEq a0 17 then true
 else
 bif iEq a0 18 then bif iEq a0 18 then true else bif iEq a0 22 then true else bif bif iLt a0 0 then true else iLe 29 a0 then true else true
 else bif iEq a0 19 then true else bif iEq a0 22 then true else bif bif iLt a0 0 then true else iLe 29 a0 then true else true
def F7 (a0 : Int) : Bool :=
 bif iEq a0 15 then bif iEq a0 15 then true else M0 a0
 else bif iEq a0 28 then bif iEq a0 28 then true else M0 a0 else bif iEq a0 21 then true else M0 a0
def Q3 (a0 : Int) : Int :=
 bif iEq a0 19 then 1088 else bif iEq a0 22 then 786722 else bif bif iLt a0 0 then true else iLe 29 a0 then 0 else 18446744073709551615
def L5 (a0 : Int) : Int :=
 bif iEq a0 16 then 7340992
 else
 bif iEq a0 17 then 45567
 else bif iEq a0 18 then bif iEq a0 18 then 1088 else bif iEq a0 22 then 786722 else bif bif iLt a0 0 then true else iLe 29 a0 then 0 else 18446744073709551615 else Q3 a0
def F6 (a0 : Int) : Int :=
 bif iEq a0 15 then bif iEq a0 15 then 9223372036871487743 else L5 a0
 else bif iEq a0 28 then bif iEq a0 28 then 9223372036871487743 else L5 a0 else bif iEq a0 21 then 9223372036871487743 else L5 a0
def T7 (a0 : Int) : Int :=
 bif iEq a0 0 then 824641853866
 else
 bif iEq a0 1 then 15775231
 else
 bif iEq a0 2 then 544
 else
 bif iEq a0 3 then 1632
 else
 bif iEq a0 4 then 18446744073709551612
 else
 bif iEq a0 10 then 18446744073709551612
 else
 bif iEq a0 23 then 18446744073709551612
 else
 bif iEq a0 6 then 18446744073709551612
 else
 bif iEq a0 12 then 18446744073709551612
 else
 bif iEq a0 25 then 18446744073709551612
 else
 bif iEq a0 15 then 9223372036871487743
 else
 bif iEq a0 28 then 9223372036871487743
 else bif iEq a0 21 then 9223372036871487743 else bif iEq a0 16 then 7340992 else bif iEq a0 17 then 45567 else bif iEq a0 18 then 1088 else Q3 a0
def al2 (a0 : Int) : Int :=
 bif iEq a0 0 then 824641853866
 else
 bif iEq a0 1 then 15775231
 else
 bif iEq a0 2 then 544
 else
 bif iEq a0 3 then 1632
 else
 bif iEq a0 4 then bif iEq a0 4 then 18446744073709551612 else F6 a0
 else
 bif iEq a0 10 then bif iEq a0 10 then 18446744073709551612 else F6 a0
 else
 bif iEq a0 23 then bif iEq a0 23 then 18446744073709551612 else F6 a0
 else
 bif iEq a0 6 then bif iEq a0 6 then 18446744073709551612 else F6 a0
 else bif iEq a0 12 then bif iEq a0 12 then 18446744073709551612 else F6 a0 else bif iEq a0 25 then 18446744073709551612 else F6 a0
def ac7 (a0 : Int) : Bool :=
 bif iEq a0 0 then true
 else
 bif iEq a0 1 then true
 else
 bif iEq a0 2 then true
 else
 bif iEq a0 3 then true
 else
 bif iEq a0 4 then bif iEq a0 4 then true else F7 a0
 else
 bif iEq a0 10 then bif iEq a0 10 then true else F7 a0
 else
 bif iEq a0 23 then bif iEq a0 23 then true else F7 a0
 else
 bif iEq a0 6 then bif iEq a0 6 then true else F7 a0
 else bif iEq a0 12 then bif iEq a0 12 then true else F7 a0 else bif iEq a0 25 then true else F7 a0
theorem bb0 (a0 : Int)  : al2 a0  = T7 a0  := by
  unfold al2
  first | (simp only [M0, F7, Q3, L5, F6, cS1, cS2, cS3, cS4, cS6, cS7]; done) | (simp only [M0, F7, Q3, L5, F6, cS1, cS2, cS3, cS4, cS6, cS7]; kernel_rfl)
def U0 (a0 : Int) : AV := .it .u64 (T7 a0)
def ak9 (a0 : Int) : AV := .it .u64 (al2 a0)
theorem bb2 (a0 : Int) : ak9 a0 = U0 a0 := by
  unfold ak9 U0
  simp only [bb0]
def sallyportref8_MaskA (g : Nat → AV) : AV := U0 ((g 0).num)
def sallyportref8_MaskB (g : Nat → AV) : Bool := ac7 ((g 0).num)
theorem bA5 (g : Nat → AV) : pO bq9 100 false Tryz.f57 (r7 [(.int .i64)] 0 g) = some (sallyportref8_MaskB g, sallyportref8_MaskA g) := (by kernel_rfl : _ = some (sallyportref8_MaskB g, ak9 ((g 0).num))).trans (by rw [bb2]; rfl)
theorem by4 : Plain Tryz.prog 57 Tryz.f57 := ⟨Tryz.func57, of_decide_eq_true (by kernel_rfl)⟩
theorem bx6 (a0 : Int) : ac7 a0 = true := by
  unfold ac7
  simp only [M0, F7, Q3, L5, F6, cS1, cS2, cS3, cS4, cS6, cS7]
def row57Q : List AV → Option (Option Bool × AV) := rowF [(.int .i64)] none sallyportref8_MaskA
theorem bw3 : D1 Tryz.prog 57 row57Q := s3 fun g => p6 mix A7 ac2 (o9 mix A7 ac2 D5 (fun _ h => o5 p8 h) 8) by4 (fun c _ => m7 c) (bA5 g) (bx6 ..)
def T57 : List Row := (57, row57Q) :: bq9
theorem T57_ok : r0 Tryz.prog (m5 T57) := m8 bw3 ac2
def W8 (a0 : Int) : Int :=
 bif iEq (iAnd .u64 (iShr .u64 a0 11) 3) 2 then T1 .u64 a0 6144 else a0
def as9 (a0 : Int) : Bool :=
 bif iEq (iAnd .u64 (iShr .u64 a0 11) 3) 2 then true else true
def as4 (a0 : Int) : AV := .it .u64 (W8 a0)
def sallyportref8_MppA (g : Nat → AV) : AV := as4 ((g 0).num)
def sallyportref8_MppB (g : Nat → AV) : Bool := as9 ((g 0).num)
theorem bG6 (g : Nat → AV) : pO T57 100 false Tryz.f58 (r7 [(.int .u64)] 0 g) = some (sallyportref8_MppB g, sallyportref8_MppA g) := by kernel_rfl
theorem bF6 : Plain Tryz.prog 58 Tryz.f58 := ⟨Tryz.func58, of_decide_eq_true (by kernel_rfl)⟩
theorem bC4 (a0 : Int) : as9 a0 = true := by
  unfold as9
  simp only [cS1, cS2, cS3, cS4, cS6, cS7]
def row58Q : List AV → Option (Option Bool × AV) := rowF [(.int .u64)] none sallyportref8_MppA
theorem bH6 : D1 Tryz.prog 58 row58Q := s3 fun g => p6 mix A7 T57_ok (o9 mix A7 T57_ok D5 (fun _ h => o5 p8 h) 8) bF6 (fun c _ => m7 c) (bG6 g) (bC4 ..)
def T58 : List Row := (58, row58Q) :: T57
theorem T58_ok : r0 Tryz.prog (m5 T58) := m8 bH6 T57_ok
def b7 (a0 : Int) : Int :=
 bif bif iLt a0 1 then true else iLe 70 a0 then 0
 else
 bif iLe a0 4 then 1
 else
 bif iLe a0 10 then 2
 else
 bif iLe a0 17 then 3
 else
 bif iLe a0 21 then 4
 else bif iLe a0 34 then 5 else bif iLe a0 49 then 6 else bif iLe a0 51 then 7 else bif iLe a0 53 then 8 else bif iLe a0 59 then 9 else bif iLe a0 62 then 10 else bif iLe a0 65 then 11 else 12
def am8 (a0 : Int) : Bool :=
 bif bif iLt a0 1 then true else iLe 70 a0 then true
 else
 bif iLe a0 4 then true
 else
 bif iLe a0 10 then true
 else
 bif iLe a0 17 then true
 else
 bif iLe a0 21 then true
 else
 bif iLe a0 34 then true
 else bif iLe a0 49 then true else bif iLe a0 51 then true else bif iLe a0 53 then true else bif iLe a0 59 then true else bif iLe a0 62 then true else bif iLe a0 65 then true else true
def al6 (a0 : Int) : AV := .it .i64 (b7 a0)
def sallyportref3_ClassA (g : Nat → AV) : AV := al6 ((g 0).num)
def sallyportref3_ClassB (g : Nat → AV) : Bool := am8 ((g 0).num)
theorem br7 (g : Nat → AV) : pO T58 100 false Tryz.f92 (r7 [(.int .i64)] 0 g) = some (sallyportref3_ClassB g, sallyportref3_ClassA g) := by kernel_rfl
theorem bs7 : Plain Tryz.prog 92 Tryz.f92 := ⟨Tryz.func92, of_decide_eq_true (by kernel_rfl)⟩
theorem br4 (a0 : Int) : am8 a0 = true := by
  unfold am8
  simp only [cS1, cS2, cS3, cS4, cS6, cS7]
def row92Q : List AV → Option (Option Bool × AV) := rowF [(.int .i64)] none sallyportref3_ClassA
theorem bq5 : D1 Tryz.prog 92 row92Q := s3 fun g => p6 mix A7 T58_ok (o9 mix A7 T58_ok D5 (fun _ h => o5 p8 h) 8) bs7 (fun c _ => m7 c) (br7 g) (br4 ..)
def T92 : List Row := (92, row92Q) :: T58
theorem T92_ok : r0 Tryz.prog (m5 T92) := m8 bq5 T58_ok
theorem rclass_in {op : Int} (h : iEq (b7 op) 0 = false) : 1 ≤ op ∧ op < 70 := by
  refine Classical.byContradiction fun hr => ?_
  have e : (bif iLt op 1 then true else iLe 70 op) = true := by
    cases h1 : iLt op 1 with
    | true => rfl
    | false => rw [cond_false, J1]; rw [Q2] at h1; omega
  unfold b7 at h
  rw [e, cond_true] at h
  cases h
def C3 (a0 : Int) : Bool :=
 bif iEq (b7 a0) 3 then
 bif iEq (b7 a0) 3 then true
 else
 bif iEq (b7 a0) 6 then true
 else bif iEq (b7 a0) 9 then true else bif iEq (b7 a0) 11 then true else bif iEq (b7 a0) 12 then true else true
 else
 bif iEq (b7 a0) 5 then true
 else
 bif iEq (b7 a0) 6 then true
 else bif iEq (b7 a0) 9 then true else bif iEq (b7 a0) 11 then true else bif iEq (b7 a0) 12 then true else true
def B6 (a0 : Int) : Bool :=
 bif iEq (b7 a0) 6 then true
 else bif iEq (b7 a0) 9 then true else bif iEq (b7 a0) 11 then false else bif iEq (b7 a0) 12 then iNe a0 69 else false
def C2 (a0 : Int) : Bool :=
 bif iEq (b7 a0) 5 then true else B6 a0
def B9 (a0 : Int) : Bool :=
 bif iEq (b7 a0) 3 then bif iEq (b7 a0) 3 then true else B6 a0 else C2 a0
def C5 (a0 : Int) : Bool :=
 bif iEq (b7 a0) 6 then true
 else bif iEq (b7 a0) 9 then !iLe 57 a0 else bif iEq (b7 a0) 11 then true else bif iEq (b7 a0) 12 then true else false
def C1 (a0 : Int) : Bool :=
 bif iEq (b7 a0) 3 then bif iEq (b7 a0) 3 then true else C5 a0 else bif iEq (b7 a0) 5 then true else C5 a0
def C4 (a0 : Int) : Bool :=
 bif iEq (b7 a0) 6 then true
 else bif iEq (b7 a0) 9 then false else bif iEq (b7 a0) 11 then true else bif iEq (b7 a0) 12 then iEq a0 69 else false
def B8 (a0 : Int) : Bool :=
 bif iEq (b7 a0) 5 then false else C4 a0
def B7 (a0 : Int) : Bool :=
 bif iEq (b7 a0) 3 then bif iEq (b7 a0) 3 then false else C4 a0 else B8 a0
def C0 (a0 : Int) : Bool :=
 bif iEq (b7 a0) 3 then
 bif iEq (b7 a0) 3 then false
 else
 bif iEq (b7 a0) 6 then false
 else bif iEq (b7 a0) 9 then true else bif iEq (b7 a0) 11 then false else bif iEq (b7 a0) 12 then false else false
 else
 bif iEq (b7 a0) 5 then false
 else
 bif iEq (b7 a0) 6 then false
 else bif iEq (b7 a0) 9 then true else bif iEq (b7 a0) 11 then false else bif iEq (b7 a0) 12 then false else false
def A9 (a0 : Int) : Bool :=
 bif iEq (b7 a0) 6 then false
 else bif iEq (b7 a0) 9 then iLe 57 a0 else bif iEq (b7 a0) 11 then false else bif iEq (b7 a0) 12 then false else false
def A8 (a0 : Int) : Bool :=
 bif iEq (b7 a0) 3 then bif iEq (b7 a0) 3 then true else A9 a0
 else bif iEq (b7 a0) 5 then true else A9 a0
def Y7 (a0 : Int) : Bool :=
 bif iEq (b7 a0) 1 then true
 else bif iEq (b7 a0) 2 then false else bif iEq (b7 a0) 4 then false else bif iEq (b7 a0) 3 then true else C2 a0
def ah5 (a0 : Int) : Bool :=
 bif iEq (b7 a0) 1 then true
 else
 bif iEq (b7 a0) 2 then bif iEq (b7 a0) 2 then false else B9 a0
 else bif iEq (b7 a0) 4 then false else B9 a0
def Y5 (a0 : Int) : Bool :=
 bif iEq (b7 a0) 1 then iEq a0 4
 else
 bif iEq (b7 a0) 2 then true
 else
 bif iEq (b7 a0) 4 then true
 else
 bif iEq (b7 a0) 3 then true
 else
 bif iEq (b7 a0) 5 then true
 else
 bif iEq (b7 a0) 6 then true
 else bif iEq (b7 a0) 9 then !iLe 57 a0 else bif iEq (b7 a0) 11 then true else iEq (b7 a0) 12
def ag8 (a0 : Int) : Bool :=
 bif iEq (b7 a0) 1 then iEq a0 4
 else
 bif iEq (b7 a0) 2 then bif iEq (b7 a0) 2 then true else C1 a0
 else bif iEq (b7 a0) 4 then true else C1 a0
def Y3 (a0 : Int) : Bool :=
 bif iEq (b7 a0) 1 then false
 else bif iEq (b7 a0) 2 then true else bif iEq (b7 a0) 4 then true else bif iEq (b7 a0) 3 then false else B8 a0
def ah9 (a0 : Int) : Bool :=
 bif iEq (b7 a0) 1 then false
 else
 bif iEq (b7 a0) 2 then bif iEq (b7 a0) 2 then true else B7 a0
 else bif iEq (b7 a0) 4 then true else B7 a0
def Y6 (a0 : Int) : Bool :=
 bif iEq (b7 a0) 1 then false
 else
 bif iEq (b7 a0) 2 then false
 else
 bif iEq (b7 a0) 4 then false
 else bif iEq (b7 a0) 3 then false else bif iEq (b7 a0) 5 then false else bif iEq (b7 a0) 6 then false else iEq (b7 a0) 9
def aj1 (a0 : Int) : Bool :=
 bif iEq (b7 a0) 1 then false
 else
 bif iEq (b7 a0) 2 then bif iEq (b7 a0) 2 then false else C0 a0
 else bif iEq (b7 a0) 4 then false else C0 a0
def Y2 (a0 : Int) : Bool :=
 bif iEq (b7 a0) 1 then true
 else
 bif iEq (b7 a0) 2 then true
 else
 bif iEq (b7 a0) 4 then true
 else
 bif iEq (b7 a0) 3 then true
 else bif iEq (b7 a0) 5 then true else bif iEq (b7 a0) 6 then false else bif iEq (b7 a0) 9 then iLe 57 a0 else false
def ag6 (a0 : Int) : Bool :=
 bif iEq (b7 a0) 1 then true
 else
 bif iEq (b7 a0) 2 then bif iEq (b7 a0) 2 then true else A8 a0
 else bif iEq (b7 a0) 4 then true else A8 a0
def Y4 (a0 : Int) : Bool :=
 bif iEq (b7 a0) 1 then true
 else
 bif iEq (b7 a0) 2 then bif iEq (b7 a0) 2 then true else C3 a0
 else bif iEq (b7 a0) 4 then true else C3 a0
theorem aW7 (a0 : Int)  : ah5 a0  = Y7 a0  := by
  unfold ah5
  first | (simp only [C3, B6, C2, B9, C5, C1, C4, B8, B7, C0, A9, A8, cS1, cS2, cS3, cS4, cS6, cS7]; done) | (simp only [C3, B6, C2, B9, C5, C1, C4, B8, B7, C0, A9, A8, cS1, cS2, cS3, cS4, cS6, cS7]; kernel_rfl)
theorem aX5 (a0 : Int)  : ag8 a0  = Y5 a0  := by
  unfold ag8
  first | (simp only [C3, B6, C2, B9, C5, C1, C4, B8, B7, C0, A9, A8, cS1, cS2, cS3, cS4, cS6, cS7]; done) | (simp only [C3, B6, C2, B9, C5, C1, C4, B8, B7, C0, A9, A8, cS1, cS2, cS3, cS4, cS6, cS7]; kernel_rfl)
theorem aZ9 (a0 : Int)  : ah9 a0  = Y3 a0  := by
  unfold ah9
  first | (simp only [C3, B6, C2, B9, C5, C1, C4, B8, B7, C0, A9, A8, cS1, cS2, cS3, cS4, cS6, cS7]; done) | (simp only [C3, B6, C2, B9, C5, C1, C4, B8, B7, C0, A9, A8, cS1, cS2, cS3, cS4, cS6, cS7]; kernel_rfl)
theorem aY7 (a0 : Int)  : aj1 a0  = Y6 a0  := by
  unfold aj1
  first | (simp only [C3, B6, C2, B9, C5, C1, C4, B8, B7, C0, A9, A8, cS1, cS2, cS3, cS4, cS6, cS7]; done) | (simp only [C3, B6, C2, B9, C5, C1, C4, B8, B7, C0, A9, A8, cS1, cS2, cS3, cS4, cS6, cS7]; kernel_rfl)
theorem aZ8 (a0 : Int)  : ag6 a0  = Y2 a0  := by
  unfold ag6
  first | (simp only [C3, B6, C2, B9, C5, C1, C4, B8, B7, C0, A9, A8, cS1, cS2, cS3, cS4, cS6, cS7]; done) | (simp only [C3, B6, C2, B9, C5, C1, C4, B8, B7, C0, A9, A8, cS1, cS2, cS3, cS4, cS6, cS7]; kernel_rfl)
def S7 (a0 : Int) : AV := .tup [.bl (Y7 a0), .bl (Y5 a0), .bl (Y3 a0), .bl (Y6 a0), .bl (Y2 a0)]
def ag9 (a0 : Int) : AV := .tup [.bl (ah5 a0), .bl (ag8 a0), .bl (ah9 a0), .bl (aj1 a0), .bl (ag6 a0)]
theorem aZ7 (a0 : Int) : ag9 a0 = S7 a0 := by
  unfold ag9 S7
  simp only [aW7, aX5, aZ9, aY7, aZ8]
def sallyportref3_PartsA (g : Nat → AV) : AV := S7 ((g 0).num)
def sallyportref3_PartsB (g : Nat → AV) : Bool := Y4 ((g 0).num)
theorem br0 (g : Nat → AV) : pO T92 100 false Tryz.f145 (r7 [(.int .i64)] 0 g) = some (sallyportref3_PartsB g, sallyportref3_PartsA g) := (by kernel_rfl : _ = some (sallyportref3_PartsB g, ag9 ((g 0).num))).trans (by rw [aZ7]; rfl)
theorem bq4 : Plain Tryz.prog 145 Tryz.f145 := ⟨Tryz.func145, of_decide_eq_true (by kernel_rfl)⟩
theorem bs4 (a0 : Int) : Y4 a0 = true := by
  unfold Y4
  simp only [C3, B6, C2, B9, C5, C1, C4, B8, B7, C0, A9, A8, cS1, cS2, cS3, cS4, cS6, cS7]
def row145Q : List AV → Option (Option Bool × AV) := rowF [(.int .i64)] none sallyportref3_PartsA
theorem br9 : D1 Tryz.prog 145 row145Q := s3 fun g => p6 mix A7 T92_ok (o9 mix A7 T92_ok D5 (fun _ h => o5 p8 h) 8) bq4 (fun c _ => m7 c) (br0 g) (bs4 ..)
def T145 : List Row := (145, row145Q) :: T92
theorem dp8 : r0 Tryz.prog (m5 T145) := m8 br9 T92_ok
def N0 (a0 : Int) (a1 : Bool) : Bool :=
 bif iEq a0 0 then true else bif bif a1 then iLt 0 a0 else false then iLt a0 32 else false
def aL1 (a0 : Int) (a1 : Bool) : Bool :=
 true
def ar9 (a0 : Int) (a1 : Bool) : AV := .bl (N0 a0 a1)
def sallyportref3_regA (g : Nat → AV) : AV := ar9 ((g 0).num) ((g 1).bool)
def sallyportref3_regB (g : Nat → AV) : Bool := aL1 ((g 0).num) ((g 1).bool)
theorem bD0 (g : Nat → AV) : pO T145 100 false Tryz.f146 (r7 [(.int .i64), .bool] 0 g) = some (sallyportref3_regB g, sallyportref3_regA g) := by kernel_rfl
theorem bB8 : Plain Tryz.prog 146 Tryz.f146 := ⟨Tryz.func146, of_decide_eq_true (by kernel_rfl)⟩
theorem bH4 (a0 : Int) (a1 : Bool) : aL1 a0 a1 = true := rfl
def row146Q : List AV → Option (Option Bool × AV) := rowF [(.int .i64), .bool] none sallyportref3_regA
theorem bC3 : D1 Tryz.prog 146 row146Q := s3 fun g => p6 mix A7 dp8 (o9 mix A7 dp8 D5 (fun _ h => o5 p8 h) 8) bB8 (fun c _ => m7 c) (bD0 g) (bH4 ..)
def T146 : List Row := (146, row146Q) :: T145
theorem dv1 : r0 Tryz.prog (m5 T146) := m8 bC3 dp8
def J2 (a0 a1 a2 a3 : Int) : Bool :=
 bif bif iLe a1 a0 then iLe a0 a2 else false then iEq (iRem a0 a3) 0 else false
def F0 (a0 a1 a2 a3 : Int) : Bool :=
 ((!bif iLe a1 a0 then iLe a0 a2 else false) || iNe a3 0) && true
def ah2 (a0 a1 a2 a3 : Int) : AV := .bl (J2 a0 a1 a2 a3)
def sallyportref3_withinA (g : Nat → AV) : AV := ah2 ((g 0).num) ((g 1).num) ((g 2).num) ((g 3).num)
def sallyportref3_withinB (g : Nat → AV) : Bool := F0 ((g 0).num) ((g 1).num) ((g 2).num) ((g 3).num)
theorem bf3 (g : Nat → AV) : pO T146 100 false Tryz.f213 (r7 [(.int .i64), (.int .i64), (.int .i64), (.int .i64)] 0 g) = some (sallyportref3_withinB g, sallyportref3_withinA g) := by kernel_rfl
theorem be7 : Plain Tryz.prog 213 Tryz.f213 := ⟨Tryz.func213, of_decide_eq_true (by kernel_rfl)⟩
def row213Q : List AV → Option (Option Bool × AV) := rowF [(.int .i64), (.int .i64), (.int .i64), (.int .i64)] (some fun g => sallyportref3_withinB g) sallyportref3_withinA
theorem bg7 : D1 Tryz.prog 213 row213Q := R9 fun g hg => p6 mix A7 dv1 (o9 mix A7 dv1 D5 (fun _ h => o5 p8 h) 8) be7 (fun c _ => m7 c) (bf3 g) hg
def T213 : List Row := (213, row213Q) :: T146
theorem dw4 : r0 Tryz.prog (m5 T213) := m8 bg7 dv1
def aB7 (q7 C7 s4 s9 q8 s8 : Int) : Bool :=
 bif iLe q7 2 then J2 q8 (-2147483648) 2147479552 4096
 else
 bif iEq q7 3 then J2 q8 (-1048576) 1048574 2
 else
 bif iEq (b7 q7) 2 then J2 q8 (-4096) 4094 2
 else
 bif bif iLe 28 q7 then iLe q7 30 else false then J2 q8 0 63 1
 else
 bif bif bif iLe 32 q7 then iLe q7 34 else false then true else iEq (b7 q7) 9 then J2 q8 0 31 1
 else J2 q8 (-2048) 2047 1
def ah8 (q7 C7 s4 s9 q8 s8 : Int) : Bool :=
 bif iLe q7 2 then F0 q8 (-2147483648) 2147479552 4096 && true
 else
 bif iEq q7 3 then F0 q8 (-1048576) 1048574 2 && true
 else
 bif iEq (b7 q7) 2 then F0 q8 (-4096) 4094 2 && true
 else
 bif bif iLe 28 q7 then iLe q7 30 else false then F0 q8 0 63 1 && true
 else
 bif bif bif iLe 32 q7 then iLe q7 34 else false then true else iEq (b7 q7) 9 then F0 q8 0 31 1 && true
 else F0 q8 (-2048) 2047 1 && true
def ah3 (q7 C7 s4 s9 q8 s8 : Int) : AV := .bl (aB7 q7 C7 s4 s9 q8 s8)
def sallyportref3_numberA (g : Nat → AV) : AV := ah3 (((g 0).fld 0).num) (((g 0).fld 1).num) (((g 0).fld 2).num) (((g 0).fld 3).num) (((g 0).fld 4).num) (((g 0).fld 5).num)
def sallyportref3_numberB (g : Nat → AV) : Bool := ah8 (((g 0).fld 0).num) (((g 0).fld 1).num) (((g 0).fld 2).num) (((g 0).fld 3).num) (((g 0).fld 4).num) (((g 0).fld 5).num)
theorem bm5 (g : Nat → AV) : pO T213 100 false Tryz.f147 (r7 [sh1Q] 0 g) = some (sallyportref3_numberB g, sallyportref3_numberA g) := by kernel_rfl
theorem bg1 : Plain Tryz.prog 147 Tryz.f147 := ⟨Tryz.func147, of_decide_eq_true (by kernel_rfl)⟩
theorem bi5 (q7 C7 s4 s9 q8 s8 : Int) : ah8 q7 C7 s4 s9 q8 s8 = true := by simp [ah8, F0, Go.Ev.iNe]
def row147Q : List AV → Option (Option Bool × AV) := rowF [sh1Q] none sallyportref3_numberA
theorem bk6 : D1 Tryz.prog 147 row147Q := s3 fun g => p6 mix A7 dw4 (o9 mix A7 dw4 D5 (fun _ h => o5 p8 h) 8) bg1 (fun c _ => m7 c) (bm5 g) (bi5 ..)
def T147 : List Row := (147, row147Q) :: T213
theorem dv9 : r0 Tryz.prog (m5 T147) := m8 bk6 dw4
def L9 (q7 C7 s4 s9 q8 s8 : Int) : Bool :=
 bif iEq (b7 q7) 0 then false
 else
 bif
 bif
 bif bif !N0 C7 (Y7 q7) then true else !N0 s4 (Y5 q7) then true
 else !N0 s9 (Y3 q7) then
 true
 else bif iNe s8 0 then bif bif !Y6 q7 then true else iLt s8 0 then true else iLt 4095 s8 else false then
 false
 else bif !Y2 q7 then iEq q8 0 else aB7 q7 C7 s4 s9 q8 s8
def az7 (q7 C7 s4 s9 q8 s8 : Int) : Bool :=
 bif iEq (b7 q7) 0 then true
 else
 bif
 bif
 bif bif !N0 C7 (Y7 q7) then true else !N0 s4 (Y5 q7) then true
 else !N0 s9 (Y3 q7) then
 true
 else bif iNe s8 0 then bif bif !Y6 q7 then true else iLt s8 0 then true else iLt 4095 s8 else false then
 true
 else bif !Y2 q7 then true else true
def az5 (q7 C7 s4 s9 q8 s8 : Int) : AV := .bl (L9 q7 C7 s4 s9 q8 s8)
def sallyportref3_IsA (g : Nat → AV) : AV := az5 (((g 0).fld 0).num) (((g 0).fld 1).num) (((g 0).fld 2).num) (((g 0).fld 3).num) (((g 0).fld 4).num) (((g 0).fld 5).num)
def sallyportref3_IsB (g : Nat → AV) : Bool := az7 (((g 0).fld 0).num) (((g 0).fld 1).num) (((g 0).fld 2).num) (((g 0).fld 3).num) (((g 0).fld 4).num) (((g 0).fld 5).num)
theorem bM3 (g : Nat → AV) : pO T147 100 false Tryz.f89 (r7 [sh1Q] 0 g) = some (sallyportref3_IsB g, sallyportref3_IsA g) := by kernel_rfl
theorem bL7 : Plain Tryz.prog 89 Tryz.f89 := ⟨Tryz.func89, of_decide_eq_true (by kernel_rfl)⟩
theorem bJ9 (q7 C7 s4 s9 q8 s8 : Int) : az7 q7 C7 s4 s9 q8 s8 = true := by
  unfold az7
  simp only [cS1, cS2, cS3, cS4, cS6, cS7]
def row89Q : List AV → Option (Option Bool × AV) := rowF [sh1Q] none sallyportref3_IsA
theorem bO3 : D1 Tryz.prog 89 row89Q := s3 fun g => p6 mix A7 dv9 (o9 mix A7 dv9 D5 (fun _ h => o5 p8 h) 8) bL7 (fun c _ => m7 c) (bM3 g) (bJ9 ..)
def T89 : List Row := (89, row89Q) :: T147
theorem T89_ok : r0 Tryz.prog (m5 T89) := m8 bO3 dv9
theorem ris_op {a b c d e f : Int} (h : L9 a b c d e f = true) : 1 ≤ a ∧ a < 70 := by
  refine rclass_in ?_
  cases h1 : iEq (b7 a) 0 with
  | false => rfl
  | true =>
    unfold L9 at h
    rw [h1, cond_true] at h
    cases h
def S6 (a0 : Int) : Int :=
 bif iEq a0 50 then 267386895
 else bif iEq a0 51 then 4111 else bif iEq a0 52 then 115 else bif iEq a0 53 then 1048691 else bif iEq a0 60 then 807403635 else bif iEq a0 61 then 270532723 else bif iEq a0 62 then 273678451 else 0
def al3 (a0 : Int) : Bool :=
 bif iEq a0 50 then true
 else bif iEq a0 51 then true else bif iEq a0 52 then true else bif iEq a0 53 then true else bif iEq a0 60 then true else bif iEq a0 61 then true else bif iEq a0 62 then true else true
def al7 (a0 : Int) : AV := .it .u32 (S6 a0)
def sallyportref3_fixedA (g : Nat → AV) : AV := al7 ((g 0).num)
def sallyportref3_fixedB (g : Nat → AV) : Bool := al3 ((g 0).num)
theorem br1 (g : Nat → AV) : pO T89 100 false Tryz.f90 (r7 [(.int .i64)] 0 g) = some (sallyportref3_fixedB g, sallyportref3_fixedA g) := by kernel_rfl
theorem bs5 : Plain Tryz.prog 90 Tryz.f90 := ⟨Tryz.func90, of_decide_eq_true (by kernel_rfl)⟩
theorem bs1 (a0 : Int) : al3 a0 = true := by
  unfold al3
  simp only [cS1, cS2, cS3, cS4, cS6, cS7]
def row90Q : List AV → Option (Option Bool × AV) := rowF [(.int .i64)] none sallyportref3_fixedA
theorem bq3 : D1 Tryz.prog 90 row90Q := s3 fun g => p6 mix A7 T89_ok (o9 mix A7 T89_ok D5 (fun _ h => o5 p8 h) 8) bs5 (fun c _ => m7 c) (br1 g) (bs1 ..)
def T90 : List Row := (90, row90Q) :: T89
theorem T90_ok : r0 Tryz.prog (m5 T90) := m8 bq3 T89_ok
def L4 (a0 : Int) : Int :=
 bif iEq (b7 a0) 9 then
 bif (iSub .i64 a0 54).toNat == 5 then 7
 else
 bif (iSub .i64 a0 54).toNat == 4 then 6
 else
 bif (iSub .i64 a0 54).toNat == 3 then 5
 else bif (iSub .i64 a0 54).toNat == 2 then 3 else bif (iSub .i64 a0 54).toNat == 1 then 2 else bif (iSub .i64 a0 54).toNat == 0 then 1 else 0
 else bif iEq (b7 a0) 11 then 0 else bif bif iEq a0 66 then true else iEq a0 68 then 4 else bif iEq a0 67 then 4 else bif iEq a0 69 then 4 else 0
def L7 (a0 : Int) : Int :=
 bif iEq (b7 a0) 9 then 0
 else
 bif iEq (b7 a0) 11 then
 bif (iSub .i64 a0 63).toNat == 2 then 49 else bif (iSub .i64 a0 63).toNat == 1 then 17 else bif (iSub .i64 a0 63).toNat == 0 then 9 else 0
 else bif bif iEq a0 66 then true else iEq a0 68 then 52 else bif iEq a0 67 then 54 else bif iEq a0 69 then 55 else 0
def E2 (a0 : Int) : Int :=
 bif iEq a0 1 then 55
 else
 bif iEq a0 2 then 23
 else
 bif iEq a0 3 then 111
 else
 bif iEq a0 4 then 103
 else
 bif iEq (b7 a0) 2 then 99
 else
 bif iEq (b7 a0) 3 then 3
 else
 bif iEq (b7 a0) 4 then 35
 else
 bif iLe a0 27 then 19
 else
 bif iLe a0 30 then 19
 else
 bif iLe a0 34 then 27
 else
 bif iLe a0 44 then 51
 else
 bif iLe a0 49 then 59
 else
 bif iEq (b7 a0) 9 then 115
 else bif iEq (b7 a0) 11 then 115 else bif bif iEq a0 66 then true else iEq a0 68 then 115 else bif iEq a0 67 then 115 else bif iEq a0 69 then 115 else 0
def F2 (a0 : Int) : Int :=
 bif iEq a0 1 then 0
 else
 bif iEq a0 2 then 0
 else
 bif iEq a0 3 then 0
 else
 bif iEq a0 4 then 0
 else
 bif iEq (b7 a0) 2 then
 bif (iSub .i64 a0 5).toNat == 5 then 7
 else
 bif (iSub .i64 a0 5).toNat == 4 then 6
 else bif (iSub .i64 a0 5).toNat == 3 then 5 else bif (iSub .i64 a0 5).toNat == 2 then 4 else bif (iSub .i64 a0 5).toNat == 1 then 1 else 0
 else
 bif iEq (b7 a0) 3 then g8 .u32 (iSub .i64 a0 11)
 else
 bif iEq (b7 a0) 4 then g8 .u32 (iSub .i64 a0 18)
 else
 bif iLe a0 27 then
 bif (iSub .i64 a0 22).toNat == 5 then 7
 else
 bif (iSub .i64 a0 22).toNat == 4 then 6
 else bif (iSub .i64 a0 22).toNat == 3 then 4 else bif (iSub .i64 a0 22).toNat == 2 then 3 else bif (iSub .i64 a0 22).toNat == 1 then 2 else 0
 else
 bif iLe a0 30 then bif (iSub .i64 a0 28).toNat == 2 then 5 else bif (iSub .i64 a0 28).toNat == 1 then 5 else bif (iSub .i64 a0 28).toNat == 0 then 1 else 0
 else
 bif iLe a0 34 then bif (iSub .i64 a0 31).toNat == 3 then 5 else bif (iSub .i64 a0 31).toNat == 2 then 5 else bif (iSub .i64 a0 31).toNat == 1 then 1 else 0
 else
 bif iLe a0 44 then
 bif (iSub .i64 a0 35).toNat == 9 then 7
 else
 bif (iSub .i64 a0 35).toNat == 8 then 6
 else
 bif (iSub .i64 a0 35).toNat == 7 then 5
 else
 bif (iSub .i64 a0 35).toNat == 6 then 5
 else
 bif (iSub .i64 a0 35).toNat == 5 then 4
 else bif (iSub .i64 a0 35).toNat == 4 then 3 else bif (iSub .i64 a0 35).toNat == 3 then 2 else bif (iSub .i64 a0 35).toNat == 2 then 1 else 0
 else
 bif iLe a0 49 then bif (iSub .i64 a0 45).toNat == 4 then 5 else bif (iSub .i64 a0 45).toNat == 3 then 5 else bif (iSub .i64 a0 45).toNat == 2 then 1 else 0
 else L4 a0
def al0 (a0 : Int) : Int :=
 bif iEq a0 1 then 0
 else
 bif iEq a0 2 then 0
 else
 bif iEq a0 3 then 0
 else
 bif iEq a0 4 then 0
 else
 bif iEq (b7 a0) 2 then
 bif (iSub .i64 a0 5).toNat == 5 then 7
 else
 bif (iSub .i64 a0 5).toNat == 4 then 6
 else
 bif (iSub .i64 a0 5).toNat == 3 then 5
 else bif (iSub .i64 a0 5).toNat == 2 then 4 else bif (iSub .i64 a0 5).toNat == 1 then 1 else bif (iSub .i64 a0 5).toNat == 0 then 0 else 0
 else
 bif iEq (b7 a0) 3 then g8 .u32 (iSub .i64 a0 11)
 else
 bif iEq (b7 a0) 4 then g8 .u32 (iSub .i64 a0 18)
 else
 bif iLe a0 27 then
 bif (iSub .i64 a0 22).toNat == 5 then 7
 else
 bif (iSub .i64 a0 22).toNat == 4 then 6
 else
 bif (iSub .i64 a0 22).toNat == 3 then 4
 else bif (iSub .i64 a0 22).toNat == 2 then 3 else bif (iSub .i64 a0 22).toNat == 1 then 2 else bif (iSub .i64 a0 22).toNat == 0 then 0 else 0
 else
 bif iLe a0 30 then bif (iSub .i64 a0 28).toNat == 2 then 5 else bif (iSub .i64 a0 28).toNat == 1 then 5 else bif (iSub .i64 a0 28).toNat == 0 then 1 else 0
 else
 bif iLe a0 34 then
 bif (iSub .i64 a0 31).toNat == 3 then 5
 else bif (iSub .i64 a0 31).toNat == 2 then 5 else bif (iSub .i64 a0 31).toNat == 1 then 1 else bif (iSub .i64 a0 31).toNat == 0 then 0 else 0
 else
 bif iLe a0 44 then
 bif (iSub .i64 a0 35).toNat == 9 then 7
 else
 bif (iSub .i64 a0 35).toNat == 8 then 6
 else
 bif (iSub .i64 a0 35).toNat == 7 then 5
 else
 bif (iSub .i64 a0 35).toNat == 6 then 5
 else
 bif (iSub .i64 a0 35).toNat == 5 then 4
 else
 bif (iSub .i64 a0 35).toNat == 4 then 3
 else
 bif (iSub .i64 a0 35).toNat == 3 then 2
 else bif (iSub .i64 a0 35).toNat == 2 then 1 else bif (iSub .i64 a0 35).toNat == 1 then 0 else bif (iSub .i64 a0 35).toNat == 0 then 0 else 0
 else
 bif iLe a0 49 then
 bif (iSub .i64 a0 45).toNat == 4 then 5
 else
 bif (iSub .i64 a0 45).toNat == 3 then 5
 else bif (iSub .i64 a0 45).toNat == 2 then 1 else bif (iSub .i64 a0 45).toNat == 1 then 0 else bif (iSub .i64 a0 45).toNat == 0 then 0 else 0
 else L4 a0
def K9 (a0 : Int) : Int :=
 bif iEq a0 1 then 0
 else
 bif iEq a0 2 then 0
 else
 bif iEq a0 3 then 0
 else
 bif iEq a0 4 then 0
 else
 bif iEq (b7 a0) 2 then 0
 else
 bif iEq (b7 a0) 3 then 0
 else
 bif iEq (b7 a0) 4 then 0
 else
 bif iLe a0 27 then 0
 else
 bif iLe a0 30 then bif (iSub .i64 a0 28).toNat == 2 then 32 else 0
 else
 bif iLe a0 34 then bif (iSub .i64 a0 31).toNat == 3 then 32 else 0
 else
 bif iLe a0 44 then
 bif (iSub .i64 a0 35).toNat == 9 then 0
 else
 bif (iSub .i64 a0 35).toNat == 8 then 0
 else
 bif (iSub .i64 a0 35).toNat == 7 then 32
 else
 bif (iSub .i64 a0 35).toNat == 6 then 0
 else
 bif (iSub .i64 a0 35).toNat == 5 then 0
 else
 bif (iSub .i64 a0 35).toNat == 4 then 0
 else bif (iSub .i64 a0 35).toNat == 3 then 0 else bif (iSub .i64 a0 35).toNat == 2 then 0 else bif (iSub .i64 a0 35).toNat == 1 then 32 else 0
 else
 bif iLe a0 49 then
 bif (iSub .i64 a0 45).toNat == 4 then 32
 else bif (iSub .i64 a0 45).toNat == 3 then 0 else bif (iSub .i64 a0 45).toNat == 2 then 0 else bif (iSub .i64 a0 45).toNat == 1 then 32 else 0
 else L7 a0
def al8 (a0 : Int) : Int :=
 bif iEq a0 1 then 0
 else
 bif iEq a0 2 then 0
 else
 bif iEq a0 3 then 0
 else
 bif iEq a0 4 then 0
 else
 bif iEq (b7 a0) 2 then 0
 else
 bif iEq (b7 a0) 3 then 0
 else
 bif iEq (b7 a0) 4 then 0
 else
 bif iLe a0 27 then 0
 else
 bif iLe a0 30 then bif (iSub .i64 a0 28).toNat == 2 then 32 else bif (iSub .i64 a0 28).toNat == 1 then 0 else bif (iSub .i64 a0 28).toNat == 0 then 0 else 0
 else
 bif iLe a0 34 then
 bif (iSub .i64 a0 31).toNat == 3 then 32
 else bif (iSub .i64 a0 31).toNat == 2 then 0 else bif (iSub .i64 a0 31).toNat == 1 then 0 else bif (iSub .i64 a0 31).toNat == 0 then 0 else 0
 else
 bif iLe a0 44 then
 bif (iSub .i64 a0 35).toNat == 9 then 0
 else
 bif (iSub .i64 a0 35).toNat == 8 then 0
 else
 bif (iSub .i64 a0 35).toNat == 7 then 32
 else
 bif (iSub .i64 a0 35).toNat == 6 then 0
 else
 bif (iSub .i64 a0 35).toNat == 5 then 0
 else
 bif (iSub .i64 a0 35).toNat == 4 then 0
 else
 bif (iSub .i64 a0 35).toNat == 3 then 0
 else bif (iSub .i64 a0 35).toNat == 2 then 0 else bif (iSub .i64 a0 35).toNat == 1 then 32 else bif (iSub .i64 a0 35).toNat == 0 then 0 else 0
 else
 bif iLe a0 49 then
 bif (iSub .i64 a0 45).toNat == 4 then 32
 else
 bif (iSub .i64 a0 45).toNat == 3 then 0
 else bif (iSub .i64 a0 45).toNat == 2 then 0 else bif (iSub .i64 a0 45).toNat == 1 then 32 else bif (iSub .i64 a0 45).toNat == 0 then 0 else 0
 else L7 a0
def L1 (a0 : Int) : Bool :=
 bif iEq a0 1 then true
 else
 bif iEq a0 2 then true
 else
 bif iEq a0 3 then true
 else
 bif iEq a0 4 then true
 else
 bif iEq (b7 a0) 2 then iIn (iSub .i64 a0 5) 6 && true
 else
 bif iEq (b7 a0) 3 then true
 else
 bif iEq (b7 a0) 4 then true
 else
 bif iLe a0 27 then iIn (iSub .i64 a0 22) 6 && true
 else
 bif iLe a0 30 then iIn (iSub .i64 a0 28) 3 && (iIn (iSub .i64 a0 28) 3 && true)
 else
 bif iLe a0 34 then iIn (iSub .i64 a0 31) 4 && (iIn (iSub .i64 a0 31) 4 && true)
 else
 bif iLe a0 44 then iIn (iSub .i64 a0 35) 10 && (iIn (iSub .i64 a0 35) 10 && true)
 else
 bif iLe a0 49 then iIn (iSub .i64 a0 45) 5 && (iIn (iSub .i64 a0 45) 5 && true)
 else
 bif iEq (b7 a0) 9 then iIn (iSub .i64 a0 54) 6 && true
 else
 bif iEq (b7 a0) 11 then iIn (iSub .i64 a0 63) 3 && true
 else bif bif iEq a0 66 then true else iEq a0 68 then true else bif iEq a0 67 then true else bif iEq a0 69 then true else true
theorem bb5 (a0 : Int)  : al0 a0  = F2 a0  := by
  unfold al0
  first | (simp only [L4, L7, cS1, cS2, cS3, cS4, cS6, cS7]; done) | (simp only [L4, L7, cS1, cS2, cS3, cS4, cS6, cS7]; kernel_rfl)
theorem bb7 (a0 : Int)  : al8 a0  = K9 a0  := by
  unfold al8
  first | (simp only [L4, L7, cS1, cS2, cS3, cS4, cS6, cS7]; done) | (simp only [L4, L7, cS1, cS2, cS3, cS4, cS6, cS7]; kernel_rfl)
def T8 (a0 : Int) : AV := .tup [.it .u32 (E2 a0), .it .u32 (F2 a0), .it .u32 (K9 a0)]
def am3 (a0 : Int) : AV := .tup [.it .u32 (E2 a0), .it .u32 (al0 a0), .it .u32 (al8 a0)]
theorem bb3 (a0 : Int) : am3 a0 = T8 a0 := by
  unfold am3 T8
  simp only [bb5, bb7]
def sallyportref3_CodeA (g : Nat → AV) : AV := T8 ((g 0).num)
def sallyportref3_CodeB (g : Nat → AV) : Bool := L1 ((g 0).num)
theorem bz2 (g : Nat → AV) : pO T90 100 false Tryz.f91 (r7 [(.int .i64)] 0 g) = some (sallyportref3_CodeB g, sallyportref3_CodeA g) := (by kernel_rfl : _ = some (sallyportref3_CodeB g, am3 ((g 0).num))).trans (by rw [bb3]; rfl)
theorem bt5 : Plain Tryz.prog 91 Tryz.f91 := ⟨Tryz.func91, of_decide_eq_true (by kernel_rfl)⟩
def row91Q : List AV → Option (Option Bool × AV) := rowF [(.int .i64)] (some fun g => sallyportref3_CodeB g) sallyportref3_CodeA
theorem bt2 : D1 Tryz.prog 91 row91Q := R9 fun g hg => p6 mix A7 T90_ok (o9 mix A7 T90_ok D5 (fun _ h => o5 p8 h) 8) bt5 (fun c _ => m7 c) (bz2 g) hg
def T91 : List Row := (91, row91Q) :: T90
theorem T91_ok : r0 Tryz.prog (m5 T91) := m8 bt2 T90_ok
theorem rcode_all : ∀ x : Fin 69, L1 ((x.val : Int) + 1) = true := by decide +kernel
theorem rcode_g {op : Int} (h : 1 ≤ op ∧ op < 70) : L1 op = true := by
  have := rcode_all ⟨(op - 1).toNat, by omega⟩
  rw [show (((op - 1).toNat : Nat) : Int) + 1 = op by omega] at this
  exact this
def T2 (q7 C7 s4 s9 q8 s8 : Int) : Bool :=
 bif bif iNe (K9 q7) 0 then true else bif iLe 28 q7 then iLe q7 30 else false then true else bif iLe 32 q7 then iLe q7 34 else false
def M8 (q7 C7 s4 s9 q8 s8 : Int) : Bool :=
 bif iLe q7 2 then true
 else
 bif iEq q7 3 then true
 else
 bif iEq (b7 q7) 2 then true
 else
 bif iEq (b7 q7) 4 then true
 else
 bif bif bif iEq (b7 q7) 6 then true else iEq (b7 q7) 11 then true else iEq q7 69 then true
 else
 bif bif iEq (b7 q7) 9 then iLe 57 q7 else false then true
 else
 bif iEq (b7 q7) 9 then true
 else bif iEq q7 68 then true else bif iEq (b7 q7) 12 then true else bif T2 q7 C7 s4 s9 q8 s8 then true else true
def aC5 (q7 C7 s4 s9 q8 s8 : Int) : Int :=
 bif !L9 q7 C7 s4 s9 q8 s8 then 0
 else
 bif iNe (S6 q7) 0 then S6 q7
 else
 bif iLe q7 2 then iOr .u32 (iOr .u32 (E2 q7) (iShl .u32 (g8 .u32 C7) 7)) (iAnd .u32 (g8 .u32 q8) 4294963200)
 else
 bif iEq q7 3 then
 iOr .u32
 (iOr .u32
 (iOr .u32
 (iOr .u32 (iOr .u32 (E2 q7) (iShl .u32 (g8 .u32 C7) 7))
 (iShl .u32 (iAnd .u32 (iShr .u32 (g8 .u32 q8) 20) 1) 31))
 (iShl .u32 (iAnd .u32 (iShr .u32 (g8 .u32 q8) 12) 255) 12))
 (iShl .u32 (iAnd .u32 (iShr .u32 (g8 .u32 q8) 11) 1) 20))
 (iShl .u32 (iAnd .u32 (iShr .u32 (g8 .u32 q8) 1) 1023) 21)
 else
 bif iEq (b7 q7) 2 then
 iOr .u32
 (iOr .u32
 (iOr .u32
 (iOr .u32
 (iOr .u32 (iOr .u32 (iOr .u32 (E2 q7) (iShl .u32 (F2 q7) 12)) (iShl .u32 (g8 .u32 s4) 15))
 (iShl .u32 (g8 .u32 s9) 20))
 (iShl .u32 (iAnd .u32 (iShr .u32 (g8 .u32 q8) 12) 1) 31))
 (iShl .u32 (iAnd .u32 (iShr .u32 (g8 .u32 q8) 11) 1) 7))
 (iShl .u32 (iAnd .u32 (iShr .u32 (g8 .u32 q8) 5) 63) 25))
 (iShl .u32 (iAnd .u32 (iShr .u32 (g8 .u32 q8) 1) 15) 8)
 else
 bif iEq (b7 q7) 4 then
 iOr .u32
 (iOr .u32
 (iOr .u32 (iOr .u32 (iOr .u32 (E2 q7) (iShl .u32 (F2 q7) 12)) (iShl .u32 (g8 .u32 s4) 15))
 (iShl .u32 (g8 .u32 s9) 20))
 (iShl .u32 (iAnd .u32 (iShr .u32 (g8 .u32 q8) 5) 127) 25))
 (iShl .u32 (iAnd .u32 (g8 .u32 q8) 31) 7)
 else
 bif bif bif iEq (b7 q7) 6 then true else iEq (b7 q7) 11 then true else iEq q7 69 then
 iOr .u32
 (iOr .u32
 (iOr .u32 (iOr .u32 (iOr .u32 (E2 q7) (iShl .u32 (F2 q7) 12)) (iShl .u32 (g8 .u32 s4) 15))
 (iShl .u32 (g8 .u32 C7) 7))
 (iShl .u32 (g8 .u32 s9) 20))
 (iShl .u32 (K9 q7) 25)
 else
 bif bif iEq (b7 q7) 9 then iLe 57 q7 else false then
 iOr .u32
 (iOr .u32 (iOr .u32 (iOr .u32 (E2 q7) (iShl .u32 (F2 q7) 12)) (iShl .u32 (g8 .u32 C7) 7))
 (iShl .u32 (g8 .u32 q8) 15))
 (iShl .u32 (g8 .u32 s8) 20)
 else
 bif iEq (b7 q7) 9 then
 iOr .u32
 (iOr .u32 (iOr .u32 (iOr .u32 (E2 q7) (iShl .u32 (F2 q7) 12)) (iShl .u32 (g8 .u32 s4) 15))
 (iShl .u32 (g8 .u32 C7) 7))
 (iShl .u32 (g8 .u32 s8) 20)
 else
 bif iEq q7 68 then
 iOr .u32
 (iOr .u32
 (iOr .u32
 (iOr .u32 (iOr .u32 (E2 q7) (iShl .u32 (F2 q7) 12)) (iShl .u32 (g8 .u32 s4) 15))
 (iShl .u32 (g8 .u32 C7) 7))
 3145728)
 (iShl .u32 (K9 q7) 25)
 else
 bif iEq (b7 q7) 12 then
 iOr .u32
 (iOr .u32
 (iOr .u32 (iOr .u32 (E2 q7) (iShl .u32 (F2 q7) 12)) (iShl .u32 (g8 .u32 s4) 15))
 (iShl .u32 (g8 .u32 C7) 7))
 (iShl .u32 (K9 q7) 25)
 else
 bif T2 q7 C7 s4 s9 q8 s8 then
 iOr .u32
 (iOr .u32
 (iOr .u32
 (iOr .u32 (iOr .u32 (E2 q7) (iShl .u32 (F2 q7) 12)) (iShl .u32 (g8 .u32 s4) 15))
 (iShl .u32 (g8 .u32 C7) 7))
 (iShl .u32 (iAnd .u32 (g8 .u32 q8) 63) 20))
 (iShl .u32 (K9 q7) 25)
 else
 iOr .u32
 (iOr .u32
 (iOr .u32 (iOr .u32 (E2 q7) (iShl .u32 (F2 q7) 12)) (iShl .u32 (g8 .u32 s4) 15))
 (iShl .u32 (g8 .u32 C7) 7))
 (iShl .u32 (iAnd .u32 (g8 .u32 q8) 4095) 20)
def aB6 (q7 C7 s4 s9 q8 s8 : Int) : Bool :=
 bif !L9 q7 C7 s4 s9 q8 s8 then false else true
def ae4 (q7 C7 s4 s9 q8 s8 : Int) : Bool :=
 bif !L9 q7 C7 s4 s9 q8 s8 then false else bif iNe (S6 q7) 0 then true else M8 q7 C7 s4 s9 q8 s8
def W6 (q7 C7 s4 s9 q8 s8 : Int) : Bool :=
 bif !L9 q7 C7 s4 s9 q8 s8 then true
 else bif iNe (S6 q7) 0 then true else L1 q7 && M8 q7 C7 s4 s9 q8 s8
theorem aR3 (q7 C7 s4 s9 q8 s8 : Int)  : ae4 q7 C7 s4 s9 q8 s8  = aB6 q7 C7 s4 s9 q8 s8  := by
  unfold ae4
  first | (simp only [T2, M8, cS1, cS2, cS3, cS4, cS6, cS7]; done) | (simp only [T2, M8, cS1, cS2, cS3, cS4, cS6, cS7]; kernel_rfl)
def Q1 (q7 C7 s4 s9 q8 s8 : Int) : AV := .tup [.it .u32 (aC5 q7 C7 s4 s9 q8 s8), .bl (aB6 q7 C7 s4 s9 q8 s8)]
def ae6 (q7 C7 s4 s9 q8 s8 : Int) : AV := .tup [.it .u32 (aC5 q7 C7 s4 s9 q8 s8), .bl (ae4 q7 C7 s4 s9 q8 s8)]
theorem aR2 (q7 C7 s4 s9 q8 s8 : Int) : ae6 q7 C7 s4 s9 q8 s8 = Q1 q7 C7 s4 s9 q8 s8 := by
  unfold ae6 Q1
  simp only [aR3]
def sallyportref3_EncodeA (g : Nat → AV) : AV := Q1 (((g 0).fld 0).num) (((g 0).fld 1).num) (((g 0).fld 2).num) (((g 0).fld 3).num) (((g 0).fld 4).num) (((g 0).fld 5).num)
def sallyportref3_EncodeB (g : Nat → AV) : Bool := W6 (((g 0).fld 0).num) (((g 0).fld 1).num) (((g 0).fld 2).num) (((g 0).fld 3).num) (((g 0).fld 4).num) (((g 0).fld 5).num)
theorem bl8 (g : Nat → AV) : pO T91 100 false Tryz.f49 (r7 [sh1Q] 0 g) = some (sallyportref3_EncodeB g, sallyportref3_EncodeA g) := (by kernel_rfl : _ = some (sallyportref3_EncodeB g, ae6 (((g 0).fld 0).num) (((g 0).fld 1).num) (((g 0).fld 2).num) (((g 0).fld 3).num) (((g 0).fld 4).num) (((g 0).fld 5).num))).trans (by rw [aR2]; rfl)
theorem be6 : Plain Tryz.prog 49 Tryz.f49 := ⟨Tryz.func49, of_decide_eq_true (by kernel_rfl)⟩
theorem bm3 (q7 C7 s4 s9 q8 s8 : Int) : W6 q7 C7 s4 s9 q8 s8 = true := by
  unfold W6
  cases h : L9 q7 C7 s4 s9 q8 s8 with
  | false => rfl
  | true =>
    rw [rcode_g (ris_op h)]
    unfold M8
    simp [cS1]
def row49Q : List AV → Option (Option Bool × AV) := rowF [sh1Q] none sallyportref3_EncodeA
theorem bi9 : D1 Tryz.prog 49 row49Q := s3 fun g => p6 mix A7 T91_ok (o9 mix A7 T91_ok D5 (fun _ h => o5 p8 h) 8) be6 (fun c _ => m7 c) (bl8 g) (bm3 ..)
def T49 : List Row := (49, row49Q) :: T91
theorem T49_ok : r0 Tryz.prog (m5 T49) := m8 bi9 T91_ok
def bg8 (q7 C7 s4 s9 q8 s8 : Int) : Bool :=
 bif bif bif iEq q7 54 then true else iEq q7 57 then true else iNe s4 0 then true else iNe q8 0
def aC8 (q7 C7 s4 s9 q8 s8 : Int) : Bool :=
 true
def ah4 (q7 C7 s4 s9 q8 s8 : Int) : AV := .bl (bg8 q7 C7 s4 s9 q8 s8)
def sallyportref8_WritesA (g : Nat → AV) : AV := ah4 (((g 0).fld 0).num) (((g 0).fld 1).num) (((g 0).fld 2).num) (((g 0).fld 3).num) (((g 0).fld 4).num) (((g 0).fld 5).num)
def sallyportref8_WritesB (g : Nat → AV) : Bool := aC8 (((g 0).fld 0).num) (((g 0).fld 1).num) (((g 0).fld 2).num) (((g 0).fld 3).num) (((g 0).fld 4).num) (((g 0).fld 5).num)
theorem bf7 (g : Nat → AV) : pO T49 100 false Tryz.f128 (r7 [sh1Q] 0 g) = some (sallyportref8_WritesB g, sallyportref8_WritesA g) := by kernel_rfl
theorem bh8 : Plain Tryz.prog 128 Tryz.f128 := ⟨Tryz.func128, of_decide_eq_true (by kernel_rfl)⟩
theorem bm1 (q7 C7 s4 s9 q8 s8 : Int) : aC8 q7 C7 s4 s9 q8 s8 = true := rfl
def row128Q : List AV → Option (Option Bool × AV) := rowF [sh1Q] none sallyportref8_WritesA
theorem bc7 : D1 Tryz.prog 128 row128Q := s3 fun g => p6 mix A7 T49_ok (o9 mix A7 T49_ok D5 (fun _ h => o5 p8 h) 8) bh8 (fun c _ => m7 c) (bf7 g) (bm1 ..)
def T128 : List Row := (128, row128Q) :: T49
theorem dp0 : r0 Tryz.prog (m5 T128) := m8 bc7 T49_ok
def au5 (a0 : Int) : Int :=
 bif iEq a0 256 then iAdd .i64 a0 256
 else
 bif iEq a0 260 then iAdd .i64 a0 256
 else
 bif iEq a0 261 then iAdd .i64 a0 256
 else
 bif iEq a0 320 then iAdd .i64 a0 256
 else
 bif iEq a0 321 then iAdd .i64 a0 256
 else bif iEq a0 322 then iAdd .i64 a0 256 else bif iEq a0 323 then iAdd .i64 a0 256 else bif iEq a0 384 then iAdd .i64 a0 256 else a0
def Z2 (a0 : Int) : Int :=
 bif iEq a0 256 then bif iEq a0 256 then iAdd .i64 a0 256 else a0
 else
 bif iEq a0 260 then bif iEq a0 260 then iAdd .i64 a0 256 else a0
 else
 bif iEq a0 261 then bif iEq a0 261 then iAdd .i64 a0 256 else a0
 else
 bif iEq a0 320 then bif iEq a0 320 then iAdd .i64 a0 256 else a0
 else
 bif iEq a0 321 then bif iEq a0 321 then iAdd .i64 a0 256 else a0
 else
 bif iEq a0 322 then bif iEq a0 322 then iAdd .i64 a0 256 else a0
 else bif iEq a0 323 then bif iEq a0 323 then iAdd .i64 a0 256 else a0 else bif iEq a0 384 then iAdd .i64 a0 256 else a0
def S9 (a0 : Int) : Bool :=
 bif iEq a0 256 then bif iEq a0 256 then true else true
 else
 bif iEq a0 260 then bif iEq a0 260 then true else true
 else
 bif iEq a0 261 then bif iEq a0 261 then true else true
 else
 bif iEq a0 320 then bif iEq a0 320 then true else true
 else
 bif iEq a0 321 then bif iEq a0 321 then true else true
 else bif iEq a0 322 then bif iEq a0 322 then true else true else bif iEq a0 323 then bif iEq a0 323 then true else true else bif iEq a0 384 then true else true
theorem aK2 (a0 : Int)  : Z2 a0  = au5 a0  := by
  unfold Z2
  first | (simp only [cS1, cS2, cS3, cS4, cS6, cS7]; done) | (simp only [cS1, cS2, cS3, cS4, cS6, cS7]; kernel_rfl)
def M6 (a0 : Int) : AV := .it .i64 (au5 a0)
def Z3 (a0 : Int) : AV := .it .i64 (Z2 a0)
theorem aK1 (a0 : Int) : Z3 a0 = M6 a0 := by
  unfold Z3 M6
  simp only [aK2]
def sallyportref8_RedirectA (g : Nat → AV) : AV := M6 ((g 0).num)
def sallyportref8_RedirectB (g : Nat → AV) : Bool := S9 ((g 0).num)
theorem aX9 (g : Nat → AV) : pO T128 100 false Tryz.f129 (r7 [(.int .i64)] 0 g) = some (sallyportref8_RedirectB g, sallyportref8_RedirectA g) := (by kernel_rfl : _ = some (sallyportref8_RedirectB g, Z3 ((g 0).num))).trans (by rw [aK1]; rfl)
theorem aY8 : Plain Tryz.prog 129 Tryz.f129 := ⟨Tryz.func129, of_decide_eq_true (by kernel_rfl)⟩
theorem aZ2 (a0 : Int) : S9 a0 = true := by
  unfold S9
  simp only [cS1, cS2, cS3, cS4, cS6, cS7]
def row129Q : List AV → Option (Option Bool × AV) := rowF [(.int .i64)] none sallyportref8_RedirectA
theorem ba3 : D1 Tryz.prog 129 row129Q := s3 fun g => p6 mix A7 dp0 (o9 mix A7 dp0 D5 (fun _ h => o5 p8 h) 8) aY8 (fun c _ => m7 c) (aX9 g) (aZ2 ..)
def T129 : List Row := (129, row129Q) :: T128
theorem T129_ok : r0 Tryz.prog (m5 T129) := m8 ba3 dp0
end
end Go.Proofs.YtbkdnehnhbaieaaGreat.PV
namespace Go.Ev
section
variable {P : Program} {ρ : Ren}
def getS (fr : Fr) : List Nat → Option (List AV)
  | [] => some []
  | t :: r => match fr.get t, getS fr r with
    | some v, some l => some (v :: l)
    | _, _ => none
def getM (m : Mem) : List Nat → Option (List AV)
  | [] => some []
  | i :: r => match m.get i, getM m r with
    | some (.cells v true), some l => some (v :: l)
    | _, _ => none
def putS : List Nat → List AV → Tr AV → Tr AV
  | t :: ts, v :: l, x => putS ts l (x.set (some v) t)
  | _, _, x => x
def putM : List Nat → List AV → Tr Blk → Tr Blk
  | i :: ts, v :: l, x => putM ts l (x.set (some (.cells v true)) i)
  | _, _, x => x
def mkF (n : Nat) (ts : List Nat) (l : List AV) : Fr := { n, t := putS ts l (Tr.mk 10) }
def mkM (n : Nat) (ts : List Nat) (l : List AV) : Mem := { n, t := putM ts l (Tr.mk 12) }
def exNo : Exit → Option Int
  | .normal => some 0
  | .ret => some 1
  | .exit id => some ((id : Int) + 2)
  | _ => none
def ptsAt (fr : Fr) : List (Nat × Nat × Sh) → Bool
  | [] => true
  | (t, id, s) :: r => (match fr.get t with | some (.pt i [] s') => Nat.beq i id && s'.beq s | _ => false) && ptsAt fr r
def ptsT (ps : List (Nat × Nat × Sh)) : List Nat := ps.map (·.1)
def ptsV (ps : List (Nat × Nat × Sh)) : List AV := ps.map fun x => .pt x.2.1 [] x.2.2
theorem bZ2 {fr : Fr} : ∀ {ts : List Nat} {l : List AV}, getS fr ts = some l → l.length = ts.length
  | [], l, h => by cases h; rfl
  | t :: ts, l, h => by
    simp only [getS] at h
    split at h <;> try (cases h; done)
    rename_i v l' h1 h2
    cases h
    simp [bZ2 h2]
theorem dA4 {e e' : Exit} {c : Int} (h : exNo e = some c) (h' : exNo e' = some c) : e = e' := by
  cases e <;> cases e' <;> simp only [exNo, Option.some.injEq, reduceCtorEq] at h h' <;> first | rfl | (exfalso; omega) | (congr 1; omega)
theorem dI1 : ∀ (ts : List Nat) (l : List AV) (x : Tr AV) (t : Nat) (v : AV), (putS ts l x).get t = some v → (∃ k : Nat, ts[k]? = some t ∧ l[k]? = some v) ∨ x.get t = some v
  | [], _, x, t, v, h => .inr h
  | _ :: _, [], x, t, v, h => .inr h
  | u :: ts, w :: l, x, t, v, h => by
    simp only [putS] at h
    rcases dI1 ts l _ t v h with ⟨k, h1, h2⟩ | h1
    · exact .inl ⟨k + 1, by simpa using h1, by simpa using h2⟩
    · rcases Tr.get_set _ x u t v h1 with ⟨rfl, h2⟩ | ⟨_, h2⟩
      · exact .inl ⟨0, rfl, by simpa using h2⟩
      · exact .inr h2
theorem dA9 : ∀ (ts : List Nat) (l : List AV) (x : Tr Blk) (t : Nat) (b : Blk), (putM ts l x).get t = some b → (∃ (k : Nat) (v : AV), ts[k]? = some t ∧ l[k]? = some v ∧ b = .cells v true) ∨ x.get t = some b
  | [], _, x, t, v, h => .inr h
  | _ :: _, [], x, t, v, h => .inr h
  | u :: ts, w :: l, x, t, b, h => by
    simp only [putM] at h
    rcases dA9 ts l _ t b h with ⟨k, v, h1, h2, h3⟩ | h1
    · exact .inl ⟨k + 1, v, by simpa using h1, by simpa using h2, h3⟩
    · rcases Tr.get_set _ x u t b h1 with ⟨rfl, h2⟩ | ⟨_, h2⟩
      · exact .inl ⟨0, w, rfl, rfl, (Option.some.inj h2).symm⟩
      · exact .inr h2
theorem dw9 {fr : Fr} : ∀ {ts : List Nat} {l : List AV}, getS fr ts = some l → ∀ (k t : Nat) (v : AV), ts[k]? = some t → l[k]? = some v → fr.get t = some v
  | [], l, h, k, t, v, h1, h2 => by simp at h1
  | u :: ts, l, h, k, t, v, h1, h2 => by
    simp only [getS] at h
    split at h <;> try (cases h; done)
    rename_i w l' g1 g2
    cases h
    cases k with
    | zero => simp at h1 h2; subst h1; subst h2; exact g1
    | succ k => simp at h1 h2; exact dw9 g2 k t v h1 h2
theorem getM_at {m : Mem} : ∀ {ts : List Nat} {l : List AV}, getM m ts = some l → ∀ (k t : Nat) (v : AV), ts[k]? = some t → l[k]? = some v → m.get t = some (.cells v true)
  | [], l, h, k, t, v, h1, h2 => by simp at h1
  | u :: ts, l, h, k, t, v, h1, h2 => by
    simp only [getM] at h
    split at h <;> try (cases h; done)
    rename_i w l' g1 g2
    cases h
    cases k with
    | zero => simp at h1 h2; subst h1; subst h2; exact g1
    | succ k => simp at h1 h2; exact getM_at g2 k t v h1 h2
theorem dE8 {fr : Fr} : ∀ {ps : List (Nat × Nat × Sh)}, ptsAt fr ps = true → ∀ x ∈ ps, fr.get x.1 = some (.pt x.2.1 [] x.2.2)
  | [], _, x, hx => by cases hx
  | (t, id, s) :: ps, h, x, hx => by
    simp only [ptsAt, Bool.and_eq_true] at h
    rcases List.mem_cons.1 hx with rfl | hx
    · have := h.1
      split at this <;> try (cases this; done)
      rename_i i s' hg
      simp only [Bool.and_eq_true, Nat.beq_eq] at this
      rw [hg, this.1, Sh.beq_eq _ _ this.2]
    · exact dE8 h.2 x hx
def Ren.by (ρ : Ren) (τ : Nat → Nat) (n : Nat) : Ren :=
  { n, dom := fun i => i < n ∧ ρ.dom (τ i), bb := fun i => ρ.bb (τ i), bo := fun i => ρ.bo (τ i), sh := fun i => ρ.sh (τ i), room := fun i => ρ.room (τ i), ft := fun i => ρ.ft (τ i) }
def Like (n : Nat) (τ : Nat → Nat) (v v' : AV) : Prop :=
  (plain v = true ∧ v = v') ∨ (∃ id p r, v = .pt id p r ∧ v' = .pt (τ id) p r ∧ id < n) ∨ (∃ id p lo len tip, v = .sl id p lo len tip ∧ v' = .sl (τ id) p lo len tip ∧ id < n)
theorem Like.ok {n : Nat} {τ : Nat → Nat} {v v' : AV} (h : Like n τ v v') {rv : Value} (hv : VR3 ρ v' rv) : VR3 (ρ.by τ n) v rv := by
  rcases h with ⟨h1, rfl⟩ | ⟨id, p, r, rfl, rfl, h1⟩ | ⟨id, p, lo, len, tip, rfl, rfl, h1⟩
  · exact ao0 h1 hv
  · obtain ⟨g1, g2⟩ := hv
    exact ⟨⟨h1, g1⟩, g2⟩
  · obtain ⟨g1, g2⟩ := hv
    exact ⟨⟨h1, g1⟩, g2⟩
theorem Like.noGd {n : Nat} {τ : Nat → Nat} {v v' : AV} (h : Like n τ v v') : (∀ t w u, v ≠ .gd t w u) ∧ ∀ t w u, v' ≠ .gd t w u := by
  rcases h with ⟨h1, rfl⟩ | ⟨id, p, r, rfl, rfl, h1⟩ | ⟨id, p, lo, len, tip, rfl, rfl, h1⟩
  · constructor <;> (intro t w u e; subst e; cases h1)
  · constructor <;> (intro t w u e; cases e)
  · constructor <;> (intro t w u e; cases e)
def Back (n0 : Nat) (fr' : Fr) (m' : Mem) (fr : Fr) (m : Mem) : Prop := ∀ ρ A w a, FR ρ fr' a → Rep ρ A m' w →
  ∃ ρ2, (∀ ρ0 : Ren, ρ0.n = n0 → (∀ i, ρ0.dom i → i < ρ0.n) → ρ0.ext ρ → ρ0.ext ρ2) ∧ FR ρ2 fr a ∧ Rep ρ2 A m w
theorem Back.of {n0 n2 : Nat} {τ : Nat → Nat} {fr' fr : Fr} {m' m : Mem} (hτ : ∀ i, i < n0 → τ i = i) (hn : n0 ≤ n2) (hnF : fr.n = fr'.n)
    (hF : ∀ t v, fr.get t = some v → ∃ v', fr'.get t = some v' ∧ Like n2 τ v v')
    (hM : ∀ i b, m.get i = some b → i < n2 ∧ ∃ t, b = .cells t true ∧ t.wf ∧ plain t = true ∧ m'.get (τ i) = some (.cells t true))
    (hinj : ∀ i j b b', m.get i = some b → m.get j = some b' → i ≠ j → τ i ≠ τ j) (hmn : m.n = n2) : Back n0 fr' m' fr m := fun ρ A w a hf hR => by
  refine ⟨ρ.by τ n2, fun ρ0 h0 hlt he => ⟨⟨fun i hi => ?_, fun i hi => ?_, fun i hi => ?_, fun i hi => ?_, fun i hi => ?_, fun i hi => ?_⟩, by rw [h0]; exact hn, fun i hi h => ?_⟩, ⟨hf.size.trans hnF.symm, fun t v hv => ?_⟩, ?_⟩
  · have := hlt i hi
    refine ⟨by omega, ?_⟩
    rw [hτ i (by omega)]; exact he.dom i hi
  · have := hlt i hi
    show ρ.bb (τ i) = _
    rw [hτ i (by omega)]; exact he.bb i hi
  · have := hlt i hi
    show ρ.bo (τ i) = _
    rw [hτ i (by omega)]; exact he.bo i hi
  · have := hlt i hi
    show ρ.sh (τ i) = _
    rw [hτ i (by omega)]; exact he.sh i hi
  · have := hlt i hi
    show ρ.room (τ i) = _
    rw [hτ i (by omega)]; exact he.room i hi
  · have := hlt i hi
    show ρ.ft (τ i) = _
    rw [hτ i (by omega)]; exact he.ft i hi
  · have h2 := hi.2
    rw [hτ i (by omega)] at h2
    exact he.old i h2 h
  · obtain ⟨v', h1, h2⟩ := hF t v hv
    have h3 := hf.get t v' h1
    have h4 := h2.ok (bj7 h2.noGd.2 h3)
    cases v <;> first | exact h4 | exact absurd rfl (h2.noGd.1 _ _ _)
  · refine ⟨hmn.symm, fun i hi => hi.1, fun i b hb => ?_, fun i j bi bj hi hj hij hw => ?_, hR.new, hR.tab⟩
    · obtain ⟨h1, t, rfl, hwf, h2, h3⟩ := hM i b hb
      obtain ⟨g1, g2, g3, g4, g5, g6⟩ := hR.blk _ _ h3
      refine ⟨⟨h1, g1⟩, g2, g3, g4, fun r v hv => ?_, g6⟩
      obtain ⟨rv, k1, k2⟩ := g5 r v hv
      exact ⟨rv, k1, aG0 (ax7 t hwf h2 v (List.mem_of_getElem? hv)) k2⟩
    · obtain ⟨_, t, rfl, _, _, h3⟩ := hM i bi hi
      obtain ⟨_, t', rfl, _, _, h3'⟩ := hM j bj hj
      exact hR.sep _ _ _ _ h3 h3' (hinj i j _ _ hi hj hij) rfl
inductive Chain (P : Program) (n0 : Nat) (b : Code) : Nat → Fr → Mem → Exit → Fr → Mem → Prop
  | last {fr m e fr' m' fr2 m2 N} : Runs P b fr m e fr' m' → e ≠ .normal → Back n0 fr' m' fr2 m2 → Chain P n0 b (N + 1) fr m e fr2 m2
  | step {fr m fr' m' fr1 m1 e fr2 m2 N} : Runs P b fr m .normal fr' m' → Back n0 fr' m' fr1 m1 → Chain P n0 b N fr1 m1 e fr2 m2 → Chain P n0 b (N + 1) fr m e fr2 m2
theorem Chain.rounds {n0 : Nat} {b : Code} {N : Nat} {fr : Fr} {m : Mem} {e : Exit} {fr2 : Fr} {m2 : Mem} (h : Chain P n0 b N fr m e fr2 m2) {ρ0 : Ren} (h0 : ρ0.n = n0) (hlt : ∀ i, ρ0.dom i → i < ρ0.n) {A : Nat → Prop} {w0 : World} {a0 : Act} :
    ∀ (ρ : Ren) (w : World) (a : Act), ρ0.ext ρ → FR ρ fr a → Rep ρ A m w → Upd A w0 w → a.defers = a0.defers → Code.rounds P b (Post ρ0 A w0 a0 e fr2 m2) N a w := by
  induction h with
  | last hr hne hb =>
    intro ρ w a he hf hR hU hd
    refine wp_mono (hr ρ A w a hf hR) fun e' a' w' ⟨he', hd', ρ', q1, q2, q3, q4⟩ => ?_
    subst he'
    obtain ⟨ρ2, k1, k2, k3⟩ := hb ρ' A w' a' q2 q3
    exact Exit.then_post hne ⟨rfl, hd'.trans hd, ρ2, k1 ρ0 h0 hlt (he.trans q1), k2, k3, hU.trans q4⟩
  | step hr hb _ ih =>
    intro ρ w a he hf hR hU hd
    refine wp_mono (hr ρ A w a hf hR) fun e' a' w' ⟨he', hd', ρ', q1, q2, q3, q4⟩ => ?_
    subst he'
    obtain ⟨ρ2, k1, k2, k3⟩ := hb ρ' A w' a' q2 q3
    exact ih ρ2 w' a' (k1 ρ0 h0 hlt (he.trans q1)) k2 k3 (hU.trans q4) (hd'.trans hd)
theorem Chain.runs {n0 : Nat} {b : Code} {N : Nat} {fr : Fr} {m : Mem} {e : Exit} {fr2 : Fr} {m2 : Mem} (h : Chain P n0 b N fr m e fr2 m2) {fr0 : Fr} {m0 : Mem} (h0 : m0.n = n0) (hb : Back n0 fr0 m0 fr m) : Runs P (.loop b) fr0 m0 e fr2 m2 :=
  fun ρ A w a hf hR => by
    obtain ⟨ρ1, k1, k2, k3⟩ := hb ρ A w a hf hR
    exact wp_loop_rounds N (h.rounds (hR.n.trans h0) hR.lt ρ1 w a (k1 ρ (hR.n.trans h0) hR.lt (Ren.ext.refl ρ)) k2 k3 (Upd.refl A w) rfl)
def bx0 (id : Nat) : Exit → Exit
  | .exit id' => bif Nat.beq id' id then .normal else .exit id'
  | e => e
theorem Runs.block {id : Nat} {b : Code} {fr : Fr} {m : Mem} {e : Exit} {fr' : Fr} {m' : Mem} (h : Runs P b fr m e fr' m') : Runs P (.block id b) fr m (bx0 id e) fr' m' := fun ρ A w a hf hR => by
  refine wp_block (wp_mono (h ρ A w a hf hR) fun e' a' w' hq => ?_)
  obtain ⟨he, hq⟩ := hq
  subst he
  cases e' with
  | exit id' =>
    cases hid : Nat.beq id' id with
    | true =>
      have := Nat.eq_of_beq_eq_true hid
      subst this
      rw [show bx0 id' (.exit id') = .normal by simp [bx0]]
      exact bR2 (Q := fun e' a' w' => e' = .normal ∧ _) rfl ⟨rfl, hq⟩
    | false =>
      have hne := Nat.ne_of_beq_eq_false hid
      rw [show bx0 id (.exit id') = .exit id' by simp [bx0, hid]]
      exact bG3 (Q := fun e a w => e = .exit id' ∧ _) hne ⟨rfl, hq⟩
  | _ => exact ⟨rfl, hq⟩
def blks : Code → List (Nat × Code)
  | .seq a b => blks a ++ blks b
  | .cond _ a b => blks a ++ blks b
  | .block id b => (id, b) :: blks b
  | .loop b => blks b
  | .scope b => blks b
  | _ => []
theorem au9 {ov : Ov} : ∀ (c : Code), (∀ x ∈ blks c, ∀ fr m k r, NoGd fr → ov x.1 fr m k = some (some r) → Om.fine r → ∃ e fr' m', k e fr' m' = some r ∧ NoGd fr' ∧ Runs P (.block x.1 x.2) fr m e fr' m') → OvOk P ov c
  | .seq a b, h => ⟨au9 a fun x hx => h x (List.mem_append_left _ hx), au9 b fun x hx => h x (List.mem_append_right _ hx)⟩
  | .cond _ a b, h => ⟨au9 a fun x hx => h x (List.mem_append_left _ hx), au9 b fun x hx => h x (List.mem_append_right _ hx)⟩
  | .block id b, h => ⟨fun fr m k r => h (id, b) List.mem_cons_self fr m k r, au9 b fun x hx => h x (List.mem_cons_of_mem _ hx)⟩
  | .loop b, h => au9 (ov := ov) b h
  | .scope b, h => au9 (ov := ov) b h
  | .skip, _ => trivial
  | .region _ _ _, _ => trivial
  | .rangeFunc _ _ _ _, _ => trivial
  | .exit _, _ => trivial
  | .label _, _ => trivial
  | .goto _, _ => trivial
  | .ret, _ => trivial
  | .refuse _, _ => trivial
def cM8 (c : Code) (id : Nat) : Code := match (blks c).find? fun x => Nat.beq x.1 id with | some x => x.2 | none => .skip
def inLoop : Code → Code
  | .loop b => b
  | .seq .skip b => inLoop b
  | c => c
theorem cg6 {n : Nat} {ts : List Nat} {l : List AV} {t : Nat} {v : AV} (h : (mkF n ts l).get t = some v) : ∃ k : Nat, ts[k]? = some t ∧ l[k]? = some v := by
  rcases dI1 ts l _ t v h with h | h
  · exact h
  · rw [Tr.get_mk] at h; cases h
theorem mkM_get {n : Nat} {ts : List Nat} {l : List AV} {t : Nat} {b : Blk} (h : (mkM n ts l).get t = some b) : ∃ (k : Nat) (v : AV), ts[k]? = some t ∧ l[k]? = some v ∧ b = .cells v true := by
  rcases dA9 ts l _ t b h with h | h
  · exact h
  · rw [Mem.get] at *; rw [Tr.get_mk] at h; cases h
theorem Back.plain {n0 : Nat} {fr' : Fr} {m' : Mem} {ts : List Nat} {ps : List (Nat × Nat × Sh)} {ids : List Nat} {l l' : List AV} {n : Nat} (hn : fr'.n = n) (h1 : getS fr' ts = some l) (h2 : ptsAt fr' ps = true) (h3 : getM m' ids = some l')
    (hl : S4 l = true) (hl' : S4 l' = true) (hw' : AV.wfs l') (hps : ∀ x ∈ ps, x.2.1 < n0) (hids : ∀ i ∈ ids, i < n0) :
    Back n0 fr' m' (mkF n (ts ++ ptsT ps) (l ++ ptsV ps)) (mkM n0 ids l') := by
  have hlen := bZ2 h1
  refine Back.of (n2 := n0) (τ := id) (fun _ _ => rfl) (Nat.le_refl _) hn.symm (fun t v hv => ?_) (fun i b hb => ?_) (fun i j b b' _ _ hij => hij) rfl
  · obtain ⟨k, k1, k2⟩ := cg6 hv
    rcases Nat.lt_or_ge k ts.length with hk | hk
    · rw [List.getElem?_append_left hk] at k1
      rw [List.getElem?_append_left (by omega)] at k2
      exact ⟨v, dw9 h1 k t v k1 k2, .inl ⟨aA3 hl v (List.mem_of_getElem? k2), rfl⟩⟩
    · rw [List.getElem?_append_right hk] at k1
      rw [List.getElem?_append_right (by omega), hlen] at k2
      simp only [ptsT, ptsV, List.getElem?_map, Option.map_eq_some_iff] at k1 k2
      obtain ⟨x, g1, rfl⟩ := k1
      obtain ⟨y, g2, rfl⟩ := k2
      rw [g1] at g2; cases g2
      have hx := List.mem_of_getElem? g1
      exact ⟨_, dE8 h2 x hx, .inr (.inl ⟨_, _, _, rfl, rfl, hps x hx⟩)⟩
  · obtain ⟨k, v, k1, k2, rfl⟩ := mkM_get hb
    refine ⟨hids i (List.mem_of_getElem? k1), v, rfl, (AV.wfs_iff l').1 hw' v (List.mem_of_getElem? k2), aA3 hl' v (List.mem_of_getElem? k2), getM_at h3 k i v k1 k2⟩
structure Lp where
  n : Nat
  n0 : Nat
  ts : List Nat
  ps : List (Nat × Nat × Sh)
  ids : List Nat
def Lp.F (L : Lp) (l : List AV) : Fr := mkF L.n (L.ts ++ ptsT L.ps) (l.take L.ts.length ++ ptsV L.ps)
def Lp.M (L : Lp) (l : List AV) : Mem := mkM L.n0 L.ids (l.drop L.ts.length)
def Lp.wf (L : Lp) : Bool := (L.ps.all fun x => Nat.blt x.2.1 L.n0) && L.ids.all fun i => Nat.blt i L.n0
theorem mkF_NoGd {n : Nat} {ts : List Nat} {ps : List (Nat × Nat × Sh)} {l : List AV} (hl : S4 l = true) : NoGd (mkF n (ts ++ ptsT ps) (l ++ ptsV ps)) := fun t t' w v h => by
  obtain ⟨k, _, k2⟩ := cg6 h
  have hm := List.mem_of_getElem? k2
  rcases List.mem_append.1 hm with hm | hm
  · exact absurd (aA3 hl _ hm) (by simp [plain])
  · simp only [ptsV, List.mem_map] at hm
    obtain ⟨_, _, h⟩ := hm
    cases h
theorem bO1 {l m : List AV} (h : S4 l = true) (hm : ∀ a ∈ m, a ∈ l) : S4 m = true := by
  induction m with
  | nil => rfl
  | cons a m ih =>
    simp only [S4, Bool.and_eq_true]
    exact ⟨aA3 h a (hm a List.mem_cons_self), ih fun b hb => hm b (List.mem_cons_of_mem _ hb)⟩
theorem Lp.back {L : Lp} (hL : L.wf = true) {fr : Fr} {m : Mem} {l l' : List AV} (hn : fr.n = L.n) (h1 : getS fr L.ts = some l) (h2 : ptsAt fr L.ps = true) (h3 : getM m L.ids = some l')
    (hp : S4 (l ++ l') = true) (hw : AV.wfs (l ++ l')) : Back L.n0 fr m (L.F (l ++ l')) (L.M (l ++ l')) := by
  have hlen := bZ2 h1
  simp only [Lp.wf, Bool.and_eq_true, List.all_eq_true, Nat.blt_eq] at hL
  unfold Lp.F Lp.M
  rw [← hlen, List.take_left, List.drop_left]
  exact Back.plain hn h1 h2 h3 (bO1 hp fun a ha => List.mem_append_left _ ha) (bO1 hp fun a ha => List.mem_append_right _ ha)
    ((AV.wfs_iff _).2 fun a ha => (AV.wfs_iff _).1 hw a (List.mem_append_right _ ha)) (fun x hx => hL.1 x hx) (fun i hi => hL.2 i hi)
theorem exNo_zero {e : Exit} (h : exNo e = some 0) : e = .normal := by
  cases e <;> simp only [exNo, Option.some.injEq, reduceCtorEq] at h <;> first | rfl | (exfalso; omega)
theorem exNo_ne {e : Exit} {c : Int} (h : exNo e = some c) (hc : c ≠ 0) : e ≠ .normal := by
  rintro rfl
  cases h
  exact hc rfl
theorem Lp.noGd {L : Lp} {r : List AV} (hr : S4 r = true) : NoGd (L.F r) := mkF_NoGd (bO1 hr fun a ha => List.mem_of_mem_take ha)
end
end Go.Ev
namespace Go.Ev
end Go.Ev
namespace Go.Ev
section
variable {P : Program} {ρ : Ren}
def Small (P : Program) (f : FuncId) (args : List AV) (m : Mem) (v : AV) (m' : Mem) : Prop :=
  ∀ ρ A w vals, Rep ρ A m w → All2 (VR3 ρ) args vals → Done P ρ A w (callFunc f vals.toArray) v m'
def emb (τ : List Nat) (N i : Nat) : Nat := bif Nat.blt i τ.length then τ.getD i 0 else N + (i - τ.length)
theorem emb_lt {τ : List Nat} {N i : Nat} (h : i < τ.length) : emb τ N i = τ.getD i 0 := by
  unfold emb
  have : Nat.blt i τ.length = true := by rw [Nat.blt_eq]; exact h
  rw [this, cond_true]
theorem emb_ge {τ : List Nat} {N i : Nat} (h : τ.length ≤ i) : emb τ N i = N + (i - τ.length) := by
  unfold emb
  have : Nat.blt i τ.length = false := by
    rw [← Bool.not_eq_true, Nat.blt_eq]; omega
  rw [this, cond_false]
mutual

def renA (g : Nat → Nat) : AV → AV
  | .pt id p r => .pt (g id) p r
  | .sl id p lo len tip => .sl (g id) p lo len tip
  | .mp id => .mp (g id)
  | .fn f caps => .fn f (aR5 g caps)
  | .agg l => .agg (aR5 g l)
  | .arr n s f => bif s.hasRef then .arr n s (fun i => renA g (f i)) else .arr n s f
  | .un => .un
  | .bl x => .bl x
  | .it k n => .it k n
  | .st l => .st l
  | .nl => .nl
  | .nsl => .nsl
  | .nfn => .nfn
  | .nmp => .nmp
  | .nif => .nif
  | .tup l => .tup l
  | .gd t w v => .gd t w v
def aR5 (g : Nat → Nat) : List AV → List AV
  | [] => []
  | a :: l => renA g a :: aR5 g l
end
mutual

def idsB (n : Nat) : AV → Bool
  | .pt id _ _ => Nat.blt id n
  | .sl id _ _ _ _ => Nat.blt id n
  | .mp id => Nat.blt id n
  | .fn _ caps => bc0 n caps
  | .agg l => bc0 n l
  | .arr _ s _ => !s.hasRef
  | .un => true
  | .bl _ => true
  | .it _ _ => true
  | .st _ => true
  | .nl => true
  | .nsl => true
  | .nfn => true
  | .nmp => true
  | .nif => true
  | .tup _ => false
  | .gd _ _ _ => false
def bc0 (n : Nat) : List AV → Bool
  | [] => true
  | a :: l => idsB n a && bc0 n l
end
mutual
theorem ay3 (g : Nat → Nat) : ∀ (a : AV), (renA g a).shape = a.shape
  | .agg l => by simp [renA, AV.shape, bS4 g l]
  | .arr n s f => by unfold renA; cases s.hasRef <;> rfl
  | .pt _ _ _ => rfl
  | .sl _ _ _ _ _ => rfl
  | .mp _ => rfl
  | .fn _ _ => rfl
  | .un => rfl
  | .bl _ => rfl
  | .it _ _ => rfl
  | .st _ => rfl
  | .nl => rfl
  | .nsl => rfl
  | .nfn => rfl
  | .nmp => rfl
  | .nif => rfl
  | .tup _ => rfl
  | .gd _ _ _ => rfl
theorem bS4 (g : Nat → Nat) : ∀ (l : List AV), AV.shapes (aR5 g l) = AV.shapes l
  | [] => rfl
  | a :: l => by simp [aR5, AV.shapes, ay3 g a, bS4 g l]
end
mutual
theorem cE7 (g : Nat → Nat) : ∀ (a : AV), a.wf → (renA g a).wf
  | .agg l, h => by simp only [renA, AV.wf]; exact dE9 g l h
  | .arr n s f, h => by
    unfold renA
    cases s.hasRef with
    | false => exact h
    | true => exact fun i => ⟨cE7 g (f i) (h i).1, by rw [ay3]; exact (h i).2⟩
  | .pt _ _ _, _ => trivial
  | .sl _ _ _ _ _, _ => trivial
  | .mp _, _ => trivial
  | .fn _ _, _ => trivial
  | .un, _ => trivial
  | .bl _, _ => trivial
  | .it _ _, _ => trivial
  | .st _, _ => trivial
  | .nl, _ => trivial
  | .nsl, _ => trivial
  | .nfn, _ => trivial
  | .nmp, _ => trivial
  | .nif, _ => trivial
  | .tup _, _ => trivial
  | .gd _ _ _, _ => trivial
theorem dE9 (g : Nat → Nat) : ∀ (l : List AV), AV.wfs l → AV.wfs (aR5 g l)
  | [], _ => trivial
  | a :: l, h => ⟨cE7 g a h.1, dE9 g l h.2⟩
end
mutual
theorem Z8 (g : Nat → Nat) : ∀ (a : AV), plain a = true → renA g a = a
  | .agg l, h => by simp only [renA]; rw [cl3 g l (by simpa [plain] using h)]
  | .arr n s f, h => by
    simp only [plain, Bool.not_eq_true'] at h
    unfold renA
    rw [h, cond_false]
  | .pt _ _ _, h => by cases h
  | .sl _ _ _ _ _, h => by cases h
  | .mp _, h => by cases h
  | .fn _ caps, h => by cases h
  | .un, _ => rfl
  | .bl _, _ => rfl
  | .it _ _, _ => rfl
  | .st _, _ => rfl
  | .nl, _ => rfl
  | .nsl, _ => rfl
  | .nfn, _ => rfl
  | .nmp, _ => rfl
  | .nif, _ => rfl
  | .tup _, _ => rfl
  | .gd _ _ _, _ => rfl
theorem cl3 (g : Nat → Nat) : ∀ (l : List AV), S4 l = true → aR5 g l = l
  | [], _ => rfl
  | a :: l, h => by
    simp only [S4, Bool.and_eq_true] at h
    simp only [aR5]
    rw [Z8 g a h.1, cl3 g l h.2]
end
mutual
theorem bh1 (g : Nat → Nat) : ∀ (a : AV), a.wf → (renA g a).flat = a.flat.map (renA g)
  | .agg l, h => by simp only [renA, AV.flat]; exact cd1 g l h
  | .arr n s f, h => by
    unfold renA
    cases hs : s.hasRef with
    | false =>
      rw [cond_false]
      have : ∀ x ∈ (AV.arr n s f).flat, renA g x = x := fun x hx => Z8 g x (aG7 (.arr n s f) h (by simp [AV.shape, Sh.hasRef, hs]) x hx)
      exact (List.map_id' _).symm.trans (List.map_congr_left fun x hx => (this x hx).symm)
    | true =>
      rw [cond_true]
      simp only [AV.flat]
      rw [List.map_flatMap]
      exact aB4 n _ _ fun i _ => bh1 g (f i) (h i).1
  | .pt _ _ _, _ => rfl
  | .sl _ _ _ _ _, _ => rfl
  | .mp _, _ => rfl
  | .fn _ _, _ => rfl
  | .un, _ => rfl
  | .bl _, _ => rfl
  | .it _ _, _ => rfl
  | .st _, _ => rfl
  | .nl, _ => rfl
  | .nsl, _ => rfl
  | .nfn, _ => rfl
  | .nmp, _ => rfl
  | .nif, _ => rfl
  | .tup _, _ => rfl
  | .gd _ _ _, _ => rfl
theorem cd1 (g : Nat → Nat) : ∀ (l : List AV), AV.wfs l → AV.flats (aR5 g l) = (AV.flats l).map (renA g)
  | [], _ => rfl
  | a :: l, h => by simp [aR5, AV.flats, bh1 g a h.1, cd1 g l h.2]
end
mutual
theorem cU7 {n : Nat} : ∀ (a : AV), a.wf → idsB n a = true → ∀ x ∈ a.flat, plain x = true ∨ idsB n x = true
  | .agg l, hw, h, x, hx => ch6 l hw (by simpa [idsB] using h) x hx
  | .arr k s f, hw, h, x, hx => by
    simp only [idsB, Bool.not_eq_true'] at h
    exact .inl (aG7 (.arr k s f) hw (by simp [AV.shape, Sh.hasRef, h]) x hx)
  | .pt _ _ _, _, h, x, hx => by simp [AV.flat] at hx; subst hx; exact .inr h
  | .sl _ _ _ _ _, _, h, x, hx => by simp [AV.flat] at hx; subst hx; exact .inr h
  | .mp _, _, h, x, hx => by simp [AV.flat] at hx; subst hx; exact .inr h
  | .fn _ _, _, h, x, hx => by simp [AV.flat] at hx; subst hx; exact .inr h
  | .un, _, h, x, hx => by simp [AV.flat] at hx; subst hx; exact .inr h
  | .bl _, _, h, x, hx => by simp [AV.flat] at hx; subst hx; exact .inr h
  | .it _ _, _, h, x, hx => by simp [AV.flat] at hx; subst hx; exact .inr h
  | .st _, _, h, x, hx => by simp [AV.flat] at hx; subst hx; exact .inr h
  | .nl, _, h, x, hx => by simp [AV.flat] at hx; subst hx; exact .inr h
  | .nsl, _, h, x, hx => by simp [AV.flat] at hx; subst hx; exact .inr h
  | .nfn, _, h, x, hx => by simp [AV.flat] at hx; subst hx; exact .inr h
  | .nmp, _, h, x, hx => by simp [AV.flat] at hx; subst hx; exact .inr h
  | .nif, _, h, x, hx => by simp [AV.flat] at hx; subst hx; exact .inr h
  | .tup _, _, h, x, hx => by cases h
  | .gd _ _ _, _, h, x, hx => by cases h
theorem ch6 {n : Nat} : ∀ (l : List AV), AV.wfs l → bc0 n l = true → ∀ x ∈ AV.flats l, plain x = true ∨ idsB n x = true
  | [], _, _, x, hx => by simp [AV.flats] at hx
  | a :: l, hw, h, x, hx => by
    simp only [AV.flats, List.mem_append] at hx
    simp only [bc0, Bool.and_eq_true] at h
    rcases hx with hx | hx
    · exact cU7 a hw.1 h.1 x hx
    · exact ch6 l hw.2 h.2 x hx
end
def bR4 (ρ ρ' : Ren) (i j : Nat) : Prop := ρ'.dom j ∧ ρ'.bb j = ρ.bb i ∧ ρ'.bo j = ρ.bo i ∧ ρ'.sh j = ρ.sh i ∧ ρ'.room j = ρ.room i ∧ ρ'.ft j = ρ.ft i
mutual
theorem cz2 {ρ ρ' : Ren} {g : Nat → Nat} (key : ∀ id, ρ.dom id → bR4 ρ ρ' id (g id)) : ∀ (a : AV) (x : Value), VR1 ρ a x → VR1 ρ' (renA g a) x
  | .pt id p r, x, hx => by
    obtain ⟨g1, g2, t, o, g3, g4⟩ := hx
    obtain ⟨k1, k2, k3, k4, k5, _⟩ := key id g1
    refine ⟨k1, k4.trans g2, t, o, ?_, ?_⟩
    · show G5 (ρ'.sh (g id)) p t o
      rw [k4]; exact g3
    · rw [k2, k3]; exact g4
  | .sl id p lo len tip, x, hx => by
    obtain ⟨g1, n, s, o, off, c, g2, g3, g4, g5, g6, g7⟩ := hx
    obtain ⟨k1, k2, k3, k4, k5, _⟩ := key id g1
    refine ⟨k1, n, s, o, off, c, ?_, g3, g4, ?_, ?_, ?_⟩
    · rw [k4]; exact g2
    · rw [k2]; exact g5
    · rw [k3]; exact g6
    · rw [k5]; exact g7
  | .mp id, x, hx => by
    obtain ⟨g1, g2⟩ := hx
    obtain ⟨k1, k2, _⟩ := key id g1
    exact ⟨k1, by rw [k2]; exact g2⟩
  | .fn f caps, x, hx => by
    obtain ⟨cs, g1, g2⟩ := hx
    exact ⟨cs, g1, ca8 key caps cs.toList g2⟩
  | .agg _, _, h => h.elim
  | .arr _ _ _, _, h => h.elim
  | .tup _, _, h => h.elim
  | .gd _ _ _, _, h => h.elim
  | .un, _, h => h.elim
  | .bl _, _, h => h
  | .it _ _, _, h => h
  | .st _, _, h => h
  | .nl, _, h => h
  | .nsl, _, h => h
  | .nfn, _, h => h
  | .nmp, _, h => h
  | .nif, _, h => h
theorem ca8 {ρ ρ' : Ren} {g : Nat → Nat} (key : ∀ id, ρ.dom id → bR4 ρ ρ' id (g id)) : ∀ (l : List AV) (m : List Value), VR1s ρ l m → VR1s ρ' (aR5 g l) m
  | [], [], _ => trivial
  | a :: l, v :: m, h => ⟨cz2 key a v h.1, ca8 key l m h.2⟩
  | [], _ :: _, h => h.elim
  | _ :: _, [], h => h.elim
end
mutual
theorem cb3 {ρ : Ren} {g : Nat → Nat} {n : Nat} : ∀ (a : AV) (x : Value), idsB n a = true → VR1 ρ (renA g a) x → VR1 (ρ.by g n) a x
  | .pt id p r, x, h, hx => by
    have : id < n := by rw [← Nat.blt_eq]; exact h
    obtain ⟨g1, g2⟩ := hx
    exact ⟨⟨this, g1⟩, g2⟩
  | .sl id p lo len tip, x, h, hx => by
    have : id < n := by rw [← Nat.blt_eq]; exact h
    obtain ⟨g1, g2⟩ := hx
    exact ⟨⟨this, g1⟩, g2⟩
  | .mp id, x, h, hx => by
    have : id < n := by rw [← Nat.blt_eq]; exact h
    obtain ⟨g1, g2⟩ := hx
    exact ⟨⟨this, g1⟩, g2⟩
  | .fn f caps, x, h, hx => by
    obtain ⟨cs, g1, g2⟩ := hx
    exact ⟨cs, g1, bp4 caps cs.toList h g2⟩
  | .agg _, _, _, h => h.elim
  | .arr n s f, x, h, hx => by
    unfold renA at hx
    cases hs : s.hasRef <;> rw [hs] at hx <;> exact hx.elim
  | .tup _, _, h, _ => by cases h
  | .gd _ _ _, _, h, _ => by cases h
  | .un, _, _, h => h.elim
  | .bl _, _, _, h => h
  | .it _ _, _, _, h => h
  | .st _, _, _, h => h
  | .nl, _, _, h => h
  | .nsl, _, _, h => h
  | .nfn, _, _, h => h
  | .nmp, _, _, h => h
  | .nif, _, _, h => h
theorem bp4 {ρ : Ren} {g : Nat → Nat} {n : Nat} : ∀ (l : List AV) (m : List Value), bc0 n l = true → VR1s ρ (aR5 g l) m → VR1s (ρ.by g n) l m
  | [], [], _, _ => trivial
  | a :: l, v :: m, h, hx => by
    simp only [bc0, Bool.and_eq_true] at h
    exact ⟨cb3 a v h.1 hx.1, bp4 l m h.2 hx.2⟩
  | [], _ :: _, _, h => h.elim
  | _ :: _, [], _, h => h.elim
end
def renB (g : Nat → Nat) : Blk → Blk
  | .cells t wr => .cells (renA g t) wr
  | .map l => .map l
  | .obj k st ps h => .obj k st (aR5 g ps) (g h)
  | .rob k st ps h => .rob k st (aR5 g ps) (g h)
def isMap : Blk → Bool
  | .map _ => true
  | _ => false
def aa0 (n : Nat) : Blk → Bool
  | .cells t _ => plain t || idsB n t
  | .map _ => false
  | .obj _ _ ps h => bc0 n ps && Nat.blt h n
  | .rob _ _ ps h => bc0 n ps && Nat.blt h n
theorem bJ7 (g : Nat → Nat) (b : Blk) : (renB g b).wr = b.wr := by cases b <;> rfl
theorem bJ5 (g : Nat → Nat) {t : AV} {wr : Bool} (h : plain t = true) : renB g (.cells t wr) = .cells t wr := by
  simp only [renB]; rw [Z8 g t h]
theorem cd7 {ρ : Ren} {τ : Nat → Nat} {n i x : Nat} {b : Blk} : b.foot (ρ.by τ n) i x ↔ (renB τ b).foot ρ (τ i) x := by cases b <;> exact Iff.rfl
theorem foot_same {ρ ρ' : Ren} {g : Nat → Nat} {A : Nat → Prop} {w : World} {i x : Nat} {b : Blk} (key : ∀ id, ρ.dom id → bR4 ρ ρ' id (g id)) (hb : ρ.dom i ∧ H5 ρ A w i b) : (renB g b).foot ρ' (g i) x ↔ b.foot ρ i x := by
  obtain ⟨hi, hb⟩ := hb
  obtain ⟨_, h2, _, _, _, h6⟩ := key i hi
  cases b with
  | cells t wr => show x = ρ'.bb (g i) ↔ x = ρ.bb i; rw [h2]
  | map l => show x = ρ'.bb (g i) ↔ x = ρ.bb i; rw [h2]
  | obj k st ps h =>
    obtain ⟨_, _, ⟨hd, _⟩, _⟩ := hb
    show (x = ρ'.bb (g i) ∨ x ∈ ρ'.ft (g h)) ↔ (x = ρ.bb i ∨ x ∈ ρ.ft h); rw [h2, (key h hd).2.2.2.2.2]
  | rob k st ps h =>
    obtain ⟨_, _, ⟨hd, _⟩⟩ := hb
    show (x = ρ'.bb (g i) ∨ x ∈ ρ'.ft (g h)) ↔ (x = ρ.bb i ∨ x ∈ ρ.ft h); rw [h2, (key h hd).2.2.2.2.2]
theorem H5.unrenC {ρ : Ren} {A A' : Nat → Prop} {w : World} {τ : Nat → Nat} {n i : Nat} {t : AV} {wr : Bool} (hb : ∀ x ∈ t.flat, plain x = true ∨ idsB n x = true) (hwt : t.wf) (h : H5 ρ A w (τ i) (.cells (renA τ t) wr)) (hA : wr = true → ∀ x, x = ρ.bb (τ i) → A' x) : H5 (ρ.by τ n) A' w i (.cells t wr) := by
  obtain ⟨g2, g3, g4, g5, g6⟩ := h
  rw [ay3] at g2 g6
  refine ⟨g2, hwt, g4, fun r v hv => ?_, fun hwr => ⟨hA hwr _ rfl, (g6 hwr).2⟩⟩
  have hm : (renA τ t).flat[r]? = some (renA τ v) := by rw [bh1 τ t hwt, List.getElem?_map, hv]; rfl
  obtain ⟨rv, k1, k2⟩ := g5 r _ hm
  refine ⟨rv, k1, ?_⟩
  rcases hb v (List.mem_of_getElem? hv) with hp | hp
  · rw [Z8 τ v hp] at k2
    exact aG0 hp k2
  · exact cb3 v rv hp k2
mutual
theorem dv4 : ∀ (a : AV), renA id a = a
  | .agg l => by simp only [renA]; rw [cC7 l]
  | .arr n s f => by
    unfold renA
    cases s.hasRef with
    | false => rfl
    | true =>
      show AV.arr n s (fun i => renA id (f i)) = _
      have : (fun i => renA id (f i)) = f := funext fun i => dv4 (f i)
      rw [this]
  | .pt _ _ _ => rfl
  | .sl _ _ _ _ _ => rfl
  | .mp _ => rfl
  | .fn f caps => by simp only [renA]; rw [cC7 caps]
  | .un => rfl
  | .bl _ => rfl
  | .it _ _ => rfl
  | .st _ => rfl
  | .nl => rfl
  | .nsl => rfl
  | .nfn => rfl
  | .nmp => rfl
  | .nif => rfl
  | .tup _ => rfl
  | .gd _ _ _ => rfl
theorem cC7 : ∀ (l : List AV), aR5 id l = l
  | [] => rfl
  | a :: l => by simp only [aR5]; rw [dv4 a, cC7 l]
end
theorem H5.unren {ρ : Ren} {A A' : Nat → Prop} {w : World} {τ : Nat → Nat} {n i : Nat} {b : Blk} (hb : aa0 n b = true) (hw : ∀ t wr, b = .cells t wr → t.wf) (h : H5 ρ A w (τ i) (renB τ b)) (hA : b.wr = true → ∀ x, (renB τ b).foot ρ (τ i) x → A' x) : H5 (ρ.by τ n) A' w i b := by
  cases b with
  | map l => cases hb
  | cells t wr =>
    have hwt := hw t wr rfl
    obtain ⟨g2, g3, g4, g5, g6⟩ := h
    rw [ay3] at g2 g6
    refine ⟨g2, hwt, g4, fun r v hv => ?_, fun hwr => ⟨hA hwr _ rfl, (g6 hwr).2⟩⟩
    have hm : (renA τ t).flat[r]? = some (renA τ v) := by rw [bh1 τ t hwt, List.getElem?_map, hv]; rfl
    obtain ⟨rv, k1, k2⟩ := g5 r _ hm
    refine ⟨rv, k1, ?_⟩
    simp only [aa0, Bool.or_eq_true] at hb
    rcases hb with hb | hb
    · have hp := ax7 t hwt hb v (List.mem_of_getElem? hv)
      rw [Z8 τ v hp] at k2
      exact aG0 hp k2
    · rcases cU7 t hwt hb v (List.mem_of_getElem? hv) with hp | hp
      · rw [Z8 τ v hp] at k2
        exact aG0 hp k2
      · exact cb3 v rv hp k2
  | obj k st ps hn =>
    simp only [aa0, Bool.and_eq_true] at hb
    obtain ⟨g1, g2, ⟨gd, vals, g3, g4⟩, g5⟩ := h
    exact ⟨g1, g2, ⟨⟨by rw [← Nat.blt_eq]; exact hb.2, gd⟩, vals, (aF1 _ _).1 (bp4 ps vals hb.1 ((aF1 _ _).2 g3)), g4⟩, fun x hx => hA rfl x hx⟩
  | rob k st ps hn =>
    simp only [aa0, Bool.and_eq_true] at hb
    obtain ⟨g1, g2, ⟨gd, vals, g3, g4⟩⟩ := h
    exact ⟨g1, g2, ⟨⟨by rw [← Nat.blt_eq]; exact hb.2, gd⟩, vals, (aF1 _ _).1 (bp4 ps vals hb.1 ((aF1 _ _).2 g3)), g4⟩⟩
theorem H5.ren {ρ ρ' : Ren} {A A' : Nat → Prop} {w : World} {g : Nat → Nat} {i : Nat} {b : Blk} (hb : isMap b = false) (key : ∀ id, ρ.dom id → bR4 ρ ρ' id (g id)) (hi : ρ.dom i) (h : H5 ρ A w i b) (hA : ∀ x, A x → A' x) : H5 ρ' A' w (g i) (renB g b) := by
  obtain ⟨k1, k2, k3, k4, k5, k6⟩ := key i hi
  cases b with
  | map l => cases hb
  | cells t wr =>
    obtain ⟨g2, g3, g4, g5, g6⟩ := h
    simp only [renB, H5]
    rw [k2, k3, k4, k5, ay3]
    refine ⟨g2, cE7 g t g3, g4, fun r v hv => ?_, fun hwr => ⟨hA _ (g6 hwr).1, (g6 hwr).2⟩⟩
    rw [bh1 g t g3, List.getElem?_map] at hv
    cases hv' : t.flat[r]? with
    | none => rw [hv'] at hv; cases hv
    | some u =>
      rw [hv'] at hv
      cases hv
      obtain ⟨rv, q1, q2⟩ := g5 r u hv'
      exact ⟨rv, q1, cz2 key u rv q2⟩
  | obj k st ps hn =>
    obtain ⟨g1, g2, ⟨gd, vals, g3, g4⟩, g5⟩ := h
    obtain ⟨q1, _, _, _, _, q6⟩ := key hn gd
    simp only [renB, H5]
    rw [k2, k3, k4, q6]
    exact ⟨g1, g2, ⟨q1, vals, (aF1 _ _).1 (ca8 key ps vals ((aF1 _ _).2 g3)), g4⟩, fun x hx => hA x (g5 x hx)⟩
  | rob k st ps hn =>
    obtain ⟨g1, g2, ⟨gd, vals, g3, g4⟩⟩ := h
    obtain ⟨q1, _, _, _, _, q6⟩ := key hn gd
    simp only [renB, H5]
    rw [k2, k3, k4, q6]
    exact ⟨g1, g2, ⟨q1, vals, (aF1 _ _).1 (ca8 key ps vals ((aF1 _ _).2 g3)), g4⟩⟩
def ren1 (τ : List Nat) (N : Nat) : AV → AV
  | .pt id p r => .pt (emb τ N id) p r
  | .sl id p lo len tip => .sl (emb τ N id) p lo len tip
  | v => v
def renV (τ : List Nat) (N : Nat) : AV → AV
  | .tup l => .tup (l.map (ren1 τ N))
  | v => ren1 τ N v
def ok1 : AV → Bool
  | .pt _ _ _ => true
  | .sl _ _ _ _ _ => true
  | .tup _ => false
  | v => plain v
def okV : AV → Bool
  | .tup l => l.all ok1
  | v => ok1 v
def putB (m1 : Mem) (τ0 : List Nat) (N : Nat) : List Nat → Nat → Tr Blk → Tr Blk
  | [], _, t => t
  | a :: r, i, t => putB m1 τ0 N r (i + 1) (t.set ((m1.get i).map (renB (emb τ0 N))) a)
def addB (m1 : Mem) (τ0 : List Nat) (N : Nat) : Nat → Tr Blk → Tr Blk
  | 0, t => t
  | c + 1, t => addB m1 τ0 N c (t.set ((m1.get (τ0.length + c)).map (renB (emb τ0 N))) (N + c))
def cx2 (m : Mem) (τ : List Nat) (m1 : Mem) : Mem :=
  { n := m.n + (m1.n - τ.length), t := addB m1 τ m.n (m1.n - τ.length) (putB m1 τ m.n τ 0 m.t) }
theorem cK0 {m1 : Mem} {τ0 : List Nat} {N : Nat} : ∀ (τ : List Nat) (i : Nat) (t : Tr Blk) (k : Nat) (b : Blk), τ.Nodup → (putB m1 τ0 N τ i t).get k = some b →
    (∃ j b0, τ[j]? = some k ∧ m1.get (i + j) = some b0 ∧ b = renB (emb τ0 N) b0) ∨ (k ∉ τ ∧ t.get k = some b)
  | [], _, t, k, b, _, h => .inr ⟨by simp, h⟩
  | a :: r, i, t, k, b, hn, h => by
    simp only [putB] at h
    have hn' := List.nodup_cons.1 hn
    rcases cK0 r (i + 1) _ k b hn'.2 h with ⟨j, b0, h1, h2, h3⟩ | ⟨h1, h2⟩
    · exact .inl ⟨j + 1, b0, by simpa using h1, by rw [show i + (j + 1) = i + 1 + j by omega]; exact h2, h3⟩
    · rcases Tr.get_set _ t a k b h2 with ⟨rfl, h3⟩ | ⟨h3, h4⟩
      · cases hm : m1.get i with
        | none => rw [hm] at h3; cases h3
        | some b0 =>
          rw [hm] at h3
          exact .inl ⟨0, b0, rfl, hm, (Option.some.inj h3).symm⟩
      · exact .inr ⟨by simp [h1, h3], h4⟩
theorem cC9 {m1 : Mem} {τ0 : List Nat} {N : Nat} : ∀ (c : Nat) (t : Tr Blk) (k : Nat) (b : Blk), (addB m1 τ0 N c t).get k = some b →
    (∃ j b0, j < c ∧ k = N + j ∧ m1.get (τ0.length + j) = some b0 ∧ b = renB (emb τ0 N) b0) ∨ t.get k = some b
  | 0, t, k, b, h => .inr h
  | c + 1, t, k, b, h => by
    simp only [addB] at h
    rcases cC9 c _ k b h with ⟨j, b0, h1, h2, h3, h4⟩ | h1
    · exact .inl ⟨j, b0, by omega, h2, h3, h4⟩
    · rcases Tr.get_set _ t (N + c) k b h1 with ⟨rfl, h3⟩ | ⟨_, h4⟩
      · cases hm : m1.get (τ0.length + c) with
        | none => rw [hm] at h3; cases h3
        | some b0 =>
          rw [hm] at h3
          exact .inl ⟨c, b0, by omega, rfl, hm, (Option.some.inj h3).symm⟩
      · exact .inr h4
structure Fit (m : Mem) (τ : List Nat) (m0 : Mem) (args0 args : List AV) : Prop where
  nd : τ.Nodup
  n0 : m0.n = τ.length
  args : All2 (Like τ.length fun i => τ.getD i 0) args0 args
  blk : ∀ i b, m0.get i = some b → i < τ.length ∧ aa0 τ.length b = true ∧ (∀ t wr, b = .cells t wr → t.wf ∨ plain t = true) ∧ m.get (τ.getD i 0) = some (renB (fun i => τ.getD i 0) b)
structure Left (τ : List Nat) (m0 m1 : Mem) (v : AV) : Prop where
  n : τ.length ≤ m1.n
  v : okV v = true
  blk : ∀ i b, m1.get i = some b → i < m1.n ∧ isMap b = false ∧ (b.wr = false → m0.get i = some b)
theorem All2.swap {α β γ : Type} {R : α → β → Prop} {Q : α → γ → Prop} {S : β → γ → Prop} {l : List α} {m : List β} {k : List γ} (h : All2 R l m) (h' : All2 S m k) (hq : ∀ a b c, R a b → S b c → Q a c) : All2 Q l k := by
  induction l generalizing m k with
  | nil => cases m with
    | nil => cases k with
      | nil => exact trivial
      | cons => exact h'.elim
    | cons => exact h.elim
  | cons a l ih => cases m with
    | nil => exact h.elim
    | cons b m => cases k with
      | nil => exact h'.elim
      | cons c k => exact ⟨hq _ _ _ h.1 h'.1, ih h.2 h'.2⟩
def bI5 (ρ : Ren) (τ : List Nat) (m0 : Mem) (w : World) (x : Nat) : Prop := (∃ i b, m0.get i = some b ∧ b.wr = true ∧ (renB (fun i => τ.getD i 0) b).foot ρ (τ.getD i 0) x) ∨ w.heap.size ≤ x
theorem Fit.ok {A : Nat → Prop} {m : Mem} {w : World} (hR : Rep ρ A m w) {τ : List Nat} {m0 : Mem} {args0 args : List AV} (hf : Fit m τ m0 args0 args) {i : Nat} {b : Blk} (hb : m0.get i = some b) :
    ρ.dom (τ.getD i 0) ∧ H5 ρ A w (τ.getD i 0) (renB (fun i => τ.getD i 0) b) ∧ ∀ t wr, b = .cells t wr → t.wf := by
  obtain ⟨h1, h2, h3, h4⟩ := hf.blk i b hb
  obtain ⟨g1, g2⟩ := hR.blk _ _ h4
  refine ⟨g1, g2, fun t wr e => ?_⟩
  subst e
  rcases h3 t wr rfl with h | h
  · exact h
  · have := g2.2.1
    rw [Z8 _ t h] at this
    exact this
theorem bI5.le {A : Nat → Prop} {m : Mem} {w : World} (hR : Rep ρ A m w) {τ : List Nat} {m0 : Mem} {args0 args : List AV} (hf : Fit m τ m0 args0 args) {x : Nat} (h : bI5 ρ τ m0 w x) : A x := by
  rcases h with ⟨i, b, h1, h2, h3⟩ | h
  · obtain ⟨_, g2, _⟩ := hf.ok hR h1
    exact g2.wrA (by rw [bJ7]; exact h2) x h3
  · exact hR.new x h
theorem Rep.small {A : Nat → Prop} {m : Mem} {w : World} (hR : Rep ρ A m w) {τ : List Nat} {m0 : Mem} {args0 args : List AV} (hf : Fit m τ m0 args0 args) :
    Rep (ρ.by (fun i => τ.getD i 0) τ.length) (bI5 ρ τ m0 w) m0 w := by
  refine ⟨hf.n0.symm, fun id h => h.1, fun id b hb => ?_, fun i j bi bj hi hj hij hw => ?_, fun b h => .inr h, hR.tab.mono fun b _ ha => bI5.le hR hf ha⟩
  · obtain ⟨g1, g2, g3⟩ := hf.ok hR hb
    exact ⟨⟨(hf.blk id b hb).1, g1⟩, H5.unren (hf.blk id b hb).2.1 g3 g2 fun hwr x hx => .inl ⟨id, b, hb, hwr, hx⟩⟩
  · obtain ⟨h1, _, _, h2⟩ := hf.blk i bi hi
    obtain ⟨h3, _, _, h4⟩ := hf.blk j bj hj
    have hne : τ.getD i 0 ≠ τ.getD j 0 := fun he => hij (by
      have e1 : τ[i]? = τ[j]? := by
        rw [List.getElem?_eq_getElem h1, List.getElem?_eq_getElem h3]
        simp only [List.getD_eq_getElem?_getD, List.getElem?_eq_getElem h1, List.getElem?_eq_getElem h3, Option.getD_some] at he
        rw [he]
      exact (List.getElem?_inj h1 hf.nd).1 e1)
    have := hR.sep _ _ _ _ h2 h4 hne (by rw [bJ7]; exact hw)
    exact fun x hx hx' => this x ((cd7 (τ := fun i => τ.getD i 0) (n := τ.length)).1 hx) ((cd7 (τ := fun i => τ.getD i 0) (n := τ.length)).1 hx')
def Ren.out (ρ ρs : Ren) (n N n1 : Nat) : Ren :=
  { n := N + (n1 - n), dom := fun k => ρ.dom k ∨ (N ≤ k ∧ ρs.dom (k - N + n)), bb := fun k => if k < N then ρ.bb k else ρs.bb (k - N + n), bo := fun k => if k < N then ρ.bo k else ρs.bo (k - N + n),
    sh := fun k => if k < N then ρ.sh k else ρs.sh (k - N + n), room := fun k => if k < N then ρ.room k else ρs.room (k - N + n), ft := fun k => if k < N then ρ.ft k else ρs.ft (k - N + n) }
theorem Rep.great {A : Nat → Prop} {m : Mem} {w : World} (hR : Rep ρ A m w) {τ : List Nat} {m0 : Mem} {args0 args : List AV} (hf : Fit m τ m0 args0 args) {m1 : Mem} {v : AV} (hl : Left τ m0 m1 v)
    {ρs : Ren} (he : (ρ.by (fun i => τ.getD i 0) τ.length).ext ρs) {w' : World} (hR' : Rep ρs (bI5 ρ τ m0 w) m1 w') (hU : Upd (bI5 ρ τ m0 w) w w') {rv : Value} (hv : VR3 ρs v rv) :
    ρ.ext (ρ.out ρs τ.length m.n m1.n) ∧ Rep (ρ.out ρs τ.length m.n m1.n) A (cx2 m τ m1) w' ∧ Upd A w w' ∧ VR3 (ρ.out ρs τ.length m.n m1.n) (renV τ m.n v) rv := by
  have hA : ∀ b, bI5 ρ τ m0 w b → A b := fun b hb => bI5.le hR hf hb
  have hdom : ∀ k, ρ.dom k → k < m.n := fun k hk => by rw [← hR.n]; exact hR.lt k hk

  have key : ∀ i, ρs.dom i → bR4 ρs (ρ.out ρs τ.length m.n m1.n) i (emb τ m.n i) := fun i hi => by
    rcases Nat.lt_or_ge i τ.length with h | h
    · have hd := he.old i hi h
      have hlt := hdom _ hd.2
      rw [emb_lt h]
      simp only [bR4, Ren.out, if_pos hlt]
      exact ⟨.inl hd.2, (he.bb i hd).symm, (he.bo i hd).symm, (he.sh i hd).symm, (he.room i hd).symm, (he.ft i hd).symm⟩
    · rw [emb_ge h]
      have e : m.n + (i - τ.length) - m.n + τ.length = i := by omega
      have hn : ¬ (m.n + (i - τ.length) < m.n) := by omega
      simp only [bR4, Ren.out, if_neg hn, e]
      exact ⟨.inr ⟨by omega, hi⟩, trivial, trivial, trivial, trivial, trivial⟩
  have h1x : ∀ a x, ok1 a = true → VR2 ρs a x → VR2 (ρ.out ρs τ.length m.n m1.n) (ren1 τ m.n a) x := fun a x ha hx => by
    cases a with
    | pt id p r => exact cz2 key (.pt id p r) x hx
    | sl id p lo len tip => exact cz2 key (.sl id p lo len tip) x hx
    | tup l => cases ha
    | _ => exact bX3 ha hx
  have hvv : VR3 (ρ.out ρs τ.length m.n m1.n) (renV τ m.n v) rv := by
    have hok := hl.v
    cases v with
    | tup l =>
      obtain ⟨vs, g1, g2⟩ := hv
      refine ⟨vs, g1, ?_⟩
      have hok' : ∀ a ∈ l, ok1 a = true := List.all_eq_true.1 hok
      clear g1 hok hl
      generalize vs.toList = z at g2
      induction l generalizing z with
      | nil => cases z with
        | nil => exact trivial
        | cons => exact g2.elim
      | cons a l ih => cases z with
        | nil => exact g2.elim
        | cons b z => exact ⟨h1x a b (hok' a List.mem_cons_self) g2.1, ih (fun x hx => hok' x (List.mem_cons_of_mem _ hx)) z g2.2⟩
    | pt id p r => exact h1x (.pt id p r) rv rfl hv
    | sl id p lo len tip => exact h1x (.sl id p lo len tip) rv rfl hv
    | _ => exact ao0 hok hv

  have hblk : ∀ i b, m1.get i = some b → H5 (ρ.out ρs τ.length m.n m1.n) A w' (emb τ m.n i) (renB (emb τ m.n) b) := fun i b hb =>
    H5.ren (hl.blk i b hb).2.1 key (hR'.blk _ _ hb).1 (hR'.blk _ _ hb).2 hA
  have hget : ∀ k b, (cx2 m τ m1).get k = some b → (∃ i b0, k = emb τ m.n i ∧ m1.get i = some b0 ∧ b = renB (emb τ m.n) b0) ∨ (k ∉ τ ∧ m.get k = some b) := fun k b hb => by
    rcases cC9 _ _ k b hb with ⟨j, b0, h1, rfl, h3, h4⟩ | h1
    · refine .inl ⟨τ.length + j, b0, ?_, h3, h4⟩
      rw [emb_ge (by omega)]; omega
    · rcases cK0 τ 0 _ k b hf.nd h1 with ⟨j, b0, h2, h3, h4⟩ | h2
      · rw [Nat.zero_add] at h3
        have hlt : j < τ.length := (List.getElem?_eq_some_iff.1 h2).1
        refine .inl ⟨j, b0, ?_, h3, h4⟩
        rw [emb_lt hlt, List.getD_eq_getElem?_getD, h2]; rfl
      · exact .inr h2

  have hfar : ∀ k b, k ∉ τ → m.get k = some b → k < m.n ∧ ∀ x, b.foot ρ k x → x < w.heap.size ∧ ¬ bI5 ρ τ m0 w x := fun k b hk hb => by
    obtain ⟨g1, g2⟩ := hR.blk _ _ hb
    refine ⟨hdom k g1, fun x hx => ⟨g2.foot_lt x hx, fun ha => ?_⟩⟩
    rcases ha with ⟨i, bi, h1, h2, h3⟩ | ha
    · obtain ⟨hi, _, _, h4⟩ := hf.blk i _ h1
      have hne : τ.getD i 0 ≠ k := fun e => hk (by
        rw [← e, List.getD_eq_getElem?_getD, List.getElem?_eq_getElem hi]; exact List.getElem_mem hi)
      exact hR.sep _ _ _ _ h4 hb hne (by rw [bJ7]; exact h2) x h3 hx
    · have := g2.foot_lt x hx; omega
  have hext : ρ.ext (ρ.out ρs τ.length m.n m1.n) := by
    refine ⟨⟨fun i hi => .inl hi, fun i hi => ?_, fun i hi => ?_, fun i hi => ?_, fun i hi => ?_, fun i hi => ?_⟩, by rw [hR.n]; exact Nat.le_add_right _ _, fun i hi hlt => ?_⟩
    · simp only [Ren.out, if_pos (hdom i hi)]
    · simp only [Ren.out, if_pos (hdom i hi)]
    · simp only [Ren.out, if_pos (hdom i hi)]
    · simp only [Ren.out, if_pos (hdom i hi)]
    · simp only [Ren.out, if_pos (hdom i hi)]
    · rcases hi with hi | ⟨hi, _⟩
      · exact hi
      · rw [hR.n] at hlt; omega
  refine ⟨hext, ⟨rfl, fun id hid => ?_, fun id b hb => ?_, fun i j bi bj hi hj hij hw => ?_, fun b hb => hR.new b (Nat.le_trans hU.size hb), hR.tab.later fun b hb hnA => hU.old b hb fun h => hnA (hA b h)⟩, hU.mono fun i _ hi => hA i hi, hvv⟩
  · rcases hid with hid | ⟨h1, h2⟩
    · have := hdom id hid
      show id < m.n + (m1.n - τ.length)
      omega
    · have := hR'.lt _ h2
      rw [hR'.n] at this
      show id < m.n + (m1.n - τ.length)
      omega
  · rcases hget id b hb with ⟨i, b0, rfl, h1, rfl⟩ | ⟨h1, h2⟩
    · exact ⟨(key i (hR'.blk _ _ h1).1).1, hblk i b0 h1⟩
    · obtain ⟨f1, f2⟩ := hfar id b h1 h2
      obtain ⟨g1, g2⟩ := hR.blk _ _ h2
      exact ⟨.inl g1, g2.later g1 hext.tole fun x hx => hU.old _ (f2 x hx).1 (f2 x hx).2⟩
  · have fNew : ∀ i b0 x, m1.get i = some b0 → (renB (emb τ m.n) b0).foot (ρ.out ρs τ.length m.n m1.n) (emb τ m.n i) x → b0.foot ρs i x := fun i b0 x h h' => (foot_same key (hR'.blk _ _ h)).1 h'
    have fOld : ∀ k b x, k ∉ τ → m.get k = some b → b.foot (ρ.out ρs τ.length m.n m1.n) k x → b.foot ρ k x := fun k b x h1 h2 h' => (Blk.foot_le hext.tole (hR.blk _ _ h2)).1 h'
    rcases hget i bi hi with ⟨i', b0, rfl, h1, rfl⟩ | ⟨h1, h2⟩
    · rw [bJ7] at hw
      rcases hget j bj hj with ⟨j', b0', rfl, h3, rfl⟩ | ⟨h3, h4⟩
      · exact fun x hx hx' => hR'.sep _ _ _ _ h1 h3 (fun e => hij (by rw [e])) hw x (fNew _ _ x h1 hx) (fNew _ _ x h3 hx')
      · exact fun x hx hx' => ((hfar j bj h3 h4).2 x (fOld j bj x h3 h4 hx')).2 ((hR'.blk _ _ h1).2.wrA hw x (fNew _ _ x h1 hx))
    · rcases hget j bj hj with ⟨j', b0', rfl, h3, rfl⟩ | ⟨h3, h4⟩
      · intro x hx hx'
        have hx1 := fOld i bi x h1 h2 hx
        have hx2 := fNew _ _ x h3 hx'
        obtain ⟨a1, a2⟩ := hR'.blk _ _ h3
        obtain ⟨_, f3⟩ := (hfar i bi h1 h2).2 x hx1
        cases hwr : b0'.wr with
        | true => exact f3 (a2.wrA hwr x hx2)
        | false =>
          have hbq := (hl.blk _ _ h3).2.2 hwr
          have hlt := (hf.blk j' _ hbq).1
          have hd := he.old j' a1 hlt
          obtain ⟨_, _, _, h5⟩ := hf.blk j' _ hbq
          refine hR.sep _ _ _ _ h2 h5 (fun e2 => h1 ?_) hw x hx1 ?_
          · rw [e2, List.getD_eq_getElem?_getD, List.getElem?_eq_getElem hlt]; exact List.getElem_mem hlt
          · have h6 := (hR.small hf).blk j' _ hbq
            exact cd7.1 ((Blk.foot_le he.tole h6).1 hx2)
      · exact fun x hx hx' => hR.sep _ _ _ _ h2 h4 hij hw x (fOld i bi x h1 h2 hx) (fOld j bj x h3 h4 hx')
theorem Small.great {f : FuncId} {args0 args : List AV} {m0 m1 m : Mem} {v : AV} {τ : List Nat} (hS : Small P f args0 m0 v m1) (hf : Fit m τ m0 args0 args) (hl : Left τ m0 m1 v) :
    Small P f args m (renV τ m.n v) (cx2 m τ m1) := fun ρ A w vals hR ha => by
  have hargs : All2 (VR3 (ρ.by (fun i => τ.getD i 0) τ.length)) args0 vals := hf.args.swap ha fun a b c hab hbc => hab.ok hbc
  rcases hS _ _ w vals (hR.small hf) hargs with ⟨ρ', rv, w', nx, h1, h2, h3, h4, h5, h6⟩ | ⟨g, args', h1, h2⟩
  · obtain ⟨k1, k2, k3, k4⟩ := hR.great hf hl h3 h4 h5 h6
    exact .inl ⟨_, rv, w', nx, h1, h2, k1, k2, k3, k4⟩
  · refine .inr ⟨g, args', h1, h2.mono fun e w' ⟨ρ', rv, g1, g2, g3, g4, g5⟩ => ?_⟩
    obtain ⟨k1, k2, k3, k4⟩ := hR.great hf hl g2 g3 g4 g5
    exact ⟨_, rv, g1, k1, k2, k3, k4⟩
abbrev MRow := List AV → Mem → Option (Option Bool × List Nat × AV × Mem)
def aa3 (P : Program) (f : FuncId) (F : MRow) : Prop := ∀ args m c τ v m1, F args m = some (c, τ, v, m1) → (c = none ∨ c = some true) →
  ∃ args0 m0, Small P f args0 m0 v m1 ∧ Fit m τ m0 args0 args ∧ Left τ m0 m1 v
def hMem : List (FuncId × MRow) → Hd → Hd
  | [], h, f, args, m, k => h f args m k
  | (g, F) :: l, h, f, args, m, k => bif Nat.beq f g then (match F args m with
    | some (c, τ, v, m1) => bg0 c (k (renV τ m.n v) (cx2 m τ m1))
    | none => none) else hMem l h f args m k
def MOk (P : Program) : List (FuncId × MRow) → Prop
  | [] => True
  | (g, F) :: l => aa3 P g F ∧ MOk P l
theorem ap2 {h : Hd} (hh : N6 P h) : ∀ {l : List (FuncId × MRow)}, MOk P l → N6 P (hMem l h)
  | [], _ => hh
  | (g, F) :: l, hl => fun f args m k r he hr => by
    simp only [hMem] at he
    cases hb : Nat.beq f g with
    | false => rw [hb, cond_false] at he; exact ap2 hh hl.2 f args m k r he hr
    | true =>
    rw [hb, cond_true] at he
    have := Nat.eq_of_beq_eq_true hb
    subst this
    split at he <;> try (cases he; done)
    rename_i c τ v m1 hF
    obtain ⟨h1, h2⟩ := af6 he hr
    obtain ⟨args0, m0, h3, h4, h5⟩ := hl.1 args m c τ v m1 hF h1
    exact ⟨_, _, h2, h3.great h4 h5⟩
abbrev GRow := List AV → Mem → Option (Option Bool × AV × Mem)
def ax2 (P : Program) (f : FuncId) (F : GRow) : Prop := ∀ args m c v m1, F args m = some (c, v, m1) → (c = none ∨ c = some true) → Small P f args m v m1
def hGr : List (FuncId × GRow) → Hd → Hd
  | [], h, f, args, m, k => h f args m k
  | (g, F) :: l, h, f, args, m, k => bif Nat.beq f g then (match F args m with
    | some (c, v, m1) => bg0 c (k v m1)
    | none => none) else hGr l h f args m k
def GOk (P : Program) : List (FuncId × GRow) → Prop
  | [] => True
  | (g, F) :: l => ax2 P g F ∧ GOk P l
theorem au3 {h : Hd} (hh : N6 P h) : ∀ {l : List (FuncId × GRow)}, GOk P l → N6 P (hGr l h)
  | [], _ => hh
  | (g, F) :: l, hl => fun f args m k r he hr => by
    simp only [hGr] at he
    cases hb : Nat.beq f g with
    | false => rw [hb, cond_false] at he; exact au3 hh hl.2 f args m k r he hr
    | true =>
    rw [hb, cond_true] at he
    have := Nat.eq_of_beq_eq_true hb
    subst this
    split at he <;> try (cases he; done)
    rename_i c v m1 hF
    obtain ⟨h1, h2⟩ := af6 he hr
    exact ⟨_, _, h2, hl.1 args m c v m1 hF h1⟩
end
end Go.Ev
namespace Go.Ev
open Go.RowKit
section
variable {P : Program}
variable {H : Type} {enc : TypeId × Value → H}
inductive Prm where
  | pl (s : Sh)
  | sli (s : Sh)
inductive Dat where
  | pl (a : AV)
  | no
  | sl (n : Nat) (f : Nat → AV)
def Dat.Is : Prm → Dat → Prop
  | .pl s, .pl a => Of s a
  | .sli _, .no => True
  | .sli s, .sl n f => n ≤ maxLen ∧ ∀ i, Of s (f i)
  | _, _ => False
def opA : List Dat → Nat → List AV
  | [], _ => []
  | .pl a :: r, k => a :: opA r k
  | .no :: r, k => .nsl :: opA r k
  | .sl n _ :: r, k => .sl k [] 0 n false :: opA r (k + 1)
def opM : List Prm → List Dat → Mem → Mem
  | .sli s :: ps, .sl n f :: ds, m => opM ps ds (m.add (.cells (.arr n s f) false))
  | _ :: ps, _ :: ds, m => opM ps ds m
  | _, _, m => m
def prmT (P : Program) (d : Nat) (t : TypeId) : Option Prm := match P.underlying t with
  | some (.slice e) => match shT P d e with
    | some s => bif Nat.beq s.size (P.cellsOf e) && !s.hasRef then some (.sli s) else none
    | none => none
  | _ => match shT P d t with
    | some s => some (.pl s)
    | none => none
def prmTs (P : Program) (d : Nat) : List TypeId → Option (List Prm)
  | [] => some []
  | t :: r => match prmT P d t, prmTs P d r with
    | some p, some l => some (p :: l)
    | _, _ => none
theorem dI2 {a : Addr} (h : a.spot = none) (n : Nat) : a.add n = ⟨a.block, a.off + n, none⟩ := by
  cases a
  simp only at h
  subst h
  unfold Addr.add
  split
  · subst_vars; rfl
  · rfl
theorem Rep.addR {ρ : Ren} {A : Nat → Prop} {m : Mem} {w : World} (h : Rep ρ A m w) (hro : ∀ i b, m.get i = some b → b.wr = false) {bb bo room : Nat} {sh : Sh} {b : Blk} (hb0 : b.wr = false)
    (hb : H5 (ρ.add bb bo sh room) A w ρ.n b) : Rep (ρ.add bb bo sh room) A (m.add b) w := by
  have hle := Ren.le_add h.lt bb bo sh room
  have hget : ∀ id b', (m.add b).get id = some b' → (id = m.n ∧ b' = b) ∨ (id ≠ m.n ∧ m.get id = some b') := fun id b' hb' => by
    rcases Tr.get_set (some b) m.t m.n id b' hb' with ⟨h1, h2⟩ | ⟨h1, h2⟩
    · exact .inl ⟨h1, (Option.some.inj h2).symm⟩
    · exact .inr ⟨h1, h2⟩
  refine ⟨by simp [Ren.add, Mem.add, h.n], fun id hid => ?_, fun id b' hb' => ?_, fun i j bi bj hi hj hij hwr => ?_, h.new, h.tab⟩
  · rcases hid with h1 | h1
    · subst h1; exact Nat.lt_succ_self _
    · exact Nat.lt_succ_of_lt (h.lt id h1)
  · rcases hget id b' hb' with ⟨rfl, rfl⟩ | ⟨h1, h2⟩
    · rw [← h.n]
      exact ⟨.inl rfl, hb⟩
    · obtain ⟨g1, g2⟩ := h.blk id b' h2
      exact ⟨.inr g1, g2.later g1 hle fun _ _ => rfl⟩
  · exfalso
    rcases hget i bi hi with ⟨_, rfl⟩ | ⟨_, h2⟩
    · rw [hb0] at hwr; cases hwr
    · rw [hro i bi h2] at hwr; cases hwr
theorem cells?_at {w : World} {a : Addr} {n : Nat} {cs : List Value} (h : w.cells? 0 a n = some cs) (r : Nat) (v : Value) (hv : cs[r]? = some v) : w.cell? (a.add r) = some v := by
  unfold World.cells? at h
  rw [if_pos (Nat.zero_le _)] at h
  have := bD5 h
  have hl := this.len
  simp at hl
  have hr : r < n := by
    rw [hl]; exact (List.getElem?_eq_some_iff.1 hv).1
  obtain ⟨b, h1, h2⟩ := this.get (i := r) (a := r) (by simp [hr])
  rw [hv] at h1; cases h1
  exact h2
theorem di9 {W : World} {d : Nat} {e : TypeId} {s : Sh} (hs : shT P d e = some s) (hsz : s.size = P.cellsOf e) {a : Addr} (hspot : a.spot = none) {n len : Nat} {elems : List (DataW H × List MemPlace)} (hlen : elems.length = len)
    (hel : ∀ i, i < len → (W.cells? 0 (a.add (i * P.cellsOf e)) (P.cellsOf e)).bind (DataW.trod enc P W 0 (fun _ => true) true n e) = elems[i]?) :
    ∃ f : Nat → AV, (∀ i, Of s (f i)) ∧ ∀ i r v, i < len → (f i).flat[r]? = some v → ∃ rv, W.cell? ⟨a.block, a.off + (i * s.size + r), none⟩ = some rv ∧ VR1 Ren.nil v rv := by
  have each : ∀ i, ∃ x : AV, Of s x ∧ (i < len → ∀ r v, x.flat[r]? = some v → ∃ rv, W.cell? ⟨a.block, a.off + (i * s.size + r), none⟩ = some rv ∧ VR1 Ren.nil v rv) := fun i => by
    by_cases hi : i < len
    · obtain ⟨y, hy⟩ : ∃ y, elems[i]? = some y := ⟨_, List.getElem?_eq_getElem (by omega)⟩
      have := hel i hi
      rw [hy, Option.bind_eq_some_iff] at this
      obtain ⟨cs, h1, h2⟩ := this
      obtain ⟨_, _, x, h3, h4⟩ := az1 (ρ := Ren.nil) d n e s cs y hs h2
      refine ⟨x, h3, fun _ r v hv => ?_⟩
      obtain ⟨rv, h5, h6⟩ := h4.get hv
      refine ⟨rv, ?_, h6⟩
      have := cells?_at h1 r rv h5
      rw [dI2 hspot, dI2 rfl, ← hsz] at this
      rw [← this]
      simp [Nat.add_assoc]
    · obtain ⟨x, hx⟩ := dflt s (az1.shT_flat (P := P) hs)
      exact ⟨x, hx, fun h => absurd h hi⟩
  exact ⟨fun i => Classical.choose (each i), fun i => (Classical.choose_spec (each i)).1, fun i r v hi hv => (Classical.choose_spec (each i)).2 hi r v hv⟩
theorem dB4 {W : World} {b0 d : Nat} {A : Nat → Prop} : ∀ {ts : List TypeId} {prms : List Prm} {vs : List Value} {ds : List (DataW H)} {ps : List MemPlace}, prmTs P d ts = some prms →
    DataW.TrodAll enc P W 0 (fun _ => true) true ts vs ds ps → (∀ (j : Nat) t v, ts[j]? = some t → vs[j]? = some v → Value.okWide P W .any b0 t v) →
    ds.length = ts.length ∧ ∃ es, All2 Dat.Is prms es ∧ ∀ (ρ : Ren) (m : Mem), Rep ρ A m W → (∀ i b, m.get i = some b → b.wr = false) → ∃ ρ' : Ren, ρ.ext ρ' ∧ Rep ρ' A (opM prms es m) W ∧ All2 (VR3 ρ') (opA es m.n) vs
  | [], prms, vs, ds, ps, hs, h, _ => by
    cases hs
    match vs, ds, h with
    | [], [], h => exact ⟨rfl, [], trivial, fun ρ m hR _ => ⟨ρ, Ren.ext.refl ρ, hR, trivial⟩⟩
  | t :: ts, prms, vs, ds, ps, hs, h, hok => by
    simp only [prmTs] at hs
    split at hs <;> try (cases hs; done)
    rename_i p l h1 h2
    cases hs
    match vs, ds, h with
    | v :: vs, dd :: ds, ⟨p1, q, ⟨fuel, h3⟩, h4, h5⟩ =>
    obtain ⟨k1, es, k2, k3⟩ := dB4 h2 h4 fun j t v ht hv => hok (j + 1) t v ht hv
    refine ⟨by simp [k1], ?_⟩
    have hok0 := hok 0 t v rfl rfl
    unfold prmT at h1
    split at h1
    · rename_i e hu
      split at h1 <;> try (cases h1; done)
      rename_i s hsh
      cases hb : Nat.beq s.size (P.cellsOf e) && !s.hasRef with
      | false => rw [hb] at h1; cases h1
      | true =>
      rw [hb, cond_true] at h1; cases h1
      simp only [Bool.and_eq_true, Nat.beq_eq, Bool.not_eq_true'] at hb
      obtain ⟨oa, len, cap, rfl⟩ := Go.WideShapes.okWide_slice hu hok0
      have hcs : (Value.slice oa len cap).cells.toList = [.slice oa len cap] := rfl
      rw [hcs] at h3
      rcases DataW.trod_slice hu h3 with ⟨h0, _⟩ | ⟨a, len', cap', elems, rest, n, _, h0, _, hb0, hl, hm, hlen, hel, _, _⟩
      · cases h0
        refine ⟨.no :: es, ⟨trivial, k2⟩, fun ρ m hR hro => ?_⟩
        obtain ⟨ρ', g1, g2, g3⟩ := k3 ρ m hR hro
        exact ⟨ρ', g1, g2, ⟨rfl, g3⟩⟩
      · cases h0
        have hhas : W.has P .any b0 a e cap := by
          simp only [Value.okWide, hu, Cell.okWide, Cell.ok] at hok0
          exact hok0.2.2
        obtain ⟨_, hspot, row, cells, hshape, _⟩ := hhas
        obtain ⟨f, hf1, hf2⟩ := di9 hsh hb.1 hspot hlen hel
        refine ⟨.sl len f :: es, ⟨⟨by omega, hf1⟩, k2⟩, fun ρ m hR hro => ?_⟩
        have hwf : (AV.arr len s f).wf := fun i => ⟨(hf1 i).1, (hf1 i).2.1⟩
        have hpl : plain (.arr len s f) = true := by simp [plain, hb.2]
        have hflen : ∀ i, i < len → (f i).flat.length = s.size := fun i _ => by rw [AV.flat_len _ (hf1 i).1, (hf1 i).2.1]
        have hbo : H5 (ρ.add a.block a.off (.arr len s) 0) A W ρ.n (.cells (.arr len s f) false) := by
          have e1 : (ρ.add a.block a.off (.arr len s) 0).bb ρ.n = a.block := by simp [Ren.add]
          have e2 : (ρ.add a.block a.off (.arr len s) 0).bo ρ.n = a.off := by simp [Ren.add]
          have e3 : (ρ.add a.block a.off (.arr len s) 0).sh ρ.n = .arr len s := by simp [Ren.add]
          simp only [H5]
          rw [e1, e2, e3]
          refine ⟨rfl, hwf, ?_, fun r v hv => ?_, fun h => by cases h⟩
          · unfold World.shape? at hshape
            split at hshape <;> try (cases hshape; done)
            rename_i hc
            exact ⟨_, _, _, hc⟩
          · have hfl := AV.flat_len (.arr len s f) hwf
            have hr := (List.getElem?_eq_some_iff.1 hv).1
            rw [hfl] at hr
            have hr : r < len * s.size := hr
            have hz : 0 < s.size := by
              rcases Nat.eq_zero_or_pos s.size with h | h
              · rw [h, Nat.mul_zero] at hr; omega
              · exact h
            have hi : r / s.size < len := (Nat.div_lt_iff_lt_mul hz).2 hr
            have hdm : r / s.size * s.size + r % s.size = r := by rw [Nat.mul_comm]; exact Nat.div_add_mod r s.size
            have hv' : (f (r / s.size)).flat[r % s.size]? = some v := by
              have := M3 len s.size (fun i => (f i).flat) hflen (r / s.size) (r % s.size) hi (Nat.mod_lt _ hz)
              rw [hdm] at this
              rw [← this]; exact hv
            obtain ⟨rv, q1, q2⟩ := hf2 _ _ _ hi hv'
            refine ⟨rv, ?_, aG0 (ax7 (.arr len s f) hwf hpl v (List.mem_of_getElem? hv)) q2⟩
            rw [hdm] at q1
            exact q1
        have hR1 := hR.addR hro (b := .cells (.arr len s f) false) rfl hbo
        obtain ⟨ρ', g1, g2, g3⟩ := k3 _ _ hR1 fun i b hi => by
          have hi' : (m.t.set (some (.cells (.arr len s f) false)) m.n).get i = some b := hi
          rcases Tr.get_set (some (.cells (.arr len s f) false)) m.t m.n i b hi' with ⟨_, h2⟩ | ⟨_, h2⟩
          · cases h2; rfl
          · exact hro i b h2
        refine ⟨ρ', (Ren.ext_add hR.lt _ _ _ _).trans g1, g2, ⟨?_, g3⟩⟩
        have hn : m.n = ρ.n := hR.n.symm
        have hd : (ρ.add a.block a.off (.arr len s) 0).dom m.n := .inl hn
        refine VR3.mono g1.tole (.sl m.n [] 0 len false) _ ?_
        refine ⟨hd, len, s, 0, a.off, cap, ?_, by omega, hl, ?_, fun _ => ?_, fun h => by cases h⟩
        · show G5 ((ρ.add a.block a.off (.arr len s) 0).sh m.n) [] (.arr len s) 0
          rw [hn]; simp [Ren.add, G5]
        · rw [hn]
          cases a
          simp only at hspot
          subst hspot
          simp [Ren.add]
        · rw [hn]; simp [Ren.add]
    · split at h1 <;> try (cases h1; done)
      rename_i s hsh
      cases h1
      obtain ⟨_, g1, a, g2, g3⟩ := az1 (ρ := Ren.nil) d fuel t s _ _ hsh h3
      refine ⟨.pl a :: es, ⟨g2, k2⟩, fun ρ m hR hro => ?_⟩
      obtain ⟨ρ', q1, q2, q3⟩ := k3 ρ m hR hro
      obtain ⟨_, _, a', g2', g3'⟩ := az1 (ρ := ρ') d fuel t s _ _ hsh h3
      refine ⟨ρ', q1, q2, ⟨?_, q3⟩⟩
      have hflat : All2 (VR1 ρ') a.flat v.cells.toList := g3.mono_mem fun x hx b hb => VR1_flat (az1.shT_flat (P := P) hsh) g2 hx hb
      exact cM5.val hsh hok0 g2 hflat
  where
  VR1_flat {ρ : Ren} {s : Sh} {a : AV} (hs : s.flatB = true) (ha : Of s a) {x : AV} (hx : x ∈ a.flat) {b : Value} (hb : VR1 Ren.nil x b) : VR1 ρ x b := by
    have hr : s.hasRef = false := flatB_ref s hs
    exact aG0 (aG7 a ha.1 (by rw [ha.2.1]; exact hr) x hx) hb
  flatB_ref : ∀ (s : Sh), s.flatB = true → s.hasRef = false
    | .int _, _ => rfl
    | .bool, _ => rfl
    | .str, _ => rfl
    | .ref, h => by cases h
    | .agg l, h => flatBs_ref l h
    | .arr _ s, h => flatB_ref s h
  flatBs_ref : ∀ (l : List Sh), Sh.flatBs l = true → Sh.hasRef.Sh.hasRefs l = false
    | [], _ => rfl
    | s :: l, h => by
      simp only [Sh.flatBs, Bool.and_eq_true] at h
      simp [Sh.hasRef.Sh.hasRefs, flatB_ref s h.1, flatBs_ref l h.2]
theorem Below.trodAll (hl : laidOutB P = true) {W W' : World} (hb : Below W.heap.size W W') : ∀ {ts : List TypeId} {vs : List Value} {ds : List (DataW H)} {ps : List MemPlace},
    (∀ t ∈ ts, P.readableRec t = true ∧ t < P.types.size) → DataW.TrodAll enc P W 0 (fun _ => true) true ts vs ds ps → DataW.TrodAll enc P W' 0 (fun b => decide (b < W.heap.size)) true ts vs ds ps
  | [], [], [], _, _, h => h
  | t :: ts, v :: vs, d :: ds, ps, hT, ⟨p, q, h1, h2, e⟩ => by
    have ht := hT t List.mem_cons_self
    refine ⟨p, q, hb.trod hl ht.1 ht.2 h1 fun x hx => ?_, Below.trodAll hl hb (fun t ht => hT t (List.mem_cons_of_mem _ ht)) h2, e⟩
    obtain ⟨n, hn⟩ := h1
    exact DataW.trod_lt n _ _ _ hn x hx
theorem Small.calls {f : FuncId} {fn : Func} {c : Code} (hf : Plain P f fn) (hb : fn.body = some c) {args : List AV} {m m' : Mem} {v : AV} (h : Small P f args m v m') {ρ : Ren} {A : Nat → Prop} {W : World} (hR : Rep ρ A m W) {vals : List Value} (ha : All2 (VR3 ρ) args vals) :
    Calls P f vals.toArray W fun e W' => ∃ ρ' rv, e = .returned rv ∧ Upd A W W' ∧ VR3 ρ' v rv := by
  rcases h ρ A W vals hR ha with ⟨ρ', rv, w', nx, h1, h2, _⟩ | ⟨f', args', h1, h2⟩
  · rw [ap8 hf hb] at h1
    cases h1
    rcases h2 with h2 | ⟨h2, _⟩ <;> cases h2
  · rw [ap8 hf hb] at h1
    cases h1
    exact h2.mono fun e W' ⟨ρ', rv, g1, _, _, g4, g5⟩ => ⟨ρ', rv, g1, g4, g5⟩
theorem cO5 {f : FuncId} {fn : Func} {c : Code} (hf : Plain P f fn) (hb : fn.body = some c) {d : Nat} {prms : List Prm} (hsh : prmTs P d fn.params.toList = some prms) {tb : TypeId} (hres : fn.resultTypes = #[tb])
    (htb : P.underlying tb = some .bool) {s : ChangeSpec} (hv : s.vars = []) (hfn : ∀ ds : List (DataW H), ds.length = fn.params.size → s.fn H ds = { results := [.lit (.bool true)], args := ds })
    (hlay : laidOutB P = true) (hread : ∀ t ∈ fn.params.toList, P.readableRec t = true ∧ t < P.types.size)
    (law : ∀ es, All2 Dat.Is prms es → ∃ m', Small P f (opA es 0) (opM prms es Mem.empty) (.bl true) m') {apart fresh handsOn : Bool} (W : World) (args : Array Value) (ds gs : List (DataW H)) (before : List MemPlace) {base : Nat}
    (hok : ∀ (j : Nat) t v, fn.params[j]? = some t → args[j]? = some v → Value.okWide P W .any base t v) (hW : DataW.Whole enc P fn.params.toList s.vars apart W args.toList ds gs before)
    (ht : Held (fun b => W.heap.size ≤ b) W := by exact held_nil rfl) :
    Calls P f args W fun e W' => ∃ v, e = .returned v ∧ s.post enc P fn apart fresh handsOn false W args v W' := by
  have hW0 := hW
  obtain ⟨p, q, hA, hV, rfl, hz, hn⟩ := hW
  obtain ⟨hlen, es, h1, h2⟩ := dB4 (A := fun b => W.heap.size ≤ b) hsh hA (b0 := base) fun j t v ht hv => hok j t v (by simpa using ht) (by simpa using hv)
  obtain ⟨ρ', _, g2, g3⟩ := h2 Ren.nil Mem.empty (Rep.nil ht) fun i b h => by (simp only [Mem.get, Mem.empty, Tr.get_mk] at h; cases h)
  obtain ⟨m', hS⟩ := law es h1
  have hgs : gs = [] ∧ q = [] := by
    rw [hv] at hV
    match gs, hV with
    | [], hV => exact ⟨rfl, hV⟩
  obtain ⟨rfl, rfl⟩ := hgs
  have hc := hS.calls hf hb g2 g3
  rw [Array.toArray_toList] at hc
  refine hc.mono fun e W' ⟨ρ', rv, he, hu, hrv⟩ => ?_
  have hrv : rv = .bool true := hrv
  subst hrv
  have hbel : Below W.heap.size W W' := ⟨hu.os, hu.tape, hu.out, hu.size, fun k hk => hu.old k hk (by omega)⟩
  refine ⟨_, he, ds, [], p ++ [], [], p, [], hW0, ?_, ?_, ?_, kept_upd hu _, fun h => by cases h⟩
  · rw [List.append_nil, hfn ds (by simpa using hlen), hres]
    exact ⟨[], [], ⟨1, by simp [DataW.trod, Value.cells, htb]⟩, rfl, rfl⟩
  · rw [List.append_nil, hfn ds (by simpa using hlen)]
    exact Below.trodAll hlay hbel hread hA
  · rw [List.append_nil, hfn ds (by simpa using hlen), hv]
    rfl
end
end Go.Ev
namespace Go.Ev
section
variable {P : Program} {ρ : Ren}
mutual
theorem dD2 {g : Nat → Nat} {n : Nat} (hg : ∀ i, i < n → g i = i) : ∀ (a : AV), idsB n a = true → renA g a = a
  | .pt id p r, h => by simp only [renA]; rw [hg id (by rw [← Nat.blt_eq]; exact h)]
  | .sl id p lo len tip, h => by simp only [renA]; rw [hg id (by rw [← Nat.blt_eq]; exact h)]
  | .mp id, h => by simp only [renA]; rw [hg id (by rw [← Nat.blt_eq]; exact h)]
  | .fn f caps, h => by simp only [renA]; rw [aS5 hg caps h]
  | .agg l, h => by simp only [renA]; rw [aS5 hg l h]
  | .arr n s f, h => by
    simp only [idsB, Bool.not_eq_true'] at h
    unfold renA
    rw [h, cond_false]
  | .un, _ => rfl
  | .bl _, _ => rfl
  | .it _ _, _ => rfl
  | .st _, _ => rfl
  | .nl, _ => rfl
  | .nsl, _ => rfl
  | .nfn, _ => rfl
  | .nmp, _ => rfl
  | .nif, _ => rfl
  | .tup _, _ => rfl
  | .gd _ _ _, _ => rfl
theorem aS5 {g : Nat → Nat} {n : Nat} (hg : ∀ i, i < n → g i = i) : ∀ (l : List AV), bc0 n l = true → aR5 g l = l
  | [], _ => rfl
  | a :: l, h => by
    simp only [bc0, Bool.and_eq_true] at h
    simp only [aR5]
    rw [dD2 hg a h.1, aS5 hg l h.2]
end
mutual
theorem cT5 {n n' : Nat} (hn : n ≤ n') : ∀ (a : AV), idsB n a = true → idsB n' a = true
  | .pt id p r, h => by
    have : id < n := by rw [← Nat.blt_eq]; exact h
    exact (Nat.blt_eq ..).symm ▸ (show id < n' by omega)
  | .sl id p lo len tip, h => by
    have : id < n := by rw [← Nat.blt_eq]; exact h
    exact (Nat.blt_eq ..).symm ▸ (show id < n' by omega)
  | .mp id, h => by
    have : id < n := by rw [← Nat.blt_eq]; exact h
    exact (Nat.blt_eq ..).symm ▸ (show id < n' by omega)
  | .fn f caps, h => aH1 hn caps h
  | .agg l, h => aH1 hn l h
  | .arr n s f, h => h
  | .un, h => h
  | .bl _, h => h
  | .it _ _, h => h
  | .st _, h => h
  | .nl, h => h
  | .nsl, h => h
  | .nfn, h => h
  | .nmp, h => h
  | .nif, h => h
  | .tup _, h => h
  | .gd _ _ _, h => h
theorem aH1 {n n' : Nat} (hn : n ≤ n') : ∀ (l : List AV), bc0 n l = true → bc0 n' l = true
  | [], _ => rfl
  | a :: l, h => by
    simp only [bc0, Bool.and_eq_true] at h ⊢
    exact ⟨cT5 hn a h.1, aH1 hn l h.2⟩
end
theorem ca5 {g : Nat → Nat} {n : Nat} (hg : ∀ i, i < n → g i = i) {b : Blk} (h : aa0 n b = true) : renB g b = b := by
  cases b with
  | cells t wr =>
    simp only [aa0, Bool.or_eq_true] at h
    rcases h with h | h
    · exact bJ5 g h
    · simp only [renB]; rw [dD2 hg t h]
  | map l => rfl
  | obj k st ps hn =>
    simp only [aa0, Bool.and_eq_true] at h
    simp only [renB]; rw [aS5 hg ps h.1, hg hn (by rw [← Nat.blt_eq]; exact h.2)]
  | rob k st ps hn =>
    simp only [aa0, Bool.and_eq_true] at h
    simp only [renB]; rw [aS5 hg ps h.1, hg hn (by rw [← Nat.blt_eq]; exact h.2)]
theorem dk7 {n n' : Nat} (hn : n ≤ n') {b : Blk} (h : aa0 n b = true) : aa0 n' b = true := by
  cases b with
  | cells t wr =>
    simp only [aa0, Bool.or_eq_true] at h ⊢
    rcases h with h | h
    · exact .inl h
    · exact .inr (cT5 hn t h)
  | map l => cases h
  | obj k st ps hh =>
    simp only [aa0, Bool.and_eq_true, Nat.blt_eq] at h ⊢
    exact ⟨aH1 hn ps h.1, by omega⟩
  | rob k st ps hh =>
    simp only [aa0, Bool.and_eq_true, Nat.blt_eq] at h ⊢
    exact ⟨aH1 hn ps h.1, by omega⟩
theorem Back.gen {n0 n2 : Nat} {τ : Nat → Nat} {fr' fr : Fr} {m' m : Mem} (hτ : ∀ i, i < n0 → τ i = i) (hn : n0 ≤ n2) (hnF : fr.n = fr'.n)
    (hF : ∀ t v, fr.get t = some v → ∃ v', fr'.get t = some v' ∧ (∀ (ρ : Ren) rv, VR3 ρ v' rv → VR3 (ρ.by τ n2) v rv) ∧ isGd v = false ∧ isGd v' = false)
    (hM : ∀ i b, m.get i = some b → i < n2 ∧ aa0 n2 b = true ∧ m'.get (τ i) = some (renB τ b) ∧ ∀ t wr, b = .cells t wr → renA τ t = t)
    (hinj : ∀ i j b b', m.get i = some b → m.get j = some b' → i ≠ j → τ i ≠ τ j) (hmn : m.n = n2) : Back n0 fr' m' fr m := fun ρ A w a hf hR => by
  have ng : ∀ v : AV, isGd v = false → ∀ t w u, v ≠ .gd t w u := fun v h t w u e => by subst e; cases h
  refine ⟨ρ.by τ n2, fun ρ0 h0 hlt he => ⟨⟨fun i hi => ?_, fun i hi => ?_, fun i hi => ?_, fun i hi => ?_, fun i hi => ?_, fun i hi => ?_⟩, by rw [h0]; exact hn, fun i hi h => ?_⟩, ⟨hf.size.trans hnF.symm, fun t v hv => ?_⟩, ?_⟩
  · have := hlt i hi
    refine ⟨by omega, ?_⟩
    rw [hτ i (by omega)]; exact he.dom i hi
  · have := hlt i hi
    show ρ.bb (τ i) = _
    rw [hτ i (by omega)]; exact he.bb i hi
  · have := hlt i hi
    show ρ.bo (τ i) = _
    rw [hτ i (by omega)]; exact he.bo i hi
  · have := hlt i hi
    show ρ.sh (τ i) = _
    rw [hτ i (by omega)]; exact he.sh i hi
  · have := hlt i hi
    show ρ.room (τ i) = _
    rw [hτ i (by omega)]; exact he.room i hi
  · have := hlt i hi
    show ρ.ft (τ i) = _
    rw [hτ i (by omega)]; exact he.ft i hi
  · have h2 := hi.2
    rw [hτ i (by omega)] at h2
    exact he.old i h2 h
  · obtain ⟨v', h1, h2, g1, g2⟩ := hF t v hv
    have h3 := hf.get t v' h1
    have h4 := h2 ρ _ (bj7 (ng v' g2) h3)
    cases v <;> first | exact h4 | cases g1
  · refine ⟨hmn.symm, fun i hi => hi.1, fun i b hb => ?_, fun i j bi bj hi hj hij hw => ?_, hR.new, hR.tab⟩
    · obtain ⟨h1, h2, h3, h4⟩ := hM i b hb
      obtain ⟨g1, g2⟩ := hR.blk _ _ h3
      refine ⟨⟨h1, g1⟩, H5.unren h2 (fun t wr e => ?_) g2 fun hwr x hx => g2.wrA (by rw [bJ7]; exact hwr) x hx⟩
      have h5 := h4 t wr e
      subst e
      have g3 := g2.2.1
      rw [h5] at g3
      exact g3
    · obtain ⟨_, _, h3, _⟩ := hM i bi hi
      obtain ⟨_, _, h3', _⟩ := hM j bj hj
      exact fun x hx hx' => hR.sep _ _ _ _ h3 h3' (hinj i j _ _ hi hj hij) (by rw [bJ7]; exact hw) x (cd7.1 hx) (cd7.1 hx')
def idOk1 (n0 : Nat) : AV → Bool
  | .pt id _ _ => Nat.blt id n0
  | .sl id _ _ _ _ => Nat.blt id n0
  | v => plain v
def idOk (n0 : Nat) : AV → Bool
  | .fn _ caps => caps.all (idOk1 n0)
  | v => idOk1 n0 v
theorem blt_lt {a b : Nat} (h : Nat.blt a b = true) : a < b := by rw [Nat.blt_eq] at h; exact h
theorem cG9 {n0 n2 : Nat} {τ : Nat → Nat} (hτ : ∀ i, i < n0 → τ i = i) (hn : n0 ≤ n2) {v : AV} (h : idOk1 n0 v = true) {rv : Value} (hv : VR2 ρ v rv) : VR2 (ρ.by τ n2) v rv := by
  cases v with
  | pt id p r =>
    have hid := blt_lt h
    obtain ⟨g1, g2, t, o, g3, g4⟩ := hv
    have e := hτ id hid
    refine ⟨⟨by omega, by rw [e]; exact g1⟩, ?_, t, o, ?_, ?_⟩
    · show ρ.sh (τ id) = r
      rw [e]; exact g2
    · show G5 (ρ.sh (τ id)) p t o
      rw [e]; exact g3
    · show rv = .pointer (some ⟨ρ.bb (τ id), ρ.bo (τ id) + o, none⟩)
      rw [e]; exact g4
  | sl id p lo len tip =>
    have hid := blt_lt h
    obtain ⟨g1, n, s, o, off, c, g2, g3, g4, g5, g6, g7⟩ := hv
    have e := hτ id hid
    refine ⟨⟨by omega, by rw [e]; exact g1⟩, n, s, o, off, c, ?_, g3, g4, ?_, ?_, ?_⟩
    · show G5 (ρ.sh (τ id)) p (.arr n s) o
      rw [e]; exact g2
    · show rv = .slice (some ⟨ρ.bb (τ id), off, none⟩) len c
      rw [e]; exact g5
    · show 0 < c → off = ρ.bo (τ id) + o + lo * s.size
      rw [e]; exact g6
    · show tip = true → p = [] ∧ lo + len = n ∧ (0 < c → (lo + c) * s.size ≤ ρ.room (τ id))
      rw [e]; exact g7
  | _ => exact bX3 h hv
theorem dQ4 {v : AV} {rv : Value} (h : ∀ l, v ≠ .agg l) (h2 : ∀ n s f, v ≠ .arr n s f) (hv : VR2 ρ v rv) : VR1 ρ v rv := by
  cases v <;> first | exact hv | exact absurd rfl (h _) | exact absurd rfl (h2 _ _ _)
theorem VR1_VR2 {v : AV} {rv : Value} (hv : VR1 ρ v rv) : VR2 ρ v rv := by
  cases v <;> first | exact hv | exact hv.elim
theorem idOk_ok {n0 n2 : Nat} {τ : Nat → Nat} (hτ : ∀ i, i < n0 → τ i = i) (hn : n0 ≤ n2) {v : AV} (h : idOk n0 v = true) {rv : Value} (hv : VR3 ρ v rv) : VR3 (ρ.by τ n2) v rv := by
  cases v with
  | fn f caps =>
    obtain ⟨cs, h1, h2⟩ := hv
    refine ⟨cs, h1, ?_⟩
    have hc : ∀ a ∈ caps, idOk1 n0 a = true := List.all_eq_true.1 h
    clear h h1
    generalize cs.toList = z at h2
    induction caps generalizing z with
    | nil => cases z with
      | nil => exact trivial
      | cons => exact h2.elim
    | cons a l ih => cases z with
      | nil => exact h2.elim
      | cons b z =>
        refine ⟨?_, ih (fun x hx => hc x (List.mem_cons_of_mem _ hx)) z h2.2⟩
        have ha := h2.1
        have hk := cG9 hτ hn (hc a List.mem_cons_self) (VR1_VR2 ha)
        refine dQ4 (fun l e => ?_) (fun n s f e => ?_) hk
        · subst e; exact ha.elim
        · subst e; exact ha.elim
  | tup l => exact ao0 h hv
  | pt id p r => exact cG9 (v := .pt id p r) hτ hn h hv
  | sl id p lo len tip => exact cG9 (v := .sl id p lo len tip) hτ hn h hv
  | _ => exact ao0 h hv
theorem idOk_gd {n0 : Nat} {v : AV} (h : idOk n0 v = true) : isGd v = false := by
  cases v <;> first | rfl | cases h
inductive Bk where
  | ce (wr : Bool)
  | ob (k : Nat) (ps : List (Nat × Sh))
instance : Coe Bool Bk := ⟨.ce⟩
def ptrs (l : List (Nat × Sh)) : List AV := l.map fun x => .pt x.1 [] x.2
def ptrsB : List (Nat × Sh) → List AV → Bool
  | [], [] => true
  | (id, r) :: k, .pt id' [] r' :: l => Nat.beq id id' && r.beq r' && ptrsB k l
  | _, _ => false
theorem dB2 : ∀ {k : List (Nat × Sh)} {l : List AV}, ptrsB k l = true → ptrs k = l
  | [], [], _ => rfl
  | [], _ :: _, h => by cases h
  | _ :: _, [], h => by cases h
  | (id, r) :: k, a :: l, h => by
    unfold ptrsB at h
    split at h <;> try (cases h; done)
    · rename_i h1 h2; cases h1
    · rename_i h1 h2
      cases h1; cases h2
      simp only [Bool.and_eq_true, Nat.beq_eq] at h
      have h3 := Sh.beq_eq _ _ h.1.2
      have h4 := dB2 h.2
      unfold ptrs at h4 ⊢
      simp [h.1.1, h3, h4]
def Bk.mk : Bk → AV → Nat → Blk
  | .ce wr, v, _ => .cells v wr
  | .ob k ps, v, h => .obj k v (ptrs ps) h
def Bk.of : Bk → Blk → Option AV
  | .ce wr, .cells v wr' => bif wr == wr' then some v else none
  | .ob k ps, .obj k' st ps' _ => bif Nat.beq k k' && ptrsB ps ps' then some st else none
  | _, _ => none
def dS7 : Blk → Nat
  | .obj _ _ _ h => h
  | _ => 0
theorem Bk.of_ok {w : Bk} {b : Blk} {v : AV} (h : w.of b = some v) : b = w.mk v (dS7 b) := by
  unfold Bk.of at h
  split at h <;> try (cases h; done)
  · rename_i wr v' wr'
    cases hw : wr == wr' with
    | false => rw [hw] at h; cases h
    | true =>
      rw [hw, cond_true] at h
      cases h
      rw [beq_iff_eq.1 hw]; rfl
  · rename_i k ps k' st ps' hh
    cases hw : Nat.beq k k' && ptrsB ps ps' with
    | false => rw [hw] at h; cases h
    | true =>
      rw [hw, cond_true] at h
      cases h
      simp only [Bool.and_eq_true, Nat.beq_eq] at hw
      rw [hw.1, ← dB2 hw.2]; rfl
structure Lq where
  n : Nat
  n0 : Nat
  ts : List Nat
  mv : List Nat
  ids : List (Nat × Bk)
def getB (m : Mem) : List (Nat × Bk) → Option (List AV)
  | [] => some []
  | (i, w) :: r => match m.get i with
    | some b => (match w.of b, getB m r with
      | some v, some l => some (v :: l)
      | _, _ => none)
    | none => none
def getH (m : Mem) : List (Nat × Bk) → List Nat
  | [] => []
  | (i, _) :: r => (match m.get i with | some b => dS7 b | none => 0) :: getH m r
def mvOf (k : Nat) : AV → Option (Nat × AV)
  | .sl id [] lo len tip => some (id, .sl k [] lo len tip)
  | .pt id [] r => some (id, .pt k [] r)
  | _ => none
def getV (fr : Fr) (m : Mem) : List Nat → Nat → Option (List AV × List AV × List Nat)
  | [], _ => some ([], [], [])
  | t :: r, k => match fr.get t with
    | some v => match mvOf k v with
      | some (id, v') => match m.get id, getV fr m r (k + 1) with
        | some (.cells u true), some (a, b, c) => some (v' :: a, u :: b, id :: c)
        | _, _ => none
      | none => none
    | none => none
def aI4 : List Nat → Bool
  | [] => true
  | a :: r => (r.all fun b => !Nat.beq a b) && aI4 r
def putW : List (Nat × Bk) → List AV → Nat → Tr Blk → Tr Blk
  | (i, w) :: ts, v :: l, k, x => putW ts l (k + 1) (x.set (some (w.mk v k)) i)
  | _, _, _, x => x
def Bk.isOb : Bk → Bool
  | .ce _ => false
  | .ob _ _ => true
def obN (l : List (Nat × Bk)) : Nat := bif l.any fun x => x.2.isOb then l.length else 0
def cY2 (k : Nat) : List Nat → List (Nat × Bk)
  | [] => []
  | _ :: r => (k, .ce true) :: cY2 (k + 1) r
def Lq.F (L : Lq) (l : List AV) : Fr := mkF L.n (L.ts ++ L.mv) (l.take (L.ts.length + L.mv.length))
def Lq.M (L : Lq) (l : List AV) : Mem := { n := L.n0 + L.mv.length + obN L.ids, t := putW (L.ids ++ cY2 L.n0 L.mv) (l.drop (L.ts.length + L.mv.length)) (L.n0 + L.mv.length) (Tr.mk 12) }
def aZ3 (L : Lq) : Kc := fun e fr m =>
  bif Nat.beq fr.n L.n then (match exNo e, getS fr L.ts, getV fr m L.mv L.n0, getB m L.ids with
    | some c, some l, some (a, b, q), some l' => bif aI4 q && (q.all fun j => L.ids.all fun x => !Nat.beq x.1 j) then some (true, .tup (.it .i64 c :: (l ++ a ++ (l' ++ b)))) else none
    | _, _, _, _ => none) else none
theorem bZ0 {L : Lq} {e : Exit} {fr : Fr} {m : Mem} {r : Out} (h : aZ3 L e fr m = some r) :
    fr.n = L.n ∧ ∃ c l a b q l', exNo e = some c ∧ getS fr L.ts = some l ∧ getV fr m L.mv L.n0 = some (a, b, q) ∧ getB m L.ids = some l' ∧ (aI4 q && (q.all fun j => L.ids.all fun x => !Nat.beq x.1 j)) = true ∧
      r = (true, .tup (.it .i64 c :: (l ++ a ++ (l' ++ b)))) := by
  unfold aZ3 at h
  cases hp : Nat.beq fr.n L.n with
  | false => rw [hp] at h; cases h
  | true =>
  rw [hp, cond_true] at h
  split at h <;> try (cases h; done)
  rename_i c l a b q l' h1 h2 h3 h4
  cases hb : aI4 q && (q.all fun j => L.ids.all fun x => !Nat.beq x.1 j) with
  | false => rw [hb] at h; cases h
  | true =>
  rw [hb, cond_true] at h
  cases h
  exact ⟨Nat.eq_of_beq_eq_true hp, c, l, a, b, q, l', h1, h2, h3, h4, hb, rfl⟩
theorem dG4 {fr : Fr} {m : Mem} : ∀ {ts : List Nat} {k : Nat} {a b : List AV} {q : List Nat}, getV fr m ts k = some (a, b, q) → a.length = ts.length ∧ b.length = ts.length ∧ q.length = ts.length
  | [], _, _, _, _, h => by cases h; exact ⟨rfl, rfl, rfl⟩
  | t :: r, k, a, b, q, h => by
    simp only [getV] at h
    split at h <;> try (cases h; done)
    split at h <;> try (cases h; done)
    split at h <;> try (cases h; done)
    rename_i h2
    cases h
    obtain ⟨g1, g2, g3⟩ := dG4 h2
    simp [g1, g2, g3]
theorem dw6 {fr : Fr} {m : Mem} : ∀ {ts : List Nat} {k : Nat} {a b : List AV} {q : List Nat}, getV fr m ts k = some (a, b, q) → ∀ (j : Nat) (t : Nat), ts[j]? = some t →
    ∃ id v0 v' u, fr.get t = some v0 ∧ mvOf (k + j) v0 = some (id, v') ∧ m.get id = some (.cells u true) ∧ a[j]? = some v' ∧ b[j]? = some u ∧ q[j]? = some id
  | [], _, _, _, _, _, j, t, ht => by simp at ht
  | u :: r, k, a, b, q, h, j, t, ht => by
    simp only [getV] at h
    split at h <;> try (cases h; done)
    rename_i v0 hu
    split at h <;> try (cases h; done)
    rename_i id v' hv
    split at h <;> try (cases h; done)
    rename_i w a' b' q' h1 h2
    cases h
    cases j with
    | zero =>
      simp at ht; subst ht
      exact ⟨id, v0, v', w, hu, hv, h1, rfl, rfl, rfl⟩
    | succ j =>
      obtain ⟨id', v0', v1', u', g1, g2, g3, g4, g5, g6⟩ := dw6 h2 j t (by simpa using ht)
      exact ⟨id', v0', v1', u', g1, by rw [show k + (j + 1) = k + 1 + j by omega]; exact g2, g3, by simpa using g4, by simpa using g5, by simpa using g6⟩
theorem dq4 {k : Nat} {v0 v' : AV} {id : Nat} (h : mvOf k v0 = some (id, v')) : isGd v0 = false ∧ isGd v' = false ∧ v'.wf := by
  unfold mvOf at h
  split at h <;> try (cases h; done)
  · cases h; exact ⟨rfl, rfl, trivial⟩
  · cases h; exact ⟨rfl, rfl, trivial⟩
theorem mvOf_ok {τ : Nat → Nat} {n2 k : Nat} {v0 v' : AV} {id : Nat} (h : mvOf k v0 = some (id, v')) (e : τ k = id) (hk : k < n2) {rv : Value} (hv : VR3 ρ v0 rv) : VR3 (ρ.by τ n2) v' rv := by
  unfold mvOf at h
  split at h <;> try (cases h; done)
  · cases h
    obtain ⟨g1, n, s, o, off, c, g2, g3, g4, g5, g6, g7⟩ := hv
    refine ⟨⟨hk, by rw [e]; exact g1⟩, n, s, o, off, c, ?_, g3, g4, ?_, ?_, ?_⟩
    · show G5 (ρ.sh (τ k)) [] (.arr n s) o
      rw [e]; exact g2
    · show rv = .slice (some ⟨ρ.bb (τ k), off, none⟩) _ c
      rw [e]; exact g5
    · show 0 < c → off = ρ.bo (τ k) + o + _ * s.size
      rw [e]; exact g6
    · show _ = true → [] = [] ∧ _ = n ∧ (0 < c → (_ + c) * s.size ≤ ρ.room (τ k))
      rw [e]; exact g7
  · cases h
    obtain ⟨g1, g2, t, o, g3, g4⟩ := hv
    refine ⟨⟨hk, by rw [e]; exact g1⟩, ?_, t, o, ?_, ?_⟩
    · show ρ.sh (τ k) = _
      rw [e]; exact g2
    · show G5 (ρ.sh (τ k)) [] t o
      rw [e]; exact g3
    · show rv = .pointer (some ⟨ρ.bb (τ k), ρ.bo (τ k) + o, none⟩)
      rw [e]; exact g4
theorem getB_at {m : Mem} : ∀ {ts : List (Nat × Bk)} {l : List AV}, getB m ts = some l → l.length = ts.length ∧ ∀ (k : Nat) (t : Nat × Bk) (v : AV), ts[k]? = some t → l[k]? = some v → m.get t.1 = some (t.2.mk v ((getH m ts).getD k 0))
  | [], l, h => by cases h; exact ⟨rfl, fun k t v h1 => by simp at h1⟩
  | (i, w) :: ts, l, h => by
    simp only [getB] at h
    split at h <;> try (cases h; done)
    rename_i bb g1
    split at h <;> try (cases h; done)
    rename_i v l' gw g2
    cases h
    have he := Bk.of_ok gw
    obtain ⟨k1, k2⟩ := getB_at g2
    refine ⟨by simp [k1], fun k t u h1 h2 => ?_⟩
    cases k with
    | zero =>
      simp at h1 h2; subst h1; subst h2
      simp only [getH, g1, List.getD_cons_zero]
      exact congrArg some he
    | succ k => exact k2 k t u (by simpa using h1) (by simpa using h2)
theorem dI9 : ∀ (ts : List (Nat × Bk)) (l : List AV) (n : Nat) (x : Tr Blk) (t : Nat) (b : Blk), (putW ts l n x).get t = some b → (∃ (k : Nat) (w : Bk) (v : AV), ts[k]? = some (t, w) ∧ l[k]? = some v ∧ b = w.mk v (n + k)) ∨ x.get t = some b
  | [], _, _, x, t, v, h => .inr h
  | _ :: _, [], _, x, t, v, h => .inr h
  | (u, w) :: ts, a :: l, n, x, t, b, h => by
    simp only [putW] at h
    rcases dI9 ts l _ _ t b h with ⟨k, w', v, h1, h2, h3⟩ | h1
    · exact .inl ⟨k + 1, w', v, by simpa using h1, by simpa using h2, by rw [h3]; congr 1; omega⟩
    · rcases Tr.get_set _ x u t b h1 with ⟨rfl, h2⟩ | ⟨_, h2⟩
      · exact .inl ⟨0, w, a, rfl, rfl, (Option.some.inj h2).symm⟩
      · exact .inr h2
theorem cL2 : ∀ {ts : List Nat} {k j : Nat} {x : Nat × Bk}, (cY2 k ts)[j]? = some x → j < ts.length ∧ x = (k + j, .ce true)
  | [], _, _, _, h => by simp [cY2] at h
  | t :: r, k, j, x, h => by
    cases j with
    | zero => simp [cY2] at h; subst h; exact ⟨by simp, rfl⟩
    | succ j =>
      simp only [cY2, List.getElem?_cons_succ] at h
      obtain ⟨h1, rfl⟩ := cL2 h
      exact ⟨by simpa using h1, by rw [show k + 1 + j = k + (j + 1) by omega]⟩
theorem cM7 : ∀ {q : List Nat}, aI4 q = true → ∀ (i j a b : Nat), q[i]? = some a → q[j]? = some b → i ≠ j → a ≠ b
  | [], _, i, j, a, b, h1, _, _ => by simp at h1
  | c :: r, h, i, j, a, b, h1, h2, hij => by
    simp only [aI4, Bool.and_eq_true, List.all_eq_true] at h
    have hc : ∀ x ∈ r, c ≠ x := fun x hx e => by
      have := h.1 x hx
      subst e
      simp at this
    cases i with
    | zero => cases j with
      | zero => exact absurd rfl hij
      | succ j =>
        simp at h1 h2; subst h1
        exact hc b (List.mem_of_getElem? h2)
    | succ i => cases j with
      | zero =>
        simp at h1 h2; subst h2
        exact fun e => hc a (List.mem_of_getElem? h1) e.symm
      | succ j =>
        exact cM7 h.2 i j a b (by simpa using h1) (by simpa using h2) (by omega)
def Bk.ids (n0 : Nat) : Bk → Bool
  | .ce _ => true
  | .ob _ ps => ps.all fun x => Nat.blt x.1 n0
def Lq.wf (L : Lq) : Bool := L.ids.all fun x => Nat.blt x.1 L.n0 && x.2.ids L.n0
def okBs (n0 : Nat) : List (Nat × Bk) → List AV → Bool
  | (_, .ce _) :: ts, v :: l => (plain v || idsB n0 v) && okBs n0 ts l
  | (_, .ob _ _) :: ts, _ :: l => okBs n0 ts l
  | _, _ => true
theorem dr6 {n0 n2 : Nat} (hn : n0 ≤ n2) : ∀ {ts : List (Nat × Bk)} {l : List AV}, okBs n0 ts l = true → (ts.all fun x => x.2.ids n0) = true → ∀ (k i : Nat) (w : Bk) (v : AV) (h : Nat), ts[k]? = some (i, w) → l[k]? = some v → (w.isOb = true → h < n2) →
    aa0 n2 (w.mk v h) = true ∧ (w.isOb = false → aa0 n0 (w.mk v h) = true) ∧ bc0 n0 (match w with | .ob _ ps => ptrs ps | .ce _ => []) = true
  | [], _, _, _, k, i, w, v, _, h1, _, _ => by simp at h1
  | _ :: _, [], _, _, k, i, w, v, _, _, h2, _ => by simp at h2
  | (i0, w0) :: ts, v0 :: l, h, hw, k, i, w, v, hh, h1, h2, hlt => by
    simp only [List.all_cons, Bool.and_eq_true] at hw
    cases k with
    | zero =>
      simp at h1 h2
      obtain ⟨rfl, rfl⟩ := h1
      subst h2
      cases w0 with
      | ce wr =>
        simp only [okBs, Bool.and_eq_true] at h
        exact ⟨dk7 hn (b := .cells v0 wr) h.1, fun _ => h.1, rfl⟩
      | ob k ps =>
        have : ∀ l : List (Nat × Sh), (l.all fun x => Nat.blt x.1 n0) = true → bc0 n0 (ptrs l) = true := fun l => by
          induction l with
          | nil => intro _; rfl
          | cons a l ih =>
            intro h
            simp only [List.all_cons, Bool.and_eq_true] at h
            show (Nat.blt a.1 n0 && bc0 n0 (ptrs l)) = true
            rw [h.1, ih h.2]; rfl
        have hp := this ps hw.1
        refine ⟨?_, (fun h => by cases h), hp⟩
        show (bc0 n2 (ptrs ps) && Nat.blt hh n2) = true
        rw [aH1 hn _ hp, Bool.true_and, Nat.blt_eq]
        exact hlt rfl
    | succ k =>
      have h' : okBs n0 ts l = true := by
        cases w0 with
        | ce wr =>
          simp only [okBs, Bool.and_eq_true] at h
          exact h.2
        | ob k ps => exact h
      exact dr6 hn h' hw.2 k i w v hh (by simpa using h1) (by simpa using h2) hlt
def Lq.ok (L : Lq) (l : List AV) : Bool := (l.take L.ts.length).all (idOk L.n0) && okBs L.n0 (L.ids ++ cY2 L.n0 L.mv) (l.drop (L.ts.length + L.mv.length))
theorem Lq.back {L : Lq} (hL : L.wf = true) {fr : Fr} {m : Mem} {l a b l' : List AV} {q : List Nat} (hn : fr.n = L.n) (h1 : getS fr L.ts = some l) (h2 : getV fr m L.mv L.n0 = some (a, b, q)) (h3 : getB m L.ids = some l')
    (hq : (aI4 q && (q.all fun j => L.ids.all fun x => !Nat.beq x.1 j)) = true) (hok : L.ok (l ++ a ++ (l' ++ b)) = true) : Back L.n0 fr m (L.F (l ++ a ++ (l' ++ b))) (L.M (l ++ a ++ (l' ++ b))) := by
  have k1 := bZ2 h1
  obtain ⟨k2, k3, k4⟩ := dG4 h2
  obtain ⟨k5, k6⟩ := getB_at h3
  simp only [Bool.and_eq_true] at hq
  obtain ⟨hq1, hq2⟩ := hq
  have hL2 : ((L.ids ++ cY2 L.n0 L.mv).all fun x => x.2.ids L.n0) = true := by
    rw [List.all_append, Bool.and_eq_true]
    refine ⟨List.all_eq_true.2 fun x hx => ?_, List.all_eq_true.2 fun x hx => ?_⟩
    · have := List.all_eq_true.1 hL x hx
      simp only [Bool.and_eq_true] at this
      exact this.2
    · obtain ⟨j, hj⟩ := List.getElem?_of_mem hx
      obtain ⟨_, rfl⟩ := cL2 hj
      rfl
  simp only [Lq.wf, List.all_eq_true, Nat.blt_eq, Bool.and_eq_true] at hL
  have hlen : (l ++ a).length = L.ts.length + L.mv.length := by simp [k1, k2]
  have htake : (l ++ a ++ (l' ++ b)).take (L.ts.length + L.mv.length) = l ++ a := by rw [← hlen]; exact List.take_left
  have hdrop : (l ++ a ++ (l' ++ b)).drop (L.ts.length + L.mv.length) = l' ++ b := by rw [← hlen]; exact List.drop_left
  simp only [Lq.ok, Bool.and_eq_true, List.all_eq_true] at hok
  obtain ⟨ho1, ho2⟩ := hok
  rw [hdrop] at ho2
  have htk : (l ++ a ++ (l' ++ b)).take L.ts.length = l := by rw [List.append_assoc, ← k1]; exact List.take_left
  rw [htk] at ho1

  let τ : Nat → Nat := fun i => if i < L.n0 then i else if i < L.n0 + L.mv.length then q.getD (i - L.n0) 0 else (getH m L.ids).getD (i - (L.n0 + L.mv.length)) 0
  have hτ : ∀ i, i < L.n0 → τ i = i := fun i hi => if_pos hi
  have hτ2 : ∀ j id, q[j]? = some id → τ (L.n0 + j) = id := fun j id hj => by
    have hjl : j < L.mv.length := by rw [← k4]; exact (List.getElem?_eq_some_iff.1 hj).1
    show (if L.n0 + j < L.n0 then L.n0 + j else if L.n0 + j < L.n0 + L.mv.length then q.getD (L.n0 + j - L.n0) 0 else _) = id
    rw [if_neg (by omega), if_pos (by omega), Nat.add_sub_cancel_left, List.getD_eq_getElem?_getD, hj]; rfl
  have hτ3 : ∀ k, τ (L.n0 + L.mv.length + k) = (getH m L.ids).getD k 0 := fun k => by
    show (if L.n0 + L.mv.length + k < L.n0 then _ else if L.n0 + L.mv.length + k < L.n0 + L.mv.length then _ else (getH m L.ids).getD (L.n0 + L.mv.length + k - (L.n0 + L.mv.length)) 0) = _
    rw [if_neg (by omega), if_neg (by omega), Nat.add_sub_cancel_left]
  have hob : ∀ k i w, L.ids[k]? = some (i, w) → w.isOb = true → k < obN L.ids := fun k i w hk hw => by
    have : (L.ids.any fun x => x.2.isOb) = true := List.any_eq_true.2 ⟨_, List.mem_of_getElem? hk, hw⟩
    unfold obN
    rw [this, cond_true]
    exact (List.getElem?_eq_some_iff.1 hk).1

  have hblk : ∀ i bl, (L.M (l ++ a ++ (l' ++ b))).get i = some bl → (∃ k w v, (i, w) ∈ L.ids ∧ bl = Bk.mk w v (L.n0 + L.mv.length + k) ∧ aa0 (L.n0 + L.mv.length + obN L.ids) bl = true ∧ i < L.n0 ∧ m.get i = some (renB τ bl) ∧ ∀ t wr, bl = .cells t wr → renA τ t = t) ∨
      (∃ j v id, i = L.n0 + j ∧ bl = .cells v true ∧ aa0 (L.n0 + L.mv.length + obN L.ids) bl = true ∧ q[j]? = some id ∧ j < L.mv.length ∧ m.get id = some (renB τ bl) ∧ renA τ v = v) := fun i bl hb => by
    unfold Lq.M at hb
    rw [hdrop] at hb
    rcases dI9 _ _ _ _ i bl hb with ⟨k, w, v, g1, g2, rfl⟩ | g
    · rcases Nat.lt_or_ge k L.ids.length with hk | hk
      · have g1' := g1
        rw [List.getElem?_append_left hk] at g1'
        obtain ⟨o1, o2, o3⟩ := dr6 (n2 := L.n0 + L.mv.length + obN L.ids) (by omega) ho2 hL2 k i w v (L.n0 + L.mv.length + k) g1 g2 fun hw => by
          have := hob k i w g1' hw; omega
        rw [List.getElem?_append_left hk] at g1
        rw [List.getElem?_append_left (by omega)] at g2
        have hm := List.mem_of_getElem? g1
        have hg := k6 k (i, w) v g1 g2
        have hren : renB τ (w.mk v (L.n0 + L.mv.length + k)) = w.mk v ((getH m L.ids).getD k 0) := by
          cases w with
          | ce wr => exact ca5 hτ (o2 rfl)
          | ob kd ps =>
            show Blk.obj kd v (aR5 τ (ptrs ps)) (τ (L.n0 + L.mv.length + k)) = .obj kd v (ptrs ps) _
            rw [hτ3, aS5 hτ (ptrs ps) o3]
        refine .inl ⟨k, w, v, hm, rfl, o1, (hL _ hm).1, by rw [hren]; exact hg, fun t wr e => ?_⟩
        cases w with
        | ob kd ps => cases e
        | ce wr' =>
          have e1 : renB τ (.cells v wr') = .cells v wr' := ca5 hτ (o2 rfl)
          cases e
          injection e1
      · have g1' := g1
        rw [List.getElem?_append_right hk] at g1
        obtain ⟨hj, e⟩ := cL2 g1
        cases e
        obtain ⟨o1, o2, o3⟩ := dr6 (n2 := L.n0 + L.mv.length + obN L.ids) (by omega) ho2 hL2 k _ _ v (L.n0 + L.mv.length + k) g1' g2 fun hw => by cases hw
        rw [List.getElem?_append_right (by omega)] at g2
        rw [k5] at g2
        obtain ⟨id, v0, v', u, q0, q1, q2, q3, q4, q5⟩ := dw6 h2 (k - L.ids.length) _ (List.getElem?_eq_getElem hj)
        rw [g2] at q4; cases q4
        have hren : renB τ (.cells v true) = .cells v true := ca5 hτ (o2 rfl)
        refine .inr ⟨_, _, id, rfl, rfl, o1, q5, hj, by show m.get id = some (renB τ (.cells v true)); rw [hren]; exact q2, by injection hren⟩
    · rw [Tr.get_mk] at g; cases g
  refine Back.gen (n2 := L.n0 + L.mv.length + obN L.ids) (τ := τ) hτ (by omega) hn.symm (fun t v hv => ?_) (fun i bl hb => ?_) (fun i j bi bj hi hj hij => ?_) rfl
  · unfold Lq.F at hv
    rw [htake] at hv
    obtain ⟨k, g1, g2⟩ := cg6 hv
    rcases Nat.lt_or_ge k L.ts.length with hk | hk
    · rw [List.getElem?_append_left hk] at g1
      rw [List.getElem?_append_left (by omega)] at g2
      have hi := ho1 v (List.mem_of_getElem? g2)
      exact ⟨v, dw9 h1 k t v g1 g2, fun ρ rv h => idOk_ok hτ (by omega) hi h, idOk_gd hi, idOk_gd hi⟩
    · rw [List.getElem?_append_right hk] at g1
      rw [List.getElem?_append_right (by omega), k1] at g2
      obtain ⟨id, v0, v', u, q0, q1, q2, q3, q4, q5⟩ := dw6 h2 _ _ g1
      rw [g2] at q3; cases q3
      have hj : k - L.ts.length < L.mv.length := (List.getElem?_eq_some_iff.1 g1).1
      exact ⟨v0, q0, fun ρ rv h => mvOf_ok q1 (hτ2 _ _ q5) (by omega) h, (dq4 q1).2.1, (dq4 q1).1⟩
  · rcases hblk i bl hb with ⟨k, w, v, g1, rfl, g2, g3, g4, g5⟩ | ⟨j, v, id, rfl, rfl, g2, g3, g4, g5, g6⟩
    · exact ⟨by omega, g2, by rw [hτ i g3]; exact g4, g5⟩
    · exact ⟨by omega, g2, by rw [hτ2 j id g3]; exact g5, fun t wr e => by cases e; exact g6⟩
  · have hids : ∀ i w j id, (i, w) ∈ L.ids → q[j]? = some id → i ≠ id := fun i w j id hi hj e => by
      have := List.all_eq_true.1 (List.all_eq_true.1 hq2 id (List.mem_of_getElem? hj)) (i, w) hi
      subst e
      simp at this
    rcases hblk i bi hi with ⟨k, w, v, g1, rfl, g2, g3, g4, _⟩ | ⟨c, v, id, rfl, rfl, g2, g3, g4, g5, _⟩ <;> rcases hblk j bj hj with ⟨k', w', v', g1', rfl, g2', g3', g4', _⟩ | ⟨c', v', id', rfl, rfl, g2', g3', g4', g5', _⟩
    · rw [hτ i g3, hτ j g3']; exact hij
    · rw [hτ i g3, hτ2 _ _ g3']; exact hids i w _ _ g1 g3'
    · rw [hτ j g3', hτ2 _ _ g3]; exact (hids j w' _ _ g1' g3).symm
    · rw [hτ2 _ _ g3, hτ2 _ _ g3']
      exact cM7 hq1 c c' _ _ g3 g3' (fun e => hij (by rw [e]))
def Turn (P : Program) (n0 : Nat) (b : Code) (fr : Fr) (m : Mem) (c : Int) (fr2 : Fr) (m2 : Mem) : Prop :=
  ∃ e fr' m', exNo e = some c ∧ Runs P b fr m e fr' m' ∧ Back n0 fr' m' fr2 m2
inductive Kd where
  | pl
  | pt (id : Nat) (r : Sh)
  | sl (id : Nat)
  | fn (f : FuncId) (caps : List (Nat × Sh))
theorem Lq.noGd {L : Lq} {l : List AV} (h : ∀ a ∈ l.take (L.ts.length + L.mv.length), isGd a = false) : NoGd (L.F l) := fun t t' w v hv => by
  obtain ⟨k, _, k2⟩ := cg6 hv
  have := h _ (List.mem_of_getElem? k2)
  cases this
end
end Go.Ev
namespace Go.Ev
section
variable {P : Program} {ρ : Ren}
def finQ (L : Lq) : AV → Mem → Option Out := fun v m => aZ3 L .normal (mkF 1 [0] [v]) m
theorem ag0 (hmix : P.follows .mixedOrders = true) {ok : List TypeId} (hok : Fair P ok) {pc : Pcs} (hpc : r0 P pc) {h : Hd} (hh : N6 P h) {ro : FuncId → Bool} {ov : Ov}
    {N : Nat} {st : Bool} {f : FuncId} {fn : Func} (hf : Plain P f fn) (ho : ∀ c, fn.body = some c → OvOk P ov c) {args : List AV} {m : Mem} {L : Lq} {c : Int} {v : AV} {bl : List AV} {g : Bool}
    (he : evFn P ok pc h ro ov N st fn args m (finQ L) = some (g, .tup (.it .i64 c :: v :: bl))) (hg : g = true) (hL : L.wf = true) (hl : L.ts ++ L.mv = [0]) (hm : m.n = L.n0) (hk : L.ok (v :: bl) = true) (hgd : isGd v = false) :
    Small P f args m v (L.M (v :: bl)) := by
  obtain ⟨v', m', h1, h2⟩ := ci9 hmix hok hpc hh hf ho he hg
  obtain ⟨k1, c', l, a, b', q, l', k2, k3, k4, k5, k6, k7⟩ := bZ0 h1
  injection k7 with _ k7
  injection k7 with k7
  injection k7 with k7 k8
  rw [k8] at hk ⊢
  have hb := L.back hL k1 k3 k4 k5 k6 hk
  have h0 : (L.F (l ++ a ++ (l' ++ b'))).get 0 = some v := by
    rw [← k8]
    unfold Lq.F
    have : L.ts.length + L.mv.length = 1 := by rw [← List.length_append, hl]; rfl
    rw [hl, this]
    rfl
  have ng : ∀ u : AV, isGd u = false → ∀ t w x, u ≠ .gd t w x := fun u h t w x e => by subst e; cases h
  have key : ∀ {ρ ρ' : Ren} {A : Nat → Prop} {w w' : World} {rv : Value}, Rep ρ A m w → ρ.ext ρ' → Rep ρ' A m' w' → VR3 ρ' v' rv →
      ∃ ρ2 : Ren, ρ.ext ρ2 ∧ Rep ρ2 A (L.M (l ++ a ++ (l' ++ b'))) w' ∧ VR3 ρ2 v rv := fun {ρ ρ' A w w' rv} hR hx hR' hv => by
    have hF : FR ρ' (mkF 1 [0] [v']) { tmps := #[rv], defers := [] } := by
      refine ⟨rfl, fun t u ht => ?_⟩
      obtain ⟨k, g1, g2⟩ := cg6 ht
      match k, g1, g2 with
      | 0, g1, g2 =>
        cases g1; cases g2
        exact hv.e
      | k + 1, g1, _ => simp at g1
    obtain ⟨ρ2, q1, q2, q3⟩ := hb ρ' A w' _ hF hR'
    refine ⟨ρ2, q1 ρ (hR.n.trans hm) hR.lt hx, q3, ?_⟩
    exact bj7 (ng v hgd) (q2.get 0 v h0)
  intro ρ A w vals hR ha
  rcases h2 ρ A w vals hR ha with ⟨ρ', rv, w', nx, g1, g2, g3, g4, g5, g6⟩ | ⟨f', args', g1, g2⟩
  · obtain ⟨ρ2, q1, q2, q3⟩ := key hR g3 g4 g6
    exact .inl ⟨ρ2, rv, w', nx, g1, g2, q1, q2, g5, q3⟩
  · refine .inr ⟨f', args', g1, g2.mono fun e w' ⟨ρ', rv, p1, p2, p3, p4, p5⟩ => ?_⟩
    obtain ⟨ρ2, q1, q2, q3⟩ := key hR p2 p3 p5
    exact ⟨ρ2, rv, p1, q1, q2, p4, q3⟩
theorem getS_wf {fr : Fr} {a : Act} (hf : FR ρ fr a) (hg : NoGd fr) : ∀ {ts : List Nat} {l : List AV}, getS fr ts = some l → AV.wfs l
  | [], l, h => by cases h; trivial
  | t :: ts, l, h => by
    simp only [getS] at h
    split at h <;> try (cases h; done)
    rename_i v l' h1 h2
    cases h
    exact ⟨VR3.wf (bj7 (fun t' w u e => hg t t' w u (by rw [h1, e])) (hf.get t v h1)), getS_wf hf hg h2⟩
theorem getV_wf {A : Nat → Prop} {w : World} {m : Mem} (hR : Rep ρ A m w) {fr : Fr} : ∀ {ts : List Nat} {k : Nat} {a b : List AV} {q : List Nat}, getV fr m ts k = some (a, b, q) → AV.wfs a ∧ AV.wfs b
  | [], _, _, _, _, h => by cases h; exact ⟨trivial, trivial⟩
  | t :: r, k, a, b, q, h => by
    simp only [getV] at h
    split at h <;> try (cases h; done)
    split at h <;> try (cases h; done)
    rename_i hv
    split at h <;> try (cases h; done)
    rename_i u _ _ _ h1 h2
    cases h
    obtain ⟨g1, g2⟩ := getV_wf hR h2
    exact ⟨⟨(dq4 hv).2.2, g1⟩, ⟨(hR.blk _ _ h1).2.2.1, g2⟩⟩
theorem getB_wf {A : Nat → Prop} {w : World} {m : Mem} (hR : Rep ρ A m w) : ∀ {ts : List (Nat × Bk)} {l : List AV}, getB m ts = some l → AV.wfs l
  | [], l, h => by cases h; trivial
  | (i, wr) :: ts, l, h => by
    simp only [getB] at h
    split at h <;> try (cases h; done)
    rename_i bb g1
    split at h <;> try (cases h; done)
    rename_i v l' gw g2
    cases h
    have he := Bk.of_ok gw
    refine ⟨?_, getB_wf hR g2⟩
    have hb := (hR.blk _ _ g1).2
    rw [he] at hb
    cases wr with
    | ce w' => exact hb.2.1
    | ob k ps =>
      obtain ⟨_, _, ⟨_, vals, _, h4⟩, _⟩ := hb
      exact ag4.wfs h4
theorem bp8 : ∀ {l m : List AV}, AV.wfs l → AV.wfs m → AV.wfs (l ++ m)
  | [], _, _, h => h
  | _ :: _, _, h, h' => ⟨h.1, bp8 h.2 h'⟩
theorem Lq.back_norm {L : Lq} (hL : L.wf = true) {fr : Fr} {m : Mem} {l a b l' : List AV} {q : List Nat} (hg : NoGd fr) (hn : fr.n = L.n) (h1 : getS fr L.ts = some l) (h2 : getV fr m L.mv L.n0 = some (a, b, q)) (h3 : getB m L.ids = some l')
    (hq : (aI4 q && (q.all fun j => L.ids.all fun x => !Nat.beq x.1 j)) = true) (hok : L.ok (l ++ a ++ (l' ++ b)) = true) {shs : List Sh} (hs : AV.shapes (l ++ a ++ (l' ++ b)) = shs) :
    Back L.n0 fr m (L.F (r7 shs 0 fun i => (l ++ a ++ (l' ++ b)).getD i .un)) (L.M (r7 shs 0 fun i => (l ++ a ++ (l' ++ b)).getD i .un)) := fun ρ A w c hf hR => by
  obtain ⟨w1, w2⟩ := getV_wf hR h2
  have hw := bp8 (bp8 (getS_wf hf hg h1) w1) (bp8 (getB_wf hR h3) w2)
  rw [aK5 shs _ 0 _ hw hs fun j => by simp]
  exact L.back hL hn h1 h2 h3 hq hok ρ A w c hf hR
def ovN (B : Nat) (L : Lq) (shs : List Sh) (go : (Nat → AV) → Kc → Option Out) : Ov := fun id fr m k =>
  bif Nat.beq id B then
    match aZ3 L .normal fr m with
    | some (_, .tup (_ :: l)) => bif Nat.beq m.n L.n0 && (L.ok l && Sh.beqs (AV.shapes l) shs) then some (go (fun i => l.getD i .un) k) else none
    | _ => none
  else none
def GoesN (P : Program) (B : Nat) (b : Code) (L : Lq) (shs : List Sh) (go : (Nat → AV) → Kc → Option Out) : Prop :=
  ∀ g k r, go g k = some r → Om.fine r → ∃ e fr' m', k e fr' m' = some r ∧ NoGd fr' ∧ ∀ fr m, m.n = L.n0 → Back L.n0 fr m (L.F (r7 shs 0 g)) (L.M (r7 shs 0 g)) → Runs P (.block B b) fr m e fr' m'
theorem ovN_ok {B : Nat} {b : Code} {L : Lq} {shs : List Sh} {go : (Nat → AV) → Kc → Option Out} (hL : L.wf = true) (hgo : GoesN P B b L shs go) {c : Code} (hc : ∀ x ∈ blks c, x.1 = B → x.2 = b) : OvOk P (ovN B L shs go) c := by
  refine au9 c fun x hx fr m k r hng h hr => ?_
  by_cases hx1 : x.1 = B
  · have := hc x hx hx1
    obtain ⟨i, d⟩ := x
    simp only at hx1 this
    subst hx1; subst this
    unfold ovN at h
    have hB : Nat.beq i i = true := by simp
    rw [hB, cond_true] at h
    split at h <;> try (cases h; done)
    rename_i g x l hg
    cases hc : Nat.beq m.n L.n0 && (L.ok l && Sh.beqs (AV.shapes l) shs) with
    | false => rw [hc] at h; cases h
    | true =>
    rw [hc, cond_true] at h
    simp only [Bool.and_eq_true, Nat.beq_eq] at hc
    obtain ⟨hc1, hc2, hc3⟩ := hc
    obtain ⟨k1, c', l1, a, b', q, l', k2, k3, k4, k5, k6, k7⟩ := bZ0 hg
    injection k7 with _ k7
    injection k7 with k7
    injection k7 with _ k8
    rw [k8] at hc2 hc3
    have hb := L.back_norm hL hng k1 k3 k4 k5 k6 hc2 (Sh.beqs_eq _ _ hc3)
    rw [← k8] at hb
    obtain ⟨e, fr', m', g1, g2, g3⟩ := hgo _ k r (Option.some.inj h) hr
    exact ⟨e, fr', m', g1, g2, g3 fr m hc1 hb⟩
  · unfold ovN at h
    have : Nat.beq x.1 B = false := by
      rw [← Bool.not_eq_true, Nat.beq_eq]; exact hx1
    rw [this] at h
    cases h
mutual
theorem cn0 : ∀ (a : AV), a.shape.hasRef = false → plain a = true
  | .bl _, _ => rfl
  | .it _ _, _ => rfl
  | .st _, _ => rfl
  | .agg l, h => aq9 l (by simpa [AV.shape, Sh.hasRef] using h)
  | .arr n s f, h => by simp only [AV.shape, Sh.hasRef] at h; simp [plain, h]
  | .un, h => by simp [AV.shape, Sh.hasRef] at h
  | .nl, h => by simp [AV.shape, Sh.hasRef] at h
  | .pt _ _ _, h => by simp [AV.shape, Sh.hasRef] at h
  | .nsl, h => by simp [AV.shape, Sh.hasRef] at h
  | .sl _ _ _ _ _, h => by simp [AV.shape, Sh.hasRef] at h
  | .nfn, h => by simp [AV.shape, Sh.hasRef] at h
  | .fn _ _, h => by simp [AV.shape, Sh.hasRef] at h
  | .nmp, h => by simp [AV.shape, Sh.hasRef] at h
  | .mp _, h => by simp [AV.shape, Sh.hasRef] at h
  | .nif, h => by simp [AV.shape, Sh.hasRef] at h
  | .tup _, h => by simp [AV.shape, Sh.hasRef] at h
  | .gd _ _ _, h => by simp [AV.shape, Sh.hasRef] at h
theorem aq9 : ∀ (l : List AV), Sh.hasRef.Sh.hasRefs (AV.shapes l) = false → S4 l = true
  | [], _ => rfl
  | a :: l, h => by
    simp only [AV.shapes, Sh.hasRef.Sh.hasRefs, Bool.or_eq_false_iff] at h
    simp [S4, cn0 a h.1, aq9 l h.2]
end
def mem1 (t : AV) : Mem := { n := 1, t := (Tr.mk 12).set (some (.cells t true)) 0 }
theorem mem1_get {t : AV} {i : Nat} {b : Blk} (h : (mem1 t).get i = some b) : i = 0 ∧ b = .cells t true := by
  have h : ((Tr.mk 12).set (some (.cells t true)) 0).get i = some b := h
  rcases Tr.get_set _ _ 0 i b h with ⟨h1, h2⟩ | ⟨_, h2⟩
  · exact ⟨h1, (Option.some.inj h2).symm⟩
  · rw [Tr.get_mk] at h2; cases h2
theorem Small.of_wf {f : FuncId} {args : List AV} {m m' : Mem} {v : AV} (h : AV.wfs args → (∀ i t wr, m.get i = some (.cells t wr) → t.wf) → Small P f args m v m') : Small P f args m v m' :=
  fun ρ A w vals hR ha => h ha.wfs (fun i t wr hi => (hR.blk i _ hi).2.2.1) ρ A w vals hR ha
theorem Fit.one {m : Mem} {id : Nat} {root : Sh} {rest : List AV} {t : AV} (hr : Sh.hasRef.Sh.hasRefs (AV.shapes rest) = false) (ht : t.shape.hasRef = false) (hm : m.get id = some (.cells t true)) :
    Fit m [id] (mem1 t) (.pt 0 [] root :: rest) (.pt id [] root :: rest) := by
  refine ⟨by simp, rfl, ⟨.inr (.inl ⟨0, [], root, rfl, rfl, Nat.one_pos⟩), ?_⟩, fun i b hb => ?_⟩
  · have := aq9 rest hr
    clear hr
    induction rest with
    | nil => trivial
    | cons a l ih =>
      simp only [S4, Bool.and_eq_true] at this
      exact ⟨.inl ⟨this.1, rfl⟩, ih this.2⟩
  · obtain ⟨rfl, rfl⟩ := mem1_get hb
    have hp := cn0 t ht
    exact ⟨by simp, by simp [aa0, hp], fun t' wr e => by cases e; exact .inr hp, by rw [bJ5 _ hp]; exact hm⟩
def Part (L : Lq) (K : Kc) : Prop := ∀ e fr m r, K e fr m = some r → aZ3 L e fr m = some r
theorem Part.refl (L : Lq) : Part L (aZ3 L) := fun _ _ _ _ h => h
theorem cM1 (hmix : P.follows .mixedOrders = true) {ok : List TypeId} (hok : Fair P ok) {pc : Pcs} (hpc : r0 P pc) {h : Hd} (hh : N6 P h) {ro : FuncId → Bool} {ov : Ov} {N : Nat} {st : Bool} {b : Code} (hov : OvOk P ov b)
    {L : Lq} (hL : L.wf = true) {K : Kc} (hK : Part L K) {fr : Fr} {m : Mem} (hg0 : NoGd fr) {c : Int} {r : List AV} {g : Bool} (he : evC P ok pc h ro ov N st b fr m K = some (g, .tup (.it .i64 c :: r))) (hg : g = true) (hr : L.ok r = true) :
    Turn P L.n0 b fr m c (L.F r) (L.M r) := by
  obtain ⟨e, fr', m', h1, _, h3⟩ := bE1 hmix hok hpc hh (show Om.fine (g, AV.tup (.it .i64 c :: r)) from hg) b hov _ _ _ he hg0
  obtain ⟨k1, c', l, a, b', q, l', k2, k3, k4, k5, k6, k7⟩ := bZ0 (hK _ _ _ _ h1)
  injection k7 with _ k7
  injection k7 with k7
  injection k7 with k7 k8
  injection k7 with _ k7
  subst k7; subst k8
  exact ⟨e, fr', m', k2, h3, L.back hL k1 k3 k4 k5 k6 hr⟩
def bH8 (c : Int) (K : Kc) : Kc := fun e fr m => match exNo e with
  | some c' => bif iEq c' c then K e fr m else none
  | none => none
theorem T5 (c : Int) {L : Lq} {K : Kc} (hK : Part L K) : Part L (bH8 c K) := fun e fr m r h => by
  unfold bH8 at h
  split at h <;> try (cases h; done)
  rename_i c' _
  cases hb : iEq c' c with
  | false => rw [hb] at h; cases h
  | true => rw [hb] at h; exact hK _ _ _ _ h
def mem2 (t u : AV) : Mem := { n := 2, t := ((Tr.mk 12).set (some (.cells t true)) 0).set (some (.cells u true)) 1 }
end
end Go.Ev
namespace Go.Ev
section
variable {P : Program}
theorem aA1 {B : Nat} {b : Code} {n0 : Nat} {F : Nat → Fr} {M : Nat → Mem} {n : Nat} {c : Int} {fr2 : Fr} {m2 : Mem} (ht : ∀ j, j < n → Turn P n0 b (F j) (M j) 0 (F (j + 1)) (M (j + 1)))
    (hx : Turn P n0 b (F n) (M n) c fr2 m2) (hc : c ≠ 0) {fr : Fr} {m : Mem} (hm : m.n = n0) (hb : Back n0 fr m (F 0) (M 0)) {e : Exit} (he : exNo e = some c) : Runs P (.block B (.loop b)) fr m (bx0 B e) fr2 m2 := by
  have key : ∀ k j, j + k = n → Chain P n0 b (k + 1) (F j) (M j) e fr2 m2 := fun k => by
    induction k with
    | zero =>
      intro j hj
      have : j = n := by omega
      subst this
      obtain ⟨e', fr', m', k1, k2, k3⟩ := hx
      rw [dA4 he k1]
      exact .last k2 (exNo_ne k1 hc) k3
    | succ k ih =>
      intro j hj
      obtain ⟨e', fr', m', k1, k2, k3⟩ := ht j (by omega)
      rw [exNo_zero k1] at k2
      exact .step k2 k3 (ih (j + 1) (by omega))
  exact Runs.block ((key n 0 (by omega)).runs hm hb)
def goJ (chk cond : (Nat → AV) → Bool) (e : Exit) (F : (Nat → AV) → Fr) (M : (Nat → AV) → Mem) : (Nat → AV) → Kc → Option Out := fun g k =>
  bif chk g then bg0 (some (cond g)) (k e (F g) (M g)) else none
theorem goJ_ok {chk cond : (Nat → AV) → Bool} {ex : Exit} {F : (Nat → AV) → Fr} {M : (Nat → AV) → Mem} {B : Nat} {b : Code} {L : Lq} {shs : List Sh} (h : ∀ g, chk g = true → cond g = true →
    NoGd (F g) ∧ ∀ fr m, m.n = L.n0 → Back L.n0 fr m (L.F (r7 shs 0 g)) (L.M (r7 shs 0 g)) → Runs P (.block B b) fr m ex (F g) (M g)) : GoesN P B b L shs (goJ chk cond ex F M) := fun g k r he hr => by
  unfold goJ at he
  cases hp : chk g with
  | false => rw [hp] at he; cases he
  | true =>
  rw [hp, cond_true] at he
  obtain ⟨c1, he⟩ := af6 he hr
  have hs : cond g = true := by
    rcases c1 with c1 | c1
    · cases c1
    · exact Option.some.inj c1
  obtain ⟨h1, h2⟩ := h g hp hs
  exact ⟨_, _, _, he, h1, h2⟩
inductive Tm where
  | fx (s : Sh)
  | ar (s : Sh)
def tmB : List AV → List Tm → Bool
  | [], [] => true
  | a :: l, .fx s :: r => a.shape.beq s && tmB l r
  | .arr _ s' _ :: l, .ar s :: r => s'.beq s && tmB l r
  | _, _ => false
def lenA : AV → Nat
  | .arr n _ _ => n
  | _ => 0
def tmS (g : Nat → AV) : List Tm → Nat → List Sh
  | [], _ => []
  | .fx s :: r, k => s :: tmS g r (k + 1)
  | .ar s :: r, k => .arr (lenA (g k)) s :: tmS g r (k + 1)
theorem tmB_ok {g : Nat → AV} : ∀ {l : List AV} {ts : List Tm} {k : Nat}, tmB l ts = true → (∀ i a, l[i]? = some a → g (k + i) = a) → AV.shapes l = tmS g ts k
  | [], [], _, _, _ => rfl
  | a :: l, .fx s :: r, k, h, hg => by
    have h : (a.shape.beq s && tmB l r) = true := by cases a <;> exact h
    simp only [Bool.and_eq_true] at h
    have ih := tmB_ok (g := g) (k := k + 1) h.2 fun i b hb => by rw [show k + 1 + i = k + (i + 1) by omega]; exact hg (i + 1) b (by simpa using hb)
    show a.shape :: AV.shapes l = s :: tmS g r (k + 1)
    rw [Sh.beq_eq _ _ h.1, ih]
  | .arr n s' f :: l, .ar s :: r, k, h, hg => by
    simp only [tmB, Bool.and_eq_true] at h
    have ih := tmB_ok (g := g) (k := k + 1) h.2 fun i b hb => by rw [show k + 1 + i = k + (i + 1) by omega]; exact hg (i + 1) b (by simpa using hb)
    have h0 := hg 0 _ rfl
    show Sh.arr n s' :: AV.shapes l = .arr (lenA (g k)) s :: tmS g r (k + 1)
    rw [Sh.beq_eq _ _ h.1, ih, show g k = .arr n s' f from h0]
    rfl
def ovT (B : Nat) (L : Lq) (ts : List Tm) (go : (Nat → AV) → Kc → Option Out) : Ov := fun id fr m k =>
  bif Nat.beq id B then
    match aZ3 L .normal fr m with
    | some (_, .tup (_ :: l)) => bif Nat.beq m.n L.n0 && (L.ok l && tmB l ts) then some (go (fun i => l.getD i .un) k) else none
    | _ => none
  else none
def GoesT (P : Program) (B : Nat) (b : Code) (L : Lq) (ts : List Tm) (go : (Nat → AV) → Kc → Option Out) : Prop :=
  ∀ g k r, go g k = some r → Om.fine r → ∃ e fr' m', k e fr' m' = some r ∧ NoGd fr' ∧ ∀ fr m, m.n = L.n0 → Back L.n0 fr m (L.F (r7 (tmS g ts 0) 0 g)) (L.M (r7 (tmS g ts 0) 0 g)) → Runs P (.block B b) fr m e fr' m'
theorem ovT_ok {B : Nat} {b : Code} {L : Lq} {ts : List Tm} {go : (Nat → AV) → Kc → Option Out} (hL : L.wf = true) (hgo : GoesT P B b L ts go) {c : Code} (hc : ∀ x ∈ blks c, x.1 = B → x.2 = b) : OvOk P (ovT B L ts go) c := by
  refine au9 c fun x hx fr m k r hng h hr => ?_
  by_cases hx1 : x.1 = B
  · have := hc x hx hx1
    obtain ⟨i, d⟩ := x
    simp only at hx1 this
    subst hx1; subst this
    unfold ovT at h
    have hB : Nat.beq i i = true := by simp
    rw [hB, cond_true] at h
    split at h <;> try (cases h; done)
    rename_i g x l hg
    cases hc : Nat.beq m.n L.n0 && (L.ok l && tmB l ts) with
    | false => rw [hc] at h; cases h
    | true =>
    rw [hc, cond_true] at h
    simp only [Bool.and_eq_true, Nat.beq_eq] at hc
    obtain ⟨hc1, hc2, hc3⟩ := hc
    obtain ⟨k1, c', l1, a, b', q, l', k2, k3, k4, k5, k6, k7⟩ := bZ0 hg
    injection k7 with _ k7
    injection k7 with k7
    injection k7 with _ k8
    rw [k8] at hc2 hc3
    have hb := L.back_norm hL hng k1 k3 k4 k5 k6 hc2 (tmB_ok (g := fun i => (l1 ++ a ++ (l' ++ b')).getD i .un) (k := 0) hc3 fun i a h => by
      rw [Nat.zero_add, List.getD_eq_getElem?_getD, h]; rfl)
    rw [← k8] at hb
    obtain ⟨e, fr', m', g1, g2, g3⟩ := hgo _ k r (Option.some.inj h) hr
    exact ⟨e, fr', m', g1, g2, g3 fr m hc1 hb⟩
  · unfold ovT at h
    have : Nat.beq x.1 B = false := by
      rw [← Bool.not_eq_true, Nat.beq_eq]; exact hx1
    rw [this] at h
    cases h
theorem goT_ok {chk cond : (Nat → AV) → Bool} {ex : Exit} {F : (Nat → AV) → Fr} {M : (Nat → AV) → Mem} {B : Nat} {b : Code} {L : Lq} {ts : List Tm} (h : ∀ g, chk g = true → cond g = true →
    NoGd (F g) ∧ ∀ fr m, m.n = L.n0 → Back L.n0 fr m (L.F (r7 (tmS g ts 0) 0 g)) (L.M (r7 (tmS g ts 0) 0 g)) → Runs P (.block B b) fr m ex (F g) (M g)) : GoesT P B b L ts (goJ chk cond ex F M) := fun g k r he hr => by
  unfold goJ at he
  cases hp : chk g with
  | false => rw [hp] at he; cases he
  | true =>
  rw [hp, cond_true] at he
  obtain ⟨c1, he⟩ := af6 he hr
  have hs : cond g = true := by
    rcases c1 with c1 | c1
    · cases c1
    · exact Option.some.inj c1
  obtain ⟨h1, h2⟩ := h g hp hs
  exact ⟨_, _, _, he, h1, h2⟩
theorem Turn.block {B : Nat} {b : Code} {n0 : Nat} {fr1 : Fr} {m1 : Mem} {c : Int} {fr2 : Fr} {m2 : Mem} (h : Turn P n0 b fr1 m1 c fr2 m2) {fr : Fr} {m : Mem} (hm : m.n = n0) (hb : Back n0 fr m fr1 m1) {e : Exit} (he : exNo e = some c) : Runs P (.block B b) fr m (bx0 B e) fr2 m2 := by
  obtain ⟨e', fr', m', k1, k2, k3⟩ := h
  rw [dA4 he k1]
  refine Runs.block fun ρ A w a hf hR => ?_
  obtain ⟨ρ1, p1, p2, p3⟩ := hb ρ A w a hf hR
  have hn : ρ.n = n0 := hR.n.trans hm
  have hx := p1 ρ hn hR.lt (Ren.ext.refl ρ)
  refine wp_mono (k2 ρ1 A w a p2 p3) fun e2 a2 w2 ⟨q0, q1, ρ', q2, q3, q4, q5⟩ => ?_
  obtain ⟨ρ2, r1, r2, r3⟩ := k3 ρ' A w2 a2 q3 q4
  exact ⟨q0, q1, ρ2, r1 ρ hn hR.lt (hx.trans q2), r2, r3, q5⟩
end
end Go.Ev
namespace Go.Ev
noncomputable section
noncomputable def ai1 (f : Option Code) (B : Nat) : Code := inLoop (cM8 (f.getD .skip) B)
def bB5 (id : Nat) (r : Sh) : AV → Bool
  | .pt i [] s => Nat.beq i id && s.beq r
  | _ => false
theorem an9 {id : Nat} {r : Sh} {a : AV} (h : bB5 id r a = true) : a = .pt id [] r := by
  unfold bB5 at h
  split at h <;> try (cases h; done)
  simp only [Bool.and_eq_true, Nat.beq_eq] at h
  rw [h.1, Sh.beq_eq _ _ h.2]
def isNil : AV → Bool
  | .nsl => true
  | _ => false
theorem isNil_ok {a : AV} (h : isNil a = true) : a = .nsl := by
  unfold isNil at h
  split at h <;> first | rfl | cases h
def isSl (id : Nat) (tip : Bool) : AV → Bool
  | .sl i [] lo _ t => Nat.beq i id && (Nat.beq lo 0 && (t == tip))
  | _ => false
def lenSl : AV → Nat
  | .sl _ _ _ n _ => n
  | _ => 0
theorem cD7 {id : Nat} {tip : Bool} {a : AV} (h : isSl id tip a = true) : a = .sl id [] 0 (lenSl a) tip := by
  unfold isSl at h
  split at h <;> try (cases h; done)
  simp only [Bool.and_eq_true, Nat.beq_eq, beq_iff_eq] at h
  rw [h.1, h.2.1, h.2.2]; rfl
theorem aX1 {L : Lq} {l : List AV} (h : ((l.take (L.ts.length + L.mv.length)).all fun a => !isGd a) = true) : NoGd (L.F l) := Lq.noGd fun a ha => by
  have := List.all_eq_true.1 h a ha
  simpa using this
theorem bn9 (j : Nat) (h : j < 1000000000000) : iAdd .i64 (j : Int) 1 = ((j + 1 : Nat) : Int) := by
  rw [iAdd_i64 (by omega) (by omega)]; omega
def numA (a : AV) : Nat → Int := fun i => (a.ix i).num
def bU7 (f : Nat → Bool) : Nat → Bool
  | 0 => true
  | n + 1 => bU7 f n && f n
theorem ca7 {f : Nat → Bool} : ∀ {n : Nat}, bU7 f n = true → ∀ i, i < n → f i = true
  | n + 1, h, i, hi => by
    unfold bU7 at h
    rw [Bool.and_eq_true] at h
    by_cases e : i = n
    · subst e; exact h.2
    · exact ca7 h.1 i (by omega)
theorem bD6 {f : Nat → Bool} : ∀ {n : Nat}, (∀ i, i < n → f i = true) → bU7 f n = true
  | 0, _ => rfl
  | n + 1, h => by
    unfold bU7
    rw [Bool.and_eq_true]
    exact ⟨bD6 fun i hi => h i (by omega), h n (by omega)⟩
end
end Go.Ev
