/-
  Words and their parts: the document's Encode as a sum, the parts that are read. Plain arithmetic.
-/
import Derived.Test.YtngaeiceicgalaaDoorGa
import Derived.Test.YtngaeiceicgalaaDoorEvZ
set_option linter.unusedVariables false
namespace Go.Proofs.YtngaeiceicgalaaDoor.PV
open Go Go.Ev

/-- A word of 32 bits. -/
def W32 (w : Int) : Prop := 0 ≤ w ∧ w < 4294967296

theorem bits_eq {w lo n : Int} (K M : Int) (mn : Nat) (hp : word_part0 lo n = lo) (hm : word_mask0 (word_part1 lo n) = M - 1) (hK : (2 : Int) ^ (min lo.toNat 64) = K) (hK0 : 0 < K) (hM : ((2 ^ mn : Nat) : Int) = M) (hmn : mn ≤ 64) (hw : W32 w) :
    word_Bits0 (iConv .u64 w) lo n = w / K % M := by
  unfold word_Bits0
  unfold W32 at hw
  have h1 : 0 ≤ w / K := Int.ediv_nonneg hw.1 (by omega)
  have h2 : w / K ≤ w := Int.ediv_le_self _ hw.1
  rw [hp, hm, conv64_of ⟨hw.1, by omega⟩, shr64 lo K hK (by omega), and64 mn M hM rfl hmn ⟨h1, by omega⟩]

theorem b_0_7 {w : Int} (hw : W32 w) : word_Bits0 (iConv .u64 w) 0 7 = w / 1 % 128 := bits_eq 1 128 7 (by decide +kernel) (by decide +kernel) (by decide +kernel) (by decide) (by decide +kernel) (by decide) hw
theorem b_7_5 {w : Int} (hw : W32 w) : word_Bits0 (iConv .u64 w) 7 5 = w / 128 % 32 := bits_eq 128 32 5 (by decide +kernel) (by decide +kernel) (by decide +kernel) (by decide) (by decide +kernel) (by decide) hw
theorem b_12_3 {w : Int} (hw : W32 w) : word_Bits0 (iConv .u64 w) 12 3 = w / 4096 % 8 := bits_eq 4096 8 3 (by decide +kernel) (by decide +kernel) (by decide +kernel) (by decide) (by decide +kernel) (by decide) hw
theorem b_15_5 {w : Int} (hw : W32 w) : word_Bits0 (iConv .u64 w) 15 5 = w / 32768 % 32 := bits_eq 32768 32 5 (by decide +kernel) (by decide +kernel) (by decide +kernel) (by decide) (by decide +kernel) (by decide) hw
theorem b_20_5 {w : Int} (hw : W32 w) : word_Bits0 (iConv .u64 w) 20 5 = w / 1048576 % 32 := bits_eq 1048576 32 5 (by decide +kernel) (by decide +kernel) (by decide +kernel) (by decide) (by decide +kernel) (by decide) hw
theorem b_25_7 {w : Int} (hw : W32 w) : word_Bits0 (iConv .u64 w) 25 7 = w / 33554432 % 128 := bits_eq 33554432 128 7 (by decide +kernel) (by decide +kernel) (by decide +kernel) (by decide) (by decide +kernel) (by decide) hw
theorem b_12_20 {w : Int} (hw : W32 w) : word_Bits0 (iConv .u64 w) 12 20 = w / 4096 % 1048576 := bits_eq 4096 1048576 20 (by decide +kernel) (by decide +kernel) (by decide +kernel) (by decide) (by decide +kernel) (by decide) hw
theorem b_31_1 {w : Int} (hw : W32 w) : word_Bits0 (iConv .u64 w) 31 1 = w / 2147483648 % 2 := bits_eq 2147483648 2 1 (by decide +kernel) (by decide +kernel) (by decide +kernel) (by decide) (by decide +kernel) (by decide) hw
theorem b_12_8 {w : Int} (hw : W32 w) : word_Bits0 (iConv .u64 w) 12 8 = w / 4096 % 256 := bits_eq 4096 256 8 (by decide +kernel) (by decide +kernel) (by decide +kernel) (by decide) (by decide +kernel) (by decide) hw
theorem b_20_1 {w : Int} (hw : W32 w) : word_Bits0 (iConv .u64 w) 20 1 = w / 1048576 % 2 := bits_eq 1048576 2 1 (by decide +kernel) (by decide +kernel) (by decide +kernel) (by decide) (by decide +kernel) (by decide) hw
theorem b_21_10 {w : Int} (hw : W32 w) : word_Bits0 (iConv .u64 w) 21 10 = w / 2097152 % 1024 := bits_eq 2097152 1024 10 (by decide +kernel) (by decide +kernel) (by decide +kernel) (by decide) (by decide +kernel) (by decide) hw
theorem b_20_12 {w : Int} (hw : W32 w) : word_Bits0 (iConv .u64 w) 20 12 = w / 1048576 % 4096 := bits_eq 1048576 4096 12 (by decide +kernel) (by decide +kernel) (by decide +kernel) (by decide) (by decide +kernel) (by decide) hw
theorem b_7_1 {w : Int} (hw : W32 w) : word_Bits0 (iConv .u64 w) 7 1 = w / 128 % 2 := bits_eq 128 2 1 (by decide +kernel) (by decide +kernel) (by decide +kernel) (by decide) (by decide +kernel) (by decide) hw
theorem b_25_6 {w : Int} (hw : W32 w) : word_Bits0 (iConv .u64 w) 25 6 = w / 33554432 % 64 := bits_eq 33554432 64 6 (by decide +kernel) (by decide +kernel) (by decide +kernel) (by decide) (by decide +kernel) (by decide) hw
theorem b_8_4 {w : Int} (hw : W32 w) : word_Bits0 (iConv .u64 w) 8 4 = w / 256 % 16 := bits_eq 256 16 4 (by decide +kernel) (by decide +kernel) (by decide +kernel) (by decide) (by decide +kernel) (by decide) hw
theorem b_20_6 {w : Int} (hw : W32 w) : word_Bits0 (iConv .u64 w) 20 6 = w / 1048576 % 64 := bits_eq 1048576 64 6 (by decide +kernel) (by decide +kernel) (by decide +kernel) (by decide) (by decide +kernel) (by decide) hw
theorem b_26_6 {w : Int} (hw : W32 w) : word_Bits0 (iConv .u64 w) 26 6 = w / 67108864 % 64 := bits_eq 67108864 64 6 (by decide +kernel) (by decide +kernel) (by decide +kernel) (by decide) (by decide +kernel) (by decide) hw

theorem opc_eq {w : Int} (hw : W32 w) : decode_Opcode0 w = w % 128 := by unfold decode_Opcode0; rw [b_0_7 hw, convI_of ⟨by omega, by omega⟩]; omega
theorem of0_eq {w : Int} (hw : W32 w) : decode_of0 w = w / 128 % 32 := by unfold decode_of0; rw [b_7_5 hw, convI_of ⟨by omega, by omega⟩]
theorem of1_eq {w : Int} (hw : W32 w) : decode_of1 w = w / 4096 % 8 := by unfold decode_of1; rw [b_12_3 hw, convI_of ⟨by omega, by omega⟩]
theorem of2_eq {w : Int} (hw : W32 w) : decode_of2 w = w / 32768 % 32 := by unfold decode_of2; rw [b_15_5 hw, convI_of ⟨by omega, by omega⟩]
theorem of3_eq {w : Int} (hw : W32 w) : decode_of3 w = w / 1048576 % 32 := by unfold decode_of3; rw [b_20_5 hw, convI_of ⟨by omega, by omega⟩]
theorem of4_eq {w : Int} (hw : W32 w) : decode_of4 w = w / 33554432 % 128 := by unfold decode_of4; rw [b_25_7 hw, convI_of ⟨by omega, by omega⟩]

/- Numbers with their sign. -/
theorem sg12 {x : Int} (h : 0 ≤ x ∧ x < 4096) : iConv .i64 (word_Sext0 x 12) = if x < 2048 then x else x - 4096 := by
  unfold word_Sext0
  rw [show iSub IntKind.i64 64 (iMin (iMax 12 1) 64) = 52 by decide +kernel]
  exact signed64 52 4503599627370496 2048 (by decide +kernel) (by decide) (by decide) (by decide) h
theorem sg13 {x : Int} (h : 0 ≤ x ∧ x < 8192) : iConv .i64 (word_Sext0 x 13) = if x < 4096 then x else x - 8192 := by
  unfold word_Sext0
  rw [show iSub IntKind.i64 64 (iMin (iMax 13 1) 64) = 51 by decide +kernel]
  exact signed64 51 2251799813685248 4096 (by decide +kernel) (by decide) (by decide) (by decide) h
theorem sg21 {x : Int} (h : 0 ≤ x ∧ x < 2097152) : iConv .i64 (word_Sext0 x 21) = if x < 1048576 then x else x - 2097152 := by
  unfold word_Sext0
  rw [show iSub IntKind.i64 64 (iMin (iMax 21 1) 64) = 43 by decide +kernel]
  exact signed64 43 8796093022208 1048576 (by decide +kernel) (by decide) (by decide) (by decide) h
theorem sg32 {x : Int} (h : 0 ≤ x ∧ x < 4294967296) : iConv .i64 (word_Sext0 x 32) = if x < 2147483648 then x else x - 4294967296 := by
  unfold word_Sext0
  rw [show iSub IntKind.i64 64 (iMin (iMax 32 1) 64) = 32 by decide +kernel]
  exact signed64 32 4294967296 2147483648 (by decide +kernel) (by decide) (by decide) (by decide) h

theorem or0 {x : Int} (h : 0 ≤ x ∧ x < 18446744073709551616) : iOr .u64 0 x = x := by
  have := or64 (x := 0) (y := x) 0 64 1 18446744073709551616 (by decide +kernel) (by decide +kernel) (by decide) h (by omega) (by omega) (by decide)
  rw [this]; omega

/-- The number of I. -/
theorem nI {w : Int} (hw : W32 w) : iConv IntKind.i64 (word_Sext0 (iShl IntKind.u64 (iOr IntKind.u64 0 (word_Bits0 (iConv IntKind.u64 w) 20 12)) 0) 12) = if w / 1048576 < 2048 then w / 1048576 else w / 1048576 - 4096 := by
  have h := hw
  unfold W32 at h
  rw [b_20_12 hw, or0 ⟨by omega, by omega⟩, shl64 0 1 (by decide +kernel) ⟨by omega, by omega⟩, sg12 ⟨by omega, by omega⟩]
  split <;> split <;> omega
theorem nU {w : Int} (hw : W32 w) : iConv IntKind.i64 (word_Sext0 (iShl IntKind.u64 (iOr IntKind.u64 0 (word_Bits0 (iConv IntKind.u64 w) 12 20)) 12) 32) = if w / 4096 < 524288 then w / 4096 * 4096 else w / 4096 * 4096 - 4294967296 := by
  have h := hw
  unfold W32 at h
  rw [b_12_20 hw, or0 ⟨by omega, by omega⟩, shl64 12 4096 (by decide +kernel) ⟨by omega, by omega⟩, sg32 ⟨by omega, by omega⟩]
  split <;> split <;> omega
theorem nS {w : Int} (hw : W32 w) : iConv IntKind.i64 (word_Sext0 (iShl IntKind.u64 (iOr IntKind.u64 (iShl IntKind.u64 (iOr IntKind.u64 0 (word_Bits0 (iConv IntKind.u64 w) 25 7)) 5) (word_Bits0 (iConv IntKind.u64 w) 7 5)) 0) 12) =
    if w / 33554432 < 64 then w / 33554432 * 32 + w / 128 % 32 else w / 33554432 * 32 + w / 128 % 32 - 4096 := by
  have h := hw
  unfold W32 at h
  rw [b_25_7 hw, b_7_5 hw, or0 ⟨by omega, by omega⟩, shl64 5 32 (by decide +kernel) ⟨by omega, by omega⟩,
    or64 0 5 1 32 (by decide +kernel) (by decide +kernel) ⟨by omega, by omega⟩ ⟨by omega, by omega⟩ (by omega) (by omega) (by omega), shl64 0 1 (by decide +kernel) ⟨by omega, by omega⟩, sg12 ⟨by omega, by omega⟩]
  split <;> split <;> omega
theorem nB {w : Int} (hw : W32 w) : iConv IntKind.i64 (word_Sext0 (iShl IntKind.u64 (iOr IntKind.u64 (iShl IntKind.u64 (iOr IntKind.u64 (iShl IntKind.u64 (iOr IntKind.u64 (iShl IntKind.u64 (iOr IntKind.u64 0 (word_Bits0 (iConv IntKind.u64 w) 31 1)) 1) (word_Bits0 (iConv IntKind.u64 w) 7 1)) 6)
                        (word_Bits0 (iConv IntKind.u64 w) 25 6)) 4) (word_Bits0 (iConv IntKind.u64 w) 8 4)) 1) 13) =
    w / 128 % 2 * 2048 + w / 33554432 % 64 * 32 + w / 256 % 16 * 2 - w / 2147483648 * 4096 := by
  have h := hw
  unfold W32 at h
  rw [b_31_1 hw, b_7_1 hw, b_25_6 hw, b_8_4 hw, or0 ⟨by omega, by omega⟩, step64 1 1 2 (by decide +kernel) (by decide +kernel) (by omega) ⟨by omega, by omega⟩ (by omega),
    step64 6 6 64 (by decide +kernel) (by decide +kernel) (by omega) ⟨by omega, by omega⟩ (by omega), step64 4 4 16 (by decide +kernel) (by decide +kernel) (by omega) ⟨by omega, by omega⟩ (by omega),
    shl64 1 2 (by decide +kernel) ⟨by omega, by omega⟩, sg13 ⟨by omega, by omega⟩]
  split <;> omega
theorem nJ {w : Int} (hw : W32 w) : iConv IntKind.i64 (word_Sext0 (iShl IntKind.u64 (iOr IntKind.u64 (iShl IntKind.u64 (iOr IntKind.u64 (iShl IntKind.u64 (iOr IntKind.u64 (iShl IntKind.u64 (iOr IntKind.u64 0 (word_Bits0 (iConv IntKind.u64 w) 31 1)) 8) (word_Bits0 (iConv IntKind.u64 w) 12 8)) 1)
                    (word_Bits0 (iConv IntKind.u64 w) 20 1)) 10) (word_Bits0 (iConv IntKind.u64 w) 21 10)) 1) 21) =
    w / 4096 % 256 * 4096 + w / 1048576 % 2 * 2048 + w / 2097152 % 1024 * 2 - w / 2147483648 * 1048576 := by
  have h := hw
  unfold W32 at h
  rw [b_31_1 hw, b_12_8 hw, b_20_1 hw, b_21_10 hw, or0 ⟨by omega, by omega⟩, step64 8 8 256 (by decide +kernel) (by decide +kernel) (by omega) ⟨by omega, by omega⟩ (by omega),
    step64 1 1 2 (by decide +kernel) (by decide +kernel) (by omega) ⟨by omega, by omega⟩ (by omega), step64 10 10 1024 (by decide +kernel) (by decide +kernel) (by omega) ⟨by omega, by omega⟩ (by omega),
    shl64 1 2 (by decide +kernel) ⟨by omega, by omega⟩, sg21 ⟨by omega, by omega⟩]
  split <;> omega
end Go.Proofs.YtngaeiceicgalaaDoor.PV
