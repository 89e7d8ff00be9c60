/-
  What the program reads in a word of given fields, of each operation. Printed by a program of the prover's own (wip/prt/words3.py).
-/
import Derived.Test.YtngaeiceicgalaaDoorHd
set_option linter.unusedVariables false
set_option linter.unusedSimpArgs false
namespace Go.Proofs.YtngaeiceicgalaaDoor.PV
open Go Go.Ev

structure InsT (w op rd rs1 rs2 imm csr : Int) : Prop where
  i0 : decode_parts__insn0 w (decode_of0 w) (decode_of1 w) (decode_of2 w) (decode_of3 w) (decode_of4 w) = op
  i1 : decode_parts__insn1 w (decode_of0 w) (decode_of1 w) (decode_of2 w) (decode_of3 w) (decode_of4 w) = rd
  i2 : decode_parts__insn2 w (decode_of0 w) (decode_of1 w) (decode_of2 w) (decode_of3 w) (decode_of4 w) = rs1
  i3 : decode_parts__insn3 w (decode_of0 w) (decode_of1 w) (decode_of2 w) (decode_of3 w) (decode_of4 w) = rs2
  i4 : decode_parts__insn4 w (decode_of0 w) (decode_of1 w) (decode_of2 w) (decode_of3 w) (decode_of4 w) = imm
  i5 : decode_parts__insn5 w (decode_of0 w) (decode_of1 w) (decode_of2 w) (decode_of3 w) (decode_of4 w) = csr
  i6 : decode_parts__insn6 w (decode_of0 w) (decode_of1 w) (decode_of2 w) (decode_of3 w) (decode_of4 w) = true

theorem dec_of_ins {w op rd rs1 rs2 imm csr : Int} (H : InsT w op rd rs1 rs2 imm csr) (h : sallyportref3_Is0 op rd rs1 rs2 imm csr = true) :
    decode_Decode0 w = op ∧ decode_Decode1 w = rd ∧ decode_Decode2 w = rs1 ∧ decode_Decode3 w = rs2 ∧ decode_Decode4 w = imm ∧ decode_Decode5 w = csr ∧ decode_Decode6 w = 0 := by
  have hc : decode_Decode_c0 w = false := by
    unfold decode_Decode_c0
    rw [H.i0, H.i1, H.i2, H.i3, H.i4, H.i5, H.i6, ← is_eq, h]
    rfl
  unfold decode_Decode0 decode_Decode1 decode_Decode2 decode_Decode3 decode_Decode4 decode_Decode5 decode_Decode6
  rw [hc, H.i0, H.i1, H.i2, H.i3, H.i4, H.i5]
  exact ⟨rfl, rfl, rfl, rfl, rfl, rfl, rfl⟩

theorem e1_0 {w rd f3 rs1 rs2 f7 : Int} (ho : decode_Opcode0 w = 55) : decode_parts__insn0 w rd f3 rs1 rs2 f7 = 1 := (s55_0 ho).trans (by kernel_rfl)
theorem e1_1 {w rd f3 rs1 rs2 f7 : Int} (ho : decode_Opcode0 w = 55) : decode_parts__insn1 w rd f3 rs1 rs2 f7 = rd := (s55_1 ho).trans (by kernel_rfl)
theorem e1_2 {w rd f3 rs1 rs2 f7 : Int} (ho : decode_Opcode0 w = 55) : decode_parts__insn2 w rd f3 rs1 rs2 f7 = 0 := (s55_2 ho).trans (by kernel_rfl)
theorem e1_3 {w rd f3 rs1 rs2 f7 : Int} (ho : decode_Opcode0 w = 55) : decode_parts__insn3 w rd f3 rs1 rs2 f7 = 0 := (s55_3 ho).trans (by kernel_rfl)
theorem e1_4 {w rd f3 rs1 rs2 f7 : Int} (ho : decode_Opcode0 w = 55) : decode_parts__insn4 w rd f3 rs1 rs2 f7 = iConv .i64 (word_Sext0 (iShl .u64 (iOr .u64 0 (word_Bits0 (iConv IntKind.u64 w) 12 20)) 12) 32) := (s55_4 ho).trans (by kernel_rfl)
theorem e1_5 {w rd f3 rs1 rs2 f7 : Int} (ho : decode_Opcode0 w = 55) : decode_parts__insn5 w rd f3 rs1 rs2 f7 = 0 := (s55_5 ho).trans (by kernel_rfl)
theorem e1_6 {w rd f3 rs1 rs2 f7 : Int} (ho : decode_Opcode0 w = 55) : decode_parts__insn6 w rd f3 rs1 rs2 f7 = true := (s55_6 ho).trans (by kernel_rfl)
theorem ins1 {w : Int} (hW : W32 w) (hq : w % 128 = 55) : InsT w 1 (w / 128 % 32) (0) (0) (if w / 4096 < 524288 then w / 4096 * 4096 else w / 4096 * 4096 - 4294967296) (0) := by
  have ho : decode_Opcode0 w = 55 := (opc_eq hW).trans hq
  have hw := hW
  unfold W32 at hw
  exact ⟨by exact (e1_0 ho),
    by exact (e1_1 ho).trans (of0_eq hW),
    by exact (e1_2 ho),
    by exact (e1_3 ho),
    by exact (e1_4 ho).trans (nU hW),
    by exact (e1_5 ho),
    by exact (e1_6 ho)⟩
theorem e2_0 {w rd f3 rs1 rs2 f7 : Int} (ho : decode_Opcode0 w = 23) : decode_parts__insn0 w rd f3 rs1 rs2 f7 = 2 := (s23_0 ho).trans (by kernel_rfl)
theorem e2_1 {w rd f3 rs1 rs2 f7 : Int} (ho : decode_Opcode0 w = 23) : decode_parts__insn1 w rd f3 rs1 rs2 f7 = rd := (s23_1 ho).trans (by kernel_rfl)
theorem e2_2 {w rd f3 rs1 rs2 f7 : Int} (ho : decode_Opcode0 w = 23) : decode_parts__insn2 w rd f3 rs1 rs2 f7 = 0 := (s23_2 ho).trans (by kernel_rfl)
theorem e2_3 {w rd f3 rs1 rs2 f7 : Int} (ho : decode_Opcode0 w = 23) : decode_parts__insn3 w rd f3 rs1 rs2 f7 = 0 := (s23_3 ho).trans (by kernel_rfl)
theorem e2_4 {w rd f3 rs1 rs2 f7 : Int} (ho : decode_Opcode0 w = 23) : decode_parts__insn4 w rd f3 rs1 rs2 f7 = iConv .i64 (word_Sext0 (iShl .u64 (iOr .u64 0 (word_Bits0 (iConv IntKind.u64 w) 12 20)) 12) 32) := (s23_4 ho).trans (by kernel_rfl)
theorem e2_5 {w rd f3 rs1 rs2 f7 : Int} (ho : decode_Opcode0 w = 23) : decode_parts__insn5 w rd f3 rs1 rs2 f7 = 0 := (s23_5 ho).trans (by kernel_rfl)
theorem e2_6 {w rd f3 rs1 rs2 f7 : Int} (ho : decode_Opcode0 w = 23) : decode_parts__insn6 w rd f3 rs1 rs2 f7 = true := (s23_6 ho).trans (by kernel_rfl)
theorem ins2 {w : Int} (hW : W32 w) (hq : w % 128 = 23) : InsT w 2 (w / 128 % 32) (0) (0) (if w / 4096 < 524288 then w / 4096 * 4096 else w / 4096 * 4096 - 4294967296) (0) := by
  have ho : decode_Opcode0 w = 23 := (opc_eq hW).trans hq
  have hw := hW
  unfold W32 at hw
  exact ⟨by exact (e2_0 ho),
    by exact (e2_1 ho).trans (of0_eq hW),
    by exact (e2_2 ho),
    by exact (e2_3 ho),
    by exact (e2_4 ho).trans (nU hW),
    by exact (e2_5 ho),
    by exact (e2_6 ho)⟩
theorem e3_0 {w rd f3 rs1 rs2 f7 : Int} (ho : decode_Opcode0 w = 111) : decode_parts__insn0 w rd f3 rs1 rs2 f7 = 3 := (s111_0 ho).trans (by kernel_rfl)
theorem e3_1 {w rd f3 rs1 rs2 f7 : Int} (ho : decode_Opcode0 w = 111) : decode_parts__insn1 w rd f3 rs1 rs2 f7 = rd := (s111_1 ho).trans (by kernel_rfl)
theorem e3_2 {w rd f3 rs1 rs2 f7 : Int} (ho : decode_Opcode0 w = 111) : decode_parts__insn2 w rd f3 rs1 rs2 f7 = 0 := (s111_2 ho).trans (by kernel_rfl)
theorem e3_3 {w rd f3 rs1 rs2 f7 : Int} (ho : decode_Opcode0 w = 111) : decode_parts__insn3 w rd f3 rs1 rs2 f7 = 0 := (s111_3 ho).trans (by kernel_rfl)
theorem e3_4 {w rd f3 rs1 rs2 f7 : Int} (ho : decode_Opcode0 w = 111) : decode_parts__insn4 w rd f3 rs1 rs2 f7 = iConv .i64 (word_Sext0 (iShl .u64 (iOr .u64 (iShl .u64 (iOr .u64 (iShl .u64 (iOr .u64 (iShl .u64 (iOr .u64 0 (word_Bits0 (iConv IntKind.u64 w) 31 1)) 8) (word_Bits0 (iConv IntKind.u64 w) 12 8)) 1) (word_Bits0 (iConv IntKind.u64 w) 20 1)) 10) (word_Bits0 (iConv IntKind.u64 w) 21 10)) 1) 21) := (s111_4 ho).trans (by kernel_rfl)
theorem e3_5 {w rd f3 rs1 rs2 f7 : Int} (ho : decode_Opcode0 w = 111) : decode_parts__insn5 w rd f3 rs1 rs2 f7 = 0 := (s111_5 ho).trans (by kernel_rfl)
theorem e3_6 {w rd f3 rs1 rs2 f7 : Int} (ho : decode_Opcode0 w = 111) : decode_parts__insn6 w rd f3 rs1 rs2 f7 = true := (s111_6 ho).trans (by kernel_rfl)
theorem ins3 {w : Int} (hW : W32 w) (hq : w % 128 = 111) : InsT w 3 (w / 128 % 32) (0) (0) (w / 4096 % 256 * 4096 + w / 1048576 % 2 * 2048 + w / 2097152 % 1024 * 2 - w / 2147483648 * 1048576) (0) := by
  have ho : decode_Opcode0 w = 111 := (opc_eq hW).trans hq
  have hw := hW
  unfold W32 at hw
  exact ⟨by exact (e3_0 ho),
    by exact (e3_1 ho).trans (of0_eq hW),
    by exact (e3_2 ho),
    by exact (e3_3 ho),
    by exact (e3_4 ho).trans (nJ hW),
    by exact (e3_5 ho),
    by exact (e3_6 ho)⟩
theorem e4_0 {w rd rs1 rs2 f7 : Int} (ho : decode_Opcode0 w = 103) : decode_parts__insn0 w rd 0 rs1 rs2 f7 = 4 := (s103_0 ho).trans (by kernel_rfl)
theorem e4_1 {w rd rs1 rs2 f7 : Int} (ho : decode_Opcode0 w = 103) : decode_parts__insn1 w rd 0 rs1 rs2 f7 = rd := (s103_1 ho).trans (by kernel_rfl)
theorem e4_2 {w rd rs1 rs2 f7 : Int} (ho : decode_Opcode0 w = 103) : decode_parts__insn2 w rd 0 rs1 rs2 f7 = rs1 := (s103_2 ho).trans (by kernel_rfl)
theorem e4_3 {w rd rs1 rs2 f7 : Int} (ho : decode_Opcode0 w = 103) : decode_parts__insn3 w rd 0 rs1 rs2 f7 = 0 := (s103_3 ho).trans (by kernel_rfl)
theorem e4_4 {w rd rs1 rs2 f7 : Int} (ho : decode_Opcode0 w = 103) : decode_parts__insn4 w rd 0 rs1 rs2 f7 = iConv .i64 (word_Sext0 (iShl .u64 (iOr .u64 0 (word_Bits0 (iConv IntKind.u64 w) 20 12)) 0) 12) := (s103_4 ho).trans (by kernel_rfl)
theorem e4_5 {w rd rs1 rs2 f7 : Int} (ho : decode_Opcode0 w = 103) : decode_parts__insn5 w rd 0 rs1 rs2 f7 = 0 := (s103_5 ho).trans (by kernel_rfl)
theorem e4_6 {w rd rs1 rs2 f7 : Int} (ho : decode_Opcode0 w = 103) : decode_parts__insn6 w rd 0 rs1 rs2 f7 = true := (s103_6 ho).trans (by kernel_rfl)
theorem ins4 {w : Int} (hW : W32 w) (hq : w % 128 = 103) (h3 : w / 4096 % 8 = 0) : InsT w 4 (w / 128 % 32) (w / 32768 % 32) (0) (if w / 1048576 < 2048 then w / 1048576 else w / 1048576 - 4096) (0) := by
  have ho : decode_Opcode0 w = 103 := (opc_eq hW).trans hq
  have hw := hW
  unfold W32 at hw
  have k_f3 : decode_of1 w = 0 := (of1_eq hW).trans h3
  exact ⟨by rw [k_f3]; exact (e4_0 ho),
    by rw [k_f3]; exact (e4_1 ho).trans (of0_eq hW),
    by rw [k_f3]; exact (e4_2 ho).trans (of2_eq hW),
    by rw [k_f3]; exact (e4_3 ho),
    by rw [k_f3]; exact (e4_4 ho).trans (nI hW),
    by rw [k_f3]; exact (e4_5 ho),
    by rw [k_f3]; exact (e4_6 ho)⟩
theorem e5_0 {w rd rs1 rs2 f7 : Int} (ho : decode_Opcode0 w = 99) : decode_parts__insn0 w rd 0 rs1 rs2 f7 = 5 := (s99_0 ho).trans (by kernel_rfl)
theorem e5_1 {w rd rs1 rs2 f7 : Int} (ho : decode_Opcode0 w = 99) : decode_parts__insn1 w rd 0 rs1 rs2 f7 = 0 := (s99_1 ho).trans (by kernel_rfl)
theorem e5_2 {w rd rs1 rs2 f7 : Int} (ho : decode_Opcode0 w = 99) : decode_parts__insn2 w rd 0 rs1 rs2 f7 = rs1 := (s99_2 ho).trans (by kernel_rfl)
theorem e5_3 {w rd rs1 rs2 f7 : Int} (ho : decode_Opcode0 w = 99) : decode_parts__insn3 w rd 0 rs1 rs2 f7 = rs2 := (s99_3 ho).trans (by kernel_rfl)
theorem e5_4 {w rd rs1 rs2 f7 : Int} (ho : decode_Opcode0 w = 99) : decode_parts__insn4 w rd 0 rs1 rs2 f7 = iConv .i64 (word_Sext0 (iShl .u64 (iOr .u64 (iShl .u64 (iOr .u64 (iShl .u64 (iOr .u64 (iShl .u64 (iOr .u64 0 (word_Bits0 (iConv IntKind.u64 w) 31 1)) 1) (word_Bits0 (iConv IntKind.u64 w) 7 1)) 6) (word_Bits0 (iConv IntKind.u64 w) 25 6)) 4) (word_Bits0 (iConv IntKind.u64 w) 8 4)) 1) 13) := (s99_4 ho).trans (by kernel_rfl)
theorem e5_5 {w rd rs1 rs2 f7 : Int} (ho : decode_Opcode0 w = 99) : decode_parts__insn5 w rd 0 rs1 rs2 f7 = 0 := (s99_5 ho).trans (by kernel_rfl)
theorem e5_6 {w rd rs1 rs2 f7 : Int} (ho : decode_Opcode0 w = 99) : decode_parts__insn6 w rd 0 rs1 rs2 f7 = true := (s99_6 ho).trans (by kernel_rfl)
theorem ins5 {w : Int} (hW : W32 w) (hq : w % 128 = 99) (h3 : w / 4096 % 8 = 0) : InsT w 5 (0) (w / 32768 % 32) (w / 1048576 % 32) (w / 128 % 2 * 2048 + w / 33554432 % 64 * 32 + w / 256 % 16 * 2 - w / 2147483648 * 4096) (0) := by
  have ho : decode_Opcode0 w = 99 := (opc_eq hW).trans hq
  have hw := hW
  unfold W32 at hw
  have k_f3 : decode_of1 w = 0 := (of1_eq hW).trans h3
  exact ⟨by rw [k_f3]; exact (e5_0 ho),
    by rw [k_f3]; exact (e5_1 ho),
    by rw [k_f3]; exact (e5_2 ho).trans (of2_eq hW),
    by rw [k_f3]; exact (e5_3 ho).trans (of3_eq hW),
    by rw [k_f3]; exact (e5_4 ho).trans (nB hW),
    by rw [k_f3]; exact (e5_5 ho),
    by rw [k_f3]; exact (e5_6 ho)⟩
theorem e6_0 {w rd rs1 rs2 f7 : Int} (ho : decode_Opcode0 w = 99) : decode_parts__insn0 w rd 1 rs1 rs2 f7 = 6 := (s99_0 ho).trans (by kernel_rfl)
theorem e6_1 {w rd rs1 rs2 f7 : Int} (ho : decode_Opcode0 w = 99) : decode_parts__insn1 w rd 1 rs1 rs2 f7 = 0 := (s99_1 ho).trans (by kernel_rfl)
theorem e6_2 {w rd rs1 rs2 f7 : Int} (ho : decode_Opcode0 w = 99) : decode_parts__insn2 w rd 1 rs1 rs2 f7 = rs1 := (s99_2 ho).trans (by kernel_rfl)
theorem e6_3 {w rd rs1 rs2 f7 : Int} (ho : decode_Opcode0 w = 99) : decode_parts__insn3 w rd 1 rs1 rs2 f7 = rs2 := (s99_3 ho).trans (by kernel_rfl)
theorem e6_4 {w rd rs1 rs2 f7 : Int} (ho : decode_Opcode0 w = 99) : decode_parts__insn4 w rd 1 rs1 rs2 f7 = iConv .i64 (word_Sext0 (iShl .u64 (iOr .u64 (iShl .u64 (iOr .u64 (iShl .u64 (iOr .u64 (iShl .u64 (iOr .u64 0 (word_Bits0 (iConv IntKind.u64 w) 31 1)) 1) (word_Bits0 (iConv IntKind.u64 w) 7 1)) 6) (word_Bits0 (iConv IntKind.u64 w) 25 6)) 4) (word_Bits0 (iConv IntKind.u64 w) 8 4)) 1) 13) := (s99_4 ho).trans (by kernel_rfl)
theorem e6_5 {w rd rs1 rs2 f7 : Int} (ho : decode_Opcode0 w = 99) : decode_parts__insn5 w rd 1 rs1 rs2 f7 = 0 := (s99_5 ho).trans (by kernel_rfl)
theorem e6_6 {w rd rs1 rs2 f7 : Int} (ho : decode_Opcode0 w = 99) : decode_parts__insn6 w rd 1 rs1 rs2 f7 = true := (s99_6 ho).trans (by kernel_rfl)
theorem ins6 {w : Int} (hW : W32 w) (hq : w % 128 = 99) (h3 : w / 4096 % 8 = 1) : InsT w 6 (0) (w / 32768 % 32) (w / 1048576 % 32) (w / 128 % 2 * 2048 + w / 33554432 % 64 * 32 + w / 256 % 16 * 2 - w / 2147483648 * 4096) (0) := by
  have ho : decode_Opcode0 w = 99 := (opc_eq hW).trans hq
  have hw := hW
  unfold W32 at hw
  have k_f3 : decode_of1 w = 1 := (of1_eq hW).trans h3
  exact ⟨by rw [k_f3]; exact (e6_0 ho),
    by rw [k_f3]; exact (e6_1 ho),
    by rw [k_f3]; exact (e6_2 ho).trans (of2_eq hW),
    by rw [k_f3]; exact (e6_3 ho).trans (of3_eq hW),
    by rw [k_f3]; exact (e6_4 ho).trans (nB hW),
    by rw [k_f3]; exact (e6_5 ho),
    by rw [k_f3]; exact (e6_6 ho)⟩
theorem e7_0 {w rd rs1 rs2 f7 : Int} (ho : decode_Opcode0 w = 99) : decode_parts__insn0 w rd 4 rs1 rs2 f7 = 7 := (s99_0 ho).trans (by kernel_rfl)
theorem e7_1 {w rd rs1 rs2 f7 : Int} (ho : decode_Opcode0 w = 99) : decode_parts__insn1 w rd 4 rs1 rs2 f7 = 0 := (s99_1 ho).trans (by kernel_rfl)
theorem e7_2 {w rd rs1 rs2 f7 : Int} (ho : decode_Opcode0 w = 99) : decode_parts__insn2 w rd 4 rs1 rs2 f7 = rs1 := (s99_2 ho).trans (by kernel_rfl)
theorem e7_3 {w rd rs1 rs2 f7 : Int} (ho : decode_Opcode0 w = 99) : decode_parts__insn3 w rd 4 rs1 rs2 f7 = rs2 := (s99_3 ho).trans (by kernel_rfl)
theorem e7_4 {w rd rs1 rs2 f7 : Int} (ho : decode_Opcode0 w = 99) : decode_parts__insn4 w rd 4 rs1 rs2 f7 = iConv .i64 (word_Sext0 (iShl .u64 (iOr .u64 (iShl .u64 (iOr .u64 (iShl .u64 (iOr .u64 (iShl .u64 (iOr .u64 0 (word_Bits0 (iConv IntKind.u64 w) 31 1)) 1) (word_Bits0 (iConv IntKind.u64 w) 7 1)) 6) (word_Bits0 (iConv IntKind.u64 w) 25 6)) 4) (word_Bits0 (iConv IntKind.u64 w) 8 4)) 1) 13) := (s99_4 ho).trans (by kernel_rfl)
theorem e7_5 {w rd rs1 rs2 f7 : Int} (ho : decode_Opcode0 w = 99) : decode_parts__insn5 w rd 4 rs1 rs2 f7 = 0 := (s99_5 ho).trans (by kernel_rfl)
theorem e7_6 {w rd rs1 rs2 f7 : Int} (ho : decode_Opcode0 w = 99) : decode_parts__insn6 w rd 4 rs1 rs2 f7 = true := (s99_6 ho).trans (by kernel_rfl)
theorem ins7 {w : Int} (hW : W32 w) (hq : w % 128 = 99) (h3 : w / 4096 % 8 = 4) : InsT w 7 (0) (w / 32768 % 32) (w / 1048576 % 32) (w / 128 % 2 * 2048 + w / 33554432 % 64 * 32 + w / 256 % 16 * 2 - w / 2147483648 * 4096) (0) := by
  have ho : decode_Opcode0 w = 99 := (opc_eq hW).trans hq
  have hw := hW
  unfold W32 at hw
  have k_f3 : decode_of1 w = 4 := (of1_eq hW).trans h3
  exact ⟨by rw [k_f3]; exact (e7_0 ho),
    by rw [k_f3]; exact (e7_1 ho),
    by rw [k_f3]; exact (e7_2 ho).trans (of2_eq hW),
    by rw [k_f3]; exact (e7_3 ho).trans (of3_eq hW),
    by rw [k_f3]; exact (e7_4 ho).trans (nB hW),
    by rw [k_f3]; exact (e7_5 ho),
    by rw [k_f3]; exact (e7_6 ho)⟩
theorem e8_0 {w rd rs1 rs2 f7 : Int} (ho : decode_Opcode0 w = 99) : decode_parts__insn0 w rd 5 rs1 rs2 f7 = 8 := (s99_0 ho).trans (by kernel_rfl)
theorem e8_1 {w rd rs1 rs2 f7 : Int} (ho : decode_Opcode0 w = 99) : decode_parts__insn1 w rd 5 rs1 rs2 f7 = 0 := (s99_1 ho).trans (by kernel_rfl)
theorem e8_2 {w rd rs1 rs2 f7 : Int} (ho : decode_Opcode0 w = 99) : decode_parts__insn2 w rd 5 rs1 rs2 f7 = rs1 := (s99_2 ho).trans (by kernel_rfl)
theorem e8_3 {w rd rs1 rs2 f7 : Int} (ho : decode_Opcode0 w = 99) : decode_parts__insn3 w rd 5 rs1 rs2 f7 = rs2 := (s99_3 ho).trans (by kernel_rfl)
theorem e8_4 {w rd rs1 rs2 f7 : Int} (ho : decode_Opcode0 w = 99) : decode_parts__insn4 w rd 5 rs1 rs2 f7 = iConv .i64 (word_Sext0 (iShl .u64 (iOr .u64 (iShl .u64 (iOr .u64 (iShl .u64 (iOr .u64 (iShl .u64 (iOr .u64 0 (word_Bits0 (iConv IntKind.u64 w) 31 1)) 1) (word_Bits0 (iConv IntKind.u64 w) 7 1)) 6) (word_Bits0 (iConv IntKind.u64 w) 25 6)) 4) (word_Bits0 (iConv IntKind.u64 w) 8 4)) 1) 13) := (s99_4 ho).trans (by kernel_rfl)
theorem e8_5 {w rd rs1 rs2 f7 : Int} (ho : decode_Opcode0 w = 99) : decode_parts__insn5 w rd 5 rs1 rs2 f7 = 0 := (s99_5 ho).trans (by kernel_rfl)
theorem e8_6 {w rd rs1 rs2 f7 : Int} (ho : decode_Opcode0 w = 99) : decode_parts__insn6 w rd 5 rs1 rs2 f7 = true := (s99_6 ho).trans (by kernel_rfl)
theorem ins8 {w : Int} (hW : W32 w) (hq : w % 128 = 99) (h3 : w / 4096 % 8 = 5) : InsT w 8 (0) (w / 32768 % 32) (w / 1048576 % 32) (w / 128 % 2 * 2048 + w / 33554432 % 64 * 32 + w / 256 % 16 * 2 - w / 2147483648 * 4096) (0) := by
  have ho : decode_Opcode0 w = 99 := (opc_eq hW).trans hq
  have hw := hW
  unfold W32 at hw
  have k_f3 : decode_of1 w = 5 := (of1_eq hW).trans h3
  exact ⟨by rw [k_f3]; exact (e8_0 ho),
    by rw [k_f3]; exact (e8_1 ho),
    by rw [k_f3]; exact (e8_2 ho).trans (of2_eq hW),
    by rw [k_f3]; exact (e8_3 ho).trans (of3_eq hW),
    by rw [k_f3]; exact (e8_4 ho).trans (nB hW),
    by rw [k_f3]; exact (e8_5 ho),
    by rw [k_f3]; exact (e8_6 ho)⟩
theorem e9_0 {w rd rs1 rs2 f7 : Int} (ho : decode_Opcode0 w = 99) : decode_parts__insn0 w rd 6 rs1 rs2 f7 = 9 := (s99_0 ho).trans (by kernel_rfl)
theorem e9_1 {w rd rs1 rs2 f7 : Int} (ho : decode_Opcode0 w = 99) : decode_parts__insn1 w rd 6 rs1 rs2 f7 = 0 := (s99_1 ho).trans (by kernel_rfl)
theorem e9_2 {w rd rs1 rs2 f7 : Int} (ho : decode_Opcode0 w = 99) : decode_parts__insn2 w rd 6 rs1 rs2 f7 = rs1 := (s99_2 ho).trans (by kernel_rfl)
theorem e9_3 {w rd rs1 rs2 f7 : Int} (ho : decode_Opcode0 w = 99) : decode_parts__insn3 w rd 6 rs1 rs2 f7 = rs2 := (s99_3 ho).trans (by kernel_rfl)
theorem e9_4 {w rd rs1 rs2 f7 : Int} (ho : decode_Opcode0 w = 99) : decode_parts__insn4 w rd 6 rs1 rs2 f7 = iConv .i64 (word_Sext0 (iShl .u64 (iOr .u64 (iShl .u64 (iOr .u64 (iShl .u64 (iOr .u64 (iShl .u64 (iOr .u64 0 (word_Bits0 (iConv IntKind.u64 w) 31 1)) 1) (word_Bits0 (iConv IntKind.u64 w) 7 1)) 6) (word_Bits0 (iConv IntKind.u64 w) 25 6)) 4) (word_Bits0 (iConv IntKind.u64 w) 8 4)) 1) 13) := (s99_4 ho).trans (by kernel_rfl)
theorem e9_5 {w rd rs1 rs2 f7 : Int} (ho : decode_Opcode0 w = 99) : decode_parts__insn5 w rd 6 rs1 rs2 f7 = 0 := (s99_5 ho).trans (by kernel_rfl)
theorem e9_6 {w rd rs1 rs2 f7 : Int} (ho : decode_Opcode0 w = 99) : decode_parts__insn6 w rd 6 rs1 rs2 f7 = true := (s99_6 ho).trans (by kernel_rfl)
theorem ins9 {w : Int} (hW : W32 w) (hq : w % 128 = 99) (h3 : w / 4096 % 8 = 6) : InsT w 9 (0) (w / 32768 % 32) (w / 1048576 % 32) (w / 128 % 2 * 2048 + w / 33554432 % 64 * 32 + w / 256 % 16 * 2 - w / 2147483648 * 4096) (0) := by
  have ho : decode_Opcode0 w = 99 := (opc_eq hW).trans hq
  have hw := hW
  unfold W32 at hw
  have k_f3 : decode_of1 w = 6 := (of1_eq hW).trans h3
  exact ⟨by rw [k_f3]; exact (e9_0 ho),
    by rw [k_f3]; exact (e9_1 ho),
    by rw [k_f3]; exact (e9_2 ho).trans (of2_eq hW),
    by rw [k_f3]; exact (e9_3 ho).trans (of3_eq hW),
    by rw [k_f3]; exact (e9_4 ho).trans (nB hW),
    by rw [k_f3]; exact (e9_5 ho),
    by rw [k_f3]; exact (e9_6 ho)⟩
theorem e10_0 {w rd rs1 rs2 f7 : Int} (ho : decode_Opcode0 w = 99) : decode_parts__insn0 w rd 7 rs1 rs2 f7 = 10 := (s99_0 ho).trans (by kernel_rfl)
theorem e10_1 {w rd rs1 rs2 f7 : Int} (ho : decode_Opcode0 w = 99) : decode_parts__insn1 w rd 7 rs1 rs2 f7 = 0 := (s99_1 ho).trans (by kernel_rfl)
theorem e10_2 {w rd rs1 rs2 f7 : Int} (ho : decode_Opcode0 w = 99) : decode_parts__insn2 w rd 7 rs1 rs2 f7 = rs1 := (s99_2 ho).trans (by kernel_rfl)
theorem e10_3 {w rd rs1 rs2 f7 : Int} (ho : decode_Opcode0 w = 99) : decode_parts__insn3 w rd 7 rs1 rs2 f7 = rs2 := (s99_3 ho).trans (by kernel_rfl)
theorem e10_4 {w rd rs1 rs2 f7 : Int} (ho : decode_Opcode0 w = 99) : decode_parts__insn4 w rd 7 rs1 rs2 f7 = iConv .i64 (word_Sext0 (iShl .u64 (iOr .u64 (iShl .u64 (iOr .u64 (iShl .u64 (iOr .u64 (iShl .u64 (iOr .u64 0 (word_Bits0 (iConv IntKind.u64 w) 31 1)) 1) (word_Bits0 (iConv IntKind.u64 w) 7 1)) 6) (word_Bits0 (iConv IntKind.u64 w) 25 6)) 4) (word_Bits0 (iConv IntKind.u64 w) 8 4)) 1) 13) := (s99_4 ho).trans (by kernel_rfl)
theorem e10_5 {w rd rs1 rs2 f7 : Int} (ho : decode_Opcode0 w = 99) : decode_parts__insn5 w rd 7 rs1 rs2 f7 = 0 := (s99_5 ho).trans (by kernel_rfl)
theorem e10_6 {w rd rs1 rs2 f7 : Int} (ho : decode_Opcode0 w = 99) : decode_parts__insn6 w rd 7 rs1 rs2 f7 = true := (s99_6 ho).trans (by kernel_rfl)
theorem ins10 {w : Int} (hW : W32 w) (hq : w % 128 = 99) (h3 : w / 4096 % 8 = 7) : InsT w 10 (0) (w / 32768 % 32) (w / 1048576 % 32) (w / 128 % 2 * 2048 + w / 33554432 % 64 * 32 + w / 256 % 16 * 2 - w / 2147483648 * 4096) (0) := by
  have ho : decode_Opcode0 w = 99 := (opc_eq hW).trans hq
  have hw := hW
  unfold W32 at hw
  have k_f3 : decode_of1 w = 7 := (of1_eq hW).trans h3
  exact ⟨by rw [k_f3]; exact (e10_0 ho),
    by rw [k_f3]; exact (e10_1 ho),
    by rw [k_f3]; exact (e10_2 ho).trans (of2_eq hW),
    by rw [k_f3]; exact (e10_3 ho).trans (of3_eq hW),
    by rw [k_f3]; exact (e10_4 ho).trans (nB hW),
    by rw [k_f3]; exact (e10_5 ho),
    by rw [k_f3]; exact (e10_6 ho)⟩
theorem e11_0 {w rd rs1 rs2 f7 : Int} (ho : decode_Opcode0 w = 3) : decode_parts__insn0 w rd 0 rs1 rs2 f7 = 11 := (s3_0 ho).trans (by kernel_rfl)
theorem e11_1 {w rd rs1 rs2 f7 : Int} (ho : decode_Opcode0 w = 3) : decode_parts__insn1 w rd 0 rs1 rs2 f7 = rd := (s3_1 ho).trans (by kernel_rfl)
theorem e11_2 {w rd rs1 rs2 f7 : Int} (ho : decode_Opcode0 w = 3) : decode_parts__insn2 w rd 0 rs1 rs2 f7 = rs1 := (s3_2 ho).trans (by kernel_rfl)
theorem e11_3 {w rd rs1 rs2 f7 : Int} (ho : decode_Opcode0 w = 3) : decode_parts__insn3 w rd 0 rs1 rs2 f7 = 0 := (s3_3 ho).trans (by kernel_rfl)
theorem e11_4 {w rd rs1 rs2 f7 : Int} (ho : decode_Opcode0 w = 3) : decode_parts__insn4 w rd 0 rs1 rs2 f7 = iConv .i64 (word_Sext0 (iShl .u64 (iOr .u64 0 (word_Bits0 (iConv IntKind.u64 w) 20 12)) 0) 12) := (s3_4 ho).trans (by kernel_rfl)
theorem e11_5 {w rd rs1 rs2 f7 : Int} (ho : decode_Opcode0 w = 3) : decode_parts__insn5 w rd 0 rs1 rs2 f7 = 0 := (s3_5 ho).trans (by kernel_rfl)
theorem e11_6 {w rd rs1 rs2 f7 : Int} (ho : decode_Opcode0 w = 3) : decode_parts__insn6 w rd 0 rs1 rs2 f7 = true := (s3_6 ho).trans (by kernel_rfl)
theorem ins11 {w : Int} (hW : W32 w) (hq : w % 128 = 3) (h3 : w / 4096 % 8 = 0) : InsT w 11 (w / 128 % 32) (w / 32768 % 32) (0) (if w / 1048576 < 2048 then w / 1048576 else w / 1048576 - 4096) (0) := by
  have ho : decode_Opcode0 w = 3 := (opc_eq hW).trans hq
  have hw := hW
  unfold W32 at hw
  have k_f3 : decode_of1 w = 0 := (of1_eq hW).trans h3
  exact ⟨by rw [k_f3]; exact (e11_0 ho),
    by rw [k_f3]; exact (e11_1 ho).trans (of0_eq hW),
    by rw [k_f3]; exact (e11_2 ho).trans (of2_eq hW),
    by rw [k_f3]; exact (e11_3 ho),
    by rw [k_f3]; exact (e11_4 ho).trans (nI hW),
    by rw [k_f3]; exact (e11_5 ho),
    by rw [k_f3]; exact (e11_6 ho)⟩
theorem e12_0 {w rd rs1 rs2 f7 : Int} (ho : decode_Opcode0 w = 3) : decode_parts__insn0 w rd 1 rs1 rs2 f7 = 12 := (s3_0 ho).trans (by kernel_rfl)
theorem e12_1 {w rd rs1 rs2 f7 : Int} (ho : decode_Opcode0 w = 3) : decode_parts__insn1 w rd 1 rs1 rs2 f7 = rd := (s3_1 ho).trans (by kernel_rfl)
theorem e12_2 {w rd rs1 rs2 f7 : Int} (ho : decode_Opcode0 w = 3) : decode_parts__insn2 w rd 1 rs1 rs2 f7 = rs1 := (s3_2 ho).trans (by kernel_rfl)
theorem e12_3 {w rd rs1 rs2 f7 : Int} (ho : decode_Opcode0 w = 3) : decode_parts__insn3 w rd 1 rs1 rs2 f7 = 0 := (s3_3 ho).trans (by kernel_rfl)
theorem e12_4 {w rd rs1 rs2 f7 : Int} (ho : decode_Opcode0 w = 3) : decode_parts__insn4 w rd 1 rs1 rs2 f7 = iConv .i64 (word_Sext0 (iShl .u64 (iOr .u64 0 (word_Bits0 (iConv IntKind.u64 w) 20 12)) 0) 12) := (s3_4 ho).trans (by kernel_rfl)
theorem e12_5 {w rd rs1 rs2 f7 : Int} (ho : decode_Opcode0 w = 3) : decode_parts__insn5 w rd 1 rs1 rs2 f7 = 0 := (s3_5 ho).trans (by kernel_rfl)
theorem e12_6 {w rd rs1 rs2 f7 : Int} (ho : decode_Opcode0 w = 3) : decode_parts__insn6 w rd 1 rs1 rs2 f7 = true := (s3_6 ho).trans (by kernel_rfl)
theorem ins12 {w : Int} (hW : W32 w) (hq : w % 128 = 3) (h3 : w / 4096 % 8 = 1) : InsT w 12 (w / 128 % 32) (w / 32768 % 32) (0) (if w / 1048576 < 2048 then w / 1048576 else w / 1048576 - 4096) (0) := by
  have ho : decode_Opcode0 w = 3 := (opc_eq hW).trans hq
  have hw := hW
  unfold W32 at hw
  have k_f3 : decode_of1 w = 1 := (of1_eq hW).trans h3
  exact ⟨by rw [k_f3]; exact (e12_0 ho),
    by rw [k_f3]; exact (e12_1 ho).trans (of0_eq hW),
    by rw [k_f3]; exact (e12_2 ho).trans (of2_eq hW),
    by rw [k_f3]; exact (e12_3 ho),
    by rw [k_f3]; exact (e12_4 ho).trans (nI hW),
    by rw [k_f3]; exact (e12_5 ho),
    by rw [k_f3]; exact (e12_6 ho)⟩
theorem e13_0 {w rd rs1 rs2 f7 : Int} (ho : decode_Opcode0 w = 3) : decode_parts__insn0 w rd 2 rs1 rs2 f7 = 13 := (s3_0 ho).trans (by kernel_rfl)
theorem e13_1 {w rd rs1 rs2 f7 : Int} (ho : decode_Opcode0 w = 3) : decode_parts__insn1 w rd 2 rs1 rs2 f7 = rd := (s3_1 ho).trans (by kernel_rfl)
theorem e13_2 {w rd rs1 rs2 f7 : Int} (ho : decode_Opcode0 w = 3) : decode_parts__insn2 w rd 2 rs1 rs2 f7 = rs1 := (s3_2 ho).trans (by kernel_rfl)
theorem e13_3 {w rd rs1 rs2 f7 : Int} (ho : decode_Opcode0 w = 3) : decode_parts__insn3 w rd 2 rs1 rs2 f7 = 0 := (s3_3 ho).trans (by kernel_rfl)
theorem e13_4 {w rd rs1 rs2 f7 : Int} (ho : decode_Opcode0 w = 3) : decode_parts__insn4 w rd 2 rs1 rs2 f7 = iConv .i64 (word_Sext0 (iShl .u64 (iOr .u64 0 (word_Bits0 (iConv IntKind.u64 w) 20 12)) 0) 12) := (s3_4 ho).trans (by kernel_rfl)
theorem e13_5 {w rd rs1 rs2 f7 : Int} (ho : decode_Opcode0 w = 3) : decode_parts__insn5 w rd 2 rs1 rs2 f7 = 0 := (s3_5 ho).trans (by kernel_rfl)
theorem e13_6 {w rd rs1 rs2 f7 : Int} (ho : decode_Opcode0 w = 3) : decode_parts__insn6 w rd 2 rs1 rs2 f7 = true := (s3_6 ho).trans (by kernel_rfl)
theorem ins13 {w : Int} (hW : W32 w) (hq : w % 128 = 3) (h3 : w / 4096 % 8 = 2) : InsT w 13 (w / 128 % 32) (w / 32768 % 32) (0) (if w / 1048576 < 2048 then w / 1048576 else w / 1048576 - 4096) (0) := by
  have ho : decode_Opcode0 w = 3 := (opc_eq hW).trans hq
  have hw := hW
  unfold W32 at hw
  have k_f3 : decode_of1 w = 2 := (of1_eq hW).trans h3
  exact ⟨by rw [k_f3]; exact (e13_0 ho),
    by rw [k_f3]; exact (e13_1 ho).trans (of0_eq hW),
    by rw [k_f3]; exact (e13_2 ho).trans (of2_eq hW),
    by rw [k_f3]; exact (e13_3 ho),
    by rw [k_f3]; exact (e13_4 ho).trans (nI hW),
    by rw [k_f3]; exact (e13_5 ho),
    by rw [k_f3]; exact (e13_6 ho)⟩
theorem e14_0 {w rd rs1 rs2 f7 : Int} (ho : decode_Opcode0 w = 3) : decode_parts__insn0 w rd 3 rs1 rs2 f7 = 14 := (s3_0 ho).trans (by kernel_rfl)
theorem e14_1 {w rd rs1 rs2 f7 : Int} (ho : decode_Opcode0 w = 3) : decode_parts__insn1 w rd 3 rs1 rs2 f7 = rd := (s3_1 ho).trans (by kernel_rfl)
theorem e14_2 {w rd rs1 rs2 f7 : Int} (ho : decode_Opcode0 w = 3) : decode_parts__insn2 w rd 3 rs1 rs2 f7 = rs1 := (s3_2 ho).trans (by kernel_rfl)
theorem e14_3 {w rd rs1 rs2 f7 : Int} (ho : decode_Opcode0 w = 3) : decode_parts__insn3 w rd 3 rs1 rs2 f7 = 0 := (s3_3 ho).trans (by kernel_rfl)
theorem e14_4 {w rd rs1 rs2 f7 : Int} (ho : decode_Opcode0 w = 3) : decode_parts__insn4 w rd 3 rs1 rs2 f7 = iConv .i64 (word_Sext0 (iShl .u64 (iOr .u64 0 (word_Bits0 (iConv IntKind.u64 w) 20 12)) 0) 12) := (s3_4 ho).trans (by kernel_rfl)
theorem e14_5 {w rd rs1 rs2 f7 : Int} (ho : decode_Opcode0 w = 3) : decode_parts__insn5 w rd 3 rs1 rs2 f7 = 0 := (s3_5 ho).trans (by kernel_rfl)
theorem e14_6 {w rd rs1 rs2 f7 : Int} (ho : decode_Opcode0 w = 3) : decode_parts__insn6 w rd 3 rs1 rs2 f7 = true := (s3_6 ho).trans (by kernel_rfl)
theorem ins14 {w : Int} (hW : W32 w) (hq : w % 128 = 3) (h3 : w / 4096 % 8 = 3) : InsT w 14 (w / 128 % 32) (w / 32768 % 32) (0) (if w / 1048576 < 2048 then w / 1048576 else w / 1048576 - 4096) (0) := by
  have ho : decode_Opcode0 w = 3 := (opc_eq hW).trans hq
  have hw := hW
  unfold W32 at hw
  have k_f3 : decode_of1 w = 3 := (of1_eq hW).trans h3
  exact ⟨by rw [k_f3]; exact (e14_0 ho),
    by rw [k_f3]; exact (e14_1 ho).trans (of0_eq hW),
    by rw [k_f3]; exact (e14_2 ho).trans (of2_eq hW),
    by rw [k_f3]; exact (e14_3 ho),
    by rw [k_f3]; exact (e14_4 ho).trans (nI hW),
    by rw [k_f3]; exact (e14_5 ho),
    by rw [k_f3]; exact (e14_6 ho)⟩
theorem e15_0 {w rd rs1 rs2 f7 : Int} (ho : decode_Opcode0 w = 3) : decode_parts__insn0 w rd 4 rs1 rs2 f7 = 15 := (s3_0 ho).trans (by kernel_rfl)
theorem e15_1 {w rd rs1 rs2 f7 : Int} (ho : decode_Opcode0 w = 3) : decode_parts__insn1 w rd 4 rs1 rs2 f7 = rd := (s3_1 ho).trans (by kernel_rfl)
theorem e15_2 {w rd rs1 rs2 f7 : Int} (ho : decode_Opcode0 w = 3) : decode_parts__insn2 w rd 4 rs1 rs2 f7 = rs1 := (s3_2 ho).trans (by kernel_rfl)
theorem e15_3 {w rd rs1 rs2 f7 : Int} (ho : decode_Opcode0 w = 3) : decode_parts__insn3 w rd 4 rs1 rs2 f7 = 0 := (s3_3 ho).trans (by kernel_rfl)
theorem e15_4 {w rd rs1 rs2 f7 : Int} (ho : decode_Opcode0 w = 3) : decode_parts__insn4 w rd 4 rs1 rs2 f7 = iConv .i64 (word_Sext0 (iShl .u64 (iOr .u64 0 (word_Bits0 (iConv IntKind.u64 w) 20 12)) 0) 12) := (s3_4 ho).trans (by kernel_rfl)
theorem e15_5 {w rd rs1 rs2 f7 : Int} (ho : decode_Opcode0 w = 3) : decode_parts__insn5 w rd 4 rs1 rs2 f7 = 0 := (s3_5 ho).trans (by kernel_rfl)
theorem e15_6 {w rd rs1 rs2 f7 : Int} (ho : decode_Opcode0 w = 3) : decode_parts__insn6 w rd 4 rs1 rs2 f7 = true := (s3_6 ho).trans (by kernel_rfl)
theorem ins15 {w : Int} (hW : W32 w) (hq : w % 128 = 3) (h3 : w / 4096 % 8 = 4) : InsT w 15 (w / 128 % 32) (w / 32768 % 32) (0) (if w / 1048576 < 2048 then w / 1048576 else w / 1048576 - 4096) (0) := by
  have ho : decode_Opcode0 w = 3 := (opc_eq hW).trans hq
  have hw := hW
  unfold W32 at hw
  have k_f3 : decode_of1 w = 4 := (of1_eq hW).trans h3
  exact ⟨by rw [k_f3]; exact (e15_0 ho),
    by rw [k_f3]; exact (e15_1 ho).trans (of0_eq hW),
    by rw [k_f3]; exact (e15_2 ho).trans (of2_eq hW),
    by rw [k_f3]; exact (e15_3 ho),
    by rw [k_f3]; exact (e15_4 ho).trans (nI hW),
    by rw [k_f3]; exact (e15_5 ho),
    by rw [k_f3]; exact (e15_6 ho)⟩
theorem e16_0 {w rd rs1 rs2 f7 : Int} (ho : decode_Opcode0 w = 3) : decode_parts__insn0 w rd 5 rs1 rs2 f7 = 16 := (s3_0 ho).trans (by kernel_rfl)
theorem e16_1 {w rd rs1 rs2 f7 : Int} (ho : decode_Opcode0 w = 3) : decode_parts__insn1 w rd 5 rs1 rs2 f7 = rd := (s3_1 ho).trans (by kernel_rfl)
theorem e16_2 {w rd rs1 rs2 f7 : Int} (ho : decode_Opcode0 w = 3) : decode_parts__insn2 w rd 5 rs1 rs2 f7 = rs1 := (s3_2 ho).trans (by kernel_rfl)
theorem e16_3 {w rd rs1 rs2 f7 : Int} (ho : decode_Opcode0 w = 3) : decode_parts__insn3 w rd 5 rs1 rs2 f7 = 0 := (s3_3 ho).trans (by kernel_rfl)
theorem e16_4 {w rd rs1 rs2 f7 : Int} (ho : decode_Opcode0 w = 3) : decode_parts__insn4 w rd 5 rs1 rs2 f7 = iConv .i64 (word_Sext0 (iShl .u64 (iOr .u64 0 (word_Bits0 (iConv IntKind.u64 w) 20 12)) 0) 12) := (s3_4 ho).trans (by kernel_rfl)
theorem e16_5 {w rd rs1 rs2 f7 : Int} (ho : decode_Opcode0 w = 3) : decode_parts__insn5 w rd 5 rs1 rs2 f7 = 0 := (s3_5 ho).trans (by kernel_rfl)
theorem e16_6 {w rd rs1 rs2 f7 : Int} (ho : decode_Opcode0 w = 3) : decode_parts__insn6 w rd 5 rs1 rs2 f7 = true := (s3_6 ho).trans (by kernel_rfl)
theorem ins16 {w : Int} (hW : W32 w) (hq : w % 128 = 3) (h3 : w / 4096 % 8 = 5) : InsT w 16 (w / 128 % 32) (w / 32768 % 32) (0) (if w / 1048576 < 2048 then w / 1048576 else w / 1048576 - 4096) (0) := by
  have ho : decode_Opcode0 w = 3 := (opc_eq hW).trans hq
  have hw := hW
  unfold W32 at hw
  have k_f3 : decode_of1 w = 5 := (of1_eq hW).trans h3
  exact ⟨by rw [k_f3]; exact (e16_0 ho),
    by rw [k_f3]; exact (e16_1 ho).trans (of0_eq hW),
    by rw [k_f3]; exact (e16_2 ho).trans (of2_eq hW),
    by rw [k_f3]; exact (e16_3 ho),
    by rw [k_f3]; exact (e16_4 ho).trans (nI hW),
    by rw [k_f3]; exact (e16_5 ho),
    by rw [k_f3]; exact (e16_6 ho)⟩
theorem e17_0 {w rd rs1 rs2 f7 : Int} (ho : decode_Opcode0 w = 3) : decode_parts__insn0 w rd 6 rs1 rs2 f7 = 17 := (s3_0 ho).trans (by kernel_rfl)
theorem e17_1 {w rd rs1 rs2 f7 : Int} (ho : decode_Opcode0 w = 3) : decode_parts__insn1 w rd 6 rs1 rs2 f7 = rd := (s3_1 ho).trans (by kernel_rfl)
theorem e17_2 {w rd rs1 rs2 f7 : Int} (ho : decode_Opcode0 w = 3) : decode_parts__insn2 w rd 6 rs1 rs2 f7 = rs1 := (s3_2 ho).trans (by kernel_rfl)
theorem e17_3 {w rd rs1 rs2 f7 : Int} (ho : decode_Opcode0 w = 3) : decode_parts__insn3 w rd 6 rs1 rs2 f7 = 0 := (s3_3 ho).trans (by kernel_rfl)
theorem e17_4 {w rd rs1 rs2 f7 : Int} (ho : decode_Opcode0 w = 3) : decode_parts__insn4 w rd 6 rs1 rs2 f7 = iConv .i64 (word_Sext0 (iShl .u64 (iOr .u64 0 (word_Bits0 (iConv IntKind.u64 w) 20 12)) 0) 12) := (s3_4 ho).trans (by kernel_rfl)
theorem e17_5 {w rd rs1 rs2 f7 : Int} (ho : decode_Opcode0 w = 3) : decode_parts__insn5 w rd 6 rs1 rs2 f7 = 0 := (s3_5 ho).trans (by kernel_rfl)
theorem e17_6 {w rd rs1 rs2 f7 : Int} (ho : decode_Opcode0 w = 3) : decode_parts__insn6 w rd 6 rs1 rs2 f7 = true := (s3_6 ho).trans (by kernel_rfl)
theorem ins17 {w : Int} (hW : W32 w) (hq : w % 128 = 3) (h3 : w / 4096 % 8 = 6) : InsT w 17 (w / 128 % 32) (w / 32768 % 32) (0) (if w / 1048576 < 2048 then w / 1048576 else w / 1048576 - 4096) (0) := by
  have ho : decode_Opcode0 w = 3 := (opc_eq hW).trans hq
  have hw := hW
  unfold W32 at hw
  have k_f3 : decode_of1 w = 6 := (of1_eq hW).trans h3
  exact ⟨by rw [k_f3]; exact (e17_0 ho),
    by rw [k_f3]; exact (e17_1 ho).trans (of0_eq hW),
    by rw [k_f3]; exact (e17_2 ho).trans (of2_eq hW),
    by rw [k_f3]; exact (e17_3 ho),
    by rw [k_f3]; exact (e17_4 ho).trans (nI hW),
    by rw [k_f3]; exact (e17_5 ho),
    by rw [k_f3]; exact (e17_6 ho)⟩
theorem e18_0 {w rd rs1 rs2 f7 : Int} (ho : decode_Opcode0 w = 35) : decode_parts__insn0 w rd 0 rs1 rs2 f7 = 18 := (s35_0 ho).trans (by kernel_rfl)
theorem e18_1 {w rd rs1 rs2 f7 : Int} (ho : decode_Opcode0 w = 35) : decode_parts__insn1 w rd 0 rs1 rs2 f7 = 0 := (s35_1 ho).trans (by kernel_rfl)
theorem e18_2 {w rd rs1 rs2 f7 : Int} (ho : decode_Opcode0 w = 35) : decode_parts__insn2 w rd 0 rs1 rs2 f7 = rs1 := (s35_2 ho).trans (by kernel_rfl)
theorem e18_3 {w rd rs1 rs2 f7 : Int} (ho : decode_Opcode0 w = 35) : decode_parts__insn3 w rd 0 rs1 rs2 f7 = rs2 := (s35_3 ho).trans (by kernel_rfl)
theorem e18_4 {w rd rs1 rs2 f7 : Int} (ho : decode_Opcode0 w = 35) : decode_parts__insn4 w rd 0 rs1 rs2 f7 = iConv .i64 (word_Sext0 (iShl .u64 (iOr .u64 (iShl .u64 (iOr .u64 0 (word_Bits0 (iConv IntKind.u64 w) 25 7)) 5) (word_Bits0 (iConv IntKind.u64 w) 7 5)) 0) 12) := (s35_4 ho).trans (by kernel_rfl)
theorem e18_5 {w rd rs1 rs2 f7 : Int} (ho : decode_Opcode0 w = 35) : decode_parts__insn5 w rd 0 rs1 rs2 f7 = 0 := (s35_5 ho).trans (by kernel_rfl)
theorem e18_6 {w rd rs1 rs2 f7 : Int} (ho : decode_Opcode0 w = 35) : decode_parts__insn6 w rd 0 rs1 rs2 f7 = true := (s35_6 ho).trans (by kernel_rfl)
theorem ins18 {w : Int} (hW : W32 w) (hq : w % 128 = 35) (h3 : w / 4096 % 8 = 0) : InsT w 18 (0) (w / 32768 % 32) (w / 1048576 % 32) (if w / 33554432 < 64 then w / 33554432 * 32 + w / 128 % 32 else w / 33554432 * 32 + w / 128 % 32 - 4096) (0) := by
  have ho : decode_Opcode0 w = 35 := (opc_eq hW).trans hq
  have hw := hW
  unfold W32 at hw
  have k_f3 : decode_of1 w = 0 := (of1_eq hW).trans h3
  exact ⟨by rw [k_f3]; exact (e18_0 ho),
    by rw [k_f3]; exact (e18_1 ho),
    by rw [k_f3]; exact (e18_2 ho).trans (of2_eq hW),
    by rw [k_f3]; exact (e18_3 ho).trans (of3_eq hW),
    by rw [k_f3]; exact (e18_4 ho).trans (nS hW),
    by rw [k_f3]; exact (e18_5 ho),
    by rw [k_f3]; exact (e18_6 ho)⟩
theorem e19_0 {w rd rs1 rs2 f7 : Int} (ho : decode_Opcode0 w = 35) : decode_parts__insn0 w rd 1 rs1 rs2 f7 = 19 := (s35_0 ho).trans (by kernel_rfl)
theorem e19_1 {w rd rs1 rs2 f7 : Int} (ho : decode_Opcode0 w = 35) : decode_parts__insn1 w rd 1 rs1 rs2 f7 = 0 := (s35_1 ho).trans (by kernel_rfl)
theorem e19_2 {w rd rs1 rs2 f7 : Int} (ho : decode_Opcode0 w = 35) : decode_parts__insn2 w rd 1 rs1 rs2 f7 = rs1 := (s35_2 ho).trans (by kernel_rfl)
theorem e19_3 {w rd rs1 rs2 f7 : Int} (ho : decode_Opcode0 w = 35) : decode_parts__insn3 w rd 1 rs1 rs2 f7 = rs2 := (s35_3 ho).trans (by kernel_rfl)
theorem e19_4 {w rd rs1 rs2 f7 : Int} (ho : decode_Opcode0 w = 35) : decode_parts__insn4 w rd 1 rs1 rs2 f7 = iConv .i64 (word_Sext0 (iShl .u64 (iOr .u64 (iShl .u64 (iOr .u64 0 (word_Bits0 (iConv IntKind.u64 w) 25 7)) 5) (word_Bits0 (iConv IntKind.u64 w) 7 5)) 0) 12) := (s35_4 ho).trans (by kernel_rfl)
theorem e19_5 {w rd rs1 rs2 f7 : Int} (ho : decode_Opcode0 w = 35) : decode_parts__insn5 w rd 1 rs1 rs2 f7 = 0 := (s35_5 ho).trans (by kernel_rfl)
theorem e19_6 {w rd rs1 rs2 f7 : Int} (ho : decode_Opcode0 w = 35) : decode_parts__insn6 w rd 1 rs1 rs2 f7 = true := (s35_6 ho).trans (by kernel_rfl)
theorem ins19 {w : Int} (hW : W32 w) (hq : w % 128 = 35) (h3 : w / 4096 % 8 = 1) : InsT w 19 (0) (w / 32768 % 32) (w / 1048576 % 32) (if w / 33554432 < 64 then w / 33554432 * 32 + w / 128 % 32 else w / 33554432 * 32 + w / 128 % 32 - 4096) (0) := by
  have ho : decode_Opcode0 w = 35 := (opc_eq hW).trans hq
  have hw := hW
  unfold W32 at hw
  have k_f3 : decode_of1 w = 1 := (of1_eq hW).trans h3
  exact ⟨by rw [k_f3]; exact (e19_0 ho),
    by rw [k_f3]; exact (e19_1 ho),
    by rw [k_f3]; exact (e19_2 ho).trans (of2_eq hW),
    by rw [k_f3]; exact (e19_3 ho).trans (of3_eq hW),
    by rw [k_f3]; exact (e19_4 ho).trans (nS hW),
    by rw [k_f3]; exact (e19_5 ho),
    by rw [k_f3]; exact (e19_6 ho)⟩
theorem e20_0 {w rd rs1 rs2 f7 : Int} (ho : decode_Opcode0 w = 35) : decode_parts__insn0 w rd 2 rs1 rs2 f7 = 20 := (s35_0 ho).trans (by kernel_rfl)
theorem e20_1 {w rd rs1 rs2 f7 : Int} (ho : decode_Opcode0 w = 35) : decode_parts__insn1 w rd 2 rs1 rs2 f7 = 0 := (s35_1 ho).trans (by kernel_rfl)
theorem e20_2 {w rd rs1 rs2 f7 : Int} (ho : decode_Opcode0 w = 35) : decode_parts__insn2 w rd 2 rs1 rs2 f7 = rs1 := (s35_2 ho).trans (by kernel_rfl)
theorem e20_3 {w rd rs1 rs2 f7 : Int} (ho : decode_Opcode0 w = 35) : decode_parts__insn3 w rd 2 rs1 rs2 f7 = rs2 := (s35_3 ho).trans (by kernel_rfl)
theorem e20_4 {w rd rs1 rs2 f7 : Int} (ho : decode_Opcode0 w = 35) : decode_parts__insn4 w rd 2 rs1 rs2 f7 = iConv .i64 (word_Sext0 (iShl .u64 (iOr .u64 (iShl .u64 (iOr .u64 0 (word_Bits0 (iConv IntKind.u64 w) 25 7)) 5) (word_Bits0 (iConv IntKind.u64 w) 7 5)) 0) 12) := (s35_4 ho).trans (by kernel_rfl)
theorem e20_5 {w rd rs1 rs2 f7 : Int} (ho : decode_Opcode0 w = 35) : decode_parts__insn5 w rd 2 rs1 rs2 f7 = 0 := (s35_5 ho).trans (by kernel_rfl)
theorem e20_6 {w rd rs1 rs2 f7 : Int} (ho : decode_Opcode0 w = 35) : decode_parts__insn6 w rd 2 rs1 rs2 f7 = true := (s35_6 ho).trans (by kernel_rfl)
theorem ins20 {w : Int} (hW : W32 w) (hq : w % 128 = 35) (h3 : w / 4096 % 8 = 2) : InsT w 20 (0) (w / 32768 % 32) (w / 1048576 % 32) (if w / 33554432 < 64 then w / 33554432 * 32 + w / 128 % 32 else w / 33554432 * 32 + w / 128 % 32 - 4096) (0) := by
  have ho : decode_Opcode0 w = 35 := (opc_eq hW).trans hq
  have hw := hW
  unfold W32 at hw
  have k_f3 : decode_of1 w = 2 := (of1_eq hW).trans h3
  exact ⟨by rw [k_f3]; exact (e20_0 ho),
    by rw [k_f3]; exact (e20_1 ho),
    by rw [k_f3]; exact (e20_2 ho).trans (of2_eq hW),
    by rw [k_f3]; exact (e20_3 ho).trans (of3_eq hW),
    by rw [k_f3]; exact (e20_4 ho).trans (nS hW),
    by rw [k_f3]; exact (e20_5 ho),
    by rw [k_f3]; exact (e20_6 ho)⟩
theorem e21_0 {w rd rs1 rs2 f7 : Int} (ho : decode_Opcode0 w = 35) : decode_parts__insn0 w rd 3 rs1 rs2 f7 = 21 := (s35_0 ho).trans (by kernel_rfl)
theorem e21_1 {w rd rs1 rs2 f7 : Int} (ho : decode_Opcode0 w = 35) : decode_parts__insn1 w rd 3 rs1 rs2 f7 = 0 := (s35_1 ho).trans (by kernel_rfl)
theorem e21_2 {w rd rs1 rs2 f7 : Int} (ho : decode_Opcode0 w = 35) : decode_parts__insn2 w rd 3 rs1 rs2 f7 = rs1 := (s35_2 ho).trans (by kernel_rfl)
theorem e21_3 {w rd rs1 rs2 f7 : Int} (ho : decode_Opcode0 w = 35) : decode_parts__insn3 w rd 3 rs1 rs2 f7 = rs2 := (s35_3 ho).trans (by kernel_rfl)
theorem e21_4 {w rd rs1 rs2 f7 : Int} (ho : decode_Opcode0 w = 35) : decode_parts__insn4 w rd 3 rs1 rs2 f7 = iConv .i64 (word_Sext0 (iShl .u64 (iOr .u64 (iShl .u64 (iOr .u64 0 (word_Bits0 (iConv IntKind.u64 w) 25 7)) 5) (word_Bits0 (iConv IntKind.u64 w) 7 5)) 0) 12) := (s35_4 ho).trans (by kernel_rfl)
theorem e21_5 {w rd rs1 rs2 f7 : Int} (ho : decode_Opcode0 w = 35) : decode_parts__insn5 w rd 3 rs1 rs2 f7 = 0 := (s35_5 ho).trans (by kernel_rfl)
theorem e21_6 {w rd rs1 rs2 f7 : Int} (ho : decode_Opcode0 w = 35) : decode_parts__insn6 w rd 3 rs1 rs2 f7 = true := (s35_6 ho).trans (by kernel_rfl)
theorem ins21 {w : Int} (hW : W32 w) (hq : w % 128 = 35) (h3 : w / 4096 % 8 = 3) : InsT w 21 (0) (w / 32768 % 32) (w / 1048576 % 32) (if w / 33554432 < 64 then w / 33554432 * 32 + w / 128 % 32 else w / 33554432 * 32 + w / 128 % 32 - 4096) (0) := by
  have ho : decode_Opcode0 w = 35 := (opc_eq hW).trans hq
  have hw := hW
  unfold W32 at hw
  have k_f3 : decode_of1 w = 3 := (of1_eq hW).trans h3
  exact ⟨by rw [k_f3]; exact (e21_0 ho),
    by rw [k_f3]; exact (e21_1 ho),
    by rw [k_f3]; exact (e21_2 ho).trans (of2_eq hW),
    by rw [k_f3]; exact (e21_3 ho).trans (of3_eq hW),
    by rw [k_f3]; exact (e21_4 ho).trans (nS hW),
    by rw [k_f3]; exact (e21_5 ho),
    by rw [k_f3]; exact (e21_6 ho)⟩
theorem e22_0 {w rd rs1 rs2 f7 : Int} (ho : decode_Opcode0 w = 19) : decode_parts__insn0 w rd 0 rs1 rs2 f7 = 22 := (s19_0 ho).trans (by
    unfold decode_parts__reckons0 decode_parts__reckons_c1 decode_parts__reckons_c0 decode_parts__reckons_c5 decode_parts__reckons_c4 decode_parts__reckons_c3 decode_parts__reckons_c6
    rw [ho]
    kernel_rfl)
theorem e22_1 {w rd rs1 rs2 f7 : Int} (ho : decode_Opcode0 w = 19) : decode_parts__insn1 w rd 0 rs1 rs2 f7 = rd := (s19_1 ho).trans (by
    unfold decode_parts__reckons1 decode_parts__reckons_c1 decode_parts__reckons_c0 decode_parts__reckons_c7 decode_parts__reckons_c4 decode_parts__reckons_c3
    rw [ho]
    kernel_rfl)
theorem e22_2 {w rd rs1 rs2 f7 : Int} (ho : decode_Opcode0 w = 19) : decode_parts__insn2 w rd 0 rs1 rs2 f7 = rs1 := (s19_2 ho).trans (by
    unfold decode_parts__reckons2 decode_parts__reckons_c1 decode_parts__reckons_c0 decode_parts__reckons_c8 decode_parts__reckons_c4 decode_parts__reckons_c3
    rw [ho]
    kernel_rfl)
theorem e22_3 {w rd rs1 rs2 f7 : Int} (ho : decode_Opcode0 w = 19) : decode_parts__insn3 w rd 0 rs1 rs2 f7 = 0 := (s19_3 ho).trans (by kernel_rfl)
theorem e22_4 {w rd rs1 rs2 f7 : Int} (ho : decode_Opcode0 w = 19) : decode_parts__insn4 w rd 0 rs1 rs2 f7 = iConv .i64 (word_Sext0 (iShl .u64 (iOr .u64 0 (word_Bits0 (iConv IntKind.u64 w) 20 12)) 0) 12) := (s19_4 ho).trans (by
    unfold decode_parts__reckons4
    rw [ho, show (!iEq 19 19) = false from rfl, cond_false, show decode_parts__reckons_c4 w rd 0 rs1 rs2 f7 = true from by kernel_rfl, cond_true]
    unfold decode_parts__immediate0
    rfl)
theorem e22_5 {w rd rs1 rs2 f7 : Int} (ho : decode_Opcode0 w = 19) : decode_parts__insn5 w rd 0 rs1 rs2 f7 = 0 := (s19_5 ho).trans (by kernel_rfl)
theorem e22_6 {w rd rs1 rs2 f7 : Int} (ho : decode_Opcode0 w = 19) : decode_parts__insn6 w rd 0 rs1 rs2 f7 = true := (s19_6 ho).trans (by
    unfold decode_parts__reckons6 decode_parts__reckons_c1 decode_parts__reckons_c0 decode_parts__reckons_c12 decode_parts__reckons_c4 decode_parts__reckons_c3
    rw [ho]
    kernel_rfl)
theorem ins22 {w : Int} (hW : W32 w) (hq : w % 128 = 19) (h3 : w / 4096 % 8 = 0) : InsT w 22 (w / 128 % 32) (w / 32768 % 32) (0) (if w / 1048576 < 2048 then w / 1048576 else w / 1048576 - 4096) (0) := by
  have ho : decode_Opcode0 w = 19 := (opc_eq hW).trans hq
  have hw := hW
  unfold W32 at hw
  have k_f3 : decode_of1 w = 0 := (of1_eq hW).trans h3
  exact ⟨by rw [k_f3]; exact (e22_0 ho),
    by rw [k_f3]; exact (e22_1 ho).trans (of0_eq hW),
    by rw [k_f3]; exact (e22_2 ho).trans (of2_eq hW),
    by rw [k_f3]; exact (e22_3 ho),
    by rw [k_f3]; exact (e22_4 ho).trans (nI hW),
    by rw [k_f3]; exact (e22_5 ho),
    by rw [k_f3]; exact (e22_6 ho)⟩
theorem e23_0 {w rd rs1 rs2 f7 : Int} (ho : decode_Opcode0 w = 19) : decode_parts__insn0 w rd 2 rs1 rs2 f7 = 23 := (s19_0 ho).trans (by
    unfold decode_parts__reckons0 decode_parts__reckons_c1 decode_parts__reckons_c0 decode_parts__reckons_c5 decode_parts__reckons_c4 decode_parts__reckons_c3 decode_parts__reckons_c6
    rw [ho]
    kernel_rfl)
theorem e23_1 {w rd rs1 rs2 f7 : Int} (ho : decode_Opcode0 w = 19) : decode_parts__insn1 w rd 2 rs1 rs2 f7 = rd := (s19_1 ho).trans (by
    unfold decode_parts__reckons1 decode_parts__reckons_c1 decode_parts__reckons_c0 decode_parts__reckons_c7 decode_parts__reckons_c4 decode_parts__reckons_c3
    rw [ho]
    kernel_rfl)
theorem e23_2 {w rd rs1 rs2 f7 : Int} (ho : decode_Opcode0 w = 19) : decode_parts__insn2 w rd 2 rs1 rs2 f7 = rs1 := (s19_2 ho).trans (by
    unfold decode_parts__reckons2 decode_parts__reckons_c1 decode_parts__reckons_c0 decode_parts__reckons_c8 decode_parts__reckons_c4 decode_parts__reckons_c3
    rw [ho]
    kernel_rfl)
theorem e23_3 {w rd rs1 rs2 f7 : Int} (ho : decode_Opcode0 w = 19) : decode_parts__insn3 w rd 2 rs1 rs2 f7 = 0 := (s19_3 ho).trans (by kernel_rfl)
theorem e23_4 {w rd rs1 rs2 f7 : Int} (ho : decode_Opcode0 w = 19) : decode_parts__insn4 w rd 2 rs1 rs2 f7 = iConv .i64 (word_Sext0 (iShl .u64 (iOr .u64 0 (word_Bits0 (iConv IntKind.u64 w) 20 12)) 0) 12) := (s19_4 ho).trans (by
    unfold decode_parts__reckons4
    rw [ho, show (!iEq 19 19) = false from rfl, cond_false, show decode_parts__reckons_c4 w rd 2 rs1 rs2 f7 = true from by kernel_rfl, cond_true]
    unfold decode_parts__immediate0
    rfl)
theorem e23_5 {w rd rs1 rs2 f7 : Int} (ho : decode_Opcode0 w = 19) : decode_parts__insn5 w rd 2 rs1 rs2 f7 = 0 := (s19_5 ho).trans (by kernel_rfl)
theorem e23_6 {w rd rs1 rs2 f7 : Int} (ho : decode_Opcode0 w = 19) : decode_parts__insn6 w rd 2 rs1 rs2 f7 = true := (s19_6 ho).trans (by
    unfold decode_parts__reckons6 decode_parts__reckons_c1 decode_parts__reckons_c0 decode_parts__reckons_c12 decode_parts__reckons_c4 decode_parts__reckons_c3
    rw [ho]
    kernel_rfl)
theorem ins23 {w : Int} (hW : W32 w) (hq : w % 128 = 19) (h3 : w / 4096 % 8 = 2) : InsT w 23 (w / 128 % 32) (w / 32768 % 32) (0) (if w / 1048576 < 2048 then w / 1048576 else w / 1048576 - 4096) (0) := by
  have ho : decode_Opcode0 w = 19 := (opc_eq hW).trans hq
  have hw := hW
  unfold W32 at hw
  have k_f3 : decode_of1 w = 2 := (of1_eq hW).trans h3
  exact ⟨by rw [k_f3]; exact (e23_0 ho),
    by rw [k_f3]; exact (e23_1 ho).trans (of0_eq hW),
    by rw [k_f3]; exact (e23_2 ho).trans (of2_eq hW),
    by rw [k_f3]; exact (e23_3 ho),
    by rw [k_f3]; exact (e23_4 ho).trans (nI hW),
    by rw [k_f3]; exact (e23_5 ho),
    by rw [k_f3]; exact (e23_6 ho)⟩
theorem e24_0 {w rd rs1 rs2 f7 : Int} (ho : decode_Opcode0 w = 19) : decode_parts__insn0 w rd 3 rs1 rs2 f7 = 24 := (s19_0 ho).trans (by
    unfold decode_parts__reckons0 decode_parts__reckons_c1 decode_parts__reckons_c0 decode_parts__reckons_c5 decode_parts__reckons_c4 decode_parts__reckons_c3 decode_parts__reckons_c6
    rw [ho]
    kernel_rfl)
theorem e24_1 {w rd rs1 rs2 f7 : Int} (ho : decode_Opcode0 w = 19) : decode_parts__insn1 w rd 3 rs1 rs2 f7 = rd := (s19_1 ho).trans (by
    unfold decode_parts__reckons1 decode_parts__reckons_c1 decode_parts__reckons_c0 decode_parts__reckons_c7 decode_parts__reckons_c4 decode_parts__reckons_c3
    rw [ho]
    kernel_rfl)
theorem e24_2 {w rd rs1 rs2 f7 : Int} (ho : decode_Opcode0 w = 19) : decode_parts__insn2 w rd 3 rs1 rs2 f7 = rs1 := (s19_2 ho).trans (by
    unfold decode_parts__reckons2 decode_parts__reckons_c1 decode_parts__reckons_c0 decode_parts__reckons_c8 decode_parts__reckons_c4 decode_parts__reckons_c3
    rw [ho]
    kernel_rfl)
theorem e24_3 {w rd rs1 rs2 f7 : Int} (ho : decode_Opcode0 w = 19) : decode_parts__insn3 w rd 3 rs1 rs2 f7 = 0 := (s19_3 ho).trans (by kernel_rfl)
theorem e24_4 {w rd rs1 rs2 f7 : Int} (ho : decode_Opcode0 w = 19) : decode_parts__insn4 w rd 3 rs1 rs2 f7 = iConv .i64 (word_Sext0 (iShl .u64 (iOr .u64 0 (word_Bits0 (iConv IntKind.u64 w) 20 12)) 0) 12) := (s19_4 ho).trans (by
    unfold decode_parts__reckons4
    rw [ho, show (!iEq 19 19) = false from rfl, cond_false, show decode_parts__reckons_c4 w rd 3 rs1 rs2 f7 = true from by kernel_rfl, cond_true]
    unfold decode_parts__immediate0
    rfl)
theorem e24_5 {w rd rs1 rs2 f7 : Int} (ho : decode_Opcode0 w = 19) : decode_parts__insn5 w rd 3 rs1 rs2 f7 = 0 := (s19_5 ho).trans (by kernel_rfl)
theorem e24_6 {w rd rs1 rs2 f7 : Int} (ho : decode_Opcode0 w = 19) : decode_parts__insn6 w rd 3 rs1 rs2 f7 = true := (s19_6 ho).trans (by
    unfold decode_parts__reckons6 decode_parts__reckons_c1 decode_parts__reckons_c0 decode_parts__reckons_c12 decode_parts__reckons_c4 decode_parts__reckons_c3
    rw [ho]
    kernel_rfl)
theorem ins24 {w : Int} (hW : W32 w) (hq : w % 128 = 19) (h3 : w / 4096 % 8 = 3) : InsT w 24 (w / 128 % 32) (w / 32768 % 32) (0) (if w / 1048576 < 2048 then w / 1048576 else w / 1048576 - 4096) (0) := by
  have ho : decode_Opcode0 w = 19 := (opc_eq hW).trans hq
  have hw := hW
  unfold W32 at hw
  have k_f3 : decode_of1 w = 3 := (of1_eq hW).trans h3
  exact ⟨by rw [k_f3]; exact (e24_0 ho),
    by rw [k_f3]; exact (e24_1 ho).trans (of0_eq hW),
    by rw [k_f3]; exact (e24_2 ho).trans (of2_eq hW),
    by rw [k_f3]; exact (e24_3 ho),
    by rw [k_f3]; exact (e24_4 ho).trans (nI hW),
    by rw [k_f3]; exact (e24_5 ho),
    by rw [k_f3]; exact (e24_6 ho)⟩
theorem e25_0 {w rd rs1 rs2 f7 : Int} (ho : decode_Opcode0 w = 19) : decode_parts__insn0 w rd 4 rs1 rs2 f7 = 25 := (s19_0 ho).trans (by
    unfold decode_parts__reckons0 decode_parts__reckons_c1 decode_parts__reckons_c0 decode_parts__reckons_c5 decode_parts__reckons_c4 decode_parts__reckons_c3 decode_parts__reckons_c6
    rw [ho]
    kernel_rfl)
theorem e25_1 {w rd rs1 rs2 f7 : Int} (ho : decode_Opcode0 w = 19) : decode_parts__insn1 w rd 4 rs1 rs2 f7 = rd := (s19_1 ho).trans (by
    unfold decode_parts__reckons1 decode_parts__reckons_c1 decode_parts__reckons_c0 decode_parts__reckons_c7 decode_parts__reckons_c4 decode_parts__reckons_c3
    rw [ho]
    kernel_rfl)
theorem e25_2 {w rd rs1 rs2 f7 : Int} (ho : decode_Opcode0 w = 19) : decode_parts__insn2 w rd 4 rs1 rs2 f7 = rs1 := (s19_2 ho).trans (by
    unfold decode_parts__reckons2 decode_parts__reckons_c1 decode_parts__reckons_c0 decode_parts__reckons_c8 decode_parts__reckons_c4 decode_parts__reckons_c3
    rw [ho]
    kernel_rfl)
theorem e25_3 {w rd rs1 rs2 f7 : Int} (ho : decode_Opcode0 w = 19) : decode_parts__insn3 w rd 4 rs1 rs2 f7 = 0 := (s19_3 ho).trans (by kernel_rfl)
theorem e25_4 {w rd rs1 rs2 f7 : Int} (ho : decode_Opcode0 w = 19) : decode_parts__insn4 w rd 4 rs1 rs2 f7 = iConv .i64 (word_Sext0 (iShl .u64 (iOr .u64 0 (word_Bits0 (iConv IntKind.u64 w) 20 12)) 0) 12) := (s19_4 ho).trans (by
    unfold decode_parts__reckons4
    rw [ho, show (!iEq 19 19) = false from rfl, cond_false, show decode_parts__reckons_c4 w rd 4 rs1 rs2 f7 = true from by kernel_rfl, cond_true]
    unfold decode_parts__immediate0
    rfl)
theorem e25_5 {w rd rs1 rs2 f7 : Int} (ho : decode_Opcode0 w = 19) : decode_parts__insn5 w rd 4 rs1 rs2 f7 = 0 := (s19_5 ho).trans (by kernel_rfl)
theorem e25_6 {w rd rs1 rs2 f7 : Int} (ho : decode_Opcode0 w = 19) : decode_parts__insn6 w rd 4 rs1 rs2 f7 = true := (s19_6 ho).trans (by
    unfold decode_parts__reckons6 decode_parts__reckons_c1 decode_parts__reckons_c0 decode_parts__reckons_c12 decode_parts__reckons_c4 decode_parts__reckons_c3
    rw [ho]
    kernel_rfl)
theorem ins25 {w : Int} (hW : W32 w) (hq : w % 128 = 19) (h3 : w / 4096 % 8 = 4) : InsT w 25 (w / 128 % 32) (w / 32768 % 32) (0) (if w / 1048576 < 2048 then w / 1048576 else w / 1048576 - 4096) (0) := by
  have ho : decode_Opcode0 w = 19 := (opc_eq hW).trans hq
  have hw := hW
  unfold W32 at hw
  have k_f3 : decode_of1 w = 4 := (of1_eq hW).trans h3
  exact ⟨by rw [k_f3]; exact (e25_0 ho),
    by rw [k_f3]; exact (e25_1 ho).trans (of0_eq hW),
    by rw [k_f3]; exact (e25_2 ho).trans (of2_eq hW),
    by rw [k_f3]; exact (e25_3 ho),
    by rw [k_f3]; exact (e25_4 ho).trans (nI hW),
    by rw [k_f3]; exact (e25_5 ho),
    by rw [k_f3]; exact (e25_6 ho)⟩
theorem e26_0 {w rd rs1 rs2 f7 : Int} (ho : decode_Opcode0 w = 19) : decode_parts__insn0 w rd 6 rs1 rs2 f7 = 26 := (s19_0 ho).trans (by
    unfold decode_parts__reckons0 decode_parts__reckons_c1 decode_parts__reckons_c0 decode_parts__reckons_c5 decode_parts__reckons_c4 decode_parts__reckons_c3 decode_parts__reckons_c6
    rw [ho]
    kernel_rfl)
theorem e26_1 {w rd rs1 rs2 f7 : Int} (ho : decode_Opcode0 w = 19) : decode_parts__insn1 w rd 6 rs1 rs2 f7 = rd := (s19_1 ho).trans (by
    unfold decode_parts__reckons1 decode_parts__reckons_c1 decode_parts__reckons_c0 decode_parts__reckons_c7 decode_parts__reckons_c4 decode_parts__reckons_c3
    rw [ho]
    kernel_rfl)
theorem e26_2 {w rd rs1 rs2 f7 : Int} (ho : decode_Opcode0 w = 19) : decode_parts__insn2 w rd 6 rs1 rs2 f7 = rs1 := (s19_2 ho).trans (by
    unfold decode_parts__reckons2 decode_parts__reckons_c1 decode_parts__reckons_c0 decode_parts__reckons_c8 decode_parts__reckons_c4 decode_parts__reckons_c3
    rw [ho]
    kernel_rfl)
theorem e26_3 {w rd rs1 rs2 f7 : Int} (ho : decode_Opcode0 w = 19) : decode_parts__insn3 w rd 6 rs1 rs2 f7 = 0 := (s19_3 ho).trans (by kernel_rfl)
theorem e26_4 {w rd rs1 rs2 f7 : Int} (ho : decode_Opcode0 w = 19) : decode_parts__insn4 w rd 6 rs1 rs2 f7 = iConv .i64 (word_Sext0 (iShl .u64 (iOr .u64 0 (word_Bits0 (iConv IntKind.u64 w) 20 12)) 0) 12) := (s19_4 ho).trans (by
    unfold decode_parts__reckons4
    rw [ho, show (!iEq 19 19) = false from rfl, cond_false, show decode_parts__reckons_c4 w rd 6 rs1 rs2 f7 = true from by kernel_rfl, cond_true]
    unfold decode_parts__immediate0
    rfl)
theorem e26_5 {w rd rs1 rs2 f7 : Int} (ho : decode_Opcode0 w = 19) : decode_parts__insn5 w rd 6 rs1 rs2 f7 = 0 := (s19_5 ho).trans (by kernel_rfl)
theorem e26_6 {w rd rs1 rs2 f7 : Int} (ho : decode_Opcode0 w = 19) : decode_parts__insn6 w rd 6 rs1 rs2 f7 = true := (s19_6 ho).trans (by
    unfold decode_parts__reckons6 decode_parts__reckons_c1 decode_parts__reckons_c0 decode_parts__reckons_c12 decode_parts__reckons_c4 decode_parts__reckons_c3
    rw [ho]
    kernel_rfl)
theorem ins26 {w : Int} (hW : W32 w) (hq : w % 128 = 19) (h3 : w / 4096 % 8 = 6) : InsT w 26 (w / 128 % 32) (w / 32768 % 32) (0) (if w / 1048576 < 2048 then w / 1048576 else w / 1048576 - 4096) (0) := by
  have ho : decode_Opcode0 w = 19 := (opc_eq hW).trans hq
  have hw := hW
  unfold W32 at hw
  have k_f3 : decode_of1 w = 6 := (of1_eq hW).trans h3
  exact ⟨by rw [k_f3]; exact (e26_0 ho),
    by rw [k_f3]; exact (e26_1 ho).trans (of0_eq hW),
    by rw [k_f3]; exact (e26_2 ho).trans (of2_eq hW),
    by rw [k_f3]; exact (e26_3 ho),
    by rw [k_f3]; exact (e26_4 ho).trans (nI hW),
    by rw [k_f3]; exact (e26_5 ho),
    by rw [k_f3]; exact (e26_6 ho)⟩
theorem e27_0 {w rd rs1 rs2 f7 : Int} (ho : decode_Opcode0 w = 19) : decode_parts__insn0 w rd 7 rs1 rs2 f7 = 27 := (s19_0 ho).trans (by
    unfold decode_parts__reckons0 decode_parts__reckons_c1 decode_parts__reckons_c0 decode_parts__reckons_c5 decode_parts__reckons_c4 decode_parts__reckons_c3 decode_parts__reckons_c6
    rw [ho]
    kernel_rfl)
theorem e27_1 {w rd rs1 rs2 f7 : Int} (ho : decode_Opcode0 w = 19) : decode_parts__insn1 w rd 7 rs1 rs2 f7 = rd := (s19_1 ho).trans (by
    unfold decode_parts__reckons1 decode_parts__reckons_c1 decode_parts__reckons_c0 decode_parts__reckons_c7 decode_parts__reckons_c4 decode_parts__reckons_c3
    rw [ho]
    kernel_rfl)
theorem e27_2 {w rd rs1 rs2 f7 : Int} (ho : decode_Opcode0 w = 19) : decode_parts__insn2 w rd 7 rs1 rs2 f7 = rs1 := (s19_2 ho).trans (by
    unfold decode_parts__reckons2 decode_parts__reckons_c1 decode_parts__reckons_c0 decode_parts__reckons_c8 decode_parts__reckons_c4 decode_parts__reckons_c3
    rw [ho]
    kernel_rfl)
theorem e27_3 {w rd rs1 rs2 f7 : Int} (ho : decode_Opcode0 w = 19) : decode_parts__insn3 w rd 7 rs1 rs2 f7 = 0 := (s19_3 ho).trans (by kernel_rfl)
theorem e27_4 {w rd rs1 rs2 f7 : Int} (ho : decode_Opcode0 w = 19) : decode_parts__insn4 w rd 7 rs1 rs2 f7 = iConv .i64 (word_Sext0 (iShl .u64 (iOr .u64 0 (word_Bits0 (iConv IntKind.u64 w) 20 12)) 0) 12) := (s19_4 ho).trans (by
    unfold decode_parts__reckons4
    rw [ho, show (!iEq 19 19) = false from rfl, cond_false, show decode_parts__reckons_c4 w rd 7 rs1 rs2 f7 = true from by kernel_rfl, cond_true]
    unfold decode_parts__immediate0
    rfl)
theorem e27_5 {w rd rs1 rs2 f7 : Int} (ho : decode_Opcode0 w = 19) : decode_parts__insn5 w rd 7 rs1 rs2 f7 = 0 := (s19_5 ho).trans (by kernel_rfl)
theorem e27_6 {w rd rs1 rs2 f7 : Int} (ho : decode_Opcode0 w = 19) : decode_parts__insn6 w rd 7 rs1 rs2 f7 = true := (s19_6 ho).trans (by
    unfold decode_parts__reckons6 decode_parts__reckons_c1 decode_parts__reckons_c0 decode_parts__reckons_c12 decode_parts__reckons_c4 decode_parts__reckons_c3
    rw [ho]
    kernel_rfl)
theorem ins27 {w : Int} (hW : W32 w) (hq : w % 128 = 19) (h3 : w / 4096 % 8 = 7) : InsT w 27 (w / 128 % 32) (w / 32768 % 32) (0) (if w / 1048576 < 2048 then w / 1048576 else w / 1048576 - 4096) (0) := by
  have ho : decode_Opcode0 w = 19 := (opc_eq hW).trans hq
  have hw := hW
  unfold W32 at hw
  have k_f3 : decode_of1 w = 7 := (of1_eq hW).trans h3
  exact ⟨by rw [k_f3]; exact (e27_0 ho),
    by rw [k_f3]; exact (e27_1 ho).trans (of0_eq hW),
    by rw [k_f3]; exact (e27_2 ho).trans (of2_eq hW),
    by rw [k_f3]; exact (e27_3 ho),
    by rw [k_f3]; exact (e27_4 ho).trans (nI hW),
    by rw [k_f3]; exact (e27_5 ho),
    by rw [k_f3]; exact (e27_6 ho)⟩
theorem e28_0 {w rd rs1 rs2 f7 : Int} (ho : decode_Opcode0 w = 19) (hx : (word_Bits0 (iConv IntKind.u64 w) 26 6) = 0) : decode_parts__insn0 w rd 1 rs1 rs2 f7 = 28 := (s19_0 ho).trans (by
    unfold decode_parts__reckons0 decode_parts__reckons_c1 decode_parts__reckons_c0 decode_parts__reckons_c5 decode_parts__reckons_c4 decode_parts__reckons_c3 decode_parts__reckons_c6
    rw [ho, hx]
    kernel_rfl)
theorem e28_1 {w rd rs1 rs2 f7 : Int} (ho : decode_Opcode0 w = 19) (hx : (word_Bits0 (iConv IntKind.u64 w) 26 6) = 0) : decode_parts__insn1 w rd 1 rs1 rs2 f7 = rd := (s19_1 ho).trans (by
    unfold decode_parts__reckons1 decode_parts__reckons_c1 decode_parts__reckons_c0 decode_parts__reckons_c7 decode_parts__reckons_c4 decode_parts__reckons_c3
    rw [ho, hx]
    kernel_rfl)
theorem e28_2 {w rd rs1 rs2 f7 : Int} (ho : decode_Opcode0 w = 19) (hx : (word_Bits0 (iConv IntKind.u64 w) 26 6) = 0) : decode_parts__insn2 w rd 1 rs1 rs2 f7 = rs1 := (s19_2 ho).trans (by
    unfold decode_parts__reckons2 decode_parts__reckons_c1 decode_parts__reckons_c0 decode_parts__reckons_c8 decode_parts__reckons_c4 decode_parts__reckons_c3
    rw [ho, hx]
    kernel_rfl)
theorem e28_3 {w rd rs1 rs2 f7 : Int} (ho : decode_Opcode0 w = 19) (hx : (word_Bits0 (iConv IntKind.u64 w) 26 6) = 0) : decode_parts__insn3 w rd 1 rs1 rs2 f7 = 0 := (s19_3 ho).trans (by kernel_rfl)
theorem e28_4 {w rd rs1 rs2 f7 : Int} (ho : decode_Opcode0 w = 19) (hx : (word_Bits0 (iConv IntKind.u64 w) 26 6) = 0) : decode_parts__insn4 w rd 1 rs1 rs2 f7 = iConv .i64 (word_Bits0 (iConv IntKind.u64 w) 20 6) := (s19_4 ho).trans (by
    unfold decode_parts__reckons4 decode_parts__reckons_c1 decode_parts__reckons_c0 decode_parts__immediate0 decode_parts__reckons_c11 decode_parts__reckons_c4 decode_parts__reckons_c3
    rw [ho, hx]
    kernel_rfl)
theorem e28_5 {w rd rs1 rs2 f7 : Int} (ho : decode_Opcode0 w = 19) (hx : (word_Bits0 (iConv IntKind.u64 w) 26 6) = 0) : decode_parts__insn5 w rd 1 rs1 rs2 f7 = 0 := (s19_5 ho).trans (by kernel_rfl)
theorem e28_6 {w rd rs1 rs2 f7 : Int} (ho : decode_Opcode0 w = 19) (hx : (word_Bits0 (iConv IntKind.u64 w) 26 6) = 0) : decode_parts__insn6 w rd 1 rs1 rs2 f7 = true := (s19_6 ho).trans (by
    unfold decode_parts__reckons6 decode_parts__reckons_c1 decode_parts__reckons_c0 decode_parts__reckons_c12 decode_parts__reckons_c4 decode_parts__reckons_c3
    rw [ho, hx]
    kernel_rfl)
theorem ins28 {w : Int} (hW : W32 w) (hq : w % 128 = 19) (h3 : w / 4096 % 8 = 1) (hb : w / 67108864 % 64 = 0) : InsT w 28 (w / 128 % 32) (w / 32768 % 32) (0) (w / 1048576 % 64) (0) := by
  have ho : decode_Opcode0 w = 19 := (opc_eq hW).trans hq
  have hw := hW
  unfold W32 at hw
  have k_f3 : decode_of1 w = 1 := (of1_eq hW).trans h3
  exact ⟨by rw [k_f3]; exact (e28_0 ho ((b_26_6 hW).trans hb)),
    by rw [k_f3]; exact (e28_1 ho ((b_26_6 hW).trans hb)).trans (of0_eq hW),
    by rw [k_f3]; exact (e28_2 ho ((b_26_6 hW).trans hb)).trans (of2_eq hW),
    by rw [k_f3]; exact (e28_3 ho ((b_26_6 hW).trans hb)),
    by rw [k_f3]; exact (e28_4 ho ((b_26_6 hW).trans hb)).trans (by rw [b_20_6 hW]; exact convI_of ⟨by omega, by omega⟩),
    by rw [k_f3]; exact (e28_5 ho ((b_26_6 hW).trans hb)),
    by rw [k_f3]; exact (e28_6 ho ((b_26_6 hW).trans hb))⟩
theorem e29_0 {w rd rs1 rs2 f7 : Int} (ho : decode_Opcode0 w = 19) (hx : (word_Bits0 (iConv IntKind.u64 w) 26 6) = 0) : decode_parts__insn0 w rd 5 rs1 rs2 f7 = 29 := (s19_0 ho).trans (by
    unfold decode_parts__reckons0 decode_parts__reckons_c1 decode_parts__reckons_c0 decode_parts__reckons_c5 decode_parts__reckons_c4 decode_parts__reckons_c3 decode_parts__reckons_c6
    rw [ho, hx]
    kernel_rfl)
theorem e29_1 {w rd rs1 rs2 f7 : Int} (ho : decode_Opcode0 w = 19) (hx : (word_Bits0 (iConv IntKind.u64 w) 26 6) = 0) : decode_parts__insn1 w rd 5 rs1 rs2 f7 = rd := (s19_1 ho).trans (by
    unfold decode_parts__reckons1 decode_parts__reckons_c1 decode_parts__reckons_c0 decode_parts__reckons_c7 decode_parts__reckons_c4 decode_parts__reckons_c3
    rw [ho, hx]
    kernel_rfl)
theorem e29_2 {w rd rs1 rs2 f7 : Int} (ho : decode_Opcode0 w = 19) (hx : (word_Bits0 (iConv IntKind.u64 w) 26 6) = 0) : decode_parts__insn2 w rd 5 rs1 rs2 f7 = rs1 := (s19_2 ho).trans (by
    unfold decode_parts__reckons2 decode_parts__reckons_c1 decode_parts__reckons_c0 decode_parts__reckons_c8 decode_parts__reckons_c4 decode_parts__reckons_c3
    rw [ho, hx]
    kernel_rfl)
theorem e29_3 {w rd rs1 rs2 f7 : Int} (ho : decode_Opcode0 w = 19) (hx : (word_Bits0 (iConv IntKind.u64 w) 26 6) = 0) : decode_parts__insn3 w rd 5 rs1 rs2 f7 = 0 := (s19_3 ho).trans (by kernel_rfl)
theorem e29_4 {w rd rs1 rs2 f7 : Int} (ho : decode_Opcode0 w = 19) (hx : (word_Bits0 (iConv IntKind.u64 w) 26 6) = 0) : decode_parts__insn4 w rd 5 rs1 rs2 f7 = iConv .i64 (word_Bits0 (iConv IntKind.u64 w) 20 6) := (s19_4 ho).trans (by
    unfold decode_parts__reckons4 decode_parts__reckons_c1 decode_parts__reckons_c0 decode_parts__immediate0 decode_parts__reckons_c11 decode_parts__reckons_c4 decode_parts__reckons_c3
    rw [ho, hx]
    kernel_rfl)
theorem e29_5 {w rd rs1 rs2 f7 : Int} (ho : decode_Opcode0 w = 19) (hx : (word_Bits0 (iConv IntKind.u64 w) 26 6) = 0) : decode_parts__insn5 w rd 5 rs1 rs2 f7 = 0 := (s19_5 ho).trans (by kernel_rfl)
theorem e29_6 {w rd rs1 rs2 f7 : Int} (ho : decode_Opcode0 w = 19) (hx : (word_Bits0 (iConv IntKind.u64 w) 26 6) = 0) : decode_parts__insn6 w rd 5 rs1 rs2 f7 = true := (s19_6 ho).trans (by
    unfold decode_parts__reckons6 decode_parts__reckons_c1 decode_parts__reckons_c0 decode_parts__reckons_c12 decode_parts__reckons_c4 decode_parts__reckons_c3
    rw [ho, hx]
    kernel_rfl)
theorem ins29 {w : Int} (hW : W32 w) (hq : w % 128 = 19) (h3 : w / 4096 % 8 = 5) (hb : w / 67108864 % 64 = 0) : InsT w 29 (w / 128 % 32) (w / 32768 % 32) (0) (w / 1048576 % 64) (0) := by
  have ho : decode_Opcode0 w = 19 := (opc_eq hW).trans hq
  have hw := hW
  unfold W32 at hw
  have k_f3 : decode_of1 w = 5 := (of1_eq hW).trans h3
  exact ⟨by rw [k_f3]; exact (e29_0 ho ((b_26_6 hW).trans hb)),
    by rw [k_f3]; exact (e29_1 ho ((b_26_6 hW).trans hb)).trans (of0_eq hW),
    by rw [k_f3]; exact (e29_2 ho ((b_26_6 hW).trans hb)).trans (of2_eq hW),
    by rw [k_f3]; exact (e29_3 ho ((b_26_6 hW).trans hb)),
    by rw [k_f3]; exact (e29_4 ho ((b_26_6 hW).trans hb)).trans (by rw [b_20_6 hW]; exact convI_of ⟨by omega, by omega⟩),
    by rw [k_f3]; exact (e29_5 ho ((b_26_6 hW).trans hb)),
    by rw [k_f3]; exact (e29_6 ho ((b_26_6 hW).trans hb))⟩
theorem e30_0 {w rd rs1 rs2 f7 : Int} (ho : decode_Opcode0 w = 19) (hx : (word_Bits0 (iConv IntKind.u64 w) 26 6) = 16) : decode_parts__insn0 w rd 5 rs1 rs2 f7 = 30 := (s19_0 ho).trans (by
    unfold decode_parts__reckons0 decode_parts__reckons_c1 decode_parts__reckons_c0 decode_parts__reckons_c5 decode_parts__reckons_c4 decode_parts__reckons_c3 decode_parts__reckons_c6
    rw [ho, hx]
    kernel_rfl)
theorem e30_1 {w rd rs1 rs2 f7 : Int} (ho : decode_Opcode0 w = 19) (hx : (word_Bits0 (iConv IntKind.u64 w) 26 6) = 16) : decode_parts__insn1 w rd 5 rs1 rs2 f7 = rd := (s19_1 ho).trans (by
    unfold decode_parts__reckons1 decode_parts__reckons_c1 decode_parts__reckons_c0 decode_parts__reckons_c7 decode_parts__reckons_c4 decode_parts__reckons_c3
    rw [ho, hx]
    kernel_rfl)
theorem e30_2 {w rd rs1 rs2 f7 : Int} (ho : decode_Opcode0 w = 19) (hx : (word_Bits0 (iConv IntKind.u64 w) 26 6) = 16) : decode_parts__insn2 w rd 5 rs1 rs2 f7 = rs1 := (s19_2 ho).trans (by
    unfold decode_parts__reckons2 decode_parts__reckons_c1 decode_parts__reckons_c0 decode_parts__reckons_c8 decode_parts__reckons_c4 decode_parts__reckons_c3
    rw [ho, hx]
    kernel_rfl)
theorem e30_3 {w rd rs1 rs2 f7 : Int} (ho : decode_Opcode0 w = 19) (hx : (word_Bits0 (iConv IntKind.u64 w) 26 6) = 16) : decode_parts__insn3 w rd 5 rs1 rs2 f7 = 0 := (s19_3 ho).trans (by kernel_rfl)
theorem e30_4 {w rd rs1 rs2 f7 : Int} (ho : decode_Opcode0 w = 19) (hx : (word_Bits0 (iConv IntKind.u64 w) 26 6) = 16) : decode_parts__insn4 w rd 5 rs1 rs2 f7 = iConv .i64 (word_Bits0 (iConv IntKind.u64 w) 20 6) := (s19_4 ho).trans (by
    unfold decode_parts__reckons4 decode_parts__reckons_c1 decode_parts__reckons_c0 decode_parts__immediate0 decode_parts__reckons_c11 decode_parts__reckons_c4 decode_parts__reckons_c3
    rw [ho, hx]
    kernel_rfl)
theorem e30_5 {w rd rs1 rs2 f7 : Int} (ho : decode_Opcode0 w = 19) (hx : (word_Bits0 (iConv IntKind.u64 w) 26 6) = 16) : decode_parts__insn5 w rd 5 rs1 rs2 f7 = 0 := (s19_5 ho).trans (by kernel_rfl)
theorem e30_6 {w rd rs1 rs2 f7 : Int} (ho : decode_Opcode0 w = 19) (hx : (word_Bits0 (iConv IntKind.u64 w) 26 6) = 16) : decode_parts__insn6 w rd 5 rs1 rs2 f7 = true := (s19_6 ho).trans (by
    unfold decode_parts__reckons6 decode_parts__reckons_c1 decode_parts__reckons_c0 decode_parts__reckons_c12 decode_parts__reckons_c4 decode_parts__reckons_c3
    rw [ho, hx]
    kernel_rfl)
theorem ins30 {w : Int} (hW : W32 w) (hq : w % 128 = 19) (h3 : w / 4096 % 8 = 5) (hb : w / 67108864 % 64 = 16) : InsT w 30 (w / 128 % 32) (w / 32768 % 32) (0) (w / 1048576 % 64) (0) := by
  have ho : decode_Opcode0 w = 19 := (opc_eq hW).trans hq
  have hw := hW
  unfold W32 at hw
  have k_f3 : decode_of1 w = 5 := (of1_eq hW).trans h3
  exact ⟨by rw [k_f3]; exact (e30_0 ho ((b_26_6 hW).trans hb)),
    by rw [k_f3]; exact (e30_1 ho ((b_26_6 hW).trans hb)).trans (of0_eq hW),
    by rw [k_f3]; exact (e30_2 ho ((b_26_6 hW).trans hb)).trans (of2_eq hW),
    by rw [k_f3]; exact (e30_3 ho ((b_26_6 hW).trans hb)),
    by rw [k_f3]; exact (e30_4 ho ((b_26_6 hW).trans hb)).trans (by rw [b_20_6 hW]; exact convI_of ⟨by omega, by omega⟩),
    by rw [k_f3]; exact (e30_5 ho ((b_26_6 hW).trans hb)),
    by rw [k_f3]; exact (e30_6 ho ((b_26_6 hW).trans hb))⟩
theorem e31_0 {w rd rs1 rs2 f7 : Int} (ho : decode_Opcode0 w = 27) : decode_parts__insn0 w rd 0 rs1 rs2 f7 = 31 := (s27_0 ho).trans (by
    unfold decode_parts__reckons0 decode_parts__reckons_c1 decode_parts__reckons_c0 decode_parts__reckons_c5 decode_parts__reckons_c4 decode_parts__reckons_c3 decode_parts__reckons_c6
    rw [ho]
    kernel_rfl)
theorem e31_1 {w rd rs1 rs2 f7 : Int} (ho : decode_Opcode0 w = 27) : decode_parts__insn1 w rd 0 rs1 rs2 f7 = rd := (s27_1 ho).trans (by
    unfold decode_parts__reckons1 decode_parts__reckons_c1 decode_parts__reckons_c0 decode_parts__reckons_c7 decode_parts__reckons_c4 decode_parts__reckons_c3
    rw [ho]
    kernel_rfl)
theorem e31_2 {w rd rs1 rs2 f7 : Int} (ho : decode_Opcode0 w = 27) : decode_parts__insn2 w rd 0 rs1 rs2 f7 = rs1 := (s27_2 ho).trans (by
    unfold decode_parts__reckons2 decode_parts__reckons_c1 decode_parts__reckons_c0 decode_parts__reckons_c8 decode_parts__reckons_c4 decode_parts__reckons_c3
    rw [ho]
    kernel_rfl)
theorem e31_3 {w rd rs1 rs2 f7 : Int} (ho : decode_Opcode0 w = 27) : decode_parts__insn3 w rd 0 rs1 rs2 f7 = 0 := (s27_3 ho).trans (by kernel_rfl)
theorem e31_4 {w rd rs1 rs2 f7 : Int} (ho : decode_Opcode0 w = 27) : decode_parts__insn4 w rd 0 rs1 rs2 f7 = iConv .i64 (word_Sext0 (iShl .u64 (iOr .u64 0 (word_Bits0 (iConv IntKind.u64 w) 20 12)) 0) 12) := (s27_4 ho).trans (by
    unfold decode_parts__reckons4
    rw [ho, show (!iEq 27 19) = true from rfl, cond_true, show decode_parts__reckons_c1 w rd 0 rs1 rs2 f7 = true from by kernel_rfl, cond_true]
    unfold decode_parts__immediate0
    rfl)
theorem e31_5 {w rd rs1 rs2 f7 : Int} (ho : decode_Opcode0 w = 27) : decode_parts__insn5 w rd 0 rs1 rs2 f7 = 0 := (s27_5 ho).trans (by kernel_rfl)
theorem e31_6 {w rd rs1 rs2 f7 : Int} (ho : decode_Opcode0 w = 27) : decode_parts__insn6 w rd 0 rs1 rs2 f7 = true := (s27_6 ho).trans (by
    unfold decode_parts__reckons6 decode_parts__reckons_c1 decode_parts__reckons_c0 decode_parts__reckons_c12 decode_parts__reckons_c4 decode_parts__reckons_c3
    rw [ho]
    kernel_rfl)
theorem ins31 {w : Int} (hW : W32 w) (hq : w % 128 = 27) (h3 : w / 4096 % 8 = 0) : InsT w 31 (w / 128 % 32) (w / 32768 % 32) (0) (if w / 1048576 < 2048 then w / 1048576 else w / 1048576 - 4096) (0) := by
  have ho : decode_Opcode0 w = 27 := (opc_eq hW).trans hq
  have hw := hW
  unfold W32 at hw
  have k_f3 : decode_of1 w = 0 := (of1_eq hW).trans h3
  exact ⟨by rw [k_f3]; exact (e31_0 ho),
    by rw [k_f3]; exact (e31_1 ho).trans (of0_eq hW),
    by rw [k_f3]; exact (e31_2 ho).trans (of2_eq hW),
    by rw [k_f3]; exact (e31_3 ho),
    by rw [k_f3]; exact (e31_4 ho).trans (nI hW),
    by rw [k_f3]; exact (e31_5 ho),
    by rw [k_f3]; exact (e31_6 ho)⟩
theorem e32_0 {w rd rs1 rs2 f7 : Int} (ho : decode_Opcode0 w = 27) (hx : (word_Bits0 (iConv IntKind.u64 w) 25 7) = 0) : decode_parts__insn0 w rd 1 rs1 rs2 f7 = 32 := (s27_0 ho).trans (by
    unfold decode_parts__reckons0 decode_parts__reckons_c1 decode_parts__reckons_c0 decode_parts__reckons_c5 decode_parts__reckons_c4 decode_parts__reckons_c3 decode_parts__reckons_c6
    rw [ho, hx]
    kernel_rfl)
theorem e32_1 {w rd rs1 rs2 f7 : Int} (ho : decode_Opcode0 w = 27) (hx : (word_Bits0 (iConv IntKind.u64 w) 25 7) = 0) : decode_parts__insn1 w rd 1 rs1 rs2 f7 = rd := (s27_1 ho).trans (by
    unfold decode_parts__reckons1 decode_parts__reckons_c1 decode_parts__reckons_c0 decode_parts__reckons_c7 decode_parts__reckons_c4 decode_parts__reckons_c3
    rw [ho, hx]
    kernel_rfl)
theorem e32_2 {w rd rs1 rs2 f7 : Int} (ho : decode_Opcode0 w = 27) (hx : (word_Bits0 (iConv IntKind.u64 w) 25 7) = 0) : decode_parts__insn2 w rd 1 rs1 rs2 f7 = rs1 := (s27_2 ho).trans (by
    unfold decode_parts__reckons2 decode_parts__reckons_c1 decode_parts__reckons_c0 decode_parts__reckons_c8 decode_parts__reckons_c4 decode_parts__reckons_c3
    rw [ho, hx]
    kernel_rfl)
theorem e32_3 {w rd rs1 rs2 f7 : Int} (ho : decode_Opcode0 w = 27) (hx : (word_Bits0 (iConv IntKind.u64 w) 25 7) = 0) : decode_parts__insn3 w rd 1 rs1 rs2 f7 = 0 := (s27_3 ho).trans (by kernel_rfl)
theorem e32_4 {w rd rs1 rs2 f7 : Int} (ho : decode_Opcode0 w = 27) (hx : (word_Bits0 (iConv IntKind.u64 w) 25 7) = 0) : decode_parts__insn4 w rd 1 rs1 rs2 f7 = iConv .i64 (word_Bits0 (iConv IntKind.u64 w) 20 5) := (s27_4 ho).trans (by
    unfold decode_parts__reckons4 decode_parts__reckons_c1 decode_parts__reckons_c0 decode_parts__immediate0 decode_parts__reckons_c11 decode_parts__reckons_c4 decode_parts__reckons_c3
    rw [ho, hx]
    kernel_rfl)
theorem e32_5 {w rd rs1 rs2 f7 : Int} (ho : decode_Opcode0 w = 27) (hx : (word_Bits0 (iConv IntKind.u64 w) 25 7) = 0) : decode_parts__insn5 w rd 1 rs1 rs2 f7 = 0 := (s27_5 ho).trans (by kernel_rfl)
theorem e32_6 {w rd rs1 rs2 f7 : Int} (ho : decode_Opcode0 w = 27) (hx : (word_Bits0 (iConv IntKind.u64 w) 25 7) = 0) : decode_parts__insn6 w rd 1 rs1 rs2 f7 = true := (s27_6 ho).trans (by
    unfold decode_parts__reckons6 decode_parts__reckons_c1 decode_parts__reckons_c0 decode_parts__reckons_c12 decode_parts__reckons_c4 decode_parts__reckons_c3
    rw [ho, hx]
    kernel_rfl)
theorem ins32 {w : Int} (hW : W32 w) (hq : w % 128 = 27) (h3 : w / 4096 % 8 = 1) (hb : w / 33554432 % 128 = 0) : InsT w 32 (w / 128 % 32) (w / 32768 % 32) (0) (w / 1048576 % 32) (0) := by
  have ho : decode_Opcode0 w = 27 := (opc_eq hW).trans hq
  have hw := hW
  unfold W32 at hw
  have k_f3 : decode_of1 w = 1 := (of1_eq hW).trans h3
  exact ⟨by rw [k_f3]; exact (e32_0 ho ((b_25_7 hW).trans hb)),
    by rw [k_f3]; exact (e32_1 ho ((b_25_7 hW).trans hb)).trans (of0_eq hW),
    by rw [k_f3]; exact (e32_2 ho ((b_25_7 hW).trans hb)).trans (of2_eq hW),
    by rw [k_f3]; exact (e32_3 ho ((b_25_7 hW).trans hb)),
    by rw [k_f3]; exact (e32_4 ho ((b_25_7 hW).trans hb)).trans (by rw [b_20_5 hW]; exact convI_of ⟨by omega, by omega⟩),
    by rw [k_f3]; exact (e32_5 ho ((b_25_7 hW).trans hb)),
    by rw [k_f3]; exact (e32_6 ho ((b_25_7 hW).trans hb))⟩
theorem e33_0 {w rd rs1 rs2 f7 : Int} (ho : decode_Opcode0 w = 27) (hx : (word_Bits0 (iConv IntKind.u64 w) 25 7) = 0) : decode_parts__insn0 w rd 5 rs1 rs2 f7 = 33 := (s27_0 ho).trans (by
    unfold decode_parts__reckons0 decode_parts__reckons_c1 decode_parts__reckons_c0 decode_parts__reckons_c5 decode_parts__reckons_c4 decode_parts__reckons_c3 decode_parts__reckons_c6
    rw [ho, hx]
    kernel_rfl)
theorem e33_1 {w rd rs1 rs2 f7 : Int} (ho : decode_Opcode0 w = 27) (hx : (word_Bits0 (iConv IntKind.u64 w) 25 7) = 0) : decode_parts__insn1 w rd 5 rs1 rs2 f7 = rd := (s27_1 ho).trans (by
    unfold decode_parts__reckons1 decode_parts__reckons_c1 decode_parts__reckons_c0 decode_parts__reckons_c7 decode_parts__reckons_c4 decode_parts__reckons_c3
    rw [ho, hx]
    kernel_rfl)
theorem e33_2 {w rd rs1 rs2 f7 : Int} (ho : decode_Opcode0 w = 27) (hx : (word_Bits0 (iConv IntKind.u64 w) 25 7) = 0) : decode_parts__insn2 w rd 5 rs1 rs2 f7 = rs1 := (s27_2 ho).trans (by
    unfold decode_parts__reckons2 decode_parts__reckons_c1 decode_parts__reckons_c0 decode_parts__reckons_c8 decode_parts__reckons_c4 decode_parts__reckons_c3
    rw [ho, hx]
    kernel_rfl)
theorem e33_3 {w rd rs1 rs2 f7 : Int} (ho : decode_Opcode0 w = 27) (hx : (word_Bits0 (iConv IntKind.u64 w) 25 7) = 0) : decode_parts__insn3 w rd 5 rs1 rs2 f7 = 0 := (s27_3 ho).trans (by kernel_rfl)
theorem e33_4 {w rd rs1 rs2 f7 : Int} (ho : decode_Opcode0 w = 27) (hx : (word_Bits0 (iConv IntKind.u64 w) 25 7) = 0) : decode_parts__insn4 w rd 5 rs1 rs2 f7 = iConv .i64 (word_Bits0 (iConv IntKind.u64 w) 20 5) := (s27_4 ho).trans (by
    unfold decode_parts__reckons4 decode_parts__reckons_c1 decode_parts__reckons_c0 decode_parts__immediate0 decode_parts__reckons_c11 decode_parts__reckons_c4 decode_parts__reckons_c3
    rw [ho, hx]
    kernel_rfl)
theorem e33_5 {w rd rs1 rs2 f7 : Int} (ho : decode_Opcode0 w = 27) (hx : (word_Bits0 (iConv IntKind.u64 w) 25 7) = 0) : decode_parts__insn5 w rd 5 rs1 rs2 f7 = 0 := (s27_5 ho).trans (by kernel_rfl)
theorem e33_6 {w rd rs1 rs2 f7 : Int} (ho : decode_Opcode0 w = 27) (hx : (word_Bits0 (iConv IntKind.u64 w) 25 7) = 0) : decode_parts__insn6 w rd 5 rs1 rs2 f7 = true := (s27_6 ho).trans (by
    unfold decode_parts__reckons6 decode_parts__reckons_c1 decode_parts__reckons_c0 decode_parts__reckons_c12 decode_parts__reckons_c4 decode_parts__reckons_c3
    rw [ho, hx]
    kernel_rfl)
theorem ins33 {w : Int} (hW : W32 w) (hq : w % 128 = 27) (h3 : w / 4096 % 8 = 5) (hb : w / 33554432 % 128 = 0) : InsT w 33 (w / 128 % 32) (w / 32768 % 32) (0) (w / 1048576 % 32) (0) := by
  have ho : decode_Opcode0 w = 27 := (opc_eq hW).trans hq
  have hw := hW
  unfold W32 at hw
  have k_f3 : decode_of1 w = 5 := (of1_eq hW).trans h3
  exact ⟨by rw [k_f3]; exact (e33_0 ho ((b_25_7 hW).trans hb)),
    by rw [k_f3]; exact (e33_1 ho ((b_25_7 hW).trans hb)).trans (of0_eq hW),
    by rw [k_f3]; exact (e33_2 ho ((b_25_7 hW).trans hb)).trans (of2_eq hW),
    by rw [k_f3]; exact (e33_3 ho ((b_25_7 hW).trans hb)),
    by rw [k_f3]; exact (e33_4 ho ((b_25_7 hW).trans hb)).trans (by rw [b_20_5 hW]; exact convI_of ⟨by omega, by omega⟩),
    by rw [k_f3]; exact (e33_5 ho ((b_25_7 hW).trans hb)),
    by rw [k_f3]; exact (e33_6 ho ((b_25_7 hW).trans hb))⟩
theorem e34_0 {w rd rs1 rs2 f7 : Int} (ho : decode_Opcode0 w = 27) (hx : (word_Bits0 (iConv IntKind.u64 w) 25 7) = 32) : decode_parts__insn0 w rd 5 rs1 rs2 f7 = 34 := (s27_0 ho).trans (by
    unfold decode_parts__reckons0 decode_parts__reckons_c1 decode_parts__reckons_c0 decode_parts__reckons_c5 decode_parts__reckons_c4 decode_parts__reckons_c3 decode_parts__reckons_c6
    rw [ho, hx]
    kernel_rfl)
theorem e34_1 {w rd rs1 rs2 f7 : Int} (ho : decode_Opcode0 w = 27) (hx : (word_Bits0 (iConv IntKind.u64 w) 25 7) = 32) : decode_parts__insn1 w rd 5 rs1 rs2 f7 = rd := (s27_1 ho).trans (by
    unfold decode_parts__reckons1 decode_parts__reckons_c1 decode_parts__reckons_c0 decode_parts__reckons_c7 decode_parts__reckons_c4 decode_parts__reckons_c3
    rw [ho, hx]
    kernel_rfl)
theorem e34_2 {w rd rs1 rs2 f7 : Int} (ho : decode_Opcode0 w = 27) (hx : (word_Bits0 (iConv IntKind.u64 w) 25 7) = 32) : decode_parts__insn2 w rd 5 rs1 rs2 f7 = rs1 := (s27_2 ho).trans (by
    unfold decode_parts__reckons2 decode_parts__reckons_c1 decode_parts__reckons_c0 decode_parts__reckons_c8 decode_parts__reckons_c4 decode_parts__reckons_c3
    rw [ho, hx]
    kernel_rfl)
theorem e34_3 {w rd rs1 rs2 f7 : Int} (ho : decode_Opcode0 w = 27) (hx : (word_Bits0 (iConv IntKind.u64 w) 25 7) = 32) : decode_parts__insn3 w rd 5 rs1 rs2 f7 = 0 := (s27_3 ho).trans (by kernel_rfl)
theorem e34_4 {w rd rs1 rs2 f7 : Int} (ho : decode_Opcode0 w = 27) (hx : (word_Bits0 (iConv IntKind.u64 w) 25 7) = 32) : decode_parts__insn4 w rd 5 rs1 rs2 f7 = iConv .i64 (word_Bits0 (iConv IntKind.u64 w) 20 5) := (s27_4 ho).trans (by
    unfold decode_parts__reckons4 decode_parts__reckons_c1 decode_parts__reckons_c0 decode_parts__immediate0 decode_parts__reckons_c11 decode_parts__reckons_c4 decode_parts__reckons_c3
    rw [ho, hx]
    kernel_rfl)
theorem e34_5 {w rd rs1 rs2 f7 : Int} (ho : decode_Opcode0 w = 27) (hx : (word_Bits0 (iConv IntKind.u64 w) 25 7) = 32) : decode_parts__insn5 w rd 5 rs1 rs2 f7 = 0 := (s27_5 ho).trans (by kernel_rfl)
theorem e34_6 {w rd rs1 rs2 f7 : Int} (ho : decode_Opcode0 w = 27) (hx : (word_Bits0 (iConv IntKind.u64 w) 25 7) = 32) : decode_parts__insn6 w rd 5 rs1 rs2 f7 = true := (s27_6 ho).trans (by
    unfold decode_parts__reckons6 decode_parts__reckons_c1 decode_parts__reckons_c0 decode_parts__reckons_c12 decode_parts__reckons_c4 decode_parts__reckons_c3
    rw [ho, hx]
    kernel_rfl)
theorem ins34 {w : Int} (hW : W32 w) (hq : w % 128 = 27) (h3 : w / 4096 % 8 = 5) (hb : w / 33554432 % 128 = 32) : InsT w 34 (w / 128 % 32) (w / 32768 % 32) (0) (w / 1048576 % 32) (0) := by
  have ho : decode_Opcode0 w = 27 := (opc_eq hW).trans hq
  have hw := hW
  unfold W32 at hw
  have k_f3 : decode_of1 w = 5 := (of1_eq hW).trans h3
  exact ⟨by rw [k_f3]; exact (e34_0 ho ((b_25_7 hW).trans hb)),
    by rw [k_f3]; exact (e34_1 ho ((b_25_7 hW).trans hb)).trans (of0_eq hW),
    by rw [k_f3]; exact (e34_2 ho ((b_25_7 hW).trans hb)).trans (of2_eq hW),
    by rw [k_f3]; exact (e34_3 ho ((b_25_7 hW).trans hb)),
    by rw [k_f3]; exact (e34_4 ho ((b_25_7 hW).trans hb)).trans (by rw [b_20_5 hW]; exact convI_of ⟨by omega, by omega⟩),
    by rw [k_f3]; exact (e34_5 ho ((b_25_7 hW).trans hb)),
    by rw [k_f3]; exact (e34_6 ho ((b_25_7 hW).trans hb))⟩
theorem e35_0 {w rd rs1 rs2 : Int} (ho : decode_Opcode0 w = 51) : decode_parts__insn0 w rd 0 rs1 rs2 0 = 35 := (s51_0 ho).trans (by
    unfold decode_parts__registers0 decode_parts__registers_c0 decode_parts__registers_c1
    rw [ho]
    kernel_rfl)
theorem e35_1 {w rd rs1 rs2 : Int} (ho : decode_Opcode0 w = 51) : decode_parts__insn1 w rd 0 rs1 rs2 0 = rd := (s51_1 ho).trans (by kernel_rfl)
theorem e35_2 {w rd rs1 rs2 : Int} (ho : decode_Opcode0 w = 51) : decode_parts__insn2 w rd 0 rs1 rs2 0 = rs1 := (s51_2 ho).trans (by kernel_rfl)
theorem e35_3 {w rd rs1 rs2 : Int} (ho : decode_Opcode0 w = 51) : decode_parts__insn3 w rd 0 rs1 rs2 0 = rs2 := (s51_3 ho).trans (by kernel_rfl)
theorem e35_4 {w rd rs1 rs2 : Int} (ho : decode_Opcode0 w = 51) : decode_parts__insn4 w rd 0 rs1 rs2 0 = 0 := (s51_4 ho).trans (by kernel_rfl)
theorem e35_5 {w rd rs1 rs2 : Int} (ho : decode_Opcode0 w = 51) : decode_parts__insn5 w rd 0 rs1 rs2 0 = 0 := (s51_5 ho).trans (by kernel_rfl)
theorem e35_6 {w rd rs1 rs2 : Int} (ho : decode_Opcode0 w = 51) : decode_parts__insn6 w rd 0 rs1 rs2 0 = true := (s51_6 ho).trans (by
    unfold decode_parts__registers6 decode_parts__registers_c0 decode_parts__registers_c1
    rw [ho]
    kernel_rfl)
theorem ins35 {w : Int} (hW : W32 w) (hq : w % 128 = 51) (h3 : w / 4096 % 8 = 0) (h7 : w / 33554432 % 128 = 0) : InsT w 35 (w / 128 % 32) (w / 32768 % 32) (w / 1048576 % 32) (0) (0) := by
  have ho : decode_Opcode0 w = 51 := (opc_eq hW).trans hq
  have hw := hW
  unfold W32 at hw
  have k_f3 : decode_of1 w = 0 := (of1_eq hW).trans h3
  have k_f7 : decode_of4 w = 0 := (of4_eq hW).trans h7
  exact ⟨by rw [k_f3, k_f7]; exact (e35_0 ho),
    by rw [k_f3, k_f7]; exact (e35_1 ho).trans (of0_eq hW),
    by rw [k_f3, k_f7]; exact (e35_2 ho).trans (of2_eq hW),
    by rw [k_f3, k_f7]; exact (e35_3 ho).trans (of3_eq hW),
    by rw [k_f3, k_f7]; exact (e35_4 ho),
    by rw [k_f3, k_f7]; exact (e35_5 ho),
    by rw [k_f3, k_f7]; exact (e35_6 ho)⟩
theorem e36_0 {w rd rs1 rs2 : Int} (ho : decode_Opcode0 w = 51) : decode_parts__insn0 w rd 0 rs1 rs2 32 = 36 := (s51_0 ho).trans (by
    unfold decode_parts__registers0 decode_parts__registers_c0 decode_parts__registers_c1
    rw [ho]
    kernel_rfl)
theorem e36_1 {w rd rs1 rs2 : Int} (ho : decode_Opcode0 w = 51) : decode_parts__insn1 w rd 0 rs1 rs2 32 = rd := (s51_1 ho).trans (by kernel_rfl)
theorem e36_2 {w rd rs1 rs2 : Int} (ho : decode_Opcode0 w = 51) : decode_parts__insn2 w rd 0 rs1 rs2 32 = rs1 := (s51_2 ho).trans (by kernel_rfl)
theorem e36_3 {w rd rs1 rs2 : Int} (ho : decode_Opcode0 w = 51) : decode_parts__insn3 w rd 0 rs1 rs2 32 = rs2 := (s51_3 ho).trans (by kernel_rfl)
theorem e36_4 {w rd rs1 rs2 : Int} (ho : decode_Opcode0 w = 51) : decode_parts__insn4 w rd 0 rs1 rs2 32 = 0 := (s51_4 ho).trans (by kernel_rfl)
theorem e36_5 {w rd rs1 rs2 : Int} (ho : decode_Opcode0 w = 51) : decode_parts__insn5 w rd 0 rs1 rs2 32 = 0 := (s51_5 ho).trans (by kernel_rfl)
theorem e36_6 {w rd rs1 rs2 : Int} (ho : decode_Opcode0 w = 51) : decode_parts__insn6 w rd 0 rs1 rs2 32 = true := (s51_6 ho).trans (by
    unfold decode_parts__registers6 decode_parts__registers_c0 decode_parts__registers_c1
    rw [ho]
    kernel_rfl)
theorem ins36 {w : Int} (hW : W32 w) (hq : w % 128 = 51) (h3 : w / 4096 % 8 = 0) (h7 : w / 33554432 % 128 = 32) : InsT w 36 (w / 128 % 32) (w / 32768 % 32) (w / 1048576 % 32) (0) (0) := by
  have ho : decode_Opcode0 w = 51 := (opc_eq hW).trans hq
  have hw := hW
  unfold W32 at hw
  have k_f3 : decode_of1 w = 0 := (of1_eq hW).trans h3
  have k_f7 : decode_of4 w = 32 := (of4_eq hW).trans h7
  exact ⟨by rw [k_f3, k_f7]; exact (e36_0 ho),
    by rw [k_f3, k_f7]; exact (e36_1 ho).trans (of0_eq hW),
    by rw [k_f3, k_f7]; exact (e36_2 ho).trans (of2_eq hW),
    by rw [k_f3, k_f7]; exact (e36_3 ho).trans (of3_eq hW),
    by rw [k_f3, k_f7]; exact (e36_4 ho),
    by rw [k_f3, k_f7]; exact (e36_5 ho),
    by rw [k_f3, k_f7]; exact (e36_6 ho)⟩
theorem e37_0 {w rd rs1 rs2 : Int} (ho : decode_Opcode0 w = 51) : decode_parts__insn0 w rd 1 rs1 rs2 0 = 37 := (s51_0 ho).trans (by
    unfold decode_parts__registers0 decode_parts__registers_c0 decode_parts__registers_c1
    rw [ho]
    kernel_rfl)
theorem e37_1 {w rd rs1 rs2 : Int} (ho : decode_Opcode0 w = 51) : decode_parts__insn1 w rd 1 rs1 rs2 0 = rd := (s51_1 ho).trans (by kernel_rfl)
theorem e37_2 {w rd rs1 rs2 : Int} (ho : decode_Opcode0 w = 51) : decode_parts__insn2 w rd 1 rs1 rs2 0 = rs1 := (s51_2 ho).trans (by kernel_rfl)
theorem e37_3 {w rd rs1 rs2 : Int} (ho : decode_Opcode0 w = 51) : decode_parts__insn3 w rd 1 rs1 rs2 0 = rs2 := (s51_3 ho).trans (by kernel_rfl)
theorem e37_4 {w rd rs1 rs2 : Int} (ho : decode_Opcode0 w = 51) : decode_parts__insn4 w rd 1 rs1 rs2 0 = 0 := (s51_4 ho).trans (by kernel_rfl)
theorem e37_5 {w rd rs1 rs2 : Int} (ho : decode_Opcode0 w = 51) : decode_parts__insn5 w rd 1 rs1 rs2 0 = 0 := (s51_5 ho).trans (by kernel_rfl)
theorem e37_6 {w rd rs1 rs2 : Int} (ho : decode_Opcode0 w = 51) : decode_parts__insn6 w rd 1 rs1 rs2 0 = true := (s51_6 ho).trans (by
    unfold decode_parts__registers6 decode_parts__registers_c0 decode_parts__registers_c1
    rw [ho]
    kernel_rfl)
theorem ins37 {w : Int} (hW : W32 w) (hq : w % 128 = 51) (h3 : w / 4096 % 8 = 1) (h7 : w / 33554432 % 128 = 0) : InsT w 37 (w / 128 % 32) (w / 32768 % 32) (w / 1048576 % 32) (0) (0) := by
  have ho : decode_Opcode0 w = 51 := (opc_eq hW).trans hq
  have hw := hW
  unfold W32 at hw
  have k_f3 : decode_of1 w = 1 := (of1_eq hW).trans h3
  have k_f7 : decode_of4 w = 0 := (of4_eq hW).trans h7
  exact ⟨by rw [k_f3, k_f7]; exact (e37_0 ho),
    by rw [k_f3, k_f7]; exact (e37_1 ho).trans (of0_eq hW),
    by rw [k_f3, k_f7]; exact (e37_2 ho).trans (of2_eq hW),
    by rw [k_f3, k_f7]; exact (e37_3 ho).trans (of3_eq hW),
    by rw [k_f3, k_f7]; exact (e37_4 ho),
    by rw [k_f3, k_f7]; exact (e37_5 ho),
    by rw [k_f3, k_f7]; exact (e37_6 ho)⟩
theorem e38_0 {w rd rs1 rs2 : Int} (ho : decode_Opcode0 w = 51) : decode_parts__insn0 w rd 2 rs1 rs2 0 = 38 := (s51_0 ho).trans (by
    unfold decode_parts__registers0 decode_parts__registers_c0 decode_parts__registers_c1
    rw [ho]
    kernel_rfl)
theorem e38_1 {w rd rs1 rs2 : Int} (ho : decode_Opcode0 w = 51) : decode_parts__insn1 w rd 2 rs1 rs2 0 = rd := (s51_1 ho).trans (by kernel_rfl)
theorem e38_2 {w rd rs1 rs2 : Int} (ho : decode_Opcode0 w = 51) : decode_parts__insn2 w rd 2 rs1 rs2 0 = rs1 := (s51_2 ho).trans (by kernel_rfl)
theorem e38_3 {w rd rs1 rs2 : Int} (ho : decode_Opcode0 w = 51) : decode_parts__insn3 w rd 2 rs1 rs2 0 = rs2 := (s51_3 ho).trans (by kernel_rfl)
theorem e38_4 {w rd rs1 rs2 : Int} (ho : decode_Opcode0 w = 51) : decode_parts__insn4 w rd 2 rs1 rs2 0 = 0 := (s51_4 ho).trans (by kernel_rfl)
theorem e38_5 {w rd rs1 rs2 : Int} (ho : decode_Opcode0 w = 51) : decode_parts__insn5 w rd 2 rs1 rs2 0 = 0 := (s51_5 ho).trans (by kernel_rfl)
theorem e38_6 {w rd rs1 rs2 : Int} (ho : decode_Opcode0 w = 51) : decode_parts__insn6 w rd 2 rs1 rs2 0 = true := (s51_6 ho).trans (by
    unfold decode_parts__registers6 decode_parts__registers_c0 decode_parts__registers_c1
    rw [ho]
    kernel_rfl)
theorem ins38 {w : Int} (hW : W32 w) (hq : w % 128 = 51) (h3 : w / 4096 % 8 = 2) (h7 : w / 33554432 % 128 = 0) : InsT w 38 (w / 128 % 32) (w / 32768 % 32) (w / 1048576 % 32) (0) (0) := by
  have ho : decode_Opcode0 w = 51 := (opc_eq hW).trans hq
  have hw := hW
  unfold W32 at hw
  have k_f3 : decode_of1 w = 2 := (of1_eq hW).trans h3
  have k_f7 : decode_of4 w = 0 := (of4_eq hW).trans h7
  exact ⟨by rw [k_f3, k_f7]; exact (e38_0 ho),
    by rw [k_f3, k_f7]; exact (e38_1 ho).trans (of0_eq hW),
    by rw [k_f3, k_f7]; exact (e38_2 ho).trans (of2_eq hW),
    by rw [k_f3, k_f7]; exact (e38_3 ho).trans (of3_eq hW),
    by rw [k_f3, k_f7]; exact (e38_4 ho),
    by rw [k_f3, k_f7]; exact (e38_5 ho),
    by rw [k_f3, k_f7]; exact (e38_6 ho)⟩
theorem e39_0 {w rd rs1 rs2 : Int} (ho : decode_Opcode0 w = 51) : decode_parts__insn0 w rd 3 rs1 rs2 0 = 39 := (s51_0 ho).trans (by
    unfold decode_parts__registers0 decode_parts__registers_c0 decode_parts__registers_c1
    rw [ho]
    kernel_rfl)
theorem e39_1 {w rd rs1 rs2 : Int} (ho : decode_Opcode0 w = 51) : decode_parts__insn1 w rd 3 rs1 rs2 0 = rd := (s51_1 ho).trans (by kernel_rfl)
theorem e39_2 {w rd rs1 rs2 : Int} (ho : decode_Opcode0 w = 51) : decode_parts__insn2 w rd 3 rs1 rs2 0 = rs1 := (s51_2 ho).trans (by kernel_rfl)
theorem e39_3 {w rd rs1 rs2 : Int} (ho : decode_Opcode0 w = 51) : decode_parts__insn3 w rd 3 rs1 rs2 0 = rs2 := (s51_3 ho).trans (by kernel_rfl)
theorem e39_4 {w rd rs1 rs2 : Int} (ho : decode_Opcode0 w = 51) : decode_parts__insn4 w rd 3 rs1 rs2 0 = 0 := (s51_4 ho).trans (by kernel_rfl)
theorem e39_5 {w rd rs1 rs2 : Int} (ho : decode_Opcode0 w = 51) : decode_parts__insn5 w rd 3 rs1 rs2 0 = 0 := (s51_5 ho).trans (by kernel_rfl)
theorem e39_6 {w rd rs1 rs2 : Int} (ho : decode_Opcode0 w = 51) : decode_parts__insn6 w rd 3 rs1 rs2 0 = true := (s51_6 ho).trans (by
    unfold decode_parts__registers6 decode_parts__registers_c0 decode_parts__registers_c1
    rw [ho]
    kernel_rfl)
theorem ins39 {w : Int} (hW : W32 w) (hq : w % 128 = 51) (h3 : w / 4096 % 8 = 3) (h7 : w / 33554432 % 128 = 0) : InsT w 39 (w / 128 % 32) (w / 32768 % 32) (w / 1048576 % 32) (0) (0) := by
  have ho : decode_Opcode0 w = 51 := (opc_eq hW).trans hq
  have hw := hW
  unfold W32 at hw
  have k_f3 : decode_of1 w = 3 := (of1_eq hW).trans h3
  have k_f7 : decode_of4 w = 0 := (of4_eq hW).trans h7
  exact ⟨by rw [k_f3, k_f7]; exact (e39_0 ho),
    by rw [k_f3, k_f7]; exact (e39_1 ho).trans (of0_eq hW),
    by rw [k_f3, k_f7]; exact (e39_2 ho).trans (of2_eq hW),
    by rw [k_f3, k_f7]; exact (e39_3 ho).trans (of3_eq hW),
    by rw [k_f3, k_f7]; exact (e39_4 ho),
    by rw [k_f3, k_f7]; exact (e39_5 ho),
    by rw [k_f3, k_f7]; exact (e39_6 ho)⟩
theorem e40_0 {w rd rs1 rs2 : Int} (ho : decode_Opcode0 w = 51) : decode_parts__insn0 w rd 4 rs1 rs2 0 = 40 := (s51_0 ho).trans (by
    unfold decode_parts__registers0 decode_parts__registers_c0 decode_parts__registers_c1
    rw [ho]
    kernel_rfl)
theorem e40_1 {w rd rs1 rs2 : Int} (ho : decode_Opcode0 w = 51) : decode_parts__insn1 w rd 4 rs1 rs2 0 = rd := (s51_1 ho).trans (by kernel_rfl)
theorem e40_2 {w rd rs1 rs2 : Int} (ho : decode_Opcode0 w = 51) : decode_parts__insn2 w rd 4 rs1 rs2 0 = rs1 := (s51_2 ho).trans (by kernel_rfl)
theorem e40_3 {w rd rs1 rs2 : Int} (ho : decode_Opcode0 w = 51) : decode_parts__insn3 w rd 4 rs1 rs2 0 = rs2 := (s51_3 ho).trans (by kernel_rfl)
theorem e40_4 {w rd rs1 rs2 : Int} (ho : decode_Opcode0 w = 51) : decode_parts__insn4 w rd 4 rs1 rs2 0 = 0 := (s51_4 ho).trans (by kernel_rfl)
theorem e40_5 {w rd rs1 rs2 : Int} (ho : decode_Opcode0 w = 51) : decode_parts__insn5 w rd 4 rs1 rs2 0 = 0 := (s51_5 ho).trans (by kernel_rfl)
theorem e40_6 {w rd rs1 rs2 : Int} (ho : decode_Opcode0 w = 51) : decode_parts__insn6 w rd 4 rs1 rs2 0 = true := (s51_6 ho).trans (by
    unfold decode_parts__registers6 decode_parts__registers_c0 decode_parts__registers_c1
    rw [ho]
    kernel_rfl)
theorem ins40 {w : Int} (hW : W32 w) (hq : w % 128 = 51) (h3 : w / 4096 % 8 = 4) (h7 : w / 33554432 % 128 = 0) : InsT w 40 (w / 128 % 32) (w / 32768 % 32) (w / 1048576 % 32) (0) (0) := by
  have ho : decode_Opcode0 w = 51 := (opc_eq hW).trans hq
  have hw := hW
  unfold W32 at hw
  have k_f3 : decode_of1 w = 4 := (of1_eq hW).trans h3
  have k_f7 : decode_of4 w = 0 := (of4_eq hW).trans h7
  exact ⟨by rw [k_f3, k_f7]; exact (e40_0 ho),
    by rw [k_f3, k_f7]; exact (e40_1 ho).trans (of0_eq hW),
    by rw [k_f3, k_f7]; exact (e40_2 ho).trans (of2_eq hW),
    by rw [k_f3, k_f7]; exact (e40_3 ho).trans (of3_eq hW),
    by rw [k_f3, k_f7]; exact (e40_4 ho),
    by rw [k_f3, k_f7]; exact (e40_5 ho),
    by rw [k_f3, k_f7]; exact (e40_6 ho)⟩
theorem e41_0 {w rd rs1 rs2 : Int} (ho : decode_Opcode0 w = 51) : decode_parts__insn0 w rd 5 rs1 rs2 0 = 41 := (s51_0 ho).trans (by
    unfold decode_parts__registers0 decode_parts__registers_c0 decode_parts__registers_c1
    rw [ho]
    kernel_rfl)
theorem e41_1 {w rd rs1 rs2 : Int} (ho : decode_Opcode0 w = 51) : decode_parts__insn1 w rd 5 rs1 rs2 0 = rd := (s51_1 ho).trans (by kernel_rfl)
theorem e41_2 {w rd rs1 rs2 : Int} (ho : decode_Opcode0 w = 51) : decode_parts__insn2 w rd 5 rs1 rs2 0 = rs1 := (s51_2 ho).trans (by kernel_rfl)
theorem e41_3 {w rd rs1 rs2 : Int} (ho : decode_Opcode0 w = 51) : decode_parts__insn3 w rd 5 rs1 rs2 0 = rs2 := (s51_3 ho).trans (by kernel_rfl)
theorem e41_4 {w rd rs1 rs2 : Int} (ho : decode_Opcode0 w = 51) : decode_parts__insn4 w rd 5 rs1 rs2 0 = 0 := (s51_4 ho).trans (by kernel_rfl)
theorem e41_5 {w rd rs1 rs2 : Int} (ho : decode_Opcode0 w = 51) : decode_parts__insn5 w rd 5 rs1 rs2 0 = 0 := (s51_5 ho).trans (by kernel_rfl)
theorem e41_6 {w rd rs1 rs2 : Int} (ho : decode_Opcode0 w = 51) : decode_parts__insn6 w rd 5 rs1 rs2 0 = true := (s51_6 ho).trans (by
    unfold decode_parts__registers6 decode_parts__registers_c0 decode_parts__registers_c1
    rw [ho]
    kernel_rfl)
theorem ins41 {w : Int} (hW : W32 w) (hq : w % 128 = 51) (h3 : w / 4096 % 8 = 5) (h7 : w / 33554432 % 128 = 0) : InsT w 41 (w / 128 % 32) (w / 32768 % 32) (w / 1048576 % 32) (0) (0) := by
  have ho : decode_Opcode0 w = 51 := (opc_eq hW).trans hq
  have hw := hW
  unfold W32 at hw
  have k_f3 : decode_of1 w = 5 := (of1_eq hW).trans h3
  have k_f7 : decode_of4 w = 0 := (of4_eq hW).trans h7
  exact ⟨by rw [k_f3, k_f7]; exact (e41_0 ho),
    by rw [k_f3, k_f7]; exact (e41_1 ho).trans (of0_eq hW),
    by rw [k_f3, k_f7]; exact (e41_2 ho).trans (of2_eq hW),
    by rw [k_f3, k_f7]; exact (e41_3 ho).trans (of3_eq hW),
    by rw [k_f3, k_f7]; exact (e41_4 ho),
    by rw [k_f3, k_f7]; exact (e41_5 ho),
    by rw [k_f3, k_f7]; exact (e41_6 ho)⟩
theorem e42_0 {w rd rs1 rs2 : Int} (ho : decode_Opcode0 w = 51) : decode_parts__insn0 w rd 5 rs1 rs2 32 = 42 := (s51_0 ho).trans (by
    unfold decode_parts__registers0 decode_parts__registers_c0 decode_parts__registers_c1
    rw [ho]
    kernel_rfl)
theorem e42_1 {w rd rs1 rs2 : Int} (ho : decode_Opcode0 w = 51) : decode_parts__insn1 w rd 5 rs1 rs2 32 = rd := (s51_1 ho).trans (by kernel_rfl)
theorem e42_2 {w rd rs1 rs2 : Int} (ho : decode_Opcode0 w = 51) : decode_parts__insn2 w rd 5 rs1 rs2 32 = rs1 := (s51_2 ho).trans (by kernel_rfl)
theorem e42_3 {w rd rs1 rs2 : Int} (ho : decode_Opcode0 w = 51) : decode_parts__insn3 w rd 5 rs1 rs2 32 = rs2 := (s51_3 ho).trans (by kernel_rfl)
theorem e42_4 {w rd rs1 rs2 : Int} (ho : decode_Opcode0 w = 51) : decode_parts__insn4 w rd 5 rs1 rs2 32 = 0 := (s51_4 ho).trans (by kernel_rfl)
theorem e42_5 {w rd rs1 rs2 : Int} (ho : decode_Opcode0 w = 51) : decode_parts__insn5 w rd 5 rs1 rs2 32 = 0 := (s51_5 ho).trans (by kernel_rfl)
theorem e42_6 {w rd rs1 rs2 : Int} (ho : decode_Opcode0 w = 51) : decode_parts__insn6 w rd 5 rs1 rs2 32 = true := (s51_6 ho).trans (by
    unfold decode_parts__registers6 decode_parts__registers_c0 decode_parts__registers_c1
    rw [ho]
    kernel_rfl)
theorem ins42 {w : Int} (hW : W32 w) (hq : w % 128 = 51) (h3 : w / 4096 % 8 = 5) (h7 : w / 33554432 % 128 = 32) : InsT w 42 (w / 128 % 32) (w / 32768 % 32) (w / 1048576 % 32) (0) (0) := by
  have ho : decode_Opcode0 w = 51 := (opc_eq hW).trans hq
  have hw := hW
  unfold W32 at hw
  have k_f3 : decode_of1 w = 5 := (of1_eq hW).trans h3
  have k_f7 : decode_of4 w = 32 := (of4_eq hW).trans h7
  exact ⟨by rw [k_f3, k_f7]; exact (e42_0 ho),
    by rw [k_f3, k_f7]; exact (e42_1 ho).trans (of0_eq hW),
    by rw [k_f3, k_f7]; exact (e42_2 ho).trans (of2_eq hW),
    by rw [k_f3, k_f7]; exact (e42_3 ho).trans (of3_eq hW),
    by rw [k_f3, k_f7]; exact (e42_4 ho),
    by rw [k_f3, k_f7]; exact (e42_5 ho),
    by rw [k_f3, k_f7]; exact (e42_6 ho)⟩
theorem e43_0 {w rd rs1 rs2 : Int} (ho : decode_Opcode0 w = 51) : decode_parts__insn0 w rd 6 rs1 rs2 0 = 43 := (s51_0 ho).trans (by
    unfold decode_parts__registers0 decode_parts__registers_c0 decode_parts__registers_c1
    rw [ho]
    kernel_rfl)
theorem e43_1 {w rd rs1 rs2 : Int} (ho : decode_Opcode0 w = 51) : decode_parts__insn1 w rd 6 rs1 rs2 0 = rd := (s51_1 ho).trans (by kernel_rfl)
theorem e43_2 {w rd rs1 rs2 : Int} (ho : decode_Opcode0 w = 51) : decode_parts__insn2 w rd 6 rs1 rs2 0 = rs1 := (s51_2 ho).trans (by kernel_rfl)
theorem e43_3 {w rd rs1 rs2 : Int} (ho : decode_Opcode0 w = 51) : decode_parts__insn3 w rd 6 rs1 rs2 0 = rs2 := (s51_3 ho).trans (by kernel_rfl)
theorem e43_4 {w rd rs1 rs2 : Int} (ho : decode_Opcode0 w = 51) : decode_parts__insn4 w rd 6 rs1 rs2 0 = 0 := (s51_4 ho).trans (by kernel_rfl)
theorem e43_5 {w rd rs1 rs2 : Int} (ho : decode_Opcode0 w = 51) : decode_parts__insn5 w rd 6 rs1 rs2 0 = 0 := (s51_5 ho).trans (by kernel_rfl)
theorem e43_6 {w rd rs1 rs2 : Int} (ho : decode_Opcode0 w = 51) : decode_parts__insn6 w rd 6 rs1 rs2 0 = true := (s51_6 ho).trans (by
    unfold decode_parts__registers6 decode_parts__registers_c0 decode_parts__registers_c1
    rw [ho]
    kernel_rfl)
theorem ins43 {w : Int} (hW : W32 w) (hq : w % 128 = 51) (h3 : w / 4096 % 8 = 6) (h7 : w / 33554432 % 128 = 0) : InsT w 43 (w / 128 % 32) (w / 32768 % 32) (w / 1048576 % 32) (0) (0) := by
  have ho : decode_Opcode0 w = 51 := (opc_eq hW).trans hq
  have hw := hW
  unfold W32 at hw
  have k_f3 : decode_of1 w = 6 := (of1_eq hW).trans h3
  have k_f7 : decode_of4 w = 0 := (of4_eq hW).trans h7
  exact ⟨by rw [k_f3, k_f7]; exact (e43_0 ho),
    by rw [k_f3, k_f7]; exact (e43_1 ho).trans (of0_eq hW),
    by rw [k_f3, k_f7]; exact (e43_2 ho).trans (of2_eq hW),
    by rw [k_f3, k_f7]; exact (e43_3 ho).trans (of3_eq hW),
    by rw [k_f3, k_f7]; exact (e43_4 ho),
    by rw [k_f3, k_f7]; exact (e43_5 ho),
    by rw [k_f3, k_f7]; exact (e43_6 ho)⟩
theorem e44_0 {w rd rs1 rs2 : Int} (ho : decode_Opcode0 w = 51) : decode_parts__insn0 w rd 7 rs1 rs2 0 = 44 := (s51_0 ho).trans (by
    unfold decode_parts__registers0 decode_parts__registers_c0 decode_parts__registers_c1
    rw [ho]
    kernel_rfl)
theorem e44_1 {w rd rs1 rs2 : Int} (ho : decode_Opcode0 w = 51) : decode_parts__insn1 w rd 7 rs1 rs2 0 = rd := (s51_1 ho).trans (by kernel_rfl)
theorem e44_2 {w rd rs1 rs2 : Int} (ho : decode_Opcode0 w = 51) : decode_parts__insn2 w rd 7 rs1 rs2 0 = rs1 := (s51_2 ho).trans (by kernel_rfl)
theorem e44_3 {w rd rs1 rs2 : Int} (ho : decode_Opcode0 w = 51) : decode_parts__insn3 w rd 7 rs1 rs2 0 = rs2 := (s51_3 ho).trans (by kernel_rfl)
theorem e44_4 {w rd rs1 rs2 : Int} (ho : decode_Opcode0 w = 51) : decode_parts__insn4 w rd 7 rs1 rs2 0 = 0 := (s51_4 ho).trans (by kernel_rfl)
theorem e44_5 {w rd rs1 rs2 : Int} (ho : decode_Opcode0 w = 51) : decode_parts__insn5 w rd 7 rs1 rs2 0 = 0 := (s51_5 ho).trans (by kernel_rfl)
theorem e44_6 {w rd rs1 rs2 : Int} (ho : decode_Opcode0 w = 51) : decode_parts__insn6 w rd 7 rs1 rs2 0 = true := (s51_6 ho).trans (by
    unfold decode_parts__registers6 decode_parts__registers_c0 decode_parts__registers_c1
    rw [ho]
    kernel_rfl)
theorem ins44 {w : Int} (hW : W32 w) (hq : w % 128 = 51) (h3 : w / 4096 % 8 = 7) (h7 : w / 33554432 % 128 = 0) : InsT w 44 (w / 128 % 32) (w / 32768 % 32) (w / 1048576 % 32) (0) (0) := by
  have ho : decode_Opcode0 w = 51 := (opc_eq hW).trans hq
  have hw := hW
  unfold W32 at hw
  have k_f3 : decode_of1 w = 7 := (of1_eq hW).trans h3
  have k_f7 : decode_of4 w = 0 := (of4_eq hW).trans h7
  exact ⟨by rw [k_f3, k_f7]; exact (e44_0 ho),
    by rw [k_f3, k_f7]; exact (e44_1 ho).trans (of0_eq hW),
    by rw [k_f3, k_f7]; exact (e44_2 ho).trans (of2_eq hW),
    by rw [k_f3, k_f7]; exact (e44_3 ho).trans (of3_eq hW),
    by rw [k_f3, k_f7]; exact (e44_4 ho),
    by rw [k_f3, k_f7]; exact (e44_5 ho),
    by rw [k_f3, k_f7]; exact (e44_6 ho)⟩
theorem e45_0 {w rd rs1 rs2 : Int} (ho : decode_Opcode0 w = 59) : decode_parts__insn0 w rd 0 rs1 rs2 0 = 45 := (s59_0 ho).trans (by
    unfold decode_parts__registers0 decode_parts__registers_c0 decode_parts__registers_c1
    rw [ho]
    kernel_rfl)
theorem e45_1 {w rd rs1 rs2 : Int} (ho : decode_Opcode0 w = 59) : decode_parts__insn1 w rd 0 rs1 rs2 0 = rd := (s59_1 ho).trans (by kernel_rfl)
theorem e45_2 {w rd rs1 rs2 : Int} (ho : decode_Opcode0 w = 59) : decode_parts__insn2 w rd 0 rs1 rs2 0 = rs1 := (s59_2 ho).trans (by kernel_rfl)
theorem e45_3 {w rd rs1 rs2 : Int} (ho : decode_Opcode0 w = 59) : decode_parts__insn3 w rd 0 rs1 rs2 0 = rs2 := (s59_3 ho).trans (by kernel_rfl)
theorem e45_4 {w rd rs1 rs2 : Int} (ho : decode_Opcode0 w = 59) : decode_parts__insn4 w rd 0 rs1 rs2 0 = 0 := (s59_4 ho).trans (by kernel_rfl)
theorem e45_5 {w rd rs1 rs2 : Int} (ho : decode_Opcode0 w = 59) : decode_parts__insn5 w rd 0 rs1 rs2 0 = 0 := (s59_5 ho).trans (by kernel_rfl)
theorem e45_6 {w rd rs1 rs2 : Int} (ho : decode_Opcode0 w = 59) : decode_parts__insn6 w rd 0 rs1 rs2 0 = true := (s59_6 ho).trans (by
    unfold decode_parts__registers6 decode_parts__registers_c0 decode_parts__registers_c1
    rw [ho]
    kernel_rfl)
theorem ins45 {w : Int} (hW : W32 w) (hq : w % 128 = 59) (h3 : w / 4096 % 8 = 0) (h7 : w / 33554432 % 128 = 0) : InsT w 45 (w / 128 % 32) (w / 32768 % 32) (w / 1048576 % 32) (0) (0) := by
  have ho : decode_Opcode0 w = 59 := (opc_eq hW).trans hq
  have hw := hW
  unfold W32 at hw
  have k_f3 : decode_of1 w = 0 := (of1_eq hW).trans h3
  have k_f7 : decode_of4 w = 0 := (of4_eq hW).trans h7
  exact ⟨by rw [k_f3, k_f7]; exact (e45_0 ho),
    by rw [k_f3, k_f7]; exact (e45_1 ho).trans (of0_eq hW),
    by rw [k_f3, k_f7]; exact (e45_2 ho).trans (of2_eq hW),
    by rw [k_f3, k_f7]; exact (e45_3 ho).trans (of3_eq hW),
    by rw [k_f3, k_f7]; exact (e45_4 ho),
    by rw [k_f3, k_f7]; exact (e45_5 ho),
    by rw [k_f3, k_f7]; exact (e45_6 ho)⟩
theorem e46_0 {w rd rs1 rs2 : Int} (ho : decode_Opcode0 w = 59) : decode_parts__insn0 w rd 0 rs1 rs2 32 = 46 := (s59_0 ho).trans (by
    unfold decode_parts__registers0 decode_parts__registers_c0 decode_parts__registers_c1
    rw [ho]
    kernel_rfl)
theorem e46_1 {w rd rs1 rs2 : Int} (ho : decode_Opcode0 w = 59) : decode_parts__insn1 w rd 0 rs1 rs2 32 = rd := (s59_1 ho).trans (by kernel_rfl)
theorem e46_2 {w rd rs1 rs2 : Int} (ho : decode_Opcode0 w = 59) : decode_parts__insn2 w rd 0 rs1 rs2 32 = rs1 := (s59_2 ho).trans (by kernel_rfl)
theorem e46_3 {w rd rs1 rs2 : Int} (ho : decode_Opcode0 w = 59) : decode_parts__insn3 w rd 0 rs1 rs2 32 = rs2 := (s59_3 ho).trans (by kernel_rfl)
theorem e46_4 {w rd rs1 rs2 : Int} (ho : decode_Opcode0 w = 59) : decode_parts__insn4 w rd 0 rs1 rs2 32 = 0 := (s59_4 ho).trans (by kernel_rfl)
theorem e46_5 {w rd rs1 rs2 : Int} (ho : decode_Opcode0 w = 59) : decode_parts__insn5 w rd 0 rs1 rs2 32 = 0 := (s59_5 ho).trans (by kernel_rfl)
theorem e46_6 {w rd rs1 rs2 : Int} (ho : decode_Opcode0 w = 59) : decode_parts__insn6 w rd 0 rs1 rs2 32 = true := (s59_6 ho).trans (by
    unfold decode_parts__registers6 decode_parts__registers_c0 decode_parts__registers_c1
    rw [ho]
    kernel_rfl)
theorem ins46 {w : Int} (hW : W32 w) (hq : w % 128 = 59) (h3 : w / 4096 % 8 = 0) (h7 : w / 33554432 % 128 = 32) : InsT w 46 (w / 128 % 32) (w / 32768 % 32) (w / 1048576 % 32) (0) (0) := by
  have ho : decode_Opcode0 w = 59 := (opc_eq hW).trans hq
  have hw := hW
  unfold W32 at hw
  have k_f3 : decode_of1 w = 0 := (of1_eq hW).trans h3
  have k_f7 : decode_of4 w = 32 := (of4_eq hW).trans h7
  exact ⟨by rw [k_f3, k_f7]; exact (e46_0 ho),
    by rw [k_f3, k_f7]; exact (e46_1 ho).trans (of0_eq hW),
    by rw [k_f3, k_f7]; exact (e46_2 ho).trans (of2_eq hW),
    by rw [k_f3, k_f7]; exact (e46_3 ho).trans (of3_eq hW),
    by rw [k_f3, k_f7]; exact (e46_4 ho),
    by rw [k_f3, k_f7]; exact (e46_5 ho),
    by rw [k_f3, k_f7]; exact (e46_6 ho)⟩
theorem e47_0 {w rd rs1 rs2 : Int} (ho : decode_Opcode0 w = 59) : decode_parts__insn0 w rd 1 rs1 rs2 0 = 47 := (s59_0 ho).trans (by
    unfold decode_parts__registers0 decode_parts__registers_c0 decode_parts__registers_c1
    rw [ho]
    kernel_rfl)
theorem e47_1 {w rd rs1 rs2 : Int} (ho : decode_Opcode0 w = 59) : decode_parts__insn1 w rd 1 rs1 rs2 0 = rd := (s59_1 ho).trans (by kernel_rfl)
theorem e47_2 {w rd rs1 rs2 : Int} (ho : decode_Opcode0 w = 59) : decode_parts__insn2 w rd 1 rs1 rs2 0 = rs1 := (s59_2 ho).trans (by kernel_rfl)
theorem e47_3 {w rd rs1 rs2 : Int} (ho : decode_Opcode0 w = 59) : decode_parts__insn3 w rd 1 rs1 rs2 0 = rs2 := (s59_3 ho).trans (by kernel_rfl)
theorem e47_4 {w rd rs1 rs2 : Int} (ho : decode_Opcode0 w = 59) : decode_parts__insn4 w rd 1 rs1 rs2 0 = 0 := (s59_4 ho).trans (by kernel_rfl)
theorem e47_5 {w rd rs1 rs2 : Int} (ho : decode_Opcode0 w = 59) : decode_parts__insn5 w rd 1 rs1 rs2 0 = 0 := (s59_5 ho).trans (by kernel_rfl)
theorem e47_6 {w rd rs1 rs2 : Int} (ho : decode_Opcode0 w = 59) : decode_parts__insn6 w rd 1 rs1 rs2 0 = true := (s59_6 ho).trans (by
    unfold decode_parts__registers6 decode_parts__registers_c0 decode_parts__registers_c1
    rw [ho]
    kernel_rfl)
theorem ins47 {w : Int} (hW : W32 w) (hq : w % 128 = 59) (h3 : w / 4096 % 8 = 1) (h7 : w / 33554432 % 128 = 0) : InsT w 47 (w / 128 % 32) (w / 32768 % 32) (w / 1048576 % 32) (0) (0) := by
  have ho : decode_Opcode0 w = 59 := (opc_eq hW).trans hq
  have hw := hW
  unfold W32 at hw
  have k_f3 : decode_of1 w = 1 := (of1_eq hW).trans h3
  have k_f7 : decode_of4 w = 0 := (of4_eq hW).trans h7
  exact ⟨by rw [k_f3, k_f7]; exact (e47_0 ho),
    by rw [k_f3, k_f7]; exact (e47_1 ho).trans (of0_eq hW),
    by rw [k_f3, k_f7]; exact (e47_2 ho).trans (of2_eq hW),
    by rw [k_f3, k_f7]; exact (e47_3 ho).trans (of3_eq hW),
    by rw [k_f3, k_f7]; exact (e47_4 ho),
    by rw [k_f3, k_f7]; exact (e47_5 ho),
    by rw [k_f3, k_f7]; exact (e47_6 ho)⟩
theorem e48_0 {w rd rs1 rs2 : Int} (ho : decode_Opcode0 w = 59) : decode_parts__insn0 w rd 5 rs1 rs2 0 = 48 := (s59_0 ho).trans (by
    unfold decode_parts__registers0 decode_parts__registers_c0 decode_parts__registers_c1
    rw [ho]
    kernel_rfl)
theorem e48_1 {w rd rs1 rs2 : Int} (ho : decode_Opcode0 w = 59) : decode_parts__insn1 w rd 5 rs1 rs2 0 = rd := (s59_1 ho).trans (by kernel_rfl)
theorem e48_2 {w rd rs1 rs2 : Int} (ho : decode_Opcode0 w = 59) : decode_parts__insn2 w rd 5 rs1 rs2 0 = rs1 := (s59_2 ho).trans (by kernel_rfl)
theorem e48_3 {w rd rs1 rs2 : Int} (ho : decode_Opcode0 w = 59) : decode_parts__insn3 w rd 5 rs1 rs2 0 = rs2 := (s59_3 ho).trans (by kernel_rfl)
theorem e48_4 {w rd rs1 rs2 : Int} (ho : decode_Opcode0 w = 59) : decode_parts__insn4 w rd 5 rs1 rs2 0 = 0 := (s59_4 ho).trans (by kernel_rfl)
theorem e48_5 {w rd rs1 rs2 : Int} (ho : decode_Opcode0 w = 59) : decode_parts__insn5 w rd 5 rs1 rs2 0 = 0 := (s59_5 ho).trans (by kernel_rfl)
theorem e48_6 {w rd rs1 rs2 : Int} (ho : decode_Opcode0 w = 59) : decode_parts__insn6 w rd 5 rs1 rs2 0 = true := (s59_6 ho).trans (by
    unfold decode_parts__registers6 decode_parts__registers_c0 decode_parts__registers_c1
    rw [ho]
    kernel_rfl)
theorem ins48 {w : Int} (hW : W32 w) (hq : w % 128 = 59) (h3 : w / 4096 % 8 = 5) (h7 : w / 33554432 % 128 = 0) : InsT w 48 (w / 128 % 32) (w / 32768 % 32) (w / 1048576 % 32) (0) (0) := by
  have ho : decode_Opcode0 w = 59 := (opc_eq hW).trans hq
  have hw := hW
  unfold W32 at hw
  have k_f3 : decode_of1 w = 5 := (of1_eq hW).trans h3
  have k_f7 : decode_of4 w = 0 := (of4_eq hW).trans h7
  exact ⟨by rw [k_f3, k_f7]; exact (e48_0 ho),
    by rw [k_f3, k_f7]; exact (e48_1 ho).trans (of0_eq hW),
    by rw [k_f3, k_f7]; exact (e48_2 ho).trans (of2_eq hW),
    by rw [k_f3, k_f7]; exact (e48_3 ho).trans (of3_eq hW),
    by rw [k_f3, k_f7]; exact (e48_4 ho),
    by rw [k_f3, k_f7]; exact (e48_5 ho),
    by rw [k_f3, k_f7]; exact (e48_6 ho)⟩
theorem e49_0 {w rd rs1 rs2 : Int} (ho : decode_Opcode0 w = 59) : decode_parts__insn0 w rd 5 rs1 rs2 32 = 49 := (s59_0 ho).trans (by
    unfold decode_parts__registers0 decode_parts__registers_c0 decode_parts__registers_c1
    rw [ho]
    kernel_rfl)
theorem e49_1 {w rd rs1 rs2 : Int} (ho : decode_Opcode0 w = 59) : decode_parts__insn1 w rd 5 rs1 rs2 32 = rd := (s59_1 ho).trans (by kernel_rfl)
theorem e49_2 {w rd rs1 rs2 : Int} (ho : decode_Opcode0 w = 59) : decode_parts__insn2 w rd 5 rs1 rs2 32 = rs1 := (s59_2 ho).trans (by kernel_rfl)
theorem e49_3 {w rd rs1 rs2 : Int} (ho : decode_Opcode0 w = 59) : decode_parts__insn3 w rd 5 rs1 rs2 32 = rs2 := (s59_3 ho).trans (by kernel_rfl)
theorem e49_4 {w rd rs1 rs2 : Int} (ho : decode_Opcode0 w = 59) : decode_parts__insn4 w rd 5 rs1 rs2 32 = 0 := (s59_4 ho).trans (by kernel_rfl)
theorem e49_5 {w rd rs1 rs2 : Int} (ho : decode_Opcode0 w = 59) : decode_parts__insn5 w rd 5 rs1 rs2 32 = 0 := (s59_5 ho).trans (by kernel_rfl)
theorem e49_6 {w rd rs1 rs2 : Int} (ho : decode_Opcode0 w = 59) : decode_parts__insn6 w rd 5 rs1 rs2 32 = true := (s59_6 ho).trans (by
    unfold decode_parts__registers6 decode_parts__registers_c0 decode_parts__registers_c1
    rw [ho]
    kernel_rfl)
theorem ins49 {w : Int} (hW : W32 w) (hq : w % 128 = 59) (h3 : w / 4096 % 8 = 5) (h7 : w / 33554432 % 128 = 32) : InsT w 49 (w / 128 % 32) (w / 32768 % 32) (w / 1048576 % 32) (0) (0) := by
  have ho : decode_Opcode0 w = 59 := (opc_eq hW).trans hq
  have hw := hW
  unfold W32 at hw
  have k_f3 : decode_of1 w = 5 := (of1_eq hW).trans h3
  have k_f7 : decode_of4 w = 32 := (of4_eq hW).trans h7
  exact ⟨by rw [k_f3, k_f7]; exact (e49_0 ho),
    by rw [k_f3, k_f7]; exact (e49_1 ho).trans (of0_eq hW),
    by rw [k_f3, k_f7]; exact (e49_2 ho).trans (of2_eq hW),
    by rw [k_f3, k_f7]; exact (e49_3 ho).trans (of3_eq hW),
    by rw [k_f3, k_f7]; exact (e49_4 ho),
    by rw [k_f3, k_f7]; exact (e49_5 ho),
    by rw [k_f3, k_f7]; exact (e49_6 ho)⟩
theorem ins50 : InsT 267386895 50 0 0 0 0 0 := ⟨by decide +kernel, by decide +kernel, by decide +kernel, by decide +kernel, by decide +kernel, by decide +kernel, by decide +kernel⟩
theorem ins51 : InsT 4111 51 0 0 0 0 0 := ⟨by decide +kernel, by decide +kernel, by decide +kernel, by decide +kernel, by decide +kernel, by decide +kernel, by decide +kernel⟩
theorem ins52 : InsT 115 52 0 0 0 0 0 := ⟨by decide +kernel, by decide +kernel, by decide +kernel, by decide +kernel, by decide +kernel, by decide +kernel, by decide +kernel⟩
theorem ins53 : InsT 1048691 53 0 0 0 0 0 := ⟨by decide +kernel, by decide +kernel, by decide +kernel, by decide +kernel, by decide +kernel, by decide +kernel, by decide +kernel⟩
theorem e54_0 {w rd rs1 rs2 f7 : Int} (ho : decode_Opcode0 w = 115) : decode_parts__insn0 w rd 1 rs1 rs2 f7 = 54 := (s115_0 ho).trans (by kernel_rfl)
theorem e54_1 {w rd rs1 rs2 f7 : Int} (ho : decode_Opcode0 w = 115) : decode_parts__insn1 w rd 1 rs1 rs2 f7 = rd := (s115_1 ho).trans (by kernel_rfl)
theorem e54_2 {w rd rs1 rs2 f7 : Int} (ho : decode_Opcode0 w = 115) : decode_parts__insn2 w rd 1 rs1 rs2 f7 = rs1 := (s115_2 ho).trans (by kernel_rfl)
theorem e54_3 {w rd rs1 rs2 f7 : Int} (ho : decode_Opcode0 w = 115) : decode_parts__insn3 w rd 1 rs1 rs2 f7 = 0 := (s115_3 ho).trans (by kernel_rfl)
theorem e54_4 {w rd rs1 rs2 f7 : Int} (ho : decode_Opcode0 w = 115) : decode_parts__insn4 w rd 1 rs1 rs2 f7 = 0 := (s115_4 ho).trans (by kernel_rfl)
theorem e54_5 {w rd rs1 rs2 f7 : Int} (ho : decode_Opcode0 w = 115) : decode_parts__insn5 w rd 1 rs1 rs2 f7 = iConv .i64 (word_Bits0 (iConv IntKind.u64 w) 20 12) := (s115_5 ho).trans (by kernel_rfl)
theorem e54_6 {w rd rs1 rs2 f7 : Int} (ho : decode_Opcode0 w = 115) : decode_parts__insn6 w rd 1 rs1 rs2 f7 = true := (s115_6 ho).trans (by kernel_rfl)
theorem ins54 {w : Int} (hW : W32 w) (hq : w % 128 = 115) (h3 : w / 4096 % 8 = 1) : InsT w 54 (w / 128 % 32) (w / 32768 % 32) (0) (0) (w / 1048576) := by
  have ho : decode_Opcode0 w = 115 := (opc_eq hW).trans hq
  have hw := hW
  unfold W32 at hw
  have k_f3 : decode_of1 w = 1 := (of1_eq hW).trans h3
  exact ⟨by rw [k_f3]; exact (e54_0 ho),
    by rw [k_f3]; exact (e54_1 ho).trans (of0_eq hW),
    by rw [k_f3]; exact (e54_2 ho).trans (of2_eq hW),
    by rw [k_f3]; exact (e54_3 ho),
    by rw [k_f3]; exact (e54_4 ho),
    by rw [k_f3]; exact (e54_5 ho).trans (by rw [b_20_12 hW, convI_of ⟨by omega, by omega⟩]; omega),
    by rw [k_f3]; exact (e54_6 ho)⟩
theorem e55_0 {w rd rs1 rs2 f7 : Int} (ho : decode_Opcode0 w = 115) : decode_parts__insn0 w rd 2 rs1 rs2 f7 = 55 := (s115_0 ho).trans (by kernel_rfl)
theorem e55_1 {w rd rs1 rs2 f7 : Int} (ho : decode_Opcode0 w = 115) : decode_parts__insn1 w rd 2 rs1 rs2 f7 = rd := (s115_1 ho).trans (by kernel_rfl)
theorem e55_2 {w rd rs1 rs2 f7 : Int} (ho : decode_Opcode0 w = 115) : decode_parts__insn2 w rd 2 rs1 rs2 f7 = rs1 := (s115_2 ho).trans (by kernel_rfl)
theorem e55_3 {w rd rs1 rs2 f7 : Int} (ho : decode_Opcode0 w = 115) : decode_parts__insn3 w rd 2 rs1 rs2 f7 = 0 := (s115_3 ho).trans (by kernel_rfl)
theorem e55_4 {w rd rs1 rs2 f7 : Int} (ho : decode_Opcode0 w = 115) : decode_parts__insn4 w rd 2 rs1 rs2 f7 = 0 := (s115_4 ho).trans (by kernel_rfl)
theorem e55_5 {w rd rs1 rs2 f7 : Int} (ho : decode_Opcode0 w = 115) : decode_parts__insn5 w rd 2 rs1 rs2 f7 = iConv .i64 (word_Bits0 (iConv IntKind.u64 w) 20 12) := (s115_5 ho).trans (by kernel_rfl)
theorem e55_6 {w rd rs1 rs2 f7 : Int} (ho : decode_Opcode0 w = 115) : decode_parts__insn6 w rd 2 rs1 rs2 f7 = true := (s115_6 ho).trans (by kernel_rfl)
theorem ins55 {w : Int} (hW : W32 w) (hq : w % 128 = 115) (h3 : w / 4096 % 8 = 2) : InsT w 55 (w / 128 % 32) (w / 32768 % 32) (0) (0) (w / 1048576) := by
  have ho : decode_Opcode0 w = 115 := (opc_eq hW).trans hq
  have hw := hW
  unfold W32 at hw
  have k_f3 : decode_of1 w = 2 := (of1_eq hW).trans h3
  exact ⟨by rw [k_f3]; exact (e55_0 ho),
    by rw [k_f3]; exact (e55_1 ho).trans (of0_eq hW),
    by rw [k_f3]; exact (e55_2 ho).trans (of2_eq hW),
    by rw [k_f3]; exact (e55_3 ho),
    by rw [k_f3]; exact (e55_4 ho),
    by rw [k_f3]; exact (e55_5 ho).trans (by rw [b_20_12 hW, convI_of ⟨by omega, by omega⟩]; omega),
    by rw [k_f3]; exact (e55_6 ho)⟩
theorem e56_0 {w rd rs1 rs2 f7 : Int} (ho : decode_Opcode0 w = 115) : decode_parts__insn0 w rd 3 rs1 rs2 f7 = 56 := (s115_0 ho).trans (by kernel_rfl)
theorem e56_1 {w rd rs1 rs2 f7 : Int} (ho : decode_Opcode0 w = 115) : decode_parts__insn1 w rd 3 rs1 rs2 f7 = rd := (s115_1 ho).trans (by kernel_rfl)
theorem e56_2 {w rd rs1 rs2 f7 : Int} (ho : decode_Opcode0 w = 115) : decode_parts__insn2 w rd 3 rs1 rs2 f7 = rs1 := (s115_2 ho).trans (by kernel_rfl)
theorem e56_3 {w rd rs1 rs2 f7 : Int} (ho : decode_Opcode0 w = 115) : decode_parts__insn3 w rd 3 rs1 rs2 f7 = 0 := (s115_3 ho).trans (by kernel_rfl)
theorem e56_4 {w rd rs1 rs2 f7 : Int} (ho : decode_Opcode0 w = 115) : decode_parts__insn4 w rd 3 rs1 rs2 f7 = 0 := (s115_4 ho).trans (by kernel_rfl)
theorem e56_5 {w rd rs1 rs2 f7 : Int} (ho : decode_Opcode0 w = 115) : decode_parts__insn5 w rd 3 rs1 rs2 f7 = iConv .i64 (word_Bits0 (iConv IntKind.u64 w) 20 12) := (s115_5 ho).trans (by kernel_rfl)
theorem e56_6 {w rd rs1 rs2 f7 : Int} (ho : decode_Opcode0 w = 115) : decode_parts__insn6 w rd 3 rs1 rs2 f7 = true := (s115_6 ho).trans (by kernel_rfl)
theorem ins56 {w : Int} (hW : W32 w) (hq : w % 128 = 115) (h3 : w / 4096 % 8 = 3) : InsT w 56 (w / 128 % 32) (w / 32768 % 32) (0) (0) (w / 1048576) := by
  have ho : decode_Opcode0 w = 115 := (opc_eq hW).trans hq
  have hw := hW
  unfold W32 at hw
  have k_f3 : decode_of1 w = 3 := (of1_eq hW).trans h3
  exact ⟨by rw [k_f3]; exact (e56_0 ho),
    by rw [k_f3]; exact (e56_1 ho).trans (of0_eq hW),
    by rw [k_f3]; exact (e56_2 ho).trans (of2_eq hW),
    by rw [k_f3]; exact (e56_3 ho),
    by rw [k_f3]; exact (e56_4 ho),
    by rw [k_f3]; exact (e56_5 ho).trans (by rw [b_20_12 hW, convI_of ⟨by omega, by omega⟩]; omega),
    by rw [k_f3]; exact (e56_6 ho)⟩
theorem e57_0 {w rd rs1 rs2 f7 : Int} (ho : decode_Opcode0 w = 115) : decode_parts__insn0 w rd 5 rs1 rs2 f7 = 57 := (s115_0 ho).trans (by kernel_rfl)
theorem e57_1 {w rd rs1 rs2 f7 : Int} (ho : decode_Opcode0 w = 115) : decode_parts__insn1 w rd 5 rs1 rs2 f7 = rd := (s115_1 ho).trans (by kernel_rfl)
theorem e57_2 {w rd rs1 rs2 f7 : Int} (ho : decode_Opcode0 w = 115) : decode_parts__insn2 w rd 5 rs1 rs2 f7 = 0 := (s115_2 ho).trans (by kernel_rfl)
theorem e57_3 {w rd rs1 rs2 f7 : Int} (ho : decode_Opcode0 w = 115) : decode_parts__insn3 w rd 5 rs1 rs2 f7 = 0 := (s115_3 ho).trans (by kernel_rfl)
theorem e57_4 {w rd rs1 rs2 f7 : Int} (ho : decode_Opcode0 w = 115) : decode_parts__insn4 w rd 5 rs1 rs2 f7 = rs1 := (s115_4 ho).trans (by kernel_rfl)
theorem e57_5 {w rd rs1 rs2 f7 : Int} (ho : decode_Opcode0 w = 115) : decode_parts__insn5 w rd 5 rs1 rs2 f7 = iConv .i64 (word_Bits0 (iConv IntKind.u64 w) 20 12) := (s115_5 ho).trans (by kernel_rfl)
theorem e57_6 {w rd rs1 rs2 f7 : Int} (ho : decode_Opcode0 w = 115) : decode_parts__insn6 w rd 5 rs1 rs2 f7 = true := (s115_6 ho).trans (by kernel_rfl)
theorem ins57 {w : Int} (hW : W32 w) (hq : w % 128 = 115) (h3 : w / 4096 % 8 = 5) : InsT w 57 (w / 128 % 32) (0) (0) (w / 32768 % 32) (w / 1048576) := by
  have ho : decode_Opcode0 w = 115 := (opc_eq hW).trans hq
  have hw := hW
  unfold W32 at hw
  have k_f3 : decode_of1 w = 5 := (of1_eq hW).trans h3
  exact ⟨by rw [k_f3]; exact (e57_0 ho),
    by rw [k_f3]; exact (e57_1 ho).trans (of0_eq hW),
    by rw [k_f3]; exact (e57_2 ho),
    by rw [k_f3]; exact (e57_3 ho),
    by rw [k_f3]; exact (e57_4 ho).trans (of2_eq hW),
    by rw [k_f3]; exact (e57_5 ho).trans (by rw [b_20_12 hW, convI_of ⟨by omega, by omega⟩]; omega),
    by rw [k_f3]; exact (e57_6 ho)⟩
theorem e58_0 {w rd rs1 rs2 f7 : Int} (ho : decode_Opcode0 w = 115) : decode_parts__insn0 w rd 6 rs1 rs2 f7 = 58 := (s115_0 ho).trans (by kernel_rfl)
theorem e58_1 {w rd rs1 rs2 f7 : Int} (ho : decode_Opcode0 w = 115) : decode_parts__insn1 w rd 6 rs1 rs2 f7 = rd := (s115_1 ho).trans (by kernel_rfl)
theorem e58_2 {w rd rs1 rs2 f7 : Int} (ho : decode_Opcode0 w = 115) : decode_parts__insn2 w rd 6 rs1 rs2 f7 = 0 := (s115_2 ho).trans (by kernel_rfl)
theorem e58_3 {w rd rs1 rs2 f7 : Int} (ho : decode_Opcode0 w = 115) : decode_parts__insn3 w rd 6 rs1 rs2 f7 = 0 := (s115_3 ho).trans (by kernel_rfl)
theorem e58_4 {w rd rs1 rs2 f7 : Int} (ho : decode_Opcode0 w = 115) : decode_parts__insn4 w rd 6 rs1 rs2 f7 = rs1 := (s115_4 ho).trans (by kernel_rfl)
theorem e58_5 {w rd rs1 rs2 f7 : Int} (ho : decode_Opcode0 w = 115) : decode_parts__insn5 w rd 6 rs1 rs2 f7 = iConv .i64 (word_Bits0 (iConv IntKind.u64 w) 20 12) := (s115_5 ho).trans (by kernel_rfl)
theorem e58_6 {w rd rs1 rs2 f7 : Int} (ho : decode_Opcode0 w = 115) : decode_parts__insn6 w rd 6 rs1 rs2 f7 = true := (s115_6 ho).trans (by kernel_rfl)
theorem ins58 {w : Int} (hW : W32 w) (hq : w % 128 = 115) (h3 : w / 4096 % 8 = 6) : InsT w 58 (w / 128 % 32) (0) (0) (w / 32768 % 32) (w / 1048576) := by
  have ho : decode_Opcode0 w = 115 := (opc_eq hW).trans hq
  have hw := hW
  unfold W32 at hw
  have k_f3 : decode_of1 w = 6 := (of1_eq hW).trans h3
  exact ⟨by rw [k_f3]; exact (e58_0 ho),
    by rw [k_f3]; exact (e58_1 ho).trans (of0_eq hW),
    by rw [k_f3]; exact (e58_2 ho),
    by rw [k_f3]; exact (e58_3 ho),
    by rw [k_f3]; exact (e58_4 ho).trans (of2_eq hW),
    by rw [k_f3]; exact (e58_5 ho).trans (by rw [b_20_12 hW, convI_of ⟨by omega, by omega⟩]; omega),
    by rw [k_f3]; exact (e58_6 ho)⟩
theorem e59_0 {w rd rs1 rs2 f7 : Int} (ho : decode_Opcode0 w = 115) : decode_parts__insn0 w rd 7 rs1 rs2 f7 = 59 := (s115_0 ho).trans (by kernel_rfl)
theorem e59_1 {w rd rs1 rs2 f7 : Int} (ho : decode_Opcode0 w = 115) : decode_parts__insn1 w rd 7 rs1 rs2 f7 = rd := (s115_1 ho).trans (by kernel_rfl)
theorem e59_2 {w rd rs1 rs2 f7 : Int} (ho : decode_Opcode0 w = 115) : decode_parts__insn2 w rd 7 rs1 rs2 f7 = 0 := (s115_2 ho).trans (by kernel_rfl)
theorem e59_3 {w rd rs1 rs2 f7 : Int} (ho : decode_Opcode0 w = 115) : decode_parts__insn3 w rd 7 rs1 rs2 f7 = 0 := (s115_3 ho).trans (by kernel_rfl)
theorem e59_4 {w rd rs1 rs2 f7 : Int} (ho : decode_Opcode0 w = 115) : decode_parts__insn4 w rd 7 rs1 rs2 f7 = rs1 := (s115_4 ho).trans (by kernel_rfl)
theorem e59_5 {w rd rs1 rs2 f7 : Int} (ho : decode_Opcode0 w = 115) : decode_parts__insn5 w rd 7 rs1 rs2 f7 = iConv .i64 (word_Bits0 (iConv IntKind.u64 w) 20 12) := (s115_5 ho).trans (by kernel_rfl)
theorem e59_6 {w rd rs1 rs2 f7 : Int} (ho : decode_Opcode0 w = 115) : decode_parts__insn6 w rd 7 rs1 rs2 f7 = true := (s115_6 ho).trans (by kernel_rfl)
theorem ins59 {w : Int} (hW : W32 w) (hq : w % 128 = 115) (h3 : w / 4096 % 8 = 7) : InsT w 59 (w / 128 % 32) (0) (0) (w / 32768 % 32) (w / 1048576) := by
  have ho : decode_Opcode0 w = 115 := (opc_eq hW).trans hq
  have hw := hW
  unfold W32 at hw
  have k_f3 : decode_of1 w = 7 := (of1_eq hW).trans h3
  exact ⟨by rw [k_f3]; exact (e59_0 ho),
    by rw [k_f3]; exact (e59_1 ho).trans (of0_eq hW),
    by rw [k_f3]; exact (e59_2 ho),
    by rw [k_f3]; exact (e59_3 ho),
    by rw [k_f3]; exact (e59_4 ho).trans (of2_eq hW),
    by rw [k_f3]; exact (e59_5 ho).trans (by rw [b_20_12 hW, convI_of ⟨by omega, by omega⟩]; omega),
    by rw [k_f3]; exact (e59_6 ho)⟩
theorem ins60 : InsT 807403635 60 0 0 0 0 0 := ⟨by decide +kernel, by decide +kernel, by decide +kernel, by decide +kernel, by decide +kernel, by decide +kernel, by decide +kernel⟩
theorem ins61 : InsT 270532723 61 0 0 0 0 0 := ⟨by decide +kernel, by decide +kernel, by decide +kernel, by decide +kernel, by decide +kernel, by decide +kernel, by decide +kernel⟩
theorem ins62 : InsT 273678451 62 0 0 0 0 0 := ⟨by decide +kernel, by decide +kernel, by decide +kernel, by decide +kernel, by decide +kernel, by decide +kernel, by decide +kernel⟩
theorem e63_0 {w rs1 rs2 : Int} (ho : decode_Opcode0 w = 115) : decode_parts__insn0 w 0 0 rs1 rs2 9 = 63 := (s115_0 ho).trans (by kernel_rfl)
theorem e63_1 {w rs1 rs2 : Int} (ho : decode_Opcode0 w = 115) : decode_parts__insn1 w 0 0 rs1 rs2 9 = 0 := (s115_1 ho).trans (by kernel_rfl)
theorem e63_2 {w rs1 rs2 : Int} (ho : decode_Opcode0 w = 115) : decode_parts__insn2 w 0 0 rs1 rs2 9 = rs1 := (s115_2 ho).trans (by kernel_rfl)
theorem e63_3 {w rs1 rs2 : Int} (ho : decode_Opcode0 w = 115) : decode_parts__insn3 w 0 0 rs1 rs2 9 = rs2 := (s115_3 ho).trans (by kernel_rfl)
theorem e63_4 {w rs1 rs2 : Int} (ho : decode_Opcode0 w = 115) : decode_parts__insn4 w 0 0 rs1 rs2 9 = 0 := (s115_4 ho).trans (by kernel_rfl)
theorem e63_5 {w rs1 rs2 : Int} (ho : decode_Opcode0 w = 115) : decode_parts__insn5 w 0 0 rs1 rs2 9 = 0 := (s115_5 ho).trans (by kernel_rfl)
theorem e63_6 {w rs1 rs2 : Int} (ho : decode_Opcode0 w = 115) : decode_parts__insn6 w 0 0 rs1 rs2 9 = true := (s115_6 ho).trans (by kernel_rfl)
theorem ins63 {w : Int} (hW : W32 w) (hq : w % 128 = 115) (h3 : w / 4096 % 8 = 0) (h7 : w / 33554432 % 128 = 9) (hd : w / 128 % 32 = 0) : InsT w 63 (0) (w / 32768 % 32) (w / 1048576 % 32) (0) (0) := by
  have ho : decode_Opcode0 w = 115 := (opc_eq hW).trans hq
  have hw := hW
  unfold W32 at hw
  have k_rd : decode_of0 w = 0 := (of0_eq hW).trans hd
  have k_f3 : decode_of1 w = 0 := (of1_eq hW).trans h3
  have k_f7 : decode_of4 w = 9 := (of4_eq hW).trans h7
  exact ⟨by rw [k_rd, k_f3, k_f7]; exact (e63_0 ho),
    by rw [k_rd, k_f3, k_f7]; exact (e63_1 ho),
    by rw [k_rd, k_f3, k_f7]; exact (e63_2 ho).trans (of2_eq hW),
    by rw [k_rd, k_f3, k_f7]; exact (e63_3 ho).trans (of3_eq hW),
    by rw [k_rd, k_f3, k_f7]; exact (e63_4 ho),
    by rw [k_rd, k_f3, k_f7]; exact (e63_5 ho),
    by rw [k_rd, k_f3, k_f7]; exact (e63_6 ho)⟩
theorem e64_0 {w rs1 rs2 : Int} (ho : decode_Opcode0 w = 115) : decode_parts__insn0 w 0 0 rs1 rs2 17 = 64 := (s115_0 ho).trans (by kernel_rfl)
theorem e64_1 {w rs1 rs2 : Int} (ho : decode_Opcode0 w = 115) : decode_parts__insn1 w 0 0 rs1 rs2 17 = 0 := (s115_1 ho).trans (by kernel_rfl)
theorem e64_2 {w rs1 rs2 : Int} (ho : decode_Opcode0 w = 115) : decode_parts__insn2 w 0 0 rs1 rs2 17 = rs1 := (s115_2 ho).trans (by kernel_rfl)
theorem e64_3 {w rs1 rs2 : Int} (ho : decode_Opcode0 w = 115) : decode_parts__insn3 w 0 0 rs1 rs2 17 = rs2 := (s115_3 ho).trans (by kernel_rfl)
theorem e64_4 {w rs1 rs2 : Int} (ho : decode_Opcode0 w = 115) : decode_parts__insn4 w 0 0 rs1 rs2 17 = 0 := (s115_4 ho).trans (by kernel_rfl)
theorem e64_5 {w rs1 rs2 : Int} (ho : decode_Opcode0 w = 115) : decode_parts__insn5 w 0 0 rs1 rs2 17 = 0 := (s115_5 ho).trans (by kernel_rfl)
theorem e64_6 {w rs1 rs2 : Int} (ho : decode_Opcode0 w = 115) : decode_parts__insn6 w 0 0 rs1 rs2 17 = true := (s115_6 ho).trans (by kernel_rfl)
theorem ins64 {w : Int} (hW : W32 w) (hq : w % 128 = 115) (h3 : w / 4096 % 8 = 0) (h7 : w / 33554432 % 128 = 17) (hd : w / 128 % 32 = 0) : InsT w 64 (0) (w / 32768 % 32) (w / 1048576 % 32) (0) (0) := by
  have ho : decode_Opcode0 w = 115 := (opc_eq hW).trans hq
  have hw := hW
  unfold W32 at hw
  have k_rd : decode_of0 w = 0 := (of0_eq hW).trans hd
  have k_f3 : decode_of1 w = 0 := (of1_eq hW).trans h3
  have k_f7 : decode_of4 w = 17 := (of4_eq hW).trans h7
  exact ⟨by rw [k_rd, k_f3, k_f7]; exact (e64_0 ho),
    by rw [k_rd, k_f3, k_f7]; exact (e64_1 ho),
    by rw [k_rd, k_f3, k_f7]; exact (e64_2 ho).trans (of2_eq hW),
    by rw [k_rd, k_f3, k_f7]; exact (e64_3 ho).trans (of3_eq hW),
    by rw [k_rd, k_f3, k_f7]; exact (e64_4 ho),
    by rw [k_rd, k_f3, k_f7]; exact (e64_5 ho),
    by rw [k_rd, k_f3, k_f7]; exact (e64_6 ho)⟩
theorem e65_0 {w rs1 rs2 : Int} (ho : decode_Opcode0 w = 115) : decode_parts__insn0 w 0 0 rs1 rs2 49 = 65 := (s115_0 ho).trans (by kernel_rfl)
theorem e65_1 {w rs1 rs2 : Int} (ho : decode_Opcode0 w = 115) : decode_parts__insn1 w 0 0 rs1 rs2 49 = 0 := (s115_1 ho).trans (by kernel_rfl)
theorem e65_2 {w rs1 rs2 : Int} (ho : decode_Opcode0 w = 115) : decode_parts__insn2 w 0 0 rs1 rs2 49 = rs1 := (s115_2 ho).trans (by kernel_rfl)
theorem e65_3 {w rs1 rs2 : Int} (ho : decode_Opcode0 w = 115) : decode_parts__insn3 w 0 0 rs1 rs2 49 = rs2 := (s115_3 ho).trans (by kernel_rfl)
theorem e65_4 {w rs1 rs2 : Int} (ho : decode_Opcode0 w = 115) : decode_parts__insn4 w 0 0 rs1 rs2 49 = 0 := (s115_4 ho).trans (by kernel_rfl)
theorem e65_5 {w rs1 rs2 : Int} (ho : decode_Opcode0 w = 115) : decode_parts__insn5 w 0 0 rs1 rs2 49 = 0 := (s115_5 ho).trans (by kernel_rfl)
theorem e65_6 {w rs1 rs2 : Int} (ho : decode_Opcode0 w = 115) : decode_parts__insn6 w 0 0 rs1 rs2 49 = true := (s115_6 ho).trans (by kernel_rfl)
theorem ins65 {w : Int} (hW : W32 w) (hq : w % 128 = 115) (h3 : w / 4096 % 8 = 0) (h7 : w / 33554432 % 128 = 49) (hd : w / 128 % 32 = 0) : InsT w 65 (0) (w / 32768 % 32) (w / 1048576 % 32) (0) (0) := by
  have ho : decode_Opcode0 w = 115 := (opc_eq hW).trans hq
  have hw := hW
  unfold W32 at hw
  have k_rd : decode_of0 w = 0 := (of0_eq hW).trans hd
  have k_f3 : decode_of1 w = 0 := (of1_eq hW).trans h3
  have k_f7 : decode_of4 w = 49 := (of4_eq hW).trans h7
  exact ⟨by rw [k_rd, k_f3, k_f7]; exact (e65_0 ho),
    by rw [k_rd, k_f3, k_f7]; exact (e65_1 ho),
    by rw [k_rd, k_f3, k_f7]; exact (e65_2 ho).trans (of2_eq hW),
    by rw [k_rd, k_f3, k_f7]; exact (e65_3 ho).trans (of3_eq hW),
    by rw [k_rd, k_f3, k_f7]; exact (e65_4 ho),
    by rw [k_rd, k_f3, k_f7]; exact (e65_5 ho),
    by rw [k_rd, k_f3, k_f7]; exact (e65_6 ho)⟩
theorem e66_0 {w rd rs1 : Int} (ho : decode_Opcode0 w = 115) : decode_parts__insn0 w rd 4 rs1 0 52 = 66 := (s115_0 ho).trans (by kernel_rfl)
theorem e66_1 {w rd rs1 : Int} (ho : decode_Opcode0 w = 115) : decode_parts__insn1 w rd 4 rs1 0 52 = rd := (s115_1 ho).trans (by kernel_rfl)
theorem e66_2 {w rd rs1 : Int} (ho : decode_Opcode0 w = 115) : decode_parts__insn2 w rd 4 rs1 0 52 = rs1 := (s115_2 ho).trans (by kernel_rfl)
theorem e66_3 {w rd rs1 : Int} (ho : decode_Opcode0 w = 115) : decode_parts__insn3 w rd 4 rs1 0 52 = 0 := (s115_3 ho).trans (by kernel_rfl)
theorem e66_4 {w rd rs1 : Int} (ho : decode_Opcode0 w = 115) : decode_parts__insn4 w rd 4 rs1 0 52 = 0 := (s115_4 ho).trans (by kernel_rfl)
theorem e66_5 {w rd rs1 : Int} (ho : decode_Opcode0 w = 115) : decode_parts__insn5 w rd 4 rs1 0 52 = 0 := (s115_5 ho).trans (by kernel_rfl)
theorem e66_6 {w rd rs1 : Int} (ho : decode_Opcode0 w = 115) : decode_parts__insn6 w rd 4 rs1 0 52 = true := (s115_6 ho).trans (by kernel_rfl)
theorem ins66 {w : Int} (hW : W32 w) (hq : w % 128 = 115) (h3 : w / 4096 % 8 = 4) (h7 : w / 33554432 % 128 = 52) (h2 : w / 1048576 % 32 = 0) : InsT w 66 (w / 128 % 32) (w / 32768 % 32) (0) (0) (0) := by
  have ho : decode_Opcode0 w = 115 := (opc_eq hW).trans hq
  have hw := hW
  unfold W32 at hw
  have k_f3 : decode_of1 w = 4 := (of1_eq hW).trans h3
  have k_rs2 : decode_of3 w = 0 := (of3_eq hW).trans h2
  have k_f7 : decode_of4 w = 52 := (of4_eq hW).trans h7
  exact ⟨by rw [k_f3, k_rs2, k_f7]; exact (e66_0 ho),
    by rw [k_f3, k_rs2, k_f7]; exact (e66_1 ho).trans (of0_eq hW),
    by rw [k_f3, k_rs2, k_f7]; exact (e66_2 ho).trans (of2_eq hW),
    by rw [k_f3, k_rs2, k_f7]; exact (e66_3 ho),
    by rw [k_f3, k_rs2, k_f7]; exact (e66_4 ho),
    by rw [k_f3, k_rs2, k_f7]; exact (e66_5 ho),
    by rw [k_f3, k_rs2, k_f7]; exact (e66_6 ho)⟩
theorem e67_0 {w rd rs1 : Int} (ho : decode_Opcode0 w = 115) : decode_parts__insn0 w rd 4 rs1 0 54 = 67 := (s115_0 ho).trans (by kernel_rfl)
theorem e67_1 {w rd rs1 : Int} (ho : decode_Opcode0 w = 115) : decode_parts__insn1 w rd 4 rs1 0 54 = rd := (s115_1 ho).trans (by kernel_rfl)
theorem e67_2 {w rd rs1 : Int} (ho : decode_Opcode0 w = 115) : decode_parts__insn2 w rd 4 rs1 0 54 = rs1 := (s115_2 ho).trans (by kernel_rfl)
theorem e67_3 {w rd rs1 : Int} (ho : decode_Opcode0 w = 115) : decode_parts__insn3 w rd 4 rs1 0 54 = 0 := (s115_3 ho).trans (by kernel_rfl)
theorem e67_4 {w rd rs1 : Int} (ho : decode_Opcode0 w = 115) : decode_parts__insn4 w rd 4 rs1 0 54 = 0 := (s115_4 ho).trans (by kernel_rfl)
theorem e67_5 {w rd rs1 : Int} (ho : decode_Opcode0 w = 115) : decode_parts__insn5 w rd 4 rs1 0 54 = 0 := (s115_5 ho).trans (by kernel_rfl)
theorem e67_6 {w rd rs1 : Int} (ho : decode_Opcode0 w = 115) : decode_parts__insn6 w rd 4 rs1 0 54 = true := (s115_6 ho).trans (by kernel_rfl)
theorem ins67 {w : Int} (hW : W32 w) (hq : w % 128 = 115) (h3 : w / 4096 % 8 = 4) (h7 : w / 33554432 % 128 = 54) (h2 : w / 1048576 % 32 = 0) : InsT w 67 (w / 128 % 32) (w / 32768 % 32) (0) (0) (0) := by
  have ho : decode_Opcode0 w = 115 := (opc_eq hW).trans hq
  have hw := hW
  unfold W32 at hw
  have k_f3 : decode_of1 w = 4 := (of1_eq hW).trans h3
  have k_rs2 : decode_of3 w = 0 := (of3_eq hW).trans h2
  have k_f7 : decode_of4 w = 54 := (of4_eq hW).trans h7
  exact ⟨by rw [k_f3, k_rs2, k_f7]; exact (e67_0 ho),
    by rw [k_f3, k_rs2, k_f7]; exact (e67_1 ho).trans (of0_eq hW),
    by rw [k_f3, k_rs2, k_f7]; exact (e67_2 ho).trans (of2_eq hW),
    by rw [k_f3, k_rs2, k_f7]; exact (e67_3 ho),
    by rw [k_f3, k_rs2, k_f7]; exact (e67_4 ho),
    by rw [k_f3, k_rs2, k_f7]; exact (e67_5 ho),
    by rw [k_f3, k_rs2, k_f7]; exact (e67_6 ho)⟩
theorem e68_0 {w rd rs1 : Int} (ho : decode_Opcode0 w = 115) : decode_parts__insn0 w rd 4 rs1 3 52 = 68 := (s115_0 ho).trans (by kernel_rfl)
theorem e68_1 {w rd rs1 : Int} (ho : decode_Opcode0 w = 115) : decode_parts__insn1 w rd 4 rs1 3 52 = rd := (s115_1 ho).trans (by kernel_rfl)
theorem e68_2 {w rd rs1 : Int} (ho : decode_Opcode0 w = 115) : decode_parts__insn2 w rd 4 rs1 3 52 = rs1 := (s115_2 ho).trans (by kernel_rfl)
theorem e68_3 {w rd rs1 : Int} (ho : decode_Opcode0 w = 115) : decode_parts__insn3 w rd 4 rs1 3 52 = 0 := (s115_3 ho).trans (by kernel_rfl)
theorem e68_4 {w rd rs1 : Int} (ho : decode_Opcode0 w = 115) : decode_parts__insn4 w rd 4 rs1 3 52 = 0 := (s115_4 ho).trans (by kernel_rfl)
theorem e68_5 {w rd rs1 : Int} (ho : decode_Opcode0 w = 115) : decode_parts__insn5 w rd 4 rs1 3 52 = 0 := (s115_5 ho).trans (by kernel_rfl)
theorem e68_6 {w rd rs1 : Int} (ho : decode_Opcode0 w = 115) : decode_parts__insn6 w rd 4 rs1 3 52 = true := (s115_6 ho).trans (by kernel_rfl)
theorem ins68 {w : Int} (hW : W32 w) (hq : w % 128 = 115) (h3 : w / 4096 % 8 = 4) (h7 : w / 33554432 % 128 = 52) (h2 : w / 1048576 % 32 = 3) : InsT w 68 (w / 128 % 32) (w / 32768 % 32) (0) (0) (0) := by
  have ho : decode_Opcode0 w = 115 := (opc_eq hW).trans hq
  have hw := hW
  unfold W32 at hw
  have k_f3 : decode_of1 w = 4 := (of1_eq hW).trans h3
  have k_rs2 : decode_of3 w = 3 := (of3_eq hW).trans h2
  have k_f7 : decode_of4 w = 52 := (of4_eq hW).trans h7
  exact ⟨by rw [k_f3, k_rs2, k_f7]; exact (e68_0 ho),
    by rw [k_f3, k_rs2, k_f7]; exact (e68_1 ho).trans (of0_eq hW),
    by rw [k_f3, k_rs2, k_f7]; exact (e68_2 ho).trans (of2_eq hW),
    by rw [k_f3, k_rs2, k_f7]; exact (e68_3 ho),
    by rw [k_f3, k_rs2, k_f7]; exact (e68_4 ho),
    by rw [k_f3, k_rs2, k_f7]; exact (e68_5 ho),
    by rw [k_f3, k_rs2, k_f7]; exact (e68_6 ho)⟩
theorem e69_0 {w rs1 rs2 : Int} (ho : decode_Opcode0 w = 115) : decode_parts__insn0 w 0 4 rs1 rs2 55 = 69 := (s115_0 ho).trans (by kernel_rfl)
theorem e69_1 {w rs1 rs2 : Int} (ho : decode_Opcode0 w = 115) : decode_parts__insn1 w 0 4 rs1 rs2 55 = 0 := (s115_1 ho).trans (by kernel_rfl)
theorem e69_2 {w rs1 rs2 : Int} (ho : decode_Opcode0 w = 115) : decode_parts__insn2 w 0 4 rs1 rs2 55 = rs1 := (s115_2 ho).trans (by kernel_rfl)
theorem e69_3 {w rs1 rs2 : Int} (ho : decode_Opcode0 w = 115) : decode_parts__insn3 w 0 4 rs1 rs2 55 = rs2 := (s115_3 ho).trans (by kernel_rfl)
theorem e69_4 {w rs1 rs2 : Int} (ho : decode_Opcode0 w = 115) : decode_parts__insn4 w 0 4 rs1 rs2 55 = 0 := (s115_4 ho).trans (by kernel_rfl)
theorem e69_5 {w rs1 rs2 : Int} (ho : decode_Opcode0 w = 115) : decode_parts__insn5 w 0 4 rs1 rs2 55 = 0 := (s115_5 ho).trans (by kernel_rfl)
theorem e69_6 {w rs1 rs2 : Int} (ho : decode_Opcode0 w = 115) : decode_parts__insn6 w 0 4 rs1 rs2 55 = true := (s115_6 ho).trans (by kernel_rfl)
theorem ins69 {w : Int} (hW : W32 w) (hq : w % 128 = 115) (h3 : w / 4096 % 8 = 4) (h7 : w / 33554432 % 128 = 55) (hd : w / 128 % 32 = 0) : InsT w 69 (0) (w / 32768 % 32) (w / 1048576 % 32) (0) (0) := by
  have ho : decode_Opcode0 w = 115 := (opc_eq hW).trans hq
  have hw := hW
  unfold W32 at hw
  have k_rd : decode_of0 w = 0 := (of0_eq hW).trans hd
  have k_f3 : decode_of1 w = 4 := (of1_eq hW).trans h3
  have k_f7 : decode_of4 w = 55 := (of4_eq hW).trans h7
  exact ⟨by rw [k_rd, k_f3, k_f7]; exact (e69_0 ho),
    by rw [k_rd, k_f3, k_f7]; exact (e69_1 ho),
    by rw [k_rd, k_f3, k_f7]; exact (e69_2 ho).trans (of2_eq hW),
    by rw [k_rd, k_f3, k_f7]; exact (e69_3 ho).trans (of3_eq hW),
    by rw [k_rd, k_f3, k_f7]; exact (e69_4 ho),
    by rw [k_rd, k_f3, k_f7]; exact (e69_5 ho),
    by rw [k_rd, k_f3, k_f7]; exact (e69_6 ho)⟩
end Go.Proofs.YtngaeiceicgalaaDoor.PV
