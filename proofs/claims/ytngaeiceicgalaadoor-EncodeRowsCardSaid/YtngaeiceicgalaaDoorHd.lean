/-
  What the program reads in a word, by its opcode. Printed by a program of the prover's own (wip/prt/words3.py).
-/
import Derived.Test.YtngaeiceicgalaaDoorHc
import Derived.Test.YtngaeiceicgalaaDoorNa
set_option linter.unusedVariables false
set_option linter.unusedSimpArgs false
namespace Go.Proofs.YtngaeiceicgalaaDoor.PV
open Go Go.Ev

theorem q55_55 : iEq 55 55 = true := by decide
theorem q55_23 : iEq 55 23 = false := by decide
theorem q55_111 : iEq 55 111 = false := by decide
theorem q55_103 : iEq 55 103 = false := by decide
theorem q55_99 : iEq 55 99 = false := by decide
theorem q55_3 : iEq 55 3 = false := by decide
theorem q55_35 : iEq 55 35 = false := by decide
theorem q55_19 : iEq 55 19 = false := by decide
theorem q55_27 : iEq 55 27 = false := by decide
theorem q55_51 : iEq 55 51 = false := by decide
theorem q55_59 : iEq 55 59 = false := by decide
theorem q55_15 : iEq 55 15 = false := by decide
theorem q55_115 : iEq 55 115 = false := by decide
theorem q23_55 : iEq 23 55 = false := by decide
theorem q23_23 : iEq 23 23 = true := by decide
theorem q23_111 : iEq 23 111 = false := by decide
theorem q23_103 : iEq 23 103 = false := by decide
theorem q23_99 : iEq 23 99 = false := by decide
theorem q23_3 : iEq 23 3 = false := by decide
theorem q23_35 : iEq 23 35 = false := by decide
theorem q23_19 : iEq 23 19 = false := by decide
theorem q23_27 : iEq 23 27 = false := by decide
theorem q23_51 : iEq 23 51 = false := by decide
theorem q23_59 : iEq 23 59 = false := by decide
theorem q23_15 : iEq 23 15 = false := by decide
theorem q23_115 : iEq 23 115 = false := by decide
theorem q111_55 : iEq 111 55 = false := by decide
theorem q111_23 : iEq 111 23 = false := by decide
theorem q111_111 : iEq 111 111 = true := by decide
theorem q111_103 : iEq 111 103 = false := by decide
theorem q111_99 : iEq 111 99 = false := by decide
theorem q111_3 : iEq 111 3 = false := by decide
theorem q111_35 : iEq 111 35 = false := by decide
theorem q111_19 : iEq 111 19 = false := by decide
theorem q111_27 : iEq 111 27 = false := by decide
theorem q111_51 : iEq 111 51 = false := by decide
theorem q111_59 : iEq 111 59 = false := by decide
theorem q111_15 : iEq 111 15 = false := by decide
theorem q111_115 : iEq 111 115 = false := by decide
theorem q103_55 : iEq 103 55 = false := by decide
theorem q103_23 : iEq 103 23 = false := by decide
theorem q103_111 : iEq 103 111 = false := by decide
theorem q103_103 : iEq 103 103 = true := by decide
theorem q103_99 : iEq 103 99 = false := by decide
theorem q103_3 : iEq 103 3 = false := by decide
theorem q103_35 : iEq 103 35 = false := by decide
theorem q103_19 : iEq 103 19 = false := by decide
theorem q103_27 : iEq 103 27 = false := by decide
theorem q103_51 : iEq 103 51 = false := by decide
theorem q103_59 : iEq 103 59 = false := by decide
theorem q103_15 : iEq 103 15 = false := by decide
theorem q103_115 : iEq 103 115 = false := by decide
theorem q99_55 : iEq 99 55 = false := by decide
theorem q99_23 : iEq 99 23 = false := by decide
theorem q99_111 : iEq 99 111 = false := by decide
theorem q99_103 : iEq 99 103 = false := by decide
theorem q99_99 : iEq 99 99 = true := by decide
theorem q99_3 : iEq 99 3 = false := by decide
theorem q99_35 : iEq 99 35 = false := by decide
theorem q99_19 : iEq 99 19 = false := by decide
theorem q99_27 : iEq 99 27 = false := by decide
theorem q99_51 : iEq 99 51 = false := by decide
theorem q99_59 : iEq 99 59 = false := by decide
theorem q99_15 : iEq 99 15 = false := by decide
theorem q99_115 : iEq 99 115 = false := by decide
theorem q3_55 : iEq 3 55 = false := by decide
theorem q3_23 : iEq 3 23 = false := by decide
theorem q3_111 : iEq 3 111 = false := by decide
theorem q3_103 : iEq 3 103 = false := by decide
theorem q3_99 : iEq 3 99 = false := by decide
theorem q3_3 : iEq 3 3 = true := by decide
theorem q3_35 : iEq 3 35 = false := by decide
theorem q3_19 : iEq 3 19 = false := by decide
theorem q3_27 : iEq 3 27 = false := by decide
theorem q3_51 : iEq 3 51 = false := by decide
theorem q3_59 : iEq 3 59 = false := by decide
theorem q3_15 : iEq 3 15 = false := by decide
theorem q3_115 : iEq 3 115 = false := by decide
theorem q35_55 : iEq 35 55 = false := by decide
theorem q35_23 : iEq 35 23 = false := by decide
theorem q35_111 : iEq 35 111 = false := by decide
theorem q35_103 : iEq 35 103 = false := by decide
theorem q35_99 : iEq 35 99 = false := by decide
theorem q35_3 : iEq 35 3 = false := by decide
theorem q35_35 : iEq 35 35 = true := by decide
theorem q35_19 : iEq 35 19 = false := by decide
theorem q35_27 : iEq 35 27 = false := by decide
theorem q35_51 : iEq 35 51 = false := by decide
theorem q35_59 : iEq 35 59 = false := by decide
theorem q35_15 : iEq 35 15 = false := by decide
theorem q35_115 : iEq 35 115 = false := by decide
theorem q19_55 : iEq 19 55 = false := by decide
theorem q19_23 : iEq 19 23 = false := by decide
theorem q19_111 : iEq 19 111 = false := by decide
theorem q19_103 : iEq 19 103 = false := by decide
theorem q19_99 : iEq 19 99 = false := by decide
theorem q19_3 : iEq 19 3 = false := by decide
theorem q19_35 : iEq 19 35 = false := by decide
theorem q19_19 : iEq 19 19 = true := by decide
theorem q19_27 : iEq 19 27 = false := by decide
theorem q19_51 : iEq 19 51 = false := by decide
theorem q19_59 : iEq 19 59 = false := by decide
theorem q19_15 : iEq 19 15 = false := by decide
theorem q19_115 : iEq 19 115 = false := by decide
theorem q27_55 : iEq 27 55 = false := by decide
theorem q27_23 : iEq 27 23 = false := by decide
theorem q27_111 : iEq 27 111 = false := by decide
theorem q27_103 : iEq 27 103 = false := by decide
theorem q27_99 : iEq 27 99 = false := by decide
theorem q27_3 : iEq 27 3 = false := by decide
theorem q27_35 : iEq 27 35 = false := by decide
theorem q27_19 : iEq 27 19 = false := by decide
theorem q27_27 : iEq 27 27 = true := by decide
theorem q27_51 : iEq 27 51 = false := by decide
theorem q27_59 : iEq 27 59 = false := by decide
theorem q27_15 : iEq 27 15 = false := by decide
theorem q27_115 : iEq 27 115 = false := by decide
theorem q51_55 : iEq 51 55 = false := by decide
theorem q51_23 : iEq 51 23 = false := by decide
theorem q51_111 : iEq 51 111 = false := by decide
theorem q51_103 : iEq 51 103 = false := by decide
theorem q51_99 : iEq 51 99 = false := by decide
theorem q51_3 : iEq 51 3 = false := by decide
theorem q51_35 : iEq 51 35 = false := by decide
theorem q51_19 : iEq 51 19 = false := by decide
theorem q51_27 : iEq 51 27 = false := by decide
theorem q51_51 : iEq 51 51 = true := by decide
theorem q51_59 : iEq 51 59 = false := by decide
theorem q51_15 : iEq 51 15 = false := by decide
theorem q51_115 : iEq 51 115 = false := by decide
theorem q59_55 : iEq 59 55 = false := by decide
theorem q59_23 : iEq 59 23 = false := by decide
theorem q59_111 : iEq 59 111 = false := by decide
theorem q59_103 : iEq 59 103 = false := by decide
theorem q59_99 : iEq 59 99 = false := by decide
theorem q59_3 : iEq 59 3 = false := by decide
theorem q59_35 : iEq 59 35 = false := by decide
theorem q59_19 : iEq 59 19 = false := by decide
theorem q59_27 : iEq 59 27 = false := by decide
theorem q59_51 : iEq 59 51 = false := by decide
theorem q59_59 : iEq 59 59 = true := by decide
theorem q59_15 : iEq 59 15 = false := by decide
theorem q59_115 : iEq 59 115 = false := by decide
theorem q15_55 : iEq 15 55 = false := by decide
theorem q15_23 : iEq 15 23 = false := by decide
theorem q15_111 : iEq 15 111 = false := by decide
theorem q15_103 : iEq 15 103 = false := by decide
theorem q15_99 : iEq 15 99 = false := by decide
theorem q15_3 : iEq 15 3 = false := by decide
theorem q15_35 : iEq 15 35 = false := by decide
theorem q15_19 : iEq 15 19 = false := by decide
theorem q15_27 : iEq 15 27 = false := by decide
theorem q15_51 : iEq 15 51 = false := by decide
theorem q15_59 : iEq 15 59 = false := by decide
theorem q15_15 : iEq 15 15 = true := by decide
theorem q15_115 : iEq 15 115 = false := by decide
theorem q115_55 : iEq 115 55 = false := by decide
theorem q115_23 : iEq 115 23 = false := by decide
theorem q115_111 : iEq 115 111 = false := by decide
theorem q115_103 : iEq 115 103 = false := by decide
theorem q115_99 : iEq 115 99 = false := by decide
theorem q115_3 : iEq 115 3 = false := by decide
theorem q115_35 : iEq 115 35 = false := by decide
theorem q115_19 : iEq 115 19 = false := by decide
theorem q115_27 : iEq 115 27 = false := by decide
theorem q115_51 : iEq 115 51 = false := by decide
theorem q115_59 : iEq 115 59 = false := by decide
theorem q115_15 : iEq 115 15 = false := by decide
theorem q115_115 : iEq 115 115 = true := by decide
theorem s55_0 {w rd f3 rs1 rs2 f7 : Int} (ho : decode_Opcode0 w = 55) : decode_parts__insn0 w rd f3 rs1 rs2 f7 = 1 := by
  unfold decode_parts__insn0
  rw [ho, q55_55, cond_true]
theorem s55_1 {w rd f3 rs1 rs2 f7 : Int} (ho : decode_Opcode0 w = 55) : decode_parts__insn1 w rd f3 rs1 rs2 f7 = rd := by
  unfold decode_parts__insn1
  rw [ho, q55_55, cond_true]
theorem s55_2 {w rd f3 rs1 rs2 f7 : Int} (ho : decode_Opcode0 w = 55) : decode_parts__insn2 w rd f3 rs1 rs2 f7 = 0 := by
  unfold decode_parts__insn2
  rw [ho, q55_55, cond_true]
theorem s55_3 {w rd f3 rs1 rs2 f7 : Int} (ho : decode_Opcode0 w = 55) : decode_parts__insn3 w rd f3 rs1 rs2 f7 = 0 := by
  unfold decode_parts__insn3
  rw [ho, q55_55, cond_true]
theorem s55_4 {w rd f3 rs1 rs2 f7 : Int} (ho : decode_Opcode0 w = 55) : decode_parts__insn4 w rd f3 rs1 rs2 f7 = iConv IntKind.i64 (word_Sext0 (iShl IntKind.u64 (iOr IntKind.u64 0 (word_Bits0 (iConv IntKind.u64 w) 12 20)) 12) 32) := by
  unfold decode_parts__insn4
  rw [ho, q55_55, cond_true]
theorem s55_5 {w rd f3 rs1 rs2 f7 : Int} (ho : decode_Opcode0 w = 55) : decode_parts__insn5 w rd f3 rs1 rs2 f7 = 0 := by
  unfold decode_parts__insn5
  rw [ho, q55_55, cond_true]
theorem s55_6 {w rd f3 rs1 rs2 f7 : Int} (ho : decode_Opcode0 w = 55) : decode_parts__insn6 w rd f3 rs1 rs2 f7 = true := by
  unfold decode_parts__insn6
  rw [ho, q55_55, cond_true]
theorem s23_0 {w rd f3 rs1 rs2 f7 : Int} (ho : decode_Opcode0 w = 23) : decode_parts__insn0 w rd f3 rs1 rs2 f7 = 2 := by
  unfold decode_parts__insn0
  rw [ho, q23_55, cond_false, q23_23, cond_true]
theorem s23_1 {w rd f3 rs1 rs2 f7 : Int} (ho : decode_Opcode0 w = 23) : decode_parts__insn1 w rd f3 rs1 rs2 f7 = rd := by
  unfold decode_parts__insn1
  rw [ho, q23_55, cond_false, q23_23, cond_true]
theorem s23_2 {w rd f3 rs1 rs2 f7 : Int} (ho : decode_Opcode0 w = 23) : decode_parts__insn2 w rd f3 rs1 rs2 f7 = 0 := by
  unfold decode_parts__insn2
  rw [ho, q23_55, cond_false, q23_23, cond_true]
theorem s23_3 {w rd f3 rs1 rs2 f7 : Int} (ho : decode_Opcode0 w = 23) : decode_parts__insn3 w rd f3 rs1 rs2 f7 = 0 := by
  unfold decode_parts__insn3
  rw [ho, q23_55, cond_false, q23_23, cond_true]
theorem s23_4 {w rd f3 rs1 rs2 f7 : Int} (ho : decode_Opcode0 w = 23) : decode_parts__insn4 w rd f3 rs1 rs2 f7 = iConv IntKind.i64 (word_Sext0 (iShl IntKind.u64 (iOr IntKind.u64 0 (word_Bits0 (iConv IntKind.u64 w) 12 20)) 12) 32) := by
  unfold decode_parts__insn4
  rw [ho, q23_55, cond_false, q23_23, cond_true]
theorem s23_5 {w rd f3 rs1 rs2 f7 : Int} (ho : decode_Opcode0 w = 23) : decode_parts__insn5 w rd f3 rs1 rs2 f7 = 0 := by
  unfold decode_parts__insn5
  rw [ho, q23_55, cond_false, q23_23, cond_true]
theorem s23_6 {w rd f3 rs1 rs2 f7 : Int} (ho : decode_Opcode0 w = 23) : decode_parts__insn6 w rd f3 rs1 rs2 f7 = true := by
  unfold decode_parts__insn6
  rw [ho, q23_55, cond_false, q23_23, cond_true]
theorem s111_0 {w rd f3 rs1 rs2 f7 : Int} (ho : decode_Opcode0 w = 111) : decode_parts__insn0 w rd f3 rs1 rs2 f7 = 3 := by
  unfold decode_parts__insn0
  rw [ho, q111_55, cond_false, q111_23, cond_false, q111_111, cond_true]
theorem s111_1 {w rd f3 rs1 rs2 f7 : Int} (ho : decode_Opcode0 w = 111) : decode_parts__insn1 w rd f3 rs1 rs2 f7 = rd := by
  unfold decode_parts__insn1
  rw [ho, q111_55, cond_false, q111_23, cond_false, q111_111, cond_true]
theorem s111_2 {w rd f3 rs1 rs2 f7 : Int} (ho : decode_Opcode0 w = 111) : decode_parts__insn2 w rd f3 rs1 rs2 f7 = 0 := by
  unfold decode_parts__insn2
  rw [ho, q111_55, cond_false, q111_23, cond_false, q111_111, cond_true]
theorem s111_3 {w rd f3 rs1 rs2 f7 : Int} (ho : decode_Opcode0 w = 111) : decode_parts__insn3 w rd f3 rs1 rs2 f7 = 0 := by
  unfold decode_parts__insn3
  rw [ho, q111_55, cond_false, q111_23, cond_false, q111_111, cond_true]
theorem s111_4 {w rd f3 rs1 rs2 f7 : Int} (ho : decode_Opcode0 w = 111) : decode_parts__insn4 w rd f3 rs1 rs2 f7 = iConv IntKind.i64 (word_Sext0 (iShl IntKind.u64 (iOr IntKind.u64 (iShl IntKind.u64 (iOr IntKind.u64 (iShl IntKind.u64 (iOr IntKind.u64 (iShl IntKind.u64 (iOr IntKind.u64 0 (word_Bits0 (iConv IntKind.u64 w) 31 1)) 8) (word_Bits0 (iConv IntKind.u64 w) 12 8)) 1) (word_Bits0 (iConv IntKind.u64 w) 20 1)) 10) (word_Bits0 (iConv IntKind.u64 w) 21 10)) 1) 21) := by
  unfold decode_parts__insn4
  rw [ho, q111_55, cond_false, q111_23, cond_false, q111_111, cond_true]
theorem s111_5 {w rd f3 rs1 rs2 f7 : Int} (ho : decode_Opcode0 w = 111) : decode_parts__insn5 w rd f3 rs1 rs2 f7 = 0 := by
  unfold decode_parts__insn5
  rw [ho, q111_55, cond_false, q111_23, cond_false, q111_111, cond_true]
theorem s111_6 {w rd f3 rs1 rs2 f7 : Int} (ho : decode_Opcode0 w = 111) : decode_parts__insn6 w rd f3 rs1 rs2 f7 = true := by
  unfold decode_parts__insn6
  rw [ho, q111_55, cond_false, q111_23, cond_false, q111_111, cond_true]
theorem s103_0 {w rd f3 rs1 rs2 f7 : Int} (ho : decode_Opcode0 w = 103) : decode_parts__insn0 w rd f3 rs1 rs2 f7 = 4 := by
  unfold decode_parts__insn0
  rw [ho, q103_55, cond_false, q103_23, cond_false, q103_111, cond_false, q103_103, cond_true]
theorem s103_1 {w rd f3 rs1 rs2 f7 : Int} (ho : decode_Opcode0 w = 103) : decode_parts__insn1 w rd f3 rs1 rs2 f7 = rd := by
  unfold decode_parts__insn1
  rw [ho, q103_55, cond_false, q103_23, cond_false, q103_111, cond_false, q103_103, cond_true]
theorem s103_2 {w rd f3 rs1 rs2 f7 : Int} (ho : decode_Opcode0 w = 103) : decode_parts__insn2 w rd f3 rs1 rs2 f7 = rs1 := by
  unfold decode_parts__insn2
  rw [ho, q103_55, cond_false, q103_23, cond_false, q103_111, cond_false, q103_103, cond_true]
theorem s103_3 {w rd f3 rs1 rs2 f7 : Int} (ho : decode_Opcode0 w = 103) : decode_parts__insn3 w rd f3 rs1 rs2 f7 = 0 := by
  unfold decode_parts__insn3
  rw [ho, q103_55, cond_false, q103_23, cond_false, q103_111, cond_false, q103_103, cond_true]
theorem s103_4 {w rd f3 rs1 rs2 f7 : Int} (ho : decode_Opcode0 w = 103) : decode_parts__insn4 w rd f3 rs1 rs2 f7 = decode_parts__immediate0 w rd f3 rs1 rs2 f7 4 := by
  unfold decode_parts__insn4
  rw [ho, q103_55, cond_false, q103_23, cond_false, q103_111, cond_false, q103_103, cond_true]
theorem s103_5 {w rd f3 rs1 rs2 f7 : Int} (ho : decode_Opcode0 w = 103) : decode_parts__insn5 w rd f3 rs1 rs2 f7 = 0 := by
  unfold decode_parts__insn5
  rw [ho, q103_55, cond_false, q103_23, cond_false, q103_111, cond_false, q103_103, cond_true]
theorem s103_6 {w rd f3 rs1 rs2 f7 : Int} (ho : decode_Opcode0 w = 103) : decode_parts__insn6 w rd f3 rs1 rs2 f7 = iEq f3 0 := by
  unfold decode_parts__insn6
  rw [ho, q103_55, cond_false, q103_23, cond_false, q103_111, cond_false, q103_103, cond_true]
theorem s99_0 {w rd f3 rs1 rs2 f7 : Int} (ho : decode_Opcode0 w = 99) : decode_parts__insn0 w rd f3 rs1 rs2 f7 = decode_parts__insn_c1 w rd f3 rs1 rs2 f7 := by
  unfold decode_parts__insn0
  rw [ho, q99_55, cond_false, q99_23, cond_false, q99_111, cond_false, q99_103, cond_false, q99_99, cond_true]
theorem s99_1 {w rd f3 rs1 rs2 f7 : Int} (ho : decode_Opcode0 w = 99) : decode_parts__insn1 w rd f3 rs1 rs2 f7 = 0 := by
  unfold decode_parts__insn1
  rw [ho, q99_55, cond_false, q99_23, cond_false, q99_111, cond_false, q99_103, cond_false, q99_99, cond_true]
theorem s99_2 {w rd f3 rs1 rs2 f7 : Int} (ho : decode_Opcode0 w = 99) : decode_parts__insn2 w rd f3 rs1 rs2 f7 = rs1 := by
  unfold decode_parts__insn2
  rw [ho, q99_55, cond_false, q99_23, cond_false, q99_111, cond_false, q99_103, cond_false, q99_99, cond_true]
theorem s99_3 {w rd f3 rs1 rs2 f7 : Int} (ho : decode_Opcode0 w = 99) : decode_parts__insn3 w rd f3 rs1 rs2 f7 = rs2 := by
  unfold decode_parts__insn3
  rw [ho, q99_55, cond_false, q99_23, cond_false, q99_111, cond_false, q99_103, cond_false, q99_99, cond_true]
theorem s99_4 {w rd f3 rs1 rs2 f7 : Int} (ho : decode_Opcode0 w = 99) : decode_parts__insn4 w rd f3 rs1 rs2 f7 = iConv IntKind.i64 (word_Sext0 (iShl IntKind.u64 (iOr IntKind.u64 (iShl IntKind.u64 (iOr IntKind.u64 (iShl IntKind.u64 (iOr IntKind.u64 (iShl IntKind.u64 (iOr IntKind.u64 0 (word_Bits0 (iConv IntKind.u64 w) 31 1)) 1) (word_Bits0 (iConv IntKind.u64 w) 7 1)) 6) (word_Bits0 (iConv IntKind.u64 w) 25 6)) 4) (word_Bits0 (iConv IntKind.u64 w) 8 4)) 1) 13) := by
  unfold decode_parts__insn4
  rw [ho, q99_55, cond_false, q99_23, cond_false, q99_111, cond_false, q99_103, cond_false, q99_99, cond_true]
theorem s99_5 {w rd f3 rs1 rs2 f7 : Int} (ho : decode_Opcode0 w = 99) : decode_parts__insn5 w rd f3 rs1 rs2 f7 = 0 := by
  unfold decode_parts__insn5
  rw [ho, q99_55, cond_false, q99_23, cond_false, q99_111, cond_false, q99_103, cond_false, q99_99, cond_true]
theorem s99_6 {w rd f3 rs1 rs2 f7 : Int} (ho : decode_Opcode0 w = 99) : decode_parts__insn6 w rd f3 rs1 rs2 f7 = iNe (decode_parts__insn_c1 w rd f3 rs1 rs2 f7) 0 := by
  unfold decode_parts__insn6
  rw [ho, q99_55, cond_false, q99_23, cond_false, q99_111, cond_false, q99_103, cond_false, q99_99, cond_true]
theorem s3_0 {w rd f3 rs1 rs2 f7 : Int} (ho : decode_Opcode0 w = 3) : decode_parts__insn0 w rd f3 rs1 rs2 f7 = decode_parts__insn_c2 w rd f3 rs1 rs2 f7 := by
  unfold decode_parts__insn0
  rw [ho, q3_55, cond_false, q3_23, cond_false, q3_111, cond_false, q3_103, cond_false, q3_99, cond_false, q3_3, cond_true]
theorem s3_1 {w rd f3 rs1 rs2 f7 : Int} (ho : decode_Opcode0 w = 3) : decode_parts__insn1 w rd f3 rs1 rs2 f7 = rd := by
  unfold decode_parts__insn1
  rw [ho, q3_55, cond_false, q3_23, cond_false, q3_111, cond_false, q3_103, cond_false, q3_99, cond_false, q3_3, cond_true]
theorem s3_2 {w rd f3 rs1 rs2 f7 : Int} (ho : decode_Opcode0 w = 3) : decode_parts__insn2 w rd f3 rs1 rs2 f7 = rs1 := by
  unfold decode_parts__insn2
  rw [ho, q3_55, cond_false, q3_23, cond_false, q3_111, cond_false, q3_103, cond_false, q3_99, cond_false, q3_3, cond_true]
theorem s3_3 {w rd f3 rs1 rs2 f7 : Int} (ho : decode_Opcode0 w = 3) : decode_parts__insn3 w rd f3 rs1 rs2 f7 = 0 := by
  unfold decode_parts__insn3
  rw [ho, q3_55, cond_false, q3_23, cond_false, q3_111, cond_false, q3_103, cond_false, q3_99, cond_false, q3_3, cond_true]
theorem s3_4 {w rd f3 rs1 rs2 f7 : Int} (ho : decode_Opcode0 w = 3) : decode_parts__insn4 w rd f3 rs1 rs2 f7 = decode_parts__immediate0 w rd f3 rs1 rs2 f7 (decode_parts__insn_c2 w rd f3 rs1 rs2 f7) := by
  unfold decode_parts__insn4
  rw [ho, q3_55, cond_false, q3_23, cond_false, q3_111, cond_false, q3_103, cond_false, q3_99, cond_false, q3_3, cond_true]
theorem s3_5 {w rd f3 rs1 rs2 f7 : Int} (ho : decode_Opcode0 w = 3) : decode_parts__insn5 w rd f3 rs1 rs2 f7 = 0 := by
  unfold decode_parts__insn5
  rw [ho, q3_55, cond_false, q3_23, cond_false, q3_111, cond_false, q3_103, cond_false, q3_99, cond_false, q3_3, cond_true]
theorem s3_6 {w rd f3 rs1 rs2 f7 : Int} (ho : decode_Opcode0 w = 3) : decode_parts__insn6 w rd f3 rs1 rs2 f7 = iNe (decode_parts__insn_c2 w rd f3 rs1 rs2 f7) 0 := by
  unfold decode_parts__insn6
  rw [ho, q3_55, cond_false, q3_23, cond_false, q3_111, cond_false, q3_103, cond_false, q3_99, cond_false, q3_3, cond_true]
theorem s35_0 {w rd f3 rs1 rs2 f7 : Int} (ho : decode_Opcode0 w = 35) : decode_parts__insn0 w rd f3 rs1 rs2 f7 = decode_parts__insn_c3 w rd f3 rs1 rs2 f7 := by
  unfold decode_parts__insn0
  rw [ho, q35_55, cond_false, q35_23, cond_false, q35_111, cond_false, q35_103, cond_false, q35_99, cond_false, q35_3, cond_false, q35_35, cond_true]
theorem s35_1 {w rd f3 rs1 rs2 f7 : Int} (ho : decode_Opcode0 w = 35) : decode_parts__insn1 w rd f3 rs1 rs2 f7 = 0 := by
  unfold decode_parts__insn1
  rw [ho, q35_55, cond_false, q35_23, cond_false, q35_111, cond_false, q35_103, cond_false, q35_99, cond_false, q35_3, cond_false, q35_35, cond_true]
theorem s35_2 {w rd f3 rs1 rs2 f7 : Int} (ho : decode_Opcode0 w = 35) : decode_parts__insn2 w rd f3 rs1 rs2 f7 = rs1 := by
  unfold decode_parts__insn2
  rw [ho, q35_55, cond_false, q35_23, cond_false, q35_111, cond_false, q35_103, cond_false, q35_99, cond_false, q35_3, cond_false, q35_35, cond_true]
theorem s35_3 {w rd f3 rs1 rs2 f7 : Int} (ho : decode_Opcode0 w = 35) : decode_parts__insn3 w rd f3 rs1 rs2 f7 = rs2 := by
  unfold decode_parts__insn3
  rw [ho, q35_55, cond_false, q35_23, cond_false, q35_111, cond_false, q35_103, cond_false, q35_99, cond_false, q35_3, cond_false, q35_35, cond_true]
theorem s35_4 {w rd f3 rs1 rs2 f7 : Int} (ho : decode_Opcode0 w = 35) : decode_parts__insn4 w rd f3 rs1 rs2 f7 = iConv IntKind.i64 (word_Sext0 (iShl IntKind.u64 (iOr IntKind.u64 (iShl IntKind.u64 (iOr IntKind.u64 0 (word_Bits0 (iConv IntKind.u64 w) 25 7)) 5) (word_Bits0 (iConv IntKind.u64 w) 7 5)) 0) 12) := by
  unfold decode_parts__insn4
  rw [ho, q35_55, cond_false, q35_23, cond_false, q35_111, cond_false, q35_103, cond_false, q35_99, cond_false, q35_3, cond_false, q35_35, cond_true]
theorem s35_5 {w rd f3 rs1 rs2 f7 : Int} (ho : decode_Opcode0 w = 35) : decode_parts__insn5 w rd f3 rs1 rs2 f7 = 0 := by
  unfold decode_parts__insn5
  rw [ho, q35_55, cond_false, q35_23, cond_false, q35_111, cond_false, q35_103, cond_false, q35_99, cond_false, q35_3, cond_false, q35_35, cond_true]
theorem s35_6 {w rd f3 rs1 rs2 f7 : Int} (ho : decode_Opcode0 w = 35) : decode_parts__insn6 w rd f3 rs1 rs2 f7 = iNe (decode_parts__insn_c3 w rd f3 rs1 rs2 f7) 0 := by
  unfold decode_parts__insn6
  rw [ho, q35_55, cond_false, q35_23, cond_false, q35_111, cond_false, q35_103, cond_false, q35_99, cond_false, q35_3, cond_false, q35_35, cond_true]
theorem s19_0 {w rd f3 rs1 rs2 f7 : Int} (ho : decode_Opcode0 w = 19) : decode_parts__insn0 w rd f3 rs1 rs2 f7 = decode_parts__reckons0 w rd f3 rs1 rs2 f7 := by
  unfold decode_parts__insn0
  rw [ho, q19_55, cond_false, q19_23, cond_false, q19_111, cond_false, q19_103, cond_false, q19_99, cond_false, q19_3, cond_false, q19_35, cond_false, q19_19, cond_true]
theorem s19_1 {w rd f3 rs1 rs2 f7 : Int} (ho : decode_Opcode0 w = 19) : decode_parts__insn1 w rd f3 rs1 rs2 f7 = decode_parts__reckons1 w rd f3 rs1 rs2 f7 := by
  unfold decode_parts__insn1
  rw [ho, q19_55, cond_false, q19_23, cond_false, q19_111, cond_false, q19_103, cond_false, q19_99, cond_false, q19_3, cond_false, q19_35, cond_false, q19_19, cond_true]
theorem s19_2 {w rd f3 rs1 rs2 f7 : Int} (ho : decode_Opcode0 w = 19) : decode_parts__insn2 w rd f3 rs1 rs2 f7 = decode_parts__reckons2 w rd f3 rs1 rs2 f7 := by
  unfold decode_parts__insn2
  rw [ho, q19_55, cond_false, q19_23, cond_false, q19_111, cond_false, q19_103, cond_false, q19_99, cond_false, q19_3, cond_false, q19_35, cond_false, q19_19, cond_true]
theorem s19_3 {w rd f3 rs1 rs2 f7 : Int} (ho : decode_Opcode0 w = 19) : decode_parts__insn3 w rd f3 rs1 rs2 f7 = 0 := by
  unfold decode_parts__insn3
  rw [ho, q19_55, cond_false, q19_23, cond_false, q19_111, cond_false, q19_103, cond_false, q19_99, cond_false, q19_3, cond_false, q19_35, cond_false, q19_19, cond_true]
theorem s19_4 {w rd f3 rs1 rs2 f7 : Int} (ho : decode_Opcode0 w = 19) : decode_parts__insn4 w rd f3 rs1 rs2 f7 = decode_parts__reckons4 w rd f3 rs1 rs2 f7 := by
  unfold decode_parts__insn4
  rw [ho, q19_55, cond_false, q19_23, cond_false, q19_111, cond_false, q19_103, cond_false, q19_99, cond_false, q19_3, cond_false, q19_35, cond_false, q19_19, cond_true]
theorem s19_5 {w rd f3 rs1 rs2 f7 : Int} (ho : decode_Opcode0 w = 19) : decode_parts__insn5 w rd f3 rs1 rs2 f7 = 0 := by
  unfold decode_parts__insn5
  rw [ho, q19_55, cond_false, q19_23, cond_false, q19_111, cond_false, q19_103, cond_false, q19_99, cond_false, q19_3, cond_false, q19_35, cond_false, q19_19, cond_true]
theorem s19_6 {w rd f3 rs1 rs2 f7 : Int} (ho : decode_Opcode0 w = 19) : decode_parts__insn6 w rd f3 rs1 rs2 f7 = decode_parts__reckons6 w rd f3 rs1 rs2 f7 := by
  unfold decode_parts__insn6
  rw [ho, q19_55, cond_false, q19_23, cond_false, q19_111, cond_false, q19_103, cond_false, q19_99, cond_false, q19_3, cond_false, q19_35, cond_false, q19_19, cond_true]
theorem s27_0 {w rd f3 rs1 rs2 f7 : Int} (ho : decode_Opcode0 w = 27) : decode_parts__insn0 w rd f3 rs1 rs2 f7 = decode_parts__reckons0 w rd f3 rs1 rs2 f7 := by
  unfold decode_parts__insn0
  rw [ho, q27_55, cond_false, q27_23, cond_false, q27_111, cond_false, q27_103, cond_false, q27_99, cond_false, q27_3, cond_false, q27_35, cond_false, q27_19, cond_false, q27_27, cond_true]
theorem s27_1 {w rd f3 rs1 rs2 f7 : Int} (ho : decode_Opcode0 w = 27) : decode_parts__insn1 w rd f3 rs1 rs2 f7 = decode_parts__reckons1 w rd f3 rs1 rs2 f7 := by
  unfold decode_parts__insn1
  rw [ho, q27_55, cond_false, q27_23, cond_false, q27_111, cond_false, q27_103, cond_false, q27_99, cond_false, q27_3, cond_false, q27_35, cond_false, q27_19, cond_false, q27_27, cond_true]
theorem s27_2 {w rd f3 rs1 rs2 f7 : Int} (ho : decode_Opcode0 w = 27) : decode_parts__insn2 w rd f3 rs1 rs2 f7 = decode_parts__reckons2 w rd f3 rs1 rs2 f7 := by
  unfold decode_parts__insn2
  rw [ho, q27_55, cond_false, q27_23, cond_false, q27_111, cond_false, q27_103, cond_false, q27_99, cond_false, q27_3, cond_false, q27_35, cond_false, q27_19, cond_false, q27_27, cond_true]
theorem s27_3 {w rd f3 rs1 rs2 f7 : Int} (ho : decode_Opcode0 w = 27) : decode_parts__insn3 w rd f3 rs1 rs2 f7 = 0 := by
  unfold decode_parts__insn3
  rw [ho, q27_55, cond_false, q27_23, cond_false, q27_111, cond_false, q27_103, cond_false, q27_99, cond_false, q27_3, cond_false, q27_35, cond_false, q27_19, cond_false, q27_27, cond_true]
theorem s27_4 {w rd f3 rs1 rs2 f7 : Int} (ho : decode_Opcode0 w = 27) : decode_parts__insn4 w rd f3 rs1 rs2 f7 = decode_parts__reckons4 w rd f3 rs1 rs2 f7 := by
  unfold decode_parts__insn4
  rw [ho, q27_55, cond_false, q27_23, cond_false, q27_111, cond_false, q27_103, cond_false, q27_99, cond_false, q27_3, cond_false, q27_35, cond_false, q27_19, cond_false, q27_27, cond_true]
theorem s27_5 {w rd f3 rs1 rs2 f7 : Int} (ho : decode_Opcode0 w = 27) : decode_parts__insn5 w rd f3 rs1 rs2 f7 = 0 := by
  unfold decode_parts__insn5
  rw [ho, q27_55, cond_false, q27_23, cond_false, q27_111, cond_false, q27_103, cond_false, q27_99, cond_false, q27_3, cond_false, q27_35, cond_false, q27_19, cond_false, q27_27, cond_true]
theorem s27_6 {w rd f3 rs1 rs2 f7 : Int} (ho : decode_Opcode0 w = 27) : decode_parts__insn6 w rd f3 rs1 rs2 f7 = decode_parts__reckons6 w rd f3 rs1 rs2 f7 := by
  unfold decode_parts__insn6
  rw [ho, q27_55, cond_false, q27_23, cond_false, q27_111, cond_false, q27_103, cond_false, q27_99, cond_false, q27_3, cond_false, q27_35, cond_false, q27_19, cond_false, q27_27, cond_true]
theorem s51_0 {w rd f3 rs1 rs2 f7 : Int} (ho : decode_Opcode0 w = 51) : decode_parts__insn0 w rd f3 rs1 rs2 f7 = decode_parts__registers0 w rd f3 rs1 rs2 f7 := by
  unfold decode_parts__insn0
  rw [ho, q51_55, cond_false, q51_23, cond_false, q51_111, cond_false, q51_103, cond_false, q51_99, cond_false, q51_3, cond_false, q51_35, cond_false, q51_19, cond_false, q51_27, cond_false, q51_51, cond_true]
theorem s51_1 {w rd f3 rs1 rs2 f7 : Int} (ho : decode_Opcode0 w = 51) : decode_parts__insn1 w rd f3 rs1 rs2 f7 = rd := by
  unfold decode_parts__insn1
  rw [ho, q51_55, cond_false, q51_23, cond_false, q51_111, cond_false, q51_103, cond_false, q51_99, cond_false, q51_3, cond_false, q51_35, cond_false, q51_19, cond_false, q51_27, cond_false, q51_51, cond_true]
theorem s51_2 {w rd f3 rs1 rs2 f7 : Int} (ho : decode_Opcode0 w = 51) : decode_parts__insn2 w rd f3 rs1 rs2 f7 = rs1 := by
  unfold decode_parts__insn2
  rw [ho, q51_55, cond_false, q51_23, cond_false, q51_111, cond_false, q51_103, cond_false, q51_99, cond_false, q51_3, cond_false, q51_35, cond_false, q51_19, cond_false, q51_27, cond_false, q51_51, cond_true]
theorem s51_3 {w rd f3 rs1 rs2 f7 : Int} (ho : decode_Opcode0 w = 51) : decode_parts__insn3 w rd f3 rs1 rs2 f7 = rs2 := by
  unfold decode_parts__insn3
  rw [ho, q51_55, cond_false, q51_23, cond_false, q51_111, cond_false, q51_103, cond_false, q51_99, cond_false, q51_3, cond_false, q51_35, cond_false, q51_19, cond_false, q51_27, cond_false, q51_51, cond_true]
theorem s51_4 {w rd f3 rs1 rs2 f7 : Int} (ho : decode_Opcode0 w = 51) : decode_parts__insn4 w rd f3 rs1 rs2 f7 = 0 := by
  unfold decode_parts__insn4
  rw [ho, q51_55, cond_false, q51_23, cond_false, q51_111, cond_false, q51_103, cond_false, q51_99, cond_false, q51_3, cond_false, q51_35, cond_false, q51_19, cond_false, q51_27, cond_false, q51_51, cond_true]
theorem s51_5 {w rd f3 rs1 rs2 f7 : Int} (ho : decode_Opcode0 w = 51) : decode_parts__insn5 w rd f3 rs1 rs2 f7 = 0 := by
  unfold decode_parts__insn5
  rw [ho, q51_55, cond_false, q51_23, cond_false, q51_111, cond_false, q51_103, cond_false, q51_99, cond_false, q51_3, cond_false, q51_35, cond_false, q51_19, cond_false, q51_27, cond_false, q51_51, cond_true]
theorem s51_6 {w rd f3 rs1 rs2 f7 : Int} (ho : decode_Opcode0 w = 51) : decode_parts__insn6 w rd f3 rs1 rs2 f7 = decode_parts__registers6 w rd f3 rs1 rs2 f7 := by
  unfold decode_parts__insn6
  rw [ho, q51_55, cond_false, q51_23, cond_false, q51_111, cond_false, q51_103, cond_false, q51_99, cond_false, q51_3, cond_false, q51_35, cond_false, q51_19, cond_false, q51_27, cond_false, q51_51, cond_true]
theorem s59_0 {w rd f3 rs1 rs2 f7 : Int} (ho : decode_Opcode0 w = 59) : decode_parts__insn0 w rd f3 rs1 rs2 f7 = decode_parts__registers0 w rd f3 rs1 rs2 f7 := by
  unfold decode_parts__insn0
  rw [ho, q59_55, cond_false, q59_23, cond_false, q59_111, cond_false, q59_103, cond_false, q59_99, cond_false, q59_3, cond_false, q59_35, cond_false, q59_19, cond_false, q59_27, cond_false, q59_51, cond_false, decode_parts__insn_c4, ho, q59_59, cond_true]
theorem s59_1 {w rd f3 rs1 rs2 f7 : Int} (ho : decode_Opcode0 w = 59) : decode_parts__insn1 w rd f3 rs1 rs2 f7 = rd := by
  unfold decode_parts__insn1
  rw [ho, q59_55, cond_false, q59_23, cond_false, q59_111, cond_false, q59_103, cond_false, q59_99, cond_false, q59_3, cond_false, q59_35, cond_false, q59_19, cond_false, q59_27, cond_false, q59_51, cond_false, decode_parts__insn_c6, ho, q59_59, cond_true]
theorem s59_2 {w rd f3 rs1 rs2 f7 : Int} (ho : decode_Opcode0 w = 59) : decode_parts__insn2 w rd f3 rs1 rs2 f7 = rs1 := by
  unfold decode_parts__insn2
  rw [ho, q59_55, cond_false, q59_23, cond_false, q59_111, cond_false, q59_103, cond_false, q59_99, cond_false, q59_3, cond_false, q59_35, cond_false, q59_19, cond_false, q59_27, cond_false, q59_51, cond_false, decode_parts__insn_c8, ho, q59_59, cond_true]
theorem s59_3 {w rd f3 rs1 rs2 f7 : Int} (ho : decode_Opcode0 w = 59) : decode_parts__insn3 w rd f3 rs1 rs2 f7 = rs2 := by
  unfold decode_parts__insn3
  rw [ho, q59_55, cond_false, q59_23, cond_false, q59_111, cond_false, q59_103, cond_false, q59_99, cond_false, q59_3, cond_false, q59_35, cond_false, q59_19, cond_false, q59_27, cond_false, q59_51, cond_false, decode_parts__insn_c10, ho, q59_59, cond_true]
theorem s59_4 {w rd f3 rs1 rs2 f7 : Int} (ho : decode_Opcode0 w = 59) : decode_parts__insn4 w rd f3 rs1 rs2 f7 = 0 := by
  unfold decode_parts__insn4
  rw [ho, q59_55, cond_false, q59_23, cond_false, q59_111, cond_false, q59_103, cond_false, q59_99, cond_false, q59_3, cond_false, q59_35, cond_false, q59_19, cond_false, q59_27, cond_false, q59_51, cond_false, decode_parts__insn_c12, ho, q59_59, cond_true]
theorem s59_5 {w rd f3 rs1 rs2 f7 : Int} (ho : decode_Opcode0 w = 59) : decode_parts__insn5 w rd f3 rs1 rs2 f7 = 0 := by
  unfold decode_parts__insn5
  rw [ho, q59_55, cond_false, q59_23, cond_false, q59_111, cond_false, q59_103, cond_false, q59_99, cond_false, q59_3, cond_false, q59_35, cond_false, q59_19, cond_false, q59_27, cond_false, q59_51, cond_false, decode_parts__insn_c14, ho, q59_59, cond_true]
theorem s59_6 {w rd f3 rs1 rs2 f7 : Int} (ho : decode_Opcode0 w = 59) : decode_parts__insn6 w rd f3 rs1 rs2 f7 = decode_parts__registers6 w rd f3 rs1 rs2 f7 := by
  unfold decode_parts__insn6
  rw [ho, q59_55, cond_false, q59_23, cond_false, q59_111, cond_false, q59_103, cond_false, q59_99, cond_false, q59_3, cond_false, q59_35, cond_false, q59_19, cond_false, q59_27, cond_false, q59_51, cond_false, decode_parts__insn_c16, ho, q59_59, cond_true]
theorem s15_0 {w rd f3 rs1 rs2 f7 : Int} (ho : decode_Opcode0 w = 15) : decode_parts__insn0 w rd f3 rs1 rs2 f7 = decode_parts__fixed0 w rd f3 rs1 rs2 f7 := by
  unfold decode_parts__insn0
  rw [ho, q15_55, cond_false, q15_23, cond_false, q15_111, cond_false, q15_103, cond_false, q15_99, cond_false, q15_3, cond_false, q15_35, cond_false, q15_19, cond_false, q15_27, cond_false, q15_51, cond_false, decode_parts__insn_c4, ho, q15_59, cond_false, q15_15, cond_true]
theorem s15_1 {w rd f3 rs1 rs2 f7 : Int} (ho : decode_Opcode0 w = 15) : decode_parts__insn1 w rd f3 rs1 rs2 f7 = 0 := by
  unfold decode_parts__insn1
  rw [ho, q15_55, cond_false, q15_23, cond_false, q15_111, cond_false, q15_103, cond_false, q15_99, cond_false, q15_3, cond_false, q15_35, cond_false, q15_19, cond_false, q15_27, cond_false, q15_51, cond_false, decode_parts__insn_c6, ho, q15_59, cond_false, q15_15, cond_true]
theorem s15_2 {w rd f3 rs1 rs2 f7 : Int} (ho : decode_Opcode0 w = 15) : decode_parts__insn2 w rd f3 rs1 rs2 f7 = 0 := by
  unfold decode_parts__insn2
  rw [ho, q15_55, cond_false, q15_23, cond_false, q15_111, cond_false, q15_103, cond_false, q15_99, cond_false, q15_3, cond_false, q15_35, cond_false, q15_19, cond_false, q15_27, cond_false, q15_51, cond_false, decode_parts__insn_c8, ho, q15_59, cond_false, q15_15, cond_true]
theorem s15_3 {w rd f3 rs1 rs2 f7 : Int} (ho : decode_Opcode0 w = 15) : decode_parts__insn3 w rd f3 rs1 rs2 f7 = 0 := by
  unfold decode_parts__insn3
  rw [ho, q15_55, cond_false, q15_23, cond_false, q15_111, cond_false, q15_103, cond_false, q15_99, cond_false, q15_3, cond_false, q15_35, cond_false, q15_19, cond_false, q15_27, cond_false, q15_51, cond_false, decode_parts__insn_c10, ho, q15_59, cond_false, q15_15, cond_true]
theorem s15_4 {w rd f3 rs1 rs2 f7 : Int} (ho : decode_Opcode0 w = 15) : decode_parts__insn4 w rd f3 rs1 rs2 f7 = 0 := by
  unfold decode_parts__insn4
  rw [ho, q15_55, cond_false, q15_23, cond_false, q15_111, cond_false, q15_103, cond_false, q15_99, cond_false, q15_3, cond_false, q15_35, cond_false, q15_19, cond_false, q15_27, cond_false, q15_51, cond_false, decode_parts__insn_c12, ho, q15_59, cond_false, q15_15, cond_true]
theorem s15_5 {w rd f3 rs1 rs2 f7 : Int} (ho : decode_Opcode0 w = 15) : decode_parts__insn5 w rd f3 rs1 rs2 f7 = 0 := by
  unfold decode_parts__insn5
  rw [ho, q15_55, cond_false, q15_23, cond_false, q15_111, cond_false, q15_103, cond_false, q15_99, cond_false, q15_3, cond_false, q15_35, cond_false, q15_19, cond_false, q15_27, cond_false, q15_51, cond_false, decode_parts__insn_c14, ho, q15_59, cond_false, q15_15, cond_true]
theorem s15_6 {w rd f3 rs1 rs2 f7 : Int} (ho : decode_Opcode0 w = 15) : decode_parts__insn6 w rd f3 rs1 rs2 f7 = decode_parts__fixed1 w rd f3 rs1 rs2 f7 := by
  unfold decode_parts__insn6
  rw [ho, q15_55, cond_false, q15_23, cond_false, q15_111, cond_false, q15_103, cond_false, q15_99, cond_false, q15_3, cond_false, q15_35, cond_false, q15_19, cond_false, q15_27, cond_false, q15_51, cond_false, decode_parts__insn_c16, ho, q15_59, cond_false, q15_15, cond_true]
theorem s115_0 {w rd f3 rs1 rs2 f7 : Int} (ho : decode_Opcode0 w = 115) : decode_parts__insn0 w rd f3 rs1 rs2 f7 = decode_parts__system0 w rd f3 rs1 rs2 f7 := by
  unfold decode_parts__insn0
  rw [ho, q115_55, cond_false, q115_23, cond_false, q115_111, cond_false, q115_103, cond_false, q115_99, cond_false, q115_3, cond_false, q115_35, cond_false, q115_19, cond_false, q115_27, cond_false, q115_51, cond_false, decode_parts__insn_c4, ho, q115_59, cond_false, q115_15, cond_false, q115_115, cond_true]
theorem s115_1 {w rd f3 rs1 rs2 f7 : Int} (ho : decode_Opcode0 w = 115) : decode_parts__insn1 w rd f3 rs1 rs2 f7 = decode_parts__system1 w rd f3 rs1 rs2 f7 := by
  unfold decode_parts__insn1
  rw [ho, q115_55, cond_false, q115_23, cond_false, q115_111, cond_false, q115_103, cond_false, q115_99, cond_false, q115_3, cond_false, q115_35, cond_false, q115_19, cond_false, q115_27, cond_false, q115_51, cond_false, decode_parts__insn_c6, ho, q115_59, cond_false, q115_15, cond_false, q115_115, cond_true]
theorem s115_2 {w rd f3 rs1 rs2 f7 : Int} (ho : decode_Opcode0 w = 115) : decode_parts__insn2 w rd f3 rs1 rs2 f7 = decode_parts__system2 w rd f3 rs1 rs2 f7 := by
  unfold decode_parts__insn2
  rw [ho, q115_55, cond_false, q115_23, cond_false, q115_111, cond_false, q115_103, cond_false, q115_99, cond_false, q115_3, cond_false, q115_35, cond_false, q115_19, cond_false, q115_27, cond_false, q115_51, cond_false, decode_parts__insn_c8, ho, q115_59, cond_false, q115_15, cond_false, q115_115, cond_true]
theorem s115_3 {w rd f3 rs1 rs2 f7 : Int} (ho : decode_Opcode0 w = 115) : decode_parts__insn3 w rd f3 rs1 rs2 f7 = decode_parts__system3 w rd f3 rs1 rs2 f7 := by
  unfold decode_parts__insn3
  rw [ho, q115_55, cond_false, q115_23, cond_false, q115_111, cond_false, q115_103, cond_false, q115_99, cond_false, q115_3, cond_false, q115_35, cond_false, q115_19, cond_false, q115_27, cond_false, q115_51, cond_false, decode_parts__insn_c10, ho, q115_59, cond_false, q115_15, cond_false, q115_115, cond_true]
theorem s115_4 {w rd f3 rs1 rs2 f7 : Int} (ho : decode_Opcode0 w = 115) : decode_parts__insn4 w rd f3 rs1 rs2 f7 = decode_parts__system4 w rd f3 rs1 rs2 f7 := by
  unfold decode_parts__insn4
  rw [ho, q115_55, cond_false, q115_23, cond_false, q115_111, cond_false, q115_103, cond_false, q115_99, cond_false, q115_3, cond_false, q115_35, cond_false, q115_19, cond_false, q115_27, cond_false, q115_51, cond_false, decode_parts__insn_c12, ho, q115_59, cond_false, q115_15, cond_false, q115_115, cond_true]
theorem s115_5 {w rd f3 rs1 rs2 f7 : Int} (ho : decode_Opcode0 w = 115) : decode_parts__insn5 w rd f3 rs1 rs2 f7 = decode_parts__system5 w rd f3 rs1 rs2 f7 := by
  unfold decode_parts__insn5
  rw [ho, q115_55, cond_false, q115_23, cond_false, q115_111, cond_false, q115_103, cond_false, q115_99, cond_false, q115_3, cond_false, q115_35, cond_false, q115_19, cond_false, q115_27, cond_false, q115_51, cond_false, decode_parts__insn_c14, ho, q115_59, cond_false, q115_15, cond_false, q115_115, cond_true]
theorem s115_6 {w rd f3 rs1 rs2 f7 : Int} (ho : decode_Opcode0 w = 115) : decode_parts__insn6 w rd f3 rs1 rs2 f7 = decode_parts__system6 w rd f3 rs1 rs2 f7 := by
  unfold decode_parts__insn6
  rw [ho, q115_55, cond_false, q115_23, cond_false, q115_111, cond_false, q115_103, cond_false, q115_99, cond_false, q115_3, cond_false, q115_35, cond_false, q115_19, cond_false, q115_27, cond_false, q115_51, cond_false, decode_parts__insn_c16, ho, q115_59, cond_false, q115_15, cond_false, q115_115, cond_true]
end Go.Proofs.YtngaeiceicgalaaDoor.PV
