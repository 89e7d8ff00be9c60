/-
  The program's word of each operation is the document's. Printed by a program of the prover's own (wip/prt/words6.py).
-/
import Derived.Test.YtngaeiceicgalaaDoorHg
import Derived.Test.YtngaeiceicgalaaDoorGb
set_option linter.unusedVariables false
set_option linter.unusedSimpArgs false
set_option maxRecDepth 100000
namespace Go.Proofs.YtngaeiceicgalaaDoor.PV
open Go Go.Ev
theorem wrap_b32 (v : BitVec 32) : IntKind.u32.wrap (v.toNat : Int) = v.toNat := by rw [wrap32]; have := v.isLt; omega
theorem or_bv (x y : Int) : iOr .u32 x y = ((BitVec.ofInt 32 x ||| BitVec.ofInt 32 y).toNat : Int) := wrap_b32 _
theorem ofInt_nat32 (v : BitVec 32) : BitVec.ofInt 32 (v.toNat : Int) = v := by rw [BitVec.ofInt_natCast, BitVec.ofNat_toNat, BitVec.setWidth_eq]
theorem or_assoc32 (x y z : Int) : iOr .u32 (iOr .u32 x y) z = iOr .u32 x (iOr .u32 y z) := by
  rw [or_bv x y, or_bv y z, or_bv, or_bv, ofInt_nat32, ofInt_nat32, BitVec.or_assoc]
theorem or_comm32 (x y : Int) : iOr .u32 x y = iOr .u32 y x := by rw [or_bv, or_bv, BitVec.or_comm]
instance : Std.Associative (iOr .u32) := ⟨or_assoc32⟩
instance : Std.Commutative (iOr .u32) := ⟨or_comm32⟩
theorem orz1 (x y : Int) : iOr .u32 (iOr .u32 x 0) y = iOr .u32 x y := by
  rw [or_bv x 0, or_bv, or_bv, ofInt_nat32, show BitVec.ofInt 32 0 = 0#32 from rfl, BitVec.or_zero]
theorem orz2 (x y : Int) : iOr .u32 (iOr .u32 x y) 0 = iOr .u32 x y := by
  rw [or_bv x y, or_bv, ofInt_nat32, show BitVec.ofInt 32 0 = 0#32 from rfl, BitVec.or_zero]
theorem nb_20_1 (imm : Int) : iConv .u32 (word_Bits0 (iConv .u64 imm) 20 1) = (imm % 4294967296) / 1048576 % 2 := by
  have hv : iConv .u64 imm = imm % 18446744073709551616 := by unfold iConv; simp [IntKind.wrap, IntKind.bits, IntKind.signed]
  unfold word_Bits0
  rw [show word_part0 20 1 = 20 by decide +kernel, show word_mask0 (word_part1 20 1) = 1 by decide +kernel, hv, shr64 (x := imm % 18446744073709551616) 20 1048576 (by decide +kernel) (by decide),
    and64 (x := imm % 18446744073709551616 / 1048576) (m := 1) 1 2 (by decide +kernel) (by decide) (by decide) ⟨by omega, by omega⟩, conv32_of ⟨by omega, by omega⟩]
  omega
theorem rb_20_1 (imm : Int) : iAnd .u32 (iShr .u32 (iConv .u32 imm) 20) 1 = (imm % 4294967296) / 1048576 % 2 := by
  rw [conv32, shr32 (x := imm % 4294967296) 20 1048576 (by decide +kernel) (by decide), and32 (m := 1) 1 2 (by decide +kernel) (by decide) (by decide) ⟨by omega, by omega⟩]
  skip
theorem nb_12_8 (imm : Int) : iConv .u32 (word_Bits0 (iConv .u64 imm) 12 8) = (imm % 4294967296) / 4096 % 256 := by
  have hv : iConv .u64 imm = imm % 18446744073709551616 := by unfold iConv; simp [IntKind.wrap, IntKind.bits, IntKind.signed]
  unfold word_Bits0
  rw [show word_part0 12 8 = 12 by decide +kernel, show word_mask0 (word_part1 12 8) = 255 by decide +kernel, hv, shr64 (x := imm % 18446744073709551616) 12 4096 (by decide +kernel) (by decide),
    and64 (x := imm % 18446744073709551616 / 4096) (m := 255) 8 256 (by decide +kernel) (by decide) (by decide) ⟨by omega, by omega⟩, conv32_of ⟨by omega, by omega⟩]
  omega
theorem rb_12_8 (imm : Int) : iAnd .u32 (iShr .u32 (iConv .u32 imm) 12) 255 = (imm % 4294967296) / 4096 % 256 := by
  rw [conv32, shr32 (x := imm % 4294967296) 12 4096 (by decide +kernel) (by decide), and32 (m := 255) 8 256 (by decide +kernel) (by decide) (by decide) ⟨by omega, by omega⟩]
  skip
theorem nb_11_1 (imm : Int) : iConv .u32 (word_Bits0 (iConv .u64 imm) 11 1) = (imm % 4294967296) / 2048 % 2 := by
  have hv : iConv .u64 imm = imm % 18446744073709551616 := by unfold iConv; simp [IntKind.wrap, IntKind.bits, IntKind.signed]
  unfold word_Bits0
  rw [show word_part0 11 1 = 11 by decide +kernel, show word_mask0 (word_part1 11 1) = 1 by decide +kernel, hv, shr64 (x := imm % 18446744073709551616) 11 2048 (by decide +kernel) (by decide),
    and64 (x := imm % 18446744073709551616 / 2048) (m := 1) 1 2 (by decide +kernel) (by decide) (by decide) ⟨by omega, by omega⟩, conv32_of ⟨by omega, by omega⟩]
  omega
theorem rb_11_1 (imm : Int) : iAnd .u32 (iShr .u32 (iConv .u32 imm) 11) 1 = (imm % 4294967296) / 2048 % 2 := by
  rw [conv32, shr32 (x := imm % 4294967296) 11 2048 (by decide +kernel) (by decide), and32 (m := 1) 1 2 (by decide +kernel) (by decide) (by decide) ⟨by omega, by omega⟩]
  skip
theorem nb_1_10 (imm : Int) : iConv .u32 (word_Bits0 (iConv .u64 imm) 1 10) = (imm % 4294967296) / 2 % 1024 := by
  have hv : iConv .u64 imm = imm % 18446744073709551616 := by unfold iConv; simp [IntKind.wrap, IntKind.bits, IntKind.signed]
  unfold word_Bits0
  rw [show word_part0 1 10 = 1 by decide +kernel, show word_mask0 (word_part1 1 10) = 1023 by decide +kernel, hv, shr64 (x := imm % 18446744073709551616) 1 2 (by decide +kernel) (by decide),
    and64 (x := imm % 18446744073709551616 / 2) (m := 1023) 10 1024 (by decide +kernel) (by decide) (by decide) ⟨by omega, by omega⟩, conv32_of ⟨by omega, by omega⟩]
  omega
theorem rb_1_10 (imm : Int) : iAnd .u32 (iShr .u32 (iConv .u32 imm) 1) 1023 = (imm % 4294967296) / 2 % 1024 := by
  rw [conv32, shr32 (x := imm % 4294967296) 1 2 (by decide +kernel) (by decide), and32 (m := 1023) 10 1024 (by decide +kernel) (by decide) (by decide) ⟨by omega, by omega⟩]
  skip
theorem nb_12_1 (imm : Int) : iConv .u32 (word_Bits0 (iConv .u64 imm) 12 1) = (imm % 4294967296) / 4096 % 2 := by
  have hv : iConv .u64 imm = imm % 18446744073709551616 := by unfold iConv; simp [IntKind.wrap, IntKind.bits, IntKind.signed]
  unfold word_Bits0
  rw [show word_part0 12 1 = 12 by decide +kernel, show word_mask0 (word_part1 12 1) = 1 by decide +kernel, hv, shr64 (x := imm % 18446744073709551616) 12 4096 (by decide +kernel) (by decide),
    and64 (x := imm % 18446744073709551616 / 4096) (m := 1) 1 2 (by decide +kernel) (by decide) (by decide) ⟨by omega, by omega⟩, conv32_of ⟨by omega, by omega⟩]
  omega
theorem rb_12_1 (imm : Int) : iAnd .u32 (iShr .u32 (iConv .u32 imm) 12) 1 = (imm % 4294967296) / 4096 % 2 := by
  rw [conv32, shr32 (x := imm % 4294967296) 12 4096 (by decide +kernel) (by decide), and32 (m := 1) 1 2 (by decide +kernel) (by decide) (by decide) ⟨by omega, by omega⟩]
  skip
theorem nb_5_6 (imm : Int) : iConv .u32 (word_Bits0 (iConv .u64 imm) 5 6) = (imm % 4294967296) / 32 % 64 := by
  have hv : iConv .u64 imm = imm % 18446744073709551616 := by unfold iConv; simp [IntKind.wrap, IntKind.bits, IntKind.signed]
  unfold word_Bits0
  rw [show word_part0 5 6 = 5 by decide +kernel, show word_mask0 (word_part1 5 6) = 63 by decide +kernel, hv, shr64 (x := imm % 18446744073709551616) 5 32 (by decide +kernel) (by decide),
    and64 (x := imm % 18446744073709551616 / 32) (m := 63) 6 64 (by decide +kernel) (by decide) (by decide) ⟨by omega, by omega⟩, conv32_of ⟨by omega, by omega⟩]
  omega
theorem rb_5_6 (imm : Int) : iAnd .u32 (iShr .u32 (iConv .u32 imm) 5) 63 = (imm % 4294967296) / 32 % 64 := by
  rw [conv32, shr32 (x := imm % 4294967296) 5 32 (by decide +kernel) (by decide), and32 (m := 63) 6 64 (by decide +kernel) (by decide) (by decide) ⟨by omega, by omega⟩]
  skip
theorem nb_1_4 (imm : Int) : iConv .u32 (word_Bits0 (iConv .u64 imm) 1 4) = (imm % 4294967296) / 2 % 16 := by
  have hv : iConv .u64 imm = imm % 18446744073709551616 := by unfold iConv; simp [IntKind.wrap, IntKind.bits, IntKind.signed]
  unfold word_Bits0
  rw [show word_part0 1 4 = 1 by decide +kernel, show word_mask0 (word_part1 1 4) = 15 by decide +kernel, hv, shr64 (x := imm % 18446744073709551616) 1 2 (by decide +kernel) (by decide),
    and64 (x := imm % 18446744073709551616 / 2) (m := 15) 4 16 (by decide +kernel) (by decide) (by decide) ⟨by omega, by omega⟩, conv32_of ⟨by omega, by omega⟩]
  omega
theorem rb_1_4 (imm : Int) : iAnd .u32 (iShr .u32 (iConv .u32 imm) 1) 15 = (imm % 4294967296) / 2 % 16 := by
  rw [conv32, shr32 (x := imm % 4294967296) 1 2 (by decide +kernel) (by decide), and32 (m := 15) 4 16 (by decide +kernel) (by decide) (by decide) ⟨by omega, by omega⟩]
  skip
theorem nb_5_7 (imm : Int) : iConv .u32 (word_Bits0 (iConv .u64 imm) 5 7) = (imm % 4294967296) / 32 % 128 := by
  have hv : iConv .u64 imm = imm % 18446744073709551616 := by unfold iConv; simp [IntKind.wrap, IntKind.bits, IntKind.signed]
  unfold word_Bits0
  rw [show word_part0 5 7 = 5 by decide +kernel, show word_mask0 (word_part1 5 7) = 127 by decide +kernel, hv, shr64 (x := imm % 18446744073709551616) 5 32 (by decide +kernel) (by decide),
    and64 (x := imm % 18446744073709551616 / 32) (m := 127) 7 128 (by decide +kernel) (by decide) (by decide) ⟨by omega, by omega⟩, conv32_of ⟨by omega, by omega⟩]
  omega
theorem rb_5_7 (imm : Int) : iAnd .u32 (iShr .u32 (iConv .u32 imm) 5) 127 = (imm % 4294967296) / 32 % 128 := by
  rw [conv32, shr32 (x := imm % 4294967296) 5 32 (by decide +kernel) (by decide), and32 (m := 127) 7 128 (by decide +kernel) (by decide) (by decide) ⟨by omega, by omega⟩]
  skip
theorem nb_0_5 (imm : Int) : iConv .u32 (word_Bits0 (iConv .u64 imm) 0 5) = (imm % 4294967296) / 1 % 32 := by
  have hv : iConv .u64 imm = imm % 18446744073709551616 := by unfold iConv; simp [IntKind.wrap, IntKind.bits, IntKind.signed]
  unfold word_Bits0
  rw [show word_part0 0 5 = 0 by decide +kernel, show word_mask0 (word_part1 0 5) = 31 by decide +kernel, hv, shr64 (x := imm % 18446744073709551616) 0 1 (by decide +kernel) (by decide),
    and64 (x := imm % 18446744073709551616 / 1) (m := 31) 5 32 (by decide +kernel) (by decide) (by decide) ⟨by omega, by omega⟩, conv32_of ⟨by omega, by omega⟩]
  omega
theorem rb_0_5 (imm : Int) : iAnd .u32 (iConv .u32 imm) 31 = (imm % 4294967296) / 1 % 32 := by
  rw [conv32, and32 (m := 31) 5 32 (by decide +kernel) (by decide) (by decide) ⟨by omega, by omega⟩]
  omega
theorem nb_0_12 (imm : Int) : iConv .u32 (word_Bits0 (iConv .u64 imm) 0 12) = (imm % 4294967296) / 1 % 4096 := by
  have hv : iConv .u64 imm = imm % 18446744073709551616 := by unfold iConv; simp [IntKind.wrap, IntKind.bits, IntKind.signed]
  unfold word_Bits0
  rw [show word_part0 0 12 = 0 by decide +kernel, show word_mask0 (word_part1 0 12) = 4095 by decide +kernel, hv, shr64 (x := imm % 18446744073709551616) 0 1 (by decide +kernel) (by decide),
    and64 (x := imm % 18446744073709551616 / 1) (m := 4095) 12 4096 (by decide +kernel) (by decide) (by decide) ⟨by omega, by omega⟩, conv32_of ⟨by omega, by omega⟩]
  omega
theorem nb_12_20 (imm : Int) : iConv .u32 (word_Bits0 (iConv .u64 imm) 12 20) = (imm % 4294967296) / 4096 % 1048576 := by
  have hv : iConv .u64 imm = imm % 18446744073709551616 := by unfold iConv; simp [IntKind.wrap, IntKind.bits, IntKind.signed]
  unfold word_Bits0
  rw [show word_part0 12 20 = 12 by decide +kernel, show word_mask0 (word_part1 12 20) = 1048575 by decide +kernel, hv, shr64 (x := imm % 18446744073709551616) 12 4096 (by decide +kernel) (by decide),
    and64 (x := imm % 18446744073709551616 / 4096) (m := 1048575) 20 1048576 (by decide +kernel) (by decide) (by decide) ⟨by omega, by omega⟩, conv32_of ⟨by omega, by omega⟩]
  omega
theorem rb_I (imm : Int) : iAnd .u32 (iConv .u32 imm) 4095 = (imm % 4294967296) / 1 % 4096 := by
  rw [conv32, and32 (m := 4095) 12 4096 (by decide +kernel) (by decide) (by decide) ⟨by omega, by omega⟩]
  omega
theorem rb_Sh {imm : Int} (h : 0 ≤ imm ∧ imm ≤ 63) : iAnd .u32 (iConv .u32 imm) 63 = (imm % 4294967296) / 1 % 4096 := by
  rw [conv32, and32 (m := 63) 6 64 (by decide +kernel) (by decide) (by decide) ⟨by omega, by omega⟩]
  omega
theorem rb_Ci {imm : Int} (h : 0 ≤ imm ∧ imm ≤ 31) : iShl .u32 (iConv .u32 imm) 15 = iShl .u32 ((imm % 4294967296) / 1 % 32) 15 := by
  rw [conv32]
  congr 1
  omega
theorem rb_U (imm : Int) : iAnd .u32 (iConv .u32 imm) 4294963200 = iShl .u32 ((imm % 4294967296) / 4096 % 1048576) 12 := by
  rw [conv32, andHi ⟨by omega, by omega⟩, shl32 12 4096 (by decide +kernel) ⟨by omega, by omega⟩]
  omega
theorem pe1 {rd rs1 rs2 imm csr : Int} (h : insn_Is0 1 rd rs1 rs2 imm csr = true) : encode_Encode0 1 rd rs1 rs2 imm csr = sallyportref3_Encode0 1 rd rs1 rs2 imm csr := by
  have h' : sallyportref3_Is0 1 rd rs1 rs2 imm csr = true := (is_eq _ _ _ _ _ _).trans h
  obtain ⟨_, z_rs1, z_rs2, z_csr, hn, _⟩ := enc1 h'
  subst z_rs1
  subst z_rs2
  subst z_csr
  have e : sallyportref3_Encode0 1 rd 0 0 imm 0 = iOr .u32 (iOr .u32 55 (iShl .u32 (iConv .u32 rd) 7)) (iAnd .u32 (iConv .u32 imm) 4294963200) := by
    unfold sallyportref3_Encode0
    rw [h']
    kernel_rfl
  have p : encode_Encode0 1 rd 0 0 imm 0 = (iOr .u32 (iOr .u32 (iOr .u32 (iOr .u32 (iOr .u32 (iOr .u32 (iOr .u32 55 0) 0) (iShl .u32 (iConv .u32 rd) 7)) 0) 0) 0) (iShl .u32 (iConv .u32 (word_Bits0 (iConv .u64 imm) 12 20)) 12)) := by
    unfold encode_Encode0
    rw [h]
    kernel_rfl
  rw [e, p, nb_12_20, rb_U]
  simp only [orz1, orz2] <;> first | done | ac_rfl
theorem pe2 {rd rs1 rs2 imm csr : Int} (h : insn_Is0 2 rd rs1 rs2 imm csr = true) : encode_Encode0 2 rd rs1 rs2 imm csr = sallyportref3_Encode0 2 rd rs1 rs2 imm csr := by
  have h' : sallyportref3_Is0 2 rd rs1 rs2 imm csr = true := (is_eq _ _ _ _ _ _).trans h
  obtain ⟨_, z_rs1, z_rs2, z_csr, hn, _⟩ := enc2 h'
  subst z_rs1
  subst z_rs2
  subst z_csr
  have e : sallyportref3_Encode0 2 rd 0 0 imm 0 = iOr .u32 (iOr .u32 23 (iShl .u32 (iConv .u32 rd) 7)) (iAnd .u32 (iConv .u32 imm) 4294963200) := by
    unfold sallyportref3_Encode0
    rw [h']
    kernel_rfl
  have p : encode_Encode0 2 rd 0 0 imm 0 = (iOr .u32 (iOr .u32 (iOr .u32 (iOr .u32 (iOr .u32 (iOr .u32 (iOr .u32 23 0) 0) (iShl .u32 (iConv .u32 rd) 7)) 0) 0) 0) (iShl .u32 (iConv .u32 (word_Bits0 (iConv .u64 imm) 12 20)) 12)) := by
    unfold encode_Encode0
    rw [h]
    kernel_rfl
  rw [e, p, nb_12_20, rb_U]
  simp only [orz1, orz2] <;> first | done | ac_rfl
theorem pe3 {rd rs1 rs2 imm csr : Int} (h : insn_Is0 3 rd rs1 rs2 imm csr = true) : encode_Encode0 3 rd rs1 rs2 imm csr = sallyportref3_Encode0 3 rd rs1 rs2 imm csr := by
  have h' : sallyportref3_Is0 3 rd rs1 rs2 imm csr = true := (is_eq _ _ _ _ _ _).trans h
  obtain ⟨_, z_rs1, z_rs2, z_csr, hn, _⟩ := enc3 h'
  subst z_rs1
  subst z_rs2
  subst z_csr
  have e : sallyportref3_Encode0 3 rd 0 0 imm 0 = iOr .u32 (iOr .u32 (iOr .u32 (iOr .u32 (iOr .u32 111 (iShl .u32 (iConv .u32 rd) 7)) (iShl .u32 (iAnd .u32 (iShr .u32 (iConv .u32 imm) 20) 1) 31)) (iShl .u32 (iAnd .u32 (iShr .u32 (iConv .u32 imm) 12) 255) 12)) (iShl .u32 (iAnd .u32 (iShr .u32 (iConv .u32 imm) 11) 1) 20)) (iShl .u32 (iAnd .u32 (iShr .u32 (iConv .u32 imm) 1) 1023) 21) := by
    unfold sallyportref3_Encode0
    rw [h']
    kernel_rfl
  have p : encode_Encode0 3 rd 0 0 imm 0 = (iOr .u32 (iOr .u32 (iOr .u32 (iOr .u32 (iOr .u32 (iOr .u32 (iOr .u32 111 0) 0) (iShl .u32 (iConv .u32 rd) 7)) 0) 0) 0) (iOr .u32 (iOr .u32 (iOr .u32 (iShl .u32 (iConv .u32 (word_Bits0 (iConv .u64 imm) 20 1)) 31) (iShl .u32 (iConv .u32 (word_Bits0 (iConv .u64 imm) 12 8)) 12)) (iShl .u32 (iConv .u32 (word_Bits0 (iConv .u64 imm) 11 1)) 20)) (iShl .u32 (iConv .u32 (word_Bits0 (iConv .u64 imm) 1 10)) 21))) := by
    unfold encode_Encode0
    rw [h]
    kernel_rfl
  rw [e, p, nb_20_1, nb_12_8, nb_11_1, nb_1_10, rb_20_1, rb_12_8, rb_11_1, rb_1_10]
  simp only [orz1, orz2] <;> first | done | ac_rfl
theorem pe4 {rd rs1 rs2 imm csr : Int} (h : insn_Is0 4 rd rs1 rs2 imm csr = true) : encode_Encode0 4 rd rs1 rs2 imm csr = sallyportref3_Encode0 4 rd rs1 rs2 imm csr := by
  have h' : sallyportref3_Is0 4 rd rs1 rs2 imm csr = true := (is_eq _ _ _ _ _ _).trans h
  obtain ⟨_, z_rs2, z_csr, hn⟩ := enc4 h'
  subst z_rs2
  subst z_csr
  have e : sallyportref3_Encode0 4 rd rs1 0 imm 0 = iOr .u32 (iOr .u32 (iOr .u32 (iOr .u32 103 0) (iShl .u32 (iConv .u32 rs1) 15)) (iShl .u32 (iConv .u32 rd) 7)) (iShl .u32 (iAnd .u32 (iConv .u32 imm) 4095) 20) := by
    unfold sallyportref3_Encode0
    rw [h']
    kernel_rfl
  have p : encode_Encode0 4 rd rs1 0 imm 0 = (iOr .u32 (iOr .u32 (iOr .u32 (iOr .u32 (iOr .u32 (iOr .u32 (iOr .u32 103 0) 0) (iShl .u32 (iConv .u32 rd) 7)) (iShl .u32 (iConv .u32 rs1) 15)) 0) 0) (iShl .u32 (iConv .u32 (word_Bits0 (iConv .u64 imm) 0 12)) 20)) := by
    unfold encode_Encode0
    rw [h]
    kernel_rfl
  rw [e, p, nb_0_12, rb_I]
  simp only [orz1, orz2] <;> first | done | ac_rfl
theorem pe5 {rd rs1 rs2 imm csr : Int} (h : insn_Is0 5 rd rs1 rs2 imm csr = true) : encode_Encode0 5 rd rs1 rs2 imm csr = sallyportref3_Encode0 5 rd rs1 rs2 imm csr := by
  have h' : sallyportref3_Is0 5 rd rs1 rs2 imm csr = true := (is_eq _ _ _ _ _ _).trans h
  obtain ⟨_, z_rd, z_csr, hn, _⟩ := enc5 h'
  subst z_rd
  subst z_csr
  have e : sallyportref3_Encode0 5 0 rs1 rs2 imm 0 = iOr .u32 (iOr .u32 (iOr .u32 (iOr .u32 (iOr .u32 (iOr .u32 (iOr .u32 99 0) (iShl .u32 (iConv .u32 rs1) 15)) (iShl .u32 (iConv .u32 rs2) 20)) (iShl .u32 (iAnd .u32 (iShr .u32 (iConv .u32 imm) 12) 1) 31)) (iShl .u32 (iAnd .u32 (iShr .u32 (iConv .u32 imm) 11) 1) 7)) (iShl .u32 (iAnd .u32 (iShr .u32 (iConv .u32 imm) 5) 63) 25)) (iShl .u32 (iAnd .u32 (iShr .u32 (iConv .u32 imm) 1) 15) 8) := by
    unfold sallyportref3_Encode0
    rw [h']
    kernel_rfl
  have p : encode_Encode0 5 0 rs1 rs2 imm 0 = (iOr .u32 (iOr .u32 (iOr .u32 (iOr .u32 (iOr .u32 (iOr .u32 (iOr .u32 99 0) 0) 0) (iShl .u32 (iConv .u32 rs1) 15)) (iShl .u32 (iConv .u32 rs2) 20)) 0) (iOr .u32 (iOr .u32 (iOr .u32 (iShl .u32 (iConv .u32 (word_Bits0 (iConv .u64 imm) 12 1)) 31) (iShl .u32 (iConv .u32 (word_Bits0 (iConv .u64 imm) 11 1)) 7)) (iShl .u32 (iConv .u32 (word_Bits0 (iConv .u64 imm) 5 6)) 25)) (iShl .u32 (iConv .u32 (word_Bits0 (iConv .u64 imm) 1 4)) 8))) := by
    unfold encode_Encode0
    rw [h]
    kernel_rfl
  rw [e, p, nb_12_1, nb_11_1, nb_5_6, nb_1_4, rb_12_1, rb_11_1, rb_5_6, rb_1_4]
  simp only [orz1, orz2] <;> first | done | ac_rfl
theorem pe6 {rd rs1 rs2 imm csr : Int} (h : insn_Is0 6 rd rs1 rs2 imm csr = true) : encode_Encode0 6 rd rs1 rs2 imm csr = sallyportref3_Encode0 6 rd rs1 rs2 imm csr := by
  have h' : sallyportref3_Is0 6 rd rs1 rs2 imm csr = true := (is_eq _ _ _ _ _ _).trans h
  obtain ⟨_, z_rd, z_csr, hn, _⟩ := enc6 h'
  subst z_rd
  subst z_csr
  have e : sallyportref3_Encode0 6 0 rs1 rs2 imm 0 = iOr .u32 (iOr .u32 (iOr .u32 (iOr .u32 (iOr .u32 (iOr .u32 (iOr .u32 99 4096) (iShl .u32 (iConv .u32 rs1) 15)) (iShl .u32 (iConv .u32 rs2) 20)) (iShl .u32 (iAnd .u32 (iShr .u32 (iConv .u32 imm) 12) 1) 31)) (iShl .u32 (iAnd .u32 (iShr .u32 (iConv .u32 imm) 11) 1) 7)) (iShl .u32 (iAnd .u32 (iShr .u32 (iConv .u32 imm) 5) 63) 25)) (iShl .u32 (iAnd .u32 (iShr .u32 (iConv .u32 imm) 1) 15) 8) := by
    unfold sallyportref3_Encode0
    rw [h']
    kernel_rfl
  have p : encode_Encode0 6 0 rs1 rs2 imm 0 = (iOr .u32 (iOr .u32 (iOr .u32 (iOr .u32 (iOr .u32 (iOr .u32 (iOr .u32 99 4096) 0) 0) (iShl .u32 (iConv .u32 rs1) 15)) (iShl .u32 (iConv .u32 rs2) 20)) 0) (iOr .u32 (iOr .u32 (iOr .u32 (iShl .u32 (iConv .u32 (word_Bits0 (iConv .u64 imm) 12 1)) 31) (iShl .u32 (iConv .u32 (word_Bits0 (iConv .u64 imm) 11 1)) 7)) (iShl .u32 (iConv .u32 (word_Bits0 (iConv .u64 imm) 5 6)) 25)) (iShl .u32 (iConv .u32 (word_Bits0 (iConv .u64 imm) 1 4)) 8))) := by
    unfold encode_Encode0
    rw [h]
    kernel_rfl
  rw [e, p, nb_12_1, nb_11_1, nb_5_6, nb_1_4, rb_12_1, rb_11_1, rb_5_6, rb_1_4]
  simp only [orz1, orz2] <;> first | done | ac_rfl
theorem pe7 {rd rs1 rs2 imm csr : Int} (h : insn_Is0 7 rd rs1 rs2 imm csr = true) : encode_Encode0 7 rd rs1 rs2 imm csr = sallyportref3_Encode0 7 rd rs1 rs2 imm csr := by
  have h' : sallyportref3_Is0 7 rd rs1 rs2 imm csr = true := (is_eq _ _ _ _ _ _).trans h
  obtain ⟨_, z_rd, z_csr, hn, _⟩ := enc7 h'
  subst z_rd
  subst z_csr
  have e : sallyportref3_Encode0 7 0 rs1 rs2 imm 0 = iOr .u32 (iOr .u32 (iOr .u32 (iOr .u32 (iOr .u32 (iOr .u32 (iOr .u32 99 16384) (iShl .u32 (iConv .u32 rs1) 15)) (iShl .u32 (iConv .u32 rs2) 20)) (iShl .u32 (iAnd .u32 (iShr .u32 (iConv .u32 imm) 12) 1) 31)) (iShl .u32 (iAnd .u32 (iShr .u32 (iConv .u32 imm) 11) 1) 7)) (iShl .u32 (iAnd .u32 (iShr .u32 (iConv .u32 imm) 5) 63) 25)) (iShl .u32 (iAnd .u32 (iShr .u32 (iConv .u32 imm) 1) 15) 8) := by
    unfold sallyportref3_Encode0
    rw [h']
    kernel_rfl
  have p : encode_Encode0 7 0 rs1 rs2 imm 0 = (iOr .u32 (iOr .u32 (iOr .u32 (iOr .u32 (iOr .u32 (iOr .u32 (iOr .u32 99 16384) 0) 0) (iShl .u32 (iConv .u32 rs1) 15)) (iShl .u32 (iConv .u32 rs2) 20)) 0) (iOr .u32 (iOr .u32 (iOr .u32 (iShl .u32 (iConv .u32 (word_Bits0 (iConv .u64 imm) 12 1)) 31) (iShl .u32 (iConv .u32 (word_Bits0 (iConv .u64 imm) 11 1)) 7)) (iShl .u32 (iConv .u32 (word_Bits0 (iConv .u64 imm) 5 6)) 25)) (iShl .u32 (iConv .u32 (word_Bits0 (iConv .u64 imm) 1 4)) 8))) := by
    unfold encode_Encode0
    rw [h]
    kernel_rfl
  rw [e, p, nb_12_1, nb_11_1, nb_5_6, nb_1_4, rb_12_1, rb_11_1, rb_5_6, rb_1_4]
  simp only [orz1, orz2] <;> first | done | ac_rfl
theorem pe8 {rd rs1 rs2 imm csr : Int} (h : insn_Is0 8 rd rs1 rs2 imm csr = true) : encode_Encode0 8 rd rs1 rs2 imm csr = sallyportref3_Encode0 8 rd rs1 rs2 imm csr := by
  have h' : sallyportref3_Is0 8 rd rs1 rs2 imm csr = true := (is_eq _ _ _ _ _ _).trans h
  obtain ⟨_, z_rd, z_csr, hn, _⟩ := enc8 h'
  subst z_rd
  subst z_csr
  have e : sallyportref3_Encode0 8 0 rs1 rs2 imm 0 = iOr .u32 (iOr .u32 (iOr .u32 (iOr .u32 (iOr .u32 (iOr .u32 (iOr .u32 99 20480) (iShl .u32 (iConv .u32 rs1) 15)) (iShl .u32 (iConv .u32 rs2) 20)) (iShl .u32 (iAnd .u32 (iShr .u32 (iConv .u32 imm) 12) 1) 31)) (iShl .u32 (iAnd .u32 (iShr .u32 (iConv .u32 imm) 11) 1) 7)) (iShl .u32 (iAnd .u32 (iShr .u32 (iConv .u32 imm) 5) 63) 25)) (iShl .u32 (iAnd .u32 (iShr .u32 (iConv .u32 imm) 1) 15) 8) := by
    unfold sallyportref3_Encode0
    rw [h']
    kernel_rfl
  have p : encode_Encode0 8 0 rs1 rs2 imm 0 = (iOr .u32 (iOr .u32 (iOr .u32 (iOr .u32 (iOr .u32 (iOr .u32 (iOr .u32 99 20480) 0) 0) (iShl .u32 (iConv .u32 rs1) 15)) (iShl .u32 (iConv .u32 rs2) 20)) 0) (iOr .u32 (iOr .u32 (iOr .u32 (iShl .u32 (iConv .u32 (word_Bits0 (iConv .u64 imm) 12 1)) 31) (iShl .u32 (iConv .u32 (word_Bits0 (iConv .u64 imm) 11 1)) 7)) (iShl .u32 (iConv .u32 (word_Bits0 (iConv .u64 imm) 5 6)) 25)) (iShl .u32 (iConv .u32 (word_Bits0 (iConv .u64 imm) 1 4)) 8))) := by
    unfold encode_Encode0
    rw [h]
    kernel_rfl
  rw [e, p, nb_12_1, nb_11_1, nb_5_6, nb_1_4, rb_12_1, rb_11_1, rb_5_6, rb_1_4]
  simp only [orz1, orz2] <;> first | done | ac_rfl
theorem pe9 {rd rs1 rs2 imm csr : Int} (h : insn_Is0 9 rd rs1 rs2 imm csr = true) : encode_Encode0 9 rd rs1 rs2 imm csr = sallyportref3_Encode0 9 rd rs1 rs2 imm csr := by
  have h' : sallyportref3_Is0 9 rd rs1 rs2 imm csr = true := (is_eq _ _ _ _ _ _).trans h
  obtain ⟨_, z_rd, z_csr, hn, _⟩ := enc9 h'
  subst z_rd
  subst z_csr
  have e : sallyportref3_Encode0 9 0 rs1 rs2 imm 0 = iOr .u32 (iOr .u32 (iOr .u32 (iOr .u32 (iOr .u32 (iOr .u32 (iOr .u32 99 24576) (iShl .u32 (iConv .u32 rs1) 15)) (iShl .u32 (iConv .u32 rs2) 20)) (iShl .u32 (iAnd .u32 (iShr .u32 (iConv .u32 imm) 12) 1) 31)) (iShl .u32 (iAnd .u32 (iShr .u32 (iConv .u32 imm) 11) 1) 7)) (iShl .u32 (iAnd .u32 (iShr .u32 (iConv .u32 imm) 5) 63) 25)) (iShl .u32 (iAnd .u32 (iShr .u32 (iConv .u32 imm) 1) 15) 8) := by
    unfold sallyportref3_Encode0
    rw [h']
    kernel_rfl
  have p : encode_Encode0 9 0 rs1 rs2 imm 0 = (iOr .u32 (iOr .u32 (iOr .u32 (iOr .u32 (iOr .u32 (iOr .u32 (iOr .u32 99 24576) 0) 0) (iShl .u32 (iConv .u32 rs1) 15)) (iShl .u32 (iConv .u32 rs2) 20)) 0) (iOr .u32 (iOr .u32 (iOr .u32 (iShl .u32 (iConv .u32 (word_Bits0 (iConv .u64 imm) 12 1)) 31) (iShl .u32 (iConv .u32 (word_Bits0 (iConv .u64 imm) 11 1)) 7)) (iShl .u32 (iConv .u32 (word_Bits0 (iConv .u64 imm) 5 6)) 25)) (iShl .u32 (iConv .u32 (word_Bits0 (iConv .u64 imm) 1 4)) 8))) := by
    unfold encode_Encode0
    rw [h]
    kernel_rfl
  rw [e, p, nb_12_1, nb_11_1, nb_5_6, nb_1_4, rb_12_1, rb_11_1, rb_5_6, rb_1_4]
  simp only [orz1, orz2] <;> first | done | ac_rfl
theorem pe10 {rd rs1 rs2 imm csr : Int} (h : insn_Is0 10 rd rs1 rs2 imm csr = true) : encode_Encode0 10 rd rs1 rs2 imm csr = sallyportref3_Encode0 10 rd rs1 rs2 imm csr := by
  have h' : sallyportref3_Is0 10 rd rs1 rs2 imm csr = true := (is_eq _ _ _ _ _ _).trans h
  obtain ⟨_, z_rd, z_csr, hn, _⟩ := enc10 h'
  subst z_rd
  subst z_csr
  have e : sallyportref3_Encode0 10 0 rs1 rs2 imm 0 = iOr .u32 (iOr .u32 (iOr .u32 (iOr .u32 (iOr .u32 (iOr .u32 (iOr .u32 99 28672) (iShl .u32 (iConv .u32 rs1) 15)) (iShl .u32 (iConv .u32 rs2) 20)) (iShl .u32 (iAnd .u32 (iShr .u32 (iConv .u32 imm) 12) 1) 31)) (iShl .u32 (iAnd .u32 (iShr .u32 (iConv .u32 imm) 11) 1) 7)) (iShl .u32 (iAnd .u32 (iShr .u32 (iConv .u32 imm) 5) 63) 25)) (iShl .u32 (iAnd .u32 (iShr .u32 (iConv .u32 imm) 1) 15) 8) := by
    unfold sallyportref3_Encode0
    rw [h']
    kernel_rfl
  have p : encode_Encode0 10 0 rs1 rs2 imm 0 = (iOr .u32 (iOr .u32 (iOr .u32 (iOr .u32 (iOr .u32 (iOr .u32 (iOr .u32 99 28672) 0) 0) (iShl .u32 (iConv .u32 rs1) 15)) (iShl .u32 (iConv .u32 rs2) 20)) 0) (iOr .u32 (iOr .u32 (iOr .u32 (iShl .u32 (iConv .u32 (word_Bits0 (iConv .u64 imm) 12 1)) 31) (iShl .u32 (iConv .u32 (word_Bits0 (iConv .u64 imm) 11 1)) 7)) (iShl .u32 (iConv .u32 (word_Bits0 (iConv .u64 imm) 5 6)) 25)) (iShl .u32 (iConv .u32 (word_Bits0 (iConv .u64 imm) 1 4)) 8))) := by
    unfold encode_Encode0
    rw [h]
    kernel_rfl
  rw [e, p, nb_12_1, nb_11_1, nb_5_6, nb_1_4, rb_12_1, rb_11_1, rb_5_6, rb_1_4]
  simp only [orz1, orz2] <;> first | done | ac_rfl
theorem pe11 {rd rs1 rs2 imm csr : Int} (h : insn_Is0 11 rd rs1 rs2 imm csr = true) : encode_Encode0 11 rd rs1 rs2 imm csr = sallyportref3_Encode0 11 rd rs1 rs2 imm csr := by
  have h' : sallyportref3_Is0 11 rd rs1 rs2 imm csr = true := (is_eq _ _ _ _ _ _).trans h
  obtain ⟨_, z_rs2, z_csr, hn⟩ := enc11 h'
  subst z_rs2
  subst z_csr
  have e : sallyportref3_Encode0 11 rd rs1 0 imm 0 = iOr .u32 (iOr .u32 (iOr .u32 (iOr .u32 3 0) (iShl .u32 (iConv .u32 rs1) 15)) (iShl .u32 (iConv .u32 rd) 7)) (iShl .u32 (iAnd .u32 (iConv .u32 imm) 4095) 20) := by
    unfold sallyportref3_Encode0
    rw [h']
    kernel_rfl
  have p : encode_Encode0 11 rd rs1 0 imm 0 = (iOr .u32 (iOr .u32 (iOr .u32 (iOr .u32 (iOr .u32 (iOr .u32 (iOr .u32 3 0) 0) (iShl .u32 (iConv .u32 rd) 7)) (iShl .u32 (iConv .u32 rs1) 15)) 0) 0) (iShl .u32 (iConv .u32 (word_Bits0 (iConv .u64 imm) 0 12)) 20)) := by
    unfold encode_Encode0
    rw [h]
    kernel_rfl
  rw [e, p, nb_0_12, rb_I]
  simp only [orz1, orz2] <;> first | done | ac_rfl
theorem pe12 {rd rs1 rs2 imm csr : Int} (h : insn_Is0 12 rd rs1 rs2 imm csr = true) : encode_Encode0 12 rd rs1 rs2 imm csr = sallyportref3_Encode0 12 rd rs1 rs2 imm csr := by
  have h' : sallyportref3_Is0 12 rd rs1 rs2 imm csr = true := (is_eq _ _ _ _ _ _).trans h
  obtain ⟨_, z_rs2, z_csr, hn⟩ := enc12 h'
  subst z_rs2
  subst z_csr
  have e : sallyportref3_Encode0 12 rd rs1 0 imm 0 = iOr .u32 (iOr .u32 (iOr .u32 (iOr .u32 3 4096) (iShl .u32 (iConv .u32 rs1) 15)) (iShl .u32 (iConv .u32 rd) 7)) (iShl .u32 (iAnd .u32 (iConv .u32 imm) 4095) 20) := by
    unfold sallyportref3_Encode0
    rw [h']
    kernel_rfl
  have p : encode_Encode0 12 rd rs1 0 imm 0 = (iOr .u32 (iOr .u32 (iOr .u32 (iOr .u32 (iOr .u32 (iOr .u32 (iOr .u32 3 4096) 0) (iShl .u32 (iConv .u32 rd) 7)) (iShl .u32 (iConv .u32 rs1) 15)) 0) 0) (iShl .u32 (iConv .u32 (word_Bits0 (iConv .u64 imm) 0 12)) 20)) := by
    unfold encode_Encode0
    rw [h]
    kernel_rfl
  rw [e, p, nb_0_12, rb_I]
  simp only [orz1, orz2] <;> first | done | ac_rfl
theorem pe13 {rd rs1 rs2 imm csr : Int} (h : insn_Is0 13 rd rs1 rs2 imm csr = true) : encode_Encode0 13 rd rs1 rs2 imm csr = sallyportref3_Encode0 13 rd rs1 rs2 imm csr := by
  have h' : sallyportref3_Is0 13 rd rs1 rs2 imm csr = true := (is_eq _ _ _ _ _ _).trans h
  obtain ⟨_, z_rs2, z_csr, hn⟩ := enc13 h'
  subst z_rs2
  subst z_csr
  have e : sallyportref3_Encode0 13 rd rs1 0 imm 0 = iOr .u32 (iOr .u32 (iOr .u32 (iOr .u32 3 8192) (iShl .u32 (iConv .u32 rs1) 15)) (iShl .u32 (iConv .u32 rd) 7)) (iShl .u32 (iAnd .u32 (iConv .u32 imm) 4095) 20) := by
    unfold sallyportref3_Encode0
    rw [h']
    kernel_rfl
  have p : encode_Encode0 13 rd rs1 0 imm 0 = (iOr .u32 (iOr .u32 (iOr .u32 (iOr .u32 (iOr .u32 (iOr .u32 (iOr .u32 3 8192) 0) (iShl .u32 (iConv .u32 rd) 7)) (iShl .u32 (iConv .u32 rs1) 15)) 0) 0) (iShl .u32 (iConv .u32 (word_Bits0 (iConv .u64 imm) 0 12)) 20)) := by
    unfold encode_Encode0
    rw [h]
    kernel_rfl
  rw [e, p, nb_0_12, rb_I]
  simp only [orz1, orz2] <;> first | done | ac_rfl
theorem pe14 {rd rs1 rs2 imm csr : Int} (h : insn_Is0 14 rd rs1 rs2 imm csr = true) : encode_Encode0 14 rd rs1 rs2 imm csr = sallyportref3_Encode0 14 rd rs1 rs2 imm csr := by
  have h' : sallyportref3_Is0 14 rd rs1 rs2 imm csr = true := (is_eq _ _ _ _ _ _).trans h
  obtain ⟨_, z_rs2, z_csr, hn⟩ := enc14 h'
  subst z_rs2
  subst z_csr
  have e : sallyportref3_Encode0 14 rd rs1 0 imm 0 = iOr .u32 (iOr .u32 (iOr .u32 (iOr .u32 3 12288) (iShl .u32 (iConv .u32 rs1) 15)) (iShl .u32 (iConv .u32 rd) 7)) (iShl .u32 (iAnd .u32 (iConv .u32 imm) 4095) 20) := by
    unfold sallyportref3_Encode0
    rw [h']
    kernel_rfl
  have p : encode_Encode0 14 rd rs1 0 imm 0 = (iOr .u32 (iOr .u32 (iOr .u32 (iOr .u32 (iOr .u32 (iOr .u32 (iOr .u32 3 12288) 0) (iShl .u32 (iConv .u32 rd) 7)) (iShl .u32 (iConv .u32 rs1) 15)) 0) 0) (iShl .u32 (iConv .u32 (word_Bits0 (iConv .u64 imm) 0 12)) 20)) := by
    unfold encode_Encode0
    rw [h]
    kernel_rfl
  rw [e, p, nb_0_12, rb_I]
  simp only [orz1, orz2] <;> first | done | ac_rfl
theorem pe15 {rd rs1 rs2 imm csr : Int} (h : insn_Is0 15 rd rs1 rs2 imm csr = true) : encode_Encode0 15 rd rs1 rs2 imm csr = sallyportref3_Encode0 15 rd rs1 rs2 imm csr := by
  have h' : sallyportref3_Is0 15 rd rs1 rs2 imm csr = true := (is_eq _ _ _ _ _ _).trans h
  obtain ⟨_, z_rs2, z_csr, hn⟩ := enc15 h'
  subst z_rs2
  subst z_csr
  have e : sallyportref3_Encode0 15 rd rs1 0 imm 0 = iOr .u32 (iOr .u32 (iOr .u32 (iOr .u32 3 16384) (iShl .u32 (iConv .u32 rs1) 15)) (iShl .u32 (iConv .u32 rd) 7)) (iShl .u32 (iAnd .u32 (iConv .u32 imm) 4095) 20) := by
    unfold sallyportref3_Encode0
    rw [h']
    kernel_rfl
  have p : encode_Encode0 15 rd rs1 0 imm 0 = (iOr .u32 (iOr .u32 (iOr .u32 (iOr .u32 (iOr .u32 (iOr .u32 (iOr .u32 3 16384) 0) (iShl .u32 (iConv .u32 rd) 7)) (iShl .u32 (iConv .u32 rs1) 15)) 0) 0) (iShl .u32 (iConv .u32 (word_Bits0 (iConv .u64 imm) 0 12)) 20)) := by
    unfold encode_Encode0
    rw [h]
    kernel_rfl
  rw [e, p, nb_0_12, rb_I]
  simp only [orz1, orz2] <;> first | done | ac_rfl
theorem pe16 {rd rs1 rs2 imm csr : Int} (h : insn_Is0 16 rd rs1 rs2 imm csr = true) : encode_Encode0 16 rd rs1 rs2 imm csr = sallyportref3_Encode0 16 rd rs1 rs2 imm csr := by
  have h' : sallyportref3_Is0 16 rd rs1 rs2 imm csr = true := (is_eq _ _ _ _ _ _).trans h
  obtain ⟨_, z_rs2, z_csr, hn⟩ := enc16 h'
  subst z_rs2
  subst z_csr
  have e : sallyportref3_Encode0 16 rd rs1 0 imm 0 = iOr .u32 (iOr .u32 (iOr .u32 (iOr .u32 3 20480) (iShl .u32 (iConv .u32 rs1) 15)) (iShl .u32 (iConv .u32 rd) 7)) (iShl .u32 (iAnd .u32 (iConv .u32 imm) 4095) 20) := by
    unfold sallyportref3_Encode0
    rw [h']
    kernel_rfl
  have p : encode_Encode0 16 rd rs1 0 imm 0 = (iOr .u32 (iOr .u32 (iOr .u32 (iOr .u32 (iOr .u32 (iOr .u32 (iOr .u32 3 20480) 0) (iShl .u32 (iConv .u32 rd) 7)) (iShl .u32 (iConv .u32 rs1) 15)) 0) 0) (iShl .u32 (iConv .u32 (word_Bits0 (iConv .u64 imm) 0 12)) 20)) := by
    unfold encode_Encode0
    rw [h]
    kernel_rfl
  rw [e, p, nb_0_12, rb_I]
  simp only [orz1, orz2] <;> first | done | ac_rfl
theorem pe17 {rd rs1 rs2 imm csr : Int} (h : insn_Is0 17 rd rs1 rs2 imm csr = true) : encode_Encode0 17 rd rs1 rs2 imm csr = sallyportref3_Encode0 17 rd rs1 rs2 imm csr := by
  have h' : sallyportref3_Is0 17 rd rs1 rs2 imm csr = true := (is_eq _ _ _ _ _ _).trans h
  obtain ⟨_, z_rs2, z_csr, hn⟩ := enc17 h'
  subst z_rs2
  subst z_csr
  have e : sallyportref3_Encode0 17 rd rs1 0 imm 0 = iOr .u32 (iOr .u32 (iOr .u32 (iOr .u32 3 24576) (iShl .u32 (iConv .u32 rs1) 15)) (iShl .u32 (iConv .u32 rd) 7)) (iShl .u32 (iAnd .u32 (iConv .u32 imm) 4095) 20) := by
    unfold sallyportref3_Encode0
    rw [h']
    kernel_rfl
  have p : encode_Encode0 17 rd rs1 0 imm 0 = (iOr .u32 (iOr .u32 (iOr .u32 (iOr .u32 (iOr .u32 (iOr .u32 (iOr .u32 3 24576) 0) (iShl .u32 (iConv .u32 rd) 7)) (iShl .u32 (iConv .u32 rs1) 15)) 0) 0) (iShl .u32 (iConv .u32 (word_Bits0 (iConv .u64 imm) 0 12)) 20)) := by
    unfold encode_Encode0
    rw [h]
    kernel_rfl
  rw [e, p, nb_0_12, rb_I]
  simp only [orz1, orz2] <;> first | done | ac_rfl
theorem pe18 {rd rs1 rs2 imm csr : Int} (h : insn_Is0 18 rd rs1 rs2 imm csr = true) : encode_Encode0 18 rd rs1 rs2 imm csr = sallyportref3_Encode0 18 rd rs1 rs2 imm csr := by
  have h' : sallyportref3_Is0 18 rd rs1 rs2 imm csr = true := (is_eq _ _ _ _ _ _).trans h
  obtain ⟨_, z_rd, z_csr, hn⟩ := enc18 h'
  subst z_rd
  subst z_csr
  have e : sallyportref3_Encode0 18 0 rs1 rs2 imm 0 = iOr .u32 (iOr .u32 (iOr .u32 (iOr .u32 (iOr .u32 35 0) (iShl .u32 (iConv .u32 rs1) 15)) (iShl .u32 (iConv .u32 rs2) 20)) (iShl .u32 (iAnd .u32 (iShr .u32 (iConv .u32 imm) 5) 127) 25)) (iShl .u32 (iAnd .u32 (iConv .u32 imm) 31) 7) := by
    unfold sallyportref3_Encode0
    rw [h']
    kernel_rfl
  have p : encode_Encode0 18 0 rs1 rs2 imm 0 = (iOr .u32 (iOr .u32 (iOr .u32 (iOr .u32 (iOr .u32 (iOr .u32 (iOr .u32 35 0) 0) 0) (iShl .u32 (iConv .u32 rs1) 15)) (iShl .u32 (iConv .u32 rs2) 20)) 0) (iOr .u32 (iShl .u32 (iConv .u32 (word_Bits0 (iConv .u64 imm) 5 7)) 25) (iShl .u32 (iConv .u32 (word_Bits0 (iConv .u64 imm) 0 5)) 7))) := by
    unfold encode_Encode0
    rw [h]
    kernel_rfl
  rw [e, p, nb_5_7, nb_0_5, rb_5_7, rb_0_5]
  simp only [orz1, orz2] <;> first | done | ac_rfl
theorem pe19 {rd rs1 rs2 imm csr : Int} (h : insn_Is0 19 rd rs1 rs2 imm csr = true) : encode_Encode0 19 rd rs1 rs2 imm csr = sallyportref3_Encode0 19 rd rs1 rs2 imm csr := by
  have h' : sallyportref3_Is0 19 rd rs1 rs2 imm csr = true := (is_eq _ _ _ _ _ _).trans h
  obtain ⟨_, z_rd, z_csr, hn⟩ := enc19 h'
  subst z_rd
  subst z_csr
  have e : sallyportref3_Encode0 19 0 rs1 rs2 imm 0 = iOr .u32 (iOr .u32 (iOr .u32 (iOr .u32 (iOr .u32 35 4096) (iShl .u32 (iConv .u32 rs1) 15)) (iShl .u32 (iConv .u32 rs2) 20)) (iShl .u32 (iAnd .u32 (iShr .u32 (iConv .u32 imm) 5) 127) 25)) (iShl .u32 (iAnd .u32 (iConv .u32 imm) 31) 7) := by
    unfold sallyportref3_Encode0
    rw [h']
    kernel_rfl
  have p : encode_Encode0 19 0 rs1 rs2 imm 0 = (iOr .u32 (iOr .u32 (iOr .u32 (iOr .u32 (iOr .u32 (iOr .u32 (iOr .u32 35 4096) 0) 0) (iShl .u32 (iConv .u32 rs1) 15)) (iShl .u32 (iConv .u32 rs2) 20)) 0) (iOr .u32 (iShl .u32 (iConv .u32 (word_Bits0 (iConv .u64 imm) 5 7)) 25) (iShl .u32 (iConv .u32 (word_Bits0 (iConv .u64 imm) 0 5)) 7))) := by
    unfold encode_Encode0
    rw [h]
    kernel_rfl
  rw [e, p, nb_5_7, nb_0_5, rb_5_7, rb_0_5]
  simp only [orz1, orz2] <;> first | done | ac_rfl
theorem pe20 {rd rs1 rs2 imm csr : Int} (h : insn_Is0 20 rd rs1 rs2 imm csr = true) : encode_Encode0 20 rd rs1 rs2 imm csr = sallyportref3_Encode0 20 rd rs1 rs2 imm csr := by
  have h' : sallyportref3_Is0 20 rd rs1 rs2 imm csr = true := (is_eq _ _ _ _ _ _).trans h
  obtain ⟨_, z_rd, z_csr, hn⟩ := enc20 h'
  subst z_rd
  subst z_csr
  have e : sallyportref3_Encode0 20 0 rs1 rs2 imm 0 = iOr .u32 (iOr .u32 (iOr .u32 (iOr .u32 (iOr .u32 35 8192) (iShl .u32 (iConv .u32 rs1) 15)) (iShl .u32 (iConv .u32 rs2) 20)) (iShl .u32 (iAnd .u32 (iShr .u32 (iConv .u32 imm) 5) 127) 25)) (iShl .u32 (iAnd .u32 (iConv .u32 imm) 31) 7) := by
    unfold sallyportref3_Encode0
    rw [h']
    kernel_rfl
  have p : encode_Encode0 20 0 rs1 rs2 imm 0 = (iOr .u32 (iOr .u32 (iOr .u32 (iOr .u32 (iOr .u32 (iOr .u32 (iOr .u32 35 8192) 0) 0) (iShl .u32 (iConv .u32 rs1) 15)) (iShl .u32 (iConv .u32 rs2) 20)) 0) (iOr .u32 (iShl .u32 (iConv .u32 (word_Bits0 (iConv .u64 imm) 5 7)) 25) (iShl .u32 (iConv .u32 (word_Bits0 (iConv .u64 imm) 0 5)) 7))) := by
    unfold encode_Encode0
    rw [h]
    kernel_rfl
  rw [e, p, nb_5_7, nb_0_5, rb_5_7, rb_0_5]
  simp only [orz1, orz2] <;> first | done | ac_rfl
theorem pe21 {rd rs1 rs2 imm csr : Int} (h : insn_Is0 21 rd rs1 rs2 imm csr = true) : encode_Encode0 21 rd rs1 rs2 imm csr = sallyportref3_Encode0 21 rd rs1 rs2 imm csr := by
  have h' : sallyportref3_Is0 21 rd rs1 rs2 imm csr = true := (is_eq _ _ _ _ _ _).trans h
  obtain ⟨_, z_rd, z_csr, hn⟩ := enc21 h'
  subst z_rd
  subst z_csr
  have e : sallyportref3_Encode0 21 0 rs1 rs2 imm 0 = iOr .u32 (iOr .u32 (iOr .u32 (iOr .u32 (iOr .u32 35 12288) (iShl .u32 (iConv .u32 rs1) 15)) (iShl .u32 (iConv .u32 rs2) 20)) (iShl .u32 (iAnd .u32 (iShr .u32 (iConv .u32 imm) 5) 127) 25)) (iShl .u32 (iAnd .u32 (iConv .u32 imm) 31) 7) := by
    unfold sallyportref3_Encode0
    rw [h']
    kernel_rfl
  have p : encode_Encode0 21 0 rs1 rs2 imm 0 = (iOr .u32 (iOr .u32 (iOr .u32 (iOr .u32 (iOr .u32 (iOr .u32 (iOr .u32 35 12288) 0) 0) (iShl .u32 (iConv .u32 rs1) 15)) (iShl .u32 (iConv .u32 rs2) 20)) 0) (iOr .u32 (iShl .u32 (iConv .u32 (word_Bits0 (iConv .u64 imm) 5 7)) 25) (iShl .u32 (iConv .u32 (word_Bits0 (iConv .u64 imm) 0 5)) 7))) := by
    unfold encode_Encode0
    rw [h]
    kernel_rfl
  rw [e, p, nb_5_7, nb_0_5, rb_5_7, rb_0_5]
  simp only [orz1, orz2] <;> first | done | ac_rfl
theorem pe22 {rd rs1 rs2 imm csr : Int} (h : insn_Is0 22 rd rs1 rs2 imm csr = true) : encode_Encode0 22 rd rs1 rs2 imm csr = sallyportref3_Encode0 22 rd rs1 rs2 imm csr := by
  have h' : sallyportref3_Is0 22 rd rs1 rs2 imm csr = true := (is_eq _ _ _ _ _ _).trans h
  obtain ⟨_, z_rs2, z_csr, hn⟩ := enc22 h'
  subst z_rs2
  subst z_csr
  have e : sallyportref3_Encode0 22 rd rs1 0 imm 0 = iOr .u32 (iOr .u32 (iOr .u32 (iOr .u32 19 0) (iShl .u32 (iConv .u32 rs1) 15)) (iShl .u32 (iConv .u32 rd) 7)) (iShl .u32 (iAnd .u32 (iConv .u32 imm) 4095) 20) := by
    unfold sallyportref3_Encode0
    rw [h']
    kernel_rfl
  have p : encode_Encode0 22 rd rs1 0 imm 0 = (iOr .u32 (iOr .u32 (iOr .u32 (iOr .u32 (iOr .u32 (iOr .u32 (iOr .u32 19 0) 0) (iShl .u32 (iConv .u32 rd) 7)) (iShl .u32 (iConv .u32 rs1) 15)) 0) 0) (iShl .u32 (iConv .u32 (word_Bits0 (iConv .u64 imm) 0 12)) 20)) := by
    unfold encode_Encode0
    rw [h]
    kernel_rfl
  rw [e, p, nb_0_12, rb_I]
  simp only [orz1, orz2] <;> first | done | ac_rfl
theorem pe23 {rd rs1 rs2 imm csr : Int} (h : insn_Is0 23 rd rs1 rs2 imm csr = true) : encode_Encode0 23 rd rs1 rs2 imm csr = sallyportref3_Encode0 23 rd rs1 rs2 imm csr := by
  have h' : sallyportref3_Is0 23 rd rs1 rs2 imm csr = true := (is_eq _ _ _ _ _ _).trans h
  obtain ⟨_, z_rs2, z_csr, hn⟩ := enc23 h'
  subst z_rs2
  subst z_csr
  have e : sallyportref3_Encode0 23 rd rs1 0 imm 0 = iOr .u32 (iOr .u32 (iOr .u32 (iOr .u32 19 8192) (iShl .u32 (iConv .u32 rs1) 15)) (iShl .u32 (iConv .u32 rd) 7)) (iShl .u32 (iAnd .u32 (iConv .u32 imm) 4095) 20) := by
    unfold sallyportref3_Encode0
    rw [h']
    kernel_rfl
  have p : encode_Encode0 23 rd rs1 0 imm 0 = (iOr .u32 (iOr .u32 (iOr .u32 (iOr .u32 (iOr .u32 (iOr .u32 (iOr .u32 19 8192) 0) (iShl .u32 (iConv .u32 rd) 7)) (iShl .u32 (iConv .u32 rs1) 15)) 0) 0) (iShl .u32 (iConv .u32 (word_Bits0 (iConv .u64 imm) 0 12)) 20)) := by
    unfold encode_Encode0
    rw [h]
    kernel_rfl
  rw [e, p, nb_0_12, rb_I]
  simp only [orz1, orz2] <;> first | done | ac_rfl
theorem pe24 {rd rs1 rs2 imm csr : Int} (h : insn_Is0 24 rd rs1 rs2 imm csr = true) : encode_Encode0 24 rd rs1 rs2 imm csr = sallyportref3_Encode0 24 rd rs1 rs2 imm csr := by
  have h' : sallyportref3_Is0 24 rd rs1 rs2 imm csr = true := (is_eq _ _ _ _ _ _).trans h
  obtain ⟨_, z_rs2, z_csr, hn⟩ := enc24 h'
  subst z_rs2
  subst z_csr
  have e : sallyportref3_Encode0 24 rd rs1 0 imm 0 = iOr .u32 (iOr .u32 (iOr .u32 (iOr .u32 19 12288) (iShl .u32 (iConv .u32 rs1) 15)) (iShl .u32 (iConv .u32 rd) 7)) (iShl .u32 (iAnd .u32 (iConv .u32 imm) 4095) 20) := by
    unfold sallyportref3_Encode0
    rw [h']
    kernel_rfl
  have p : encode_Encode0 24 rd rs1 0 imm 0 = (iOr .u32 (iOr .u32 (iOr .u32 (iOr .u32 (iOr .u32 (iOr .u32 (iOr .u32 19 12288) 0) (iShl .u32 (iConv .u32 rd) 7)) (iShl .u32 (iConv .u32 rs1) 15)) 0) 0) (iShl .u32 (iConv .u32 (word_Bits0 (iConv .u64 imm) 0 12)) 20)) := by
    unfold encode_Encode0
    rw [h]
    kernel_rfl
  rw [e, p, nb_0_12, rb_I]
  simp only [orz1, orz2] <;> first | done | ac_rfl
theorem pe25 {rd rs1 rs2 imm csr : Int} (h : insn_Is0 25 rd rs1 rs2 imm csr = true) : encode_Encode0 25 rd rs1 rs2 imm csr = sallyportref3_Encode0 25 rd rs1 rs2 imm csr := by
  have h' : sallyportref3_Is0 25 rd rs1 rs2 imm csr = true := (is_eq _ _ _ _ _ _).trans h
  obtain ⟨_, z_rs2, z_csr, hn⟩ := enc25 h'
  subst z_rs2
  subst z_csr
  have e : sallyportref3_Encode0 25 rd rs1 0 imm 0 = iOr .u32 (iOr .u32 (iOr .u32 (iOr .u32 19 16384) (iShl .u32 (iConv .u32 rs1) 15)) (iShl .u32 (iConv .u32 rd) 7)) (iShl .u32 (iAnd .u32 (iConv .u32 imm) 4095) 20) := by
    unfold sallyportref3_Encode0
    rw [h']
    kernel_rfl
  have p : encode_Encode0 25 rd rs1 0 imm 0 = (iOr .u32 (iOr .u32 (iOr .u32 (iOr .u32 (iOr .u32 (iOr .u32 (iOr .u32 19 16384) 0) (iShl .u32 (iConv .u32 rd) 7)) (iShl .u32 (iConv .u32 rs1) 15)) 0) 0) (iShl .u32 (iConv .u32 (word_Bits0 (iConv .u64 imm) 0 12)) 20)) := by
    unfold encode_Encode0
    rw [h]
    kernel_rfl
  rw [e, p, nb_0_12, rb_I]
  simp only [orz1, orz2] <;> first | done | ac_rfl
theorem pe26 {rd rs1 rs2 imm csr : Int} (h : insn_Is0 26 rd rs1 rs2 imm csr = true) : encode_Encode0 26 rd rs1 rs2 imm csr = sallyportref3_Encode0 26 rd rs1 rs2 imm csr := by
  have h' : sallyportref3_Is0 26 rd rs1 rs2 imm csr = true := (is_eq _ _ _ _ _ _).trans h
  obtain ⟨_, z_rs2, z_csr, hn⟩ := enc26 h'
  subst z_rs2
  subst z_csr
  have e : sallyportref3_Encode0 26 rd rs1 0 imm 0 = iOr .u32 (iOr .u32 (iOr .u32 (iOr .u32 19 24576) (iShl .u32 (iConv .u32 rs1) 15)) (iShl .u32 (iConv .u32 rd) 7)) (iShl .u32 (iAnd .u32 (iConv .u32 imm) 4095) 20) := by
    unfold sallyportref3_Encode0
    rw [h']
    kernel_rfl
  have p : encode_Encode0 26 rd rs1 0 imm 0 = (iOr .u32 (iOr .u32 (iOr .u32 (iOr .u32 (iOr .u32 (iOr .u32 (iOr .u32 19 24576) 0) (iShl .u32 (iConv .u32 rd) 7)) (iShl .u32 (iConv .u32 rs1) 15)) 0) 0) (iShl .u32 (iConv .u32 (word_Bits0 (iConv .u64 imm) 0 12)) 20)) := by
    unfold encode_Encode0
    rw [h]
    kernel_rfl
  rw [e, p, nb_0_12, rb_I]
  simp only [orz1, orz2] <;> first | done | ac_rfl
theorem pe27 {rd rs1 rs2 imm csr : Int} (h : insn_Is0 27 rd rs1 rs2 imm csr = true) : encode_Encode0 27 rd rs1 rs2 imm csr = sallyportref3_Encode0 27 rd rs1 rs2 imm csr := by
  have h' : sallyportref3_Is0 27 rd rs1 rs2 imm csr = true := (is_eq _ _ _ _ _ _).trans h
  obtain ⟨_, z_rs2, z_csr, hn⟩ := enc27 h'
  subst z_rs2
  subst z_csr
  have e : sallyportref3_Encode0 27 rd rs1 0 imm 0 = iOr .u32 (iOr .u32 (iOr .u32 (iOr .u32 19 28672) (iShl .u32 (iConv .u32 rs1) 15)) (iShl .u32 (iConv .u32 rd) 7)) (iShl .u32 (iAnd .u32 (iConv .u32 imm) 4095) 20) := by
    unfold sallyportref3_Encode0
    rw [h']
    kernel_rfl
  have p : encode_Encode0 27 rd rs1 0 imm 0 = (iOr .u32 (iOr .u32 (iOr .u32 (iOr .u32 (iOr .u32 (iOr .u32 (iOr .u32 19 28672) 0) (iShl .u32 (iConv .u32 rd) 7)) (iShl .u32 (iConv .u32 rs1) 15)) 0) 0) (iShl .u32 (iConv .u32 (word_Bits0 (iConv .u64 imm) 0 12)) 20)) := by
    unfold encode_Encode0
    rw [h]
    kernel_rfl
  rw [e, p, nb_0_12, rb_I]
  simp only [orz1, orz2] <;> first | done | ac_rfl
theorem pe28 {rd rs1 rs2 imm csr : Int} (h : insn_Is0 28 rd rs1 rs2 imm csr = true) : encode_Encode0 28 rd rs1 rs2 imm csr = sallyportref3_Encode0 28 rd rs1 rs2 imm csr := by
  have h' : sallyportref3_Is0 28 rd rs1 rs2 imm csr = true := (is_eq _ _ _ _ _ _).trans h
  obtain ⟨_, z_rs2, z_csr, hn⟩ := enc28 h'
  subst z_rs2
  subst z_csr
  have e : sallyportref3_Encode0 28 rd rs1 0 imm 0 = iOr .u32 (iOr .u32 (iOr .u32 (iOr .u32 (iOr .u32 19 4096) (iShl .u32 (iConv .u32 rs1) 15)) (iShl .u32 (iConv .u32 rd) 7)) (iShl .u32 (iAnd .u32 (iConv .u32 imm) 63) 20)) 0 := by
    unfold sallyportref3_Encode0
    rw [h']
    kernel_rfl
  have p : encode_Encode0 28 rd rs1 0 imm 0 = (iOr .u32 (iOr .u32 (iOr .u32 (iOr .u32 (iOr .u32 (iOr .u32 (iOr .u32 19 4096) 0) (iShl .u32 (iConv .u32 rd) 7)) (iShl .u32 (iConv .u32 rs1) 15)) 0) 0) (iShl .u32 (iConv .u32 (word_Bits0 (iConv .u64 imm) 0 12)) 20)) := by
    unfold encode_Encode0
    rw [h]
    kernel_rfl
  rw [e, p, nb_0_12, rb_Sh (show 0 ≤ imm ∧ imm ≤ 63 by omega)]
  simp only [orz1, orz2] <;> first | done | ac_rfl
theorem pe29 {rd rs1 rs2 imm csr : Int} (h : insn_Is0 29 rd rs1 rs2 imm csr = true) : encode_Encode0 29 rd rs1 rs2 imm csr = sallyportref3_Encode0 29 rd rs1 rs2 imm csr := by
  have h' : sallyportref3_Is0 29 rd rs1 rs2 imm csr = true := (is_eq _ _ _ _ _ _).trans h
  obtain ⟨_, z_rs2, z_csr, hn⟩ := enc29 h'
  subst z_rs2
  subst z_csr
  have e : sallyportref3_Encode0 29 rd rs1 0 imm 0 = iOr .u32 (iOr .u32 (iOr .u32 (iOr .u32 (iOr .u32 19 20480) (iShl .u32 (iConv .u32 rs1) 15)) (iShl .u32 (iConv .u32 rd) 7)) (iShl .u32 (iAnd .u32 (iConv .u32 imm) 63) 20)) 0 := by
    unfold sallyportref3_Encode0
    rw [h']
    kernel_rfl
  have p : encode_Encode0 29 rd rs1 0 imm 0 = (iOr .u32 (iOr .u32 (iOr .u32 (iOr .u32 (iOr .u32 (iOr .u32 (iOr .u32 19 20480) 0) (iShl .u32 (iConv .u32 rd) 7)) (iShl .u32 (iConv .u32 rs1) 15)) 0) 0) (iShl .u32 (iConv .u32 (word_Bits0 (iConv .u64 imm) 0 12)) 20)) := by
    unfold encode_Encode0
    rw [h]
    kernel_rfl
  rw [e, p, nb_0_12, rb_Sh (show 0 ≤ imm ∧ imm ≤ 63 by omega)]
  simp only [orz1, orz2] <;> first | done | ac_rfl
theorem pe30 {rd rs1 rs2 imm csr : Int} (h : insn_Is0 30 rd rs1 rs2 imm csr = true) : encode_Encode0 30 rd rs1 rs2 imm csr = sallyportref3_Encode0 30 rd rs1 rs2 imm csr := by
  have h' : sallyportref3_Is0 30 rd rs1 rs2 imm csr = true := (is_eq _ _ _ _ _ _).trans h
  obtain ⟨_, z_rs2, z_csr, hn⟩ := enc30 h'
  subst z_rs2
  subst z_csr
  have e : sallyportref3_Encode0 30 rd rs1 0 imm 0 = iOr .u32 (iOr .u32 (iOr .u32 (iOr .u32 (iOr .u32 19 20480) (iShl .u32 (iConv .u32 rs1) 15)) (iShl .u32 (iConv .u32 rd) 7)) (iShl .u32 (iAnd .u32 (iConv .u32 imm) 63) 20)) 1073741824 := by
    unfold sallyportref3_Encode0
    rw [h']
    kernel_rfl
  have p : encode_Encode0 30 rd rs1 0 imm 0 = (iOr .u32 (iOr .u32 (iOr .u32 (iOr .u32 (iOr .u32 (iOr .u32 (iOr .u32 19 20480) 1073741824) (iShl .u32 (iConv .u32 rd) 7)) (iShl .u32 (iConv .u32 rs1) 15)) 0) 0) (iShl .u32 (iConv .u32 (word_Bits0 (iConv .u64 imm) 0 12)) 20)) := by
    unfold encode_Encode0
    rw [h]
    kernel_rfl
  rw [e, p, nb_0_12, rb_Sh (show 0 ≤ imm ∧ imm ≤ 63 by omega)]
  simp only [orz1, orz2] <;> first | done | ac_rfl
theorem pe31 {rd rs1 rs2 imm csr : Int} (h : insn_Is0 31 rd rs1 rs2 imm csr = true) : encode_Encode0 31 rd rs1 rs2 imm csr = sallyportref3_Encode0 31 rd rs1 rs2 imm csr := by
  have h' : sallyportref3_Is0 31 rd rs1 rs2 imm csr = true := (is_eq _ _ _ _ _ _).trans h
  obtain ⟨_, z_rs2, z_csr, hn⟩ := enc31 h'
  subst z_rs2
  subst z_csr
  have e : sallyportref3_Encode0 31 rd rs1 0 imm 0 = iOr .u32 (iOr .u32 (iOr .u32 (iOr .u32 27 0) (iShl .u32 (iConv .u32 rs1) 15)) (iShl .u32 (iConv .u32 rd) 7)) (iShl .u32 (iAnd .u32 (iConv .u32 imm) 4095) 20) := by
    unfold sallyportref3_Encode0
    rw [h']
    kernel_rfl
  have p : encode_Encode0 31 rd rs1 0 imm 0 = (iOr .u32 (iOr .u32 (iOr .u32 (iOr .u32 (iOr .u32 (iOr .u32 (iOr .u32 27 0) 0) (iShl .u32 (iConv .u32 rd) 7)) (iShl .u32 (iConv .u32 rs1) 15)) 0) 0) (iShl .u32 (iConv .u32 (word_Bits0 (iConv .u64 imm) 0 12)) 20)) := by
    unfold encode_Encode0
    rw [h]
    kernel_rfl
  rw [e, p, nb_0_12, rb_I]
  simp only [orz1, orz2] <;> first | done | ac_rfl
theorem pe32 {rd rs1 rs2 imm csr : Int} (h : insn_Is0 32 rd rs1 rs2 imm csr = true) : encode_Encode0 32 rd rs1 rs2 imm csr = sallyportref3_Encode0 32 rd rs1 rs2 imm csr := by
  have h' : sallyportref3_Is0 32 rd rs1 rs2 imm csr = true := (is_eq _ _ _ _ _ _).trans h
  obtain ⟨_, z_rs2, z_csr, hn⟩ := enc32 h'
  subst z_rs2
  subst z_csr
  have e : sallyportref3_Encode0 32 rd rs1 0 imm 0 = iOr .u32 (iOr .u32 (iOr .u32 (iOr .u32 (iOr .u32 27 4096) (iShl .u32 (iConv .u32 rs1) 15)) (iShl .u32 (iConv .u32 rd) 7)) (iShl .u32 (iAnd .u32 (iConv .u32 imm) 63) 20)) 0 := by
    unfold sallyportref3_Encode0
    rw [h']
    kernel_rfl
  have p : encode_Encode0 32 rd rs1 0 imm 0 = (iOr .u32 (iOr .u32 (iOr .u32 (iOr .u32 (iOr .u32 (iOr .u32 (iOr .u32 27 4096) 0) (iShl .u32 (iConv .u32 rd) 7)) (iShl .u32 (iConv .u32 rs1) 15)) 0) 0) (iShl .u32 (iConv .u32 (word_Bits0 (iConv .u64 imm) 0 12)) 20)) := by
    unfold encode_Encode0
    rw [h]
    kernel_rfl
  rw [e, p, nb_0_12, rb_Sh (show 0 ≤ imm ∧ imm ≤ 63 by omega)]
  simp only [orz1, orz2] <;> first | done | ac_rfl
theorem pe33 {rd rs1 rs2 imm csr : Int} (h : insn_Is0 33 rd rs1 rs2 imm csr = true) : encode_Encode0 33 rd rs1 rs2 imm csr = sallyportref3_Encode0 33 rd rs1 rs2 imm csr := by
  have h' : sallyportref3_Is0 33 rd rs1 rs2 imm csr = true := (is_eq _ _ _ _ _ _).trans h
  obtain ⟨_, z_rs2, z_csr, hn⟩ := enc33 h'
  subst z_rs2
  subst z_csr
  have e : sallyportref3_Encode0 33 rd rs1 0 imm 0 = iOr .u32 (iOr .u32 (iOr .u32 (iOr .u32 (iOr .u32 27 20480) (iShl .u32 (iConv .u32 rs1) 15)) (iShl .u32 (iConv .u32 rd) 7)) (iShl .u32 (iAnd .u32 (iConv .u32 imm) 63) 20)) 0 := by
    unfold sallyportref3_Encode0
    rw [h']
    kernel_rfl
  have p : encode_Encode0 33 rd rs1 0 imm 0 = (iOr .u32 (iOr .u32 (iOr .u32 (iOr .u32 (iOr .u32 (iOr .u32 (iOr .u32 27 20480) 0) (iShl .u32 (iConv .u32 rd) 7)) (iShl .u32 (iConv .u32 rs1) 15)) 0) 0) (iShl .u32 (iConv .u32 (word_Bits0 (iConv .u64 imm) 0 12)) 20)) := by
    unfold encode_Encode0
    rw [h]
    kernel_rfl
  rw [e, p, nb_0_12, rb_Sh (show 0 ≤ imm ∧ imm ≤ 63 by omega)]
  simp only [orz1, orz2] <;> first | done | ac_rfl
theorem pe34 {rd rs1 rs2 imm csr : Int} (h : insn_Is0 34 rd rs1 rs2 imm csr = true) : encode_Encode0 34 rd rs1 rs2 imm csr = sallyportref3_Encode0 34 rd rs1 rs2 imm csr := by
  have h' : sallyportref3_Is0 34 rd rs1 rs2 imm csr = true := (is_eq _ _ _ _ _ _).trans h
  obtain ⟨_, z_rs2, z_csr, hn⟩ := enc34 h'
  subst z_rs2
  subst z_csr
  have e : sallyportref3_Encode0 34 rd rs1 0 imm 0 = iOr .u32 (iOr .u32 (iOr .u32 (iOr .u32 (iOr .u32 27 20480) (iShl .u32 (iConv .u32 rs1) 15)) (iShl .u32 (iConv .u32 rd) 7)) (iShl .u32 (iAnd .u32 (iConv .u32 imm) 63) 20)) 1073741824 := by
    unfold sallyportref3_Encode0
    rw [h']
    kernel_rfl
  have p : encode_Encode0 34 rd rs1 0 imm 0 = (iOr .u32 (iOr .u32 (iOr .u32 (iOr .u32 (iOr .u32 (iOr .u32 (iOr .u32 27 20480) 1073741824) (iShl .u32 (iConv .u32 rd) 7)) (iShl .u32 (iConv .u32 rs1) 15)) 0) 0) (iShl .u32 (iConv .u32 (word_Bits0 (iConv .u64 imm) 0 12)) 20)) := by
    unfold encode_Encode0
    rw [h]
    kernel_rfl
  rw [e, p, nb_0_12, rb_Sh (show 0 ≤ imm ∧ imm ≤ 63 by omega)]
  simp only [orz1, orz2] <;> first | done | ac_rfl
theorem pe35 {rd rs1 rs2 imm csr : Int} (h : insn_Is0 35 rd rs1 rs2 imm csr = true) : encode_Encode0 35 rd rs1 rs2 imm csr = sallyportref3_Encode0 35 rd rs1 rs2 imm csr := by
  have h' : sallyportref3_Is0 35 rd rs1 rs2 imm csr = true := (is_eq _ _ _ _ _ _).trans h
  obtain ⟨_, z_csr, z_imm⟩ := enc35 h'
  subst z_csr
  subst z_imm
  have e : sallyportref3_Encode0 35 rd rs1 rs2 0 0 = iOr .u32 (iOr .u32 (iOr .u32 (iOr .u32 (iOr .u32 51 0) (iShl .u32 (iConv .u32 rs1) 15)) (iShl .u32 (iConv .u32 rd) 7)) (iShl .u32 (iConv .u32 rs2) 20)) 0 := by
    unfold sallyportref3_Encode0
    rw [h']
    kernel_rfl
  have p : encode_Encode0 35 rd rs1 rs2 0 0 = (iOr .u32 (iOr .u32 (iOr .u32 (iOr .u32 (iOr .u32 (iOr .u32 (iOr .u32 51 0) 0) (iShl .u32 (iConv .u32 rd) 7)) (iShl .u32 (iConv .u32 rs1) 15)) (iShl .u32 (iConv .u32 rs2) 20)) 0) 0) := by
    unfold encode_Encode0
    rw [h]
    kernel_rfl
  rw [e, p]
  simp only [orz1, orz2] <;> first | done | ac_rfl
theorem pe36 {rd rs1 rs2 imm csr : Int} (h : insn_Is0 36 rd rs1 rs2 imm csr = true) : encode_Encode0 36 rd rs1 rs2 imm csr = sallyportref3_Encode0 36 rd rs1 rs2 imm csr := by
  have h' : sallyportref3_Is0 36 rd rs1 rs2 imm csr = true := (is_eq _ _ _ _ _ _).trans h
  obtain ⟨_, z_csr, z_imm⟩ := enc36 h'
  subst z_csr
  subst z_imm
  have e : sallyportref3_Encode0 36 rd rs1 rs2 0 0 = iOr .u32 (iOr .u32 (iOr .u32 (iOr .u32 (iOr .u32 51 0) (iShl .u32 (iConv .u32 rs1) 15)) (iShl .u32 (iConv .u32 rd) 7)) (iShl .u32 (iConv .u32 rs2) 20)) 1073741824 := by
    unfold sallyportref3_Encode0
    rw [h']
    kernel_rfl
  have p : encode_Encode0 36 rd rs1 rs2 0 0 = (iOr .u32 (iOr .u32 (iOr .u32 (iOr .u32 (iOr .u32 (iOr .u32 (iOr .u32 51 0) 1073741824) (iShl .u32 (iConv .u32 rd) 7)) (iShl .u32 (iConv .u32 rs1) 15)) (iShl .u32 (iConv .u32 rs2) 20)) 0) 0) := by
    unfold encode_Encode0
    rw [h]
    kernel_rfl
  rw [e, p]
  simp only [orz1, orz2] <;> first | done | ac_rfl
theorem pe37 {rd rs1 rs2 imm csr : Int} (h : insn_Is0 37 rd rs1 rs2 imm csr = true) : encode_Encode0 37 rd rs1 rs2 imm csr = sallyportref3_Encode0 37 rd rs1 rs2 imm csr := by
  have h' : sallyportref3_Is0 37 rd rs1 rs2 imm csr = true := (is_eq _ _ _ _ _ _).trans h
  obtain ⟨_, z_csr, z_imm⟩ := enc37 h'
  subst z_csr
  subst z_imm
  have e : sallyportref3_Encode0 37 rd rs1 rs2 0 0 = iOr .u32 (iOr .u32 (iOr .u32 (iOr .u32 (iOr .u32 51 4096) (iShl .u32 (iConv .u32 rs1) 15)) (iShl .u32 (iConv .u32 rd) 7)) (iShl .u32 (iConv .u32 rs2) 20)) 0 := by
    unfold sallyportref3_Encode0
    rw [h']
    kernel_rfl
  have p : encode_Encode0 37 rd rs1 rs2 0 0 = (iOr .u32 (iOr .u32 (iOr .u32 (iOr .u32 (iOr .u32 (iOr .u32 (iOr .u32 51 4096) 0) (iShl .u32 (iConv .u32 rd) 7)) (iShl .u32 (iConv .u32 rs1) 15)) (iShl .u32 (iConv .u32 rs2) 20)) 0) 0) := by
    unfold encode_Encode0
    rw [h]
    kernel_rfl
  rw [e, p]
  simp only [orz1, orz2] <;> first | done | ac_rfl
theorem pe38 {rd rs1 rs2 imm csr : Int} (h : insn_Is0 38 rd rs1 rs2 imm csr = true) : encode_Encode0 38 rd rs1 rs2 imm csr = sallyportref3_Encode0 38 rd rs1 rs2 imm csr := by
  have h' : sallyportref3_Is0 38 rd rs1 rs2 imm csr = true := (is_eq _ _ _ _ _ _).trans h
  obtain ⟨_, z_csr, z_imm⟩ := enc38 h'
  subst z_csr
  subst z_imm
  have e : sallyportref3_Encode0 38 rd rs1 rs2 0 0 = iOr .u32 (iOr .u32 (iOr .u32 (iOr .u32 (iOr .u32 51 8192) (iShl .u32 (iConv .u32 rs1) 15)) (iShl .u32 (iConv .u32 rd) 7)) (iShl .u32 (iConv .u32 rs2) 20)) 0 := by
    unfold sallyportref3_Encode0
    rw [h']
    kernel_rfl
  have p : encode_Encode0 38 rd rs1 rs2 0 0 = (iOr .u32 (iOr .u32 (iOr .u32 (iOr .u32 (iOr .u32 (iOr .u32 (iOr .u32 51 8192) 0) (iShl .u32 (iConv .u32 rd) 7)) (iShl .u32 (iConv .u32 rs1) 15)) (iShl .u32 (iConv .u32 rs2) 20)) 0) 0) := by
    unfold encode_Encode0
    rw [h]
    kernel_rfl
  rw [e, p]
  simp only [orz1, orz2] <;> first | done | ac_rfl
theorem pe39 {rd rs1 rs2 imm csr : Int} (h : insn_Is0 39 rd rs1 rs2 imm csr = true) : encode_Encode0 39 rd rs1 rs2 imm csr = sallyportref3_Encode0 39 rd rs1 rs2 imm csr := by
  have h' : sallyportref3_Is0 39 rd rs1 rs2 imm csr = true := (is_eq _ _ _ _ _ _).trans h
  obtain ⟨_, z_csr, z_imm⟩ := enc39 h'
  subst z_csr
  subst z_imm
  have e : sallyportref3_Encode0 39 rd rs1 rs2 0 0 = iOr .u32 (iOr .u32 (iOr .u32 (iOr .u32 (iOr .u32 51 12288) (iShl .u32 (iConv .u32 rs1) 15)) (iShl .u32 (iConv .u32 rd) 7)) (iShl .u32 (iConv .u32 rs2) 20)) 0 := by
    unfold sallyportref3_Encode0
    rw [h']
    kernel_rfl
  have p : encode_Encode0 39 rd rs1 rs2 0 0 = (iOr .u32 (iOr .u32 (iOr .u32 (iOr .u32 (iOr .u32 (iOr .u32 (iOr .u32 51 12288) 0) (iShl .u32 (iConv .u32 rd) 7)) (iShl .u32 (iConv .u32 rs1) 15)) (iShl .u32 (iConv .u32 rs2) 20)) 0) 0) := by
    unfold encode_Encode0
    rw [h]
    kernel_rfl
  rw [e, p]
  simp only [orz1, orz2] <;> first | done | ac_rfl
theorem pe40 {rd rs1 rs2 imm csr : Int} (h : insn_Is0 40 rd rs1 rs2 imm csr = true) : encode_Encode0 40 rd rs1 rs2 imm csr = sallyportref3_Encode0 40 rd rs1 rs2 imm csr := by
  have h' : sallyportref3_Is0 40 rd rs1 rs2 imm csr = true := (is_eq _ _ _ _ _ _).trans h
  obtain ⟨_, z_csr, z_imm⟩ := enc40 h'
  subst z_csr
  subst z_imm
  have e : sallyportref3_Encode0 40 rd rs1 rs2 0 0 = iOr .u32 (iOr .u32 (iOr .u32 (iOr .u32 (iOr .u32 51 16384) (iShl .u32 (iConv .u32 rs1) 15)) (iShl .u32 (iConv .u32 rd) 7)) (iShl .u32 (iConv .u32 rs2) 20)) 0 := by
    unfold sallyportref3_Encode0
    rw [h']
    kernel_rfl
  have p : encode_Encode0 40 rd rs1 rs2 0 0 = (iOr .u32 (iOr .u32 (iOr .u32 (iOr .u32 (iOr .u32 (iOr .u32 (iOr .u32 51 16384) 0) (iShl .u32 (iConv .u32 rd) 7)) (iShl .u32 (iConv .u32 rs1) 15)) (iShl .u32 (iConv .u32 rs2) 20)) 0) 0) := by
    unfold encode_Encode0
    rw [h]
    kernel_rfl
  rw [e, p]
  simp only [orz1, orz2] <;> first | done | ac_rfl
theorem pe41 {rd rs1 rs2 imm csr : Int} (h : insn_Is0 41 rd rs1 rs2 imm csr = true) : encode_Encode0 41 rd rs1 rs2 imm csr = sallyportref3_Encode0 41 rd rs1 rs2 imm csr := by
  have h' : sallyportref3_Is0 41 rd rs1 rs2 imm csr = true := (is_eq _ _ _ _ _ _).trans h
  obtain ⟨_, z_csr, z_imm⟩ := enc41 h'
  subst z_csr
  subst z_imm
  have e : sallyportref3_Encode0 41 rd rs1 rs2 0 0 = iOr .u32 (iOr .u32 (iOr .u32 (iOr .u32 (iOr .u32 51 20480) (iShl .u32 (iConv .u32 rs1) 15)) (iShl .u32 (iConv .u32 rd) 7)) (iShl .u32 (iConv .u32 rs2) 20)) 0 := by
    unfold sallyportref3_Encode0
    rw [h']
    kernel_rfl
  have p : encode_Encode0 41 rd rs1 rs2 0 0 = (iOr .u32 (iOr .u32 (iOr .u32 (iOr .u32 (iOr .u32 (iOr .u32 (iOr .u32 51 20480) 0) (iShl .u32 (iConv .u32 rd) 7)) (iShl .u32 (iConv .u32 rs1) 15)) (iShl .u32 (iConv .u32 rs2) 20)) 0) 0) := by
    unfold encode_Encode0
    rw [h]
    kernel_rfl
  rw [e, p]
  simp only [orz1, orz2] <;> first | done | ac_rfl
theorem pe42 {rd rs1 rs2 imm csr : Int} (h : insn_Is0 42 rd rs1 rs2 imm csr = true) : encode_Encode0 42 rd rs1 rs2 imm csr = sallyportref3_Encode0 42 rd rs1 rs2 imm csr := by
  have h' : sallyportref3_Is0 42 rd rs1 rs2 imm csr = true := (is_eq _ _ _ _ _ _).trans h
  obtain ⟨_, z_csr, z_imm⟩ := enc42 h'
  subst z_csr
  subst z_imm
  have e : sallyportref3_Encode0 42 rd rs1 rs2 0 0 = iOr .u32 (iOr .u32 (iOr .u32 (iOr .u32 (iOr .u32 51 20480) (iShl .u32 (iConv .u32 rs1) 15)) (iShl .u32 (iConv .u32 rd) 7)) (iShl .u32 (iConv .u32 rs2) 20)) 1073741824 := by
    unfold sallyportref3_Encode0
    rw [h']
    kernel_rfl
  have p : encode_Encode0 42 rd rs1 rs2 0 0 = (iOr .u32 (iOr .u32 (iOr .u32 (iOr .u32 (iOr .u32 (iOr .u32 (iOr .u32 51 20480) 1073741824) (iShl .u32 (iConv .u32 rd) 7)) (iShl .u32 (iConv .u32 rs1) 15)) (iShl .u32 (iConv .u32 rs2) 20)) 0) 0) := by
    unfold encode_Encode0
    rw [h]
    kernel_rfl
  rw [e, p]
  simp only [orz1, orz2] <;> first | done | ac_rfl
theorem pe43 {rd rs1 rs2 imm csr : Int} (h : insn_Is0 43 rd rs1 rs2 imm csr = true) : encode_Encode0 43 rd rs1 rs2 imm csr = sallyportref3_Encode0 43 rd rs1 rs2 imm csr := by
  have h' : sallyportref3_Is0 43 rd rs1 rs2 imm csr = true := (is_eq _ _ _ _ _ _).trans h
  obtain ⟨_, z_csr, z_imm⟩ := enc43 h'
  subst z_csr
  subst z_imm
  have e : sallyportref3_Encode0 43 rd rs1 rs2 0 0 = iOr .u32 (iOr .u32 (iOr .u32 (iOr .u32 (iOr .u32 51 24576) (iShl .u32 (iConv .u32 rs1) 15)) (iShl .u32 (iConv .u32 rd) 7)) (iShl .u32 (iConv .u32 rs2) 20)) 0 := by
    unfold sallyportref3_Encode0
    rw [h']
    kernel_rfl
  have p : encode_Encode0 43 rd rs1 rs2 0 0 = (iOr .u32 (iOr .u32 (iOr .u32 (iOr .u32 (iOr .u32 (iOr .u32 (iOr .u32 51 24576) 0) (iShl .u32 (iConv .u32 rd) 7)) (iShl .u32 (iConv .u32 rs1) 15)) (iShl .u32 (iConv .u32 rs2) 20)) 0) 0) := by
    unfold encode_Encode0
    rw [h]
    kernel_rfl
  rw [e, p]
  simp only [orz1, orz2] <;> first | done | ac_rfl
theorem pe44 {rd rs1 rs2 imm csr : Int} (h : insn_Is0 44 rd rs1 rs2 imm csr = true) : encode_Encode0 44 rd rs1 rs2 imm csr = sallyportref3_Encode0 44 rd rs1 rs2 imm csr := by
  have h' : sallyportref3_Is0 44 rd rs1 rs2 imm csr = true := (is_eq _ _ _ _ _ _).trans h
  obtain ⟨_, z_csr, z_imm⟩ := enc44 h'
  subst z_csr
  subst z_imm
  have e : sallyportref3_Encode0 44 rd rs1 rs2 0 0 = iOr .u32 (iOr .u32 (iOr .u32 (iOr .u32 (iOr .u32 51 28672) (iShl .u32 (iConv .u32 rs1) 15)) (iShl .u32 (iConv .u32 rd) 7)) (iShl .u32 (iConv .u32 rs2) 20)) 0 := by
    unfold sallyportref3_Encode0
    rw [h']
    kernel_rfl
  have p : encode_Encode0 44 rd rs1 rs2 0 0 = (iOr .u32 (iOr .u32 (iOr .u32 (iOr .u32 (iOr .u32 (iOr .u32 (iOr .u32 51 28672) 0) (iShl .u32 (iConv .u32 rd) 7)) (iShl .u32 (iConv .u32 rs1) 15)) (iShl .u32 (iConv .u32 rs2) 20)) 0) 0) := by
    unfold encode_Encode0
    rw [h]
    kernel_rfl
  rw [e, p]
  simp only [orz1, orz2] <;> first | done | ac_rfl
theorem pe45 {rd rs1 rs2 imm csr : Int} (h : insn_Is0 45 rd rs1 rs2 imm csr = true) : encode_Encode0 45 rd rs1 rs2 imm csr = sallyportref3_Encode0 45 rd rs1 rs2 imm csr := by
  have h' : sallyportref3_Is0 45 rd rs1 rs2 imm csr = true := (is_eq _ _ _ _ _ _).trans h
  obtain ⟨_, z_csr, z_imm⟩ := enc45 h'
  subst z_csr
  subst z_imm
  have e : sallyportref3_Encode0 45 rd rs1 rs2 0 0 = iOr .u32 (iOr .u32 (iOr .u32 (iOr .u32 (iOr .u32 59 0) (iShl .u32 (iConv .u32 rs1) 15)) (iShl .u32 (iConv .u32 rd) 7)) (iShl .u32 (iConv .u32 rs2) 20)) 0 := by
    unfold sallyportref3_Encode0
    rw [h']
    kernel_rfl
  have p : encode_Encode0 45 rd rs1 rs2 0 0 = (iOr .u32 (iOr .u32 (iOr .u32 (iOr .u32 (iOr .u32 (iOr .u32 (iOr .u32 59 0) 0) (iShl .u32 (iConv .u32 rd) 7)) (iShl .u32 (iConv .u32 rs1) 15)) (iShl .u32 (iConv .u32 rs2) 20)) 0) 0) := by
    unfold encode_Encode0
    rw [h]
    kernel_rfl
  rw [e, p]
  simp only [orz1, orz2] <;> first | done | ac_rfl
theorem pe46 {rd rs1 rs2 imm csr : Int} (h : insn_Is0 46 rd rs1 rs2 imm csr = true) : encode_Encode0 46 rd rs1 rs2 imm csr = sallyportref3_Encode0 46 rd rs1 rs2 imm csr := by
  have h' : sallyportref3_Is0 46 rd rs1 rs2 imm csr = true := (is_eq _ _ _ _ _ _).trans h
  obtain ⟨_, z_csr, z_imm⟩ := enc46 h'
  subst z_csr
  subst z_imm
  have e : sallyportref3_Encode0 46 rd rs1 rs2 0 0 = iOr .u32 (iOr .u32 (iOr .u32 (iOr .u32 (iOr .u32 59 0) (iShl .u32 (iConv .u32 rs1) 15)) (iShl .u32 (iConv .u32 rd) 7)) (iShl .u32 (iConv .u32 rs2) 20)) 1073741824 := by
    unfold sallyportref3_Encode0
    rw [h']
    kernel_rfl
  have p : encode_Encode0 46 rd rs1 rs2 0 0 = (iOr .u32 (iOr .u32 (iOr .u32 (iOr .u32 (iOr .u32 (iOr .u32 (iOr .u32 59 0) 1073741824) (iShl .u32 (iConv .u32 rd) 7)) (iShl .u32 (iConv .u32 rs1) 15)) (iShl .u32 (iConv .u32 rs2) 20)) 0) 0) := by
    unfold encode_Encode0
    rw [h]
    kernel_rfl
  rw [e, p]
  simp only [orz1, orz2] <;> first | done | ac_rfl
theorem pe47 {rd rs1 rs2 imm csr : Int} (h : insn_Is0 47 rd rs1 rs2 imm csr = true) : encode_Encode0 47 rd rs1 rs2 imm csr = sallyportref3_Encode0 47 rd rs1 rs2 imm csr := by
  have h' : sallyportref3_Is0 47 rd rs1 rs2 imm csr = true := (is_eq _ _ _ _ _ _).trans h
  obtain ⟨_, z_csr, z_imm⟩ := enc47 h'
  subst z_csr
  subst z_imm
  have e : sallyportref3_Encode0 47 rd rs1 rs2 0 0 = iOr .u32 (iOr .u32 (iOr .u32 (iOr .u32 (iOr .u32 59 4096) (iShl .u32 (iConv .u32 rs1) 15)) (iShl .u32 (iConv .u32 rd) 7)) (iShl .u32 (iConv .u32 rs2) 20)) 0 := by
    unfold sallyportref3_Encode0
    rw [h']
    kernel_rfl
  have p : encode_Encode0 47 rd rs1 rs2 0 0 = (iOr .u32 (iOr .u32 (iOr .u32 (iOr .u32 (iOr .u32 (iOr .u32 (iOr .u32 59 4096) 0) (iShl .u32 (iConv .u32 rd) 7)) (iShl .u32 (iConv .u32 rs1) 15)) (iShl .u32 (iConv .u32 rs2) 20)) 0) 0) := by
    unfold encode_Encode0
    rw [h]
    kernel_rfl
  rw [e, p]
  simp only [orz1, orz2] <;> first | done | ac_rfl
theorem pe48 {rd rs1 rs2 imm csr : Int} (h : insn_Is0 48 rd rs1 rs2 imm csr = true) : encode_Encode0 48 rd rs1 rs2 imm csr = sallyportref3_Encode0 48 rd rs1 rs2 imm csr := by
  have h' : sallyportref3_Is0 48 rd rs1 rs2 imm csr = true := (is_eq _ _ _ _ _ _).trans h
  obtain ⟨_, z_csr, z_imm⟩ := enc48 h'
  subst z_csr
  subst z_imm
  have e : sallyportref3_Encode0 48 rd rs1 rs2 0 0 = iOr .u32 (iOr .u32 (iOr .u32 (iOr .u32 (iOr .u32 59 20480) (iShl .u32 (iConv .u32 rs1) 15)) (iShl .u32 (iConv .u32 rd) 7)) (iShl .u32 (iConv .u32 rs2) 20)) 0 := by
    unfold sallyportref3_Encode0
    rw [h']
    kernel_rfl
  have p : encode_Encode0 48 rd rs1 rs2 0 0 = (iOr .u32 (iOr .u32 (iOr .u32 (iOr .u32 (iOr .u32 (iOr .u32 (iOr .u32 59 20480) 0) (iShl .u32 (iConv .u32 rd) 7)) (iShl .u32 (iConv .u32 rs1) 15)) (iShl .u32 (iConv .u32 rs2) 20)) 0) 0) := by
    unfold encode_Encode0
    rw [h]
    kernel_rfl
  rw [e, p]
  simp only [orz1, orz2] <;> first | done | ac_rfl
theorem pe49 {rd rs1 rs2 imm csr : Int} (h : insn_Is0 49 rd rs1 rs2 imm csr = true) : encode_Encode0 49 rd rs1 rs2 imm csr = sallyportref3_Encode0 49 rd rs1 rs2 imm csr := by
  have h' : sallyportref3_Is0 49 rd rs1 rs2 imm csr = true := (is_eq _ _ _ _ _ _).trans h
  obtain ⟨_, z_csr, z_imm⟩ := enc49 h'
  subst z_csr
  subst z_imm
  have e : sallyportref3_Encode0 49 rd rs1 rs2 0 0 = iOr .u32 (iOr .u32 (iOr .u32 (iOr .u32 (iOr .u32 59 20480) (iShl .u32 (iConv .u32 rs1) 15)) (iShl .u32 (iConv .u32 rd) 7)) (iShl .u32 (iConv .u32 rs2) 20)) 1073741824 := by
    unfold sallyportref3_Encode0
    rw [h']
    kernel_rfl
  have p : encode_Encode0 49 rd rs1 rs2 0 0 = (iOr .u32 (iOr .u32 (iOr .u32 (iOr .u32 (iOr .u32 (iOr .u32 (iOr .u32 59 20480) 1073741824) (iShl .u32 (iConv .u32 rd) 7)) (iShl .u32 (iConv .u32 rs1) 15)) (iShl .u32 (iConv .u32 rs2) 20)) 0) 0) := by
    unfold encode_Encode0
    rw [h]
    kernel_rfl
  rw [e, p]
  simp only [orz1, orz2] <;> first | done | ac_rfl
theorem pe50 {rd rs1 rs2 imm csr : Int} (h : insn_Is0 50 rd rs1 rs2 imm csr = true) : encode_Encode0 50 rd rs1 rs2 imm csr = sallyportref3_Encode0 50 rd rs1 rs2 imm csr := by
  have h' : sallyportref3_Is0 50 rd rs1 rs2 imm csr = true := (is_eq _ _ _ _ _ _).trans h
  obtain ⟨_, z_rd, z_rs1, z_rs2, z_csr, z_imm⟩ := enc50 h'
  subst z_rd
  subst z_rs1
  subst z_rs2
  subst z_csr
  subst z_imm
  have e : sallyportref3_Encode0 50 0 0 0 0 0 = 267386895 := by
    unfold sallyportref3_Encode0
    rw [h']
    kernel_rfl
  have p : encode_Encode0 50 0 0 0 0 0 = (iOr .u32 (iOr .u32 (iOr .u32 (iOr .u32 (iOr .u32 (iOr .u32 (iOr .u32 267386895 0) 0) 0) 0) 0) 0) 0) := by
    unfold encode_Encode0
    rw [h]
    kernel_rfl
  rw [e, p]
  decide +kernel
theorem pe51 {rd rs1 rs2 imm csr : Int} (h : insn_Is0 51 rd rs1 rs2 imm csr = true) : encode_Encode0 51 rd rs1 rs2 imm csr = sallyportref3_Encode0 51 rd rs1 rs2 imm csr := by
  have h' : sallyportref3_Is0 51 rd rs1 rs2 imm csr = true := (is_eq _ _ _ _ _ _).trans h
  obtain ⟨_, z_rd, z_rs1, z_rs2, z_csr, z_imm⟩ := enc51 h'
  subst z_rd
  subst z_rs1
  subst z_rs2
  subst z_csr
  subst z_imm
  have e : sallyportref3_Encode0 51 0 0 0 0 0 = 4111 := by
    unfold sallyportref3_Encode0
    rw [h']
    kernel_rfl
  have p : encode_Encode0 51 0 0 0 0 0 = (iOr .u32 (iOr .u32 (iOr .u32 (iOr .u32 (iOr .u32 (iOr .u32 (iOr .u32 15 4096) 0) 0) 0) 0) 0) 0) := by
    unfold encode_Encode0
    rw [h]
    kernel_rfl
  rw [e, p]
  decide +kernel
theorem pe52 {rd rs1 rs2 imm csr : Int} (h : insn_Is0 52 rd rs1 rs2 imm csr = true) : encode_Encode0 52 rd rs1 rs2 imm csr = sallyportref3_Encode0 52 rd rs1 rs2 imm csr := by
  have h' : sallyportref3_Is0 52 rd rs1 rs2 imm csr = true := (is_eq _ _ _ _ _ _).trans h
  obtain ⟨_, z_rd, z_rs1, z_rs2, z_csr, z_imm⟩ := enc52 h'
  subst z_rd
  subst z_rs1
  subst z_rs2
  subst z_csr
  subst z_imm
  have e : sallyportref3_Encode0 52 0 0 0 0 0 = 115 := by
    unfold sallyportref3_Encode0
    rw [h']
    kernel_rfl
  have p : encode_Encode0 52 0 0 0 0 0 = (iOr .u32 (iOr .u32 (iOr .u32 (iOr .u32 (iOr .u32 (iOr .u32 (iOr .u32 115 0) 0) 0) 0) 0) 0) 0) := by
    unfold encode_Encode0
    rw [h]
    kernel_rfl
  rw [e, p]
  decide +kernel
theorem pe53 {rd rs1 rs2 imm csr : Int} (h : insn_Is0 53 rd rs1 rs2 imm csr = true) : encode_Encode0 53 rd rs1 rs2 imm csr = sallyportref3_Encode0 53 rd rs1 rs2 imm csr := by
  have h' : sallyportref3_Is0 53 rd rs1 rs2 imm csr = true := (is_eq _ _ _ _ _ _).trans h
  obtain ⟨_, z_rd, z_rs1, z_rs2, z_csr, z_imm⟩ := enc53 h'
  subst z_rd
  subst z_rs1
  subst z_rs2
  subst z_csr
  subst z_imm
  have e : sallyportref3_Encode0 53 0 0 0 0 0 = 1048691 := by
    unfold sallyportref3_Encode0
    rw [h']
    kernel_rfl
  have p : encode_Encode0 53 0 0 0 0 0 = (iOr .u32 (iOr .u32 (iOr .u32 (iOr .u32 (iOr .u32 (iOr .u32 (iOr .u32 1048691 0) 0) 0) 0) 0) 0) 0) := by
    unfold encode_Encode0
    rw [h]
    kernel_rfl
  rw [e, p]
  decide +kernel
theorem pe54 {rd rs1 rs2 imm csr : Int} (h : insn_Is0 54 rd rs1 rs2 imm csr = true) : encode_Encode0 54 rd rs1 rs2 imm csr = sallyportref3_Encode0 54 rd rs1 rs2 imm csr := by
  have h' : sallyportref3_Is0 54 rd rs1 rs2 imm csr = true := (is_eq _ _ _ _ _ _).trans h
  obtain ⟨_, z_rs2, z_imm⟩ := enc54 h'
  subst z_rs2
  subst z_imm
  have e : sallyportref3_Encode0 54 rd rs1 0 0 csr = iOr .u32 (iOr .u32 (iOr .u32 (iOr .u32 115 4096) (iShl .u32 (iConv .u32 rs1) 15)) (iShl .u32 (iConv .u32 rd) 7)) (iShl .u32 (iConv .u32 csr) 20) := by
    unfold sallyportref3_Encode0
    rw [h']
    kernel_rfl
  have p : encode_Encode0 54 rd rs1 0 0 csr = (iOr .u32 (iOr .u32 (iOr .u32 (iOr .u32 (iOr .u32 (iOr .u32 (iOr .u32 115 4096) 0) (iShl .u32 (iConv .u32 rd) 7)) (iShl .u32 (iConv .u32 rs1) 15)) 0) (iShl .u32 (iConv .u32 csr) 20)) 0) := by
    unfold encode_Encode0
    rw [h]
    kernel_rfl
  rw [e, p]
  simp only [orz1, orz2] <;> first | done | ac_rfl
theorem pe55 {rd rs1 rs2 imm csr : Int} (h : insn_Is0 55 rd rs1 rs2 imm csr = true) : encode_Encode0 55 rd rs1 rs2 imm csr = sallyportref3_Encode0 55 rd rs1 rs2 imm csr := by
  have h' : sallyportref3_Is0 55 rd rs1 rs2 imm csr = true := (is_eq _ _ _ _ _ _).trans h
  obtain ⟨_, z_rs2, z_imm⟩ := enc55 h'
  subst z_rs2
  subst z_imm
  have e : sallyportref3_Encode0 55 rd rs1 0 0 csr = iOr .u32 (iOr .u32 (iOr .u32 (iOr .u32 115 8192) (iShl .u32 (iConv .u32 rs1) 15)) (iShl .u32 (iConv .u32 rd) 7)) (iShl .u32 (iConv .u32 csr) 20) := by
    unfold sallyportref3_Encode0
    rw [h']
    kernel_rfl
  have p : encode_Encode0 55 rd rs1 0 0 csr = (iOr .u32 (iOr .u32 (iOr .u32 (iOr .u32 (iOr .u32 (iOr .u32 (iOr .u32 115 8192) 0) (iShl .u32 (iConv .u32 rd) 7)) (iShl .u32 (iConv .u32 rs1) 15)) 0) (iShl .u32 (iConv .u32 csr) 20)) 0) := by
    unfold encode_Encode0
    rw [h]
    kernel_rfl
  rw [e, p]
  simp only [orz1, orz2] <;> first | done | ac_rfl
theorem pe56 {rd rs1 rs2 imm csr : Int} (h : insn_Is0 56 rd rs1 rs2 imm csr = true) : encode_Encode0 56 rd rs1 rs2 imm csr = sallyportref3_Encode0 56 rd rs1 rs2 imm csr := by
  have h' : sallyportref3_Is0 56 rd rs1 rs2 imm csr = true := (is_eq _ _ _ _ _ _).trans h
  obtain ⟨_, z_rs2, z_imm⟩ := enc56 h'
  subst z_rs2
  subst z_imm
  have e : sallyportref3_Encode0 56 rd rs1 0 0 csr = iOr .u32 (iOr .u32 (iOr .u32 (iOr .u32 115 12288) (iShl .u32 (iConv .u32 rs1) 15)) (iShl .u32 (iConv .u32 rd) 7)) (iShl .u32 (iConv .u32 csr) 20) := by
    unfold sallyportref3_Encode0
    rw [h']
    kernel_rfl
  have p : encode_Encode0 56 rd rs1 0 0 csr = (iOr .u32 (iOr .u32 (iOr .u32 (iOr .u32 (iOr .u32 (iOr .u32 (iOr .u32 115 12288) 0) (iShl .u32 (iConv .u32 rd) 7)) (iShl .u32 (iConv .u32 rs1) 15)) 0) (iShl .u32 (iConv .u32 csr) 20)) 0) := by
    unfold encode_Encode0
    rw [h]
    kernel_rfl
  rw [e, p]
  simp only [orz1, orz2] <;> first | done | ac_rfl
theorem pe57 {rd rs1 rs2 imm csr : Int} (h : insn_Is0 57 rd rs1 rs2 imm csr = true) : encode_Encode0 57 rd rs1 rs2 imm csr = sallyportref3_Encode0 57 rd rs1 rs2 imm csr := by
  have h' : sallyportref3_Is0 57 rd rs1 rs2 imm csr = true := (is_eq _ _ _ _ _ _).trans h
  obtain ⟨_, z_rs1, z_rs2, hn⟩ := enc57 h'
  subst z_rs1
  subst z_rs2
  have e : sallyportref3_Encode0 57 rd 0 0 imm csr = iOr .u32 (iOr .u32 (iOr .u32 (iOr .u32 115 20480) (iShl .u32 (iConv .u32 rd) 7)) (iShl .u32 (iConv .u32 imm) 15)) (iShl .u32 (iConv .u32 csr) 20) := by
    unfold sallyportref3_Encode0
    rw [h']
    kernel_rfl
  have p : encode_Encode0 57 rd 0 0 imm csr = (iOr .u32 (iOr .u32 (iOr .u32 (iOr .u32 (iOr .u32 (iOr .u32 (iOr .u32 115 20480) 0) (iShl .u32 (iConv .u32 rd) 7)) 0) 0) (iShl .u32 (iConv .u32 csr) 20)) (iShl .u32 (iConv .u32 (word_Bits0 (iConv .u64 imm) 0 5)) 15)) := by
    unfold encode_Encode0
    rw [h]
    kernel_rfl
  rw [e, p, nb_0_5, rb_Ci hn]
  simp only [orz1, orz2] <;> first | done | ac_rfl
theorem pe58 {rd rs1 rs2 imm csr : Int} (h : insn_Is0 58 rd rs1 rs2 imm csr = true) : encode_Encode0 58 rd rs1 rs2 imm csr = sallyportref3_Encode0 58 rd rs1 rs2 imm csr := by
  have h' : sallyportref3_Is0 58 rd rs1 rs2 imm csr = true := (is_eq _ _ _ _ _ _).trans h
  obtain ⟨_, z_rs1, z_rs2, hn⟩ := enc58 h'
  subst z_rs1
  subst z_rs2
  have e : sallyportref3_Encode0 58 rd 0 0 imm csr = iOr .u32 (iOr .u32 (iOr .u32 (iOr .u32 115 24576) (iShl .u32 (iConv .u32 rd) 7)) (iShl .u32 (iConv .u32 imm) 15)) (iShl .u32 (iConv .u32 csr) 20) := by
    unfold sallyportref3_Encode0
    rw [h']
    kernel_rfl
  have p : encode_Encode0 58 rd 0 0 imm csr = (iOr .u32 (iOr .u32 (iOr .u32 (iOr .u32 (iOr .u32 (iOr .u32 (iOr .u32 115 24576) 0) (iShl .u32 (iConv .u32 rd) 7)) 0) 0) (iShl .u32 (iConv .u32 csr) 20)) (iShl .u32 (iConv .u32 (word_Bits0 (iConv .u64 imm) 0 5)) 15)) := by
    unfold encode_Encode0
    rw [h]
    kernel_rfl
  rw [e, p, nb_0_5, rb_Ci hn]
  simp only [orz1, orz2] <;> first | done | ac_rfl
theorem pe59 {rd rs1 rs2 imm csr : Int} (h : insn_Is0 59 rd rs1 rs2 imm csr = true) : encode_Encode0 59 rd rs1 rs2 imm csr = sallyportref3_Encode0 59 rd rs1 rs2 imm csr := by
  have h' : sallyportref3_Is0 59 rd rs1 rs2 imm csr = true := (is_eq _ _ _ _ _ _).trans h
  obtain ⟨_, z_rs1, z_rs2, hn⟩ := enc59 h'
  subst z_rs1
  subst z_rs2
  have e : sallyportref3_Encode0 59 rd 0 0 imm csr = iOr .u32 (iOr .u32 (iOr .u32 (iOr .u32 115 28672) (iShl .u32 (iConv .u32 rd) 7)) (iShl .u32 (iConv .u32 imm) 15)) (iShl .u32 (iConv .u32 csr) 20) := by
    unfold sallyportref3_Encode0
    rw [h']
    kernel_rfl
  have p : encode_Encode0 59 rd 0 0 imm csr = (iOr .u32 (iOr .u32 (iOr .u32 (iOr .u32 (iOr .u32 (iOr .u32 (iOr .u32 115 28672) 0) (iShl .u32 (iConv .u32 rd) 7)) 0) 0) (iShl .u32 (iConv .u32 csr) 20)) (iShl .u32 (iConv .u32 (word_Bits0 (iConv .u64 imm) 0 5)) 15)) := by
    unfold encode_Encode0
    rw [h]
    kernel_rfl
  rw [e, p, nb_0_5, rb_Ci hn]
  simp only [orz1, orz2] <;> first | done | ac_rfl
theorem pe60 {rd rs1 rs2 imm csr : Int} (h : insn_Is0 60 rd rs1 rs2 imm csr = true) : encode_Encode0 60 rd rs1 rs2 imm csr = sallyportref3_Encode0 60 rd rs1 rs2 imm csr := by
  have h' : sallyportref3_Is0 60 rd rs1 rs2 imm csr = true := (is_eq _ _ _ _ _ _).trans h
  obtain ⟨_, z_rd, z_rs1, z_rs2, z_csr, z_imm⟩ := enc60 h'
  subst z_rd
  subst z_rs1
  subst z_rs2
  subst z_csr
  subst z_imm
  have e : sallyportref3_Encode0 60 0 0 0 0 0 = 807403635 := by
    unfold sallyportref3_Encode0
    rw [h']
    kernel_rfl
  have p : encode_Encode0 60 0 0 0 0 0 = (iOr .u32 (iOr .u32 (iOr .u32 (iOr .u32 (iOr .u32 (iOr .u32 (iOr .u32 807403635 0) 0) 0) 0) 0) 0) 0) := by
    unfold encode_Encode0
    rw [h]
    kernel_rfl
  rw [e, p]
  decide +kernel
theorem pe61 {rd rs1 rs2 imm csr : Int} (h : insn_Is0 61 rd rs1 rs2 imm csr = true) : encode_Encode0 61 rd rs1 rs2 imm csr = sallyportref3_Encode0 61 rd rs1 rs2 imm csr := by
  have h' : sallyportref3_Is0 61 rd rs1 rs2 imm csr = true := (is_eq _ _ _ _ _ _).trans h
  obtain ⟨_, z_rd, z_rs1, z_rs2, z_csr, z_imm⟩ := enc61 h'
  subst z_rd
  subst z_rs1
  subst z_rs2
  subst z_csr
  subst z_imm
  have e : sallyportref3_Encode0 61 0 0 0 0 0 = 270532723 := by
    unfold sallyportref3_Encode0
    rw [h']
    kernel_rfl
  have p : encode_Encode0 61 0 0 0 0 0 = (iOr .u32 (iOr .u32 (iOr .u32 (iOr .u32 (iOr .u32 (iOr .u32 (iOr .u32 270532723 0) 0) 0) 0) 0) 0) 0) := by
    unfold encode_Encode0
    rw [h]
    kernel_rfl
  rw [e, p]
  decide +kernel
theorem pe62 {rd rs1 rs2 imm csr : Int} (h : insn_Is0 62 rd rs1 rs2 imm csr = true) : encode_Encode0 62 rd rs1 rs2 imm csr = sallyportref3_Encode0 62 rd rs1 rs2 imm csr := by
  have h' : sallyportref3_Is0 62 rd rs1 rs2 imm csr = true := (is_eq _ _ _ _ _ _).trans h
  obtain ⟨_, z_rd, z_rs1, z_rs2, z_csr, z_imm⟩ := enc62 h'
  subst z_rd
  subst z_rs1
  subst z_rs2
  subst z_csr
  subst z_imm
  have e : sallyportref3_Encode0 62 0 0 0 0 0 = 273678451 := by
    unfold sallyportref3_Encode0
    rw [h']
    kernel_rfl
  have p : encode_Encode0 62 0 0 0 0 0 = (iOr .u32 (iOr .u32 (iOr .u32 (iOr .u32 (iOr .u32 (iOr .u32 (iOr .u32 273678451 0) 0) 0) 0) 0) 0) 0) := by
    unfold encode_Encode0
    rw [h]
    kernel_rfl
  rw [e, p]
  decide +kernel
theorem pe63 {rd rs1 rs2 imm csr : Int} (h : insn_Is0 63 rd rs1 rs2 imm csr = true) : encode_Encode0 63 rd rs1 rs2 imm csr = sallyportref3_Encode0 63 rd rs1 rs2 imm csr := by
  have h' : sallyportref3_Is0 63 rd rs1 rs2 imm csr = true := (is_eq _ _ _ _ _ _).trans h
  obtain ⟨_, z_rd, z_csr, z_imm⟩ := enc63 h'
  subst z_rd
  subst z_csr
  subst z_imm
  have e : sallyportref3_Encode0 63 0 rs1 rs2 0 0 = iOr .u32 (iOr .u32 (iOr .u32 (iOr .u32 (iOr .u32 115 0) (iShl .u32 (iConv .u32 rs1) 15)) 0) (iShl .u32 (iConv .u32 rs2) 20)) 301989888 := by
    unfold sallyportref3_Encode0
    rw [h']
    kernel_rfl
  have p : encode_Encode0 63 0 rs1 rs2 0 0 = (iOr .u32 (iOr .u32 (iOr .u32 (iOr .u32 (iOr .u32 (iOr .u32 (iOr .u32 115 0) 301989888) 0) (iShl .u32 (iConv .u32 rs1) 15)) (iShl .u32 (iConv .u32 rs2) 20)) 0) 0) := by
    unfold encode_Encode0
    rw [h]
    kernel_rfl
  rw [e, p]
  simp only [orz1, orz2] <;> first | done | ac_rfl
theorem pe64 {rd rs1 rs2 imm csr : Int} (h : insn_Is0 64 rd rs1 rs2 imm csr = true) : encode_Encode0 64 rd rs1 rs2 imm csr = sallyportref3_Encode0 64 rd rs1 rs2 imm csr := by
  have h' : sallyportref3_Is0 64 rd rs1 rs2 imm csr = true := (is_eq _ _ _ _ _ _).trans h
  obtain ⟨_, z_rd, z_csr, z_imm⟩ := enc64 h'
  subst z_rd
  subst z_csr
  subst z_imm
  have e : sallyportref3_Encode0 64 0 rs1 rs2 0 0 = iOr .u32 (iOr .u32 (iOr .u32 (iOr .u32 (iOr .u32 115 0) (iShl .u32 (iConv .u32 rs1) 15)) 0) (iShl .u32 (iConv .u32 rs2) 20)) 570425344 := by
    unfold sallyportref3_Encode0
    rw [h']
    kernel_rfl
  have p : encode_Encode0 64 0 rs1 rs2 0 0 = (iOr .u32 (iOr .u32 (iOr .u32 (iOr .u32 (iOr .u32 (iOr .u32 (iOr .u32 115 0) 570425344) 0) (iShl .u32 (iConv .u32 rs1) 15)) (iShl .u32 (iConv .u32 rs2) 20)) 0) 0) := by
    unfold encode_Encode0
    rw [h]
    kernel_rfl
  rw [e, p]
  simp only [orz1, orz2] <;> first | done | ac_rfl
theorem pe65 {rd rs1 rs2 imm csr : Int} (h : insn_Is0 65 rd rs1 rs2 imm csr = true) : encode_Encode0 65 rd rs1 rs2 imm csr = sallyportref3_Encode0 65 rd rs1 rs2 imm csr := by
  have h' : sallyportref3_Is0 65 rd rs1 rs2 imm csr = true := (is_eq _ _ _ _ _ _).trans h
  obtain ⟨_, z_rd, z_csr, z_imm⟩ := enc65 h'
  subst z_rd
  subst z_csr
  subst z_imm
  have e : sallyportref3_Encode0 65 0 rs1 rs2 0 0 = iOr .u32 (iOr .u32 (iOr .u32 (iOr .u32 (iOr .u32 115 0) (iShl .u32 (iConv .u32 rs1) 15)) 0) (iShl .u32 (iConv .u32 rs2) 20)) 1644167168 := by
    unfold sallyportref3_Encode0
    rw [h']
    kernel_rfl
  have p : encode_Encode0 65 0 rs1 rs2 0 0 = (iOr .u32 (iOr .u32 (iOr .u32 (iOr .u32 (iOr .u32 (iOr .u32 (iOr .u32 115 0) 1644167168) 0) (iShl .u32 (iConv .u32 rs1) 15)) (iShl .u32 (iConv .u32 rs2) 20)) 0) 0) := by
    unfold encode_Encode0
    rw [h]
    kernel_rfl
  rw [e, p]
  simp only [orz1, orz2] <;> first | done | ac_rfl
theorem pe66 {rd rs1 rs2 imm csr : Int} (h : insn_Is0 66 rd rs1 rs2 imm csr = true) : encode_Encode0 66 rd rs1 rs2 imm csr = sallyportref3_Encode0 66 rd rs1 rs2 imm csr := by
  have h' : sallyportref3_Is0 66 rd rs1 rs2 imm csr = true := (is_eq _ _ _ _ _ _).trans h
  obtain ⟨_, z_rs2, z_csr, z_imm⟩ := enc66 h'
  subst z_rs2
  subst z_csr
  subst z_imm
  have e : sallyportref3_Encode0 66 rd rs1 0 0 0 = iOr .u32 (iOr .u32 (iOr .u32 (iOr .u32 115 16384) (iShl .u32 (iConv .u32 rs1) 15)) (iShl .u32 (iConv .u32 rd) 7)) 1744830464 := by
    unfold sallyportref3_Encode0
    rw [h']
    kernel_rfl
  have p : encode_Encode0 66 rd rs1 0 0 0 = (iOr .u32 (iOr .u32 (iOr .u32 (iOr .u32 (iOr .u32 (iOr .u32 (iOr .u32 115 16384) 1744830464) (iShl .u32 (iConv .u32 rd) 7)) (iShl .u32 (iConv .u32 rs1) 15)) 0) 0) 0) := by
    unfold encode_Encode0
    rw [h]
    kernel_rfl
  rw [e, p]
  simp only [orz1, orz2] <;> first | done | ac_rfl
theorem pe67 {rd rs1 rs2 imm csr : Int} (h : insn_Is0 67 rd rs1 rs2 imm csr = true) : encode_Encode0 67 rd rs1 rs2 imm csr = sallyportref3_Encode0 67 rd rs1 rs2 imm csr := by
  have h' : sallyportref3_Is0 67 rd rs1 rs2 imm csr = true := (is_eq _ _ _ _ _ _).trans h
  obtain ⟨_, z_rs2, z_csr, z_imm⟩ := enc67 h'
  subst z_rs2
  subst z_csr
  subst z_imm
  have e : sallyportref3_Encode0 67 rd rs1 0 0 0 = iOr .u32 (iOr .u32 (iOr .u32 (iOr .u32 115 16384) (iShl .u32 (iConv .u32 rs1) 15)) (iShl .u32 (iConv .u32 rd) 7)) 1811939328 := by
    unfold sallyportref3_Encode0
    rw [h']
    kernel_rfl
  have p : encode_Encode0 67 rd rs1 0 0 0 = (iOr .u32 (iOr .u32 (iOr .u32 (iOr .u32 (iOr .u32 (iOr .u32 (iOr .u32 115 16384) 1811939328) (iShl .u32 (iConv .u32 rd) 7)) (iShl .u32 (iConv .u32 rs1) 15)) 0) 0) 0) := by
    unfold encode_Encode0
    rw [h]
    kernel_rfl
  rw [e, p]
  simp only [orz1, orz2] <;> first | done | ac_rfl
theorem pe68 {rd rs1 rs2 imm csr : Int} (h : insn_Is0 68 rd rs1 rs2 imm csr = true) : encode_Encode0 68 rd rs1 rs2 imm csr = sallyportref3_Encode0 68 rd rs1 rs2 imm csr := by
  have h' : sallyportref3_Is0 68 rd rs1 rs2 imm csr = true := (is_eq _ _ _ _ _ _).trans h
  obtain ⟨_, z_rs2, z_csr, z_imm⟩ := enc68 h'
  subst z_rs2
  subst z_csr
  subst z_imm
  have e : sallyportref3_Encode0 68 rd rs1 0 0 0 = iOr .u32 (iOr .u32 (iOr .u32 (iOr .u32 (iOr .u32 115 16384) (iShl .u32 (iConv .u32 rs1) 15)) (iShl .u32 (iConv .u32 rd) 7)) 3145728) 1744830464 := by
    unfold sallyportref3_Encode0
    rw [h']
    kernel_rfl
  have p : encode_Encode0 68 rd rs1 0 0 0 = (iOr .u32 (iOr .u32 (iOr .u32 (iOr .u32 (iOr .u32 (iOr .u32 (iOr .u32 3145843 16384) 1744830464) (iShl .u32 (iConv .u32 rd) 7)) (iShl .u32 (iConv .u32 rs1) 15)) 0) 0) 0) := by
    unfold encode_Encode0
    rw [h]
    kernel_rfl
  rw [e, p]
  simp only [orz1, orz2] <;> first | done | ac_rfl
theorem pe69 {rd rs1 rs2 imm csr : Int} (h : insn_Is0 69 rd rs1 rs2 imm csr = true) : encode_Encode0 69 rd rs1 rs2 imm csr = sallyportref3_Encode0 69 rd rs1 rs2 imm csr := by
  have h' : sallyportref3_Is0 69 rd rs1 rs2 imm csr = true := (is_eq _ _ _ _ _ _).trans h
  obtain ⟨_, z_rd, z_csr, z_imm⟩ := enc69 h'
  subst z_rd
  subst z_csr
  subst z_imm
  have e : sallyportref3_Encode0 69 0 rs1 rs2 0 0 = iOr .u32 (iOr .u32 (iOr .u32 (iOr .u32 (iOr .u32 115 16384) (iShl .u32 (iConv .u32 rs1) 15)) 0) (iShl .u32 (iConv .u32 rs2) 20)) 1845493760 := by
    unfold sallyportref3_Encode0
    rw [h']
    kernel_rfl
  have p : encode_Encode0 69 0 rs1 rs2 0 0 = (iOr .u32 (iOr .u32 (iOr .u32 (iOr .u32 (iOr .u32 (iOr .u32 (iOr .u32 115 16384) 1845493760) 0) (iShl .u32 (iConv .u32 rs1) 15)) (iShl .u32 (iConv .u32 rs2) 20)) 0) 0) := by
    unfold encode_Encode0
    rw [h]
    kernel_rfl
  rw [e, p]
  simp only [orz1, orz2] <;> first | done | ac_rfl
theorem pe_nat {rd rs1 rs2 imm csr : Int} : ∀ n : Nat, n < 70 → 1 ≤ n → insn_Is0 (n : Int) rd rs1 rs2 imm csr = true → encode_Encode0 (n : Int) rd rs1 rs2 imm csr = sallyportref3_Encode0 (n : Int) rd rs1 rs2 imm csr := by
  intro n h1 h2 h
  rcases n with _ | n; (· omega)
  rcases n with _ | n; (· exact pe1 h)
  rcases n with _ | n; (· exact pe2 h)
  rcases n with _ | n; (· exact pe3 h)
  rcases n with _ | n; (· exact pe4 h)
  rcases n with _ | n; (· exact pe5 h)
  rcases n with _ | n; (· exact pe6 h)
  rcases n with _ | n; (· exact pe7 h)
  rcases n with _ | n; (· exact pe8 h)
  rcases n with _ | n; (· exact pe9 h)
  rcases n with _ | n; (· exact pe10 h)
  rcases n with _ | n; (· exact pe11 h)
  rcases n with _ | n; (· exact pe12 h)
  rcases n with _ | n; (· exact pe13 h)
  rcases n with _ | n; (· exact pe14 h)
  rcases n with _ | n; (· exact pe15 h)
  rcases n with _ | n; (· exact pe16 h)
  rcases n with _ | n; (· exact pe17 h)
  rcases n with _ | n; (· exact pe18 h)
  rcases n with _ | n; (· exact pe19 h)
  rcases n with _ | n; (· exact pe20 h)
  rcases n with _ | n; (· exact pe21 h)
  rcases n with _ | n; (· exact pe22 h)
  rcases n with _ | n; (· exact pe23 h)
  rcases n with _ | n; (· exact pe24 h)
  rcases n with _ | n; (· exact pe25 h)
  rcases n with _ | n; (· exact pe26 h)
  rcases n with _ | n; (· exact pe27 h)
  rcases n with _ | n; (· exact pe28 h)
  rcases n with _ | n; (· exact pe29 h)
  rcases n with _ | n; (· exact pe30 h)
  rcases n with _ | n; (· exact pe31 h)
  rcases n with _ | n; (· exact pe32 h)
  rcases n with _ | n; (· exact pe33 h)
  rcases n with _ | n; (· exact pe34 h)
  rcases n with _ | n; (· exact pe35 h)
  rcases n with _ | n; (· exact pe36 h)
  rcases n with _ | n; (· exact pe37 h)
  rcases n with _ | n; (· exact pe38 h)
  rcases n with _ | n; (· exact pe39 h)
  rcases n with _ | n; (· exact pe40 h)
  rcases n with _ | n; (· exact pe41 h)
  rcases n with _ | n; (· exact pe42 h)
  rcases n with _ | n; (· exact pe43 h)
  rcases n with _ | n; (· exact pe44 h)
  rcases n with _ | n; (· exact pe45 h)
  rcases n with _ | n; (· exact pe46 h)
  rcases n with _ | n; (· exact pe47 h)
  rcases n with _ | n; (· exact pe48 h)
  rcases n with _ | n; (· exact pe49 h)
  rcases n with _ | n; (· exact pe50 h)
  rcases n with _ | n; (· exact pe51 h)
  rcases n with _ | n; (· exact pe52 h)
  rcases n with _ | n; (· exact pe53 h)
  rcases n with _ | n; (· exact pe54 h)
  rcases n with _ | n; (· exact pe55 h)
  rcases n with _ | n; (· exact pe56 h)
  rcases n with _ | n; (· exact pe57 h)
  rcases n with _ | n; (· exact pe58 h)
  rcases n with _ | n; (· exact pe59 h)
  rcases n with _ | n; (· exact pe60 h)
  rcases n with _ | n; (· exact pe61 h)
  rcases n with _ | n; (· exact pe62 h)
  rcases n with _ | n; (· exact pe63 h)
  rcases n with _ | n; (· exact pe64 h)
  rcases n with _ | n; (· exact pe65 h)
  rcases n with _ | n; (· exact pe66 h)
  rcases n with _ | n; (· exact pe67 h)
  rcases n with _ | n; (· exact pe68 h)
  rcases n with _ | n; (· exact pe69 h)
  omega
/-- The program's word is the document's. -/
theorem pe_eq {op rd rs1 rs2 imm csr : Int} (h : insn_Is0 op rd rs1 rs2 imm csr = true) : encode_Encode0 op rd rs1 rs2 imm csr = sallyportref3_Encode0 op rd rs1 rs2 imm csr := by
  have hop := ris_op ((is_eq _ _ _ _ _ _).trans h)
  obtain ⟨n, rfl⟩ := Int.eq_ofNat_of_zero_le (show 0 ≤ op by omega)
  exact pe_nat n (by omega) (by omega) h
end Go.Proofs.YtngaeiceicgalaaDoor.PV
