/-
  The document's Encode: each form of a word as a sum of its parts. Plain arithmetic.
-/
import Derived.Test.YtngaeiceicgalaaDoorHa
set_option linter.unusedVariables false
namespace Go.Proofs.YtngaeiceicgalaaDoor.PV
open Go Go.Ev

theorem andHi {x : Int} (h : 0 ≤ x ∧ x < 4294967296) : iAnd .u32 x 4294963200 = x / 4096 * 4096 := by
  obtain ⟨a, ha, rfl⟩ := natOf (b := 4294967296) h
  rw [show (4294963200 : Int) = ((4294963200 : Nat) : Int) from rfl, and32_nat a _ ha (by decide)]
  have e : a &&& 4294963200 = a / 4096 * 4096 := by
    have e1 : (4294963200 : Nat) = (2 ^ 20 - 1) <<< 12 := by decide
    have e2 : a / 4096 * 4096 = (a >>> 12) <<< 12 := by rw [Nat.shiftRight_eq_div_pow, Nat.shiftLeft_eq]
    rw [e1, e2]
    apply Nat.eq_of_testBit_eq
    intro i
    rw [Nat.testBit_and, Nat.testBit_shiftLeft, Nat.testBit_shiftLeft, Nat.testBit_shiftRight]
    by_cases hi : 12 ≤ i
    · rw [show 12 + (i - 12) = i by omega, Nat.testBit_two_pow_sub_one]
      simp only [hi, decide_true, Bool.true_and]
      by_cases h2 : i - 12 < 20
      · simp [h2]
      · have : a.testBit i = false := Nat.testBit_lt_two_pow (Nat.lt_of_lt_of_le ha (Nat.pow_le_pow_right (n := 2) (by decide) (show 32 ≤ i by omega)))
        simp [this]
    · simp [hi]
  rw [e]; omega

theorem chainR {op f3 rs1 rd rs2 f7 : Int} (hop : 0 ≤ op ∧ op < 128) (hf3 : 0 ≤ f3 ∧ f3 < 8) (hrs1 : 0 ≤ rs1 ∧ rs1 < 32) (hrd : 0 ≤ rd ∧ rd < 32) (hrs2 : 0 ≤ rs2 ∧ rs2 < 32) (hf7 : 0 ≤ f7 ∧ f7 < 128)  : iOr .u32 (iOr .u32 (iOr .u32 (iOr .u32 (iOr .u32 (op) (iShl .u32 f3 12)) (iShl .u32 (iConv .u32 rs1) 15)) (iShl .u32 (iConv .u32 rd) 7)) (iShl .u32 (iConv .u32 rs2) 20)) (iShl .u32 f7 25) = op + f3 * 4096 + rs1 * 32768 + rd * 128 + rs2 * 1048576 + f7 * 33554432 := by
  rw [shl32 (x := f3) 12 4096 (by decide +kernel) ⟨by omega, by omega⟩,
    conv32_of (n := rs1) ⟨by omega, by omega⟩,
    shl32 (x := rs1) 15 32768 (by decide +kernel) ⟨by omega, by omega⟩,
    conv32_of (n := rd) ⟨by omega, by omega⟩,
    shl32 (x := rd) 7 128 (by decide +kernel) ⟨by omega, by omega⟩,
    conv32_of (n := rs2) ⟨by omega, by omega⟩,
    shl32 (x := rs2) 20 1048576 (by decide +kernel) ⟨by omega, by omega⟩,
    shl32 (x := f7) 25 33554432 (by decide +kernel) ⟨by omega, by omega⟩,
    or32s (x := op) (y := f3 * 4096) (op) (0) (f3) 12 3 4096 8 (by decide +kernel) (by decide +kernel) (by omega) (by omega) ⟨by omega, by omega⟩ (by omega) ⟨by omega, by omega⟩ ⟨by omega, by omega⟩,
    or32s (x := op + f3 * 4096) (y := rs1 * 32768) (op + f3 * 4096) (0) (rs1) 15 5 32768 32 (by decide +kernel) (by decide +kernel) (by omega) (by omega) ⟨by omega, by omega⟩ (by omega) ⟨by omega, by omega⟩ ⟨by omega, by omega⟩,
    or32s (x := op + f3 * 4096 + rs1 * 32768) (y := rd * 128) (op) (f3 * 1 + rs1 * 8) (rd) 7 5 128 32 (by decide +kernel) (by decide +kernel) (by omega) (by omega) ⟨by omega, by omega⟩ (by omega) ⟨by omega, by omega⟩ ⟨by omega, by omega⟩,
    or32s (x := op + f3 * 4096 + rs1 * 32768 + rd * 128) (y := rs2 * 1048576) (op + f3 * 4096 + rs1 * 32768 + rd * 128) (0) (rs2) 20 5 1048576 32 (by decide +kernel) (by decide +kernel) (by omega) (by omega) ⟨by omega, by omega⟩ (by omega) ⟨by omega, by omega⟩ ⟨by omega, by omega⟩,
    or32s (x := op + f3 * 4096 + rs1 * 32768 + rd * 128 + rs2 * 1048576) (y := f7 * 33554432) (op + f3 * 4096 + rs1 * 32768 + rd * 128 + rs2 * 1048576) (0) (f7) 25 7 33554432 128 (by decide +kernel) (by decide +kernel) (by omega) (by omega) ⟨by omega, by omega⟩ (by omega) ⟨by omega, by omega⟩ ⟨by omega, by omega⟩]

theorem chainC {op f3 rs1 rd csr : Int} (hop : 0 ≤ op ∧ op < 128) (hf3 : 0 ≤ f3 ∧ f3 < 8) (hrs1 : 0 ≤ rs1 ∧ rs1 < 32) (hrd : 0 ≤ rd ∧ rd < 32) (hcsr : 0 ≤ csr ∧ csr < 4096)  : iOr .u32 (iOr .u32 (iOr .u32 (iOr .u32 (op) (iShl .u32 f3 12)) (iShl .u32 (iConv .u32 rs1) 15)) (iShl .u32 (iConv .u32 rd) 7)) (iShl .u32 (iConv .u32 csr) 20) = op + f3 * 4096 + rs1 * 32768 + rd * 128 + csr * 1048576 := by
  rw [shl32 (x := f3) 12 4096 (by decide +kernel) ⟨by omega, by omega⟩,
    conv32_of (n := rs1) ⟨by omega, by omega⟩,
    shl32 (x := rs1) 15 32768 (by decide +kernel) ⟨by omega, by omega⟩,
    conv32_of (n := rd) ⟨by omega, by omega⟩,
    shl32 (x := rd) 7 128 (by decide +kernel) ⟨by omega, by omega⟩,
    conv32_of (n := csr) ⟨by omega, by omega⟩,
    shl32 (x := csr) 20 1048576 (by decide +kernel) ⟨by omega, by omega⟩,
    or32s (x := op) (y := f3 * 4096) (op) (0) (f3) 12 3 4096 8 (by decide +kernel) (by decide +kernel) (by omega) (by omega) ⟨by omega, by omega⟩ (by omega) ⟨by omega, by omega⟩ ⟨by omega, by omega⟩,
    or32s (x := op + f3 * 4096) (y := rs1 * 32768) (op + f3 * 4096) (0) (rs1) 15 5 32768 32 (by decide +kernel) (by decide +kernel) (by omega) (by omega) ⟨by omega, by omega⟩ (by omega) ⟨by omega, by omega⟩ ⟨by omega, by omega⟩,
    or32s (x := op + f3 * 4096 + rs1 * 32768) (y := rd * 128) (op) (f3 * 1 + rs1 * 8) (rd) 7 5 128 32 (by decide +kernel) (by decide +kernel) (by omega) (by omega) ⟨by omega, by omega⟩ (by omega) ⟨by omega, by omega⟩ ⟨by omega, by omega⟩,
    or32s (x := op + f3 * 4096 + rs1 * 32768 + rd * 128) (y := csr * 1048576) (op + f3 * 4096 + rs1 * 32768 + rd * 128) (0) (csr) 20 12 1048576 4096 (by decide +kernel) (by decide +kernel) (by omega) (by omega) ⟨by omega, by omega⟩ (by omega) ⟨by omega, by omega⟩ ⟨by omega, by omega⟩]

theorem chainCi {op f3 rd csr imm : Int} (hop : 0 ≤ op ∧ op < 128) (hf3 : 0 ≤ f3 ∧ f3 < 8) (hrd : 0 ≤ rd ∧ rd < 32) (hcsr : 0 ≤ csr ∧ csr < 4096) (himm : 0 ≤ imm ∧ imm < 32) : iOr .u32 (iOr .u32 (iOr .u32 (iOr .u32 (op) (iShl .u32 f3 12)) (iShl .u32 (iConv .u32 rd) 7)) (iShl .u32 (iConv .u32 imm) 15)) (iShl .u32 (iConv .u32 csr) 20) = op + f3 * 4096 + rd * 128 + imm * 32768 + csr * 1048576 := by
  rw [shl32 (x := f3) 12 4096 (by decide +kernel) ⟨by omega, by omega⟩,
    conv32_of (n := rd) ⟨by omega, by omega⟩,
    shl32 (x := rd) 7 128 (by decide +kernel) ⟨by omega, by omega⟩,
    conv32_of (n := imm) ⟨by omega, by omega⟩,
    shl32 (x := imm) 15 32768 (by decide +kernel) ⟨by omega, by omega⟩,
    conv32_of (n := csr) ⟨by omega, by omega⟩,
    shl32 (x := csr) 20 1048576 (by decide +kernel) ⟨by omega, by omega⟩,
    or32s (x := op) (y := f3 * 4096) (op) (0) (f3) 12 3 4096 8 (by decide +kernel) (by decide +kernel) (by omega) (by omega) ⟨by omega, by omega⟩ (by omega) ⟨by omega, by omega⟩ ⟨by omega, by omega⟩,
    or32s (x := op + f3 * 4096) (y := rd * 128) (op) (f3 * 1) (rd) 7 5 128 32 (by decide +kernel) (by decide +kernel) (by omega) (by omega) ⟨by omega, by omega⟩ (by omega) ⟨by omega, by omega⟩ ⟨by omega, by omega⟩,
    or32s (x := op + f3 * 4096 + rd * 128) (y := imm * 32768) (op + f3 * 4096 + rd * 128) (0) (imm) 15 5 32768 32 (by decide +kernel) (by decide +kernel) (by omega) (by omega) ⟨by omega, by omega⟩ (by omega) ⟨by omega, by omega⟩ ⟨by omega, by omega⟩,
    or32s (x := op + f3 * 4096 + rd * 128 + imm * 32768) (y := csr * 1048576) (op + f3 * 4096 + rd * 128 + imm * 32768) (0) (csr) 20 12 1048576 4096 (by decide +kernel) (by decide +kernel) (by omega) (by omega) ⟨by omega, by omega⟩ (by omega) ⟨by omega, by omega⟩ ⟨by omega, by omega⟩]

theorem chainH {op f3 rs1 rd f7 : Int} (hop : 0 ≤ op ∧ op < 128) (hf3 : 0 ≤ f3 ∧ f3 < 8) (hrs1 : 0 ≤ rs1 ∧ rs1 < 32) (hrd : 0 ≤ rd ∧ rd < 32) (hf7 : 0 ≤ f7 ∧ f7 < 128)  : iOr .u32 (iOr .u32 (iOr .u32 (iOr .u32 (op) (iShl .u32 f3 12)) (iShl .u32 (iConv .u32 rs1) 15)) (iShl .u32 (iConv .u32 rd) 7)) (iShl .u32 f7 25) = op + f3 * 4096 + rs1 * 32768 + rd * 128 + f7 * 33554432 := by
  rw [shl32 (x := f3) 12 4096 (by decide +kernel) ⟨by omega, by omega⟩,
    conv32_of (n := rs1) ⟨by omega, by omega⟩,
    shl32 (x := rs1) 15 32768 (by decide +kernel) ⟨by omega, by omega⟩,
    conv32_of (n := rd) ⟨by omega, by omega⟩,
    shl32 (x := rd) 7 128 (by decide +kernel) ⟨by omega, by omega⟩,
    shl32 (x := f7) 25 33554432 (by decide +kernel) ⟨by omega, by omega⟩,
    or32s (x := op) (y := f3 * 4096) (op) (0) (f3) 12 3 4096 8 (by decide +kernel) (by decide +kernel) (by omega) (by omega) ⟨by omega, by omega⟩ (by omega) ⟨by omega, by omega⟩ ⟨by omega, by omega⟩,
    or32s (x := op + f3 * 4096) (y := rs1 * 32768) (op + f3 * 4096) (0) (rs1) 15 5 32768 32 (by decide +kernel) (by decide +kernel) (by omega) (by omega) ⟨by omega, by omega⟩ (by omega) ⟨by omega, by omega⟩ ⟨by omega, by omega⟩,
    or32s (x := op + f3 * 4096 + rs1 * 32768) (y := rd * 128) (op) (f3 * 1 + rs1 * 8) (rd) 7 5 128 32 (by decide +kernel) (by decide +kernel) (by omega) (by omega) ⟨by omega, by omega⟩ (by omega) ⟨by omega, by omega⟩ ⟨by omega, by omega⟩,
    or32s (x := op + f3 * 4096 + rs1 * 32768 + rd * 128) (y := f7 * 33554432) (op + f3 * 4096 + rs1 * 32768 + rd * 128) (0) (f7) 25 7 33554432 128 (by decide +kernel) (by decide +kernel) (by omega) (by omega) ⟨by omega, by omega⟩ (by omega) ⟨by omega, by omega⟩ ⟨by omega, by omega⟩]

theorem chainH3 {op f3 rs1 rd f7 : Int} (hop : 0 ≤ op ∧ op < 128) (hf3 : 0 ≤ f3 ∧ f3 < 8) (hrs1 : 0 ≤ rs1 ∧ rs1 < 32) (hrd : 0 ≤ rd ∧ rd < 32) (hf7 : 0 ≤ f7 ∧ f7 < 128)  : iOr .u32 (iOr .u32 (iOr .u32 (iOr .u32 (iOr .u32 (op) (iShl .u32 f3 12)) (iShl .u32 (iConv .u32 rs1) 15)) (iShl .u32 (iConv .u32 rd) 7)) (3145728)) (iShl .u32 f7 25) = op + f3 * 4096 + rs1 * 32768 + rd * 128 + 3145728 + f7 * 33554432 := by
  rw [shl32 (x := f3) 12 4096 (by decide +kernel) ⟨by omega, by omega⟩,
    conv32_of (n := rs1) ⟨by omega, by omega⟩,
    shl32 (x := rs1) 15 32768 (by decide +kernel) ⟨by omega, by omega⟩,
    conv32_of (n := rd) ⟨by omega, by omega⟩,
    shl32 (x := rd) 7 128 (by decide +kernel) ⟨by omega, by omega⟩,
    shl32 (x := f7) 25 33554432 (by decide +kernel) ⟨by omega, by omega⟩,
    or32s (x := op) (y := f3 * 4096) (op) (0) (f3) 12 3 4096 8 (by decide +kernel) (by decide +kernel) (by omega) (by omega) ⟨by omega, by omega⟩ (by omega) ⟨by omega, by omega⟩ ⟨by omega, by omega⟩,
    or32s (x := op + f3 * 4096) (y := rs1 * 32768) (op + f3 * 4096) (0) (rs1) 15 5 32768 32 (by decide +kernel) (by decide +kernel) (by omega) (by omega) ⟨by omega, by omega⟩ (by omega) ⟨by omega, by omega⟩ ⟨by omega, by omega⟩,
    or32s (x := op + f3 * 4096 + rs1 * 32768) (y := rd * 128) (op) (f3 * 1 + rs1 * 8) (rd) 7 5 128 32 (by decide +kernel) (by decide +kernel) (by omega) (by omega) ⟨by omega, by omega⟩ (by omega) ⟨by omega, by omega⟩ ⟨by omega, by omega⟩,
    or32s (x := op + f3 * 4096 + rs1 * 32768 + rd * 128) (y := 3145728) (op + f3 * 4096 + rs1 * 32768 + rd * 128) (0) (3) 20 5 1048576 32 (by decide +kernel) (by decide +kernel) (by omega) (by omega) ⟨by omega, by omega⟩ (by omega) ⟨by omega, by omega⟩ ⟨by omega, by omega⟩,
    or32s (x := op + f3 * 4096 + rs1 * 32768 + rd * 128 + 3145728) (y := f7 * 33554432) (op + f3 * 4096 + rs1 * 32768 + rd * 128 + 3145728) (0) (f7) 25 7 33554432 128 (by decide +kernel) (by decide +kernel) (by omega) (by omega) ⟨by omega, by omega⟩ (by omega) ⟨by omega, by omega⟩ ⟨by omega, by omega⟩]

theorem chainI {op f3 rs1 rd imm : Int} (hop : 0 ≤ op ∧ op < 128) (hf3 : 0 ≤ f3 ∧ f3 < 8) (hrs1 : 0 ≤ rs1 ∧ rs1 < 32) (hrd : 0 ≤ rd ∧ rd < 32)  : iOr .u32 (iOr .u32 (iOr .u32 (iOr .u32 (op) (iShl .u32 f3 12)) (iShl .u32 (iConv .u32 rs1) 15)) (iShl .u32 (iConv .u32 rd) 7)) (iShl .u32 (iAnd .u32 (iConv .u32 imm) 4095) 20) = op + f3 * 4096 + rs1 * 32768 + rd * 128 + (imm % 4294967296) % 4096 * 1048576 := by
  have hu : 0 ≤ imm % 4294967296 ∧ imm % 4294967296 < 4294967296 := by omega
  rw [conv32 imm]
  generalize imm % 4294967296 = u at hu ⊢
  rw [shl32 (x := f3) 12 4096 (by decide +kernel) ⟨by omega, by omega⟩,
    conv32_of (n := rs1) ⟨by omega, by omega⟩,
    shl32 (x := rs1) 15 32768 (by decide +kernel) ⟨by omega, by omega⟩,
    conv32_of (n := rd) ⟨by omega, by omega⟩,
    shl32 (x := rd) 7 128 (by decide +kernel) ⟨by omega, by omega⟩,
    and32 (x := u) (m := 4095) 12 4096 (by decide +kernel) (by decide) (by decide) ⟨by omega, by omega⟩,
    shl32 (x := u % 4096) 20 1048576 (by decide +kernel) ⟨by omega, by omega⟩]
  have gp0 : 0 ≤ u % 4096 ∧ u % 4096 < 4096 := by omega
  generalize u % 4096 = p0 at gp0 ⊢
  rw [or32s (x := op) (y := f3 * 4096) (op) (0) (f3) 12 3 4096 8 (by decide +kernel) (by decide +kernel) (by omega) (by omega) ⟨by omega, by omega⟩ (by omega) ⟨by omega, by omega⟩ ⟨by omega, by omega⟩,
    or32s (x := op + f3 * 4096) (y := rs1 * 32768) (op + f3 * 4096) (0) (rs1) 15 5 32768 32 (by decide +kernel) (by decide +kernel) (by omega) (by omega) ⟨by omega, by omega⟩ (by omega) ⟨by omega, by omega⟩ ⟨by omega, by omega⟩,
    or32s (x := op + f3 * 4096 + rs1 * 32768) (y := rd * 128) (op) (f3 * 1 + rs1 * 8) (rd) 7 5 128 32 (by decide +kernel) (by decide +kernel) (by omega) (by omega) ⟨by omega, by omega⟩ (by omega) ⟨by omega, by omega⟩ ⟨by omega, by omega⟩,
    or32s (x := op + f3 * 4096 + rs1 * 32768 + rd * 128) (y := p0 * 1048576) (op + f3 * 4096 + rs1 * 32768 + rd * 128) (0) (p0) 20 12 1048576 4096 (by decide +kernel) (by decide +kernel) (by omega) (by omega) ⟨by omega, by omega⟩ (by omega) ⟨by omega, by omega⟩ ⟨by omega, by omega⟩]

theorem chainSh {op f3 rs1 rd imm : Int} (hop : 0 ≤ op ∧ op < 128) (hf3 : 0 ≤ f3 ∧ f3 < 8) (hrs1 : 0 ≤ rs1 ∧ rs1 < 32) (hrd : 0 ≤ rd ∧ rd < 32)  : iOr .u32 (iOr .u32 (iOr .u32 (iOr .u32 (op) (iShl .u32 f3 12)) (iShl .u32 (iConv .u32 rs1) 15)) (iShl .u32 (iConv .u32 rd) 7)) (iShl .u32 (iAnd .u32 (iConv .u32 imm) 63) 20) = op + f3 * 4096 + rs1 * 32768 + rd * 128 + (imm % 4294967296) % 64 * 1048576 := by
  have hu : 0 ≤ imm % 4294967296 ∧ imm % 4294967296 < 4294967296 := by omega
  rw [conv32 imm]
  generalize imm % 4294967296 = u at hu ⊢
  rw [shl32 (x := f3) 12 4096 (by decide +kernel) ⟨by omega, by omega⟩,
    conv32_of (n := rs1) ⟨by omega, by omega⟩,
    shl32 (x := rs1) 15 32768 (by decide +kernel) ⟨by omega, by omega⟩,
    conv32_of (n := rd) ⟨by omega, by omega⟩,
    shl32 (x := rd) 7 128 (by decide +kernel) ⟨by omega, by omega⟩,
    and32 (x := u) (m := 63) 6 64 (by decide +kernel) (by decide) (by decide) ⟨by omega, by omega⟩,
    shl32 (x := u % 64) 20 1048576 (by decide +kernel) ⟨by omega, by omega⟩]
  have gp0 : 0 ≤ u % 64 ∧ u % 64 < 64 := by omega
  generalize u % 64 = p0 at gp0 ⊢
  rw [or32s (x := op) (y := f3 * 4096) (op) (0) (f3) 12 3 4096 8 (by decide +kernel) (by decide +kernel) (by omega) (by omega) ⟨by omega, by omega⟩ (by omega) ⟨by omega, by omega⟩ ⟨by omega, by omega⟩,
    or32s (x := op + f3 * 4096) (y := rs1 * 32768) (op + f3 * 4096) (0) (rs1) 15 5 32768 32 (by decide +kernel) (by decide +kernel) (by omega) (by omega) ⟨by omega, by omega⟩ (by omega) ⟨by omega, by omega⟩ ⟨by omega, by omega⟩,
    or32s (x := op + f3 * 4096 + rs1 * 32768) (y := rd * 128) (op) (f3 * 1 + rs1 * 8) (rd) 7 5 128 32 (by decide +kernel) (by decide +kernel) (by omega) (by omega) ⟨by omega, by omega⟩ (by omega) ⟨by omega, by omega⟩ ⟨by omega, by omega⟩,
    or32s (x := op + f3 * 4096 + rs1 * 32768 + rd * 128) (y := p0 * 1048576) (op + f3 * 4096 + rs1 * 32768 + rd * 128) (0) (p0) 20 6 1048576 64 (by decide +kernel) (by decide +kernel) (by omega) (by omega) ⟨by omega, by omega⟩ (by omega) ⟨by omega, by omega⟩ ⟨by omega, by omega⟩]

theorem chainS {op f3 rs1 rs2 imm : Int} (hop : 0 ≤ op ∧ op < 128) (hf3 : 0 ≤ f3 ∧ f3 < 8) (hrs1 : 0 ≤ rs1 ∧ rs1 < 32) (hrs2 : 0 ≤ rs2 ∧ rs2 < 32)  : iOr .u32 (iOr .u32 (iOr .u32 (iOr .u32 (iOr .u32 (op) (iShl .u32 f3 12)) (iShl .u32 (iConv .u32 rs1) 15)) (iShl .u32 (iConv .u32 rs2) 20)) (iShl .u32 (iAnd .u32 (iShr .u32 (iConv .u32 imm) 5) 127) 25)) (iShl .u32 (iAnd .u32 (iConv .u32 imm) 31) 7) = op + f3 * 4096 + rs1 * 32768 + rs2 * 1048576 + (imm % 4294967296) / 32 % 128 * 33554432 + (imm % 4294967296) % 32 * 128 := by
  have hu : 0 ≤ imm % 4294967296 ∧ imm % 4294967296 < 4294967296 := by omega
  rw [conv32 imm]
  generalize imm % 4294967296 = u at hu ⊢
  rw [shl32 (x := f3) 12 4096 (by decide +kernel) ⟨by omega, by omega⟩,
    conv32_of (n := rs1) ⟨by omega, by omega⟩,
    shl32 (x := rs1) 15 32768 (by decide +kernel) ⟨by omega, by omega⟩,
    conv32_of (n := rs2) ⟨by omega, by omega⟩,
    shl32 (x := rs2) 20 1048576 (by decide +kernel) ⟨by omega, by omega⟩,
    shr32 (x := u) 5 32 (by decide +kernel) (by decide),
    and32 (x := u / 32) (m := 127) 7 128 (by decide +kernel) (by decide) (by decide) ⟨by omega, by omega⟩,
    shl32 (x := u / 32 % 128) 25 33554432 (by decide +kernel) ⟨by omega, by omega⟩,
    and32 (x := u) (m := 31) 5 32 (by decide +kernel) (by decide) (by decide) ⟨by omega, by omega⟩,
    shl32 (x := u % 32) 7 128 (by decide +kernel) ⟨by omega, by omega⟩]
  have gp0 : 0 ≤ u / 32 % 128 ∧ u / 32 % 128 < 128 := by omega
  generalize u / 32 % 128 = p0 at gp0 ⊢
  have gp1 : 0 ≤ u % 32 ∧ u % 32 < 32 := by omega
  generalize u % 32 = p1 at gp1 ⊢
  rw [or32s (x := op) (y := f3 * 4096) (op) (0) (f3) 12 3 4096 8 (by decide +kernel) (by decide +kernel) (by omega) (by omega) ⟨by omega, by omega⟩ (by omega) ⟨by omega, by omega⟩ ⟨by omega, by omega⟩,
    or32s (x := op + f3 * 4096) (y := rs1 * 32768) (op + f3 * 4096) (0) (rs1) 15 5 32768 32 (by decide +kernel) (by decide +kernel) (by omega) (by omega) ⟨by omega, by omega⟩ (by omega) ⟨by omega, by omega⟩ ⟨by omega, by omega⟩,
    or32s (x := op + f3 * 4096 + rs1 * 32768) (y := rs2 * 1048576) (op + f3 * 4096 + rs1 * 32768) (0) (rs2) 20 5 1048576 32 (by decide +kernel) (by decide +kernel) (by omega) (by omega) ⟨by omega, by omega⟩ (by omega) ⟨by omega, by omega⟩ ⟨by omega, by omega⟩,
    or32s (x := op + f3 * 4096 + rs1 * 32768 + rs2 * 1048576) (y := p0 * 33554432) (op + f3 * 4096 + rs1 * 32768 + rs2 * 1048576) (0) (p0) 25 7 33554432 128 (by decide +kernel) (by decide +kernel) (by omega) (by omega) ⟨by omega, by omega⟩ (by omega) ⟨by omega, by omega⟩ ⟨by omega, by omega⟩,
    or32s (x := op + f3 * 4096 + rs1 * 32768 + rs2 * 1048576 + p0 * 33554432) (y := p1 * 128) (op) (f3 * 1 + rs1 * 8 + rs2 * 256 + p0 * 8192) (p1) 7 5 128 32 (by decide +kernel) (by decide +kernel) (by omega) (by omega) ⟨by omega, by omega⟩ (by omega) ⟨by omega, by omega⟩ ⟨by omega, by omega⟩]

theorem chainB {op f3 rs1 rs2 imm : Int} (hop : 0 ≤ op ∧ op < 128) (hf3 : 0 ≤ f3 ∧ f3 < 8) (hrs1 : 0 ≤ rs1 ∧ rs1 < 32) (hrs2 : 0 ≤ rs2 ∧ rs2 < 32)  : iOr .u32 (iOr .u32 (iOr .u32 (iOr .u32 (iOr .u32 (iOr .u32 (iOr .u32 (op) (iShl .u32 f3 12)) (iShl .u32 (iConv .u32 rs1) 15)) (iShl .u32 (iConv .u32 rs2) 20)) (iShl .u32 (iAnd .u32 (iShr .u32 (iConv .u32 imm) 12) 1) 31)) (iShl .u32 (iAnd .u32 (iShr .u32 (iConv .u32 imm) 11) 1) 7)) (iShl .u32 (iAnd .u32 (iShr .u32 (iConv .u32 imm) 5) 63) 25)) (iShl .u32 (iAnd .u32 (iShr .u32 (iConv .u32 imm) 1) 15) 8) = op + f3 * 4096 + rs1 * 32768 + rs2 * 1048576 + (imm % 4294967296) / 4096 % 2 * 2147483648 + (imm % 4294967296) / 2048 % 2 * 128 + (imm % 4294967296) / 32 % 64 * 33554432 + (imm % 4294967296) / 2 % 16 * 256 := by
  have hu : 0 ≤ imm % 4294967296 ∧ imm % 4294967296 < 4294967296 := by omega
  rw [conv32 imm]
  generalize imm % 4294967296 = u at hu ⊢
  rw [shl32 (x := f3) 12 4096 (by decide +kernel) ⟨by omega, by omega⟩,
    conv32_of (n := rs1) ⟨by omega, by omega⟩,
    shl32 (x := rs1) 15 32768 (by decide +kernel) ⟨by omega, by omega⟩,
    conv32_of (n := rs2) ⟨by omega, by omega⟩,
    shl32 (x := rs2) 20 1048576 (by decide +kernel) ⟨by omega, by omega⟩,
    shr32 (x := u) 12 4096 (by decide +kernel) (by decide),
    and32 (x := u / 4096) (m := 1) 1 2 (by decide +kernel) (by decide) (by decide) ⟨by omega, by omega⟩,
    shl32 (x := u / 4096 % 2) 31 2147483648 (by decide +kernel) ⟨by omega, by omega⟩,
    shr32 (x := u) 11 2048 (by decide +kernel) (by decide),
    and32 (x := u / 2048) (m := 1) 1 2 (by decide +kernel) (by decide) (by decide) ⟨by omega, by omega⟩,
    shl32 (x := u / 2048 % 2) 7 128 (by decide +kernel) ⟨by omega, by omega⟩,
    shr32 (x := u) 5 32 (by decide +kernel) (by decide),
    and32 (x := u / 32) (m := 63) 6 64 (by decide +kernel) (by decide) (by decide) ⟨by omega, by omega⟩,
    shl32 (x := u / 32 % 64) 25 33554432 (by decide +kernel) ⟨by omega, by omega⟩,
    shr32 (x := u) 1 2 (by decide +kernel) (by decide),
    and32 (x := u / 2) (m := 15) 4 16 (by decide +kernel) (by decide) (by decide) ⟨by omega, by omega⟩,
    shl32 (x := u / 2 % 16) 8 256 (by decide +kernel) ⟨by omega, by omega⟩]
  have gp0 : 0 ≤ u / 4096 % 2 ∧ u / 4096 % 2 < 2 := by omega
  generalize u / 4096 % 2 = p0 at gp0 ⊢
  have gp1 : 0 ≤ u / 2048 % 2 ∧ u / 2048 % 2 < 2 := by omega
  generalize u / 2048 % 2 = p1 at gp1 ⊢
  have gp2 : 0 ≤ u / 32 % 64 ∧ u / 32 % 64 < 64 := by omega
  generalize u / 32 % 64 = p2 at gp2 ⊢
  have gp3 : 0 ≤ u / 2 % 16 ∧ u / 2 % 16 < 16 := by omega
  generalize u / 2 % 16 = p3 at gp3 ⊢
  rw [or32s (x := op) (y := f3 * 4096) (op) (0) (f3) 12 3 4096 8 (by decide +kernel) (by decide +kernel) (by omega) (by omega) ⟨by omega, by omega⟩ (by omega) ⟨by omega, by omega⟩ ⟨by omega, by omega⟩,
    or32s (x := op + f3 * 4096) (y := rs1 * 32768) (op + f3 * 4096) (0) (rs1) 15 5 32768 32 (by decide +kernel) (by decide +kernel) (by omega) (by omega) ⟨by omega, by omega⟩ (by omega) ⟨by omega, by omega⟩ ⟨by omega, by omega⟩,
    or32s (x := op + f3 * 4096 + rs1 * 32768) (y := rs2 * 1048576) (op + f3 * 4096 + rs1 * 32768) (0) (rs2) 20 5 1048576 32 (by decide +kernel) (by decide +kernel) (by omega) (by omega) ⟨by omega, by omega⟩ (by omega) ⟨by omega, by omega⟩ ⟨by omega, by omega⟩,
    or32s (x := op + f3 * 4096 + rs1 * 32768 + rs2 * 1048576) (y := p0 * 2147483648) (op + f3 * 4096 + rs1 * 32768 + rs2 * 1048576) (0) (p0) 31 1 2147483648 2 (by decide +kernel) (by decide +kernel) (by omega) (by omega) ⟨by omega, by omega⟩ (by omega) ⟨by omega, by omega⟩ ⟨by omega, by omega⟩,
    or32s (x := op + f3 * 4096 + rs1 * 32768 + rs2 * 1048576 + p0 * 2147483648) (y := p1 * 128) (op) (f3 * 16 + rs1 * 128 + rs2 * 4096 + p0 * 8388608) (p1) 7 1 128 2 (by decide +kernel) (by decide +kernel) (by omega) (by omega) ⟨by omega, by omega⟩ (by omega) ⟨by omega, by omega⟩ ⟨by omega, by omega⟩,
    or32s (x := op + f3 * 4096 + rs1 * 32768 + rs2 * 1048576 + p0 * 2147483648 + p1 * 128) (y := p2 * 33554432) (op + f3 * 4096 + rs1 * 32768 + rs2 * 1048576 + p1 * 128) (p0 * 1) (p2) 25 6 33554432 64 (by decide +kernel) (by decide +kernel) (by omega) (by omega) ⟨by omega, by omega⟩ (by omega) ⟨by omega, by omega⟩ ⟨by omega, by omega⟩,
    or32s (x := op + f3 * 4096 + rs1 * 32768 + rs2 * 1048576 + p0 * 2147483648 + p1 * 128 + p2 * 33554432) (y := p3 * 256) (op + p1 * 128) (f3 * 1 + rs1 * 8 + rs2 * 256 + p0 * 524288 + p2 * 8192) (p3) 8 4 256 16 (by decide +kernel) (by decide +kernel) (by omega) (by omega) ⟨by omega, by omega⟩ (by omega) ⟨by omega, by omega⟩ ⟨by omega, by omega⟩]

theorem chainU {op rd imm : Int} (hop : 0 ≤ op ∧ op < 128) (hrd : 0 ≤ rd ∧ rd < 32)  : iOr .u32 (iOr .u32 (op) (iShl .u32 (iConv .u32 rd) 7)) (iAnd .u32 (iConv .u32 imm) 4294963200) = op + rd * 128 + (imm % 4294967296) / 4096 * 4096 := by
  have hu : 0 ≤ imm % 4294967296 ∧ imm % 4294967296 < 4294967296 := by omega
  rw [conv32 imm]
  generalize imm % 4294967296 = u at hu ⊢
  rw [conv32_of (n := rd) ⟨by omega, by omega⟩,
    shl32 (x := rd) 7 128 (by decide +kernel) ⟨by omega, by omega⟩,
    andHi (x := u) ⟨by omega, by omega⟩]
  have gp0 : 0 ≤ u / 4096 ∧ u / 4096 < 1048576 := by omega
  generalize u / 4096 = p0 at gp0 ⊢
  rw [or32s (x := op) (y := rd * 128) (op) (0) (rd) 7 5 128 32 (by decide +kernel) (by decide +kernel) (by omega) (by omega) ⟨by omega, by omega⟩ (by omega) ⟨by omega, by omega⟩ ⟨by omega, by omega⟩,
    or32s (x := op + rd * 128) (y := p0 * 4096) (op + rd * 128) (0) (p0) 12 20 4096 1048576 (by decide +kernel) (by decide +kernel) (by omega) (by omega) ⟨by omega, by omega⟩ (by omega) ⟨by omega, by omega⟩ ⟨by omega, by omega⟩]

theorem chainJ {op rd imm : Int} (hop : 0 ≤ op ∧ op < 128) (hrd : 0 ≤ rd ∧ rd < 32)  : iOr .u32 (iOr .u32 (iOr .u32 (iOr .u32 (iOr .u32 (op) (iShl .u32 (iConv .u32 rd) 7)) (iShl .u32 (iAnd .u32 (iShr .u32 (iConv .u32 imm) 20) 1) 31)) (iShl .u32 (iAnd .u32 (iShr .u32 (iConv .u32 imm) 12) 255) 12)) (iShl .u32 (iAnd .u32 (iShr .u32 (iConv .u32 imm) 11) 1) 20)) (iShl .u32 (iAnd .u32 (iShr .u32 (iConv .u32 imm) 1) 1023) 21) = op + rd * 128 + (imm % 4294967296) / 1048576 % 2 * 2147483648 + (imm % 4294967296) / 4096 % 256 * 4096 + (imm % 4294967296) / 2048 % 2 * 1048576 + (imm % 4294967296) / 2 % 1024 * 2097152 := by
  have hu : 0 ≤ imm % 4294967296 ∧ imm % 4294967296 < 4294967296 := by omega
  rw [conv32 imm]
  generalize imm % 4294967296 = u at hu ⊢
  rw [conv32_of (n := rd) ⟨by omega, by omega⟩,
    shl32 (x := rd) 7 128 (by decide +kernel) ⟨by omega, by omega⟩,
    shr32 (x := u) 20 1048576 (by decide +kernel) (by decide),
    and32 (x := u / 1048576) (m := 1) 1 2 (by decide +kernel) (by decide) (by decide) ⟨by omega, by omega⟩,
    shl32 (x := u / 1048576 % 2) 31 2147483648 (by decide +kernel) ⟨by omega, by omega⟩,
    shr32 (x := u) 12 4096 (by decide +kernel) (by decide),
    and32 (x := u / 4096) (m := 255) 8 256 (by decide +kernel) (by decide) (by decide) ⟨by omega, by omega⟩,
    shl32 (x := u / 4096 % 256) 12 4096 (by decide +kernel) ⟨by omega, by omega⟩,
    shr32 (x := u) 11 2048 (by decide +kernel) (by decide),
    and32 (x := u / 2048) (m := 1) 1 2 (by decide +kernel) (by decide) (by decide) ⟨by omega, by omega⟩,
    shl32 (x := u / 2048 % 2) 20 1048576 (by decide +kernel) ⟨by omega, by omega⟩,
    shr32 (x := u) 1 2 (by decide +kernel) (by decide),
    and32 (x := u / 2) (m := 1023) 10 1024 (by decide +kernel) (by decide) (by decide) ⟨by omega, by omega⟩,
    shl32 (x := u / 2 % 1024) 21 2097152 (by decide +kernel) ⟨by omega, by omega⟩]
  have gp0 : 0 ≤ u / 1048576 % 2 ∧ u / 1048576 % 2 < 2 := by omega
  generalize u / 1048576 % 2 = p0 at gp0 ⊢
  have gp1 : 0 ≤ u / 4096 % 256 ∧ u / 4096 % 256 < 256 := by omega
  generalize u / 4096 % 256 = p1 at gp1 ⊢
  have gp2 : 0 ≤ u / 2048 % 2 ∧ u / 2048 % 2 < 2 := by omega
  generalize u / 2048 % 2 = p2 at gp2 ⊢
  have gp3 : 0 ≤ u / 2 % 1024 ∧ u / 2 % 1024 < 1024 := by omega
  generalize u / 2 % 1024 = p3 at gp3 ⊢
  rw [or32s (x := op) (y := rd * 128) (op) (0) (rd) 7 5 128 32 (by decide +kernel) (by decide +kernel) (by omega) (by omega) ⟨by omega, by omega⟩ (by omega) ⟨by omega, by omega⟩ ⟨by omega, by omega⟩,
    or32s (x := op + rd * 128) (y := p0 * 2147483648) (op + rd * 128) (0) (p0) 31 1 2147483648 2 (by decide +kernel) (by decide +kernel) (by omega) (by omega) ⟨by omega, by omega⟩ (by omega) ⟨by omega, by omega⟩ ⟨by omega, by omega⟩,
    or32s (x := op + rd * 128 + p0 * 2147483648) (y := p1 * 4096) (op + rd * 128) (p0 * 2048) (p1) 12 8 4096 256 (by decide +kernel) (by decide +kernel) (by omega) (by omega) ⟨by omega, by omega⟩ (by omega) ⟨by omega, by omega⟩ ⟨by omega, by omega⟩,
    or32s (x := op + rd * 128 + p0 * 2147483648 + p1 * 4096) (y := p2 * 1048576) (op + rd * 128 + p1 * 4096) (p0 * 1024) (p2) 20 1 1048576 2 (by decide +kernel) (by decide +kernel) (by omega) (by omega) ⟨by omega, by omega⟩ (by omega) ⟨by omega, by omega⟩ ⟨by omega, by omega⟩,
    or32s (x := op + rd * 128 + p0 * 2147483648 + p1 * 4096 + p2 * 1048576) (y := p3 * 2097152) (op + rd * 128 + p1 * 4096 + p2 * 1048576) (p0 * 1) (p3) 21 10 2097152 1024 (by decide +kernel) (by decide +kernel) (by omega) (by omega) ⟨by omega, by omega⟩ (by omega) ⟨by omega, by omega⟩ ⟨by omega, by omega⟩]

theorem chainSh7 {x f7 : Int} (hx : 0 ≤ x ∧ x < 67108864) (hf7 : 0 ≤ f7 ∧ f7 < 128) (h : f7 % 2 = 0) : iOr .u32 x (iShl .u32 f7 25) = x + f7 * 33554432 := by
  rw [shl32 (x := f7) 25 33554432 (by decide +kernel) ⟨by omega, by omega⟩, or32 (x := x) (y := f7 * 33554432) 26 6 67108864 64 (by decide +kernel) (by decide +kernel) ⟨by omega, by omega⟩ ⟨by omega, by omega⟩ (by omega) (by omega) (by omega)]

theorem reg_hyps {r : Int} {b : Bool} (h : sallyportref3_reg0 r b = true) : 0 ≤ r ∧ r < 32 ∧ (b = false → r = 0) := by
  unfold sallyportref3_reg0 at h
  cases h0 : iEq r 0 with
  | true => have := iEq_true.1 h0; exact ⟨by omega, by omega, fun _ => this⟩
  | false =>
    rw [h0, cond_false] at h
    cases b with
    | false => cases h
    | true =>
      rw [cond_true] at h
      cases h1 : iLt 0 r with
      | false => rw [h1] at h; cases h
      | true =>
        rw [h1, cond_true] at h
        exact ⟨by have := iLt_true.1 h1; omega, iLt_true.1 h, fun h => by cases h⟩

theorem within_hyps {a lo hi st : Int} (h : sallyportref3_within0 a lo hi st = true) : lo ≤ a ∧ a ≤ hi ∧ iRem a st = 0 := by
  unfold sallyportref3_within0 at h
  cases h1 : iLe lo a with
  | false => rw [h1] at h; cases h
  | true =>
    cases h2 : iLe a hi with
    | false => rw [h1, h2] at h; cases h
    | true =>
      rw [h1, h2] at h
      exact ⟨iLe_true.1 h1, iLe_true.1 h2, iEq_true.1 h⟩
theorem rem_dvd {a : Int} {m : Int} (h : iRem a m = 0) : a % m = 0 := Int.emod_eq_zero_of_dvd (Int.dvd_of_tmod_eq_zero h)

structure IsH (op rd rs1 rs2 imm csr : Int) : Prop where
  hop : 1 ≤ op ∧ op < 70
  hrd : 0 ≤ rd ∧ rd < 32
  hrd0 : sallyportref3_Parts0 op = false → rd = 0
  hrs1 : 0 ≤ rs1 ∧ rs1 < 32
  hrs10 : sallyportref3_Parts1 op = false → rs1 = 0
  hrs2 : 0 ≤ rs2 ∧ rs2 < 32
  hrs20 : sallyportref3_Parts2 op = false → rs2 = 0
  hcsr : 0 ≤ csr ∧ csr < 4096
  hcsr0 : sallyportref3_Parts3 op = false → csr = 0
  himm0 : sallyportref3_Parts4 op = false → imm = 0
  hnum : sallyportref3_Parts4 op = true → sallyportref3_number0 op rd rs1 rs2 imm csr = true

theorem is_hyps {op rd rs1 rs2 imm csr : Int} (h : sallyportref3_Is0 op rd rs1 rs2 imm csr = true) : IsH op rd rs1 rs2 imm csr := by
  have hop := ris_op h
  unfold sallyportref3_Is0 at h
  cases h0 : iEq (sallyportref3_Class0 op) 0 with
  | true => rw [h0] at h; cases h
  | false =>
  rw [h0, cond_false] at h
  cases h1 : sallyportref3_reg0 rd (sallyportref3_Parts0 op) with
  | false => rw [h1] at h; cases h
  | true =>
  cases h2 : sallyportref3_reg0 rs1 (sallyportref3_Parts1 op) with
  | false => rw [h1, h2] at h; cases h
  | true =>
  cases h3 : sallyportref3_reg0 rs2 (sallyportref3_Parts2 op) with
  | false => rw [h1, h2, h3] at h; cases h
  | true =>
  rw [h1, h2, h3] at h
  simp only [Bool.not_true, cond_false] at h
  obtain ⟨a1, a2, a3⟩ := reg_hyps h1
  obtain ⟨b1, b2, b3⟩ := reg_hyps h2
  obtain ⟨c1, c2, c3⟩ := reg_hyps h3
  have hc : (0 ≤ csr ∧ csr < 4096 ∧ (sallyportref3_Parts3 op = false → csr = 0)) ∧ (bif !sallyportref3_Parts4 op then iEq imm 0 else sallyportref3_number0 op rd rs1 rs2 imm csr) = true := by
    cases h4 : iNe csr 0 with
    | false =>
      have := iNe_false.1 h4
      rw [h4, cond_false] at h
      exact ⟨⟨by omega, by omega, fun _ => this⟩, h⟩
    | true =>
      rw [h4, cond_true] at h
      cases h5 : sallyportref3_Parts3 op with
      | false => rw [h5] at h; cases h
      | true =>
        cases h6 : iLt csr 0 with
        | true => rw [h5, h6] at h; cases h
        | false =>
          cases h7 : iLt 4095 csr with
          | true => rw [h5, h6, h7] at h; cases h
          | false =>
            rw [h5, h6, h7] at h
            exact ⟨⟨iLt_false.1 h6, by have := iLt_false.1 h7; omega, fun h => by cases h⟩, h⟩
  obtain ⟨⟨d1, d2, d3⟩, h8⟩ := hc
  refine ⟨hop, ⟨a1, a2⟩, a3, ⟨b1, b2⟩, b3, ⟨c1, c2⟩, c3, ⟨d1, d2⟩, d3, fun h9 => ?_, fun h9 => ?_⟩
  · rw [h9] at h8; exact iEq_true.1 h8
  · rw [h9] at h8; exact h8
end Go.Proofs.YtngaeiceicgalaaDoor.PV
