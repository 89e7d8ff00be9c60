/-
  Whatever the program reads in a word is the operation whose word it is. Printed by a program of the prover's own (wip/prt/words5.py).
-/
import Derived.Test.YtigmhcafampfnaaHi
import Derived.Test.YtigmhcafampfnaaHg
set_option linter.unusedVariables false
set_option linter.unusedSimpArgs false
namespace Go.Proofs.Ytigmhcafampfnaa.PV
open Go Go.Ev

def Hit (w : Int) : Prop := ∃ op rd rs1 rs2 imm csr, HitT w op rd rs1 rs2 imm csr
theorem HitT.any {w op rd rs1 rs2 imm csr : Int} (h : HitT w op rd rs1 rs2 imm csr) : Hit w := ⟨op, rd, rs1, rs2, imm, csr, h⟩
theorem no {b : Bool} {p : Prop} (h : b = true) (h2 : b = false) : p := by rw [h] at h2; cases h2
theorem f3_cases {f : Int} (h : 0 ≤ f ∧ f < 8) : f = 0 ∨ f = 1 ∨ f = 2 ∨ f = 3 ∨ f = 4 ∨ f = 5 ∨ f = 6 ∨ f = 7 := by omega

theorem rk19 {w rd f3 rs1 rs2 f7 x : Int} (ho : decode_Opcode0 w = 19) (hx : word_Bits0 (iConv IntKind.u64 w) 26 6 = x) (hb : 0 ≤ x ∧ x < 64) (h0 : x ≠ 0) (h1 : x ≠ 16) (h3 : f3 = 1 ∨ f3 = 5) : decode_parts__reckons6 w rd f3 rs1 rs2 f7 = false := by
  have e1 : iEq (iShl IntKind.u64 x 6) 1024 = false := by rw [shl64 6 64 (by decide +kernel) ⟨by omega, by omega⟩, iEq_false]; omega
  have e2 : iNe (iShl IntKind.u64 x 6) 0 = true := by rw [shl64 6 64 (by decide +kernel) ⟨by omega, by omega⟩, iNe_true]; omega
  rcases h3 with rfl | rfl
  · unfold decode_parts__reckons6 decode_parts__reckons_c12
    rw [ho, hx, e1, e2]
    rfl
  · unfold decode_parts__reckons6 decode_parts__reckons_c12
    rw [ho, hx, e1, e2]
    rfl
theorem rk19' {w rd rs1 rs2 f7 : Int} (ho : decode_Opcode0 w = 19) (hx : word_Bits0 (iConv IntKind.u64 w) 26 6 = 16) : decode_parts__reckons6 w rd 1 rs1 rs2 f7 = false := by
  unfold decode_parts__reckons6 decode_parts__reckons_c12
  rw [ho, hx]
  kernel_rfl
theorem rk27 {w rd f3 rs1 rs2 f7 x : Int} (ho : decode_Opcode0 w = 27) (hx : word_Bits0 (iConv IntKind.u64 w) 25 7 = x) (hb : 0 ≤ x ∧ x < 128) (h0 : x ≠ 0) (h1 : x ≠ 32) (h3 : f3 = 1 ∨ f3 = 5) : decode_parts__reckons6 w rd f3 rs1 rs2 f7 = false := by
  have e1 : iEq (iShl IntKind.u64 x 5) 1024 = false := by rw [shl64 5 32 (by decide +kernel) ⟨by omega, by omega⟩, iEq_false]; omega
  have e2 : iNe (iShl IntKind.u64 x 5) 0 = true := by rw [shl64 5 32 (by decide +kernel) ⟨by omega, by omega⟩, iNe_true]; omega
  rcases h3 with rfl | rfl
  · unfold decode_parts__reckons6 decode_parts__reckons_c12
    rw [ho, hx, e1, e2]
    rfl
  · unfold decode_parts__reckons6 decode_parts__reckons_c12
    rw [ho, hx, e1, e2]
    rfl
theorem rk27' {w rd rs1 rs2 f7 : Int} (ho : decode_Opcode0 w = 27) (hx : word_Bits0 (iConv IntKind.u64 w) 25 7 = 32) : decode_parts__reckons6 w rd 1 rs1 rs2 f7 = false := by
  unfold decode_parts__reckons6 decode_parts__reckons_c12
  rw [ho, hx]
  kernel_rfl
theorem rk27n {w rd f3 rs1 rs2 f7 : Int} (ho : decode_Opcode0 w = 27) (h3 : f3 = 2 ∨ f3 = 3 ∨ f3 = 4 ∨ f3 = 6 ∨ f3 = 7) : decode_parts__reckons6 w rd f3 rs1 rs2 f7 = false := by
  rcases h3 with rfl | rfl | rfl | rfl | rfl <;> unfold decode_parts__reckons6 <;> rw [ho] <;> kernel_rfl
theorem rg_n {w rd f3 rs1 rs2 f7 : Int} (h0 : f7 ≠ 0) (h1 : f7 ≠ 32) : decode_parts__registers6 w rd f3 rs1 rs2 f7 = false := by
  unfold decode_parts__registers6
  rw [iEq_false.2 h0, iEq_false.2 h1]
  rfl
theorem fx {w rd f3 rs1 rs2 f7 : Int} (h : decode_parts__fixed1 w rd f3 rs1 rs2 f7 = true) : Hit w := by
  unfold decode_parts__fixed1 decode_parts__fixed_c0 at h
  by_cases h0 : w = 267386895
  · rw [h0]; exact hit50.any
  by_cases h1 : w = 4111
  · rw [h1]; exact hit51.any
  by_cases h2 : w = 115
  · rw [h2]; exact hit52.any
  by_cases h3 : w = 1048691
  · rw [h3]; exact hit53.any
  by_cases h4 : w = 807403635
  · rw [h4]; exact hit60.any
  by_cases h5 : w = 270532723
  · rw [h5]; exact hit61.any
  by_cases h6 : w = 273678451
  · rw [h6]; exact hit62.any
  rw [iEq_false.2 h0, iEq_false.2 h1, iEq_false.2 h2, iEq_false.2 h3, iEq_false.2 h4, iEq_false.2 h5, iEq_false.2 h6] at h
  cases h

theorem any55 {w : Int} (hW : W32 w) (hq : w % 128 = 55) : Hit w := (hit1 hW hq).any
theorem any23 {w : Int} (hW : W32 w) (hq : w % 128 = 23) : Hit w := (hit2 hW hq).any
theorem any111 {w : Int} (hW : W32 w) (hq : w % 128 = 111) : Hit w := (hit3 hW hq).any
theorem any103 {w : Int} (hW : W32 w) (hq : w % 128 = 103) (h6 : decode_parts__insn6 w (decode_of0 w) (decode_of1 w) (decode_of2 w) (decode_of3 w) (decode_of4 w) = true) : Hit w := by
  have ho : decode_Opcode0 w = 103 := (opc_eq hW).trans hq
  have h := (s103_6 ho).symm.trans h6
  have k3 := of1_eq hW
  have k7 := of4_eq hW
  have k2 := of3_eq hW
  have kd := of0_eq hW
  have hw := hW
  unfold W32 at hw
  rcases f3_cases (show 0 ≤ w / 4096 % 8 ∧ w / 4096 % 8 < 8 by omega) with h3 | h3 | h3 | h3 | h3 | h3 | h3 | h3
  · exact (hit4 hW hq h3).any
  · rw [k3.trans h3] at h; exact no h (by kernel_rfl)
  · rw [k3.trans h3] at h; exact no h (by kernel_rfl)
  · rw [k3.trans h3] at h; exact no h (by kernel_rfl)
  · rw [k3.trans h3] at h; exact no h (by kernel_rfl)
  · rw [k3.trans h3] at h; exact no h (by kernel_rfl)
  · rw [k3.trans h3] at h; exact no h (by kernel_rfl)
  · rw [k3.trans h3] at h; exact no h (by kernel_rfl)
theorem any99 {w : Int} (hW : W32 w) (hq : w % 128 = 99) (h6 : decode_parts__insn6 w (decode_of0 w) (decode_of1 w) (decode_of2 w) (decode_of3 w) (decode_of4 w) = true) : Hit w := by
  have ho : decode_Opcode0 w = 99 := (opc_eq hW).trans hq
  have h := (s99_6 ho).symm.trans h6
  have k3 := of1_eq hW
  have k7 := of4_eq hW
  have k2 := of3_eq hW
  have kd := of0_eq hW
  have hw := hW
  unfold W32 at hw
  rcases f3_cases (show 0 ≤ w / 4096 % 8 ∧ w / 4096 % 8 < 8 by omega) with h3 | h3 | h3 | h3 | h3 | h3 | h3 | h3
  · exact (hit5 hW hq h3).any
  · exact (hit6 hW hq h3).any
  · rw [k3.trans h3] at h; exact no h (by kernel_rfl)
  · rw [k3.trans h3] at h; exact no h (by kernel_rfl)
  · exact (hit7 hW hq h3).any
  · exact (hit8 hW hq h3).any
  · exact (hit9 hW hq h3).any
  · exact (hit10 hW hq h3).any
theorem any3 {w : Int} (hW : W32 w) (hq : w % 128 = 3) (h6 : decode_parts__insn6 w (decode_of0 w) (decode_of1 w) (decode_of2 w) (decode_of3 w) (decode_of4 w) = true) : Hit w := by
  have ho : decode_Opcode0 w = 3 := (opc_eq hW).trans hq
  have h := (s3_6 ho).symm.trans h6
  have k3 := of1_eq hW
  have k7 := of4_eq hW
  have k2 := of3_eq hW
  have kd := of0_eq hW
  have hw := hW
  unfold W32 at hw
  rcases f3_cases (show 0 ≤ w / 4096 % 8 ∧ w / 4096 % 8 < 8 by omega) with h3 | h3 | h3 | h3 | h3 | h3 | h3 | h3
  · exact (hit11 hW hq h3).any
  · exact (hit12 hW hq h3).any
  · exact (hit13 hW hq h3).any
  · exact (hit14 hW hq h3).any
  · exact (hit15 hW hq h3).any
  · exact (hit16 hW hq h3).any
  · exact (hit17 hW hq h3).any
  · rw [k3.trans h3] at h; exact no h (by kernel_rfl)
theorem any35 {w : Int} (hW : W32 w) (hq : w % 128 = 35) (h6 : decode_parts__insn6 w (decode_of0 w) (decode_of1 w) (decode_of2 w) (decode_of3 w) (decode_of4 w) = true) : Hit w := by
  have ho : decode_Opcode0 w = 35 := (opc_eq hW).trans hq
  have h := (s35_6 ho).symm.trans h6
  have k3 := of1_eq hW
  have k7 := of4_eq hW
  have k2 := of3_eq hW
  have kd := of0_eq hW
  have hw := hW
  unfold W32 at hw
  rcases f3_cases (show 0 ≤ w / 4096 % 8 ∧ w / 4096 % 8 < 8 by omega) with h3 | h3 | h3 | h3 | h3 | h3 | h3 | h3
  · exact (hit18 hW hq h3).any
  · exact (hit19 hW hq h3).any
  · exact (hit20 hW hq h3).any
  · exact (hit21 hW hq h3).any
  · rw [k3.trans h3] at h; exact no h (by kernel_rfl)
  · rw [k3.trans h3] at h; exact no h (by kernel_rfl)
  · rw [k3.trans h3] at h; exact no h (by kernel_rfl)
  · rw [k3.trans h3] at h; exact no h (by kernel_rfl)
theorem any19 {w : Int} (hW : W32 w) (hq : w % 128 = 19) (h6 : decode_parts__insn6 w (decode_of0 w) (decode_of1 w) (decode_of2 w) (decode_of3 w) (decode_of4 w) = true) : Hit w := by
  have ho : decode_Opcode0 w = 19 := (opc_eq hW).trans hq
  have h := (s19_6 ho).symm.trans h6
  have k3 := of1_eq hW
  have k7 := of4_eq hW
  have k2 := of3_eq hW
  have kd := of0_eq hW
  have hw := hW
  unfold W32 at hw
  rcases f3_cases (show 0 ≤ w / 4096 % 8 ∧ w / 4096 % 8 < 8 by omega) with h3 | h3 | h3 | h3 | h3 | h3 | h3 | h3
  · exact (hit22 hW hq h3).any
  · rw [k3.trans h3] at h
    by_cases x0 : w / 67108864 % 64 = 0
    · exact (hit28 hW hq h3 x0).any
    by_cases x1 : w / 67108864 % 64 = 16
    · exact no h (rk19' ho ((b_26_6 hW).trans x1))
    exact no h (rk19 ho (b_26_6 hW) ⟨by omega, by omega⟩ x0 x1 (by decide))
  · exact (hit23 hW hq h3).any
  · exact (hit24 hW hq h3).any
  · exact (hit25 hW hq h3).any
  · rw [k3.trans h3] at h
    by_cases x0 : w / 67108864 % 64 = 0
    · exact (hit29 hW hq h3 x0).any
    by_cases x1 : w / 67108864 % 64 = 16
    · exact (hit30 hW hq h3 x1).any
    exact no h (rk19 ho (b_26_6 hW) ⟨by omega, by omega⟩ x0 x1 (by decide))
  · exact (hit26 hW hq h3).any
  · exact (hit27 hW hq h3).any
theorem any27 {w : Int} (hW : W32 w) (hq : w % 128 = 27) (h6 : decode_parts__insn6 w (decode_of0 w) (decode_of1 w) (decode_of2 w) (decode_of3 w) (decode_of4 w) = true) : Hit w := by
  have ho : decode_Opcode0 w = 27 := (opc_eq hW).trans hq
  have h := (s27_6 ho).symm.trans h6
  have k3 := of1_eq hW
  have k7 := of4_eq hW
  have k2 := of3_eq hW
  have kd := of0_eq hW
  have hw := hW
  unfold W32 at hw
  rcases f3_cases (show 0 ≤ w / 4096 % 8 ∧ w / 4096 % 8 < 8 by omega) with h3 | h3 | h3 | h3 | h3 | h3 | h3 | h3
  · exact (hit31 hW hq h3).any
  · rw [k3.trans h3] at h
    by_cases x0 : w / 33554432 % 128 = 0
    · exact (hit32 hW hq h3 x0).any
    by_cases x1 : w / 33554432 % 128 = 32
    · exact no h (rk27' ho ((b_25_7 hW).trans x1))
    exact no h (rk27 ho (b_25_7 hW) ⟨by omega, by omega⟩ x0 x1 (by decide))
  · rw [k3.trans h3] at h; exact no h (rk27n ho (by decide))
  · rw [k3.trans h3] at h; exact no h (rk27n ho (by decide))
  · rw [k3.trans h3] at h; exact no h (rk27n ho (by decide))
  · rw [k3.trans h3] at h
    by_cases x0 : w / 33554432 % 128 = 0
    · exact (hit33 hW hq h3 x0).any
    by_cases x1 : w / 33554432 % 128 = 32
    · exact (hit34 hW hq h3 x1).any
    exact no h (rk27 ho (b_25_7 hW) ⟨by omega, by omega⟩ x0 x1 (by decide))
  · rw [k3.trans h3] at h; exact no h (rk27n ho (by decide))
  · rw [k3.trans h3] at h; exact no h (rk27n ho (by decide))
theorem any51 {w : Int} (hW : W32 w) (hq : w % 128 = 51) (h6 : decode_parts__insn6 w (decode_of0 w) (decode_of1 w) (decode_of2 w) (decode_of3 w) (decode_of4 w) = true) : Hit w := by
  have ho : decode_Opcode0 w = 51 := (opc_eq hW).trans hq
  have h := (s51_6 ho).symm.trans h6
  have k3 := of1_eq hW
  have k7 := of4_eq hW
  have k2 := of3_eq hW
  have kd := of0_eq hW
  have hw := hW
  unfold W32 at hw
  by_cases z0 : w / 33554432 % 128 = 0
  · rw [k7.trans z0] at h
    rcases f3_cases (show 0 ≤ w / 4096 % 8 ∧ w / 4096 % 8 < 8 by omega) with h3 | h3 | h3 | h3 | h3 | h3 | h3 | h3
    · exact (hit35 hW hq h3 z0).any
    · exact (hit37 hW hq h3 z0).any
    · exact (hit38 hW hq h3 z0).any
    · exact (hit39 hW hq h3 z0).any
    · exact (hit40 hW hq h3 z0).any
    · exact (hit41 hW hq h3 z0).any
    · exact (hit43 hW hq h3 z0).any
    · exact (hit44 hW hq h3 z0).any
  by_cases z1 : w / 33554432 % 128 = 32
  · rw [k7.trans z1] at h
    rcases f3_cases (show 0 ≤ w / 4096 % 8 ∧ w / 4096 % 8 < 8 by omega) with h3 | h3 | h3 | h3 | h3 | h3 | h3 | h3
    · exact (hit36 hW hq h3 z1).any
    · rw [k3.trans h3] at h; unfold decode_parts__registers6 at h; rw [ho] at h; exact no h (by kernel_rfl)
    · rw [k3.trans h3] at h; unfold decode_parts__registers6 at h; rw [ho] at h; exact no h (by kernel_rfl)
    · rw [k3.trans h3] at h; unfold decode_parts__registers6 at h; rw [ho] at h; exact no h (by kernel_rfl)
    · rw [k3.trans h3] at h; unfold decode_parts__registers6 at h; rw [ho] at h; exact no h (by kernel_rfl)
    · exact (hit42 hW hq h3 z1).any
    · rw [k3.trans h3] at h; unfold decode_parts__registers6 at h; rw [ho] at h; exact no h (by kernel_rfl)
    · rw [k3.trans h3] at h; unfold decode_parts__registers6 at h; rw [ho] at h; exact no h (by kernel_rfl)
  exact no h (rg_n (by rw [k7]; exact z0) (by rw [k7]; exact z1))
theorem any59 {w : Int} (hW : W32 w) (hq : w % 128 = 59) (h6 : decode_parts__insn6 w (decode_of0 w) (decode_of1 w) (decode_of2 w) (decode_of3 w) (decode_of4 w) = true) : Hit w := by
  have ho : decode_Opcode0 w = 59 := (opc_eq hW).trans hq
  have h := (s59_6 ho).symm.trans h6
  have k3 := of1_eq hW
  have k7 := of4_eq hW
  have k2 := of3_eq hW
  have kd := of0_eq hW
  have hw := hW
  unfold W32 at hw
  by_cases z0 : w / 33554432 % 128 = 0
  · rw [k7.trans z0] at h
    rcases f3_cases (show 0 ≤ w / 4096 % 8 ∧ w / 4096 % 8 < 8 by omega) with h3 | h3 | h3 | h3 | h3 | h3 | h3 | h3
    · exact (hit45 hW hq h3 z0).any
    · exact (hit47 hW hq h3 z0).any
    · rw [k3.trans h3] at h; unfold decode_parts__registers6 at h; rw [ho] at h; exact no h (by kernel_rfl)
    · rw [k3.trans h3] at h; unfold decode_parts__registers6 at h; rw [ho] at h; exact no h (by kernel_rfl)
    · rw [k3.trans h3] at h; unfold decode_parts__registers6 at h; rw [ho] at h; exact no h (by kernel_rfl)
    · exact (hit48 hW hq h3 z0).any
    · rw [k3.trans h3] at h; unfold decode_parts__registers6 at h; rw [ho] at h; exact no h (by kernel_rfl)
    · rw [k3.trans h3] at h; unfold decode_parts__registers6 at h; rw [ho] at h; exact no h (by kernel_rfl)
  by_cases z1 : w / 33554432 % 128 = 32
  · rw [k7.trans z1] at h
    rcases f3_cases (show 0 ≤ w / 4096 % 8 ∧ w / 4096 % 8 < 8 by omega) with h3 | h3 | h3 | h3 | h3 | h3 | h3 | h3
    · exact (hit46 hW hq h3 z1).any
    · rw [k3.trans h3] at h; unfold decode_parts__registers6 at h; rw [ho] at h; exact no h (by kernel_rfl)
    · rw [k3.trans h3] at h; unfold decode_parts__registers6 at h; rw [ho] at h; exact no h (by kernel_rfl)
    · rw [k3.trans h3] at h; unfold decode_parts__registers6 at h; rw [ho] at h; exact no h (by kernel_rfl)
    · rw [k3.trans h3] at h; unfold decode_parts__registers6 at h; rw [ho] at h; exact no h (by kernel_rfl)
    · exact (hit49 hW hq h3 z1).any
    · rw [k3.trans h3] at h; unfold decode_parts__registers6 at h; rw [ho] at h; exact no h (by kernel_rfl)
    · rw [k3.trans h3] at h; unfold decode_parts__registers6 at h; rw [ho] at h; exact no h (by kernel_rfl)
  exact no h (rg_n (by rw [k7]; exact z0) (by rw [k7]; exact z1))
theorem any15 {w : Int} (hW : W32 w) (hq : w % 128 = 15) (h6 : decode_parts__insn6 w (decode_of0 w) (decode_of1 w) (decode_of2 w) (decode_of3 w) (decode_of4 w) = true) : Hit w := by
  have ho : decode_Opcode0 w = 15 := (opc_eq hW).trans hq
  have h := (s15_6 ho).symm.trans h6
  have k3 := of1_eq hW
  have k7 := of4_eq hW
  have k2 := of3_eq hW
  have kd := of0_eq hW
  have hw := hW
  unfold W32 at hw
  exact fx h
theorem any115 {w : Int} (hW : W32 w) (hq : w % 128 = 115) (h6 : decode_parts__insn6 w (decode_of0 w) (decode_of1 w) (decode_of2 w) (decode_of3 w) (decode_of4 w) = true) : Hit w := by
  have ho : decode_Opcode0 w = 115 := (opc_eq hW).trans hq
  have h := (s115_6 ho).symm.trans h6
  have k3 := of1_eq hW
  have k7 := of4_eq hW
  have k2 := of3_eq hW
  have kd := of0_eq hW
  have hw := hW
  unfold W32 at hw
  rcases f3_cases (show 0 ≤ w / 4096 % 8 ∧ w / 4096 % 8 < 8 by omega) with h3 | h3 | h3 | h3 | h3 | h3 | h3 | h3
  · rw [k3.trans h3] at h
    by_cases d0 : w / 128 % 32 = 0
    · by_cases z9 : w / 33554432 % 128 = 9
      · exact (hit63 hW hq h3 z9 d0).any
      by_cases z17 : w / 33554432 % 128 = 17
      · exact (hit64 hW hq h3 z17 d0).any
      by_cases z49 : w / 33554432 % 128 = 49
      · exact (hit65 hW hq h3 z49 d0).any
      have e : decode_fence0 (decode_of4 w) = 0 := by
        unfold decode_fence0
        rw [k7, iEq_false.2 z9, iEq_false.2 z17, iEq_false.2 z49]
        rfl
      unfold decode_parts__system6 at h
      rw [e] at h
      exact fx h
    · have e : iNe (decode_of0 w) 0 = true := by rw [kd, iNe_true]; exact d0
      unfold decode_parts__system6 at h
      rw [e, show iEq (0 : Int) 0 = true from rfl, cond_true] at h
      cases hf : iEq (decode_fence0 (decode_of4 w)) 0 <;> rw [hf] at h <;> exact fx h
  · exact (hit54 hW hq h3).any
  · exact (hit55 hW hq h3).any
  · exact (hit56 hW hq h3).any
  · rw [k3.trans h3] at h
    unfold decode_parts__system6 at h
    rw [show iEq (4 : Int) 0 = false from rfl, show iEq (4 : Int) 4 = true from rfl, cond_false, cond_true] at h
    unfold decode_parts__guests6 at h
    by_cases z52 : w / 33554432 % 128 = 52
    · by_cases t0 : w / 1048576 % 32 = 0
      · exact (hit66 hW hq h3 z52 t0).any
      by_cases t3 : w / 1048576 % 32 = 3
      · exact (hit68 hW hq h3 z52 t3).any
      rw [k7, k2, z52, iEq_false.2 t0, iEq_false.2 t3] at h
      exact no h rfl
    by_cases z54 : w / 33554432 % 128 = 54
    · by_cases t0 : w / 1048576 % 32 = 0
      · exact (hit67 hW hq h3 z54 t0).any
      rw [k7, k2, z54, iEq_false.2 t0] at h
      exact no h rfl
    by_cases z55 : w / 33554432 % 128 = 55
    · by_cases d0 : w / 128 % 32 = 0
      · exact (hit69 hW hq h3 z55 d0).any
      rw [k7, kd, z55, iEq_false.2 d0] at h
      exact no h rfl
    rw [k7, iEq_false.2 z52, iEq_false.2 z54, iEq_false.2 z55] at h
    exact no h rfl
  · exact (hit57 hW hq h3).any
  · exact (hit58 hW hq h3).any
  · exact (hit59 hW hq h3).any

theorem any_hit {w : Int} (hW : W32 w) (h : decode_Decode_c0 w = false) : Hit w := by
  have h6 : decode_parts__insn6 w (decode_of0 w) (decode_of1 w) (decode_of2 w) (decode_of3 w) (decode_of4 w) = true := by
    unfold decode_Decode_c0 at h
    cases hx : decode_parts__insn6 w (decode_of0 w) (decode_of1 w) (decode_of2 w) (decode_of3 w) (decode_of4 w) with
    | true => rfl
    | false => rw [hx] at h; cases h
  by_cases q55 : w % 128 = 55
  · exact any55 hW q55
  by_cases q23 : w % 128 = 23
  · exact any23 hW q23
  by_cases q111 : w % 128 = 111
  · exact any111 hW q111
  by_cases q103 : w % 128 = 103
  · exact any103 hW q103 h6
  by_cases q99 : w % 128 = 99
  · exact any99 hW q99 h6
  by_cases q3 : w % 128 = 3
  · exact any3 hW q3 h6
  by_cases q35 : w % 128 = 35
  · exact any35 hW q35 h6
  by_cases q19 : w % 128 = 19
  · exact any19 hW q19 h6
  by_cases q27 : w % 128 = 27
  · exact any27 hW q27 h6
  by_cases q51 : w % 128 = 51
  · exact any51 hW q51 h6
  by_cases q59 : w % 128 = 59
  · exact any59 hW q59 h6
  by_cases q15 : w % 128 = 15
  · exact any15 hW q15 h6
  by_cases q115 : w % 128 = 115
  · exact any115 hW q115 h6
  have ho := opc_eq hW
  unfold decode_parts__insn6 decode_parts__insn_c16 at h6
  rw [ho, iEq_false.2 q55, iEq_false.2 q23, iEq_false.2 q111, iEq_false.2 q103, iEq_false.2 q99, iEq_false.2 q3, iEq_false.2 q35, iEq_false.2 q19, iEq_false.2 q27, iEq_false.2 q51, iEq_false.2 q59, iEq_false.2 q15, iEq_false.2 q115] at h6
  exact no h6 rfl

theorem dec_hit {w op rd rs1 rs2 imm csr : Int} (h : HitT w op rd rs1 rs2 imm csr) : decode_Decode0 w = op ∧ decode_Decode1 w = rd ∧ decode_Decode2 w = rs1 ∧ decode_Decode3 w = rs2 ∧ decode_Decode4 w = imm ∧ decode_Decode5 w = csr ∧ decode_Decode6 w = 0 :=
  dec_of_ins h.ins h.is
theorem hitB_of {w op rd rs1 rs2 imm csr : Int} (h : HitT w op rd rs1 rs2 imm csr) : hitB w op = true := by
  unfold hitB
  rw [h.c, h.g1, h.g2, h.g3, h.g4, h.g5, h.enc]
  unfold sallyportref3_Encode1
  rw [h.is, iEq_self]
  rfl
/-- An operation whose guess is written as the word is what the program reads. -/
theorem hitB_dec {w op : Int} (h : hitB w op = true) : decode_Decode0 w = op ∧ decode_Decode1 w = sallyportref3_guess1 op w ∧ decode_Decode2 w = sallyportref3_guess2 op w ∧ decode_Decode3 w = sallyportref3_guess3 op w ∧
    decode_Decode4 w = sallyportref3_guess4 op w ∧ decode_Decode5 w = sallyportref3_guess5 op w ∧ decode_Decode6 w = 0 := by
  unfold hitB at h
  cases hc : rdRound_c0 w false op 0 0 0 0 0 0 with
  | true => rw [hc] at h; cases h
  | false =>
    rw [hc, cond_false] at h
    unfold sallyportref3_Encode1 at h
    cases hi : sallyportref3_Is0 op (sallyportref3_guess1 op w) (sallyportref3_guess2 op w) (sallyportref3_guess3 op w) (sallyportref3_guess4 op w) (sallyportref3_guess5 op w) with
    | false => rw [hi] at h; cases h
    | true =>
      rw [hi] at h
      exact dec_made hi (iEq_true.1 h).symm
theorem opFrom_hit {w op : Int} : ∀ (n : Nat) (a : Int), a ≤ op → op < a + n → hitB w op = true → (∀ o, hitB w o = true → o = op) → opFrom w n a = op
  | 0, a, h1, h2, _, _ => by omega
  | n + 1, a, h1, h2, h, u => by
    unfold opFrom
    cases hh : hitB w a with
    | true => rw [cond_true]; exact u a hh
    | false =>
      rw [cond_false]
      refine opFrom_hit n (a + 1) ?_ (by omega) h u
      by_cases e : a = op
      · rw [e, h] at hh; cases hh
      · omega
theorem opFrom_none {w : Int} (u : ∀ o, hitB w o = false) : ∀ (n : Nat) (a : Int), opFrom w n a = a + n
  | 0, a => by unfold opFrom; omega
  | n + 1, a => by
    unfold opFrom
    rw [u a, cond_false, opFrom_none u n (a + 1)]
    omega

/-- What the document reads is what the program reads. -/
theorem opOf_some {w op rd rs1 rs2 imm csr : Int} (h : HitT w op rd rs1 rs2 imm csr) : opOf w = op := by
  have hop := ris_op h.is
  exact opFrom_hit 69 1 hop.1 (by omega) (hitB_of h) fun o ho => (hitB_dec ho).1.symm.trans (dec_hit h).1
theorem opOf_none {w : Int} (hc : decode_Decode_c0 w = true) : opOf w = 70 := by
  refine (opFrom_none (fun o => ?_) 69 1).trans rfl
  cases hh : hitB w o with
  | false => rfl
  | true =>
    have := (hitB_dec hh).2.2.2.2.2.2
    unfold decode_Decode6 at this
    rw [hc] at this
    cases this
theorem dec_none {w : Int} (hc : decode_Decode_c0 w = true) : decode_Decode0 w = 0 ∧ decode_Decode1 w = 0 ∧ decode_Decode2 w = 0 ∧ decode_Decode3 w = 0 ∧ decode_Decode4 w = 0 ∧ decode_Decode5 w = 0 ∧ decode_Decode6 w = 40 := by
  unfold decode_Decode0 decode_Decode1 decode_Decode2 decode_Decode3 decode_Decode4 decode_Decode5 decode_Decode6
  rw [hc]
  exact ⟨rfl, rfl, rfl, rfl, rfl, rfl, rfl⟩
end Go.Proofs.Ytigmhcafampfnaa.PV
