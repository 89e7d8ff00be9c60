/-
  The document's Encode of each operation: what there is to its fields, its word as a sum. Printed by a program of the prover's own (wip/prt/words2.py).
-/
import Derived.Test.YtngaeiceicgalaaDoorHb
set_option linter.unusedVariables false
namespace Go.Proofs.YtngaeiceicgalaaDoor.PV
open Go Go.Ev
theorem enc1 {rd rs1 rs2 imm csr : Int} (h : sallyportref3_Is0 1 rd rs1 rs2 imm csr = true) : sallyportref3_Encode0 1 rd rs1 rs2 imm csr = 55 + rd * 128 + (imm % 4294967296) / 4096 * 4096 ∧ rs1 = 0 ∧ rs2 = 0 ∧ csr = 0 ∧ (-2147483648 ≤ imm ∧ imm ≤ 2147479552) ∧ imm % 4096 = 0 := by
  have H := is_hyps h
  have e2 : sallyportref3_number0 1 rd rs1 rs2 imm csr = sallyportref3_within0 imm (-2147483648) 2147479552 4096 := by kernel_rfl
  have hm := H.hnum (by decide +kernel)
  rw [e2] at hm
  obtain ⟨n1, n2, n3⟩ := within_hyps hm
  have hn : -2147483648 ≤ imm ∧ imm ≤ 2147479552 := ⟨n1, n2⟩
  have e : sallyportref3_Encode0 1 rd rs1 rs2 imm csr = iOr .u32 (iOr .u32 (55) (iShl .u32 (iConv .u32 rd) 7)) (iAnd .u32 (iConv .u32 imm) 4294963200) := by
    unfold sallyportref3_Encode0
    rw [h]
    kernel_rfl
  exact ⟨e.trans (chainU (by decide) H.hrd), H.hrs10 (by decide +kernel), H.hrs20 (by decide +kernel), H.hcsr0 (by decide +kernel), hn, rem_dvd n3⟩
theorem enc2 {rd rs1 rs2 imm csr : Int} (h : sallyportref3_Is0 2 rd rs1 rs2 imm csr = true) : sallyportref3_Encode0 2 rd rs1 rs2 imm csr = 23 + rd * 128 + (imm % 4294967296) / 4096 * 4096 ∧ rs1 = 0 ∧ rs2 = 0 ∧ csr = 0 ∧ (-2147483648 ≤ imm ∧ imm ≤ 2147479552) ∧ imm % 4096 = 0 := by
  have H := is_hyps h
  have e2 : sallyportref3_number0 2 rd rs1 rs2 imm csr = sallyportref3_within0 imm (-2147483648) 2147479552 4096 := by kernel_rfl
  have hm := H.hnum (by decide +kernel)
  rw [e2] at hm
  obtain ⟨n1, n2, n3⟩ := within_hyps hm
  have hn : -2147483648 ≤ imm ∧ imm ≤ 2147479552 := ⟨n1, n2⟩
  have e : sallyportref3_Encode0 2 rd rs1 rs2 imm csr = iOr .u32 (iOr .u32 (23) (iShl .u32 (iConv .u32 rd) 7)) (iAnd .u32 (iConv .u32 imm) 4294963200) := by
    unfold sallyportref3_Encode0
    rw [h]
    kernel_rfl
  exact ⟨e.trans (chainU (by decide) H.hrd), H.hrs10 (by decide +kernel), H.hrs20 (by decide +kernel), H.hcsr0 (by decide +kernel), hn, rem_dvd n3⟩
theorem enc3 {rd rs1 rs2 imm csr : Int} (h : sallyportref3_Is0 3 rd rs1 rs2 imm csr = true) : sallyportref3_Encode0 3 rd rs1 rs2 imm csr = 111 + rd * 128 + (imm % 4294967296) / 1048576 % 2 * 2147483648 + (imm % 4294967296) / 4096 % 256 * 4096 + (imm % 4294967296) / 2048 % 2 * 1048576 + (imm % 4294967296) / 2 % 1024 * 2097152 ∧ rs1 = 0 ∧ rs2 = 0 ∧ csr = 0 ∧ (-1048576 ≤ imm ∧ imm ≤ 1048574) ∧ imm % 2 = 0 := by
  have H := is_hyps h
  have e2 : sallyportref3_number0 3 rd rs1 rs2 imm csr = sallyportref3_within0 imm (-1048576) 1048574 2 := by kernel_rfl
  have hm := H.hnum (by decide +kernel)
  rw [e2] at hm
  obtain ⟨n1, n2, n3⟩ := within_hyps hm
  have hn : -1048576 ≤ imm ∧ imm ≤ 1048574 := ⟨n1, n2⟩
  have e : sallyportref3_Encode0 3 rd rs1 rs2 imm csr = iOr .u32 (iOr .u32 (iOr .u32 (iOr .u32 (iOr .u32 (111) (iShl .u32 (iConv .u32 rd) 7)) (iShl .u32 (iAnd .u32 (iShr .u32 (iConv .u32 imm) 20) 1) 31)) (iShl .u32 (iAnd .u32 (iShr .u32 (iConv .u32 imm) 12) 255) 12)) (iShl .u32 (iAnd .u32 (iShr .u32 (iConv .u32 imm) 11) 1) 20)) (iShl .u32 (iAnd .u32 (iShr .u32 (iConv .u32 imm) 1) 1023) 21) := by
    unfold sallyportref3_Encode0
    rw [h]
    kernel_rfl
  exact ⟨e.trans (chainJ (by decide) H.hrd), H.hrs10 (by decide +kernel), H.hrs20 (by decide +kernel), H.hcsr0 (by decide +kernel), hn, rem_dvd n3⟩
theorem enc4 {rd rs1 rs2 imm csr : Int} (h : sallyportref3_Is0 4 rd rs1 rs2 imm csr = true) : sallyportref3_Encode0 4 rd rs1 rs2 imm csr = 103 + 0 * 4096 + rs1 * 32768 + rd * 128 + (imm % 4294967296) % 4096 * 1048576 ∧ rs2 = 0 ∧ csr = 0 ∧ (-2048 ≤ imm ∧ imm ≤ 2047) := by
  have H := is_hyps h
  have e2 : sallyportref3_number0 4 rd rs1 rs2 imm csr = sallyportref3_within0 imm (-2048) 2047 1 := by kernel_rfl
  have hm := H.hnum (by decide +kernel)
  rw [e2] at hm
  obtain ⟨n1, n2, n3⟩ := within_hyps hm
  have hn : -2048 ≤ imm ∧ imm ≤ 2047 := ⟨n1, n2⟩
  have e : sallyportref3_Encode0 4 rd rs1 rs2 imm csr = iOr .u32 (iOr .u32 (iOr .u32 (iOr .u32 (103) (iShl .u32 0 12)) (iShl .u32 (iConv .u32 rs1) 15)) (iShl .u32 (iConv .u32 rd) 7)) (iShl .u32 (iAnd .u32 (iConv .u32 imm) 4095) 20) := by
    unfold sallyportref3_Encode0
    rw [h]
    kernel_rfl
  exact ⟨e.trans (chainI (by decide) (by decide) H.hrs1 H.hrd), H.hrs20 (by decide +kernel), H.hcsr0 (by decide +kernel), hn⟩
theorem enc5 {rd rs1 rs2 imm csr : Int} (h : sallyportref3_Is0 5 rd rs1 rs2 imm csr = true) : sallyportref3_Encode0 5 rd rs1 rs2 imm csr = 99 + 0 * 4096 + rs1 * 32768 + rs2 * 1048576 + (imm % 4294967296) / 4096 % 2 * 2147483648 + (imm % 4294967296) / 2048 % 2 * 128 + (imm % 4294967296) / 32 % 64 * 33554432 + (imm % 4294967296) / 2 % 16 * 256 ∧ rd = 0 ∧ csr = 0 ∧ (-4096 ≤ imm ∧ imm ≤ 4094) ∧ imm % 2 = 0 := by
  have H := is_hyps h
  have e2 : sallyportref3_number0 5 rd rs1 rs2 imm csr = sallyportref3_within0 imm (-4096) 4094 2 := by kernel_rfl
  have hm := H.hnum (by decide +kernel)
  rw [e2] at hm
  obtain ⟨n1, n2, n3⟩ := within_hyps hm
  have hn : -4096 ≤ imm ∧ imm ≤ 4094 := ⟨n1, n2⟩
  have e : sallyportref3_Encode0 5 rd rs1 rs2 imm csr = iOr .u32 (iOr .u32 (iOr .u32 (iOr .u32 (iOr .u32 (iOr .u32 (iOr .u32 (99) (iShl .u32 0 12)) (iShl .u32 (iConv .u32 rs1) 15)) (iShl .u32 (iConv .u32 rs2) 20)) (iShl .u32 (iAnd .u32 (iShr .u32 (iConv .u32 imm) 12) 1) 31)) (iShl .u32 (iAnd .u32 (iShr .u32 (iConv .u32 imm) 11) 1) 7)) (iShl .u32 (iAnd .u32 (iShr .u32 (iConv .u32 imm) 5) 63) 25)) (iShl .u32 (iAnd .u32 (iShr .u32 (iConv .u32 imm) 1) 15) 8) := by
    unfold sallyportref3_Encode0
    rw [h]
    kernel_rfl
  exact ⟨e.trans (chainB (by decide) (by decide) H.hrs1 H.hrs2), H.hrd0 (by decide +kernel), H.hcsr0 (by decide +kernel), hn, rem_dvd n3⟩
theorem enc6 {rd rs1 rs2 imm csr : Int} (h : sallyportref3_Is0 6 rd rs1 rs2 imm csr = true) : sallyportref3_Encode0 6 rd rs1 rs2 imm csr = 99 + 1 * 4096 + rs1 * 32768 + rs2 * 1048576 + (imm % 4294967296) / 4096 % 2 * 2147483648 + (imm % 4294967296) / 2048 % 2 * 128 + (imm % 4294967296) / 32 % 64 * 33554432 + (imm % 4294967296) / 2 % 16 * 256 ∧ rd = 0 ∧ csr = 0 ∧ (-4096 ≤ imm ∧ imm ≤ 4094) ∧ imm % 2 = 0 := by
  have H := is_hyps h
  have e2 : sallyportref3_number0 6 rd rs1 rs2 imm csr = sallyportref3_within0 imm (-4096) 4094 2 := by kernel_rfl
  have hm := H.hnum (by decide +kernel)
  rw [e2] at hm
  obtain ⟨n1, n2, n3⟩ := within_hyps hm
  have hn : -4096 ≤ imm ∧ imm ≤ 4094 := ⟨n1, n2⟩
  have e : sallyportref3_Encode0 6 rd rs1 rs2 imm csr = iOr .u32 (iOr .u32 (iOr .u32 (iOr .u32 (iOr .u32 (iOr .u32 (iOr .u32 (99) (iShl .u32 1 12)) (iShl .u32 (iConv .u32 rs1) 15)) (iShl .u32 (iConv .u32 rs2) 20)) (iShl .u32 (iAnd .u32 (iShr .u32 (iConv .u32 imm) 12) 1) 31)) (iShl .u32 (iAnd .u32 (iShr .u32 (iConv .u32 imm) 11) 1) 7)) (iShl .u32 (iAnd .u32 (iShr .u32 (iConv .u32 imm) 5) 63) 25)) (iShl .u32 (iAnd .u32 (iShr .u32 (iConv .u32 imm) 1) 15) 8) := by
    unfold sallyportref3_Encode0
    rw [h]
    kernel_rfl
  exact ⟨e.trans (chainB (by decide) (by decide) H.hrs1 H.hrs2), H.hrd0 (by decide +kernel), H.hcsr0 (by decide +kernel), hn, rem_dvd n3⟩
theorem enc7 {rd rs1 rs2 imm csr : Int} (h : sallyportref3_Is0 7 rd rs1 rs2 imm csr = true) : sallyportref3_Encode0 7 rd rs1 rs2 imm csr = 99 + 4 * 4096 + rs1 * 32768 + rs2 * 1048576 + (imm % 4294967296) / 4096 % 2 * 2147483648 + (imm % 4294967296) / 2048 % 2 * 128 + (imm % 4294967296) / 32 % 64 * 33554432 + (imm % 4294967296) / 2 % 16 * 256 ∧ rd = 0 ∧ csr = 0 ∧ (-4096 ≤ imm ∧ imm ≤ 4094) ∧ imm % 2 = 0 := by
  have H := is_hyps h
  have e2 : sallyportref3_number0 7 rd rs1 rs2 imm csr = sallyportref3_within0 imm (-4096) 4094 2 := by kernel_rfl
  have hm := H.hnum (by decide +kernel)
  rw [e2] at hm
  obtain ⟨n1, n2, n3⟩ := within_hyps hm
  have hn : -4096 ≤ imm ∧ imm ≤ 4094 := ⟨n1, n2⟩
  have e : sallyportref3_Encode0 7 rd rs1 rs2 imm csr = iOr .u32 (iOr .u32 (iOr .u32 (iOr .u32 (iOr .u32 (iOr .u32 (iOr .u32 (99) (iShl .u32 4 12)) (iShl .u32 (iConv .u32 rs1) 15)) (iShl .u32 (iConv .u32 rs2) 20)) (iShl .u32 (iAnd .u32 (iShr .u32 (iConv .u32 imm) 12) 1) 31)) (iShl .u32 (iAnd .u32 (iShr .u32 (iConv .u32 imm) 11) 1) 7)) (iShl .u32 (iAnd .u32 (iShr .u32 (iConv .u32 imm) 5) 63) 25)) (iShl .u32 (iAnd .u32 (iShr .u32 (iConv .u32 imm) 1) 15) 8) := by
    unfold sallyportref3_Encode0
    rw [h]
    kernel_rfl
  exact ⟨e.trans (chainB (by decide) (by decide) H.hrs1 H.hrs2), H.hrd0 (by decide +kernel), H.hcsr0 (by decide +kernel), hn, rem_dvd n3⟩
theorem enc8 {rd rs1 rs2 imm csr : Int} (h : sallyportref3_Is0 8 rd rs1 rs2 imm csr = true) : sallyportref3_Encode0 8 rd rs1 rs2 imm csr = 99 + 5 * 4096 + rs1 * 32768 + rs2 * 1048576 + (imm % 4294967296) / 4096 % 2 * 2147483648 + (imm % 4294967296) / 2048 % 2 * 128 + (imm % 4294967296) / 32 % 64 * 33554432 + (imm % 4294967296) / 2 % 16 * 256 ∧ rd = 0 ∧ csr = 0 ∧ (-4096 ≤ imm ∧ imm ≤ 4094) ∧ imm % 2 = 0 := by
  have H := is_hyps h
  have e2 : sallyportref3_number0 8 rd rs1 rs2 imm csr = sallyportref3_within0 imm (-4096) 4094 2 := by kernel_rfl
  have hm := H.hnum (by decide +kernel)
  rw [e2] at hm
  obtain ⟨n1, n2, n3⟩ := within_hyps hm
  have hn : -4096 ≤ imm ∧ imm ≤ 4094 := ⟨n1, n2⟩
  have e : sallyportref3_Encode0 8 rd rs1 rs2 imm csr = iOr .u32 (iOr .u32 (iOr .u32 (iOr .u32 (iOr .u32 (iOr .u32 (iOr .u32 (99) (iShl .u32 5 12)) (iShl .u32 (iConv .u32 rs1) 15)) (iShl .u32 (iConv .u32 rs2) 20)) (iShl .u32 (iAnd .u32 (iShr .u32 (iConv .u32 imm) 12) 1) 31)) (iShl .u32 (iAnd .u32 (iShr .u32 (iConv .u32 imm) 11) 1) 7)) (iShl .u32 (iAnd .u32 (iShr .u32 (iConv .u32 imm) 5) 63) 25)) (iShl .u32 (iAnd .u32 (iShr .u32 (iConv .u32 imm) 1) 15) 8) := by
    unfold sallyportref3_Encode0
    rw [h]
    kernel_rfl
  exact ⟨e.trans (chainB (by decide) (by decide) H.hrs1 H.hrs2), H.hrd0 (by decide +kernel), H.hcsr0 (by decide +kernel), hn, rem_dvd n3⟩
theorem enc9 {rd rs1 rs2 imm csr : Int} (h : sallyportref3_Is0 9 rd rs1 rs2 imm csr = true) : sallyportref3_Encode0 9 rd rs1 rs2 imm csr = 99 + 6 * 4096 + rs1 * 32768 + rs2 * 1048576 + (imm % 4294967296) / 4096 % 2 * 2147483648 + (imm % 4294967296) / 2048 % 2 * 128 + (imm % 4294967296) / 32 % 64 * 33554432 + (imm % 4294967296) / 2 % 16 * 256 ∧ rd = 0 ∧ csr = 0 ∧ (-4096 ≤ imm ∧ imm ≤ 4094) ∧ imm % 2 = 0 := by
  have H := is_hyps h
  have e2 : sallyportref3_number0 9 rd rs1 rs2 imm csr = sallyportref3_within0 imm (-4096) 4094 2 := by kernel_rfl
  have hm := H.hnum (by decide +kernel)
  rw [e2] at hm
  obtain ⟨n1, n2, n3⟩ := within_hyps hm
  have hn : -4096 ≤ imm ∧ imm ≤ 4094 := ⟨n1, n2⟩
  have e : sallyportref3_Encode0 9 rd rs1 rs2 imm csr = iOr .u32 (iOr .u32 (iOr .u32 (iOr .u32 (iOr .u32 (iOr .u32 (iOr .u32 (99) (iShl .u32 6 12)) (iShl .u32 (iConv .u32 rs1) 15)) (iShl .u32 (iConv .u32 rs2) 20)) (iShl .u32 (iAnd .u32 (iShr .u32 (iConv .u32 imm) 12) 1) 31)) (iShl .u32 (iAnd .u32 (iShr .u32 (iConv .u32 imm) 11) 1) 7)) (iShl .u32 (iAnd .u32 (iShr .u32 (iConv .u32 imm) 5) 63) 25)) (iShl .u32 (iAnd .u32 (iShr .u32 (iConv .u32 imm) 1) 15) 8) := by
    unfold sallyportref3_Encode0
    rw [h]
    kernel_rfl
  exact ⟨e.trans (chainB (by decide) (by decide) H.hrs1 H.hrs2), H.hrd0 (by decide +kernel), H.hcsr0 (by decide +kernel), hn, rem_dvd n3⟩
theorem enc10 {rd rs1 rs2 imm csr : Int} (h : sallyportref3_Is0 10 rd rs1 rs2 imm csr = true) : sallyportref3_Encode0 10 rd rs1 rs2 imm csr = 99 + 7 * 4096 + rs1 * 32768 + rs2 * 1048576 + (imm % 4294967296) / 4096 % 2 * 2147483648 + (imm % 4294967296) / 2048 % 2 * 128 + (imm % 4294967296) / 32 % 64 * 33554432 + (imm % 4294967296) / 2 % 16 * 256 ∧ rd = 0 ∧ csr = 0 ∧ (-4096 ≤ imm ∧ imm ≤ 4094) ∧ imm % 2 = 0 := by
  have H := is_hyps h
  have e2 : sallyportref3_number0 10 rd rs1 rs2 imm csr = sallyportref3_within0 imm (-4096) 4094 2 := by kernel_rfl
  have hm := H.hnum (by decide +kernel)
  rw [e2] at hm
  obtain ⟨n1, n2, n3⟩ := within_hyps hm
  have hn : -4096 ≤ imm ∧ imm ≤ 4094 := ⟨n1, n2⟩
  have e : sallyportref3_Encode0 10 rd rs1 rs2 imm csr = iOr .u32 (iOr .u32 (iOr .u32 (iOr .u32 (iOr .u32 (iOr .u32 (iOr .u32 (99) (iShl .u32 7 12)) (iShl .u32 (iConv .u32 rs1) 15)) (iShl .u32 (iConv .u32 rs2) 20)) (iShl .u32 (iAnd .u32 (iShr .u32 (iConv .u32 imm) 12) 1) 31)) (iShl .u32 (iAnd .u32 (iShr .u32 (iConv .u32 imm) 11) 1) 7)) (iShl .u32 (iAnd .u32 (iShr .u32 (iConv .u32 imm) 5) 63) 25)) (iShl .u32 (iAnd .u32 (iShr .u32 (iConv .u32 imm) 1) 15) 8) := by
    unfold sallyportref3_Encode0
    rw [h]
    kernel_rfl
  exact ⟨e.trans (chainB (by decide) (by decide) H.hrs1 H.hrs2), H.hrd0 (by decide +kernel), H.hcsr0 (by decide +kernel), hn, rem_dvd n3⟩
theorem enc11 {rd rs1 rs2 imm csr : Int} (h : sallyportref3_Is0 11 rd rs1 rs2 imm csr = true) : sallyportref3_Encode0 11 rd rs1 rs2 imm csr = 3 + 0 * 4096 + rs1 * 32768 + rd * 128 + (imm % 4294967296) % 4096 * 1048576 ∧ rs2 = 0 ∧ csr = 0 ∧ (-2048 ≤ imm ∧ imm ≤ 2047) := by
  have H := is_hyps h
  have e2 : sallyportref3_number0 11 rd rs1 rs2 imm csr = sallyportref3_within0 imm (-2048) 2047 1 := by kernel_rfl
  have hm := H.hnum (by decide +kernel)
  rw [e2] at hm
  obtain ⟨n1, n2, n3⟩ := within_hyps hm
  have hn : -2048 ≤ imm ∧ imm ≤ 2047 := ⟨n1, n2⟩
  have e : sallyportref3_Encode0 11 rd rs1 rs2 imm csr = iOr .u32 (iOr .u32 (iOr .u32 (iOr .u32 (3) (iShl .u32 0 12)) (iShl .u32 (iConv .u32 rs1) 15)) (iShl .u32 (iConv .u32 rd) 7)) (iShl .u32 (iAnd .u32 (iConv .u32 imm) 4095) 20) := by
    unfold sallyportref3_Encode0
    rw [h]
    kernel_rfl
  exact ⟨e.trans (chainI (by decide) (by decide) H.hrs1 H.hrd), H.hrs20 (by decide +kernel), H.hcsr0 (by decide +kernel), hn⟩
theorem enc12 {rd rs1 rs2 imm csr : Int} (h : sallyportref3_Is0 12 rd rs1 rs2 imm csr = true) : sallyportref3_Encode0 12 rd rs1 rs2 imm csr = 3 + 1 * 4096 + rs1 * 32768 + rd * 128 + (imm % 4294967296) % 4096 * 1048576 ∧ rs2 = 0 ∧ csr = 0 ∧ (-2048 ≤ imm ∧ imm ≤ 2047) := by
  have H := is_hyps h
  have e2 : sallyportref3_number0 12 rd rs1 rs2 imm csr = sallyportref3_within0 imm (-2048) 2047 1 := by kernel_rfl
  have hm := H.hnum (by decide +kernel)
  rw [e2] at hm
  obtain ⟨n1, n2, n3⟩ := within_hyps hm
  have hn : -2048 ≤ imm ∧ imm ≤ 2047 := ⟨n1, n2⟩
  have e : sallyportref3_Encode0 12 rd rs1 rs2 imm csr = iOr .u32 (iOr .u32 (iOr .u32 (iOr .u32 (3) (iShl .u32 1 12)) (iShl .u32 (iConv .u32 rs1) 15)) (iShl .u32 (iConv .u32 rd) 7)) (iShl .u32 (iAnd .u32 (iConv .u32 imm) 4095) 20) := by
    unfold sallyportref3_Encode0
    rw [h]
    kernel_rfl
  exact ⟨e.trans (chainI (by decide) (by decide) H.hrs1 H.hrd), H.hrs20 (by decide +kernel), H.hcsr0 (by decide +kernel), hn⟩
theorem enc13 {rd rs1 rs2 imm csr : Int} (h : sallyportref3_Is0 13 rd rs1 rs2 imm csr = true) : sallyportref3_Encode0 13 rd rs1 rs2 imm csr = 3 + 2 * 4096 + rs1 * 32768 + rd * 128 + (imm % 4294967296) % 4096 * 1048576 ∧ rs2 = 0 ∧ csr = 0 ∧ (-2048 ≤ imm ∧ imm ≤ 2047) := by
  have H := is_hyps h
  have e2 : sallyportref3_number0 13 rd rs1 rs2 imm csr = sallyportref3_within0 imm (-2048) 2047 1 := by kernel_rfl
  have hm := H.hnum (by decide +kernel)
  rw [e2] at hm
  obtain ⟨n1, n2, n3⟩ := within_hyps hm
  have hn : -2048 ≤ imm ∧ imm ≤ 2047 := ⟨n1, n2⟩
  have e : sallyportref3_Encode0 13 rd rs1 rs2 imm csr = iOr .u32 (iOr .u32 (iOr .u32 (iOr .u32 (3) (iShl .u32 2 12)) (iShl .u32 (iConv .u32 rs1) 15)) (iShl .u32 (iConv .u32 rd) 7)) (iShl .u32 (iAnd .u32 (iConv .u32 imm) 4095) 20) := by
    unfold sallyportref3_Encode0
    rw [h]
    kernel_rfl
  exact ⟨e.trans (chainI (by decide) (by decide) H.hrs1 H.hrd), H.hrs20 (by decide +kernel), H.hcsr0 (by decide +kernel), hn⟩
theorem enc14 {rd rs1 rs2 imm csr : Int} (h : sallyportref3_Is0 14 rd rs1 rs2 imm csr = true) : sallyportref3_Encode0 14 rd rs1 rs2 imm csr = 3 + 3 * 4096 + rs1 * 32768 + rd * 128 + (imm % 4294967296) % 4096 * 1048576 ∧ rs2 = 0 ∧ csr = 0 ∧ (-2048 ≤ imm ∧ imm ≤ 2047) := by
  have H := is_hyps h
  have e2 : sallyportref3_number0 14 rd rs1 rs2 imm csr = sallyportref3_within0 imm (-2048) 2047 1 := by kernel_rfl
  have hm := H.hnum (by decide +kernel)
  rw [e2] at hm
  obtain ⟨n1, n2, n3⟩ := within_hyps hm
  have hn : -2048 ≤ imm ∧ imm ≤ 2047 := ⟨n1, n2⟩
  have e : sallyportref3_Encode0 14 rd rs1 rs2 imm csr = iOr .u32 (iOr .u32 (iOr .u32 (iOr .u32 (3) (iShl .u32 3 12)) (iShl .u32 (iConv .u32 rs1) 15)) (iShl .u32 (iConv .u32 rd) 7)) (iShl .u32 (iAnd .u32 (iConv .u32 imm) 4095) 20) := by
    unfold sallyportref3_Encode0
    rw [h]
    kernel_rfl
  exact ⟨e.trans (chainI (by decide) (by decide) H.hrs1 H.hrd), H.hrs20 (by decide +kernel), H.hcsr0 (by decide +kernel), hn⟩
theorem enc15 {rd rs1 rs2 imm csr : Int} (h : sallyportref3_Is0 15 rd rs1 rs2 imm csr = true) : sallyportref3_Encode0 15 rd rs1 rs2 imm csr = 3 + 4 * 4096 + rs1 * 32768 + rd * 128 + (imm % 4294967296) % 4096 * 1048576 ∧ rs2 = 0 ∧ csr = 0 ∧ (-2048 ≤ imm ∧ imm ≤ 2047) := by
  have H := is_hyps h
  have e2 : sallyportref3_number0 15 rd rs1 rs2 imm csr = sallyportref3_within0 imm (-2048) 2047 1 := by kernel_rfl
  have hm := H.hnum (by decide +kernel)
  rw [e2] at hm
  obtain ⟨n1, n2, n3⟩ := within_hyps hm
  have hn : -2048 ≤ imm ∧ imm ≤ 2047 := ⟨n1, n2⟩
  have e : sallyportref3_Encode0 15 rd rs1 rs2 imm csr = iOr .u32 (iOr .u32 (iOr .u32 (iOr .u32 (3) (iShl .u32 4 12)) (iShl .u32 (iConv .u32 rs1) 15)) (iShl .u32 (iConv .u32 rd) 7)) (iShl .u32 (iAnd .u32 (iConv .u32 imm) 4095) 20) := by
    unfold sallyportref3_Encode0
    rw [h]
    kernel_rfl
  exact ⟨e.trans (chainI (by decide) (by decide) H.hrs1 H.hrd), H.hrs20 (by decide +kernel), H.hcsr0 (by decide +kernel), hn⟩
theorem enc16 {rd rs1 rs2 imm csr : Int} (h : sallyportref3_Is0 16 rd rs1 rs2 imm csr = true) : sallyportref3_Encode0 16 rd rs1 rs2 imm csr = 3 + 5 * 4096 + rs1 * 32768 + rd * 128 + (imm % 4294967296) % 4096 * 1048576 ∧ rs2 = 0 ∧ csr = 0 ∧ (-2048 ≤ imm ∧ imm ≤ 2047) := by
  have H := is_hyps h
  have e2 : sallyportref3_number0 16 rd rs1 rs2 imm csr = sallyportref3_within0 imm (-2048) 2047 1 := by kernel_rfl
  have hm := H.hnum (by decide +kernel)
  rw [e2] at hm
  obtain ⟨n1, n2, n3⟩ := within_hyps hm
  have hn : -2048 ≤ imm ∧ imm ≤ 2047 := ⟨n1, n2⟩
  have e : sallyportref3_Encode0 16 rd rs1 rs2 imm csr = iOr .u32 (iOr .u32 (iOr .u32 (iOr .u32 (3) (iShl .u32 5 12)) (iShl .u32 (iConv .u32 rs1) 15)) (iShl .u32 (iConv .u32 rd) 7)) (iShl .u32 (iAnd .u32 (iConv .u32 imm) 4095) 20) := by
    unfold sallyportref3_Encode0
    rw [h]
    kernel_rfl
  exact ⟨e.trans (chainI (by decide) (by decide) H.hrs1 H.hrd), H.hrs20 (by decide +kernel), H.hcsr0 (by decide +kernel), hn⟩
theorem enc17 {rd rs1 rs2 imm csr : Int} (h : sallyportref3_Is0 17 rd rs1 rs2 imm csr = true) : sallyportref3_Encode0 17 rd rs1 rs2 imm csr = 3 + 6 * 4096 + rs1 * 32768 + rd * 128 + (imm % 4294967296) % 4096 * 1048576 ∧ rs2 = 0 ∧ csr = 0 ∧ (-2048 ≤ imm ∧ imm ≤ 2047) := by
  have H := is_hyps h
  have e2 : sallyportref3_number0 17 rd rs1 rs2 imm csr = sallyportref3_within0 imm (-2048) 2047 1 := by kernel_rfl
  have hm := H.hnum (by decide +kernel)
  rw [e2] at hm
  obtain ⟨n1, n2, n3⟩ := within_hyps hm
  have hn : -2048 ≤ imm ∧ imm ≤ 2047 := ⟨n1, n2⟩
  have e : sallyportref3_Encode0 17 rd rs1 rs2 imm csr = iOr .u32 (iOr .u32 (iOr .u32 (iOr .u32 (3) (iShl .u32 6 12)) (iShl .u32 (iConv .u32 rs1) 15)) (iShl .u32 (iConv .u32 rd) 7)) (iShl .u32 (iAnd .u32 (iConv .u32 imm) 4095) 20) := by
    unfold sallyportref3_Encode0
    rw [h]
    kernel_rfl
  exact ⟨e.trans (chainI (by decide) (by decide) H.hrs1 H.hrd), H.hrs20 (by decide +kernel), H.hcsr0 (by decide +kernel), hn⟩
theorem enc18 {rd rs1 rs2 imm csr : Int} (h : sallyportref3_Is0 18 rd rs1 rs2 imm csr = true) : sallyportref3_Encode0 18 rd rs1 rs2 imm csr = 35 + 0 * 4096 + rs1 * 32768 + rs2 * 1048576 + (imm % 4294967296) / 32 % 128 * 33554432 + (imm % 4294967296) % 32 * 128 ∧ rd = 0 ∧ csr = 0 ∧ (-2048 ≤ imm ∧ imm ≤ 2047) := by
  have H := is_hyps h
  have e2 : sallyportref3_number0 18 rd rs1 rs2 imm csr = sallyportref3_within0 imm (-2048) 2047 1 := by kernel_rfl
  have hm := H.hnum (by decide +kernel)
  rw [e2] at hm
  obtain ⟨n1, n2, n3⟩ := within_hyps hm
  have hn : -2048 ≤ imm ∧ imm ≤ 2047 := ⟨n1, n2⟩
  have e : sallyportref3_Encode0 18 rd rs1 rs2 imm csr = iOr .u32 (iOr .u32 (iOr .u32 (iOr .u32 (iOr .u32 (35) (iShl .u32 0 12)) (iShl .u32 (iConv .u32 rs1) 15)) (iShl .u32 (iConv .u32 rs2) 20)) (iShl .u32 (iAnd .u32 (iShr .u32 (iConv .u32 imm) 5) 127) 25)) (iShl .u32 (iAnd .u32 (iConv .u32 imm) 31) 7) := by
    unfold sallyportref3_Encode0
    rw [h]
    kernel_rfl
  exact ⟨e.trans (chainS (by decide) (by decide) H.hrs1 H.hrs2), H.hrd0 (by decide +kernel), H.hcsr0 (by decide +kernel), hn⟩
theorem enc19 {rd rs1 rs2 imm csr : Int} (h : sallyportref3_Is0 19 rd rs1 rs2 imm csr = true) : sallyportref3_Encode0 19 rd rs1 rs2 imm csr = 35 + 1 * 4096 + rs1 * 32768 + rs2 * 1048576 + (imm % 4294967296) / 32 % 128 * 33554432 + (imm % 4294967296) % 32 * 128 ∧ rd = 0 ∧ csr = 0 ∧ (-2048 ≤ imm ∧ imm ≤ 2047) := by
  have H := is_hyps h
  have e2 : sallyportref3_number0 19 rd rs1 rs2 imm csr = sallyportref3_within0 imm (-2048) 2047 1 := by kernel_rfl
  have hm := H.hnum (by decide +kernel)
  rw [e2] at hm
  obtain ⟨n1, n2, n3⟩ := within_hyps hm
  have hn : -2048 ≤ imm ∧ imm ≤ 2047 := ⟨n1, n2⟩
  have e : sallyportref3_Encode0 19 rd rs1 rs2 imm csr = iOr .u32 (iOr .u32 (iOr .u32 (iOr .u32 (iOr .u32 (35) (iShl .u32 1 12)) (iShl .u32 (iConv .u32 rs1) 15)) (iShl .u32 (iConv .u32 rs2) 20)) (iShl .u32 (iAnd .u32 (iShr .u32 (iConv .u32 imm) 5) 127) 25)) (iShl .u32 (iAnd .u32 (iConv .u32 imm) 31) 7) := by
    unfold sallyportref3_Encode0
    rw [h]
    kernel_rfl
  exact ⟨e.trans (chainS (by decide) (by decide) H.hrs1 H.hrs2), H.hrd0 (by decide +kernel), H.hcsr0 (by decide +kernel), hn⟩
theorem enc20 {rd rs1 rs2 imm csr : Int} (h : sallyportref3_Is0 20 rd rs1 rs2 imm csr = true) : sallyportref3_Encode0 20 rd rs1 rs2 imm csr = 35 + 2 * 4096 + rs1 * 32768 + rs2 * 1048576 + (imm % 4294967296) / 32 % 128 * 33554432 + (imm % 4294967296) % 32 * 128 ∧ rd = 0 ∧ csr = 0 ∧ (-2048 ≤ imm ∧ imm ≤ 2047) := by
  have H := is_hyps h
  have e2 : sallyportref3_number0 20 rd rs1 rs2 imm csr = sallyportref3_within0 imm (-2048) 2047 1 := by kernel_rfl
  have hm := H.hnum (by decide +kernel)
  rw [e2] at hm
  obtain ⟨n1, n2, n3⟩ := within_hyps hm
  have hn : -2048 ≤ imm ∧ imm ≤ 2047 := ⟨n1, n2⟩
  have e : sallyportref3_Encode0 20 rd rs1 rs2 imm csr = iOr .u32 (iOr .u32 (iOr .u32 (iOr .u32 (iOr .u32 (35) (iShl .u32 2 12)) (iShl .u32 (iConv .u32 rs1) 15)) (iShl .u32 (iConv .u32 rs2) 20)) (iShl .u32 (iAnd .u32 (iShr .u32 (iConv .u32 imm) 5) 127) 25)) (iShl .u32 (iAnd .u32 (iConv .u32 imm) 31) 7) := by
    unfold sallyportref3_Encode0
    rw [h]
    kernel_rfl
  exact ⟨e.trans (chainS (by decide) (by decide) H.hrs1 H.hrs2), H.hrd0 (by decide +kernel), H.hcsr0 (by decide +kernel), hn⟩
theorem enc21 {rd rs1 rs2 imm csr : Int} (h : sallyportref3_Is0 21 rd rs1 rs2 imm csr = true) : sallyportref3_Encode0 21 rd rs1 rs2 imm csr = 35 + 3 * 4096 + rs1 * 32768 + rs2 * 1048576 + (imm % 4294967296) / 32 % 128 * 33554432 + (imm % 4294967296) % 32 * 128 ∧ rd = 0 ∧ csr = 0 ∧ (-2048 ≤ imm ∧ imm ≤ 2047) := by
  have H := is_hyps h
  have e2 : sallyportref3_number0 21 rd rs1 rs2 imm csr = sallyportref3_within0 imm (-2048) 2047 1 := by kernel_rfl
  have hm := H.hnum (by decide +kernel)
  rw [e2] at hm
  obtain ⟨n1, n2, n3⟩ := within_hyps hm
  have hn : -2048 ≤ imm ∧ imm ≤ 2047 := ⟨n1, n2⟩
  have e : sallyportref3_Encode0 21 rd rs1 rs2 imm csr = iOr .u32 (iOr .u32 (iOr .u32 (iOr .u32 (iOr .u32 (35) (iShl .u32 3 12)) (iShl .u32 (iConv .u32 rs1) 15)) (iShl .u32 (iConv .u32 rs2) 20)) (iShl .u32 (iAnd .u32 (iShr .u32 (iConv .u32 imm) 5) 127) 25)) (iShl .u32 (iAnd .u32 (iConv .u32 imm) 31) 7) := by
    unfold sallyportref3_Encode0
    rw [h]
    kernel_rfl
  exact ⟨e.trans (chainS (by decide) (by decide) H.hrs1 H.hrs2), H.hrd0 (by decide +kernel), H.hcsr0 (by decide +kernel), hn⟩
theorem enc22 {rd rs1 rs2 imm csr : Int} (h : sallyportref3_Is0 22 rd rs1 rs2 imm csr = true) : sallyportref3_Encode0 22 rd rs1 rs2 imm csr = 19 + 0 * 4096 + rs1 * 32768 + rd * 128 + (imm % 4294967296) % 4096 * 1048576 ∧ rs2 = 0 ∧ csr = 0 ∧ (-2048 ≤ imm ∧ imm ≤ 2047) := by
  have H := is_hyps h
  have e2 : sallyportref3_number0 22 rd rs1 rs2 imm csr = sallyportref3_within0 imm (-2048) 2047 1 := by kernel_rfl
  have hm := H.hnum (by decide +kernel)
  rw [e2] at hm
  obtain ⟨n1, n2, n3⟩ := within_hyps hm
  have hn : -2048 ≤ imm ∧ imm ≤ 2047 := ⟨n1, n2⟩
  have e : sallyportref3_Encode0 22 rd rs1 rs2 imm csr = iOr .u32 (iOr .u32 (iOr .u32 (iOr .u32 (19) (iShl .u32 0 12)) (iShl .u32 (iConv .u32 rs1) 15)) (iShl .u32 (iConv .u32 rd) 7)) (iShl .u32 (iAnd .u32 (iConv .u32 imm) 4095) 20) := by
    unfold sallyportref3_Encode0
    rw [h]
    kernel_rfl
  exact ⟨e.trans (chainI (by decide) (by decide) H.hrs1 H.hrd), H.hrs20 (by decide +kernel), H.hcsr0 (by decide +kernel), hn⟩
theorem enc23 {rd rs1 rs2 imm csr : Int} (h : sallyportref3_Is0 23 rd rs1 rs2 imm csr = true) : sallyportref3_Encode0 23 rd rs1 rs2 imm csr = 19 + 2 * 4096 + rs1 * 32768 + rd * 128 + (imm % 4294967296) % 4096 * 1048576 ∧ rs2 = 0 ∧ csr = 0 ∧ (-2048 ≤ imm ∧ imm ≤ 2047) := by
  have H := is_hyps h
  have e2 : sallyportref3_number0 23 rd rs1 rs2 imm csr = sallyportref3_within0 imm (-2048) 2047 1 := by kernel_rfl
  have hm := H.hnum (by decide +kernel)
  rw [e2] at hm
  obtain ⟨n1, n2, n3⟩ := within_hyps hm
  have hn : -2048 ≤ imm ∧ imm ≤ 2047 := ⟨n1, n2⟩
  have e : sallyportref3_Encode0 23 rd rs1 rs2 imm csr = iOr .u32 (iOr .u32 (iOr .u32 (iOr .u32 (19) (iShl .u32 2 12)) (iShl .u32 (iConv .u32 rs1) 15)) (iShl .u32 (iConv .u32 rd) 7)) (iShl .u32 (iAnd .u32 (iConv .u32 imm) 4095) 20) := by
    unfold sallyportref3_Encode0
    rw [h]
    kernel_rfl
  exact ⟨e.trans (chainI (by decide) (by decide) H.hrs1 H.hrd), H.hrs20 (by decide +kernel), H.hcsr0 (by decide +kernel), hn⟩
theorem enc24 {rd rs1 rs2 imm csr : Int} (h : sallyportref3_Is0 24 rd rs1 rs2 imm csr = true) : sallyportref3_Encode0 24 rd rs1 rs2 imm csr = 19 + 3 * 4096 + rs1 * 32768 + rd * 128 + (imm % 4294967296) % 4096 * 1048576 ∧ rs2 = 0 ∧ csr = 0 ∧ (-2048 ≤ imm ∧ imm ≤ 2047) := by
  have H := is_hyps h
  have e2 : sallyportref3_number0 24 rd rs1 rs2 imm csr = sallyportref3_within0 imm (-2048) 2047 1 := by kernel_rfl
  have hm := H.hnum (by decide +kernel)
  rw [e2] at hm
  obtain ⟨n1, n2, n3⟩ := within_hyps hm
  have hn : -2048 ≤ imm ∧ imm ≤ 2047 := ⟨n1, n2⟩
  have e : sallyportref3_Encode0 24 rd rs1 rs2 imm csr = iOr .u32 (iOr .u32 (iOr .u32 (iOr .u32 (19) (iShl .u32 3 12)) (iShl .u32 (iConv .u32 rs1) 15)) (iShl .u32 (iConv .u32 rd) 7)) (iShl .u32 (iAnd .u32 (iConv .u32 imm) 4095) 20) := by
    unfold sallyportref3_Encode0
    rw [h]
    kernel_rfl
  exact ⟨e.trans (chainI (by decide) (by decide) H.hrs1 H.hrd), H.hrs20 (by decide +kernel), H.hcsr0 (by decide +kernel), hn⟩
theorem enc25 {rd rs1 rs2 imm csr : Int} (h : sallyportref3_Is0 25 rd rs1 rs2 imm csr = true) : sallyportref3_Encode0 25 rd rs1 rs2 imm csr = 19 + 4 * 4096 + rs1 * 32768 + rd * 128 + (imm % 4294967296) % 4096 * 1048576 ∧ rs2 = 0 ∧ csr = 0 ∧ (-2048 ≤ imm ∧ imm ≤ 2047) := by
  have H := is_hyps h
  have e2 : sallyportref3_number0 25 rd rs1 rs2 imm csr = sallyportref3_within0 imm (-2048) 2047 1 := by kernel_rfl
  have hm := H.hnum (by decide +kernel)
  rw [e2] at hm
  obtain ⟨n1, n2, n3⟩ := within_hyps hm
  have hn : -2048 ≤ imm ∧ imm ≤ 2047 := ⟨n1, n2⟩
  have e : sallyportref3_Encode0 25 rd rs1 rs2 imm csr = iOr .u32 (iOr .u32 (iOr .u32 (iOr .u32 (19) (iShl .u32 4 12)) (iShl .u32 (iConv .u32 rs1) 15)) (iShl .u32 (iConv .u32 rd) 7)) (iShl .u32 (iAnd .u32 (iConv .u32 imm) 4095) 20) := by
    unfold sallyportref3_Encode0
    rw [h]
    kernel_rfl
  exact ⟨e.trans (chainI (by decide) (by decide) H.hrs1 H.hrd), H.hrs20 (by decide +kernel), H.hcsr0 (by decide +kernel), hn⟩
theorem enc26 {rd rs1 rs2 imm csr : Int} (h : sallyportref3_Is0 26 rd rs1 rs2 imm csr = true) : sallyportref3_Encode0 26 rd rs1 rs2 imm csr = 19 + 6 * 4096 + rs1 * 32768 + rd * 128 + (imm % 4294967296) % 4096 * 1048576 ∧ rs2 = 0 ∧ csr = 0 ∧ (-2048 ≤ imm ∧ imm ≤ 2047) := by
  have H := is_hyps h
  have e2 : sallyportref3_number0 26 rd rs1 rs2 imm csr = sallyportref3_within0 imm (-2048) 2047 1 := by kernel_rfl
  have hm := H.hnum (by decide +kernel)
  rw [e2] at hm
  obtain ⟨n1, n2, n3⟩ := within_hyps hm
  have hn : -2048 ≤ imm ∧ imm ≤ 2047 := ⟨n1, n2⟩
  have e : sallyportref3_Encode0 26 rd rs1 rs2 imm csr = iOr .u32 (iOr .u32 (iOr .u32 (iOr .u32 (19) (iShl .u32 6 12)) (iShl .u32 (iConv .u32 rs1) 15)) (iShl .u32 (iConv .u32 rd) 7)) (iShl .u32 (iAnd .u32 (iConv .u32 imm) 4095) 20) := by
    unfold sallyportref3_Encode0
    rw [h]
    kernel_rfl
  exact ⟨e.trans (chainI (by decide) (by decide) H.hrs1 H.hrd), H.hrs20 (by decide +kernel), H.hcsr0 (by decide +kernel), hn⟩
theorem enc27 {rd rs1 rs2 imm csr : Int} (h : sallyportref3_Is0 27 rd rs1 rs2 imm csr = true) : sallyportref3_Encode0 27 rd rs1 rs2 imm csr = 19 + 7 * 4096 + rs1 * 32768 + rd * 128 + (imm % 4294967296) % 4096 * 1048576 ∧ rs2 = 0 ∧ csr = 0 ∧ (-2048 ≤ imm ∧ imm ≤ 2047) := by
  have H := is_hyps h
  have e2 : sallyportref3_number0 27 rd rs1 rs2 imm csr = sallyportref3_within0 imm (-2048) 2047 1 := by kernel_rfl
  have hm := H.hnum (by decide +kernel)
  rw [e2] at hm
  obtain ⟨n1, n2, n3⟩ := within_hyps hm
  have hn : -2048 ≤ imm ∧ imm ≤ 2047 := ⟨n1, n2⟩
  have e : sallyportref3_Encode0 27 rd rs1 rs2 imm csr = iOr .u32 (iOr .u32 (iOr .u32 (iOr .u32 (19) (iShl .u32 7 12)) (iShl .u32 (iConv .u32 rs1) 15)) (iShl .u32 (iConv .u32 rd) 7)) (iShl .u32 (iAnd .u32 (iConv .u32 imm) 4095) 20) := by
    unfold sallyportref3_Encode0
    rw [h]
    kernel_rfl
  exact ⟨e.trans (chainI (by decide) (by decide) H.hrs1 H.hrd), H.hrs20 (by decide +kernel), H.hcsr0 (by decide +kernel), hn⟩
theorem enc28 {rd rs1 rs2 imm csr : Int} (h : sallyportref3_Is0 28 rd rs1 rs2 imm csr = true) : sallyportref3_Encode0 28 rd rs1 rs2 imm csr = 19 + 1 * 4096 + rs1 * 32768 + rd * 128 + (imm % 4294967296) % 64 * 1048576 + 0 * 33554432 ∧ rs2 = 0 ∧ csr = 0 ∧ (0 ≤ imm ∧ imm ≤ 63) := by
  have H := is_hyps h
  have e2 : sallyportref3_number0 28 rd rs1 rs2 imm csr = sallyportref3_within0 imm (0) 63 1 := by kernel_rfl
  have hm := H.hnum (by decide +kernel)
  rw [e2] at hm
  obtain ⟨n1, n2, n3⟩ := within_hyps hm
  have hn : 0 ≤ imm ∧ imm ≤ 63 := ⟨n1, n2⟩
  have e : sallyportref3_Encode0 28 rd rs1 rs2 imm csr = iOr .u32 (iOr .u32 (iOr .u32 (iOr .u32 (iOr .u32 (19) (iShl .u32 1 12)) (iShl .u32 (iConv .u32 rs1) 15)) (iShl .u32 (iConv .u32 rd) 7)) (iShl .u32 (iAnd .u32 (iConv .u32 imm) 63) 20)) (iShl .u32 0 25) := by
    unfold sallyportref3_Encode0
    rw [h]
    kernel_rfl
  refine ⟨?_, H.hrs20 (by decide +kernel), H.hcsr0 (by decide +kernel), hn⟩
  rw [e, chainSh (by decide) (by decide) H.hrs1 H.hrd]
  have h1 := H.hrs1
  have h2 := H.hrd
  exact chainSh7 ⟨by omega, by omega⟩ (by decide) (by decide)
theorem enc29 {rd rs1 rs2 imm csr : Int} (h : sallyportref3_Is0 29 rd rs1 rs2 imm csr = true) : sallyportref3_Encode0 29 rd rs1 rs2 imm csr = 19 + 5 * 4096 + rs1 * 32768 + rd * 128 + (imm % 4294967296) % 64 * 1048576 + 0 * 33554432 ∧ rs2 = 0 ∧ csr = 0 ∧ (0 ≤ imm ∧ imm ≤ 63) := by
  have H := is_hyps h
  have e2 : sallyportref3_number0 29 rd rs1 rs2 imm csr = sallyportref3_within0 imm (0) 63 1 := by kernel_rfl
  have hm := H.hnum (by decide +kernel)
  rw [e2] at hm
  obtain ⟨n1, n2, n3⟩ := within_hyps hm
  have hn : 0 ≤ imm ∧ imm ≤ 63 := ⟨n1, n2⟩
  have e : sallyportref3_Encode0 29 rd rs1 rs2 imm csr = iOr .u32 (iOr .u32 (iOr .u32 (iOr .u32 (iOr .u32 (19) (iShl .u32 5 12)) (iShl .u32 (iConv .u32 rs1) 15)) (iShl .u32 (iConv .u32 rd) 7)) (iShl .u32 (iAnd .u32 (iConv .u32 imm) 63) 20)) (iShl .u32 0 25) := by
    unfold sallyportref3_Encode0
    rw [h]
    kernel_rfl
  refine ⟨?_, H.hrs20 (by decide +kernel), H.hcsr0 (by decide +kernel), hn⟩
  rw [e, chainSh (by decide) (by decide) H.hrs1 H.hrd]
  have h1 := H.hrs1
  have h2 := H.hrd
  exact chainSh7 ⟨by omega, by omega⟩ (by decide) (by decide)
theorem enc30 {rd rs1 rs2 imm csr : Int} (h : sallyportref3_Is0 30 rd rs1 rs2 imm csr = true) : sallyportref3_Encode0 30 rd rs1 rs2 imm csr = 19 + 5 * 4096 + rs1 * 32768 + rd * 128 + (imm % 4294967296) % 64 * 1048576 + 32 * 33554432 ∧ rs2 = 0 ∧ csr = 0 ∧ (0 ≤ imm ∧ imm ≤ 63) := by
  have H := is_hyps h
  have e2 : sallyportref3_number0 30 rd rs1 rs2 imm csr = sallyportref3_within0 imm (0) 63 1 := by kernel_rfl
  have hm := H.hnum (by decide +kernel)
  rw [e2] at hm
  obtain ⟨n1, n2, n3⟩ := within_hyps hm
  have hn : 0 ≤ imm ∧ imm ≤ 63 := ⟨n1, n2⟩
  have e : sallyportref3_Encode0 30 rd rs1 rs2 imm csr = iOr .u32 (iOr .u32 (iOr .u32 (iOr .u32 (iOr .u32 (19) (iShl .u32 5 12)) (iShl .u32 (iConv .u32 rs1) 15)) (iShl .u32 (iConv .u32 rd) 7)) (iShl .u32 (iAnd .u32 (iConv .u32 imm) 63) 20)) (iShl .u32 32 25) := by
    unfold sallyportref3_Encode0
    rw [h]
    kernel_rfl
  refine ⟨?_, H.hrs20 (by decide +kernel), H.hcsr0 (by decide +kernel), hn⟩
  rw [e, chainSh (by decide) (by decide) H.hrs1 H.hrd]
  have h1 := H.hrs1
  have h2 := H.hrd
  exact chainSh7 ⟨by omega, by omega⟩ (by decide) (by decide)
theorem enc31 {rd rs1 rs2 imm csr : Int} (h : sallyportref3_Is0 31 rd rs1 rs2 imm csr = true) : sallyportref3_Encode0 31 rd rs1 rs2 imm csr = 27 + 0 * 4096 + rs1 * 32768 + rd * 128 + (imm % 4294967296) % 4096 * 1048576 ∧ rs2 = 0 ∧ csr = 0 ∧ (-2048 ≤ imm ∧ imm ≤ 2047) := by
  have H := is_hyps h
  have e2 : sallyportref3_number0 31 rd rs1 rs2 imm csr = sallyportref3_within0 imm (-2048) 2047 1 := by kernel_rfl
  have hm := H.hnum (by decide +kernel)
  rw [e2] at hm
  obtain ⟨n1, n2, n3⟩ := within_hyps hm
  have hn : -2048 ≤ imm ∧ imm ≤ 2047 := ⟨n1, n2⟩
  have e : sallyportref3_Encode0 31 rd rs1 rs2 imm csr = iOr .u32 (iOr .u32 (iOr .u32 (iOr .u32 (27) (iShl .u32 0 12)) (iShl .u32 (iConv .u32 rs1) 15)) (iShl .u32 (iConv .u32 rd) 7)) (iShl .u32 (iAnd .u32 (iConv .u32 imm) 4095) 20) := by
    unfold sallyportref3_Encode0
    rw [h]
    kernel_rfl
  exact ⟨e.trans (chainI (by decide) (by decide) H.hrs1 H.hrd), H.hrs20 (by decide +kernel), H.hcsr0 (by decide +kernel), hn⟩
theorem enc32 {rd rs1 rs2 imm csr : Int} (h : sallyportref3_Is0 32 rd rs1 rs2 imm csr = true) : sallyportref3_Encode0 32 rd rs1 rs2 imm csr = 27 + 1 * 4096 + rs1 * 32768 + rd * 128 + (imm % 4294967296) % 64 * 1048576 + 0 * 33554432 ∧ rs2 = 0 ∧ csr = 0 ∧ (0 ≤ imm ∧ imm ≤ 31) := by
  have H := is_hyps h
  have e2 : sallyportref3_number0 32 rd rs1 rs2 imm csr = sallyportref3_within0 imm (0) 31 1 := by kernel_rfl
  have hm := H.hnum (by decide +kernel)
  rw [e2] at hm
  obtain ⟨n1, n2, n3⟩ := within_hyps hm
  have hn : 0 ≤ imm ∧ imm ≤ 31 := ⟨n1, n2⟩
  have e : sallyportref3_Encode0 32 rd rs1 rs2 imm csr = iOr .u32 (iOr .u32 (iOr .u32 (iOr .u32 (iOr .u32 (27) (iShl .u32 1 12)) (iShl .u32 (iConv .u32 rs1) 15)) (iShl .u32 (iConv .u32 rd) 7)) (iShl .u32 (iAnd .u32 (iConv .u32 imm) 63) 20)) (iShl .u32 0 25) := by
    unfold sallyportref3_Encode0
    rw [h]
    kernel_rfl
  refine ⟨?_, H.hrs20 (by decide +kernel), H.hcsr0 (by decide +kernel), hn⟩
  rw [e, chainSh (by decide) (by decide) H.hrs1 H.hrd]
  have h1 := H.hrs1
  have h2 := H.hrd
  exact chainSh7 ⟨by omega, by omega⟩ (by decide) (by decide)
theorem enc33 {rd rs1 rs2 imm csr : Int} (h : sallyportref3_Is0 33 rd rs1 rs2 imm csr = true) : sallyportref3_Encode0 33 rd rs1 rs2 imm csr = 27 + 5 * 4096 + rs1 * 32768 + rd * 128 + (imm % 4294967296) % 64 * 1048576 + 0 * 33554432 ∧ rs2 = 0 ∧ csr = 0 ∧ (0 ≤ imm ∧ imm ≤ 31) := by
  have H := is_hyps h
  have e2 : sallyportref3_number0 33 rd rs1 rs2 imm csr = sallyportref3_within0 imm (0) 31 1 := by kernel_rfl
  have hm := H.hnum (by decide +kernel)
  rw [e2] at hm
  obtain ⟨n1, n2, n3⟩ := within_hyps hm
  have hn : 0 ≤ imm ∧ imm ≤ 31 := ⟨n1, n2⟩
  have e : sallyportref3_Encode0 33 rd rs1 rs2 imm csr = iOr .u32 (iOr .u32 (iOr .u32 (iOr .u32 (iOr .u32 (27) (iShl .u32 5 12)) (iShl .u32 (iConv .u32 rs1) 15)) (iShl .u32 (iConv .u32 rd) 7)) (iShl .u32 (iAnd .u32 (iConv .u32 imm) 63) 20)) (iShl .u32 0 25) := by
    unfold sallyportref3_Encode0
    rw [h]
    kernel_rfl
  refine ⟨?_, H.hrs20 (by decide +kernel), H.hcsr0 (by decide +kernel), hn⟩
  rw [e, chainSh (by decide) (by decide) H.hrs1 H.hrd]
  have h1 := H.hrs1
  have h2 := H.hrd
  exact chainSh7 ⟨by omega, by omega⟩ (by decide) (by decide)
theorem enc34 {rd rs1 rs2 imm csr : Int} (h : sallyportref3_Is0 34 rd rs1 rs2 imm csr = true) : sallyportref3_Encode0 34 rd rs1 rs2 imm csr = 27 + 5 * 4096 + rs1 * 32768 + rd * 128 + (imm % 4294967296) % 64 * 1048576 + 32 * 33554432 ∧ rs2 = 0 ∧ csr = 0 ∧ (0 ≤ imm ∧ imm ≤ 31) := by
  have H := is_hyps h
  have e2 : sallyportref3_number0 34 rd rs1 rs2 imm csr = sallyportref3_within0 imm (0) 31 1 := by kernel_rfl
  have hm := H.hnum (by decide +kernel)
  rw [e2] at hm
  obtain ⟨n1, n2, n3⟩ := within_hyps hm
  have hn : 0 ≤ imm ∧ imm ≤ 31 := ⟨n1, n2⟩
  have e : sallyportref3_Encode0 34 rd rs1 rs2 imm csr = iOr .u32 (iOr .u32 (iOr .u32 (iOr .u32 (iOr .u32 (27) (iShl .u32 5 12)) (iShl .u32 (iConv .u32 rs1) 15)) (iShl .u32 (iConv .u32 rd) 7)) (iShl .u32 (iAnd .u32 (iConv .u32 imm) 63) 20)) (iShl .u32 32 25) := by
    unfold sallyportref3_Encode0
    rw [h]
    kernel_rfl
  refine ⟨?_, H.hrs20 (by decide +kernel), H.hcsr0 (by decide +kernel), hn⟩
  rw [e, chainSh (by decide) (by decide) H.hrs1 H.hrd]
  have h1 := H.hrs1
  have h2 := H.hrd
  exact chainSh7 ⟨by omega, by omega⟩ (by decide) (by decide)
theorem enc35 {rd rs1 rs2 imm csr : Int} (h : sallyportref3_Is0 35 rd rs1 rs2 imm csr = true) : sallyportref3_Encode0 35 rd rs1 rs2 imm csr = 51 + 0 * 4096 + rs1 * 32768 + rd * 128 + rs2 * 1048576 + 0 * 33554432 ∧ csr = 0 ∧ imm = 0 := by
  have H := is_hyps h
  have e : sallyportref3_Encode0 35 rd rs1 rs2 imm csr = iOr .u32 (iOr .u32 (iOr .u32 (iOr .u32 (iOr .u32 (51) (iShl .u32 0 12)) (iShl .u32 (iConv .u32 rs1) 15)) (iShl .u32 (iConv .u32 rd) 7)) (iShl .u32 (iConv .u32 rs2) 20)) (iShl .u32 0 25) := by
    unfold sallyportref3_Encode0
    rw [h]
    kernel_rfl
  exact ⟨e.trans (chainR (by decide) (by decide) H.hrs1 H.hrd H.hrs2 (by decide)), H.hcsr0 (by decide +kernel), H.himm0 (by decide +kernel)⟩
theorem enc36 {rd rs1 rs2 imm csr : Int} (h : sallyportref3_Is0 36 rd rs1 rs2 imm csr = true) : sallyportref3_Encode0 36 rd rs1 rs2 imm csr = 51 + 0 * 4096 + rs1 * 32768 + rd * 128 + rs2 * 1048576 + 32 * 33554432 ∧ csr = 0 ∧ imm = 0 := by
  have H := is_hyps h
  have e : sallyportref3_Encode0 36 rd rs1 rs2 imm csr = iOr .u32 (iOr .u32 (iOr .u32 (iOr .u32 (iOr .u32 (51) (iShl .u32 0 12)) (iShl .u32 (iConv .u32 rs1) 15)) (iShl .u32 (iConv .u32 rd) 7)) (iShl .u32 (iConv .u32 rs2) 20)) (iShl .u32 32 25) := by
    unfold sallyportref3_Encode0
    rw [h]
    kernel_rfl
  exact ⟨e.trans (chainR (by decide) (by decide) H.hrs1 H.hrd H.hrs2 (by decide)), H.hcsr0 (by decide +kernel), H.himm0 (by decide +kernel)⟩
theorem enc37 {rd rs1 rs2 imm csr : Int} (h : sallyportref3_Is0 37 rd rs1 rs2 imm csr = true) : sallyportref3_Encode0 37 rd rs1 rs2 imm csr = 51 + 1 * 4096 + rs1 * 32768 + rd * 128 + rs2 * 1048576 + 0 * 33554432 ∧ csr = 0 ∧ imm = 0 := by
  have H := is_hyps h
  have e : sallyportref3_Encode0 37 rd rs1 rs2 imm csr = iOr .u32 (iOr .u32 (iOr .u32 (iOr .u32 (iOr .u32 (51) (iShl .u32 1 12)) (iShl .u32 (iConv .u32 rs1) 15)) (iShl .u32 (iConv .u32 rd) 7)) (iShl .u32 (iConv .u32 rs2) 20)) (iShl .u32 0 25) := by
    unfold sallyportref3_Encode0
    rw [h]
    kernel_rfl
  exact ⟨e.trans (chainR (by decide) (by decide) H.hrs1 H.hrd H.hrs2 (by decide)), H.hcsr0 (by decide +kernel), H.himm0 (by decide +kernel)⟩
theorem enc38 {rd rs1 rs2 imm csr : Int} (h : sallyportref3_Is0 38 rd rs1 rs2 imm csr = true) : sallyportref3_Encode0 38 rd rs1 rs2 imm csr = 51 + 2 * 4096 + rs1 * 32768 + rd * 128 + rs2 * 1048576 + 0 * 33554432 ∧ csr = 0 ∧ imm = 0 := by
  have H := is_hyps h
  have e : sallyportref3_Encode0 38 rd rs1 rs2 imm csr = iOr .u32 (iOr .u32 (iOr .u32 (iOr .u32 (iOr .u32 (51) (iShl .u32 2 12)) (iShl .u32 (iConv .u32 rs1) 15)) (iShl .u32 (iConv .u32 rd) 7)) (iShl .u32 (iConv .u32 rs2) 20)) (iShl .u32 0 25) := by
    unfold sallyportref3_Encode0
    rw [h]
    kernel_rfl
  exact ⟨e.trans (chainR (by decide) (by decide) H.hrs1 H.hrd H.hrs2 (by decide)), H.hcsr0 (by decide +kernel), H.himm0 (by decide +kernel)⟩
theorem enc39 {rd rs1 rs2 imm csr : Int} (h : sallyportref3_Is0 39 rd rs1 rs2 imm csr = true) : sallyportref3_Encode0 39 rd rs1 rs2 imm csr = 51 + 3 * 4096 + rs1 * 32768 + rd * 128 + rs2 * 1048576 + 0 * 33554432 ∧ csr = 0 ∧ imm = 0 := by
  have H := is_hyps h
  have e : sallyportref3_Encode0 39 rd rs1 rs2 imm csr = iOr .u32 (iOr .u32 (iOr .u32 (iOr .u32 (iOr .u32 (51) (iShl .u32 3 12)) (iShl .u32 (iConv .u32 rs1) 15)) (iShl .u32 (iConv .u32 rd) 7)) (iShl .u32 (iConv .u32 rs2) 20)) (iShl .u32 0 25) := by
    unfold sallyportref3_Encode0
    rw [h]
    kernel_rfl
  exact ⟨e.trans (chainR (by decide) (by decide) H.hrs1 H.hrd H.hrs2 (by decide)), H.hcsr0 (by decide +kernel), H.himm0 (by decide +kernel)⟩
theorem enc40 {rd rs1 rs2 imm csr : Int} (h : sallyportref3_Is0 40 rd rs1 rs2 imm csr = true) : sallyportref3_Encode0 40 rd rs1 rs2 imm csr = 51 + 4 * 4096 + rs1 * 32768 + rd * 128 + rs2 * 1048576 + 0 * 33554432 ∧ csr = 0 ∧ imm = 0 := by
  have H := is_hyps h
  have e : sallyportref3_Encode0 40 rd rs1 rs2 imm csr = iOr .u32 (iOr .u32 (iOr .u32 (iOr .u32 (iOr .u32 (51) (iShl .u32 4 12)) (iShl .u32 (iConv .u32 rs1) 15)) (iShl .u32 (iConv .u32 rd) 7)) (iShl .u32 (iConv .u32 rs2) 20)) (iShl .u32 0 25) := by
    unfold sallyportref3_Encode0
    rw [h]
    kernel_rfl
  exact ⟨e.trans (chainR (by decide) (by decide) H.hrs1 H.hrd H.hrs2 (by decide)), H.hcsr0 (by decide +kernel), H.himm0 (by decide +kernel)⟩
theorem enc41 {rd rs1 rs2 imm csr : Int} (h : sallyportref3_Is0 41 rd rs1 rs2 imm csr = true) : sallyportref3_Encode0 41 rd rs1 rs2 imm csr = 51 + 5 * 4096 + rs1 * 32768 + rd * 128 + rs2 * 1048576 + 0 * 33554432 ∧ csr = 0 ∧ imm = 0 := by
  have H := is_hyps h
  have e : sallyportref3_Encode0 41 rd rs1 rs2 imm csr = iOr .u32 (iOr .u32 (iOr .u32 (iOr .u32 (iOr .u32 (51) (iShl .u32 5 12)) (iShl .u32 (iConv .u32 rs1) 15)) (iShl .u32 (iConv .u32 rd) 7)) (iShl .u32 (iConv .u32 rs2) 20)) (iShl .u32 0 25) := by
    unfold sallyportref3_Encode0
    rw [h]
    kernel_rfl
  exact ⟨e.trans (chainR (by decide) (by decide) H.hrs1 H.hrd H.hrs2 (by decide)), H.hcsr0 (by decide +kernel), H.himm0 (by decide +kernel)⟩
theorem enc42 {rd rs1 rs2 imm csr : Int} (h : sallyportref3_Is0 42 rd rs1 rs2 imm csr = true) : sallyportref3_Encode0 42 rd rs1 rs2 imm csr = 51 + 5 * 4096 + rs1 * 32768 + rd * 128 + rs2 * 1048576 + 32 * 33554432 ∧ csr = 0 ∧ imm = 0 := by
  have H := is_hyps h
  have e : sallyportref3_Encode0 42 rd rs1 rs2 imm csr = iOr .u32 (iOr .u32 (iOr .u32 (iOr .u32 (iOr .u32 (51) (iShl .u32 5 12)) (iShl .u32 (iConv .u32 rs1) 15)) (iShl .u32 (iConv .u32 rd) 7)) (iShl .u32 (iConv .u32 rs2) 20)) (iShl .u32 32 25) := by
    unfold sallyportref3_Encode0
    rw [h]
    kernel_rfl
  exact ⟨e.trans (chainR (by decide) (by decide) H.hrs1 H.hrd H.hrs2 (by decide)), H.hcsr0 (by decide +kernel), H.himm0 (by decide +kernel)⟩
theorem enc43 {rd rs1 rs2 imm csr : Int} (h : sallyportref3_Is0 43 rd rs1 rs2 imm csr = true) : sallyportref3_Encode0 43 rd rs1 rs2 imm csr = 51 + 6 * 4096 + rs1 * 32768 + rd * 128 + rs2 * 1048576 + 0 * 33554432 ∧ csr = 0 ∧ imm = 0 := by
  have H := is_hyps h
  have e : sallyportref3_Encode0 43 rd rs1 rs2 imm csr = iOr .u32 (iOr .u32 (iOr .u32 (iOr .u32 (iOr .u32 (51) (iShl .u32 6 12)) (iShl .u32 (iConv .u32 rs1) 15)) (iShl .u32 (iConv .u32 rd) 7)) (iShl .u32 (iConv .u32 rs2) 20)) (iShl .u32 0 25) := by
    unfold sallyportref3_Encode0
    rw [h]
    kernel_rfl
  exact ⟨e.trans (chainR (by decide) (by decide) H.hrs1 H.hrd H.hrs2 (by decide)), H.hcsr0 (by decide +kernel), H.himm0 (by decide +kernel)⟩
theorem enc44 {rd rs1 rs2 imm csr : Int} (h : sallyportref3_Is0 44 rd rs1 rs2 imm csr = true) : sallyportref3_Encode0 44 rd rs1 rs2 imm csr = 51 + 7 * 4096 + rs1 * 32768 + rd * 128 + rs2 * 1048576 + 0 * 33554432 ∧ csr = 0 ∧ imm = 0 := by
  have H := is_hyps h
  have e : sallyportref3_Encode0 44 rd rs1 rs2 imm csr = iOr .u32 (iOr .u32 (iOr .u32 (iOr .u32 (iOr .u32 (51) (iShl .u32 7 12)) (iShl .u32 (iConv .u32 rs1) 15)) (iShl .u32 (iConv .u32 rd) 7)) (iShl .u32 (iConv .u32 rs2) 20)) (iShl .u32 0 25) := by
    unfold sallyportref3_Encode0
    rw [h]
    kernel_rfl
  exact ⟨e.trans (chainR (by decide) (by decide) H.hrs1 H.hrd H.hrs2 (by decide)), H.hcsr0 (by decide +kernel), H.himm0 (by decide +kernel)⟩
theorem enc45 {rd rs1 rs2 imm csr : Int} (h : sallyportref3_Is0 45 rd rs1 rs2 imm csr = true) : sallyportref3_Encode0 45 rd rs1 rs2 imm csr = 59 + 0 * 4096 + rs1 * 32768 + rd * 128 + rs2 * 1048576 + 0 * 33554432 ∧ csr = 0 ∧ imm = 0 := by
  have H := is_hyps h
  have e : sallyportref3_Encode0 45 rd rs1 rs2 imm csr = iOr .u32 (iOr .u32 (iOr .u32 (iOr .u32 (iOr .u32 (59) (iShl .u32 0 12)) (iShl .u32 (iConv .u32 rs1) 15)) (iShl .u32 (iConv .u32 rd) 7)) (iShl .u32 (iConv .u32 rs2) 20)) (iShl .u32 0 25) := by
    unfold sallyportref3_Encode0
    rw [h]
    kernel_rfl
  exact ⟨e.trans (chainR (by decide) (by decide) H.hrs1 H.hrd H.hrs2 (by decide)), H.hcsr0 (by decide +kernel), H.himm0 (by decide +kernel)⟩
theorem enc46 {rd rs1 rs2 imm csr : Int} (h : sallyportref3_Is0 46 rd rs1 rs2 imm csr = true) : sallyportref3_Encode0 46 rd rs1 rs2 imm csr = 59 + 0 * 4096 + rs1 * 32768 + rd * 128 + rs2 * 1048576 + 32 * 33554432 ∧ csr = 0 ∧ imm = 0 := by
  have H := is_hyps h
  have e : sallyportref3_Encode0 46 rd rs1 rs2 imm csr = iOr .u32 (iOr .u32 (iOr .u32 (iOr .u32 (iOr .u32 (59) (iShl .u32 0 12)) (iShl .u32 (iConv .u32 rs1) 15)) (iShl .u32 (iConv .u32 rd) 7)) (iShl .u32 (iConv .u32 rs2) 20)) (iShl .u32 32 25) := by
    unfold sallyportref3_Encode0
    rw [h]
    kernel_rfl
  exact ⟨e.trans (chainR (by decide) (by decide) H.hrs1 H.hrd H.hrs2 (by decide)), H.hcsr0 (by decide +kernel), H.himm0 (by decide +kernel)⟩
theorem enc47 {rd rs1 rs2 imm csr : Int} (h : sallyportref3_Is0 47 rd rs1 rs2 imm csr = true) : sallyportref3_Encode0 47 rd rs1 rs2 imm csr = 59 + 1 * 4096 + rs1 * 32768 + rd * 128 + rs2 * 1048576 + 0 * 33554432 ∧ csr = 0 ∧ imm = 0 := by
  have H := is_hyps h
  have e : sallyportref3_Encode0 47 rd rs1 rs2 imm csr = iOr .u32 (iOr .u32 (iOr .u32 (iOr .u32 (iOr .u32 (59) (iShl .u32 1 12)) (iShl .u32 (iConv .u32 rs1) 15)) (iShl .u32 (iConv .u32 rd) 7)) (iShl .u32 (iConv .u32 rs2) 20)) (iShl .u32 0 25) := by
    unfold sallyportref3_Encode0
    rw [h]
    kernel_rfl
  exact ⟨e.trans (chainR (by decide) (by decide) H.hrs1 H.hrd H.hrs2 (by decide)), H.hcsr0 (by decide +kernel), H.himm0 (by decide +kernel)⟩
theorem enc48 {rd rs1 rs2 imm csr : Int} (h : sallyportref3_Is0 48 rd rs1 rs2 imm csr = true) : sallyportref3_Encode0 48 rd rs1 rs2 imm csr = 59 + 5 * 4096 + rs1 * 32768 + rd * 128 + rs2 * 1048576 + 0 * 33554432 ∧ csr = 0 ∧ imm = 0 := by
  have H := is_hyps h
  have e : sallyportref3_Encode0 48 rd rs1 rs2 imm csr = iOr .u32 (iOr .u32 (iOr .u32 (iOr .u32 (iOr .u32 (59) (iShl .u32 5 12)) (iShl .u32 (iConv .u32 rs1) 15)) (iShl .u32 (iConv .u32 rd) 7)) (iShl .u32 (iConv .u32 rs2) 20)) (iShl .u32 0 25) := by
    unfold sallyportref3_Encode0
    rw [h]
    kernel_rfl
  exact ⟨e.trans (chainR (by decide) (by decide) H.hrs1 H.hrd H.hrs2 (by decide)), H.hcsr0 (by decide +kernel), H.himm0 (by decide +kernel)⟩
theorem enc49 {rd rs1 rs2 imm csr : Int} (h : sallyportref3_Is0 49 rd rs1 rs2 imm csr = true) : sallyportref3_Encode0 49 rd rs1 rs2 imm csr = 59 + 5 * 4096 + rs1 * 32768 + rd * 128 + rs2 * 1048576 + 32 * 33554432 ∧ csr = 0 ∧ imm = 0 := by
  have H := is_hyps h
  have e : sallyportref3_Encode0 49 rd rs1 rs2 imm csr = iOr .u32 (iOr .u32 (iOr .u32 (iOr .u32 (iOr .u32 (59) (iShl .u32 5 12)) (iShl .u32 (iConv .u32 rs1) 15)) (iShl .u32 (iConv .u32 rd) 7)) (iShl .u32 (iConv .u32 rs2) 20)) (iShl .u32 32 25) := by
    unfold sallyportref3_Encode0
    rw [h]
    kernel_rfl
  exact ⟨e.trans (chainR (by decide) (by decide) H.hrs1 H.hrd H.hrs2 (by decide)), H.hcsr0 (by decide +kernel), H.himm0 (by decide +kernel)⟩
theorem enc50 {rd rs1 rs2 imm csr : Int} (h : sallyportref3_Is0 50 rd rs1 rs2 imm csr = true) : sallyportref3_Encode0 50 rd rs1 rs2 imm csr = 267386895 ∧ rd = 0 ∧ rs1 = 0 ∧ rs2 = 0 ∧ csr = 0 ∧ imm = 0 := by
  have H := is_hyps h
  have e : sallyportref3_Encode0 50 rd rs1 rs2 imm csr = 267386895 := by
    unfold sallyportref3_Encode0
    rw [h]
    kernel_rfl
  exact ⟨e, H.hrd0 (by decide +kernel), H.hrs10 (by decide +kernel), H.hrs20 (by decide +kernel), H.hcsr0 (by decide +kernel), H.himm0 (by decide +kernel)⟩
theorem enc51 {rd rs1 rs2 imm csr : Int} (h : sallyportref3_Is0 51 rd rs1 rs2 imm csr = true) : sallyportref3_Encode0 51 rd rs1 rs2 imm csr = 4111 ∧ rd = 0 ∧ rs1 = 0 ∧ rs2 = 0 ∧ csr = 0 ∧ imm = 0 := by
  have H := is_hyps h
  have e : sallyportref3_Encode0 51 rd rs1 rs2 imm csr = 4111 := by
    unfold sallyportref3_Encode0
    rw [h]
    kernel_rfl
  exact ⟨e, H.hrd0 (by decide +kernel), H.hrs10 (by decide +kernel), H.hrs20 (by decide +kernel), H.hcsr0 (by decide +kernel), H.himm0 (by decide +kernel)⟩
theorem enc52 {rd rs1 rs2 imm csr : Int} (h : sallyportref3_Is0 52 rd rs1 rs2 imm csr = true) : sallyportref3_Encode0 52 rd rs1 rs2 imm csr = 115 ∧ rd = 0 ∧ rs1 = 0 ∧ rs2 = 0 ∧ csr = 0 ∧ imm = 0 := by
  have H := is_hyps h
  have e : sallyportref3_Encode0 52 rd rs1 rs2 imm csr = 115 := by
    unfold sallyportref3_Encode0
    rw [h]
    kernel_rfl
  exact ⟨e, H.hrd0 (by decide +kernel), H.hrs10 (by decide +kernel), H.hrs20 (by decide +kernel), H.hcsr0 (by decide +kernel), H.himm0 (by decide +kernel)⟩
theorem enc53 {rd rs1 rs2 imm csr : Int} (h : sallyportref3_Is0 53 rd rs1 rs2 imm csr = true) : sallyportref3_Encode0 53 rd rs1 rs2 imm csr = 1048691 ∧ rd = 0 ∧ rs1 = 0 ∧ rs2 = 0 ∧ csr = 0 ∧ imm = 0 := by
  have H := is_hyps h
  have e : sallyportref3_Encode0 53 rd rs1 rs2 imm csr = 1048691 := by
    unfold sallyportref3_Encode0
    rw [h]
    kernel_rfl
  exact ⟨e, H.hrd0 (by decide +kernel), H.hrs10 (by decide +kernel), H.hrs20 (by decide +kernel), H.hcsr0 (by decide +kernel), H.himm0 (by decide +kernel)⟩
theorem enc54 {rd rs1 rs2 imm csr : Int} (h : sallyportref3_Is0 54 rd rs1 rs2 imm csr = true) : sallyportref3_Encode0 54 rd rs1 rs2 imm csr = 115 + 1 * 4096 + rs1 * 32768 + rd * 128 + csr * 1048576 ∧ rs2 = 0 ∧ imm = 0 := by
  have H := is_hyps h
  have e : sallyportref3_Encode0 54 rd rs1 rs2 imm csr = iOr .u32 (iOr .u32 (iOr .u32 (iOr .u32 (115) (iShl .u32 1 12)) (iShl .u32 (iConv .u32 rs1) 15)) (iShl .u32 (iConv .u32 rd) 7)) (iShl .u32 (iConv .u32 csr) 20) := by
    unfold sallyportref3_Encode0
    rw [h]
    kernel_rfl
  exact ⟨e.trans (chainC (by decide) (by decide) H.hrs1 H.hrd H.hcsr), H.hrs20 (by decide +kernel), H.himm0 (by decide +kernel)⟩
theorem enc55 {rd rs1 rs2 imm csr : Int} (h : sallyportref3_Is0 55 rd rs1 rs2 imm csr = true) : sallyportref3_Encode0 55 rd rs1 rs2 imm csr = 115 + 2 * 4096 + rs1 * 32768 + rd * 128 + csr * 1048576 ∧ rs2 = 0 ∧ imm = 0 := by
  have H := is_hyps h
  have e : sallyportref3_Encode0 55 rd rs1 rs2 imm csr = iOr .u32 (iOr .u32 (iOr .u32 (iOr .u32 (115) (iShl .u32 2 12)) (iShl .u32 (iConv .u32 rs1) 15)) (iShl .u32 (iConv .u32 rd) 7)) (iShl .u32 (iConv .u32 csr) 20) := by
    unfold sallyportref3_Encode0
    rw [h]
    kernel_rfl
  exact ⟨e.trans (chainC (by decide) (by decide) H.hrs1 H.hrd H.hcsr), H.hrs20 (by decide +kernel), H.himm0 (by decide +kernel)⟩
theorem enc56 {rd rs1 rs2 imm csr : Int} (h : sallyportref3_Is0 56 rd rs1 rs2 imm csr = true) : sallyportref3_Encode0 56 rd rs1 rs2 imm csr = 115 + 3 * 4096 + rs1 * 32768 + rd * 128 + csr * 1048576 ∧ rs2 = 0 ∧ imm = 0 := by
  have H := is_hyps h
  have e : sallyportref3_Encode0 56 rd rs1 rs2 imm csr = iOr .u32 (iOr .u32 (iOr .u32 (iOr .u32 (115) (iShl .u32 3 12)) (iShl .u32 (iConv .u32 rs1) 15)) (iShl .u32 (iConv .u32 rd) 7)) (iShl .u32 (iConv .u32 csr) 20) := by
    unfold sallyportref3_Encode0
    rw [h]
    kernel_rfl
  exact ⟨e.trans (chainC (by decide) (by decide) H.hrs1 H.hrd H.hcsr), H.hrs20 (by decide +kernel), H.himm0 (by decide +kernel)⟩
theorem enc57 {rd rs1 rs2 imm csr : Int} (h : sallyportref3_Is0 57 rd rs1 rs2 imm csr = true) : sallyportref3_Encode0 57 rd rs1 rs2 imm csr = 115 + 5 * 4096 + rd * 128 + imm * 32768 + csr * 1048576 ∧ rs1 = 0 ∧ rs2 = 0 ∧ (0 ≤ imm ∧ imm ≤ 31) := by
  have H := is_hyps h
  have e2 : sallyportref3_number0 57 rd rs1 rs2 imm csr = sallyportref3_within0 imm (0) 31 1 := by kernel_rfl
  have hm := H.hnum (by decide +kernel)
  rw [e2] at hm
  obtain ⟨n1, n2, n3⟩ := within_hyps hm
  have hn : 0 ≤ imm ∧ imm ≤ 31 := ⟨n1, n2⟩
  have e : sallyportref3_Encode0 57 rd rs1 rs2 imm csr = iOr .u32 (iOr .u32 (iOr .u32 (iOr .u32 (115) (iShl .u32 5 12)) (iShl .u32 (iConv .u32 rd) 7)) (iShl .u32 (iConv .u32 imm) 15)) (iShl .u32 (iConv .u32 csr) 20) := by
    unfold sallyportref3_Encode0
    rw [h]
    kernel_rfl
  exact ⟨e.trans (chainCi (by decide) (by decide) H.hrd H.hcsr ⟨hn.1, by omega⟩), H.hrs10 (by decide +kernel), H.hrs20 (by decide +kernel), hn⟩
theorem enc58 {rd rs1 rs2 imm csr : Int} (h : sallyportref3_Is0 58 rd rs1 rs2 imm csr = true) : sallyportref3_Encode0 58 rd rs1 rs2 imm csr = 115 + 6 * 4096 + rd * 128 + imm * 32768 + csr * 1048576 ∧ rs1 = 0 ∧ rs2 = 0 ∧ (0 ≤ imm ∧ imm ≤ 31) := by
  have H := is_hyps h
  have e2 : sallyportref3_number0 58 rd rs1 rs2 imm csr = sallyportref3_within0 imm (0) 31 1 := by kernel_rfl
  have hm := H.hnum (by decide +kernel)
  rw [e2] at hm
  obtain ⟨n1, n2, n3⟩ := within_hyps hm
  have hn : 0 ≤ imm ∧ imm ≤ 31 := ⟨n1, n2⟩
  have e : sallyportref3_Encode0 58 rd rs1 rs2 imm csr = iOr .u32 (iOr .u32 (iOr .u32 (iOr .u32 (115) (iShl .u32 6 12)) (iShl .u32 (iConv .u32 rd) 7)) (iShl .u32 (iConv .u32 imm) 15)) (iShl .u32 (iConv .u32 csr) 20) := by
    unfold sallyportref3_Encode0
    rw [h]
    kernel_rfl
  exact ⟨e.trans (chainCi (by decide) (by decide) H.hrd H.hcsr ⟨hn.1, by omega⟩), H.hrs10 (by decide +kernel), H.hrs20 (by decide +kernel), hn⟩
theorem enc59 {rd rs1 rs2 imm csr : Int} (h : sallyportref3_Is0 59 rd rs1 rs2 imm csr = true) : sallyportref3_Encode0 59 rd rs1 rs2 imm csr = 115 + 7 * 4096 + rd * 128 + imm * 32768 + csr * 1048576 ∧ rs1 = 0 ∧ rs2 = 0 ∧ (0 ≤ imm ∧ imm ≤ 31) := by
  have H := is_hyps h
  have e2 : sallyportref3_number0 59 rd rs1 rs2 imm csr = sallyportref3_within0 imm (0) 31 1 := by kernel_rfl
  have hm := H.hnum (by decide +kernel)
  rw [e2] at hm
  obtain ⟨n1, n2, n3⟩ := within_hyps hm
  have hn : 0 ≤ imm ∧ imm ≤ 31 := ⟨n1, n2⟩
  have e : sallyportref3_Encode0 59 rd rs1 rs2 imm csr = iOr .u32 (iOr .u32 (iOr .u32 (iOr .u32 (115) (iShl .u32 7 12)) (iShl .u32 (iConv .u32 rd) 7)) (iShl .u32 (iConv .u32 imm) 15)) (iShl .u32 (iConv .u32 csr) 20) := by
    unfold sallyportref3_Encode0
    rw [h]
    kernel_rfl
  exact ⟨e.trans (chainCi (by decide) (by decide) H.hrd H.hcsr ⟨hn.1, by omega⟩), H.hrs10 (by decide +kernel), H.hrs20 (by decide +kernel), hn⟩
theorem enc60 {rd rs1 rs2 imm csr : Int} (h : sallyportref3_Is0 60 rd rs1 rs2 imm csr = true) : sallyportref3_Encode0 60 rd rs1 rs2 imm csr = 807403635 ∧ rd = 0 ∧ rs1 = 0 ∧ rs2 = 0 ∧ csr = 0 ∧ imm = 0 := by
  have H := is_hyps h
  have e : sallyportref3_Encode0 60 rd rs1 rs2 imm csr = 807403635 := by
    unfold sallyportref3_Encode0
    rw [h]
    kernel_rfl
  exact ⟨e, H.hrd0 (by decide +kernel), H.hrs10 (by decide +kernel), H.hrs20 (by decide +kernel), H.hcsr0 (by decide +kernel), H.himm0 (by decide +kernel)⟩
theorem enc61 {rd rs1 rs2 imm csr : Int} (h : sallyportref3_Is0 61 rd rs1 rs2 imm csr = true) : sallyportref3_Encode0 61 rd rs1 rs2 imm csr = 270532723 ∧ rd = 0 ∧ rs1 = 0 ∧ rs2 = 0 ∧ csr = 0 ∧ imm = 0 := by
  have H := is_hyps h
  have e : sallyportref3_Encode0 61 rd rs1 rs2 imm csr = 270532723 := by
    unfold sallyportref3_Encode0
    rw [h]
    kernel_rfl
  exact ⟨e, H.hrd0 (by decide +kernel), H.hrs10 (by decide +kernel), H.hrs20 (by decide +kernel), H.hcsr0 (by decide +kernel), H.himm0 (by decide +kernel)⟩
theorem enc62 {rd rs1 rs2 imm csr : Int} (h : sallyportref3_Is0 62 rd rs1 rs2 imm csr = true) : sallyportref3_Encode0 62 rd rs1 rs2 imm csr = 273678451 ∧ rd = 0 ∧ rs1 = 0 ∧ rs2 = 0 ∧ csr = 0 ∧ imm = 0 := by
  have H := is_hyps h
  have e : sallyportref3_Encode0 62 rd rs1 rs2 imm csr = 273678451 := by
    unfold sallyportref3_Encode0
    rw [h]
    kernel_rfl
  exact ⟨e, H.hrd0 (by decide +kernel), H.hrs10 (by decide +kernel), H.hrs20 (by decide +kernel), H.hcsr0 (by decide +kernel), H.himm0 (by decide +kernel)⟩
theorem enc63 {rd rs1 rs2 imm csr : Int} (h : sallyportref3_Is0 63 rd rs1 rs2 imm csr = true) : sallyportref3_Encode0 63 rd rs1 rs2 imm csr = 115 + 0 * 4096 + rs1 * 32768 + rd * 128 + rs2 * 1048576 + 9 * 33554432 ∧ rd = 0 ∧ csr = 0 ∧ imm = 0 := by
  have H := is_hyps h
  have e : sallyportref3_Encode0 63 rd rs1 rs2 imm csr = iOr .u32 (iOr .u32 (iOr .u32 (iOr .u32 (iOr .u32 (115) (iShl .u32 0 12)) (iShl .u32 (iConv .u32 rs1) 15)) (iShl .u32 (iConv .u32 rd) 7)) (iShl .u32 (iConv .u32 rs2) 20)) (iShl .u32 9 25) := by
    unfold sallyportref3_Encode0
    rw [h]
    kernel_rfl
  exact ⟨e.trans (chainR (by decide) (by decide) H.hrs1 H.hrd H.hrs2 (by decide)), H.hrd0 (by decide +kernel), H.hcsr0 (by decide +kernel), H.himm0 (by decide +kernel)⟩
theorem enc64 {rd rs1 rs2 imm csr : Int} (h : sallyportref3_Is0 64 rd rs1 rs2 imm csr = true) : sallyportref3_Encode0 64 rd rs1 rs2 imm csr = 115 + 0 * 4096 + rs1 * 32768 + rd * 128 + rs2 * 1048576 + 17 * 33554432 ∧ rd = 0 ∧ csr = 0 ∧ imm = 0 := by
  have H := is_hyps h
  have e : sallyportref3_Encode0 64 rd rs1 rs2 imm csr = iOr .u32 (iOr .u32 (iOr .u32 (iOr .u32 (iOr .u32 (115) (iShl .u32 0 12)) (iShl .u32 (iConv .u32 rs1) 15)) (iShl .u32 (iConv .u32 rd) 7)) (iShl .u32 (iConv .u32 rs2) 20)) (iShl .u32 17 25) := by
    unfold sallyportref3_Encode0
    rw [h]
    kernel_rfl
  exact ⟨e.trans (chainR (by decide) (by decide) H.hrs1 H.hrd H.hrs2 (by decide)), H.hrd0 (by decide +kernel), H.hcsr0 (by decide +kernel), H.himm0 (by decide +kernel)⟩
theorem enc65 {rd rs1 rs2 imm csr : Int} (h : sallyportref3_Is0 65 rd rs1 rs2 imm csr = true) : sallyportref3_Encode0 65 rd rs1 rs2 imm csr = 115 + 0 * 4096 + rs1 * 32768 + rd * 128 + rs2 * 1048576 + 49 * 33554432 ∧ rd = 0 ∧ csr = 0 ∧ imm = 0 := by
  have H := is_hyps h
  have e : sallyportref3_Encode0 65 rd rs1 rs2 imm csr = iOr .u32 (iOr .u32 (iOr .u32 (iOr .u32 (iOr .u32 (115) (iShl .u32 0 12)) (iShl .u32 (iConv .u32 rs1) 15)) (iShl .u32 (iConv .u32 rd) 7)) (iShl .u32 (iConv .u32 rs2) 20)) (iShl .u32 49 25) := by
    unfold sallyportref3_Encode0
    rw [h]
    kernel_rfl
  exact ⟨e.trans (chainR (by decide) (by decide) H.hrs1 H.hrd H.hrs2 (by decide)), H.hrd0 (by decide +kernel), H.hcsr0 (by decide +kernel), H.himm0 (by decide +kernel)⟩
theorem enc66 {rd rs1 rs2 imm csr : Int} (h : sallyportref3_Is0 66 rd rs1 rs2 imm csr = true) : sallyportref3_Encode0 66 rd rs1 rs2 imm csr = 115 + 4 * 4096 + rs1 * 32768 + rd * 128 + 52 * 33554432 ∧ rs2 = 0 ∧ csr = 0 ∧ imm = 0 := by
  have H := is_hyps h
  have e : sallyportref3_Encode0 66 rd rs1 rs2 imm csr = iOr .u32 (iOr .u32 (iOr .u32 (iOr .u32 (115) (iShl .u32 4 12)) (iShl .u32 (iConv .u32 rs1) 15)) (iShl .u32 (iConv .u32 rd) 7)) (iShl .u32 52 25) := by
    unfold sallyportref3_Encode0
    rw [h]
    kernel_rfl
  exact ⟨e.trans (chainH (by decide) (by decide) H.hrs1 H.hrd (by decide)), H.hrs20 (by decide +kernel), H.hcsr0 (by decide +kernel), H.himm0 (by decide +kernel)⟩
theorem enc67 {rd rs1 rs2 imm csr : Int} (h : sallyportref3_Is0 67 rd rs1 rs2 imm csr = true) : sallyportref3_Encode0 67 rd rs1 rs2 imm csr = 115 + 4 * 4096 + rs1 * 32768 + rd * 128 + 54 * 33554432 ∧ rs2 = 0 ∧ csr = 0 ∧ imm = 0 := by
  have H := is_hyps h
  have e : sallyportref3_Encode0 67 rd rs1 rs2 imm csr = iOr .u32 (iOr .u32 (iOr .u32 (iOr .u32 (115) (iShl .u32 4 12)) (iShl .u32 (iConv .u32 rs1) 15)) (iShl .u32 (iConv .u32 rd) 7)) (iShl .u32 54 25) := by
    unfold sallyportref3_Encode0
    rw [h]
    kernel_rfl
  exact ⟨e.trans (chainH (by decide) (by decide) H.hrs1 H.hrd (by decide)), H.hrs20 (by decide +kernel), H.hcsr0 (by decide +kernel), H.himm0 (by decide +kernel)⟩
theorem enc68 {rd rs1 rs2 imm csr : Int} (h : sallyportref3_Is0 68 rd rs1 rs2 imm csr = true) : sallyportref3_Encode0 68 rd rs1 rs2 imm csr = 115 + 4 * 4096 + rs1 * 32768 + rd * 128 + 3145728 + 52 * 33554432 ∧ rs2 = 0 ∧ csr = 0 ∧ imm = 0 := by
  have H := is_hyps h
  have e : sallyportref3_Encode0 68 rd rs1 rs2 imm csr = iOr .u32 (iOr .u32 (iOr .u32 (iOr .u32 (iOr .u32 (115) (iShl .u32 4 12)) (iShl .u32 (iConv .u32 rs1) 15)) (iShl .u32 (iConv .u32 rd) 7)) (3145728)) (iShl .u32 52 25) := by
    unfold sallyportref3_Encode0
    rw [h]
    kernel_rfl
  exact ⟨e.trans (chainH3 (by decide) (by decide) H.hrs1 H.hrd (by decide)), H.hrs20 (by decide +kernel), H.hcsr0 (by decide +kernel), H.himm0 (by decide +kernel)⟩
theorem enc69 {rd rs1 rs2 imm csr : Int} (h : sallyportref3_Is0 69 rd rs1 rs2 imm csr = true) : sallyportref3_Encode0 69 rd rs1 rs2 imm csr = 115 + 4 * 4096 + rs1 * 32768 + rd * 128 + rs2 * 1048576 + 55 * 33554432 ∧ rd = 0 ∧ csr = 0 ∧ imm = 0 := by
  have H := is_hyps h
  have e : sallyportref3_Encode0 69 rd rs1 rs2 imm csr = iOr .u32 (iOr .u32 (iOr .u32 (iOr .u32 (iOr .u32 (115) (iShl .u32 4 12)) (iShl .u32 (iConv .u32 rs1) 15)) (iShl .u32 (iConv .u32 rd) 7)) (iShl .u32 (iConv .u32 rs2) 20)) (iShl .u32 55 25) := by
    unfold sallyportref3_Encode0
    rw [h]
    kernel_rfl
  exact ⟨e.trans (chainR (by decide) (by decide) H.hrs1 H.hrd H.hrs2 (by decide)), H.hrd0 (by decide +kernel), H.hcsr0 (by decide +kernel), H.himm0 (by decide +kernel)⟩
end Go.Proofs.YtngaeiceicgalaaDoor.PV
