/-
  Each operation's word is read as it. Printed by a program of the prover's own (wip/prt/words4.py).
-/
import Derived.Test.YtngaeiceicgalaaDoorHe
set_option linter.unusedVariables false
namespace Go.Proofs.YtngaeiceicgalaaDoor.PV
open Go Go.Ev

theorem InsT.cast {w op a b c d e a' b' c' d' e' : Int} (h : InsT w op a b c d e) (h1 : a = a') (h2 : b = b') (h3 : c = c') (h4 : d = d') (h5 : e = e') : InsT w op a' b' c' d' e' := by
  subst h1; subst h2; subst h3; subst h4; subst h5; exact h

theorem made1 {rd rs1 rs2 imm csr w : Int} (h : sallyportref3_Is0 1 rd rs1 rs2 imm csr = true) (hw : w = sallyportref3_Encode0 1 rd rs1 rs2 imm csr) : W32 w ∧ InsT w 1 rd rs1 rs2 imm csr := by
  have H := is_hyps h
  have h1 := H.hrd
  have h2 := H.hrs1
  have h3 := H.hrs2
  have h4 := H.hcsr
  obtain ⟨e, z0, z1, z2, hn, hm⟩ := enc1 h
  rw [e] at hw
  have hW : W32 w := by unfold W32; omega
  exact ⟨hW, (ins1 hW (by omega)).cast (by omega) (by omega) (by omega) (by split <;> omega) (by omega)⟩
theorem made2 {rd rs1 rs2 imm csr w : Int} (h : sallyportref3_Is0 2 rd rs1 rs2 imm csr = true) (hw : w = sallyportref3_Encode0 2 rd rs1 rs2 imm csr) : W32 w ∧ InsT w 2 rd rs1 rs2 imm csr := by
  have H := is_hyps h
  have h1 := H.hrd
  have h2 := H.hrs1
  have h3 := H.hrs2
  have h4 := H.hcsr
  obtain ⟨e, z0, z1, z2, hn, hm⟩ := enc2 h
  rw [e] at hw
  have hW : W32 w := by unfold W32; omega
  exact ⟨hW, (ins2 hW (by omega)).cast (by omega) (by omega) (by omega) (by split <;> omega) (by omega)⟩
theorem made3 {rd rs1 rs2 imm csr w : Int} (h : sallyportref3_Is0 3 rd rs1 rs2 imm csr = true) (hw : w = sallyportref3_Encode0 3 rd rs1 rs2 imm csr) : W32 w ∧ InsT w 3 rd rs1 rs2 imm csr := by
  have H := is_hyps h
  have h1 := H.hrd
  have h2 := H.hrs1
  have h3 := H.hrs2
  have h4 := H.hcsr
  obtain ⟨e, z0, z1, z2, hn, hm⟩ := enc3 h
  rw [e] at hw
  obtain ⟨p0, e0⟩ : ∃ p, imm % 4294967296 / 1048576 % 2 = p := ⟨_, rfl⟩
  obtain ⟨p1, e1⟩ : ∃ p, imm % 4294967296 / 4096 % 256 = p := ⟨_, rfl⟩
  obtain ⟨p2, e2⟩ : ∃ p, imm % 4294967296 / 2048 % 2 = p := ⟨_, rfl⟩
  obtain ⟨p3, e3⟩ : ∃ p, imm % 4294967296 / 2 % 1024 = p := ⟨_, rfl⟩
  rw [e0, e1, e2, e3] at hw
  have b0 : 0 ≤ p0 ∧ p0 < 2 := by omega
  have b1 : 0 ≤ p1 ∧ p1 < 256 := by omega
  have b2 : 0 ≤ p2 ∧ p2 < 2 := by omega
  have b3 : 0 ≤ p3 ∧ p3 < 1024 := by omega
  have q : p1 * 4096 + p2 * 2048 + p3 * 2 - p0 * 1048576 = imm := by omega
  clear e e0 e1 e2 e3 hn hm
  have hW : W32 w := by unfold W32; omega
  exact ⟨hW, (ins3 hW (by omega)).cast (by omega) (by omega) (by omega) (by omega) (by omega)⟩
theorem made4 {rd rs1 rs2 imm csr w : Int} (h : sallyportref3_Is0 4 rd rs1 rs2 imm csr = true) (hw : w = sallyportref3_Encode0 4 rd rs1 rs2 imm csr) : W32 w ∧ InsT w 4 rd rs1 rs2 imm csr := by
  have H := is_hyps h
  have h1 := H.hrd
  have h2 := H.hrs1
  have h3 := H.hrs2
  have h4 := H.hcsr
  obtain ⟨e, z0, z1, hn⟩ := enc4 h
  rw [e] at hw
  have hW : W32 w := by unfold W32; omega
  exact ⟨hW, (ins4 hW (by omega) (by omega)).cast (by omega) (by omega) (by omega) (by split <;> omega) (by omega)⟩
theorem made5 {rd rs1 rs2 imm csr w : Int} (h : sallyportref3_Is0 5 rd rs1 rs2 imm csr = true) (hw : w = sallyportref3_Encode0 5 rd rs1 rs2 imm csr) : W32 w ∧ InsT w 5 rd rs1 rs2 imm csr := by
  have H := is_hyps h
  have h1 := H.hrd
  have h2 := H.hrs1
  have h3 := H.hrs2
  have h4 := H.hcsr
  obtain ⟨e, z0, z1, hn, hm⟩ := enc5 h
  rw [e] at hw
  obtain ⟨p0, e0⟩ : ∃ p, imm % 4294967296 / 4096 % 2 = p := ⟨_, rfl⟩
  obtain ⟨p1, e1⟩ : ∃ p, imm % 4294967296 / 2048 % 2 = p := ⟨_, rfl⟩
  obtain ⟨p2, e2⟩ : ∃ p, imm % 4294967296 / 32 % 64 = p := ⟨_, rfl⟩
  obtain ⟨p3, e3⟩ : ∃ p, imm % 4294967296 / 2 % 16 = p := ⟨_, rfl⟩
  rw [e0, e1, e2, e3] at hw
  have b0 : 0 ≤ p0 ∧ p0 < 2 := by omega
  have b1 : 0 ≤ p1 ∧ p1 < 2 := by omega
  have b2 : 0 ≤ p2 ∧ p2 < 64 := by omega
  have b3 : 0 ≤ p3 ∧ p3 < 16 := by omega
  have q : p1 * 2048 + p2 * 32 + p3 * 2 - p0 * 4096 = imm := by omega
  clear e e0 e1 e2 e3 hn hm
  have hW : W32 w := by unfold W32; omega
  exact ⟨hW, (ins5 hW (by omega) (by omega)).cast (by omega) (by omega) (by omega) (by omega) (by omega)⟩
theorem made6 {rd rs1 rs2 imm csr w : Int} (h : sallyportref3_Is0 6 rd rs1 rs2 imm csr = true) (hw : w = sallyportref3_Encode0 6 rd rs1 rs2 imm csr) : W32 w ∧ InsT w 6 rd rs1 rs2 imm csr := by
  have H := is_hyps h
  have h1 := H.hrd
  have h2 := H.hrs1
  have h3 := H.hrs2
  have h4 := H.hcsr
  obtain ⟨e, z0, z1, hn, hm⟩ := enc6 h
  rw [e] at hw
  obtain ⟨p0, e0⟩ : ∃ p, imm % 4294967296 / 4096 % 2 = p := ⟨_, rfl⟩
  obtain ⟨p1, e1⟩ : ∃ p, imm % 4294967296 / 2048 % 2 = p := ⟨_, rfl⟩
  obtain ⟨p2, e2⟩ : ∃ p, imm % 4294967296 / 32 % 64 = p := ⟨_, rfl⟩
  obtain ⟨p3, e3⟩ : ∃ p, imm % 4294967296 / 2 % 16 = p := ⟨_, rfl⟩
  rw [e0, e1, e2, e3] at hw
  have b0 : 0 ≤ p0 ∧ p0 < 2 := by omega
  have b1 : 0 ≤ p1 ∧ p1 < 2 := by omega
  have b2 : 0 ≤ p2 ∧ p2 < 64 := by omega
  have b3 : 0 ≤ p3 ∧ p3 < 16 := by omega
  have q : p1 * 2048 + p2 * 32 + p3 * 2 - p0 * 4096 = imm := by omega
  clear e e0 e1 e2 e3 hn hm
  have hW : W32 w := by unfold W32; omega
  exact ⟨hW, (ins6 hW (by omega) (by omega)).cast (by omega) (by omega) (by omega) (by omega) (by omega)⟩
theorem made7 {rd rs1 rs2 imm csr w : Int} (h : sallyportref3_Is0 7 rd rs1 rs2 imm csr = true) (hw : w = sallyportref3_Encode0 7 rd rs1 rs2 imm csr) : W32 w ∧ InsT w 7 rd rs1 rs2 imm csr := by
  have H := is_hyps h
  have h1 := H.hrd
  have h2 := H.hrs1
  have h3 := H.hrs2
  have h4 := H.hcsr
  obtain ⟨e, z0, z1, hn, hm⟩ := enc7 h
  rw [e] at hw
  obtain ⟨p0, e0⟩ : ∃ p, imm % 4294967296 / 4096 % 2 = p := ⟨_, rfl⟩
  obtain ⟨p1, e1⟩ : ∃ p, imm % 4294967296 / 2048 % 2 = p := ⟨_, rfl⟩
  obtain ⟨p2, e2⟩ : ∃ p, imm % 4294967296 / 32 % 64 = p := ⟨_, rfl⟩
  obtain ⟨p3, e3⟩ : ∃ p, imm % 4294967296 / 2 % 16 = p := ⟨_, rfl⟩
  rw [e0, e1, e2, e3] at hw
  have b0 : 0 ≤ p0 ∧ p0 < 2 := by omega
  have b1 : 0 ≤ p1 ∧ p1 < 2 := by omega
  have b2 : 0 ≤ p2 ∧ p2 < 64 := by omega
  have b3 : 0 ≤ p3 ∧ p3 < 16 := by omega
  have q : p1 * 2048 + p2 * 32 + p3 * 2 - p0 * 4096 = imm := by omega
  clear e e0 e1 e2 e3 hn hm
  have hW : W32 w := by unfold W32; omega
  exact ⟨hW, (ins7 hW (by omega) (by omega)).cast (by omega) (by omega) (by omega) (by omega) (by omega)⟩
theorem made8 {rd rs1 rs2 imm csr w : Int} (h : sallyportref3_Is0 8 rd rs1 rs2 imm csr = true) (hw : w = sallyportref3_Encode0 8 rd rs1 rs2 imm csr) : W32 w ∧ InsT w 8 rd rs1 rs2 imm csr := by
  have H := is_hyps h
  have h1 := H.hrd
  have h2 := H.hrs1
  have h3 := H.hrs2
  have h4 := H.hcsr
  obtain ⟨e, z0, z1, hn, hm⟩ := enc8 h
  rw [e] at hw
  obtain ⟨p0, e0⟩ : ∃ p, imm % 4294967296 / 4096 % 2 = p := ⟨_, rfl⟩
  obtain ⟨p1, e1⟩ : ∃ p, imm % 4294967296 / 2048 % 2 = p := ⟨_, rfl⟩
  obtain ⟨p2, e2⟩ : ∃ p, imm % 4294967296 / 32 % 64 = p := ⟨_, rfl⟩
  obtain ⟨p3, e3⟩ : ∃ p, imm % 4294967296 / 2 % 16 = p := ⟨_, rfl⟩
  rw [e0, e1, e2, e3] at hw
  have b0 : 0 ≤ p0 ∧ p0 < 2 := by omega
  have b1 : 0 ≤ p1 ∧ p1 < 2 := by omega
  have b2 : 0 ≤ p2 ∧ p2 < 64 := by omega
  have b3 : 0 ≤ p3 ∧ p3 < 16 := by omega
  have q : p1 * 2048 + p2 * 32 + p3 * 2 - p0 * 4096 = imm := by omega
  clear e e0 e1 e2 e3 hn hm
  have hW : W32 w := by unfold W32; omega
  exact ⟨hW, (ins8 hW (by omega) (by omega)).cast (by omega) (by omega) (by omega) (by omega) (by omega)⟩
theorem made9 {rd rs1 rs2 imm csr w : Int} (h : sallyportref3_Is0 9 rd rs1 rs2 imm csr = true) (hw : w = sallyportref3_Encode0 9 rd rs1 rs2 imm csr) : W32 w ∧ InsT w 9 rd rs1 rs2 imm csr := by
  have H := is_hyps h
  have h1 := H.hrd
  have h2 := H.hrs1
  have h3 := H.hrs2
  have h4 := H.hcsr
  obtain ⟨e, z0, z1, hn, hm⟩ := enc9 h
  rw [e] at hw
  obtain ⟨p0, e0⟩ : ∃ p, imm % 4294967296 / 4096 % 2 = p := ⟨_, rfl⟩
  obtain ⟨p1, e1⟩ : ∃ p, imm % 4294967296 / 2048 % 2 = p := ⟨_, rfl⟩
  obtain ⟨p2, e2⟩ : ∃ p, imm % 4294967296 / 32 % 64 = p := ⟨_, rfl⟩
  obtain ⟨p3, e3⟩ : ∃ p, imm % 4294967296 / 2 % 16 = p := ⟨_, rfl⟩
  rw [e0, e1, e2, e3] at hw
  have b0 : 0 ≤ p0 ∧ p0 < 2 := by omega
  have b1 : 0 ≤ p1 ∧ p1 < 2 := by omega
  have b2 : 0 ≤ p2 ∧ p2 < 64 := by omega
  have b3 : 0 ≤ p3 ∧ p3 < 16 := by omega
  have q : p1 * 2048 + p2 * 32 + p3 * 2 - p0 * 4096 = imm := by omega
  clear e e0 e1 e2 e3 hn hm
  have hW : W32 w := by unfold W32; omega
  exact ⟨hW, (ins9 hW (by omega) (by omega)).cast (by omega) (by omega) (by omega) (by omega) (by omega)⟩
theorem made10 {rd rs1 rs2 imm csr w : Int} (h : sallyportref3_Is0 10 rd rs1 rs2 imm csr = true) (hw : w = sallyportref3_Encode0 10 rd rs1 rs2 imm csr) : W32 w ∧ InsT w 10 rd rs1 rs2 imm csr := by
  have H := is_hyps h
  have h1 := H.hrd
  have h2 := H.hrs1
  have h3 := H.hrs2
  have h4 := H.hcsr
  obtain ⟨e, z0, z1, hn, hm⟩ := enc10 h
  rw [e] at hw
  obtain ⟨p0, e0⟩ : ∃ p, imm % 4294967296 / 4096 % 2 = p := ⟨_, rfl⟩
  obtain ⟨p1, e1⟩ : ∃ p, imm % 4294967296 / 2048 % 2 = p := ⟨_, rfl⟩
  obtain ⟨p2, e2⟩ : ∃ p, imm % 4294967296 / 32 % 64 = p := ⟨_, rfl⟩
  obtain ⟨p3, e3⟩ : ∃ p, imm % 4294967296 / 2 % 16 = p := ⟨_, rfl⟩
  rw [e0, e1, e2, e3] at hw
  have b0 : 0 ≤ p0 ∧ p0 < 2 := by omega
  have b1 : 0 ≤ p1 ∧ p1 < 2 := by omega
  have b2 : 0 ≤ p2 ∧ p2 < 64 := by omega
  have b3 : 0 ≤ p3 ∧ p3 < 16 := by omega
  have q : p1 * 2048 + p2 * 32 + p3 * 2 - p0 * 4096 = imm := by omega
  clear e e0 e1 e2 e3 hn hm
  have hW : W32 w := by unfold W32; omega
  exact ⟨hW, (ins10 hW (by omega) (by omega)).cast (by omega) (by omega) (by omega) (by omega) (by omega)⟩
theorem made11 {rd rs1 rs2 imm csr w : Int} (h : sallyportref3_Is0 11 rd rs1 rs2 imm csr = true) (hw : w = sallyportref3_Encode0 11 rd rs1 rs2 imm csr) : W32 w ∧ InsT w 11 rd rs1 rs2 imm csr := by
  have H := is_hyps h
  have h1 := H.hrd
  have h2 := H.hrs1
  have h3 := H.hrs2
  have h4 := H.hcsr
  obtain ⟨e, z0, z1, hn⟩ := enc11 h
  rw [e] at hw
  have hW : W32 w := by unfold W32; omega
  exact ⟨hW, (ins11 hW (by omega) (by omega)).cast (by omega) (by omega) (by omega) (by split <;> omega) (by omega)⟩
theorem made12 {rd rs1 rs2 imm csr w : Int} (h : sallyportref3_Is0 12 rd rs1 rs2 imm csr = true) (hw : w = sallyportref3_Encode0 12 rd rs1 rs2 imm csr) : W32 w ∧ InsT w 12 rd rs1 rs2 imm csr := by
  have H := is_hyps h
  have h1 := H.hrd
  have h2 := H.hrs1
  have h3 := H.hrs2
  have h4 := H.hcsr
  obtain ⟨e, z0, z1, hn⟩ := enc12 h
  rw [e] at hw
  have hW : W32 w := by unfold W32; omega
  exact ⟨hW, (ins12 hW (by omega) (by omega)).cast (by omega) (by omega) (by omega) (by split <;> omega) (by omega)⟩
theorem made13 {rd rs1 rs2 imm csr w : Int} (h : sallyportref3_Is0 13 rd rs1 rs2 imm csr = true) (hw : w = sallyportref3_Encode0 13 rd rs1 rs2 imm csr) : W32 w ∧ InsT w 13 rd rs1 rs2 imm csr := by
  have H := is_hyps h
  have h1 := H.hrd
  have h2 := H.hrs1
  have h3 := H.hrs2
  have h4 := H.hcsr
  obtain ⟨e, z0, z1, hn⟩ := enc13 h
  rw [e] at hw
  have hW : W32 w := by unfold W32; omega
  exact ⟨hW, (ins13 hW (by omega) (by omega)).cast (by omega) (by omega) (by omega) (by split <;> omega) (by omega)⟩
theorem made14 {rd rs1 rs2 imm csr w : Int} (h : sallyportref3_Is0 14 rd rs1 rs2 imm csr = true) (hw : w = sallyportref3_Encode0 14 rd rs1 rs2 imm csr) : W32 w ∧ InsT w 14 rd rs1 rs2 imm csr := by
  have H := is_hyps h
  have h1 := H.hrd
  have h2 := H.hrs1
  have h3 := H.hrs2
  have h4 := H.hcsr
  obtain ⟨e, z0, z1, hn⟩ := enc14 h
  rw [e] at hw
  have hW : W32 w := by unfold W32; omega
  exact ⟨hW, (ins14 hW (by omega) (by omega)).cast (by omega) (by omega) (by omega) (by split <;> omega) (by omega)⟩
theorem made15 {rd rs1 rs2 imm csr w : Int} (h : sallyportref3_Is0 15 rd rs1 rs2 imm csr = true) (hw : w = sallyportref3_Encode0 15 rd rs1 rs2 imm csr) : W32 w ∧ InsT w 15 rd rs1 rs2 imm csr := by
  have H := is_hyps h
  have h1 := H.hrd
  have h2 := H.hrs1
  have h3 := H.hrs2
  have h4 := H.hcsr
  obtain ⟨e, z0, z1, hn⟩ := enc15 h
  rw [e] at hw
  have hW : W32 w := by unfold W32; omega
  exact ⟨hW, (ins15 hW (by omega) (by omega)).cast (by omega) (by omega) (by omega) (by split <;> omega) (by omega)⟩
theorem made16 {rd rs1 rs2 imm csr w : Int} (h : sallyportref3_Is0 16 rd rs1 rs2 imm csr = true) (hw : w = sallyportref3_Encode0 16 rd rs1 rs2 imm csr) : W32 w ∧ InsT w 16 rd rs1 rs2 imm csr := by
  have H := is_hyps h
  have h1 := H.hrd
  have h2 := H.hrs1
  have h3 := H.hrs2
  have h4 := H.hcsr
  obtain ⟨e, z0, z1, hn⟩ := enc16 h
  rw [e] at hw
  have hW : W32 w := by unfold W32; omega
  exact ⟨hW, (ins16 hW (by omega) (by omega)).cast (by omega) (by omega) (by omega) (by split <;> omega) (by omega)⟩
theorem made17 {rd rs1 rs2 imm csr w : Int} (h : sallyportref3_Is0 17 rd rs1 rs2 imm csr = true) (hw : w = sallyportref3_Encode0 17 rd rs1 rs2 imm csr) : W32 w ∧ InsT w 17 rd rs1 rs2 imm csr := by
  have H := is_hyps h
  have h1 := H.hrd
  have h2 := H.hrs1
  have h3 := H.hrs2
  have h4 := H.hcsr
  obtain ⟨e, z0, z1, hn⟩ := enc17 h
  rw [e] at hw
  have hW : W32 w := by unfold W32; omega
  exact ⟨hW, (ins17 hW (by omega) (by omega)).cast (by omega) (by omega) (by omega) (by split <;> omega) (by omega)⟩
theorem made18 {rd rs1 rs2 imm csr w : Int} (h : sallyportref3_Is0 18 rd rs1 rs2 imm csr = true) (hw : w = sallyportref3_Encode0 18 rd rs1 rs2 imm csr) : W32 w ∧ InsT w 18 rd rs1 rs2 imm csr := by
  have H := is_hyps h
  have h1 := H.hrd
  have h2 := H.hrs1
  have h3 := H.hrs2
  have h4 := H.hcsr
  obtain ⟨e, z0, z1, hn⟩ := enc18 h
  rw [e] at hw
  obtain ⟨p0, e0⟩ : ∃ p, imm % 4294967296 / 32 % 128 = p := ⟨_, rfl⟩
  obtain ⟨p1, e1⟩ : ∃ p, imm % 4294967296 % 32 = p := ⟨_, rfl⟩
  rw [e0, e1] at hw
  have b0 : 0 ≤ p0 ∧ p0 < 128 := by omega
  have b1 : 0 ≤ p1 ∧ p1 < 32 := by omega
  have q : imm = if p0 < 64 then p0 * 32 + p1 else p0 * 32 + p1 - 4096 := by split <;> omega
  clear e e0 e1 hn
  have hW : W32 w := by unfold W32; omega
  exact ⟨hW, (ins18 hW (by omega) (by omega)).cast (by omega) (by omega) (by omega) (by rw [q]; split <;> split <;> omega) (by omega)⟩
theorem made19 {rd rs1 rs2 imm csr w : Int} (h : sallyportref3_Is0 19 rd rs1 rs2 imm csr = true) (hw : w = sallyportref3_Encode0 19 rd rs1 rs2 imm csr) : W32 w ∧ InsT w 19 rd rs1 rs2 imm csr := by
  have H := is_hyps h
  have h1 := H.hrd
  have h2 := H.hrs1
  have h3 := H.hrs2
  have h4 := H.hcsr
  obtain ⟨e, z0, z1, hn⟩ := enc19 h
  rw [e] at hw
  obtain ⟨p0, e0⟩ : ∃ p, imm % 4294967296 / 32 % 128 = p := ⟨_, rfl⟩
  obtain ⟨p1, e1⟩ : ∃ p, imm % 4294967296 % 32 = p := ⟨_, rfl⟩
  rw [e0, e1] at hw
  have b0 : 0 ≤ p0 ∧ p0 < 128 := by omega
  have b1 : 0 ≤ p1 ∧ p1 < 32 := by omega
  have q : imm = if p0 < 64 then p0 * 32 + p1 else p0 * 32 + p1 - 4096 := by split <;> omega
  clear e e0 e1 hn
  have hW : W32 w := by unfold W32; omega
  exact ⟨hW, (ins19 hW (by omega) (by omega)).cast (by omega) (by omega) (by omega) (by rw [q]; split <;> split <;> omega) (by omega)⟩
theorem made20 {rd rs1 rs2 imm csr w : Int} (h : sallyportref3_Is0 20 rd rs1 rs2 imm csr = true) (hw : w = sallyportref3_Encode0 20 rd rs1 rs2 imm csr) : W32 w ∧ InsT w 20 rd rs1 rs2 imm csr := by
  have H := is_hyps h
  have h1 := H.hrd
  have h2 := H.hrs1
  have h3 := H.hrs2
  have h4 := H.hcsr
  obtain ⟨e, z0, z1, hn⟩ := enc20 h
  rw [e] at hw
  obtain ⟨p0, e0⟩ : ∃ p, imm % 4294967296 / 32 % 128 = p := ⟨_, rfl⟩
  obtain ⟨p1, e1⟩ : ∃ p, imm % 4294967296 % 32 = p := ⟨_, rfl⟩
  rw [e0, e1] at hw
  have b0 : 0 ≤ p0 ∧ p0 < 128 := by omega
  have b1 : 0 ≤ p1 ∧ p1 < 32 := by omega
  have q : imm = if p0 < 64 then p0 * 32 + p1 else p0 * 32 + p1 - 4096 := by split <;> omega
  clear e e0 e1 hn
  have hW : W32 w := by unfold W32; omega
  exact ⟨hW, (ins20 hW (by omega) (by omega)).cast (by omega) (by omega) (by omega) (by rw [q]; split <;> split <;> omega) (by omega)⟩
theorem made21 {rd rs1 rs2 imm csr w : Int} (h : sallyportref3_Is0 21 rd rs1 rs2 imm csr = true) (hw : w = sallyportref3_Encode0 21 rd rs1 rs2 imm csr) : W32 w ∧ InsT w 21 rd rs1 rs2 imm csr := by
  have H := is_hyps h
  have h1 := H.hrd
  have h2 := H.hrs1
  have h3 := H.hrs2
  have h4 := H.hcsr
  obtain ⟨e, z0, z1, hn⟩ := enc21 h
  rw [e] at hw
  obtain ⟨p0, e0⟩ : ∃ p, imm % 4294967296 / 32 % 128 = p := ⟨_, rfl⟩
  obtain ⟨p1, e1⟩ : ∃ p, imm % 4294967296 % 32 = p := ⟨_, rfl⟩
  rw [e0, e1] at hw
  have b0 : 0 ≤ p0 ∧ p0 < 128 := by omega
  have b1 : 0 ≤ p1 ∧ p1 < 32 := by omega
  have q : imm = if p0 < 64 then p0 * 32 + p1 else p0 * 32 + p1 - 4096 := by split <;> omega
  clear e e0 e1 hn
  have hW : W32 w := by unfold W32; omega
  exact ⟨hW, (ins21 hW (by omega) (by omega)).cast (by omega) (by omega) (by omega) (by rw [q]; split <;> split <;> omega) (by omega)⟩
theorem made22 {rd rs1 rs2 imm csr w : Int} (h : sallyportref3_Is0 22 rd rs1 rs2 imm csr = true) (hw : w = sallyportref3_Encode0 22 rd rs1 rs2 imm csr) : W32 w ∧ InsT w 22 rd rs1 rs2 imm csr := by
  have H := is_hyps h
  have h1 := H.hrd
  have h2 := H.hrs1
  have h3 := H.hrs2
  have h4 := H.hcsr
  obtain ⟨e, z0, z1, hn⟩ := enc22 h
  rw [e] at hw
  have hW : W32 w := by unfold W32; omega
  exact ⟨hW, (ins22 hW (by omega) (by omega)).cast (by omega) (by omega) (by omega) (by split <;> omega) (by omega)⟩
theorem made23 {rd rs1 rs2 imm csr w : Int} (h : sallyportref3_Is0 23 rd rs1 rs2 imm csr = true) (hw : w = sallyportref3_Encode0 23 rd rs1 rs2 imm csr) : W32 w ∧ InsT w 23 rd rs1 rs2 imm csr := by
  have H := is_hyps h
  have h1 := H.hrd
  have h2 := H.hrs1
  have h3 := H.hrs2
  have h4 := H.hcsr
  obtain ⟨e, z0, z1, hn⟩ := enc23 h
  rw [e] at hw
  have hW : W32 w := by unfold W32; omega
  exact ⟨hW, (ins23 hW (by omega) (by omega)).cast (by omega) (by omega) (by omega) (by split <;> omega) (by omega)⟩
theorem made24 {rd rs1 rs2 imm csr w : Int} (h : sallyportref3_Is0 24 rd rs1 rs2 imm csr = true) (hw : w = sallyportref3_Encode0 24 rd rs1 rs2 imm csr) : W32 w ∧ InsT w 24 rd rs1 rs2 imm csr := by
  have H := is_hyps h
  have h1 := H.hrd
  have h2 := H.hrs1
  have h3 := H.hrs2
  have h4 := H.hcsr
  obtain ⟨e, z0, z1, hn⟩ := enc24 h
  rw [e] at hw
  have hW : W32 w := by unfold W32; omega
  exact ⟨hW, (ins24 hW (by omega) (by omega)).cast (by omega) (by omega) (by omega) (by split <;> omega) (by omega)⟩
theorem made25 {rd rs1 rs2 imm csr w : Int} (h : sallyportref3_Is0 25 rd rs1 rs2 imm csr = true) (hw : w = sallyportref3_Encode0 25 rd rs1 rs2 imm csr) : W32 w ∧ InsT w 25 rd rs1 rs2 imm csr := by
  have H := is_hyps h
  have h1 := H.hrd
  have h2 := H.hrs1
  have h3 := H.hrs2
  have h4 := H.hcsr
  obtain ⟨e, z0, z1, hn⟩ := enc25 h
  rw [e] at hw
  have hW : W32 w := by unfold W32; omega
  exact ⟨hW, (ins25 hW (by omega) (by omega)).cast (by omega) (by omega) (by omega) (by split <;> omega) (by omega)⟩
theorem made26 {rd rs1 rs2 imm csr w : Int} (h : sallyportref3_Is0 26 rd rs1 rs2 imm csr = true) (hw : w = sallyportref3_Encode0 26 rd rs1 rs2 imm csr) : W32 w ∧ InsT w 26 rd rs1 rs2 imm csr := by
  have H := is_hyps h
  have h1 := H.hrd
  have h2 := H.hrs1
  have h3 := H.hrs2
  have h4 := H.hcsr
  obtain ⟨e, z0, z1, hn⟩ := enc26 h
  rw [e] at hw
  have hW : W32 w := by unfold W32; omega
  exact ⟨hW, (ins26 hW (by omega) (by omega)).cast (by omega) (by omega) (by omega) (by split <;> omega) (by omega)⟩
theorem made27 {rd rs1 rs2 imm csr w : Int} (h : sallyportref3_Is0 27 rd rs1 rs2 imm csr = true) (hw : w = sallyportref3_Encode0 27 rd rs1 rs2 imm csr) : W32 w ∧ InsT w 27 rd rs1 rs2 imm csr := by
  have H := is_hyps h
  have h1 := H.hrd
  have h2 := H.hrs1
  have h3 := H.hrs2
  have h4 := H.hcsr
  obtain ⟨e, z0, z1, hn⟩ := enc27 h
  rw [e] at hw
  have hW : W32 w := by unfold W32; omega
  exact ⟨hW, (ins27 hW (by omega) (by omega)).cast (by omega) (by omega) (by omega) (by split <;> omega) (by omega)⟩
theorem made28 {rd rs1 rs2 imm csr w : Int} (h : sallyportref3_Is0 28 rd rs1 rs2 imm csr = true) (hw : w = sallyportref3_Encode0 28 rd rs1 rs2 imm csr) : W32 w ∧ InsT w 28 rd rs1 rs2 imm csr := by
  have H := is_hyps h
  have h1 := H.hrd
  have h2 := H.hrs1
  have h3 := H.hrs2
  have h4 := H.hcsr
  obtain ⟨e, z0, z1, hn⟩ := enc28 h
  rw [e] at hw
  have hW : W32 w := by unfold W32; omega
  exact ⟨hW, (ins28 hW (by omega) (by omega) (by omega)).cast (by omega) (by omega) (by omega) (by omega) (by omega)⟩
theorem made29 {rd rs1 rs2 imm csr w : Int} (h : sallyportref3_Is0 29 rd rs1 rs2 imm csr = true) (hw : w = sallyportref3_Encode0 29 rd rs1 rs2 imm csr) : W32 w ∧ InsT w 29 rd rs1 rs2 imm csr := by
  have H := is_hyps h
  have h1 := H.hrd
  have h2 := H.hrs1
  have h3 := H.hrs2
  have h4 := H.hcsr
  obtain ⟨e, z0, z1, hn⟩ := enc29 h
  rw [e] at hw
  have hW : W32 w := by unfold W32; omega
  exact ⟨hW, (ins29 hW (by omega) (by omega) (by omega)).cast (by omega) (by omega) (by omega) (by omega) (by omega)⟩
theorem made30 {rd rs1 rs2 imm csr w : Int} (h : sallyportref3_Is0 30 rd rs1 rs2 imm csr = true) (hw : w = sallyportref3_Encode0 30 rd rs1 rs2 imm csr) : W32 w ∧ InsT w 30 rd rs1 rs2 imm csr := by
  have H := is_hyps h
  have h1 := H.hrd
  have h2 := H.hrs1
  have h3 := H.hrs2
  have h4 := H.hcsr
  obtain ⟨e, z0, z1, hn⟩ := enc30 h
  rw [e] at hw
  have hW : W32 w := by unfold W32; omega
  exact ⟨hW, (ins30 hW (by omega) (by omega) (by omega)).cast (by omega) (by omega) (by omega) (by omega) (by omega)⟩
theorem made31 {rd rs1 rs2 imm csr w : Int} (h : sallyportref3_Is0 31 rd rs1 rs2 imm csr = true) (hw : w = sallyportref3_Encode0 31 rd rs1 rs2 imm csr) : W32 w ∧ InsT w 31 rd rs1 rs2 imm csr := by
  have H := is_hyps h
  have h1 := H.hrd
  have h2 := H.hrs1
  have h3 := H.hrs2
  have h4 := H.hcsr
  obtain ⟨e, z0, z1, hn⟩ := enc31 h
  rw [e] at hw
  have hW : W32 w := by unfold W32; omega
  exact ⟨hW, (ins31 hW (by omega) (by omega)).cast (by omega) (by omega) (by omega) (by split <;> omega) (by omega)⟩
theorem made32 {rd rs1 rs2 imm csr w : Int} (h : sallyportref3_Is0 32 rd rs1 rs2 imm csr = true) (hw : w = sallyportref3_Encode0 32 rd rs1 rs2 imm csr) : W32 w ∧ InsT w 32 rd rs1 rs2 imm csr := by
  have H := is_hyps h
  have h1 := H.hrd
  have h2 := H.hrs1
  have h3 := H.hrs2
  have h4 := H.hcsr
  obtain ⟨e, z0, z1, hn⟩ := enc32 h
  rw [e] at hw
  have hW : W32 w := by unfold W32; omega
  exact ⟨hW, (ins32 hW (by omega) (by omega) (by omega)).cast (by omega) (by omega) (by omega) (by omega) (by omega)⟩
theorem made33 {rd rs1 rs2 imm csr w : Int} (h : sallyportref3_Is0 33 rd rs1 rs2 imm csr = true) (hw : w = sallyportref3_Encode0 33 rd rs1 rs2 imm csr) : W32 w ∧ InsT w 33 rd rs1 rs2 imm csr := by
  have H := is_hyps h
  have h1 := H.hrd
  have h2 := H.hrs1
  have h3 := H.hrs2
  have h4 := H.hcsr
  obtain ⟨e, z0, z1, hn⟩ := enc33 h
  rw [e] at hw
  have hW : W32 w := by unfold W32; omega
  exact ⟨hW, (ins33 hW (by omega) (by omega) (by omega)).cast (by omega) (by omega) (by omega) (by omega) (by omega)⟩
theorem made34 {rd rs1 rs2 imm csr w : Int} (h : sallyportref3_Is0 34 rd rs1 rs2 imm csr = true) (hw : w = sallyportref3_Encode0 34 rd rs1 rs2 imm csr) : W32 w ∧ InsT w 34 rd rs1 rs2 imm csr := by
  have H := is_hyps h
  have h1 := H.hrd
  have h2 := H.hrs1
  have h3 := H.hrs2
  have h4 := H.hcsr
  obtain ⟨e, z0, z1, hn⟩ := enc34 h
  rw [e] at hw
  have hW : W32 w := by unfold W32; omega
  exact ⟨hW, (ins34 hW (by omega) (by omega) (by omega)).cast (by omega) (by omega) (by omega) (by omega) (by omega)⟩
theorem made35 {rd rs1 rs2 imm csr w : Int} (h : sallyportref3_Is0 35 rd rs1 rs2 imm csr = true) (hw : w = sallyportref3_Encode0 35 rd rs1 rs2 imm csr) : W32 w ∧ InsT w 35 rd rs1 rs2 imm csr := by
  have H := is_hyps h
  have h1 := H.hrd
  have h2 := H.hrs1
  have h3 := H.hrs2
  have h4 := H.hcsr
  obtain ⟨e, z0, z1⟩ := enc35 h
  rw [e] at hw
  have hW : W32 w := by unfold W32; omega
  exact ⟨hW, (ins35 hW (by omega) (by omega) (by omega)).cast (by omega) (by omega) (by omega) (by omega) (by omega)⟩
theorem made36 {rd rs1 rs2 imm csr w : Int} (h : sallyportref3_Is0 36 rd rs1 rs2 imm csr = true) (hw : w = sallyportref3_Encode0 36 rd rs1 rs2 imm csr) : W32 w ∧ InsT w 36 rd rs1 rs2 imm csr := by
  have H := is_hyps h
  have h1 := H.hrd
  have h2 := H.hrs1
  have h3 := H.hrs2
  have h4 := H.hcsr
  obtain ⟨e, z0, z1⟩ := enc36 h
  rw [e] at hw
  have hW : W32 w := by unfold W32; omega
  exact ⟨hW, (ins36 hW (by omega) (by omega) (by omega)).cast (by omega) (by omega) (by omega) (by omega) (by omega)⟩
theorem made37 {rd rs1 rs2 imm csr w : Int} (h : sallyportref3_Is0 37 rd rs1 rs2 imm csr = true) (hw : w = sallyportref3_Encode0 37 rd rs1 rs2 imm csr) : W32 w ∧ InsT w 37 rd rs1 rs2 imm csr := by
  have H := is_hyps h
  have h1 := H.hrd
  have h2 := H.hrs1
  have h3 := H.hrs2
  have h4 := H.hcsr
  obtain ⟨e, z0, z1⟩ := enc37 h
  rw [e] at hw
  have hW : W32 w := by unfold W32; omega
  exact ⟨hW, (ins37 hW (by omega) (by omega) (by omega)).cast (by omega) (by omega) (by omega) (by omega) (by omega)⟩
theorem made38 {rd rs1 rs2 imm csr w : Int} (h : sallyportref3_Is0 38 rd rs1 rs2 imm csr = true) (hw : w = sallyportref3_Encode0 38 rd rs1 rs2 imm csr) : W32 w ∧ InsT w 38 rd rs1 rs2 imm csr := by
  have H := is_hyps h
  have h1 := H.hrd
  have h2 := H.hrs1
  have h3 := H.hrs2
  have h4 := H.hcsr
  obtain ⟨e, z0, z1⟩ := enc38 h
  rw [e] at hw
  have hW : W32 w := by unfold W32; omega
  exact ⟨hW, (ins38 hW (by omega) (by omega) (by omega)).cast (by omega) (by omega) (by omega) (by omega) (by omega)⟩
theorem made39 {rd rs1 rs2 imm csr w : Int} (h : sallyportref3_Is0 39 rd rs1 rs2 imm csr = true) (hw : w = sallyportref3_Encode0 39 rd rs1 rs2 imm csr) : W32 w ∧ InsT w 39 rd rs1 rs2 imm csr := by
  have H := is_hyps h
  have h1 := H.hrd
  have h2 := H.hrs1
  have h3 := H.hrs2
  have h4 := H.hcsr
  obtain ⟨e, z0, z1⟩ := enc39 h
  rw [e] at hw
  have hW : W32 w := by unfold W32; omega
  exact ⟨hW, (ins39 hW (by omega) (by omega) (by omega)).cast (by omega) (by omega) (by omega) (by omega) (by omega)⟩
theorem made40 {rd rs1 rs2 imm csr w : Int} (h : sallyportref3_Is0 40 rd rs1 rs2 imm csr = true) (hw : w = sallyportref3_Encode0 40 rd rs1 rs2 imm csr) : W32 w ∧ InsT w 40 rd rs1 rs2 imm csr := by
  have H := is_hyps h
  have h1 := H.hrd
  have h2 := H.hrs1
  have h3 := H.hrs2
  have h4 := H.hcsr
  obtain ⟨e, z0, z1⟩ := enc40 h
  rw [e] at hw
  have hW : W32 w := by unfold W32; omega
  exact ⟨hW, (ins40 hW (by omega) (by omega) (by omega)).cast (by omega) (by omega) (by omega) (by omega) (by omega)⟩
theorem made41 {rd rs1 rs2 imm csr w : Int} (h : sallyportref3_Is0 41 rd rs1 rs2 imm csr = true) (hw : w = sallyportref3_Encode0 41 rd rs1 rs2 imm csr) : W32 w ∧ InsT w 41 rd rs1 rs2 imm csr := by
  have H := is_hyps h
  have h1 := H.hrd
  have h2 := H.hrs1
  have h3 := H.hrs2
  have h4 := H.hcsr
  obtain ⟨e, z0, z1⟩ := enc41 h
  rw [e] at hw
  have hW : W32 w := by unfold W32; omega
  exact ⟨hW, (ins41 hW (by omega) (by omega) (by omega)).cast (by omega) (by omega) (by omega) (by omega) (by omega)⟩
theorem made42 {rd rs1 rs2 imm csr w : Int} (h : sallyportref3_Is0 42 rd rs1 rs2 imm csr = true) (hw : w = sallyportref3_Encode0 42 rd rs1 rs2 imm csr) : W32 w ∧ InsT w 42 rd rs1 rs2 imm csr := by
  have H := is_hyps h
  have h1 := H.hrd
  have h2 := H.hrs1
  have h3 := H.hrs2
  have h4 := H.hcsr
  obtain ⟨e, z0, z1⟩ := enc42 h
  rw [e] at hw
  have hW : W32 w := by unfold W32; omega
  exact ⟨hW, (ins42 hW (by omega) (by omega) (by omega)).cast (by omega) (by omega) (by omega) (by omega) (by omega)⟩
theorem made43 {rd rs1 rs2 imm csr w : Int} (h : sallyportref3_Is0 43 rd rs1 rs2 imm csr = true) (hw : w = sallyportref3_Encode0 43 rd rs1 rs2 imm csr) : W32 w ∧ InsT w 43 rd rs1 rs2 imm csr := by
  have H := is_hyps h
  have h1 := H.hrd
  have h2 := H.hrs1
  have h3 := H.hrs2
  have h4 := H.hcsr
  obtain ⟨e, z0, z1⟩ := enc43 h
  rw [e] at hw
  have hW : W32 w := by unfold W32; omega
  exact ⟨hW, (ins43 hW (by omega) (by omega) (by omega)).cast (by omega) (by omega) (by omega) (by omega) (by omega)⟩
theorem made44 {rd rs1 rs2 imm csr w : Int} (h : sallyportref3_Is0 44 rd rs1 rs2 imm csr = true) (hw : w = sallyportref3_Encode0 44 rd rs1 rs2 imm csr) : W32 w ∧ InsT w 44 rd rs1 rs2 imm csr := by
  have H := is_hyps h
  have h1 := H.hrd
  have h2 := H.hrs1
  have h3 := H.hrs2
  have h4 := H.hcsr
  obtain ⟨e, z0, z1⟩ := enc44 h
  rw [e] at hw
  have hW : W32 w := by unfold W32; omega
  exact ⟨hW, (ins44 hW (by omega) (by omega) (by omega)).cast (by omega) (by omega) (by omega) (by omega) (by omega)⟩
theorem made45 {rd rs1 rs2 imm csr w : Int} (h : sallyportref3_Is0 45 rd rs1 rs2 imm csr = true) (hw : w = sallyportref3_Encode0 45 rd rs1 rs2 imm csr) : W32 w ∧ InsT w 45 rd rs1 rs2 imm csr := by
  have H := is_hyps h
  have h1 := H.hrd
  have h2 := H.hrs1
  have h3 := H.hrs2
  have h4 := H.hcsr
  obtain ⟨e, z0, z1⟩ := enc45 h
  rw [e] at hw
  have hW : W32 w := by unfold W32; omega
  exact ⟨hW, (ins45 hW (by omega) (by omega) (by omega)).cast (by omega) (by omega) (by omega) (by omega) (by omega)⟩
theorem made46 {rd rs1 rs2 imm csr w : Int} (h : sallyportref3_Is0 46 rd rs1 rs2 imm csr = true) (hw : w = sallyportref3_Encode0 46 rd rs1 rs2 imm csr) : W32 w ∧ InsT w 46 rd rs1 rs2 imm csr := by
  have H := is_hyps h
  have h1 := H.hrd
  have h2 := H.hrs1
  have h3 := H.hrs2
  have h4 := H.hcsr
  obtain ⟨e, z0, z1⟩ := enc46 h
  rw [e] at hw
  have hW : W32 w := by unfold W32; omega
  exact ⟨hW, (ins46 hW (by omega) (by omega) (by omega)).cast (by omega) (by omega) (by omega) (by omega) (by omega)⟩
theorem made47 {rd rs1 rs2 imm csr w : Int} (h : sallyportref3_Is0 47 rd rs1 rs2 imm csr = true) (hw : w = sallyportref3_Encode0 47 rd rs1 rs2 imm csr) : W32 w ∧ InsT w 47 rd rs1 rs2 imm csr := by
  have H := is_hyps h
  have h1 := H.hrd
  have h2 := H.hrs1
  have h3 := H.hrs2
  have h4 := H.hcsr
  obtain ⟨e, z0, z1⟩ := enc47 h
  rw [e] at hw
  have hW : W32 w := by unfold W32; omega
  exact ⟨hW, (ins47 hW (by omega) (by omega) (by omega)).cast (by omega) (by omega) (by omega) (by omega) (by omega)⟩
theorem made48 {rd rs1 rs2 imm csr w : Int} (h : sallyportref3_Is0 48 rd rs1 rs2 imm csr = true) (hw : w = sallyportref3_Encode0 48 rd rs1 rs2 imm csr) : W32 w ∧ InsT w 48 rd rs1 rs2 imm csr := by
  have H := is_hyps h
  have h1 := H.hrd
  have h2 := H.hrs1
  have h3 := H.hrs2
  have h4 := H.hcsr
  obtain ⟨e, z0, z1⟩ := enc48 h
  rw [e] at hw
  have hW : W32 w := by unfold W32; omega
  exact ⟨hW, (ins48 hW (by omega) (by omega) (by omega)).cast (by omega) (by omega) (by omega) (by omega) (by omega)⟩
theorem made49 {rd rs1 rs2 imm csr w : Int} (h : sallyportref3_Is0 49 rd rs1 rs2 imm csr = true) (hw : w = sallyportref3_Encode0 49 rd rs1 rs2 imm csr) : W32 w ∧ InsT w 49 rd rs1 rs2 imm csr := by
  have H := is_hyps h
  have h1 := H.hrd
  have h2 := H.hrs1
  have h3 := H.hrs2
  have h4 := H.hcsr
  obtain ⟨e, z0, z1⟩ := enc49 h
  rw [e] at hw
  have hW : W32 w := by unfold W32; omega
  exact ⟨hW, (ins49 hW (by omega) (by omega) (by omega)).cast (by omega) (by omega) (by omega) (by omega) (by omega)⟩
theorem made50 {rd rs1 rs2 imm csr w : Int} (h : sallyportref3_Is0 50 rd rs1 rs2 imm csr = true) (hw : w = sallyportref3_Encode0 50 rd rs1 rs2 imm csr) : W32 w ∧ InsT w 50 rd rs1 rs2 imm csr := by
  have H := is_hyps h
  have h1 := H.hrd
  have h2 := H.hrs1
  have h3 := H.hrs2
  have h4 := H.hcsr
  obtain ⟨e, z0, z1, z2, z3, z4⟩ := enc50 h
  rw [e] at hw
  subst z0; subst z1; subst z2; subst z3; subst z4; subst hw
  exact ⟨by unfold W32; omega, ins50⟩
theorem made51 {rd rs1 rs2 imm csr w : Int} (h : sallyportref3_Is0 51 rd rs1 rs2 imm csr = true) (hw : w = sallyportref3_Encode0 51 rd rs1 rs2 imm csr) : W32 w ∧ InsT w 51 rd rs1 rs2 imm csr := by
  have H := is_hyps h
  have h1 := H.hrd
  have h2 := H.hrs1
  have h3 := H.hrs2
  have h4 := H.hcsr
  obtain ⟨e, z0, z1, z2, z3, z4⟩ := enc51 h
  rw [e] at hw
  subst z0; subst z1; subst z2; subst z3; subst z4; subst hw
  exact ⟨by unfold W32; omega, ins51⟩
theorem made52 {rd rs1 rs2 imm csr w : Int} (h : sallyportref3_Is0 52 rd rs1 rs2 imm csr = true) (hw : w = sallyportref3_Encode0 52 rd rs1 rs2 imm csr) : W32 w ∧ InsT w 52 rd rs1 rs2 imm csr := by
  have H := is_hyps h
  have h1 := H.hrd
  have h2 := H.hrs1
  have h3 := H.hrs2
  have h4 := H.hcsr
  obtain ⟨e, z0, z1, z2, z3, z4⟩ := enc52 h
  rw [e] at hw
  subst z0; subst z1; subst z2; subst z3; subst z4; subst hw
  exact ⟨by unfold W32; omega, ins52⟩
theorem made53 {rd rs1 rs2 imm csr w : Int} (h : sallyportref3_Is0 53 rd rs1 rs2 imm csr = true) (hw : w = sallyportref3_Encode0 53 rd rs1 rs2 imm csr) : W32 w ∧ InsT w 53 rd rs1 rs2 imm csr := by
  have H := is_hyps h
  have h1 := H.hrd
  have h2 := H.hrs1
  have h3 := H.hrs2
  have h4 := H.hcsr
  obtain ⟨e, z0, z1, z2, z3, z4⟩ := enc53 h
  rw [e] at hw
  subst z0; subst z1; subst z2; subst z3; subst z4; subst hw
  exact ⟨by unfold W32; omega, ins53⟩
theorem made54 {rd rs1 rs2 imm csr w : Int} (h : sallyportref3_Is0 54 rd rs1 rs2 imm csr = true) (hw : w = sallyportref3_Encode0 54 rd rs1 rs2 imm csr) : W32 w ∧ InsT w 54 rd rs1 rs2 imm csr := by
  have H := is_hyps h
  have h1 := H.hrd
  have h2 := H.hrs1
  have h3 := H.hrs2
  have h4 := H.hcsr
  obtain ⟨e, z0, z1⟩ := enc54 h
  rw [e] at hw
  have hW : W32 w := by unfold W32; omega
  exact ⟨hW, (ins54 hW (by omega) (by omega)).cast (by omega) (by omega) (by omega) (by omega) (by omega)⟩
theorem made55 {rd rs1 rs2 imm csr w : Int} (h : sallyportref3_Is0 55 rd rs1 rs2 imm csr = true) (hw : w = sallyportref3_Encode0 55 rd rs1 rs2 imm csr) : W32 w ∧ InsT w 55 rd rs1 rs2 imm csr := by
  have H := is_hyps h
  have h1 := H.hrd
  have h2 := H.hrs1
  have h3 := H.hrs2
  have h4 := H.hcsr
  obtain ⟨e, z0, z1⟩ := enc55 h
  rw [e] at hw
  have hW : W32 w := by unfold W32; omega
  exact ⟨hW, (ins55 hW (by omega) (by omega)).cast (by omega) (by omega) (by omega) (by omega) (by omega)⟩
theorem made56 {rd rs1 rs2 imm csr w : Int} (h : sallyportref3_Is0 56 rd rs1 rs2 imm csr = true) (hw : w = sallyportref3_Encode0 56 rd rs1 rs2 imm csr) : W32 w ∧ InsT w 56 rd rs1 rs2 imm csr := by
  have H := is_hyps h
  have h1 := H.hrd
  have h2 := H.hrs1
  have h3 := H.hrs2
  have h4 := H.hcsr
  obtain ⟨e, z0, z1⟩ := enc56 h
  rw [e] at hw
  have hW : W32 w := by unfold W32; omega
  exact ⟨hW, (ins56 hW (by omega) (by omega)).cast (by omega) (by omega) (by omega) (by omega) (by omega)⟩
theorem made57 {rd rs1 rs2 imm csr w : Int} (h : sallyportref3_Is0 57 rd rs1 rs2 imm csr = true) (hw : w = sallyportref3_Encode0 57 rd rs1 rs2 imm csr) : W32 w ∧ InsT w 57 rd rs1 rs2 imm csr := by
  have H := is_hyps h
  have h1 := H.hrd
  have h2 := H.hrs1
  have h3 := H.hrs2
  have h4 := H.hcsr
  obtain ⟨e, z0, z1, hn⟩ := enc57 h
  rw [e] at hw
  have hW : W32 w := by unfold W32; omega
  exact ⟨hW, (ins57 hW (by omega) (by omega)).cast (by omega) (by omega) (by omega) (by omega) (by omega)⟩
theorem made58 {rd rs1 rs2 imm csr w : Int} (h : sallyportref3_Is0 58 rd rs1 rs2 imm csr = true) (hw : w = sallyportref3_Encode0 58 rd rs1 rs2 imm csr) : W32 w ∧ InsT w 58 rd rs1 rs2 imm csr := by
  have H := is_hyps h
  have h1 := H.hrd
  have h2 := H.hrs1
  have h3 := H.hrs2
  have h4 := H.hcsr
  obtain ⟨e, z0, z1, hn⟩ := enc58 h
  rw [e] at hw
  have hW : W32 w := by unfold W32; omega
  exact ⟨hW, (ins58 hW (by omega) (by omega)).cast (by omega) (by omega) (by omega) (by omega) (by omega)⟩
theorem made59 {rd rs1 rs2 imm csr w : Int} (h : sallyportref3_Is0 59 rd rs1 rs2 imm csr = true) (hw : w = sallyportref3_Encode0 59 rd rs1 rs2 imm csr) : W32 w ∧ InsT w 59 rd rs1 rs2 imm csr := by
  have H := is_hyps h
  have h1 := H.hrd
  have h2 := H.hrs1
  have h3 := H.hrs2
  have h4 := H.hcsr
  obtain ⟨e, z0, z1, hn⟩ := enc59 h
  rw [e] at hw
  have hW : W32 w := by unfold W32; omega
  exact ⟨hW, (ins59 hW (by omega) (by omega)).cast (by omega) (by omega) (by omega) (by omega) (by omega)⟩
theorem made60 {rd rs1 rs2 imm csr w : Int} (h : sallyportref3_Is0 60 rd rs1 rs2 imm csr = true) (hw : w = sallyportref3_Encode0 60 rd rs1 rs2 imm csr) : W32 w ∧ InsT w 60 rd rs1 rs2 imm csr := by
  have H := is_hyps h
  have h1 := H.hrd
  have h2 := H.hrs1
  have h3 := H.hrs2
  have h4 := H.hcsr
  obtain ⟨e, z0, z1, z2, z3, z4⟩ := enc60 h
  rw [e] at hw
  subst z0; subst z1; subst z2; subst z3; subst z4; subst hw
  exact ⟨by unfold W32; omega, ins60⟩
theorem made61 {rd rs1 rs2 imm csr w : Int} (h : sallyportref3_Is0 61 rd rs1 rs2 imm csr = true) (hw : w = sallyportref3_Encode0 61 rd rs1 rs2 imm csr) : W32 w ∧ InsT w 61 rd rs1 rs2 imm csr := by
  have H := is_hyps h
  have h1 := H.hrd
  have h2 := H.hrs1
  have h3 := H.hrs2
  have h4 := H.hcsr
  obtain ⟨e, z0, z1, z2, z3, z4⟩ := enc61 h
  rw [e] at hw
  subst z0; subst z1; subst z2; subst z3; subst z4; subst hw
  exact ⟨by unfold W32; omega, ins61⟩
theorem made62 {rd rs1 rs2 imm csr w : Int} (h : sallyportref3_Is0 62 rd rs1 rs2 imm csr = true) (hw : w = sallyportref3_Encode0 62 rd rs1 rs2 imm csr) : W32 w ∧ InsT w 62 rd rs1 rs2 imm csr := by
  have H := is_hyps h
  have h1 := H.hrd
  have h2 := H.hrs1
  have h3 := H.hrs2
  have h4 := H.hcsr
  obtain ⟨e, z0, z1, z2, z3, z4⟩ := enc62 h
  rw [e] at hw
  subst z0; subst z1; subst z2; subst z3; subst z4; subst hw
  exact ⟨by unfold W32; omega, ins62⟩
theorem made63 {rd rs1 rs2 imm csr w : Int} (h : sallyportref3_Is0 63 rd rs1 rs2 imm csr = true) (hw : w = sallyportref3_Encode0 63 rd rs1 rs2 imm csr) : W32 w ∧ InsT w 63 rd rs1 rs2 imm csr := by
  have H := is_hyps h
  have h1 := H.hrd
  have h2 := H.hrs1
  have h3 := H.hrs2
  have h4 := H.hcsr
  obtain ⟨e, z0, z1, z2⟩ := enc63 h
  rw [e] at hw
  have hW : W32 w := by unfold W32; omega
  exact ⟨hW, (ins63 hW (by omega) (by omega) (by omega) (by omega)).cast (by omega) (by omega) (by omega) (by omega) (by omega)⟩
theorem made64 {rd rs1 rs2 imm csr w : Int} (h : sallyportref3_Is0 64 rd rs1 rs2 imm csr = true) (hw : w = sallyportref3_Encode0 64 rd rs1 rs2 imm csr) : W32 w ∧ InsT w 64 rd rs1 rs2 imm csr := by
  have H := is_hyps h
  have h1 := H.hrd
  have h2 := H.hrs1
  have h3 := H.hrs2
  have h4 := H.hcsr
  obtain ⟨e, z0, z1, z2⟩ := enc64 h
  rw [e] at hw
  have hW : W32 w := by unfold W32; omega
  exact ⟨hW, (ins64 hW (by omega) (by omega) (by omega) (by omega)).cast (by omega) (by omega) (by omega) (by omega) (by omega)⟩
theorem made65 {rd rs1 rs2 imm csr w : Int} (h : sallyportref3_Is0 65 rd rs1 rs2 imm csr = true) (hw : w = sallyportref3_Encode0 65 rd rs1 rs2 imm csr) : W32 w ∧ InsT w 65 rd rs1 rs2 imm csr := by
  have H := is_hyps h
  have h1 := H.hrd
  have h2 := H.hrs1
  have h3 := H.hrs2
  have h4 := H.hcsr
  obtain ⟨e, z0, z1, z2⟩ := enc65 h
  rw [e] at hw
  have hW : W32 w := by unfold W32; omega
  exact ⟨hW, (ins65 hW (by omega) (by omega) (by omega) (by omega)).cast (by omega) (by omega) (by omega) (by omega) (by omega)⟩
theorem made66 {rd rs1 rs2 imm csr w : Int} (h : sallyportref3_Is0 66 rd rs1 rs2 imm csr = true) (hw : w = sallyportref3_Encode0 66 rd rs1 rs2 imm csr) : W32 w ∧ InsT w 66 rd rs1 rs2 imm csr := by
  have H := is_hyps h
  have h1 := H.hrd
  have h2 := H.hrs1
  have h3 := H.hrs2
  have h4 := H.hcsr
  obtain ⟨e, z0, z1, z2⟩ := enc66 h
  rw [e] at hw
  have hW : W32 w := by unfold W32; omega
  exact ⟨hW, (ins66 hW (by omega) (by omega) (by omega) (by omega)).cast (by omega) (by omega) (by omega) (by omega) (by omega)⟩
theorem made67 {rd rs1 rs2 imm csr w : Int} (h : sallyportref3_Is0 67 rd rs1 rs2 imm csr = true) (hw : w = sallyportref3_Encode0 67 rd rs1 rs2 imm csr) : W32 w ∧ InsT w 67 rd rs1 rs2 imm csr := by
  have H := is_hyps h
  have h1 := H.hrd
  have h2 := H.hrs1
  have h3 := H.hrs2
  have h4 := H.hcsr
  obtain ⟨e, z0, z1, z2⟩ := enc67 h
  rw [e] at hw
  have hW : W32 w := by unfold W32; omega
  exact ⟨hW, (ins67 hW (by omega) (by omega) (by omega) (by omega)).cast (by omega) (by omega) (by omega) (by omega) (by omega)⟩
theorem made68 {rd rs1 rs2 imm csr w : Int} (h : sallyportref3_Is0 68 rd rs1 rs2 imm csr = true) (hw : w = sallyportref3_Encode0 68 rd rs1 rs2 imm csr) : W32 w ∧ InsT w 68 rd rs1 rs2 imm csr := by
  have H := is_hyps h
  have h1 := H.hrd
  have h2 := H.hrs1
  have h3 := H.hrs2
  have h4 := H.hcsr
  obtain ⟨e, z0, z1, z2⟩ := enc68 h
  rw [e] at hw
  have hW : W32 w := by unfold W32; omega
  exact ⟨hW, (ins68 hW (by omega) (by omega) (by omega) (by omega)).cast (by omega) (by omega) (by omega) (by omega) (by omega)⟩
theorem made69 {rd rs1 rs2 imm csr w : Int} (h : sallyportref3_Is0 69 rd rs1 rs2 imm csr = true) (hw : w = sallyportref3_Encode0 69 rd rs1 rs2 imm csr) : W32 w ∧ InsT w 69 rd rs1 rs2 imm csr := by
  have H := is_hyps h
  have h1 := H.hrd
  have h2 := H.hrs1
  have h3 := H.hrs2
  have h4 := H.hcsr
  obtain ⟨e, z0, z1, z2⟩ := enc69 h
  rw [e] at hw
  have hW : W32 w := by unfold W32; omega
  exact ⟨hW, (ins69 hW (by omega) (by omega) (by omega) (by omega)).cast (by omega) (by omega) (by omega) (by omega) (by omega)⟩
end Go.Proofs.YtngaeiceicgalaaDoor.PV
