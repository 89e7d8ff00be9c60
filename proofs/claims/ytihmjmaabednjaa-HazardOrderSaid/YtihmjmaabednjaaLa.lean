/-
  What the program and the document call an instruction is the same; no condition.
-/
import Derived.Test.YtihmjmaabednjaaFb
set_option linter.unusedVariables false
set_option linter.unusedSimpArgs false
namespace Go.Proofs.Ytihmjmaabednjaa.PV
open Go Go.Ev

theorem iLt_not (x y : Int) : iLt x y = !iLe y x := by
  unfold iLt iLe
  rw [Bool.eq_iff_iff]
  simp only [decide_eq_true_eq, Bool.not_eq_true', decide_eq_false_iff_not]; omega
theorem iNe_not (x y : Int) : iNe x y = !iEq x y := rfl
theorem iEq_true {x y : Int} : iEq x y = true ↔ x = y := by unfold iEq; exact beq_iff_eq
theorem iLt_true {x y : Int} : iLt x y = true ↔ x < y := by unfold iLt; exact decide_eq_true_iff
theorem iLe_true {x y : Int} : iLe x y = true ↔ x ≤ y := by unfold iLe; exact decide_eq_true_iff
theorem iEq_false {x y : Int} : iEq x y = false ↔ x ≠ y := by rw [← Bool.not_eq_true, iEq_true]
theorem iLt_false {x y : Int} : iLt x y = false ↔ y ≤ x := by rw [← Bool.not_eq_true, iLt_true]; omega
theorem iLe_false {x y : Int} : iLe x y = false ↔ y < x := by rw [← Bool.not_eq_true, iLe_true]; omega
theorem iEq_comm (x y : Int) : iEq x y = iEq y x := by rw [Bool.eq_iff_iff, iEq_true, iEq_true]; omega

theorem class_out {op : Int} (h : ¬ (1 ≤ op ∧ op < 70)) : insn_Class0 op = 0 := by
  have : (bif iLt op 1 then true else iLe 70 op) = true := by
    cases h1 : iLt op 1 with
    | true => rfl
    | false => rw [cond_false, iLe_true]; rw [iLt_false] at h1; omega
  unfold insn_Class0
  rw [this, cond_true]

theorem class_out' {op : Int} (h : ¬ (1 ≤ op ∧ op < 70)) : sallyportref3_Class0 op = 0 := by
  have : (bif iLt op 1 then true else iLe 70 op) = true := by
    cases h1 : iLt op 1 with
    | true => rfl
    | false => rw [cond_false, iLe_true]; rw [iLt_false] at h1; omega
  unfold sallyportref3_Class0
  rw [this, cond_true]

theorem facts : ∀ n, n < 70 → 1 ≤ n → sallyportref3_Class0 (n : Nat) = insn_Class0 (n : Nat) ∧ sallyportref3_Parts0 (n : Nat) = insn_Of0 (n : Nat) ∧ sallyportref3_Parts1 (n : Nat) = insn_Of2 (n : Nat) ∧
    sallyportref3_Parts2 (n : Nat) = insn_Of3 (n : Nat) ∧ sallyportref3_Parts3 (n : Nat) = insn_Of1 (n : Nat) ∧ sallyportref3_Parts4 (n : Nat) = iLt 0 (insn_Of6 (n : Nat)) ∧ iEq (insn_Of6 (n : Nat)) 0 = !iLt 0 (insn_Of6 (n : Nat)) ∧
    iEq (insn_Class0 (n : Nat)) 0 = false := by decide +kernel

theorem class_eq (op : Int) : sallyportref3_Class0 op = insn_Class0 op := by
  by_cases h : 1 ≤ op ∧ op < 70
  · obtain ⟨n, rfl⟩ := Int.eq_ofNat_of_zero_le (show 0 ≤ op by omega)
    exact (facts n (by omega) (by omega)).1
  · rw [class_out h, class_out' h]

set_option maxRecDepth 10000 in
theorem number_eq (rd rs1 rs2 imm csr : Int) : ∀ n : Nat, n < 70 →
    (bif iLt 0 (insn_Of6 (n : Nat)) then sallyportref3_number0 (n : Nat) rd rs1 rs2 imm csr else true) = (bif iLt 0 (insn_Of6 (n : Nat)) then sallyportref3_within0 imm (insn_Of4 (n : Nat)) (insn_Of5 (n : Nat)) (insn_Of6 (n : Nat)) else true) := by
  intro n hn
  iterate 70 (rcases n with _ | n; (· kernel_rfl))
  omega

theorem is_eq (op rd rs1 rs2 imm csr : Int) : sallyportref3_Is0 op rd rs1 rs2 imm csr = insn_Is0 op rd rs1 rs2 imm csr := by
  by_cases h : 1 ≤ op ∧ op < 70
  · obtain ⟨n, rfl⟩ := Int.eq_ofNat_of_zero_le (show 0 ≤ op by omega)
    obtain ⟨f1, f2, f3, f4, f5, f6, f7, f8⟩ := facts n (by omega) (by omega)
    have hnum := number_eq rd rs1 rs2 imm csr n (by omega)
    unfold insn_Is0 sallyportref3_Is0
    rw [f1, f2, f3, f4, f5, f6, f7, f8]
    have hcsr : (bif iNe csr 0 then bif bif !insn_Of1 (n : Nat) then true else iLt csr 0 then true else iLt 4095 csr else false) = !insn_field0 (insn_Of1 (n : Nat)) csr 4096 := by
      unfold insn_field0
      have a1 : iLt 4095 csr = !iLt csr 4096 := by rw [Bool.eq_iff_iff, Bool.not_eq_true', iLt_true, iLt_false]; omega
      rw [iNe_not, a1]
      cases h0 : iEq csr 0 with
      | true => rfl
      | false =>
        have a2 : iLt csr 0 = !iLt 0 csr := by rw [iEq_false] at h0; rw [Bool.eq_iff_iff, Bool.not_eq_true', iLt_true, iLt_false]; omega
        rw [a2]
        cases insn_Of1 (n : Nat) <;> cases iLt 0 csr <;> cases iLt csr 4096 <;> rfl
    rw [hcsr]
    have e1 : ∀ a b, sallyportref3_reg0 a b = insn_field0 b a 32 := fun a b => rfl
    rw [e1, e1, e1]
    cases hS : iLt 0 (insn_Of6 (n : Nat)) with
    | false =>
      rw [iNe_not]
      cases insn_field0 (insn_Of0 (n : Nat)) rd 32 <;> cases insn_field0 (insn_Of2 (n : Nat)) rs1 32 <;> cases insn_field0 (insn_Of3 (n : Nat)) rs2 32 <;> cases insn_field0 (insn_Of1 (n : Nat)) csr 4096 <;> cases iEq imm 0 <;> rfl
    | true =>
      rw [hS, cond_true, cond_true] at hnum
      rw [hnum]
      unfold sallyportref3_within0
      rw [iLt_not imm, iLt_not _ imm, iNe_not, iNe_not]
      cases insn_field0 (insn_Of0 (n : Nat)) rd 32 <;> cases insn_field0 (insn_Of2 (n : Nat)) rs1 32 <;> cases insn_field0 (insn_Of3 (n : Nat)) rs2 32 <;> cases insn_field0 (insn_Of1 (n : Nat)) csr 4096 <;>
        cases iLe (insn_Of4 (n : Nat)) imm <;> cases iLe imm (insn_Of5 (n : Nat)) <;> cases iEq (iRem imm (insn_Of6 (n : Nat))) 0 <;> rfl
  · unfold insn_Is0 sallyportref3_Is0
    rw [class_out h, class_out' h]
    rfl

theorem writes_eq (op rd rs1 rs2 imm csr : Int) : sallyportref3_Writes0 op rd rs1 rs2 imm csr = insn_Writes0 op rd rs1 rs2 imm csr := by
  unfold sallyportref3_Writes0 insn_Writes0; rw [is_eq]
theorem reads0_eq (op rd rs1 rs2 imm csr : Int) : sallyportref3_Reads0 op rd rs1 rs2 imm csr = insn_Reads0 op rd rs1 rs2 imm csr := by
  unfold sallyportref3_Reads0 insn_Reads0; rw [is_eq]
theorem reads1_eq (op rd rs1 rs2 imm csr : Int) : sallyportref3_Reads1 op rd rs1 rs2 imm csr = insn_Reads1 op rd rs1 rs2 imm csr := by
  unfold sallyportref3_Reads1 insn_Reads1; rw [is_eq]
theorem uses_eq (op rd rs1 rs2 imm csr r : Int) : sallyportlaw21_uses0 op rd rs1 rs2 imm csr r = hazard_Uses0 op rd rs1 rs2 imm csr r := by
  unfold sallyportlaw21_uses0 hazard_Uses0; rw [reads0_eq, reads1_eq, iEq_comm r, iEq_comm r]
theorem class_nat (c : Int) (n : Nat) (hc : 0 ≤ c) : (c.toNat == n) = iEq c n := by
  rw [Bool.eq_iff_iff, beq_iff_eq, iEq_true]; omega

theorem hazardTells_true (a b c d e f g h i j k l r : Int) : sallyportlaw21_HazardTells0 a b c d e f g h i j k l r = true := by
  unfold sallyportlaw21_HazardTells0 hazard_Waits0 hazard_Passes0 hazard_Alone0
  rw [uses_eq, uses_eq, writes_eq, class_eq, class_eq, class_nat _ _ (class_in a).1, class_nat _ _ (class_in a).1]
  generalize hazard_Uses0 g h i j k l r = p1
  generalize hazard_Uses0 g h i j k l (insn_Writes0 a b c d e f) = p2
  have e1 : iEq (insn_Class0 a) ((12 : Nat) : Int) = iEq (insn_Class0 a) 12 := rfl
  have e2 : iEq (insn_Class0 a) ((3 : Nat) : Int) = iEq (insn_Class0 a) 3 := rfl
  rw [e1, e2]
  generalize iEq (insn_Class0 a) 12 = p3
  generalize iEq (insn_Class0 a) 3 = p4
  generalize iLe 8 (insn_Class0 g) = p5
  generalize iEq g 51 = p6
  revert p1 p2 p3 p4 p5 p6
  decide

end Go.Proofs.Ytihmjmaabednjaa.PV
