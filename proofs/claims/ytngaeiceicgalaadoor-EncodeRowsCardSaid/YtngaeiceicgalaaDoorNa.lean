/-
  What the program and the document call an instruction is the same; no condition.
-/
import Derived.Test.YtngaeiceicgalaaDoorGa
set_option linter.unusedVariables false
set_option linter.unusedSimpArgs false
namespace Go.Proofs.YtngaeiceicgalaaDoor.PV
open Go Go.Ev

theorem class_out {op : Int} (h : ¬ (1 ≤ op ∧ op < 70)) : insn_Class0 op = 0 := by
  have : (bif iLt op 1 then true else iLe 70 op) = true := by
    cases h1 : iLt op 1 with
    | true => rfl
    | false => rw [cond_false, iLe_true]; rw [iLt_false] at h1; omega
  unfold insn_Class0
  rw [this, cond_true]

theorem class_out' {op : Int} (h : ¬ (1 ≤ op ∧ op < 70)) : sallyportref3_Class0 op = 0 := by
  have : (bif iLt op 1 then true else iLe 70 op) = true := by
    cases h1 : iLt op 1 with
    | true => rfl
    | false => rw [cond_false, iLe_true]; rw [iLt_false] at h1; omega
  unfold sallyportref3_Class0
  rw [this, cond_true]

theorem facts : ∀ n, n < 70 → 1 ≤ n → sallyportref3_Class0 (n : Nat) = insn_Class0 (n : Nat) ∧ sallyportref3_Parts0 (n : Nat) = insn_Of0 (n : Nat) ∧ sallyportref3_Parts1 (n : Nat) = insn_Of2 (n : Nat) ∧
    sallyportref3_Parts2 (n : Nat) = insn_Of3 (n : Nat) ∧ sallyportref3_Parts3 (n : Nat) = insn_Of1 (n : Nat) ∧ sallyportref3_Parts4 (n : Nat) = iLt 0 (insn_Of6 (n : Nat)) ∧ iEq (insn_Of6 (n : Nat)) 0 = !iLt 0 (insn_Of6 (n : Nat)) ∧
    iEq (insn_Class0 (n : Nat)) 0 = false := by decide +kernel

theorem class_eq (op : Int) : sallyportref3_Class0 op = insn_Class0 op := by
  by_cases h : 1 ≤ op ∧ op < 70
  · obtain ⟨n, rfl⟩ := Int.eq_ofNat_of_zero_le (show 0 ≤ op by omega)
    exact (facts n (by omega) (by omega)).1
  · rw [class_out h, class_out' h]

set_option maxRecDepth 10000 in
theorem inumber_eq (rd rs1 rs2 imm csr : Int) : ∀ n : Nat, n < 70 →
    (bif iLt 0 (insn_Of6 (n : Nat)) then sallyportref3_number0 (n : Nat) rd rs1 rs2 imm csr else true) = (bif iLt 0 (insn_Of6 (n : Nat)) then sallyportref3_within0 imm (insn_Of4 (n : Nat)) (insn_Of5 (n : Nat)) (insn_Of6 (n : Nat)) else true) := by
  intro n hn
  iterate 70 (rcases n with _ | n; (· kernel_rfl))
  omega

theorem is_eq (op rd rs1 rs2 imm csr : Int) : sallyportref3_Is0 op rd rs1 rs2 imm csr = insn_Is0 op rd rs1 rs2 imm csr := by
  by_cases h : 1 ≤ op ∧ op < 70
  · obtain ⟨n, rfl⟩ := Int.eq_ofNat_of_zero_le (show 0 ≤ op by omega)
    obtain ⟨f1, f2, f3, f4, f5, f6, f7, f8⟩ := facts n (by omega) (by omega)
    have hnum := inumber_eq rd rs1 rs2 imm csr n (by omega)
    unfold insn_Is0 sallyportref3_Is0
    rw [f1, f2, f3, f4, f5, f6, f7, f8]
    have hcsr : (bif iNe csr 0 then bif bif !insn_Of1 (n : Nat) then true else iLt csr 0 then true else iLt 4095 csr else false) = !insn_field0 (insn_Of1 (n : Nat)) csr 4096 := by
      unfold insn_field0
      have a1 : iLt 4095 csr = !iLt csr 4096 := by rw [Bool.eq_iff_iff, Bool.not_eq_true', iLt_true, iLt_false]; omega
      rw [iNe_not, a1]
      cases h0 : iEq csr 0 with
      | true => rfl
      | false =>
        have a2 : iLt csr 0 = !iLt 0 csr := by rw [iEq_false] at h0; rw [Bool.eq_iff_iff, Bool.not_eq_true', iLt_true, iLt_false]; omega
        rw [a2]
        cases insn_Of1 (n : Nat) <;> cases iLt 0 csr <;> cases iLt csr 4096 <;> rfl
    rw [hcsr]
    have e1 : ∀ a b, sallyportref3_reg0 a b = insn_field0 b a 32 := fun a b => rfl
    rw [e1, e1, e1]
    cases hS : iLt 0 (insn_Of6 (n : Nat)) with
    | false =>
      rw [iNe_not]
      cases insn_field0 (insn_Of0 (n : Nat)) rd 32 <;> cases insn_field0 (insn_Of2 (n : Nat)) rs1 32 <;> cases insn_field0 (insn_Of3 (n : Nat)) rs2 32 <;> cases insn_field0 (insn_Of1 (n : Nat)) csr 4096 <;> cases iEq imm 0 <;> rfl
    | true =>
      rw [hS, cond_true, cond_true] at hnum
      rw [hnum]
      unfold sallyportref3_within0
      rw [iLt_not imm, iLt_not _ imm, iNe_not, iNe_not]
      cases insn_field0 (insn_Of0 (n : Nat)) rd 32 <;> cases insn_field0 (insn_Of2 (n : Nat)) rs1 32 <;> cases insn_field0 (insn_Of3 (n : Nat)) rs2 32 <;> cases insn_field0 (insn_Of1 (n : Nat)) csr 4096 <;>
        cases iLe (insn_Of4 (n : Nat)) imm <;> cases iLe imm (insn_Of5 (n : Nat)) <;> cases iEq (iRem imm (insn_Of6 (n : Nat))) 0 <;> rfl
  · unfold insn_Is0 sallyportref3_Is0
    rw [class_out h, class_out' h]
    rfl


end Go.Proofs.YtngaeiceicgalaaDoor.PV
