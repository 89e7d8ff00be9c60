/-
  Views of registers of control; no condition.
-/
import Derived.Test.YtdfafnelmpflgaaLd
set_option linter.unusedVariables false
set_option linter.unusedSimpArgs false
namespace Go.Proofs.Ytdfafnelmpflgaa.PV
open Go Go.Ev

/-- What is written is read, by a mask. -/
theorem put_and (x v m : Int) : iAnd .u64 (sallyportref8_put0 x v m) m = iAnd .u64 v m := by
  unfold sallyportref8_put0
  apply W_inj (U_and _ _) (U_and _ _)
  simp only [W_and, W_or, W_andNot]
  apply bits64
  intro i hi
  simp only [BitVec.getLsbD_and, BitVec.getLsbD_or, BitVec.getLsbD_not, hi, decide_true, Bool.true_and]
  cases (W x).getLsbD i <;> cases (W v).getLsbD i <;> cases (W m).getLsbD i <;> rfl
theorem put_not (x v m : Int) : iAndNot .u64 (sallyportref8_put0 x v m) m = iAndNot .u64 x m := by
  unfold sallyportref8_put0
  apply W_inj (U_andNot _ _) (U_andNot _ _)
  simp only [W_and, W_or, W_andNot]
  apply bits64
  intro i hi
  simp only [BitVec.getLsbD_and, BitVec.getLsbD_or, BitVec.getLsbD_not, hi, decide_true, Bool.true_and]
  cases (W x).getLsbD i <;> cases (W v).getLsbD i <;> cases (W m).getLsbD i <;> rfl
/-- .. and what is beside the mask stays. -/
theorem put_beside (x v : Int) : iAnd .u64 (sallyportref8_put0 x v 1088) 544 = iAnd .u64 x 544 := by
  unfold sallyportref8_put0
  apply W_inj (U_and _ _) (U_and _ _)
  simp only [W_and, W_or, W_andNot]
  apply bits64
  intro i hi
  have hc : ∀ i, i < 64 → ((W 1088).getLsbD i && (W 544).getLsbD i) = false := by decide
  have := hc i hi
  simp only [BitVec.getLsbD_and, BitVec.getLsbD_or, BitVec.getLsbD_not, hi, decide_true, Bool.true_and]
  revert this
  cases (W x).getLsbD i <;> cases (W v).getLsbD i <;> cases (W 1088).getLsbD i <;> cases (W 544).getLsbD i <;> decide

theorem shifted (v : Int) : iShr .u64 (iAnd .u64 (iShl .u64 v 1) 1088) 1 = iAnd .u64 v 544 := by
  rw [show (1 : Int) = ((1 : Nat) : Int) from rfl]
  apply W_inj (U_shr (U_and _ _) 1 (by decide)) (U_and _ _)
  rw [W_shr (U_and _ _) 1 (by decide), W_and, W_and, W_shl v 1 (by decide)]
  apply bits64
  intro i hi
  simp only [BitVec.getLsbD_and, BitVec.getLsbD_ushiftRight, BitVec.getLsbD_shiftLeft]
  have hc : ∀ i, i < 64 → (W 1088).getLsbD (1 + i) = (W 544).getLsbD i := by decide
  rw [hc i hi, show 1 + i - 1 = i by omega]
  have h63 : (W 544).getLsbD i = true → i < 63 := by
    have : ∀ i, i < 64 → (W 544).getLsbD i = true → i < 63 := by decide
    exact this i hi
  cases hb : (W 544).getLsbD i with
  | false => simp
  | true =>
    have := h63 hb
    have h1 : decide (1 + i < 64) = true := decide_eq_true (by omega)
    have h2 : decide (1 + i < 1) = false := decide_eq_false (by omega)
    simp only [h1, h2, Bool.not_false, Bool.true_and, Bool.and_true]

theorem csrViews_true (X : Nat → Int) (PC L : Int) (V : Bool) (C : Nat → Int) (D v : Int) : sallyportlaw8_CsrViews0 X PC L V C D v = true := by
  unfold sallyportlaw8_CsrViews0
  have w256 : ∀ i, csr_Write4 X PC L V C D 256 v i = bif i == 0 then sallyportref8_put0 (C 0) v 786722 else C i := fun i => (write4_eq X PC L V C D 256 v i).symm.trans (by kernel_rfl)
  have w516 : ∀ i, csr_Write4 X PC L V C D 516 v i = bif i == 3 then sallyportref8_put0 (C 3) (iShl .u64 v 1) 1088 else C i := fun i => (write4_eq X PC L V C D 516 v i).symm.trans (by kernel_rfl)
  have w3074 : ∀ i, csr_Write4 X PC L V C D 3074 v i = C i := fun i => by kernel_rfl
  have r256 : ∀ C, csr_Read0 X PC L V C D 256 = iAnd .u64 (C 0) 786722 := fun C => by kernel_rfl
  have r260 : ∀ C, csr_Read0 X PC L V C D 260 = iAnd .u64 (C 3) 544 := fun C => by kernel_rfl
  have r516 : ∀ C, csr_Read0 X PC L V C D 516 = iShr .u64 (iAnd .u64 (C 3) 1088) 1 := fun C => by kernel_rfl
  have s256 : ∀ C, csr_Read1 X PC L V C D 256 = true := fun C => by kernel_rfl
  have s260 : ∀ C, csr_Read1 X PC L V C D 260 = true := fun C => by kernel_rfl
  have s516 : ∀ C, csr_Read1 X PC L V C D 516 = true := fun C => by kernel_rfl
  have t256 : csr_Write6 X PC L V C D 256 v = true := by kernel_rfl
  have t516 : csr_Write6 X PC L V C D 516 v = true := by kernel_rfl
  have t3074 : csr_Write6 X PC L V C D 3074 v = true := by kernel_rfl
  simp only [write0, write1, write2, write3, write5, w256, w516, w3074, r256, r260, r516, s256, s260, s516, t256, t516, t3074, iEq_self, beq_self_eq_true, cond_true, put_and, put_not, put_beside, shifted]
  have ha : ∀ m, ((List.range m).all fun _ => true) = true := fun m => by simp
  rw [ha, ha]
  rfl

end Go.Proofs.Ytdfafnelmpflgaa.PV
