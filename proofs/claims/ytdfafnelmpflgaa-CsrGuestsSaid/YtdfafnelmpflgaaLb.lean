/-
  What stands for a register of control in a guest; no condition.
-/
import Derived.Test.YtdfafnelmpflgaaFb
set_option linter.unusedVariables false
set_option linter.unusedSimpArgs false
namespace Go.Proofs.Ytdfafnelmpflgaa.PV
open Go Go.Ev

theorem redirect_other {a : Int} (h : a ≠ 256 ∧ a ≠ 260 ∧ a ≠ 261 ∧ a ≠ 320 ∧ a ≠ 321 ∧ a ≠ 322 ∧ a ≠ 323 ∧ a ≠ 384) : csr_Redirect0 a = a := by
  obtain ⟨h1, h2, h3, h4, h5, h6, h7, h8⟩ := h
  unfold csr_Redirect0
  rw [iEq_false.2 h1, iEq_false.2 h2, iEq_false.2 h3, iEq_false.2 h4, iEq_false.2 h5, iEq_false.2 h6, iEq_false.2 h7, iEq_false.2 h8]
  rfl

def three (b : Bool) : Bool := bif bif bif b then true else false then true else false then true else false

theorem apart_544 (x y : Int) : iAnd .u64 (iOr .u64 (iAndNot .u64 x 1088) (iAnd .u64 y 1088)) 544 = iAnd .u64 x 544 := by
  rw [iAnd_W, iAnd_W x 544, W_or, W_andNot, W_and]
  congr 2
  apply bits64
  intro i hi
  have hc : ∀ i, i < 64 → ((W 1088).getLsbD i && (W 544).getLsbD i) = false := by decide
  have := hc i hi
  simp only [BitVec.getLsbD_and, BitVec.getLsbD_or, BitVec.getLsbD_not, hi, decide_true, Bool.true_and]
  revert this
  cases (W x).getLsbD i <;> cases (W y).getLsbD i <;> cases (W 1088).getLsbD i <;> cases (W 544).getLsbD i <;> decide

theorem csrGuests_true (X : Nat → Int) (PC L : Int) (V : Bool) (C : Nat → Int) (D n v : Int) : sallyportlaw8_CsrGuests0 X PC L V C D n v = true := by
  have key : ∀ m : Int, (n = m → sallyportlaw8_CsrGuests0 X PC L V C D m v = true) → n = m → sallyportlaw8_CsrGuests0 X PC L V C D n v = true := fun m h e => by rw [e]; exact h e
  by_cases h1 : n = 256
  · exact key _ (fun _ => Eq.trans (b := three (iEq (csr_Read0 X PC L V C D 256) (csr_Read0 X PC L V C D 256))) (by kernel_rfl) (by rw [iEq_self]; rfl)) h1
  by_cases h2 : n = 260
  · exact key _ (fun _ => Eq.trans (b := three (iEq (iAnd .u64 (C 3) 544) (iAnd .u64 (iOr .u64 (iAndNot .u64 (C 3) 1088) (iAnd .u64 (iShl .u64 v 1) 1088)) 544))) (by kernel_rfl) (by rw [apart_544, iEq_self]; rfl)) h2
  by_cases h3 : n = 261
  · exact key _ (fun _ => Eq.trans (b := three (iEq (csr_Read0 X PC L V C D 261) (csr_Read0 X PC L V C D 261))) (by kernel_rfl) (by rw [iEq_self]; rfl)) h3
  by_cases h4 : n = 320
  · exact key _ (fun _ => Eq.trans (b := three (iEq (csr_Read0 X PC L V C D 320) (csr_Read0 X PC L V C D 320))) (by kernel_rfl) (by rw [iEq_self]; rfl)) h4
  by_cases h5 : n = 321
  · exact key _ (fun _ => Eq.trans (b := three (iEq (csr_Read0 X PC L V C D 321) (csr_Read0 X PC L V C D 321))) (by kernel_rfl) (by rw [iEq_self]; rfl)) h5
  by_cases h6 : n = 322
  · exact key _ (fun _ => Eq.trans (b := three (iEq (csr_Read0 X PC L V C D 322) (csr_Read0 X PC L V C D 322))) (by kernel_rfl) (by rw [iEq_self]; rfl)) h6
  by_cases h7 : n = 323
  · exact key _ (fun _ => Eq.trans (b := three (iEq (csr_Read0 X PC L V C D 323) (csr_Read0 X PC L V C D 323))) (by kernel_rfl) (by rw [iEq_self]; rfl)) h7
  by_cases h8 : n = 384
  · exact key _ (fun _ => Eq.trans (b := three (iEq (csr_Read0 X PC L V C D 384) (csr_Read0 X PC L V C D 384))) (by kernel_rfl) (by rw [iEq_self]; rfl)) h8
  have hr := redirect_other ⟨h1, h2, h3, h4, h5, h6, h7, h8⟩
  unfold sallyportlaw8_CsrGuests0
  rw [hr, hr, iNe_not, iEq_self]
  rfl

end Go.Proofs.Ytdfafnelmpflgaa.PV
