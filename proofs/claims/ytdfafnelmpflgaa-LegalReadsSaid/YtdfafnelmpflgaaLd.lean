/-
  Registers of control: the program's and the document's are the same; no condition.
-/
import Derived.Test.YtdfafnelmpflgaaLa
set_option linter.unusedVariables false
set_option linter.unusedSimpArgs false
namespace Go.Proofs.Ytdfafnelmpflgaa.PV
open Go Go.Ev

theorem index_eq (n : Int) : sallyportref8_Index0 n = csr_Index0 n := by kernel_rfl
theorem redirect_eq (n : Int) : sallyportref8_Redirect0 n = csr_Redirect0 n := by kernel_rfl
theorem numbers' : ∀ n, n < 29 → sallyportref8_Number0 (n : Nat) = csr_Number0 (n : Nat) ∧ sallyportref8_Mask0 (n : Nat) = csr_Mask0 (n : Nat) := by decide +kernel

theorem number_eq (a : Int) : sallyportref8_Number0 a = csr_Number0 a := by
  by_cases h : 0 ≤ a ∧ a < 29
  · obtain ⟨n, rfl⟩ := Int.eq_ofNat_of_zero_le h.1
    exact (numbers' n (by omega)).1
  · rw [number_out h]; unfold sallyportref8_Number0; rw [out_true h, cond_true]

theorem mask_eq (a : Int) : sallyportref8_Mask0 a = csr_Mask0 a := by
  by_cases h : 0 ≤ a ∧ a < 29
  · obtain ⟨n, rfl⟩ := Int.eq_ofNat_of_zero_le h.1
    exact (numbers' n (by omega)).2
  · rw [mask_out h]
    have hk : ∀ k : Int, 0 ≤ k → k < 29 → iEq a k = false := fun k h1 h2 => by rw [iEq_false]; intro e; subst e; exact h ⟨h1, h2⟩
    unfold sallyportref8_Mask0
    simp only [hk 0 (by decide) (by decide), hk 1 (by decide) (by decide), hk 2 (by decide) (by decide), hk 3 (by decide) (by decide), hk 4 (by decide) (by decide), hk 5 (by decide) (by decide), hk 6 (by decide) (by decide),
      hk 7 (by decide) (by decide), hk 8 (by decide) (by decide), hk 9 (by decide) (by decide), hk 10 (by decide) (by decide), hk 11 (by decide) (by decide), hk 12 (by decide) (by decide), hk 13 (by decide) (by decide),
      hk 14 (by decide) (by decide), hk 15 (by decide) (by decide), hk 16 (by decide) (by decide), hk 17 (by decide) (by decide), hk 18 (by decide) (by decide), hk 19 (by decide) (by decide), hk 20 (by decide) (by decide),
      hk 21 (by decide) (by decide), hk 22 (by decide) (by decide), hk 23 (by decide) (by decide), hk 24 (by decide) (by decide), hk 25 (by decide) (by decide), hk 26 (by decide) (by decide), hk 27 (by decide) (by decide),
      hk 28 (by decide) (by decide), cond_false]
    rw [out_true h, cond_true]

section
variable (X : Nat → Int) (PC L : Int) (V : Bool) (C : Nat → Int) (D : Int)

/-- The four numbers that are no registers of their own. -/
theorem four (p : Int → Prop) (n : Int) (h1 : p 256) (h2 : p 260) (h3 : p 516) (h4 : p 3074) (h : n ≠ 256 → n ≠ 260 → n ≠ 516 → n ≠ 3074 → p n) : p n := by
  by_cases e1 : n = 256
  · rw [e1]; exact h1
  by_cases e2 : n = 260
  · rw [e2]; exact h2
  by_cases e3 : n = 516
  · rw [e3]; exact h3
  by_cases e4 : n = 3074
  · rw [e4]; exact h4
  exact h e1 e2 e3 e4

theorem read0_eq (n : Int) : sallyportref8_Read0 X PC L V C D n = csr_Read0 X PC L V C D n := by
  refine four (fun n => sallyportref8_Read0 X PC L V C D n = csr_Read0 X PC L V C D n) n (by kernel_rfl) (by kernel_rfl) (by kernel_rfl) (by kernel_rfl) fun h1 h2 h3 h4 => ?_
  unfold sallyportref8_Read0 csr_Read0
  rw [iEq_false.2 h1, iEq_false.2 h2, iEq_false.2 h3, iEq_false.2 h4, index_eq]
  rfl
theorem read1_eq (n : Int) : sallyportref8_Read1 X PC L V C D n = csr_Read1 X PC L V C D n := by
  refine four (fun n => sallyportref8_Read1 X PC L V C D n = csr_Read1 X PC L V C D n) n (by kernel_rfl) (by kernel_rfl) (by kernel_rfl) (by kernel_rfl) fun h1 h2 h3 h4 => ?_
  unfold sallyportref8_Read1 csr_Read1
  rw [iEq_false.2 h1, iEq_false.2 h2, iEq_false.2 h3, iEq_false.2 h4, index_eq]
  rfl

theorem with0 (n m v : Int) (i : Nat) : csr_With0 X PC L V C D n m v i = X i := by unfold csr_With0; rw [Bool.cond_self]
theorem with1 (n m v : Int) : csr_With1 X PC L V C D n m v = PC := by unfold csr_With1; rw [Bool.cond_self]
theorem with2 (n m v : Int) : csr_With2 X PC L V C D n m v = L := by unfold csr_With2; rw [Bool.cond_self]
theorem with3 (n m v : Int) : csr_With3 X PC L V C D n m v = V := by unfold csr_With3; rw [Bool.cond_self]
theorem with5 (n m v : Int) : csr_With5 X PC L V C D n m v = D := by unfold csr_With5; rw [Bool.cond_self]

theorem write0 (n v : Int) (i : Nat) : csr_Write0 X PC L V C D n v i = X i := by unfold csr_Write0; simp only [with0, Bool.cond_self]
theorem write1 (n v : Int) : csr_Write1 X PC L V C D n v = PC := by unfold csr_Write1; simp only [with1, Bool.cond_self]
theorem write2 (n v : Int) : csr_Write2 X PC L V C D n v = L := by unfold csr_Write2; simp only [with2, Bool.cond_self]
theorem write3 (n v : Int) : csr_Write3 X PC L V C D n v = V := by unfold csr_Write3; simp only [with3, Bool.cond_self]
theorem write5 (n v : Int) : csr_Write5 X PC L V C D n v = D := by unfold csr_Write5; simp only [with5, Bool.cond_self]
theorem write0' (n v : Int) (i : Nat) : sallyportref8_Write0 X PC L V C D n v i = X i := by unfold sallyportref8_Write0; simp only [Bool.cond_self]
theorem write1' (n v : Int) : sallyportref8_Write1 X PC L V C D n v = PC := by unfold sallyportref8_Write1; simp only [Bool.cond_self]
theorem write2' (n v : Int) : sallyportref8_Write2 X PC L V C D n v = L := by unfold sallyportref8_Write2; simp only [Bool.cond_self]
theorem write3' (n v : Int) : sallyportref8_Write3 X PC L V C D n v = V := by unfold sallyportref8_Write3; simp only [Bool.cond_self]
theorem write5' (n v : Int) : sallyportref8_Write5 X PC L V C D n v = D := by unfold sallyportref8_Write5; simp only [Bool.cond_self]

theorem write6_eq (n v : Int) : sallyportref8_Write6 X PC L V C D n v = csr_Write6 X PC L V C D n v := by
  refine four (fun n => sallyportref8_Write6 X PC L V C D n v = csr_Write6 X PC L V C D n v) n (by kernel_rfl) (by kernel_rfl) (by kernel_rfl) (by kernel_rfl) fun h1 h2 h3 h4 => ?_
  unfold sallyportref8_Write6 csr_Write6
  rw [iEq_false.2 h1, iEq_false.2 h2, iEq_false.2 h3, iEq_false.2 h4, index_eq, iLt_not, Bool.cond_self]
  cases iLe 0 (csr_Index0 n) <;> rfl

theorem mpp_bits (c v m : Int) (hm : ∀ k, k = 11 ∨ k = 12 → (W m).getLsbD k = true) :
    sallyportref8_Mpp0 (sallyportref8_put0 c v m) = bif iEq (word_Bits0 (iAnd .u64 v m) 11 2) 2 then iOr .u64 (iAndNot .u64 c m) (word_Set0 (iAnd .u64 v m) 11 2 0) else iOr .u64 (iAndNot .u64 c m) (iAnd .u64 v m) := by
  have e1 : word_Bits0 (iAnd .u64 v m) 11 2 = iAnd .u64 (iShr .u64 (iAnd .u64 v m) 11) 3 := by kernel_rfl
  have e2 : word_Set0 (iAnd .u64 v m) 11 2 0 = iOr .u64 (iAndNot .u64 (iAnd .u64 v m) 6144) 0 := by kernel_rfl
  have e3 : iAnd .u64 (iShr .u64 (iOr .u64 (iAndNot .u64 c m) (iAnd .u64 v m)) 11) 3 = iAnd .u64 (iShr .u64 (iAnd .u64 v m) 11) 3 := by
    apply W_inj (U_and _ _) (U_and _ _)
    rw [W_and, W_and, show (11 : Int) = ((11 : Nat) : Int) from rfl, W_shr (U_or _ _) 11 (by decide), W_shr (U_and _ _) 11 (by decide), W_or, W_andNot, W_and]
    apply bits64
    intro i hi
    simp only [BitVec.getLsbD_and, BitVec.getLsbD_or, BitVec.getLsbD_not, BitVec.getLsbD_ushiftRight]
    have h3 : ∀ i, i < 64 → (W 3).getLsbD i = true → 11 + i = 11 ∨ 11 + i = 12 := by decide
    cases hb : (W 3).getLsbD i with
    | false => simp
    | true =>
      rw [hm _ (h3 i hi hb)]
      simp
  unfold sallyportref8_Mpp0 sallyportref8_put0
  rw [e1, e2, e3]
  have e4 : iAndNot .u64 (iOr .u64 (iAndNot .u64 c m) (iAnd .u64 v m)) 6144 = iOr .u64 (iAndNot .u64 c m) (iOr .u64 (iAndNot .u64 (iAnd .u64 v m) 6144) 0) := by
    apply W_inj (U_andNot _ _) (U_or _ _)
    simp only [W_andNot, W_or, W_and]
    apply bits64
    intro i hi
    simp only [BitVec.getLsbD_and, BitVec.getLsbD_or, BitVec.getLsbD_not, hi, decide_true, Bool.true_and]
    have h3 : ∀ i, i < 64 → ((W 6144).getLsbD i = true → i = 11 ∨ i = 12) ∧ (W 0).getLsbD i = false := by decide
    obtain ⟨h3, h0⟩ := h3 i hi
    rw [h0]
    cases hb : (W 6144).getLsbD i with
    | false => simp
    | true =>
      rw [hm _ (h3 hb)]
      simp
  rw [e4]

theorem write4_eq (n v : Int) (i : Nat) : sallyportref8_Write4 X PC L V C D n v i = csr_Write4 X PC L V C D n v i := by
  refine four (fun n => sallyportref8_Write4 X PC L V C D n v i = csr_Write4 X PC L V C D n v i) n ?_ (by kernel_rfl) (by kernel_rfl) (by kernel_rfl) fun h1 h2 h3 h4 => ?_
  · show sallyportref8_Write4 X PC L V C D 256 v i = csr_Write4 X PC L V C D 256 v i
    have e : csr_Write4 X PC L V C D 256 v i = bif iEq (iAnd .u64 (iShr .u64 (iAnd .u64 v 786722) 11) 3) 2 then
        (bif i == 0 then iOr .u64 (iAndNot .u64 (C 0) 786722) (word_Set0 (iAnd .u64 v 786722) 11 2 0) else C i) else (bif i == 0 then sallyportref8_put0 (C 0) v 786722 else C i) := by kernel_rfl
    have e0 : iAnd .u64 (iShr .u64 (iAnd .u64 v 786722) 11) 3 = 0 := by
      apply W_inj (U_and _ _) ⟨by decide, by decide⟩
      rw [W_and, show (11 : Int) = ((11 : Nat) : Int) from rfl, W_shr (U_and _ _) 11 (by decide), W_and]
      apply bits64
      intro i hi
      simp only [BitVec.getLsbD_and, BitVec.getLsbD_ushiftRight]
      have hc : ∀ i, i < 64 → ((W 786722).getLsbD (11 + i) && (W 3).getLsbD i) = false ∧ (W 0).getLsbD i = false := by decide
      obtain ⟨h1, h2⟩ := hc i hi
      rw [h2, Bool.and_assoc, h1, Bool.and_false]
    rw [e, e0]
    exact (by kernel_rfl : sallyportref8_Write4 X PC L V C D 256 v i = bif iEq 0 2 then (bif i == 0 then iOr .u64 (iAndNot .u64 (C 0) 786722) (word_Set0 (iAnd .u64 v 786722) 11 2 0) else C i) else (bif i == 0 then sallyportref8_put0 (C 0) v 786722 else C i))
  · unfold sallyportref8_Write4 csr_Write4
    rw [iEq_false.2 h1, iEq_false.2 h2, iEq_false.2 h3, iEq_false.2 h4, index_eq, iLt_not, mask_eq]
    simp only [cond_false]
    cases hk : iLe 0 (csr_Index0 n) with
    | false => rfl
    | true =>
      simp only [Bool.not_true, cond_false, cond_true, beq_self_eq_true]
      cases h0 : iEq (csr_Index0 n) 0 with
      | false => unfold csr_With4; rw [h0]; rfl
      | true =>
        rw [iEq_true] at h0
        rw [h0]
        have hm : ∀ k, k = 11 ∨ k = 12 → (W (csr_Mask0 0)).getLsbD k = true := by
          intro k hk
          rcases hk with rfl | rfl <;> decide +kernel
        show (bif i == 0 then _ else _) = _
        have := mpp_bits (C 0) v (csr_Mask0 0) hm
        unfold csr_With4
        rw [iEq_self, cond_true]
        show (bif i == 0 then sallyportref8_Mpp0 (sallyportref8_put0 (C 0) v (csr_Mask0 0)) else (bif i == 0 then _ else C i)) = (bif iEq (word_Bits0 (iAnd .u64 v (csr_Mask0 0)) 11 2) 2 then (bif i == 0 then _ else C i) else (bif i == 0 then _ else C i))
        rw [this]
        cases i == 0 <;> cases iEq (word_Bits0 (iAnd .u64 v (csr_Mask0 0)) 11 2) 2 <;> rfl

theorem csrTells_true (n k v : Int) (a4 a5 : Bool) : sallyportlaw8_CsrTells0 X PC L V C D n k v a4 a5 = true := by
  unfold sallyportlaw8_CsrTells0
  have hp : sallyportref8_Pending0 X PC L V C D a4 a5 = csr_Pending0 X PC L V C D a4 a5 := by kernel_rfl
  simp only [read0_eq, read1_eq, write0, write1, write2, write3, write5, write0', write1', write2', write3', write5', write4_eq, write6_eq, index_eq, number_eq, mask_eq, redirect_eq, iEq_self, beq_self_eq_true, cond_true, Bool.and_true, Bool.true_and]
  have ha : ∀ m, ((List.range m).all fun _ => true) = true := fun m => by simp
  rw [ha, ha, hp, iEq_self]
  rfl

end
end Go.Proofs.Ytdfafnelmpflgaa.PV
