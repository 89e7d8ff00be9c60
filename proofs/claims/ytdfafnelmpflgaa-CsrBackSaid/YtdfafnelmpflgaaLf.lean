/-
  What is written into a register of control is read; under the bounds of a byte.
-/
import Derived.Test.YtdfafnelmpflgaaLd
set_option linter.unusedVariables false
set_option linter.unusedSimpArgs false
namespace Go.Proofs.Ytdfafnelmpflgaa.PV
open Go Go.Ev

theorem own : ∀ n, n < 29 → iEq (csr_Number0 (n : Nat)) 256 = false ∧ iEq (csr_Number0 (n : Nat)) 260 = false ∧ iEq (csr_Number0 (n : Nat)) 516 = false ∧ iEq (csr_Number0 (n : Nat)) 3074 = false := by decide +kernel

section
variable (X : Nat → Int) (PC L : Int) (V : Bool) (C : Nat → Int) (D : Int)

theorem nonneg_nat (n : Nat) : iLe 0 (n : Int) = true := iLe_true.2 (Int.natCast_nonneg n)

theorem read0_at {n : Nat} (h : n < 29) : csr_Read0 X PC L V C D (csr_Number0 n) = C n := by
  obtain ⟨o1, o2, o3, o4⟩ := own n h
  unfold csr_Read0
  rw [o1, o2, o3, o4, (numbers n h).1, nonneg_nat]
  rfl
theorem read1_at {n : Nat} (h : n < 29) : csr_Read1 X PC L V C D (csr_Number0 n) = true := by
  obtain ⟨o1, o2, o3, o4⟩ := own n h
  unfold csr_Read1
  rw [o1, o2, o3, o4, (numbers n h).1, nonneg_nat]
  rfl
theorem write6_at {n : Nat} (h : n < 29) (v : Int) : csr_Write6 X PC L V C D (csr_Number0 n) v = true := by
  obtain ⟨o1, o2, o3, o4⟩ := own n h
  unfold csr_Write6
  rw [o1, o2, o3, o4, (numbers n h).1, iLt_not, nonneg_nat]
  rfl
theorem write4_at {n : Nat} (h : n < 29) (v : Int) (i : Nat) : csr_Write4 X PC L V C D (csr_Number0 n) v i =
    bif i == n then (bif iEq (n : Nat) 0 then sallyportref8_Mpp0 (sallyportref8_put0 (C n) v (csr_Mask0 n)) else sallyportref8_put0 (C n) v (csr_Mask0 n)) else C i := by
  rw [← write4_eq]
  unfold sallyportref8_Write4
  rw [index_eq, (numbers n h).1, nonneg_nat, mask_eq]
  simp only [cond_true, Int.toNat_natCast, beq_self_eq_true]
  cases iEq (n : Nat) 0 <;> cases i == n <;> rfl

theorem csrBack_true (a v : Int) (ha : 0 ≤ a ∧ a < 256) : sallyportlaw8_CsrBackG X PC L V C D a v = true ∧ sallyportlaw8_CsrBack0 X PC L V C D a v = true := by
  have e1 : iConv .i64 a = a := wrapI (by omega) (by omega)
  obtain ⟨m, rfl⟩ := Int.eq_ofNat_of_zero_le ha.1
  have e2 : iRem (m : Int) 29 = ((m % 29 : Nat) : Int) := by
    unfold iRem
    exact (Int.ofNat_tmod m 29).symm
  have hn : m % 29 < 29 := Nat.mod_lt _ (by decide)
  constructor
  · unfold sallyportlaw8_CsrBackG
    rw [e1, e2]
    have : iIn ((m % 29 : Nat) : Int) 29 = true := iIn_true.2 ⟨Int.natCast_nonneg _, by omega⟩
    rw [this]
    simp
  · unfold sallyportlaw8_CsrBack0
    rw [e1, e2]
    generalize m % 29 = n at hn
    have hput : iOr .u64 (iAndNot .u64 (C n) (csr_Mask0 n)) (iAnd .u64 v (csr_Mask0 n)) = sallyportref8_put0 (C n) v (csr_Mask0 n) := rfl
    simp only [write0, write1, write2, write3, write5, read0_at _ _ _ _ _ _ hn, read1_at _ _ _ _ _ _ hn, write6_at _ _ _ _ _ _ hn, write4_at _ _ _ _ _ _ hn, (numbers n hn).1, Int.toNat_natCast, beq_self_eq_true, iEq_self, cond_true, hput]
    have ha : ∀ m, ((List.range m).all fun _ => true) = true := fun m => by simp
    generalize sallyportref8_put0 (C n) v (csr_Mask0 n) = p
    have hm : sallyportref8_Mpp0 p = bif iEq (iAnd .u64 (iShr .u64 p 11) 3) 2 then iAndNot .u64 p 6144 else p := rfl
    rw [hm]
    cases iEq (n : Nat) 0 with
    | false => simp only [cond_false, iEq_self, cond_true, ha, Bool.and_true]
    | true =>
      cases iEq (iAnd .u64 (iShr .u64 p 11) 3) 2 with
      | false => simp only [cond_false, iEq_self, cond_true, ha, Bool.and_true]
      | true => simp only [cond_false, iEq_self, cond_true, ha, Bool.and_true]

end
end Go.Proofs.Ytdfafnelmpflgaa.PV
