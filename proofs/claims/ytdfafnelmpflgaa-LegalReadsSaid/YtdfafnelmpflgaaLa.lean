/-
  Laws on the numbers of the registers of control; no condition.
-/
import Derived.Test.YtdfafnelmpflgaaFb
set_option linter.unusedVariables false
set_option linter.unusedSimpArgs false
namespace Go.Proofs.Ytdfafnelmpflgaa.PV
open Go Go.Ev

theorem numbers : ∀ n, n < 29 → csr_Index0 (csr_Number0 (n : Nat)) = (n : Nat) ∧ iLe 0 (csr_Number0 (n : Nat)) = true ∧ iEq (csr_Number0 (n : Nat)) (-1) = false := by decide +kernel

theorem within_iff (a : Int) : (bif iLe 0 a then iLt a 29 else false) = true ↔ 0 ≤ a ∧ a < 29 := by
  cases h : iLe 0 a with
  | true => rw [cond_true, iLt_true]; rw [iLe_true] at h; omega
  | false => rw [cond_false]; rw [iLe_false] at h; exact ⟨fun h => (by cases h), fun h => by omega⟩

theorem out_true {a : Int} (h : ¬ (0 ≤ a ∧ a < 29)) : (bif iLt a 0 then true else iLe 29 a) = true := by
  cases h1 : iLt a 0 with
  | true => rfl
  | false => rw [cond_false, iLe_true]; rw [iLt_false] at h1; omega

theorem number_out {a : Int} (h : ¬ (0 ≤ a ∧ a < 29)) : csr_Number0 a = -1 := by
  unfold csr_Number0
  rw [out_true h, cond_true]
theorem mask_out {a : Int} (h : ¬ (0 ≤ a ∧ a < 29)) : csr_Mask0 a = 0 := by
  unfold csr_Mask0
  rw [out_true h, cond_true]

theorem index_number (a : Int) : csr_Index0 a = -1 ∨ csr_Number0 (csr_Index0 a) = a := by
  show (fun i : Int => i = -1 ∨ csr_Number0 i = a) (csr_Index0 a)
  unfold csr_Index0
  repeat' (refine cond_split (p := fun i : Int => i = -1 ∨ csr_Number0 i = a) (fun h => ?_) (fun _ => ?_))
  all_goals first | exact .inl rfl | exact .inr (by rw [iEq_true] at h; rw [← h]; kernel_rfl)

theorem csrNumbers_true (a b : Int) : sallyportlaw8_CsrNumbers0 a b = true := by
  unfold sallyportlaw8_CsrNumbers0
  have e1 : (bif iEq (csr_Index0 a) (-1) then true else iEq (csr_Number0 (csr_Index0 a)) a) = true := by
    rcases index_number a with h | h
    · rw [h]; rfl
    · rw [iEq_true.2 h]; cases iEq (csr_Index0 a) (-1) <;> rfl
  have e2 : (iEq (csr_Number0 a) (csr_Number0 b) == bif iEq a b then true else bif iEq (csr_Number0 a) (-1) then iEq (csr_Number0 b) (-1) else false) = true := by
    by_cases ha : 0 ≤ a ∧ a < 29
    · obtain ⟨n, rfl⟩ := Int.eq_ofNat_of_zero_le ha.1
      obtain ⟨f1, f2, f3⟩ := numbers n (by omega)
      rw [f3, cond_false]
      by_cases hb : 0 ≤ b ∧ b < 29
      · obtain ⟨m, rfl⟩ := Int.eq_ofNat_of_zero_le hb.1
        obtain ⟨g1, g2, g3⟩ := numbers m (by omega)
        have : iEq (csr_Number0 (n : Nat)) (csr_Number0 (m : Nat)) = iEq (n : Nat) (m : Nat) := by
          rw [Bool.eq_iff_iff, iEq_true, iEq_true]
          exact ⟨fun h => by rw [← f1, h, g1], fun h => by rw [h]⟩
        rw [this]
        cases iEq (n : Nat) (m : Nat) <;> rfl
      · rw [number_out hb, f3]
        have : iEq (n : Nat) b = false := by rw [iEq_false]; intro h; rw [← h] at hb; exact hb ha
        rw [this]; rfl
    · rw [number_out ha]
      by_cases hb : 0 ≤ b ∧ b < 29
      · obtain ⟨m, rfl⟩ := Int.eq_ofNat_of_zero_le hb.1
        obtain ⟨g1, g2, g3⟩ := numbers m (by omega)
        have : iEq a (m : Nat) = false := by rw [iEq_false]; intro h; rw [h] at ha; exact ha hb
        rw [this, iEq_comm, g3]; rfl
      · rw [number_out hb]
        cases iEq a b <;> rfl
  rw [e1, e2]
  by_cases ha : 0 ≤ a ∧ a < 29
  · rw [(within_iff a).2 ha]
    obtain ⟨n, rfl⟩ := Int.eq_ofNat_of_zero_le ha.1
    obtain ⟨f1, f2, f3⟩ := numbers n (by omega)
    rw [f1, f2, iNe_not, iEq_self]
    rfl
  · have : (bif iLe 0 a then iLt a 29 else false) = false := by rw [← Bool.not_eq_true, within_iff]; exact ha
    rw [this, number_out ha, mask_out ha]
    rfl

end Go.Proofs.Ytdfafnelmpflgaa.PV
