/-
  Out of a guest into its supervisors and back: TrapHost, TrapGuest. No condition.
-/
import Derived.Test.YtjnpaegoobclfaaLc
import Derived.Test.YtjnpaegoobclfaaFd
set_option linter.unusedVariables false
set_option linter.unusedSimpArgs false
namespace Go.Proofs.Ytjnpaegoobclfaa.PV
open Go Go.Ev

section
variable (X : Nat → Int) (PC L : Int) (V : Bool) (C : Nat → Int) (D : Int) (c v p : Int) (g : Bool)

theorem lowI_U (x l : Int) : U (lowI x l) := set_U _ _ _
theorem lowI_bit (x l : Int) (b : Nat) (hb : b < 64) : (W (lowI x l)).getLsbD b = bif 1 == b then false else bif 5 == b then (W x).getLsbD 1 else bif 8 == b then iEq (iAnd .i64 l 1) 1 else (W x).getLsbD b := by
  unfold lowI
  rw [set_bit _ _ _ _ t1 hb, set_bit _ _ _ _ t5 hb, set_bit _ _ _ _ t8 hb, show (1 : Int) = ((1 : Nat) : Int) from rfl, bitI_of (set_U _ _ _) 1 (by decide), set_bit _ _ _ _ t8 (by decide)]
  rfl

/-- A status without its bit 22, behind a trap of a supervisor. -/
theorem low_22 (x l : Int) : bitI (lowI (iAndNot .u64 x 4194304) l) 22 = false := by
  rw [show (22 : Int) = ((22 : Nat) : Int) from rfl, bitI_of (lowI_U _ _) 22 (by decide), lowI_bit _ _ _ (by decide)]
  show (W (iAndNot .u64 x 4194304)).getLsbD 22 = false
  have : (W 4194304).getLsbD 22 = true := by decide
  rw [andn_bit _ _ _ (by decide), this]; simp
theorem low_8 (x l : Int) (hl : l = 0 ∨ l = 1) : iConv .i64 (iAnd .u64 (iShr .u64 (lowI x l) 8) 1) = l := by
  rw [show (8 : Int) = ((8 : Nat) : Int) from rfl, low_bit (lowI_U _ _) 8 (by decide), lowI_bit _ _ _ (by decide)]
  rcases hl with rfl | rfl <;> kernel_rfl
theorem host_7 (x : Int) (g b : Bool) : bitI (sallyportref16_set0 (hostI x true g) 8 b) 7 = true ∧ iAnd .u64 (iShr .u64 (sallyportref16_set0 (hostI x true g) 8 b) 7) 1 = 1 := by
  have h : (W (sallyportref16_set0 (hostI x true g) 8 b)).getLsbD 7 = true := by
    unfold hostI
    rw [set_bit _ _ _ _ t8 (by decide), set_bit _ _ _ _ t6 (by decide), set_bit _ _ _ _ t7 (by decide)]; rfl
  rw [show (7 : Int) = ((7 : Nat) : Int) from rfl, bitI_of (set_U _ _ _) 7 (by decide), low_bit (set_U _ _ _) 7 (by decide), h]
  exact ⟨rfl, rfl⟩
theorem host_8 (x : Int) (b : Bool) : iAnd .u64 (iShr .u64 (sallyportref16_set0 x 8 b) 8) 1 = bif b then 1 else 0 := by
  rw [show iShr .u64 (sallyportref16_set0 x 8 b) 8 = iShr .u64 (sallyportref16_set0 x 8 b) ((8 : Nat) : Int) from rfl, low_bit (set_U _ _ _) 8 (by decide), set_bit _ _ _ _ t8 (by decide)]
  rfl

theorem iNe_self (i : Int) : iNe i i = false := by rw [iNe_false]

theorem trapHost_true (a2 : Bool) : sallyportlaw16_TrapHost0 X PC L V C D c v p g a2 = true := by
  simp only [sallyportlaw16_TrapHost0, sallyportlaw16_TrapHost_c0, sallyportlaw16_TrapHost_c1, sallyportlaw16_TrapHost_c2, sallyportlaw16_TrapHost_c3, sallyportlaw16_TrapHost_c4, sallyportlaw16_TrapHost_c5, sallyportlaw16_TrapHost_c6, sallyportlaw16_TrapHost_c7, sallyportlaw16_TrapHost_c8, sallyportlaw16_TrapHost_c9, sallyportlaw16_TrapHost_c10, sallyportlaw16_TrapHost_c11, sallyportlaw16_TrapHost_c12, sallyportlaw16_TrapHost_c13, sallyportlaw16_TrapHost_c14, sallyportlaw16_TrapHost_c15, sallyportlaw16_TrapHost_c16, sallyportlaw16_TrapHost_c17, sallyportlaw16_TrapHost_c18, sallyportlaw16_TrapHost_c19, sallyportlaw16_TrapHost_c20, sallyportlaw16_TrapHost_c21, sallyportlaw16_TrapHost_c22, sallyportlaw16_TrapHost_c23, sallyportlaw16_TrapHost_c24, sallyportlaw16_TrapHost_c25, sallyportlaw16_TrapHost_c26, sallyportlaw16_TrapHost_c27, sallyportlaw16_TrapHost_c28, sallyportlaw16_TrapHost_c29, sallyportlaw16_TrapHost_c30, sallyportlaw16_TrapHost_c31, sallyportlaw16_TrapHost_c32, sallyportlaw16_TrapHost_c33, sallyportlaw16_TrapHost_c34, sallyportlaw16_TrapHost_c35]
  generalize sallyportref18_Clean1 (fun i0 => X i0) PC L V (fun i0 => C i0) D = PC'
  generalize sallyportref18_Clean2 (fun i0 => X i0) PC L V (fun i0 => C i0) D = L'
  generalize sallyportref18_Clean3 (fun i0 => X i0) PC L V (fun i0 => C i0) D = V'
  generalize sallyportref18_Clean0 (fun i0 => X i0) PC L V (fun i0 => C i0) D = X'
  generalize sallyportref18_Clean4 (fun i0 => X i0) PC L V (fun i0 => C i0) D = C'
  have s1 : ∀ Cu : Nat → Int, bitI (Cu 0) 22 = false → goesS X' (Cu 10) 1 false Cu D = true := fun Cu h => by
    show iEq (sretI 1 (bitI (Cu 0) 22) (bitI (Cu 16) 22)) 0 = true
    rw [h]; rfl
  have w0 := low_8 (iAndNot .u64 (C' 0) 4194304) 0 (.inl rfl)
  have w1 := low_8 (iAndNot .u64 (C' 0) 4194304) 1 (.inr rfl)
  have go : ∀ PC, ∀ Cu : Nat → Int, bitI (Cu 0) 22 = false → goesS X' PC 1 false Cu D = true := fun PC Cu h => by
    show iEq (sretI 1 (bitI (Cu 0) 22) (bitI (Cu 16) 22)) 0 = true
    rw [h]; rfl
  simp only [(enterS1 _ _ _ _ _ _ _ _ _ _).1, (enterS1 _ _ _ _ _ _ _ _ _ _).2.1, (enterS1 _ _ _ _ _ _ _ _ _ _).2.2, enterS4, sret7, sret1, sret2, sret3, sret4]
  have e0 := go (C' 10) (fun j => bif j == 16 then sallyportref16_set0 (hostI (C' 16) true g) 8 false else bif j == 0 then lowI (iAndNot .u64 (C' 0) 4194304) 0 else bif j == 20 then p else bif j == 14 then v else bif j == 13 then c else bif j == 12 then PC' else bif j == 0 then iAndNot .u64 (C' 0) 4194304 else C' j) (low_22 _ _)
  have e1 := go (C' 10) (fun j => bif j == 16 then sallyportref16_set0 (hostI (C' 16) true g) 8 true else bif j == 0 then lowI (iAndNot .u64 (C' 0) 4194304) 1 else bif j == 20 then p else bif j == 14 then v else bif j == 13 then c else bif j == 12 then PC' else bif j == 0 then iAndNot .u64 (C' 0) 4194304 else C' j) (low_22 _ _)
  cases a2
  · simp only [cond_false, cond_true, Nat.reduceBEq, Nat.reduceEqDiff, beq_self_eq_true, e0, e1, Bool.not_true, w0, w1, host_7, host_8, iNe_self, iEq_self, all_true, Bool.not_false, Bool.true_and, Bool.and_true, show iEq (iAnd .i64 0 1) 1 = false from rfl, show iEq (iAnd .i64 1 1) 1 = true from rfl]
    first | done | rfl
  · simp only [cond_false, cond_true, Nat.reduceBEq, Nat.reduceEqDiff, beq_self_eq_true, e0, e1, Bool.not_true, w0, w1, host_7, host_8, iNe_self, iEq_self, all_true, Bool.not_false, Bool.true_and, Bool.and_true, show iEq (iAnd .i64 0 1) 1 = false from rfl, show iEq (iAnd .i64 1 1) 1 = true from rfl]
    first | done | rfl

end
end Go.Proofs.Ytjnpaegoobclfaa.PV
