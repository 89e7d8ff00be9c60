/-
  Into the guest's own supervisor and back; two traps, one inside the other; no trap at all: TrapGuest, TrapNests, TrapNone. No condition.
-/
import Derived.Test.YtjnpaegoobclfaaLd
import Derived.Test.YtjnpaegoobclfaaFe
set_option linter.unusedVariables false
set_option linter.unusedSimpArgs false
namespace Go.Proofs.Ytjnpaegoobclfaa.PV
open Go Go.Ev

section
variable (X : Nat → Int) (PC L : Int) (V : Bool) (C : Nat → Int) (D : Int) (c v p : Int) (g : Bool) (c' v' p' : Int) (g' : Bool)

theorem and_22 (x : Int) : bitI (iAndNot .u64 x 4194304) 22 = false := by
  rw [show (22 : Int) = ((22 : Nat) : Int) from rfl, bitI_of (U_andNot _ _) 22 (by decide), andn_bit _ _ _ (by decide)]
  have : (W 4194304).getLsbD 22 = true := by decide
  rw [this]; simp

theorem sback_U (x : Int) : U (sbackI x) := set_U _ _ _
theorem sback_1 (x l : Int) (hx : U x) : iAnd .u64 (iShr .u64 (sbackI (lowI x l)) 1) 1 = iAnd .u64 (iShr .u64 x 1) 1 := by
  refine (low_bit (sback_U (lowI x l)) 1 (by decide)).trans (Eq.trans ?_ (low_bit hx 1 (by decide)).symm)
  have h5 : bitI (lowI x l) 5 = (W (lowI x l)).getLsbD 5 := bitI_of (lowI_U _ _) 5 (by decide)
  unfold sbackI
  rw [set_bit _ _ _ _ t8 (by decide), set_bit _ _ _ _ t5 (by decide), set_bit _ _ _ _ t1 (by decide), h5, lowI_bit _ _ _ (by decide)]
  rfl

theorem trapGuest_true (a2 : Bool) : sallyportlaw16_TrapGuest0 X PC L V C D c v p g a2 = true := by
  have hU := clean4_U X PC L V C D 22 (by decide)
  simp only [sallyportlaw16_TrapGuest0, sallyportlaw16_TrapGuest_c0, sallyportlaw16_TrapGuest_c1, sallyportlaw16_TrapGuest_c2, sallyportlaw16_TrapGuest_c3, sallyportlaw16_TrapGuest_c4, sallyportlaw16_TrapGuest_c5, sallyportlaw16_TrapGuest_c6, sallyportlaw16_TrapGuest_c7, sallyportlaw16_TrapGuest_c8, sallyportlaw16_TrapGuest_c9, sallyportlaw16_TrapGuest_c10, sallyportlaw16_TrapGuest_c11, sallyportlaw16_TrapGuest_c12, sallyportlaw16_TrapGuest_c13, sallyportlaw16_TrapGuest_c14, sallyportlaw16_TrapGuest_c15, sallyportlaw16_TrapGuest_c16, sallyportlaw16_TrapGuest_c17, sallyportlaw16_TrapGuest_c18, sallyportlaw16_TrapGuest_c19, sallyportlaw16_TrapGuest_c20, sallyportlaw16_TrapGuest_c21, sallyportlaw16_TrapGuest_c22, sallyportlaw16_TrapGuest_c23, sallyportlaw16_TrapGuest_c24, sallyportlaw16_TrapGuest_c25, sallyportlaw16_TrapGuest_c26, sallyportlaw16_TrapGuest_c27, sallyportlaw16_TrapGuest_c28, sallyportlaw16_TrapGuest_c29, sallyportlaw16_TrapGuest_c30, sallyportlaw16_TrapGuest_c31, sallyportlaw16_TrapGuest_c32, sallyportlaw16_TrapGuest_c33, sallyportlaw16_TrapGuest_c34, sallyportlaw16_TrapGuest_c35, sallyportlaw16_TrapGuest_c36, sallyportlaw16_TrapGuest_c37, sallyportlaw16_TrapGuest_c38, sallyportlaw16_TrapGuest_c39, sallyportlaw16_TrapGuest_c40, sallyportlaw16_TrapGuest_c41, sallyportlaw16_TrapGuest_c42, sallyportlaw16_TrapGuest_c43, sallyportlaw16_TrapGuest_c44, sallyportlaw16_TrapGuest_c45, sallyportlaw16_TrapGuest_c46, sallyportlaw16_TrapGuest_c47, sallyportlaw16_TrapGuest_c48, sallyportlaw16_TrapGuest_c49, sallyportlaw16_TrapGuest_c50, sallyportlaw16_TrapGuest_c51, sallyportlaw16_TrapGuest_c52, sallyportlaw16_TrapGuest_c53, sallyportlaw16_TrapGuest_c54, sallyportlaw16_TrapGuest_c55, sallyportlaw16_TrapGuest_c56, sallyportlaw16_TrapGuest_c57, sallyportlaw16_TrapGuest_c58, sallyportlaw16_TrapGuest_c59]
  revert hU
  generalize sallyportref18_Clean1 (fun i0 => X i0) PC L V (fun i0 => C i0) D = PC'
  generalize sallyportref18_Clean2 (fun i0 => X i0) PC L V (fun i0 => C i0) D = L'
  generalize sallyportref18_Clean3 (fun i0 => X i0) PC L V (fun i0 => C i0) D = V'
  generalize sallyportref18_Clean0 (fun i0 => X i0) PC L V (fun i0 => C i0) D = X'
  generalize sallyportref18_Clean4 (fun i0 => X i0) PC L V (fun i0 => C i0) D = C'
  intro hU
  have go : ∀ PC, ∀ Cu : Nat → Int, bitI (Cu 16) 22 = false → goesS X' PC 1 true Cu D = true := fun PC Cu h => by
    show iEq (sretI 5 (bitI (Cu 0) 22) (bitI (Cu 16) 22)) 0 = true
    rw [h]; rfl
  have e0 := go (C' 23) (fun j => bif j == 22 then lowI (C' 22) 0 else bif j == 27 then v else bif j == 26 then c else bif j == 25 then PC' else bif j == 16 then iAndNot .u64 (C' 16) 4194304 else C' j) (and_22 _)
  have e1 := go (C' 23) (fun j => bif j == 22 then lowI (C' 22) 1 else bif j == 27 then v else bif j == 26 then c else bif j == 25 then PC' else bif j == 16 then iAndNot .u64 (C' 16) 4194304 else C' j) (and_22 _)
  have w0 := low_8 (C' 22) 0 (.inl rfl)
  have w1 := low_8 (C' 22) 1 (.inr rfl)
  have b0 := sback_1 (C' 22) 0 hU
  have b1 := sback_1 (C' 22) 1 hU
  simp only [(enterG1 _ _ _ _ _ _ _ _ _).1, (enterG1 _ _ _ _ _ _ _ _ _).2.1, (enterG1 _ _ _ _ _ _ _ _ _).2.2, enterG4, sret7, sret1, sret2, sret3, sret4]
  cases a2
  · simp only [cond_false, cond_true, Nat.reduceBEq, Nat.reduceEqDiff, beq_self_eq_true, Bool.not_true, iNe_self, iEq_self, all_true, Bool.not_false, Bool.true_and, Bool.and_true, Bool.false_and, show iEq (iAnd .i64 0 1) 1 = false from rfl, show iEq (iAnd .i64 1 1) 1 = true from rfl, e0, e1, w0, w1, b0, b1]
    first | done | rfl
  · simp only [cond_false, cond_true, Nat.reduceBEq, Nat.reduceEqDiff, beq_self_eq_true, Bool.not_true, iNe_self, iEq_self, all_true, Bool.not_false, Bool.true_and, Bool.and_true, Bool.false_and, show iEq (iAnd .i64 0 1) 1 = false from rfl, show iEq (iAnd .i64 1 1) 1 = true from rfl, e0, e1, w0, w1, b0, b1]
    first | done | rfl

theorem trapNests_true : sallyportlaw16_TrapNests0 X PC L V C D c v p g c' v' p' g' = true := by
  simp only [sallyportlaw16_TrapNests0, sallyportlaw16_TrapNests_c0, sallyportlaw16_TrapNests_c1, sallyportlaw16_TrapNests_c2, sallyportlaw16_TrapNests_c3, sallyportlaw16_TrapNests_c4, sallyportlaw16_TrapNests_c5, sallyportlaw16_TrapNests_c6, sallyportlaw16_TrapNests_c7, sallyportlaw16_TrapNests_c8, sallyportlaw16_TrapNests_c9, sallyportlaw16_TrapNests_c10, sallyportlaw16_TrapNests_c11]
  generalize sallyportref18_Clean1 (fun i0 => X i0) PC L V (fun i0 => C i0) D = PC'
  generalize sallyportref18_Clean2 (fun i0 => X i0) PC L V (fun i0 => C i0) D = L'
  generalize sallyportref18_Clean3 (fun i0 => X i0) PC L V (fun i0 => C i0) D = V'
  generalize sallyportref18_Clean0 (fun i0 => X i0) PC L V (fun i0 => C i0) D = X'
  generalize sallyportref18_Clean4 (fun i0 => X i0) PC L V (fun i0 => C i0) D = C'
  simp only [(enterG1 _ _ _ _ _ _ _ _ _).1, (enterG1 _ _ _ _ _ _ _ _ _).2.1, (enterG1 _ _ _ _ _ _ _ _ _).2.2, enterG4, (enterS1 _ _ _ _ _ _ _ _ _ _).1, (enterS1 _ _ _ _ _ _ _ _ _ _).2.1, (enterS1 _ _ _ _ _ _ _ _ _ _).2.2, enterS4, sret7, sret1, sret2, sret3, sret4]
  have g1 : ∀ PC, ∀ Cu : Nat → Int, bitI (Cu 0) 22 = false → goesS X' PC 1 false Cu D = true := fun PC Cu h => by
    show iEq (sretI 1 (bitI (Cu 0) 22) (bitI (Cu 16) 22)) 0 = true
    rw [h]; rfl
  have g5 : ∀ PC, ∀ Cu : Nat → Int, bitI (Cu 16) 22 = false → goesS X' PC 1 true Cu D = true := fun PC Cu h => by
    show iEq (sretI 5 (bitI (Cu 0) 22) (bitI (Cu 16) 22)) 0 = true
    rw [h]; rfl
  have l0 := low_8 (iAndNot .u64 (C' 0) 4194304) 1 (.inr rfl)
  have l22 := low_8 (C' 22) 0 (.inl rfl)
  have h22 : bitI (sallyportref16_set0 (sallyportref16_set0 (hostI (iAndNot .u64 (C' 16) 4194304) true g') 8 true) 7 false) 22 = false := by
    unfold hostI
    rw [show (22 : Int) = ((22 : Nat) : Int) from rfl, bitI_of (set_U _ _ _) 22 (by decide), set_bit _ _ _ _ t7 (by decide), set_bit _ _ _ _ t8 (by decide), set_bit _ _ _ _ t6 (by decide), set_bit _ _ _ _ t7 (by decide), ← bitI_of (U_andNot _ _) 22 (by decide)]
    exact and_22 _
  simp only [cond_false, cond_true, Nat.reduceBEq, Nat.reduceEqDiff, beq_self_eq_true, Bool.not_true, iNe_self, iEq_self, all_true, Bool.not_false, Bool.true_and, Bool.and_true, Bool.false_and, show iEq (iAnd .i64 0 1) 1 = false from rfl, show iEq (iAnd .i64 1 1) 1 = true from rfl, fun PC Cu => g1 PC Cu, fun PC Cu => g5 PC Cu, low_22, l0, l22, h22, host_7]
  first | done | rfl

theorem trapNone_true (l : Int) : sallyportlaw16_TrapNone0 X PC L V C D c v p g l = true := by
  have hL := clean2_is3 X PC L V C D
  have hV := clean3_of X PC L V C D
  simp only [sallyportlaw16_TrapNone0, sallyportlaw16_TrapNone_c0, sallyportlaw16_TrapNone_c1, sallyportlaw16_TrapNone_c2, sallyportlaw16_TrapNone_c3, sallyportlaw16_TrapNone_c4, sallyportlaw16_TrapNone_c5]
  revert hL hV
  generalize sallyportref18_Clean1 (fun i0 => X i0) PC L V (fun i0 => C i0) D = PC'
  generalize sallyportref18_Clean2 (fun i0 => X i0) PC L V (fun i0 => C i0) D = L'
  generalize sallyportref18_Clean3 (fun i0 => X i0) PC L V (fun i0 => C i0) D = V'
  generalize sallyportref18_Clean0 (fun i0 => X i0) PC L V (fun i0 => C i0) D = X'
  generalize sallyportref18_Clean4 (fun i0 => X i0) PC L V (fun i0 => C i0) D = C'
  intro hL hV
  have n1 := enterN4 X' PC' 0 false C' D c v p g 1 true ⟨by decide, by decide, by decide⟩
  have n2 := enterN4 X' PC' L' V' C' D c v p g 3 true ⟨by decide, by decide, fun h => absurd h.1 (by decide)⟩
  have hlev : iEq (legal_Level0 X' PC' L' V' C' D) 3 = iEq L' 3 := by
    rcases hL with rfl | rfl | rfl <;> cases V' <;> rfl
  have hs : goesS X' PC' 0 false C' D = false := rfl
  have hs6 : sretI (legal_Level0 X' PC' 0 false C' D) (bitI (C' 0) 22) (bitI (C' 16) 22) = 2 := rfl
  have first : (bif bif iNe l 1 then iNe l 3 else false then
          bif
              !(((List.range 32).all fun i => iEq (X' i) (X' i)) &&
                  (iEq (trap_Enter1 (fun i0 => X' i0) PC' L' V' (fun i0 => C' i0) D c v p g l true) PC' &&
                    (iEq (trap_Enter2 (fun i0 => X' i0) PC' L' V' (fun i0 => C' i0) D c v p g l true) L' &&
                      (trap_Enter3 (fun i0 => X' i0) PC' L' V' (fun i0 => C' i0) D c v p g l true == V' &&
                        (((List.range 29).all fun i =>
                            iEq (trap_Enter4 (fun i0 => X' i0) PC' L' V' (fun i0 => C' i0) D c v p g l true i)
                              (C' i)) &&
                          iEq D D))))) then
            true
          else
            !(((List.range 32).all fun i => iEq (X' i) (X' i)) &&
                (iEq (trap_Enter1 (fun i0 => X' i0) PC' L' V' (fun i0 => C' i0) D c v p g l false) PC' &&
                  (iEq (trap_Enter2 (fun i0 => X' i0) PC' L' V' (fun i0 => C' i0) D c v p g l false) L' &&
                    (trap_Enter3 (fun i0 => X' i0) PC' L' V' (fun i0 => C' i0) D c v p g l false == V' &&
                      (((List.range 29).all fun i =>
                          iEq (trap_Enter4 (fun i0 => X' i0) PC' L' V' (fun i0 => C' i0) D c v p g l false i) (C' i)) &&
                        iEq D D)))))
        else false) = false := by
    by_cases h1 : l = 1
    · subst h1; rfl
    by_cases h3 : l = 3
    · subst h3; rfl
    have a1 := enterN4 X' PC' L' V' C' D c v p g l true ⟨fun h => h3 h.1, fun h => h1 h.1, fun h => h1 h.1⟩
    have a2 := enterN4 X' PC' L' V' C' D c v p g l false ⟨fun h => h3 h.1, fun h => h1 h.1, fun h => h1 h.1⟩
    rw [iNe_true.2 h1, iNe_true.2 h3]
    simp only [a1.1, a1.2.1, a1.2.2.1, a1.2.2.2, a2.1, a2.2.1, a2.2.2.1, a2.2.2.2, cond_false, cond_true, beq_self_eq_true, Bool.not_true, iNe_self, iEq_self, all_true, Bool.not_false, Bool.true_and, Bool.and_true, Bool.false_and]
  rw [first]
  simp only [n1.1, n1.2.1, n1.2.2.1, n1.2.2.2, n2.1, n2.2.1, n2.2.2.1, n2.2.2.2, mret7, mret1, mret2, mret3, mret4, sret7, sret1, sret2, sret3, sret4, sret6, hlev, hs, hs6, cond_false, cond_true, beq_self_eq_true, Bool.not_true, iNe_self, iEq_self, all_true, Bool.not_false, Bool.true_and, Bool.and_true, Bool.false_and]
  cases iEq L' 3
  · simp only [cond_false, cond_true, beq_self_eq_true, Bool.not_true, iNe_self, iEq_self, all_true, Bool.not_false, Bool.true_and, Bool.and_true, Bool.false_and]
  · rfl

end
end Go.Proofs.Ytjnpaegoobclfaa.PV
