/-
  Who may: the statements of layer 9; no condition but the numbers' own bounds.
-/
import Derived.Test.YtdfafnelmpflgaaLh
set_option linter.unusedVariables false
set_option linter.unusedSimpArgs false
namespace Go.Proofs.Ytdfafnelmpflgaa.PV
open Go Go.Ev

theorem iEq_cond (c : Bool) (x y z : Int) : iEq (bif c then x else y) z = bif c then iEq x z else iEq y z := by cases c <;> rfl

section
variable (X : Nat → Int) (PC L : Int) (V : Bool) (C : Nat → Int) (D : Int)

theorem insnA (a b c d e f : Int) : legal_Insn0 X PC L V C D a b c d e f = iA (insn_Is0 a b c d e f) (iEq (insn_Class0 a) 9) (iEq a 60) (iEq a 61) (iEq a 62) (iEq a 63) (iEq a 64) (iEq a 65) (iEq (insn_Class0 a) 12)
    (csr_Bit0 X PC L V C D 16 22) (csr_Bit0 X PC L V C D 0 22) (csr_Bit0 X PC L V C D 16 20) (csr_Bit0 X PC L V C D 0 20) (csr_Bit0 X PC L V C D 16 21) (csr_Bit0 X PC L V C D 0 21) (csr_Bit0 X PC L V C D 16 9)
    (legal_Level0 X PC L V C D) (legal_Csr0 X PC L V C D f (legal_Writes0 a b c d e f)) := by
  unfold legal_Insn0 legal_guests0 iA
  cases iEq a 64 <;> cases iEq a 65 <;> rfl

theorem insnB (a b c d e f : Int) : sallyportref8_Insn0 X PC L V C D a b c d e f = iB (insn_Is0 a b c d e f) (iEq (insn_Class0 a) 9) (iEq a 60) (iEq a 61) (iEq a 62) (iEq a 63) (iEq a 64) (iEq a 65) (iEq (insn_Class0 a) 12)
    (csr_Bit0 X PC L V C D 16 22) (csr_Bit0 X PC L V C D 0 22) (csr_Bit0 X PC L V C D 16 20) (csr_Bit0 X PC L V C D 0 20) (csr_Bit0 X PC L V C D 16 21) (csr_Bit0 X PC L V C D 0 21) (csr_Bit0 X PC L V C D 16 9)
    (legal_Level0 X PC L V C D) (legal_Csr0 X PC L V C D f (legal_Writes0 a b c d e f)) := by
  have e1 : sallyportref8_Insn0 X PC L V C D a b c d e f = (fun is e9 e60 e61 e62 e63 e65 e11 e12 b16_22 b0_22 b16_20 b0_20 b16_21 b0_21 b9 l cs =>
    bif !is then 2 else bif e9 then cs else bif e60 then (bif iEq l 3 then 0 else 2)
  else bif e61 then (bif bif iEq l 0 then true else bif iEq l 1 then b0_22 else false then 2 else bif bif iEq l 4 then true else bif iEq l 5 then b16_22 else false then 22 else 0)
  else bif e63 then (bif bif iEq l 0 then true else bif iEq l 1 then b0_20 else false then 2 else bif bif iEq l 4 then true else bif iEq l 5 then b16_20 else false then 22 else 0)
  else bif e62 then (bif bif iEq l 0 then true else bif iNe l 3 then b0_21 else false then 2 else bif bif iEq l 4 then true else bif iEq l 5 then b16_21 else false then 22 else 0)
  else bif bif e11 then true else e12 then (bif iLe 4 l then 22 else bif bif bif iEq l 0 then bif e11 then true else !b9 else false then true else bif bif e65 then iEq l 1 else false then b0_20 else false then 2 else 0) else 0)
   (sallyportref3_Is0 a b c d e f) (iEq (sallyportref3_Class0 a) 9) (iEq a 60) (iEq a 61) (iEq a 62) (iEq a 63) (iEq a 65) (iEq (sallyportref3_Class0 a) 11) (iEq (sallyportref3_Class0 a) 12)
    (sallyportref8_Bit0 X PC L V C D 16 22) (sallyportref8_Bit0 X PC L V C D 0 22) (sallyportref8_Bit0 X PC L V C D 16 20) (sallyportref8_Bit0 X PC L V C D 0 20) (sallyportref8_Bit0 X PC L V C D 16 21) (sallyportref8_Bit0 X PC L V C D 0 21) (sallyportref8_Bit0 X PC L V C D 16 9)
    (sallyportref8_Level0 X PC L V C D) (sallyportref8_Csr0 X PC L V C D f (sallyportref8_Writes0 a b c d e f)) := rfl
  have ew : sallyportref8_Writes0 a b c d e f = legal_Writes0 a b c d e f := rfl
  rw [e1, ew, csr0_eq, level_eq, is_eq, class_eq, class_11, bit_16_22, bit_0_22, bit_16_20, bit_0_20, bit_16_21, bit_0_21, bit_16_9]
  rfl

theorem insn0_eq (a b c d e f : Int) : sallyportref8_Insn0 X PC L V C D a b c d e f = legal_Insn0 X PC L V C D a b c d e f := by
  rw [insnA, insnB]
  refine iAB _ _ (level_cases X PC L V C D) _ _ _ _ _ _ _ _ _ _ _ _ _ _ _ _ fun h => ?_
  rw [← class_11, iEq_true] at h
  rw [h]; rfl

theorem insn1_of (a b c d e f : Int) : legal_Insn1 X PC L V C D a b c d e f = iEq (legal_Insn0 X PC L V C D a b c d e f) 0 := by
  unfold legal_Insn1 legal_Insn0 legal_plain0 legal_plain1 legal_wfi0 legal_wfi1 legal_guests0 legal_guests1 legal_because0 legal_because1
  simp only [iEq_cond, csr1_of, show iEq 22 0 = false from rfl, show iEq 2 0 = false from rfl, show iEq 0 0 = true from rfl]

theorem insn1_of' (a b c d e f : Int) : sallyportref8_Insn1 X PC L V C D a b c d e f = iEq (sallyportref8_Insn0 X PC L V C D a b c d e f) 0 := by
  unfold sallyportref8_Insn1 sallyportref8_Insn0 sallyportref8_kept0 sallyportref8_kept1 sallyportref8_need0 sallyportref8_need1
  simp only [iEq_cond, csr1_of', show iEq 22 0 = false from rfl, show iEq 2 0 = false from rfl, show iEq 0 0 = true from rfl]

theorem insn1_eq (a b c d e f : Int) : sallyportref8_Insn1 X PC L V C D a b c d e f = legal_Insn1 X PC L V C D a b c d e f := by
  rw [insn1_of', insn1_of, insn0_eq]

theorem legalTells_true (n : Int) (w : Bool) (a b c d e f : Int) : sallyportlaw9_LegalTells0 X PC L V C D n w a b c d e f = true := by
  unfold sallyportlaw9_LegalTells0
  simp only [csr0_eq, csr1_eq, insn0_eq, insn1_eq, level_eq, iEq_self, beq_self_eq_true, cond_true]

theorem legalTells_guard (n : Int) (w : Bool) (a b c d e f : Int) : sallyportlaw9_LegalTellsG X PC L V C D n w a b c d e f = true := by
  unfold sallyportlaw9_LegalTellsG
  simp only [legal_CsrT, legal_InsnT, Bool.and_true]

theorem low_class (op : Int) (h : iLe 9 (insn_Class0 op) = false) : iEq (insn_Class0 op) 9 = false ∧ iEq op 60 = false ∧ iEq op 61 = false ∧ iEq op 62 = false ∧ iEq op 63 = false ∧ iEq op 64 = false ∧ iEq op 65 = false ∧ iEq (insn_Class0 op) 12 = false := by
  by_cases hr : 1 ≤ op ∧ op < 70
  · obtain ⟨n, rfl⟩ := Int.eq_ofNat_of_zero_le (show 0 ≤ op by omega)
    have : ∀ n, n < 70 → iLe 9 (insn_Class0 (n : Nat)) = false → iEq (insn_Class0 (n : Nat)) 9 = false ∧ iEq (n : Nat) 60 = false ∧ iEq (n : Nat) 61 = false ∧ iEq (n : Nat) 62 = false ∧ iEq (n : Nat) 63 = false ∧ iEq (n : Nat) 64 = false ∧ iEq (n : Nat) 65 = false ∧ iEq (insn_Class0 (n : Nat)) 12 = false := by decide +kernel
    exact this n (by omega) h
  · rw [class_out hr]
    simp only [iEq_false]
    omega

theorem legalPlain_true (a b c d e f : Int) : sallyportlaw9_LegalPlain0 X PC L V C D a b c d e f = true := by
  unfold sallyportlaw9_LegalPlain0
  rw [is_eq, class_eq]
  cases hi : insn_Is0 a b c d e f with
  | false => rfl
  | true =>
    cases hc : iLe 9 (insn_Class0 a) with
    | true => rfl
    | false =>
      obtain ⟨h1, h2, h3, h4, h5, h6, h7, h8⟩ := low_class a hc
      simp only [insn1_of, insnA, hi, h1, h2, h3, h4, h5, h6, h7, h8]
      rfl

theorem legalPlain_guard (a b c d e f : Int) : sallyportlaw9_LegalPlainG X PC L V C D a b c d e f = true := by
  unfold sallyportlaw9_LegalPlainG
  simp only [legal_InsnT, Bool.and_true, Bool.cond_self]

/-- The cause that there is, by the level and what the number asks for. -/
theorem mayRead (n : Int) (h : csr_Is0 n = false) : iLt (csr_Index0 n) 0 = true := by
  rw [iLt_not]
  unfold csr_Is0 at h
  cases h1 : iLe 0 (csr_Index0 n) with
  | false => rfl
  | true => rw [h1, Bool.cond_true_right] at h; simp at h

theorem legalMore_true (n : Int) : sallyportlaw9_LegalMore0 X PC L V C D n = true := by
  unfold sallyportlaw9_LegalMore0
  rw [index_eq]
  have key : ∀ (X : Nat → Int) (PC : Int) (C : Nat → Int) (D : Int) (l : Int) (w : Bool), legal_Csr1 X PC l false (fun i0 => bif i0 == 0 then 0 else C i0) D n w = iEq (cA0 (csr_Is0 n) w (iLe 3072 n) (iEq n 3074) (iEq n 384) (csr_Bit0 X PC l false (fun i0 => bif i0 == 0 then 0 else C i0) D 16 20) false (legal_Level0 X PC l false (fun i0 => bif i0 == 0 then 0 else C i0) D) (legal_ask0 n)) 0 := fun X PC C D l w => by
    rw [csr1_of, csrA]
    rw [show csr_Bit0 X PC l false (fun i0 => bif i0 == 0 then 0 else C i0) D 0 20 = false by kernel_rfl]
  simp only [key]
  generalize sallyportref18_Clean1 (fun i0 => X i0) PC L V (fun i0 => C i0) D = PC'
  simp only [show ∀ (X : Nat → Int) (PC : Int) (C : Nat → Int) (D : Int), legal_Level0 X PC 0 false C D = 0 from fun _ _ _ _ => rfl, show ∀ (X : Nat → Int) (PC : Int) (C : Nat → Int) (D : Int), legal_Level0 X PC 1 false C D = 1 from fun _ _ _ _ => rfl, show ∀ (X : Nat → Int) (PC : Int) (C : Nat → Int) (D : Int), legal_Level0 X PC 3 false C D = 3 from fun _ _ _ _ => rfl]
  have ht := mayRead n
  have ha := ask_cases n
  have h3 := e3_ask n
  have h1 := e1_ask n
  revert ht ha h3 h1
  generalize csr_Is0 n = t
  generalize iLe 3072 n = q
  generalize iEq n 3074 = e3
  generalize iEq n 384 = e1
  generalize legal_ask0 n = a
  generalize iLt (csr_Index0 n) 0 = z
  intro ht ha h3 h1
  cases t
  · rw [ht rfl]; cases q <;> rfl
  · clear ht
    have e : ∀ b b' b'' b''' : Bool, cA0 true false q e3 e1 b false 0 a = cA0 true false q e3 e1 false false 0 a ∧ cA0 true false q e3 e1 b false 1 a = cA0 true false q e3 e1 false false 1 a ∧
        cA0 true false q e3 e1 b false 3 a = cA0 true false q e3 e1 false false 3 a ∧ cA0 true true q e3 e1 b false 1 a = cA0 true true q e3 e1 false false 1 a := fun _ _ _ _ => ⟨rfl, rfl, rfl, rfl⟩
    simp only [fun b => (e b b b b).1, fun b => (e b b b b).2.1, fun b => (e b b b b).2.2.1, fun b => (e b b b b).2.2.2]
    clear e
    rcases ha with rfl | rfl | rfl | rfl <;> (clear h3 h1; revert q e3 e1 z; decide)

theorem legalMore_guard (n : Int) : sallyportlaw9_LegalMoreG X PC L V C D n = true := by
  unfold sallyportlaw9_LegalMoreG
  simp only [legal_CsrT, Bool.and_true]

end
end Go.Proofs.Ytdfafnelmpflgaa.PV
