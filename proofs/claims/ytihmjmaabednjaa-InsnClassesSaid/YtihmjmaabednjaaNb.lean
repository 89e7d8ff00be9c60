/-
  Instructions: the statements of layer 2; no condition.
-/
import Derived.Test.YtihmjmaabednjaaNa
set_option linter.unusedVariables false
set_option linter.unusedSimpArgs false
namespace Go.Proofs.Ytihmjmaabednjaa.PV
open Go Go.Ev

theorem names_eq : ∀ n, n < 70 → sallyportref3_Name0 (n : Nat) = insn_Name0 (n : Nat) := by decide +kernel
theorem name_out {op : Int} (h : ¬ (1 ≤ op ∧ op < 70)) : insn_Name0 op = [] := by
  unfold insn_Name0; rw [class_out h]; rfl
theorem name_out' {op : Int} (h : ¬ (0 ≤ op ∧ op < 70)) : sallyportref3_Name0 op = [] := by
  have : (bif iLt op 0 then true else iLe 70 op) = true := by
    cases h1 : iLt op 0 with
    | true => rfl
    | false => rw [cond_false, iLe_true]; rw [iLt_false] at h1; omega
  unfold sallyportref3_Name0
  rw [this, cond_true]
theorem name_eq (op : Int) : sallyportref3_Name0 op = insn_Name0 op := by
  by_cases h : 0 ≤ op ∧ op < 70
  · obtain ⟨n, rfl⟩ := Int.eq_ofNat_of_zero_le h.1
    exact names_eq n (by omega)
  · rw [name_out' h, name_out (by omega)]
theorem size_eq (op : Int) : sallyportref3_Size0 op = insn_Size0 op := by kernel_rfl
theorem sEq_self (l : List UInt8) : sEq l l = true := by unfold sEq; exact beq_self_eq_true l

theorem insnTells_true (a b c d e f g h i j k l m : Int) : sallyportlaw2_InsnTells0 a b c d e f g h i j k l m = true := by
  unfold sallyportlaw2_InsnTells0 insn_Same0
  rw [is_eq, writes_eq, reads0_eq, reads1_eq, name_eq, class_eq, size_eq]
  simp only [beq_self_eq_true, iEq_self, sEq_self, cond_true]

theorem size_out {op : Int} (h : ¬ (1 ≤ op ∧ op < 70)) : insn_Size0 op = 0 := by
  have hk : ∀ k : Int, 1 ≤ k → k < 70 → iEq op k = false := fun k h1 h2 => by rw [iEq_false]; intro e; subst e; exact h ⟨h1, h2⟩
  unfold insn_Size0
  simp only [hk 11 (by decide) (by decide), hk 12 (by decide) (by decide), hk 13 (by decide) (by decide), hk 14 (by decide) (by decide), hk 15 (by decide) (by decide), hk 16 (by decide) (by decide), hk 17 (by decide) (by decide),
    hk 18 (by decide) (by decide), hk 19 (by decide) (by decide), hk 20 (by decide) (by decide), hk 21 (by decide) (by decide), hk 66 (by decide) (by decide), hk 67 (by decide) (by decide), hk 68 (by decide) (by decide), hk 69 (by decide) (by decide), cond_false]

theorem names_apart : ∀ n, n < 70 → ∀ m, m < 70 → 1 ≤ n → 1 ≤ m → sEq (insn_Name0 (n : Nat)) (insn_Name0 (m : Nat)) = iEq (n : Nat) (m : Nat) := by decide +kernel
theorem names_there : ∀ n, n < 70 → 1 ≤ n → sEq (insn_Name0 (n : Nat)) [] = false ∧ sEq [] (insn_Name0 (n : Nat)) = false ∧ iLt 0 (insn_Class0 (n : Nat)) = true ∧ iLt 12 (insn_Class0 (n : Nat)) = false ∧
    (iLt 0 (insn_Size0 (n : Nat)) == bif bif iEq (insn_Class0 (n : Nat)) 3 then true else iEq (insn_Class0 (n : Nat)) 4 then true else iEq (insn_Class0 (n : Nat)) 12) = true ∧
    (bif bif bif bif iEq (insn_Size0 (n : Nat)) 0 then true else iEq (insn_Size0 (n : Nat)) 1 then true else iEq (insn_Size0 (n : Nat)) 2 then true else iEq (insn_Size0 (n : Nat)) 4 then true else iEq (insn_Size0 (n : Nat)) 8) = true := by decide +kernel

theorem range_of (a : Int) : (bif iLe 1 a then iLt a 70 else false) = decide (1 ≤ a ∧ a < 70) := by
  cases h : iLe 1 a with
  | false => rw [iLe_false] at h; rw [cond_false]; exact (decide_eq_false (by omega)).symm
  | true =>
    rw [iLe_true] at h
    rw [cond_true]
    by_cases h2 : a < 70
    · rw [iLt_true.2 h2]; exact (decide_eq_true ⟨h, h2⟩).symm
    · rw [iLt_false.2 (by omega)]; exact (decide_eq_false (by omega)).symm

theorem insnNames_true (a b : Int) : sallyportlaw2_InsnNames0 a b = true := by
  unfold sallyportlaw2_InsnNames0
  rw [range_of]
  by_cases ha : 1 ≤ a ∧ a < 70
  · rw [decide_eq_true ha]
    obtain ⟨n, rfl⟩ := Int.eq_ofNat_of_zero_le (show 0 ≤ a by omega)
    obtain ⟨h1, h2, h3, h4, h5, h6⟩ := names_there n (by omega) (by omega)
    rw [h1, h3, h4, h5, h6]
    by_cases hb : 1 ≤ b ∧ b < 70
    · obtain ⟨m, rfl⟩ := Int.eq_ofNat_of_zero_le (show 0 ≤ b by omega)
      rw [names_apart n (by omega) m (by omega) (by omega) (by omega)]
      cases iEq (n : Nat) (m : Nat) <;> rfl
    · rw [name_out hb, h1, iEq_false.2 (show (n : Int) ≠ b by omega)]; rfl
  · rw [decide_eq_false ha, name_out ha, class_out ha, size_out ha]
    by_cases hb : 1 ≤ b ∧ b < 70
    · obtain ⟨m, rfl⟩ := Int.eq_ofNat_of_zero_le (show 0 ≤ b by omega)
      obtain ⟨h1, h2, _⟩ := names_there m (by omega) (by omega)
      rw [h1, h2, iEq_false.2 (show a ≠ (m : Int) by omega)]; rfl
    · rw [name_out hb]
      cases iEq a b <;> rfl

/-- What an instruction that is one has. -/
theorem is_parts {op rd rs1 rs2 imm csr : Int} (h : insn_Is0 op rd rs1 rs2 imm csr = true) : (1 ≤ op ∧ op < 70) ∧ insn_field0 (insn_Of0 op) rd 32 = true ∧ insn_field0 (insn_Of2 op) rs1 32 = true ∧ insn_field0 (insn_Of3 op) rs2 32 = true ∧ insn_field0 (insn_Of1 op) csr 4096 = true ∧
    (bif bif iEq (insn_Of6 op) 0 then iNe imm 0 else false then true
        else bif iLt 0 (insn_Of6 op) then bif bif iLt imm (insn_Of4 op) then true else iLt (insn_Of5 op) imm then true else iNe (iRem imm (insn_Of6 op)) 0 else false) = false := by
  by_cases hr : 1 ≤ op ∧ op < 70
  · unfold insn_Is0 at h
    revert h
    cases iEq (insn_Class0 op) 0
    · generalize (bif bif iEq (insn_Of6 op) 0 then iNe imm 0 else false then true
        else bif iLt 0 (insn_Of6 op) then bif bif iLt imm (insn_Of4 op) then true else iLt (insn_Of5 op) imm then true else iNe (iRem imm (insn_Of6 op)) 0 else false) = bad
      cases bad <;> cases insn_field0 (insn_Of0 op) rd 32 <;> cases insn_field0 (insn_Of2 op) rs1 32 <;> cases insn_field0 (insn_Of3 op) rs2 32 <;> cases insn_field0 (insn_Of1 op) csr 4096 <;> intro h <;> first | exact ⟨hr, rfl, rfl, rfl, rfl, rfl⟩ | cases h
    · intro h; cases h
  · unfold insn_Is0 at h
    rw [class_out hr] at h
    cases h

theorem field_top (h : Bool) (e : Int) (he : 0 < e) : insn_field0 h e e = false := by
  unfold insn_field0
  rw [iEq_false.2 (show e ≠ 0 by omega), iLt_false.2 (Int.le_refl e)]
  cases h <;> cases iLt 0 e <;> rfl
theorem field_low (h : Bool) (e : Int) : insn_field0 h (-1) e = false := by
  cases h <;> rfl

theorem same_is {a b c d e f a' b' c' d' e' f' : Int} (hs : insn_Same0 a b c d e f a' b' c' d' e' f' = true) : insn_Is0 a b c d e f = insn_Is0 a' b' c' d' e' f' := by
  unfold insn_Same0 at hs
  simp only [Bool.and_eq_true, iEq_true] at hs
  obtain ⟨h1, h2, h3, h4, h5, h6⟩ := hs
  rw [h1, h2, h3, h4, h5, h6]

theorem steps : ∀ n, n < 70 → iLt (insn_Of5 (n : Nat)) 2147483648 = true ∧ (iEq (insn_Of6 (n : Nat)) 0 || iLt 0 (insn_Of6 (n : Nat))) = true := by decide +kernel

theorem insnFields_true (a b c d e f w : Int) : sallyportlaw2_InsnFields0 a b c d e f w = true := by
  unfold sallyportlaw2_InsnFields0
  cases hi : insn_Is0 a b c d e f with
  | false =>
    unfold insn_Writes0
    rw [hi]; rfl
  | true =>
    have key : ∀ a' b' c' d' e' f', insn_Is0 a' b' c' d' e' f' = false →
        (bif bif !insn_Is0 a' b' c' d' e' f' then iEq (insn_Writes0 a' b' c' d' e' f') 0 else false then !insn_Same0 a b c d e f a' b' c' d' e' f' else false) = true := fun a' b' c' d' e' f' h => by
      have hs : insn_Same0 a b c d e f a' b' c' d' e' f' = false := by
        cases hq : insn_Same0 a b c d e f a' b' c' d' e' f' with
        | false => rfl
        | true => have := same_is hq; rw [hi, h] at this; cases this
      unfold insn_Writes0
      rw [h, hs]; rfl
    have no : ∀ {a' b' c' d' e' f' : Int}, (insn_Is0 a' b' c' d' e' f' = true → False) → insn_Is0 a' b' c' d' e' f' = false := fun h => by
      rename_i a' b' c' d' e' f'
      cases hq : insn_Is0 a' b' c' d' e' f' with
      | false => rfl
      | true => exact (h hq).elim
    have k0 := key a 32 c d e f (no fun h => by have := (is_parts h).2.1; rw [field_top _ _ (by decide)] at this; cases this)
    have k1 := key a b (-1) d e f (no fun h => by have := (is_parts h).2.2.1; rw [field_low] at this; cases this)
    have k2 := key a b c 32 e f (no fun h => by have := (is_parts h).2.2.2.1; rw [field_top _ _ (by decide)] at this; cases this)
    have k3 := key a b c d e 4096 (no fun h => by have := (is_parts h).2.2.2.2.1; rw [field_top _ _ (by decide)] at this; cases this)
    have k4 := key a b c d 2147483648 f (no fun h => by
      obtain ⟨hr, _, _, _, _, hb⟩ := is_parts h
      obtain ⟨n, hn⟩ := Int.eq_ofNat_of_zero_le (show 0 ≤ a by omega)
      subst hn
      obtain ⟨s1, s2⟩ := steps n (by omega)
      revert hb s2
      rw [s1]
      cases iEq (insn_Of6 (n : Nat)) 0 <;> cases iLt 0 (insn_Of6 (n : Nat)) <;> cases iLt 2147483648 (insn_Of4 (n : Nat)) <;> intro hb s2 <;> first | exact Bool.noConfusion (show true = false from hb) | exact Bool.noConfusion (show false = true from s2))
    have k5 := key 70 b c d e f (no fun h => by have := (is_parts h).1; omega)
    rw [k0, k1, k2, k3, k4, k5]
    simp only [Bool.not_true, cond_false, Bool.cond_self]

theorem field_no (x e : Int) : insn_field0 false x e = iEq x 0 := by
  unfold insn_field0
  cases iEq x 0 <;> rfl
theorem read_facts : ∀ n, n < 70 → ((iEq (insn_Class0 (n : Nat)) 7 || iEq (insn_Class0 (n : Nat)) 8 || iEq (insn_Class0 (n : Nat)) 10) = true → insn_Of0 (n : Nat) = false ∧ insn_Of2 (n : Nat) = false ∧ insn_Of3 (n : Nat) = false) ∧
    ((iEq (insn_Class0 (n : Nat)) 2 || iEq (insn_Class0 (n : Nat)) 4 || iEq (insn_Class0 (n : Nat)) 11) = true → insn_Of0 (n : Nat) = false) ∧ (iEq (insn_Class0 (n : Nat)) 9 = false → insn_Of1 (n : Nat) = false) ∧
    (iEq (insn_Class0 (n : Nat)) 6 = true → iEq (insn_Of6 (n : Nat)) 0 = true) := by decide +kernel

theorem insnReads_true (a b c d e f : Int) : sallyportlaw2_InsnReads0 a b c d e f = true := by
  unfold sallyportlaw2_InsnReads0 insn_Reads0 insn_Reads1 insn_Writes0
  cases hi : insn_Is0 a b c d e f with
  | false => rfl
  | true =>
    obtain ⟨hr, h1, h2, h3, h4, h5⟩ := is_parts hi
    obtain ⟨n, hn⟩ := Int.eq_ofNat_of_zero_le (show 0 ≤ a by omega)
    subst hn
    obtain ⟨f1, f2, f3, f4⟩ := read_facts n (by omega)
    have self : ∀ x : Int, iNe x x = false := fun x => by rw [iNe_false]
    simp only [Bool.not_true, cond_false, self, Bool.cond_self]
    simp only [iNe_not (insn_Class0 _)]
    have g1 : (bif bif bif !iEq (insn_Class0 (n : Nat)) 7 then !iEq (insn_Class0 (n : Nat)) 8 else false then !iEq (insn_Class0 (n : Nat)) 10 else false then true else bif bif iEq c 0 then iEq d 0 else false then iEq b 0 else false) = true := by
      cases hq : (iEq (insn_Class0 (n : Nat)) 7 || iEq (insn_Class0 (n : Nat)) 8 || iEq (insn_Class0 (n : Nat)) 10) with
      | true =>
        obtain ⟨z1, z2, z3⟩ := f1 hq
        rw [z1, field_no] at h1
        rw [z2, field_no] at h2
        rw [z3, field_no] at h3
        rw [h1, h2, h3]; simp
      | false =>
        simp only [Bool.or_eq_false_iff] at hq
        rw [hq.1.1, hq.1.2, hq.2]; rfl
    have g2 : (bif bif bif !iEq (insn_Class0 (n : Nat)) 2 then !iEq (insn_Class0 (n : Nat)) 4 else false then !iEq (insn_Class0 (n : Nat)) 11 else false then true else iEq b 0) = true := by
      cases hq : (iEq (insn_Class0 (n : Nat)) 2 || iEq (insn_Class0 (n : Nat)) 4 || iEq (insn_Class0 (n : Nat)) 11) with
      | true =>
        rw [f2 hq, field_no] at h1
        rw [h1]; simp
      | false =>
        simp only [Bool.or_eq_false_iff] at hq
        rw [hq.1.1, hq.1.2, hq.2]; rfl
    have g3 : (bif iEq (insn_Class0 (n : Nat)) 9 then true else iEq f 0) = true := by
      cases hq : iEq (insn_Class0 (n : Nat)) 9 with
      | true => rfl
      | false => rw [f3 hq, field_no] at h4; rw [h4]; rfl
    have g4 : (bif !iEq (insn_Class0 (n : Nat)) 6 then true else iEq e 0) = true := by
      cases hq : iEq (insn_Class0 (n : Nat)) 6 with
      | false => rfl
      | true =>
        rw [f4 hq, cond_true] at h5
        cases hz : iEq e 0 with
        | true => rfl
        | false => rw [iNe_not, hz] at h5; cases h5
    rw [g1, g2, g3, g4]; rfl

theorem class_steps : ∀ n, n < 69 → 1 ≤ n → (bif bif iLe 1 (insn_Class0 (n : Nat)) then bif iEq (insn_Class0 (iAdd .i64 (n : Nat) 1)) (insn_Class0 (n : Nat)) then true else iEq (insn_Class0 (iAdd .i64 (n : Nat) 1)) (iAdd .i64 (insn_Class0 (n : Nat)) 1) else false then
    iEq (insn_Class0 (iSub .i64 0 (n : Nat))) 0 else false) = true := by decide +kernel

theorem insnClasses_true (a : Int) : sallyportlaw2_InsnClasses0 a = true := by
  unfold sallyportlaw2_InsnClasses0
  by_cases h : 1 ≤ a ∧ a < 69
  · rw [iLt_false.2 h.1, iLe_false.2 h.2]
    obtain ⟨n, hn⟩ := Int.eq_ofNat_of_zero_le (show 0 ≤ a by omega)
    subst hn
    exact class_steps n (by omega) (by omega)
  · have : (bif iLt a 1 then true else iLe 69 a) = true := by
      cases h1 : iLt a 1 with
      | true => rfl
      | false => rw [cond_false, iLe_true]; rw [iLt_false] at h1; omega
    rw [this, cond_true]
    by_cases h69 : a = 69
    · subst h69; decide +kernel
    · rw [class_out (by omega)]; rfl

end Go.Proofs.Ytihmjmaabednjaa.PV
