/-
  Into a trap and back: what the program and the document come to is the same; the level is one of three.
-/
import Derived.Test.YtjnpaegoobclfaaLa
set_option linter.unusedVariables false
set_option linter.unusedSimpArgs false
namespace Go.Proofs.Ytjnpaegoobclfaa.PV
open Go Go.Ev

def is3 (L : Int) : Prop := L = 0 ∨ L = 1 ∨ L = 3

section
variable (X : Nat → Int) (PC L : Int) (V : Bool) (C : Nat → Int) (D : Int) (c v p : Int) (g : Bool)

theorem t0 : (0 : Int) ≤ 0 ∧ (0 : Int) < 64 := by decide
theorem t3 : (0 : Int) ≤ 3 ∧ (3 : Int) < 64 := by decide
theorem t7 : (0 : Int) ≤ 7 ∧ (7 : Int) < 64 := by decide
theorem t1 : (0 : Int) ≤ 1 ∧ (1 : Int) < 64 := by decide
theorem t5 : (0 : Int) ≤ 5 ∧ (5 : Int) < 64 := by decide
theorem t6 : (0 : Int) ≤ 6 ∧ (6 : Int) < 64 := by decide
theorem t8 : (0 : Int) ≤ 8 ∧ (8 : Int) < 64 := by decide
theorem t38 : (0 : Int) ≤ 38 ∧ (38 : Int) < 64 := by decide
theorem t39 : (0 : Int) ≤ 39 ∧ (39 : Int) < 64 := by decide

/-- The machine's status behind a trap. -/
def machI (c L : Int) (V g : Bool) : Int :=
  sallyportref16_set0 (sallyportref16_set0 (sallyportref16_set0 (sallyportref16_set0 (word_Set0 c 11 2 (iConv .u64 L)) 39 V) 38 g) 7 (bitI (sallyportref16_set0 (sallyportref16_set0 (word_Set0 c 11 2 (iConv .u64 L)) 39 V) 38 g) 3)) 3 false

theorem enterM4 (j : Nat) : trap_Enter4 X PC L V C D c v p g 3 false j = bif j == 0 then machI (C 0) L V g else bif j == 9 then p else bif j == 8 then v else bif j == 7 then c else bif j == 6 then PC else C j := by
  have e : trap_Enter4 X PC L V C D c v p g 3 false j = trap_kept__enter0 0 3 7 X (C 4) L V
      (fun i0 => csr_Put4 X (C 4) L V (fun i0 => csr_Put4 X (C 4) L V (fun i0 => bif i0 == 0 then word_Set0 (C 0) 11 2 (iConv .u64 L) else
        bif i0 == 9 then p else bif i0 == 8 then v else bif i0 == 7 then c else bif i0 == 6 then PC else C i0) D 0 39 V i0) D 0 38 g i0) D j := by kernel_rfl
  rw [e, kenter _ _ _ _ _ _ _ _ _ _ t3 t7]
  simp only [put4 _ _ _ _ _ _ _ _ _ _ t39, put4 _ _ _ _ _ _ _ _ _ _ t38, show Int.toNat 0 = 0 from rfl, beq_self_eq_true, cond_true]
  cases j == 0 <;> rfl

/-- The host's status behind a trap of a supervisor. -/
def hostI (h : Int) (V g : Bool) : Int := sallyportref16_set0 (sallyportref16_set0 h 7 V) 6 g

theorem enterS4 (j : Nat) : trap_Enter4 X PC L V C D c v p g 1 false j = bif j == 16 then (bif V then sallyportref16_set0 (hostI (C 16) V g) 8 (iEq (iAnd .i64 L 1) 1) else hostI (C 16) V g) else bif j == 0 then lowI (C 0) L else
    bif j == 20 then p else bif j == 14 then v else bif j == 13 then c else bif j == 12 then PC else C j := by
  have e : trap_Enter4 X PC L V C D c v p g 1 false j = (fun (c0 : Nat → Int) => bif V then csr_Put4 X (C 10) L V (fun i0 => c0 i0) D 16 8 (iEq (iAnd .i64 L 1) 1) j else c0 j)
      (csr_Put4 X (C 10) L V (fun i0 => csr_Put4 X (C 10) L V (fun i0 => trap_lower0 X (C 10) L V (fun i0 =>
        bif i0 == 20 then p else bif i0 == 14 then v else bif i0 == 13 then c else bif i0 == 12 then PC else C i0) D 0 L i0) D 16 7 V i0) D 16 6 g) := by kernel_rfl
  rw [e]
  simp only [put4 _ _ _ _ _ _ _ _ _ _ t8, put4 _ _ _ _ _ _ _ _ _ _ t7, put4 _ _ _ _ _ _ _ _ _ _ t6, lower_of, show Int.toNat 0 = 0 from rfl, show Int.toNat 16 = 16 from rfl, beq_self_eq_true, cond_true]
  cases V <;> cases j == 16 <;> cases j == 0 <;> rfl

theorem enterG4 (j : Nat) : trap_Enter4 X PC L true C D c v p g 1 true j = bif j == 22 then lowI (C 22) L else bif j == 27 then v else bif j == 26 then c else bif j == 25 then PC else C j := by
  have e : trap_Enter4 X PC L true C D c v p g 1 true j = trap_lower0 X (C 23) L true (fun i0 => bif i0 == 27 then v else bif i0 == 26 then c else bif i0 == 25 then PC else C i0) D 22 L j := by kernel_rfl
  rw [e, lower_of]
  rfl

/-- None of the three ways in. -/
theorem enterN4 (l : Int) (u : Bool) (h : ¬ (l = 3 ∧ u = false) ∧ ¬ (l = 1 ∧ u = false) ∧ ¬ (l = 1 ∧ u = true ∧ V = true)) :
    (∀ j, trap_Enter4 X PC L V C D c v p g l u j = C j) ∧ trap_Enter1 X PC L V C D c v p g l u = PC ∧ trap_Enter2 X PC L V C D c v p g l u = L ∧ trap_Enter3 X PC L V C D c v p g l u = V := by
  obtain ⟨h1, h2, h3⟩ := h
  have a1 : (iEq l 3 && u == false) = false := by
    cases u
    · rw [iEq_false.2 (fun e => h1 ⟨e, rfl⟩)]; rfl
    · cases iEq l 3 <;> rfl
  have a2 : (iEq l 1 && u == false) = false := by
    cases u
    · rw [iEq_false.2 (fun e => h2 ⟨e, rfl⟩)]; rfl
    · cases iEq l 1 <;> rfl
  have a3 : (bif iEq l 1 && u == true then V else false) = false := by
    cases u
    · cases iEq l 1 <;> rfl
    · cases V
      · rw [Bool.cond_self]
      · rw [iEq_false.2 (fun e => h3 ⟨e, rfl, rfl⟩)]; rfl
  unfold trap_Enter4 trap_Enter1 trap_Enter2 trap_Enter3
  rw [a1, a2, a3]
  exact ⟨fun _ => rfl, rfl, rfl, rfl⟩

theorem refN4 (l : Int) (u : Bool) (h : ¬ (l = 3 ∧ u = false) ∧ ¬ (l = 1 ∧ u = false) ∧ ¬ (l = 1 ∧ u = true ∧ V = true)) :
    (∀ j, sallyportref16_Enter4 X PC L V C D c v p g l u j = C j) ∧ sallyportref16_Enter1 X PC L V C D c v p g l u = PC ∧ sallyportref16_Enter2 X PC L V C D c v p g l u = L ∧ sallyportref16_Enter3 X PC L V C D c v p g l u = V := by
  obtain ⟨h1, h2, h3⟩ := h
  have a1 : (bif iEq l 3 then !u else false) = false := by
    cases u
    · rw [iEq_false.2 (fun e => h1 ⟨e, rfl⟩)]; rfl
    · cases iEq l 3 <;> rfl
  have a2 : (bif iEq l 1 then !u else false) = false := by
    cases u
    · rw [iEq_false.2 (fun e => h2 ⟨e, rfl⟩)]; rfl
    · cases iEq l 1 <;> rfl
  have a3 : (bif iEq l 1 then V else false) = false := by
    cases V
    · rw [Bool.cond_self]
    · cases u
      · rw [iEq_false.2 (fun e => h2 ⟨e, rfl⟩)]; rfl
      · rw [iEq_false.2 (fun e => h3 ⟨e, rfl, rfl⟩)]; rfl
  unfold sallyportref16_Enter4 sallyportref16_Enter1 sallyportref16_Enter2 sallyportref16_Enter3
  rw [a1, a2, a3]
  exact ⟨fun _ => rfl, rfl, rfl, rfl⟩

theorem mpp_set (c L : Int) (hL : is3 L) : word_Set0 c 11 2 (iConv .u64 L) = iOr .u64 (iAndNot .u64 c 6144) (iShl .u64 (iConv .u64 (iAnd .i64 L 3)) 11) := by
  rcases hL with rfl | rfl | rfl <;> kernel_rfl

theorem enter_eq (hL : is3 L) (l : Int) (u : Bool) : (∀ j, trap_Enter4 X PC L V C D c v p g l u j = sallyportref16_Enter4 X PC L V C D c v p g l u j) ∧ trap_Enter1 X PC L V C D c v p g l u = sallyportref16_Enter1 X PC L V C D c v p g l u ∧
    trap_Enter2 X PC L V C D c v p g l u = sallyportref16_Enter2 X PC L V C D c v p g l u ∧ trap_Enter3 X PC L V C D c v p g l u = sallyportref16_Enter3 X PC L V C D c v p g l u := by
  by_cases h1 : l = 3 ∧ u = false
  · obtain ⟨rfl, rfl⟩ := h1
    refine ⟨fun j => ?_, by kernel_rfl, by kernel_rfl, by kernel_rfl⟩
    rw [enterM4]
    unfold machI
    rw [mpp_set _ _ hL]
    exact (by kernel_rfl : (bif j == 0 then (fun s => sallyportref16_set0 (sallyportref16_set0 s 7 (bitI s 3)) 3 false) (sallyportref16_set0 (sallyportref16_set0 (iOr .u64 (iAndNot .u64 (C 0) 6144) (iShl .u64 (iConv .u64 (iAnd .i64 L 3)) 11)) 39 V) 38 g) else
      bif j == 9 then p else bif j == 8 then v else bif j == 7 then c else bif j == 6 then PC else C j) = sallyportref16_Enter4 X PC L V C D c v p g 3 false j)
  by_cases h2 : l = 1 ∧ u = false
  · obtain ⟨rfl, rfl⟩ := h2
    refine ⟨fun j => ?_, by kernel_rfl, by kernel_rfl, by kernel_rfl⟩
    rw [enterS4]
    cases V
    · exact (by kernel_rfl : (bif j == 16 then hostI (C 16) false g else bif j == 0 then lowI (C 0) L else bif j == 20 then p else bif j == 14 then v else bif j == 13 then c else bif j == 12 then PC else C j) = sallyportref16_Enter4 X PC L false C D c v p g 1 false j)
    · exact (by kernel_rfl : (bif j == 16 then sallyportref16_set0 (hostI (C 16) true g) 8 (iEq (iAnd .i64 L 1) 1) else bif j == 0 then lowI (C 0) L else bif j == 20 then p else bif j == 14 then v else bif j == 13 then c else bif j == 12 then PC else C j) = sallyportref16_Enter4 X PC L true C D c v p g 1 false j)
  by_cases h3 : l = 1 ∧ u = true ∧ V = true
  · obtain ⟨rfl, rfl, rfl⟩ := h3
    refine ⟨fun j => ?_, by kernel_rfl, by kernel_rfl, by kernel_rfl⟩
    rw [enterG4]
    exact (by kernel_rfl : (bif j == 22 then lowI (C 22) L else bif j == 27 then v else bif j == 26 then c else bif j == 25 then PC else C j) = sallyportref16_Enter4 X PC L true C D c v p g 1 true j)
  · obtain ⟨a1, a2, a3, a4⟩ := enterN4 X PC L V C D c v p g l u ⟨h1, h2, h3⟩
    obtain ⟨b1, b2, b3, b4⟩ := refN4 X PC L V C D c v p g l u ⟨h1, h2, h3⟩
    exact ⟨fun j => (a1 j).trans (b1 j).symm, a2.trans b2.symm, a3.trans b3.symm, a4.trans b4.symm⟩

theorem level_eq : sallyportref8_Level0 X PC L V C D = legal_Level0 X PC L V C D := by
  unfold sallyportref8_Level0 legal_Level0
  by_cases h0 : L = 0
  · subst h0; cases V <;> rfl
  by_cases h1 : L = 1
  · subst h1; cases V <;> rfl
  rw [iNe_true.2 h0, iNe_true.2 h1]; rfl

theorem level_cases : legal_Level0 X PC L V C D = 0 ∨ legal_Level0 X PC L V C D = 1 ∨ legal_Level0 X PC L V C D = 3 ∨ legal_Level0 X PC L V C D = 4 ∨ legal_Level0 X PC L V C D = 5 := by
  unfold legal_Level0
  by_cases h0 : L = 0
  · subst h0; cases V <;> decide
  by_cases h1 : L = 1
  · subst h1; cases V <;> decide
  rw [iNe_true.2 h0, iNe_true.2 h1]; exact .inr (.inr (.inl rfl))

theorem mretA : legal_Insn1 X PC L V C D 60 0 0 0 0 0 = iEq (legal_Level0 X PC L V C D) 3 ∧ legal_Insn0 X PC L V C D 60 0 0 0 0 0 = bif iEq (legal_Level0 X PC L V C D) 3 then 0 else 2 := by
  have e1 : legal_Insn1 X PC L V C D 60 0 0 0 0 0 = iEq (legal_Level0 X PC L V C D) 3 := by kernel_rfl
  have e2 : legal_Insn0 X PC L V C D 60 0 0 0 0 0 = (bif iEq (legal_Level0 X PC L V C D) 3 then 0 else 2) := by kernel_rfl
  exact ⟨e1, e2⟩
theorem mretB : sallyportref8_Insn1 X PC L V C D 60 0 0 0 0 0 = iEq (legal_Level0 X PC L V C D) 3 ∧ sallyportref8_Insn0 X PC L V C D 60 0 0 0 0 0 = bif iEq (legal_Level0 X PC L V C D) 3 then 0 else 2 := by
  have e1 : sallyportref8_Insn1 X PC L V C D 60 0 0 0 0 0 = iEq (sallyportref8_Level0 X PC L V C D) 3 := by kernel_rfl
  have e2 : sallyportref8_Insn0 X PC L V C D 60 0 0 0 0 0 = (bif iEq (sallyportref8_Level0 X PC L V C D) 3 then 0 else 2) := by kernel_rfl
  rw [level_eq] at e1 e2
  exact ⟨e1, e2⟩

def sretI (l : Int) (b0 b16 : Bool) : Int := bif iEq l 0 then 2 else bif iEq l 4 then 22 else bif iEq l 1 then (bif !b0 then 0 else 2) else bif iEq l 5 then (bif !b16 then 0 else 22) else 0

theorem sretA : legal_Insn1 X PC L V C D 61 0 0 0 0 0 = iEq (sretI (legal_Level0 X PC L V C D) (bitI (C 0) 22) (bitI (C 16) 22)) 0 ∧ legal_Insn0 X PC L V C D 61 0 0 0 0 0 = sretI (legal_Level0 X PC L V C D) (bitI (C 0) 22) (bitI (C 16) 22) := by
  have e1 : legal_Insn1 X PC L V C D 61 0 0 0 0 0 = (fun l b0 b16 => bif iEq l 0 then false else bif iEq l 4 then false else bif iEq l 1 then !b0 else bif iEq l 5 then !b16 else true) (legal_Level0 X PC L V C D) (bitI (C 0) 22) (bitI (C 16) 22) := by kernel_rfl
  have e2 : legal_Insn0 X PC L V C D 61 0 0 0 0 0 = sretI (legal_Level0 X PC L V C D) (bitI (C 0) 22) (bitI (C 16) 22) := by kernel_rfl
  refine ⟨?_, e2⟩
  rw [e1]
  unfold sretI
  have hl := level_cases X PC L V C D
  rcases hl with h | h | h | h | h <;> rw [h] <;> cases bitI (C 0) 22 <;> cases bitI (C 16) 22 <;> rfl

theorem sretB : sallyportref8_Insn1 X PC L V C D 61 0 0 0 0 0 = iEq (sretI (legal_Level0 X PC L V C D) (bitI (C 0) 22) (bitI (C 16) 22)) 0 ∧ sallyportref8_Insn0 X PC L V C D 61 0 0 0 0 0 = sretI (legal_Level0 X PC L V C D) (bitI (C 0) 22) (bitI (C 16) 22) := by
  have e1 : sallyportref8_Insn1 X PC L V C D 61 0 0 0 0 0 = (fun l b0 b16 => bif bif iEq l 0 then true else bif iEq l 1 then b0 else false then false else bif bif iEq l 4 then true else bif iEq l 5 then b16 else false then false else true) (sallyportref8_Level0 X PC L V C D) (bitI (C 0) 22) (bitI (C 16) 22) := by kernel_rfl
  have e2 : sallyportref8_Insn0 X PC L V C D 61 0 0 0 0 0 = (fun l b0 b16 => bif bif iEq l 0 then true else bif iEq l 1 then b0 else false then 2 else bif bif iEq l 4 then true else bif iEq l 5 then b16 else false then 22 else 0) (sallyportref8_Level0 X PC L V C D) (bitI (C 0) 22) (bitI (C 16) 22) := by kernel_rfl
  rw [level_eq] at e1 e2
  rw [e1, e2]
  unfold sretI
  have hl := level_cases X PC L V C D
  rcases hl with h | h | h | h | h <;> rw [h] <;> cases bitI (C 0) 22 <;> cases bitI (C 16) 22 <;> exact ⟨rfl, rfl⟩

theorem mpp_clear (s : Int) : word_Set0 s 11 2 0 = iAndNot .u64 s 6144 := by
  have e : word_Set0 s 11 2 0 = iOr .u64 (iAndNot .u64 s 6144) 0 := by kernel_rfl
  rw [e]
  apply W_inj (U_or _ _) (U_andNot _ _)
  rw [W_or]
  show W (iAndNot .u64 s 6144) ||| 0#64 = _
  simp

/-- The machine's status behind the way back. -/
def mbackI (c : Int) : Int := sallyportref16_set0 (iAndNot .u64 (sallyportref16_set0 (sallyportref16_set0 c 3 (bitI c 7)) 7 true) 6144) 39 false

theorem mret4 (j : Nat) : trap_Mret4 X PC L V C D j = bif !iEq (legal_Level0 X PC L V C D) 3 then C j else bif j == 0 then mbackI (C 0) else C j := by
  unfold trap_Mret4 trap_Mret_c2 trap_Mret_c1
  rw [(mretA X PC L V C D).1]
  simp only [put4 _ _ _ _ _ _ _ _ _ _ t39, kback _ _ _ _ _ _ _ _ _ _ t3 t7, show Int.toNat 0 = 0 from rfl, beq_self_eq_true, cond_true, mpp_clear]
  cases j == 0 <;> rfl
theorem mret1 : trap_Mret1 X PC L V C D = bif !iEq (legal_Level0 X PC L V C D) 3 then PC else C 6 := by
  unfold trap_Mret1 trap_Mret_c2 trap_Mret_c1
  rw [(mretA X PC L V C D).1]
  simp only [put4 _ _ _ _ _ _ _ _ _ _ t39, kback _ _ _ _ _ _ _ _ _ _ t3 t7, show Int.toNat 0 = 0 from rfl]
  rfl
theorem mret2 : trap_Mret2 X PC L V C D = bif !iEq (legal_Level0 X PC L V C D) 3 then L else iConv .i64 (iAnd .u64 (iShr .u64 (C 0) 11) 3) := by
  unfold trap_Mret2
  rw [(mretA X PC L V C D).1, show word_Bits0 (C 0) 11 2 = iAnd .u64 (iShr .u64 (C 0) 11) 3 by kernel_rfl]
theorem mret3 : trap_Mret3 X PC L V C D = bif !iEq (legal_Level0 X PC L V C D) 3 then V else bif bitI (C 0) 39 then iNe (iConv .i64 (iAnd .u64 (iShr .u64 (C 0) 11) 3)) 3 else false := by
  unfold trap_Mret3 trap_Mret_c0
  rw [(mretA X PC L V C D).1, bit_of _ _ _ _ _ _ _ _ t39, show word_Bits0 (C 0) 11 2 = iAnd .u64 (iShr .u64 (C 0) 11) 3 by kernel_rfl]
  rfl
theorem mret6 : trap_Mret6 X PC L V C D = bif !iEq (legal_Level0 X PC L V C D) 3 then 2 else 0 := by
  unfold trap_Mret6
  rw [(mretA X PC L V C D).1, (mretA X PC L V C D).2]
  cases iEq (legal_Level0 X PC L V C D) 3 <;> rfl
theorem mret7 : trap_Mret7 X PC L V C D = iEq (legal_Level0 X PC L V C D) 3 := by
  unfold trap_Mret7
  rw [(mretA X PC L V C D).1]
  cases iEq (legal_Level0 X PC L V C D) 3 <;> rfl

theorem mret_eq : (∀ j, trap_Mret4 X PC L V C D j = sallyportref16_Mret4 X PC L V C D j) ∧ trap_Mret1 X PC L V C D = sallyportref16_Mret1 X PC L V C D ∧ trap_Mret2 X PC L V C D = sallyportref16_Mret2 X PC L V C D ∧
    trap_Mret3 X PC L V C D = sallyportref16_Mret3 X PC L V C D ∧ trap_Mret6 X PC L V C D = sallyportref16_Mret6 X PC L V C D ∧ trap_Mret7 X PC L V C D = sallyportref16_Mret7 X PC L V C D := by
  obtain ⟨b1, b2⟩ := mretB X PC L V C D
  refine ⟨fun j => ?_, ?_, ?_, ?_, ?_, ?_⟩
  · rw [mret4]; unfold sallyportref16_Mret4; rw [b1]; rfl
  · rw [mret1]; unfold sallyportref16_Mret1; rw [b1]
  · rw [mret2]; unfold sallyportref16_Mret2; rw [b1]
  · rw [mret3]; unfold sallyportref16_Mret3; rw [b1]; rfl
  · rw [mret6]; unfold sallyportref16_Mret6; rw [b1, b2]; cases iEq (legal_Level0 X PC L V C D) 3 <;> rfl
  · rw [mret7]; unfold sallyportref16_Mret7; rw [b1]; cases iEq (legal_Level0 X PC L V C D) 3 <;> rfl

/-- A supervisor's status behind the way back. -/
def sbackI (c : Int) : Int := sallyportref16_set0 (sallyportref16_set0 (sallyportref16_set0 c 1 (bitI c 5)) 5 true) 8 false
abbrev goesS : Bool := iEq (sretI (legal_Level0 X PC L V C D) (bitI (C 0) 22) (bitI (C 16) 22)) 0

theorem sret4 (j : Nat) : trap_Sret4 X PC L V C D j = bif !goesS X PC L V C D then C j else bif V then (bif j == 22 then sbackI (C 22) else C j) else bif j == 0 then sbackI (C 0) else bif j == 16 then sallyportref16_set0 (C 16) 7 false else C j := by
  unfold trap_Sret4 trap_Sret_c1 trap_Sret_c2
  rw [(sretA X PC L V C D).1]
  simp only [put4 _ _ _ _ _ _ _ _ _ _ t8, put4 _ _ _ _ _ _ _ _ _ _ t7, kback _ _ _ _ _ _ _ _ _ _ t1 t5, show Int.toNat 0 = 0 from rfl, show Int.toNat 16 = 16 from rfl, show Int.toNat 22 = 22 from rfl, beq_self_eq_true, cond_true]
  cases V <;> cases j == 22 <;> cases j == 0 <;> rfl
theorem sret1 : trap_Sret1 X PC L V C D = bif !goesS X PC L V C D then PC else bif V then C 25 else C 12 := by
  unfold trap_Sret1 trap_Sret_c1 trap_Sret_c2
  rw [(sretA X PC L V C D).1]
  simp only [put4 _ _ _ _ _ _ _ _ _ _ t8, put4 _ _ _ _ _ _ _ _ _ _ t7, kback _ _ _ _ _ _ _ _ _ _ t1 t5, show Int.toNat 0 = 0 from rfl, show Int.toNat 16 = 16 from rfl, show Int.toNat 22 = 22 from rfl]
  rfl
theorem sret2 : trap_Sret2 X PC L V C D = bif !goesS X PC L V C D then L else bif V then iConv .i64 (iAnd .u64 (iShr .u64 (C 22) 8) 1) else iConv .i64 (iAnd .u64 (iShr .u64 (C 0) 8) 1) := by
  unfold trap_Sret2 trap_Sret_c0
  rw [(sretA X PC L V C D).1, bits_1 t8, bits_1 t8, put4 _ _ _ _ _ _ _ _ _ _ t7]
  rfl
theorem sret3 : trap_Sret3 X PC L V C D = bif !goesS X PC L V C D then V else bif V then V else bitI (C 16) 7 := by
  unfold trap_Sret3
  rw [(sretA X PC L V C D).1, bit_of _ _ _ _ _ _ _ _ t7]
  rfl
theorem sret6 : trap_Sret6 X PC L V C D = bif !goesS X PC L V C D then sretI (legal_Level0 X PC L V C D) (bitI (C 0) 22) (bitI (C 16) 22) else 0 := by
  unfold trap_Sret6
  rw [(sretA X PC L V C D).1, (sretA X PC L V C D).2]
theorem sret7 : trap_Sret7 X PC L V C D = goesS X PC L V C D := by
  unfold trap_Sret7
  rw [(sretA X PC L V C D).1]
  show (bif !goesS X PC L V C D then false else true) = goesS X PC L V C D
  generalize goesS X PC L V C D = b
  cases b <;> rfl

theorem sret_eq : (∀ j, trap_Sret4 X PC L V C D j = sallyportref16_Sret4 X PC L V C D j) ∧ trap_Sret1 X PC L V C D = sallyportref16_Sret1 X PC L V C D ∧ trap_Sret2 X PC L V C D = sallyportref16_Sret2 X PC L V C D ∧
    trap_Sret3 X PC L V C D = sallyportref16_Sret3 X PC L V C D ∧ trap_Sret6 X PC L V C D = sallyportref16_Sret6 X PC L V C D ∧ trap_Sret7 X PC L V C D = sallyportref16_Sret7 X PC L V C D := by
  obtain ⟨b1, b2⟩ := sretB X PC L V C D
  refine ⟨fun j => ?_, ?_, ?_, ?_, ?_, ?_⟩
  · rw [sret4]; unfold sallyportref16_Sret4; rw [b1]; rfl
  · rw [sret1]; unfold sallyportref16_Sret1; rw [b1]
  · rw [sret2]; unfold sallyportref16_Sret2; rw [b1]
  · rw [sret3]; unfold sallyportref16_Sret3; rw [b1]; rfl
  · rw [sret6]; unfold sallyportref16_Sret6; rw [b1, b2]
  · rw [sret7]; unfold sallyportref16_Sret7; rw [b1]
    show goesS X PC L V C D = (bif !goesS X PC L V C D then false else true)
    generalize goesS X PC L V C D = b
    cases b <;> rfl

theorem clean2_is3 : is3 (sallyportref18_Clean2 X PC L V C D) := by
  unfold sallyportref18_Clean2
  by_cases h0 : L = 0
  · subst h0; exact .inl rfl
  by_cases h1 : L = 1
  · subst h1; exact .inr (.inl rfl)
  by_cases h3 : L = 3
  · subst h3; exact .inr (.inr rfl)
  rw [iNe_true.2 h0, iNe_true.2 h1, iNe_true.2 h3]; exact .inr (.inr rfl)

end
end Go.Proofs.Ytjnpaegoobclfaa.PV
