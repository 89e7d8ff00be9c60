/-
  Who may: the program's answers and the document's are the same; no condition.
-/
import Derived.Test.YtdfafnelmpflgaaLg
set_option linter.unusedVariables false
set_option linter.unusedSimpArgs false
namespace Go.Proofs.Ytdfafnelmpflgaa.PV
open Go Go.Ev

section
variable (X : Nat → Int) (PC L : Int) (V : Bool) (C : Nat → Int) (D : Int)

theorem level_eq : sallyportref8_Level0 X PC L V C D = legal_Level0 X PC L V C D := by
  unfold sallyportref8_Level0 legal_Level0
  by_cases h0 : L = 0
  · subst h0; cases V <;> rfl
  by_cases h1 : L = 1
  · subst h1; cases V <;> rfl
  rw [iNe_true.2 h0, iNe_true.2 h1]; rfl

theorem level_cases : legal_Level0 X PC L V C D = 0 ∨ legal_Level0 X PC L V C D = 1 ∨ legal_Level0 X PC L V C D = 3 ∨ legal_Level0 X PC L V C D = 4 ∨ legal_Level0 X PC L V C D = 5 := by
  unfold legal_Level0
  by_cases h0 : L = 0
  · subst h0; cases V <;> decide
  by_cases h1 : L = 1
  · subst h1; cases V <;> decide
  rw [iNe_true.2 h0, iNe_true.2 h1]; exact .inr (.inr (.inl rfl))

theorem there_eq (n : Int) : sallyportref8_Read1 X PC L V C D n = csr_Is0 n := by
  refine four (fun n => sallyportref8_Read1 X PC L V C D n = csr_Is0 n) n (by kernel_rfl) (by kernel_rfl) (by kernel_rfl) (by kernel_rfl) fun h1 h2 h3 h4 => ?_
  unfold sallyportref8_Read1 csr_Is0
  rw [iEq_false.2 h1, iEq_false.2 h2, iEq_false.2 h3, iEq_false.2 h4, index_eq]
  cases iLe 0 (csr_Index0 n) <;> rfl

theorem bit_16_20 : sallyportref8_Bit0 X PC L V C D 16 20 = csr_Bit0 X PC L V C D 16 20 := by kernel_rfl
theorem bit_0_20 : sallyportref8_Bit0 X PC L V C D 0 20 = csr_Bit0 X PC L V C D 0 20 := by kernel_rfl
theorem bit_16_22 : sallyportref8_Bit0 X PC L V C D 16 22 = csr_Bit0 X PC L V C D 16 22 := by kernel_rfl
theorem bit_0_22 : sallyportref8_Bit0 X PC L V C D 0 22 = csr_Bit0 X PC L V C D 0 22 := by kernel_rfl
theorem bit_16_21 : sallyportref8_Bit0 X PC L V C D 16 21 = csr_Bit0 X PC L V C D 16 21 := by kernel_rfl
theorem bit_0_21 : sallyportref8_Bit0 X PC L V C D 0 21 = csr_Bit0 X PC L V C D 0 21 := by kernel_rfl
theorem bit_16_9 : sallyportref8_Bit0 X PC L V C D 16 9 = csr_Bit0 X PC L V C D 16 9 := by kernel_rfl

theorem ask_cases (n : Int) : legal_ask0 n = 0 ∨ legal_ask0 n = 1 ∨ legal_ask0 n = 2 ∨ legal_ask0 n = 3 := by
  have := ask_in (iShr .i64 n 8)
  unfold legal_ask0
  omega

def cA0 (t w q e3 e1 b16 b0 : Bool) (l a : Int) : Int :=
  bif bif !t then true else bif w then q else false then 2
  else
    bif iLe 4 l then
      (bif e3 then 22 else bif iEq a 3 then 2 else bif bif iEq a 2 then true else iEq l 4 then 22 else (bif (bif !e1 then true else !b16) then 0 else 22))
    else
      bif e3 then (bif iLe 1 l then 0 else 2)
      else bif bif bif e1 then iEq l 1 else false then b0 else false then 2
      else (bif (iLe (bif a.toNat == 3 then 3 else bif a.toNat == 2 then 1 else bif a.toNat == 1 then 1 else bif a.toNat == 0 then 0 else 0) l) then 0 else 2)
def cB0 (t w q e3 e1 b16 b0 : Bool) (l a : Int) : Int :=
  bif bif !t then true else bif w then q else false then 2
  else
    bif bif iLe 4 l then iEq a 3 else false then 2
    else
      bif bif iLe 4 l then bif bif bif e3 then true else iEq a 2 then true else iNe l 5 then true else bif e1 then b16 else false else false then 22
      else bif iLe 4 l then 0
      else bif e3 then (bif iLe 1 l then 0 else 2)
      else bif iEq a 3 then (bif iEq l 3 then 0 else 2)
      else bif bif bif iLt 0 a then iLt l 1 else false then true else bif bif e1 then iEq l 1 else false then b0 else false then 2 else 0

theorem cAB (l a : Int) (hl : l = 0 ∨ l = 1 ∨ l = 3 ∨ l = 4 ∨ l = 5) (ha : a = 0 ∨ a = 1 ∨ a = 2 ∨ a = 3) (t w q e3 e1 b16 b0 : Bool) (h3 : e3 = true → a = 0) (h1 : e1 = true → a = 1) : cB0 t w q e3 e1 b16 b0 l a = cA0 t w q e3 e1 b16 b0 l a := by
  rcases ha with rfl | rfl | rfl | rfl
  · have : e1 = false := by cases e1 with
      | false => rfl
      | true => exact absurd (h1 rfl) (by decide)
    subst this
    clear h1 h3
    rcases hl with rfl | rfl | rfl | rfl | rfl <;> (revert t w q e3 b16 b0; decide)
  · have : e3 = false := by cases e3 with
      | false => rfl
      | true => exact absurd (h3 rfl) (by decide)
    subst this
    clear h1 h3
    rcases hl with rfl | rfl | rfl | rfl | rfl <;> (revert t w q e1 b16 b0; decide)
  all_goals
    have e3f : e3 = false := by cases e3 with
      | false => rfl
      | true => exact absurd (h3 rfl) (by decide)
    have e1f : e1 = false := by cases e1 with
      | false => rfl
      | true => exact absurd (h1 rfl) (by decide)
    subst e3f e1f
    clear h1 h3
    rcases hl with rfl | rfl | rfl | rfl | rfl <;> (revert t w q b16 b0; decide)

theorem csrA (n : Int) (w : Bool) : legal_Csr0 X PC L V C D n w = cA0 (csr_Is0 n) w (iLe 3072 n) (iEq n 3074) (iEq n 384) (csr_Bit0 X PC L V C D 16 20) (csr_Bit0 X PC L V C D 0 20) (legal_Level0 X PC L V C D) (legal_ask0 n) := rfl
theorem csrB (n : Int) (w : Bool) : sallyportref8_Csr0 X PC L V C D n w = cB0 (csr_Is0 n) w (iLe 3072 n) (iEq n 3074) (iEq n 384) (csr_Bit0 X PC L V C D 16 20) (csr_Bit0 X PC L V C D 0 20) (legal_Level0 X PC L V C D) (legal_ask0 n) := by
  have e : sallyportref8_Csr0 X PC L V C D n w = cB0 (sallyportref8_Read1 X PC L V C D n) w (iLe 3072 n) (iEq n 3074) (iEq n 384) (sallyportref8_Bit0 X PC L V C D 16 20) (sallyportref8_Bit0 X PC L V C D 0 20) (sallyportref8_Level0 X PC L V C D) (legal_ask0 n) := rfl
  rw [e, there_eq, level_eq, bit_16_20, bit_0_20]

theorem e3_ask (n : Int) (h : iEq n 3074 = true) : legal_ask0 n = 0 := by rw [iEq_true] at h; subst h; decide +kernel
theorem e1_ask (n : Int) (h : iEq n 384 = true) : legal_ask0 n = 1 := by rw [iEq_true] at h; subst h; decide +kernel

theorem csr0_eq (n : Int) (w : Bool) : sallyportref8_Csr0 X PC L V C D n w = legal_Csr0 X PC L V C D n w := by
  rw [csrA, csrB]
  exact cAB _ _ (level_cases X PC L V C D) (ask_cases n) _ _ _ _ _ _ _ (e3_ask n) (e1_ask n)

/-- It may just if there is no cause. -/
theorem csr1_of (n : Int) (w : Bool) : legal_Csr1 X PC L V C D n w = iEq (legal_Csr0 X PC L V C D n w) 0 := by
  rw [csrA]
  show (bif bif !csr_Is0 n then true else bif w then iLe 3072 n else false then false else _) = _
  have e : legal_Csr1 X PC L V C D n w = (fun t w q e3 e1 b16 b0 (l a : Int) =>
    bif bif !t then true else bif w then q else false then false
    else
    bif iLe 4 l then
      (bif e3 then false else bif iEq a 3 then false else bif bif iEq a 2 then true else iEq l 4 then false else (bif (bif !e1 then true else !b16) then true else false))
    else
      bif e3 then (bif iLe 1 l then true else false)
      else bif bif bif e1 then iEq l 1 else false then b0 else false then false
      else (bif (iLe (bif a.toNat == 3 then 3 else bif a.toNat == 2 then 1 else bif a.toNat == 1 then 1 else bif a.toNat == 0 then 0 else 0) l) then true else false)) (csr_Is0 n) w (iLe 3072 n) (iEq n 3074) (iEq n 384) (csr_Bit0 X PC L V C D 16 20) (csr_Bit0 X PC L V C D 0 20) (legal_Level0 X PC L V C D) (legal_ask0 n) := rfl
  show legal_Csr1 X PC L V C D n w = _
  rw [e]; clear e
  have hl := level_cases X PC L V C D
  have ha := ask_cases n
  revert hl ha
  generalize csr_Is0 n = t
  generalize iLe 3072 n = q
  generalize iEq n 3074 = e3
  generalize iEq n 384 = e1
  generalize csr_Bit0 X PC L V C D 16 20 = b16
  generalize csr_Bit0 X PC L V C D 0 20 = b0
  generalize legal_Level0 X PC L V C D = l
  generalize legal_ask0 n = a
  intro hl ha
  show (fun t w q e3 e1 b16 b0 (l a : Int) => _) t w q e3 e1 b16 b0 l a = _
  revert t w q e3 e1 b16 b0
  rcases ha with rfl | rfl | rfl | rfl <;> rcases hl with rfl | rfl | rfl | rfl | rfl <;> decide

theorem csr1_of' (n : Int) (w : Bool) : sallyportref8_Csr1 X PC L V C D n w = iEq (sallyportref8_Csr0 X PC L V C D n w) 0 := by
  have e : sallyportref8_Csr1 X PC L V C D n w = (fun t w q e3 e1 b16 b0 (l a : Int) =>
    bif bif !t then true else bif w then q else false then false
    else
    bif bif iLe 4 l then iEq a 3 else false then false
    else
      bif bif iLe 4 l then bif bif bif e3 then true else iEq a 2 then true else iNe l 5 then true else bif e1 then b16 else false else false then false
      else bif iLe 4 l then true
      else bif e3 then (bif iLe 1 l then true else false)
      else bif iEq a 3 then (bif iEq l 3 then true else false)
      else bif bif bif iLt 0 a then iLt l 1 else false then true else bif bif e1 then iEq l 1 else false then b0 else false then false else true)
      (sallyportref8_Read1 X PC L V C D n) w (iLe 3072 n) (iEq n 3074) (iEq n 384) (sallyportref8_Bit0 X PC L V C D 16 20) (sallyportref8_Bit0 X PC L V C D 0 20) (sallyportref8_Level0 X PC L V C D) (legal_ask0 n) := rfl
  rw [e, csrB, there_eq, level_eq, bit_16_20, bit_0_20]; clear e
  have hl := level_cases X PC L V C D
  have ha := ask_cases n
  revert hl ha
  generalize csr_Is0 n = t
  generalize iLe 3072 n = q
  generalize iEq n 3074 = e3
  generalize iEq n 384 = e1
  generalize csr_Bit0 X PC L V C D 16 20 = b16
  generalize csr_Bit0 X PC L V C D 0 20 = b0
  generalize legal_Level0 X PC L V C D = l
  generalize legal_ask0 n = a
  intro hl ha
  show (fun t w q e3 e1 b16 b0 (l a : Int) => _) t w q e3 e1 b16 b0 l a = _
  revert t w q e3 e1 b16 b0
  rcases ha with rfl | rfl | rfl | rfl <;> rcases hl with rfl | rfl | rfl | rfl | rfl <;> decide

theorem csr1_eq (n : Int) (w : Bool) : sallyportref8_Csr1 X PC L V C D n w = legal_Csr1 X PC L V C D n w := by
  rw [csr1_of', csr1_of, csr0_eq]

theorem legal_CsrT (n : Int) (w : Bool) : legal_CsrG X PC L V C D n w = true := by
  have ha : iIn (legal_ask0 n) 4 = true := by rw [iIn_true]; have := ask_cases n; omega
  have e : legal_CsrG X PC L V C D n w = (bif bif !csr_Is0 n then true else bif w then iLe 3072 n else false then true
      else bif iLe 4 (legal_Level0 X PC L V C D) then true else bif iEq n 3074 then true else
        ((!bif iEq n 384 then iEq (legal_Level0 X PC L V C D) 1 else false) || csr_BitG X PC L V C D 0 20) && bif bif bif iEq n 384 then iEq (legal_Level0 X PC L V C D) 1 else false then csr_Bit0 X PC L V C D 0 20 else false then true else iIn (legal_ask0 n) 4 && true) := rfl
  rw [e, ha, show csr_BitG X PC L V C D 0 20 = true from rfl]
  cases csr_Is0 n <;> cases w <;> cases iLe 3072 n <;> cases iLe 4 (legal_Level0 X PC L V C D) <;> cases iEq n 3074 <;> cases (bif iEq n 384 then iEq (legal_Level0 X PC L V C D) 1 else false) <;> cases csr_Bit0 X PC L V C D 0 20 <;> rfl

theorem class_in (n : Int) : 0 ≤ insn_Class0 n ∧ insn_Class0 n < 13 := by
  show (fun x : Int => 0 ≤ x ∧ x < 13) (insn_Class0 n)
  unfold insn_Class0
  repeat' (refine cond_all (p := fun x : Int => 0 ≤ x ∧ x < 13) ?_ ?_)
  all_goals decide

theorem legal_InsnT (a b c d e f : Int) : legal_InsnG X PC L V C D a b c d e f = true := by
  have h : legal_InsnG X PC L V C D a b c d e f = (bif !insn_Is0 a b c d e f then true else bif iEq (insn_Class0 a) 9 then legal_CsrG X PC L V C D f (legal_Writes0 a b c d e f) && true else
      bif iEq a 60 then true else bif iEq a 61 then true else bif iEq a 63 then true else bif iEq a 62 then true
            else bif iEq a 64 then bif iEq a 64 then true else true else bif iEq a 65 then bif iEq a 65 then true else true else bif iEq (insn_Class0 a) 12 then true else true) := rfl
  rw [h, legal_CsrT]
  simp only [Bool.cond_self, Bool.and_true]

/-- The classes of some operations. -/
theorem class_11 (op : Int) : iEq (insn_Class0 op) 11 = (iEq op 63 || iEq op 64 || iEq op 65) := by
  by_cases h : 1 ≤ op ∧ op < 70
  · obtain ⟨n, rfl⟩ := Int.eq_ofNat_of_zero_le (show 0 ≤ op by omega)
    have : ∀ n, n < 70 → iEq (insn_Class0 (n : Nat)) 11 = (iEq (n : Nat) 63 || iEq (n : Nat) 64 || iEq (n : Nat) 65) := by decide +kernel
    exact this n (by omega)
  · rw [class_out h, iEq_false.2 (show op ≠ 63 by omega), iEq_false.2 (show op ≠ 64 by omega), iEq_false.2 (show op ≠ 65 by omega)]; rfl

def iA (is e9 e60 e61 e62 e63 e64 e65 e12 b16_22 b0_22 b16_20 b0_20 b16_21 b0_21 b9 : Bool) (l cs : Int) : Int :=
  bif !is then 2 else bif e9 then cs else bif e60 then (bif iEq l 3 then 0 else 2)
  else bif e61 then (bif iEq l 0 then 2 else bif iEq l 4 then 22 else bif iEq l 1 then (bif !b0_22 then 0 else 2) else bif iEq l 5 then (bif !b16_22 then 0 else 22) else 0)
  else bif e63 then (bif iEq l 0 then 2 else bif iEq l 4 then 22 else bif iEq l 1 then (bif !b0_20 then 0 else 2) else bif iEq l 5 then (bif !b16_20 then 0 else 22) else 0)
  else bif e62 then (bif iEq l 0 then bif iEq l 0 then 2 else bif iEq l 4 then bif iEq l 4 then 22 else 0 else bif bif iEq l 5 then b16_21 else false then 22 else 0
    else bif bif iNe l 3 then b0_21 else false then 2 else bif iEq l 4 then bif iEq l 4 then 22 else 0 else bif bif iEq l 5 then b16_21 else false then 22 else 0)
  else bif bif e64 then true else bif e65 then true else e12 then (bif iLe 4 l then 22 else bif iEq l 0 then (bif (bif e12 then b9 else false) then 0 else 2) else bif bif iEq l 1 then e65 else false then (bif !b0_20 then 0 else 2) else 0) else 0
def iB (is e9 e60 e61 e62 e63 e64 e65 e12 b16_22 b0_22 b16_20 b0_20 b16_21 b0_21 b9 : Bool) (l cs : Int) : Int :=
  bif !is then 2 else bif e9 then cs else bif e60 then (bif iEq l 3 then 0 else 2)
  else bif e61 then (bif bif iEq l 0 then true else bif iEq l 1 then b0_22 else false then 2 else bif bif iEq l 4 then true else bif iEq l 5 then b16_22 else false then 22 else 0)
  else bif e63 then (bif bif iEq l 0 then true else bif iEq l 1 then b0_20 else false then 2 else bif bif iEq l 4 then true else bif iEq l 5 then b16_20 else false then 22 else 0)
  else bif e62 then (bif bif iEq l 0 then true else bif iNe l 3 then b0_21 else false then 2 else bif bif iEq l 4 then true else bif iEq l 5 then b16_21 else false then 22 else 0)
  else bif bif (e63 || e64 || e65) then true else e12 then (bif iLe 4 l then 22 else bif bif bif iEq l 0 then bif (e63 || e64 || e65) then true else !b9 else false then true else bif bif e65 then iEq l 1 else false then b0_20 else false then 2 else 0) else 0

theorem iAB (l cs : Int) (hl : l = 0 ∨ l = 1 ∨ l = 3 ∨ l = 4 ∨ l = 5) (is e9 e60 e61 e62 e63 e64 e65 e12 b16_22 b0_22 b16_20 b0_20 b16_21 b0_21 b9 : Bool) (h : (e63 || e64 || e65) = true → e12 = false) :
    iB is e9 e60 e61 e62 e63 e64 e65 e12 b16_22 b0_22 b16_20 b0_20 b16_21 b0_21 b9 l cs = iA is e9 e60 e61 e62 e63 e64 e65 e12 b16_22 b0_22 b16_20 b0_20 b16_21 b0_21 b9 l cs := by
  unfold iA iB
  cases is
  · rfl
  cases e9
  case true => rfl
  cases e60
  case true => rfl
  cases e61
  case true => rcases hl with rfl | rfl | rfl | rfl | rfl <;> cases b0_22 <;> cases b16_22 <;> rfl
  cases e63
  case true => rcases hl with rfl | rfl | rfl | rfl | rfl <;> cases b0_20 <;> cases b16_20 <;> rfl
  cases e62
  case true => rcases hl with rfl | rfl | rfl | rfl | rfl <;> cases b0_21 <;> cases b16_21 <;> rfl
  cases e64
  · cases e65
    · cases e12
      · rfl
      · rcases hl with rfl | rfl | rfl | rfl | rfl <;> cases b9 <;> rfl
    · have : e12 = false := h rfl
      subst this
      rcases hl with rfl | rfl | rfl | rfl | rfl <;> cases b0_20 <;> rfl
  · have : e12 = false := h rfl
    subst this
    cases e65 <;> rcases hl with rfl | rfl | rfl | rfl | rfl <;> cases b0_20 <;> rfl

end
end Go.Proofs.Ytdfafnelmpflgaa.PV
