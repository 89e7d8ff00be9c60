/-
  Who may: a guest's registers; what is read alone. No condition but the numbers' own bounds.
-/
import Derived.Test.YtdfafnelmpflgaaLi
set_option linter.unusedVariables false
set_option linter.unusedSimpArgs false
namespace Go.Proofs.Ytdfafnelmpflgaa.PV
open Go Go.Ev

theorem conv_small {x : Int} (h : 0 ≤ x ∧ x < 65536) : iConv .i64 x = x := wrapI (by omega) (by omega)
theorem rem_small {x n : Int} (h : 0 ≤ x) (hn : 0 < n) : 0 ≤ iRem x n ∧ iRem x n < n := by
  unfold iRem
  rw [Int.tmod_eq_emod_of_nonneg h]
  exact ⟨Int.emod_nonneg _ (by omega), Int.emod_lt_of_pos _ hn⟩
theorem field_in {x e : Int} (h0 : 0 ≤ x) (h1 : x < e) : insn_field0 true x e = true := by
  unfold insn_field0
  by_cases h : x = 0
  · rw [iEq_true.2 h]; rfl
  · rw [iEq_false.2 h, cond_true, iLt_true.2 (show 0 < x by omega), iLt_true.2 h1]; rfl

theorem numbers_are : ∀ n, n < 29 → csr_Is0 (sallyportref8_Number0 (n : Nat)) = true := by decide +kernel

section
variable (X : Nat → Int) (PC L : Int) (V : Bool) (C : Nat → Int) (D : Int)

theorem insn_vals (a b c d e f : Int) : legal_Insn0 X PC L V C D a b c d e f = 0 ∨ legal_Insn0 X PC L V C D a b c d e f = 2 ∨ legal_Insn0 X PC L V C D a b c d e f = 22 := by
  show (fun x : Int => x = 0 ∨ x = 2 ∨ x = 22) (legal_Insn0 X PC L V C D a b c d e f)
  rw [insnA, csrA]
  unfold iA cA0
  repeat' (refine cond_all (p := fun x : Int => x = 0 ∨ x = 2 ∨ x = 22) ?_ ?_)
  all_goals decide

theorem guest_vals (N : Int) (hN : csr_Is0 N = true) (l : Int) (hl : l = 4 ∨ l = 5) (hL : legal_Level0 X PC L V C D = l) :
    (legal_ask0 N = 3 → legal_Csr0 X PC L V C D N false = 2) ∧ (legal_ask0 N = 2 → legal_Csr0 X PC L V C D N false = 22) ∧ (l = 4 → legal_ask0 N ≠ 3 → legal_Csr0 X PC L V C D N false = 22) := by
  rw [csrA, hN, hL]
  have h3 := e3_ask N
  revert h3
  generalize iEq N 3074 = e3
  generalize iEq N 384 = e1
  generalize csr_Bit0 X PC L V C D 16 20 = b16
  generalize csr_Bit0 X PC L V C D 0 20 = b0
  generalize iLe 3072 N = q
  have ha := ask_cases N
  revert ha
  generalize legal_ask0 N = a
  intro ha h3
  refine ⟨fun h => ?_, fun h => ?_, fun h h' => ?_⟩
  · subst h
    have : e3 = false := by cases e3 with
      | false => rfl
      | true => exact absurd (h3 rfl) (by decide)
    subst this
    rcases hl with rfl | rfl <;> rfl
  · subst h
    have : e3 = false := by cases e3 with
      | false => rfl
      | true => exact absurd (h3 rfl) (by decide)
    subst this
    rcases hl with rfl | rfl <;> rfl
  · subst h
    rcases ha with rfl | rfl | rfl | rfl
    · cases e3 <;> rfl
    · cases e3 <;> rfl
    · cases e3 <;> rfl
    · exact absurd rfl h'

theorem guest_insn (a b c d e f : Int) (hL : legal_Level0 X PC L V C D = 4 ∨ legal_Level0 X PC L V C D = 5) (h : 64 ≤ a ∧ a ≤ 69) : iEq (legal_Insn0 X PC L V C D a b c d e f) 0 = false := by
  rw [insnA]
  have hf : ∀ n, n < 70 → 64 ≤ n → iEq (insn_Class0 (n : Nat)) 9 = false ∧ iEq (n : Nat) 60 = false ∧ iEq (n : Nat) 61 = false ∧ iEq (n : Nat) 62 = false ∧ iEq (n : Nat) 63 = false ∧ (bif iEq (n : Nat) 64 then true else bif iEq (n : Nat) 65 then true else iEq (insn_Class0 (n : Nat)) 12) = true := by decide +kernel
  obtain ⟨n, rfl⟩ := Int.eq_ofNat_of_zero_le (show 0 ≤ a by omega)
  obtain ⟨h1, h2, h3, h4, h5, h6⟩ := hf n (by omega) (by omega)
  unfold iA
  rw [h1, h2, h3, h4, h5, h6]
  cases insn_Is0 (n : Nat) b c d e f with
  | false => rfl
  | true => rcases hL with hL | hL <;> (rw [hL]; rfl)

theorem legalGuest_true (k : Int) (hk : 0 ≤ k ∧ k < 256) (u : Bool) (a b c d e f : Int) : sallyportlaw9_LegalGuest0 X PC L V C D k u a b c d e f = true := by
  unfold sallyportlaw9_LegalGuest0
  rw [conv_small (by omega)]
  have hN : csr_Is0 (sallyportref8_Number0 (iRem k 29)) = true := by
    have hr := rem_small (n := 29) hk.1 (by decide)
    obtain ⟨n, hn⟩ := Int.eq_ofNat_of_zero_le hr.1
    rw [hn]; exact numbers_are n (by omega)
  revert hN
  generalize sallyportref8_Number0 (iRem k 29) = N
  intro hN
  have e0 : iAnd .i64 (iShr .i64 N 8) 3 = legal_ask0 N := rfl
  simp only [e0, csr1_of, insn1_of]
  have ha := ask_cases N
  have hop : (bif bif iLe 64 a then iLe a 69 else false then iNe a 63 else false) = true → 64 ≤ a ∧ a ≤ 69 := by
    intro h
    cases h1 : iLe 64 a with
    | false => rw [h1] at h; simp at h
    | true =>
      cases h2 : iLe a 69 with
      | false => rw [h1, h2] at h; simp at h
      | true => exact ⟨iLe_true.1 h1, iLe_true.1 h2⟩
  revert hop
  generalize (bif bif iLe 64 a then iLe a 69 else false then iNe a 63 else false) = g
  intro hop
  generalize sallyportref18_Clean1 (fun i0 => X i0) PC L V (fun i0 => C i0) D = PC'
  generalize sallyportref18_Clean5 (fun i0 => X i0) PC L V (fun i0 => C i0) D = D'
  generalize (fun i0 => sallyportref18_Clean0 (fun i0 => X i0) PC L V (fun i0 => C i0) D i0) = X'
  generalize (fun i0 => sallyportref18_Clean4 (fun i0 => X i0) PC L V (fun i0 => C i0) D i0) = C'
  have v0 := guest_vals X' PC' 0 true C' D' N hN 4 (.inl rfl) rfl
  have v1 := guest_vals X' PC' 1 true C' D' N hN 5 (.inr rfl) rfl
  have i0 := insn_vals X' PC' 0 true C' D' a b c d e f
  have i1 := insn_vals X' PC' 1 true C' D' a b c d e f
  have g0 : g = true → iEq (legal_Insn0 X' PC' 0 true C' D' a b c d e f) 0 = false := fun h => guest_insn X' PC' 0 true C' D' a b c d e f (.inl rfl) (hop h)
  have g1 : g = true → iEq (legal_Insn0 X' PC' 1 true C' D' a b c d e f) 0 = false := fun h => guest_insn X' PC' 1 true C' D' a b c d e f (.inr rfl) (hop h)
  clear hop
  revert v0 v1 i0 i1 g0 g1 ha
  generalize legal_Insn0 X' PC' 0 true C' D' a b c d e f = c0
  generalize legal_Insn0 X' PC' 1 true C' D' a b c d e f = c1
  generalize legal_Csr0 X' PC' 0 true C' D' N false = q0
  generalize legal_Csr0 X' PC' 1 true C' D' N false = q1
  generalize legal_ask0 N = r
  intro ha v0 v1 i0 i1 g0 g1
  have t2 : ∀ z : Int, (z = 0 ∨ z = 2 ∨ z = 22) → (g = true → iEq z 0 = false) →
      (bif g then bif !iEq z 0 then bif iEq z 22 then true else iEq z 2 else false else bif iEq z 0 == iEq z 0 then bif bif iEq z 0 then true else iEq z 22 then true else iEq z 2 else false) = true := by
    intro z hz hg
    cases g with
    | true =>
      have := hg rfl
      rcases hz with rfl | rfl | rfl
      · cases this
      · rfl
      · rfl
    | false => rcases hz with rfl | rfl | rfl <;> rfl
  have T0 := t2 c0 i0 g0
  have T1 := t2 c1 i1 g1
  cases u
  · rcases ha with rfl | rfl | rfl | rfl
    · exact T1
    · exact T1
    · rw [v1.2.1 rfl]; exact T1
    · rw [v1.1 rfl]; exact T1
  · rcases ha with rfl | rfl | rfl | rfl
    · rw [v0.2.2 rfl (by decide)]; exact T0
    · rw [v0.2.2 rfl (by decide)]; exact T0
    · rw [v0.2.1 rfl]; exact T0
    · rw [v0.1 rfl]; exact T0

theorem legalGuest_guard (k : Int) (u : Bool) (a b c d e f : Int) : sallyportlaw9_LegalGuestG X PC L V C D k u a b c d e f = true := by
  unfold sallyportlaw9_LegalGuestG
  simp only [legal_CsrT, legal_InsnT, Bool.true_and, Bool.and_true, Bool.cond_self]

theorem csr_read_of_write (n : Int) (h : legal_Csr1 X PC L V C D n true = true) : legal_Csr1 X PC L V C D n false = true := by
  rw [csr1_of, csrA] at h ⊢
  revert h
  generalize csr_Is0 n = t
  generalize iLe 3072 n = q
  unfold cA0
  cases t
  · exact id
  · cases q
    · exact id
    · intro h; cases h

theorem legalReads_true (a b c : Int) (ha : 0 ≤ a ∧ a < 256) (hb : 0 ≤ b ∧ b < 65536) (hc : 0 ≤ c ∧ c < 256) : sallyportlaw9_LegalReads0 X PC L V C D a b c = true := by
  unfold sallyportlaw9_LegalReads0
  have h1 := rem_small (n := 32) ha.1 (by decide)
  have h2 := rem_small (n := 4096) hb.1 (by decide)
  have h3 := rem_small (n := 31) hc.1 (by decide)
  rw [conv_small (x := iRem a 32) (by omega), conv_small (x := iRem b 4096) (by omega), conv_small (x := iRem c 31) (by omega), iAdd_i64 (by omega) (by omega)]
  revert h1 h2 h3
  generalize iRem a 32 = d
  generalize iRem b 4096 = n
  generalize iRem c 31 = w
  intro h1 h2 h3
  generalize sallyportref18_Clean1 (fun i0 => X i0) PC L V (fun i0 => C i0) D = PC'
  generalize sallyportref18_Clean2 (fun i0 => X i0) PC L V (fun i0 => C i0) D = L'
  generalize sallyportref18_Clean3 (fun i0 => X i0) PC L V (fun i0 => C i0) D = V'
  generalize sallyportref18_Clean5 (fun i0 => X i0) PC L V (fun i0 => C i0) D = D'
  generalize (fun i0 => sallyportref18_Clean0 (fun i0 => X i0) PC L V (fun i0 => C i0) D i0) = X'
  generalize (fun i0 => sallyportref18_Clean4 (fun i0 => X i0) PC L V (fun i0 => C i0) D i0) = C'
  have fd := field_in (e := 32) h1.1 h1.2
  have fn := field_in (e := 4096) h2.1 h2.2
  have fw := field_in (x := w + 1) (e := 32) (by omega) (by omega)
  have key : ∀ op r m, insn_Is0 op d r 0 m n = true → insn_Class0 op = 9 → legal_Insn1 X' PC' L' V' C' D' op d r 0 m n = legal_Csr1 X' PC' L' V' C' D' n (legal_Writes0 op d r 0 m n) := by
    intro op r m hi hcl
    unfold legal_Insn1
    rw [hi, hcl]; rfl
  have i55 : ∀ r, insn_field0 true r 32 = true → insn_Is0 55 d r 0 0 n = true := by
    intro r hr
    have : insn_Is0 55 d r 0 0 n = (bif bif bif insn_field0 true d 32 then insn_field0 true r 32 else false then insn_field0 false 0 32 else false then insn_field0 true n 4096 else false) := by kernel_rfl
    rw [this, fd, hr, fn]; rfl
  have i54 : insn_Is0 54 d 0 0 0 n = true := by
    have : insn_Is0 54 d 0 0 0 n = (bif bif bif insn_field0 true d 32 then insn_field0 true 0 32 else false then insn_field0 false 0 32 else false then insn_field0 true n 4096 else false) := by kernel_rfl
    rw [this, fd, fn]; rfl
  have i59 : insn_Is0 59 d 0 0 0 n = true := by
    have : insn_Is0 59 d 0 0 0 n = (bif bif bif insn_field0 true d 32 then insn_field0 false 0 32 else false then insn_field0 false 0 32 else false then insn_field0 true n 4096 else false) := by kernel_rfl
    rw [this, fd, fn]; rfl
  have i58 : insn_Is0 58 d 0 0 (w + 1) n = true := by
    have : insn_Is0 58 d 0 0 (w + 1) n = (bif (bif bif iLt (w + 1) 0 then true else iLt 31 (w + 1) then true else iNe (iRem (w + 1) 1) 0) then false else (bif bif bif insn_field0 true d 32 then insn_field0 false 0 32 else false then insn_field0 false 0 32 else false then insn_field0 true n 4096 else false)) := by kernel_rfl
    have hz : iNe (iRem (w + 1) 1) 0 = false := by rw [iNe_false]; unfold iRem; rw [Int.tmod_eq_emod_of_nonneg (by omega)]; omega
    rw [this, iLt_false.2 (show 0 ≤ w + 1 by omega), iLt_false.2 (show w + 1 ≤ 31 by omega), hz, fd, fn]; rfl
  have w1 : iNe (w + 1) 0 = true := iNe_true.2 (by omega)
  rw [key 55 0 0 (i55 0 rfl) rfl, key 55 (w + 1) 0 (i55 _ fw) rfl, key 54 0 0 i54 rfl, key 59 0 0 i59 rfl, key 58 0 (w + 1) i58 rfl]
  have e1 : legal_Writes0 55 d 0 0 0 n = false := rfl
  have e2 : legal_Writes0 55 d (w + 1) 0 0 n = true := by
    show (bif bif false then true else iNe (w + 1) 0 then true else _) = true
    rw [w1]; rfl
  have e3 : legal_Writes0 54 d 0 0 0 n = true := rfl
  have e4 : legal_Writes0 59 d 0 0 0 n = false := rfl
  have e5 : legal_Writes0 58 d 0 0 (w + 1) n = true := by
    show (bif bif false then true else false then true else iNe (w + 1) 0) = true
    rw [w1]; rfl
  rw [e1, e2, e3, e4, e5]
  have hw := csr_read_of_write X' PC' L' V' C' D' n
  revert hw
  generalize legal_Csr1 X' PC' L' V' C' D' n true = p
  generalize legal_Csr1 X' PC' L' V' C' D' n false = q
  intro hw
  cases p
  · cases q <;> rfl
  · rw [hw rfl]; rfl

theorem legalReads_guard (a b c : Int) : sallyportlaw9_LegalReadsG X PC L V C D a b c = true := by
  unfold sallyportlaw9_LegalReadsG
  simp only [legal_CsrT, legal_InsnT, Bool.and_true]

end
end Go.Proofs.Ytdfafnelmpflgaa.PV
