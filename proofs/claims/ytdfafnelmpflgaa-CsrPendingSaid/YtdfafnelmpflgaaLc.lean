/-
  Which interrupts wait; no condition.
-/
import Derived.Test.YtdfafnelmpflgaaFb
set_option linter.unusedVariables false
set_option linter.unusedSimpArgs false
namespace Go.Proofs.Ytdfafnelmpflgaa.PV
open Go Go.Ev

/-- What 'csrPending' is of what waits. -/
def pendB (q v : Int) (a2 a3 : Bool) : Bool :=
  bif bif bif bif iEq (iAnd .u64 (iShr .u64 q 5) 1) 1 == a2 then iEq (iAnd .u64 (iShr .u64 q 9) 1) 1 == a3 else false then iEq (iAndNot .u64 q 1632) 0 else false then
    iEq (iAnd .u64 (iShr .u64 q 6) 1) (iAnd .u64 (iShr .u64 v 6) 1) else false then iEq (iAnd .u64 (iShr .u64 q 10) 1) (iAnd .u64 (iShr .u64 v 10) 1) else false

theorem pend_bits (x v : Int) (hv : U v) (p2 p3 : Bool) (q : Int) (hq : U q)
    (hW : W q = ((((W x &&& W 1088) &&& ~~~ W 1088) ||| (W v &&& W 1088)) ||| (bif p2 then W 32 else 0#64)) ||| (bif p3 then W 512 else 0#64)) : pendB q v p2 p3 = true := by
  have hb : ∀ k, k < 64 → (W q).getLsbD k = (((W v).getLsbD k && (W 1088).getLsbD k) || (p2 && (W 32).getLsbD k) || (p3 && (W 512).getLsbD k)) := fun k hk => by
    rw [hW]
    simp only [BitVec.getLsbD_and, BitVec.getLsbD_or, BitVec.getLsbD_not, hk, decide_true, Bool.true_and]
    have e2 : (bif p2 then W 32 else 0#64).getLsbD k = (p2 && (W 32).getLsbD k) := by cases p2 <;> simp
    have e3 : (bif p3 then W 512 else 0#64).getLsbD k = (p3 && (W 512).getLsbD k) := by cases p3 <;> simp
    rw [e2, e3]
    cases (W x).getLsbD k <;> cases (W 1088).getLsbD k <;> simp
  have c (n k : Nat) : ((W (n : Nat)).getLsbD k) = ((W (n : Nat)).getLsbD k) := rfl
  unfold pendB
  have b5 := bit_at hq 5 (by decide)
  have b6 := bit_at hq 6 (by decide)
  have b9 := bit_at hq 9 (by decide)
  have b10 := bit_at hq 10 (by decide)
  have v6 := bit_at hv 6 (by decide)
  have v10 := bit_at hv 10 (by decide)
  have h5 : (W q).getLsbD 5 = p2 := by
    rw [hb 5 (by decide), show (W 1088).getLsbD 5 = false by decide, show (W 32).getLsbD 5 = true by decide, show (W 512).getLsbD 5 = false by decide]; simp
  have h9 : (W q).getLsbD 9 = p3 := by
    rw [hb 9 (by decide), show (W 1088).getLsbD 9 = false by decide, show (W 32).getLsbD 9 = false by decide, show (W 512).getLsbD 9 = true by decide]; simp
  have h6 : (W q).getLsbD 6 = (W v).getLsbD 6 := by
    rw [hb 6 (by decide), show (W 1088).getLsbD 6 = true by decide, show (W 32).getLsbD 6 = false by decide, show (W 512).getLsbD 6 = false by decide]; simp
  have h10 : (W q).getLsbD 10 = (W v).getLsbD 10 := by
    rw [hb 10 (by decide), show (W 1088).getLsbD 10 = true by decide, show (W 32).getLsbD 10 = false by decide, show (W 512).getLsbD 10 = false by decide]; simp
  have h0 : iAndNot .u64 q 1632 = 0 := by
    apply W_inj (U_andNot _ _) ⟨by decide, by decide⟩
    rw [W_andNot]
    apply bits64
    intro k hk
    have hc : ∀ i, i < 64 → (!((W 1088).getLsbD i || (W 32).getLsbD i || (W 512).getLsbD i) || (W 1632).getLsbD i) = true ∧ (W 0).getLsbD i = false := by decide
    obtain ⟨hc, h0⟩ := hc k hk
    rw [BitVec.getLsbD_and, BitVec.getLsbD_not, hb k hk, h0]
    simp only [hk, decide_true, Bool.true_and]
    revert hc
    cases (W v).getLsbD k <;> cases (W 1088).getLsbD k <;> cases (W 32).getLsbD k <;> cases (W 512).getLsbD k <;> cases (W 1632).getLsbD k <;> cases p2 <;> cases p3 <;> decide
  rw [show (5 : Int) = ((5 : Nat) : Int) from rfl, show (6 : Int) = ((6 : Nat) : Int) from rfl, show (9 : Int) = ((9 : Nat) : Int) from rfl, show (10 : Int) = ((10 : Nat) : Int) from rfl, b5, b6, b9, b10, v6, v10, h5, h9, h6, h10, h0]
  cases p2 <;> cases p3 <;> cases (W v).getLsbD 6 <;> cases (W v).getLsbD 10 <;> decide

theorem csrPending_true (X : Nat → Int) (PC L : Int) (V : Bool) (C : Nat → Int) (D v : Int) (a2 a3 : Bool) (hv : U v) : sallyportlaw8_CsrPending0 X PC L V C D v a2 a3 = true := by
  have hY : U (iOr .u64 (iAndNot .u64 (iAnd .u64 (C 19) 1088) 1088) (iAnd .u64 v 1088)) := U_or _ _
  cases a2 <;> cases a3
  · exact Eq.trans (b := pendB (iOr .u64 (iAndNot .u64 (iAnd .u64 (C 19) 1088) 1088) (iAnd .u64 v 1088)) v false false) (by kernel_rfl)
      (pend_bits (C 19) v hv false false _ hY (by rw [W_or, W_andNot, W_and, W_and]; simp only [cond_false, BitVec.or_zero]))
  · exact Eq.trans (b := pendB (iOr .u64 (iOr .u64 (iAndNot .u64 (iAnd .u64 (C 19) 1088) 1088) (iAnd .u64 v 1088)) 512) v false true) (by kernel_rfl)
      (pend_bits (C 19) v hv false true _ (U_or _ _) (by rw [W_or, W_or, W_andNot, W_and, W_and]; simp only [cond_false, cond_true, BitVec.or_zero]))
  · exact Eq.trans (b := pendB (iOr .u64 (iOr .u64 (iAndNot .u64 (iAnd .u64 (C 19) 1088) 1088) (iAnd .u64 v 1088)) 32) v true false) (by kernel_rfl)
      (pend_bits (C 19) v hv true false _ (U_or _ _) (by rw [W_or, W_or, W_andNot, W_and, W_and]; simp only [cond_false, cond_true, BitVec.or_zero]))
  · exact Eq.trans (b := pendB (iOr .u64 (iOr .u64 (iOr .u64 (iAndNot .u64 (iAnd .u64 (C 19) 1088) 1088) (iAnd .u64 v 1088)) 32) 512) v true true) (by kernel_rfl)
      (pend_bits (C 19) v hv true true _ (U_or _ _) (by rw [W_or, W_or, W_or, W_andNot, W_and, W_and]; simp only [cond_true]))

end Go.Proofs.Ytdfafnelmpflgaa.PV
