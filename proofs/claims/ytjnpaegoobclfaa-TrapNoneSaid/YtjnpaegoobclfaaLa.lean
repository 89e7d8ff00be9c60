/-
  Bits of words: put and read one by one. No condition but that a word is one.
-/
import Derived.Test.YtjnpaegoobclfaaFb
set_option linter.unusedVariables false
set_option linter.unusedSimpArgs false
namespace Go.Proofs.Ytjnpaegoobclfaa.PV
open Go Go.Ev

/-- A bit of a word. -/
def bitI (v b : Int) : Bool := iEq (iAnd .u64 (iShr .u64 v b) 1) 1

theorem part_0 {b n : Int} (hb : 0 ≤ b ∧ b < 64) : word_part0 b n = b := by
  unfold word_part0; rw [iMax_eq, iMin_eq]; split <;> split <;> omega
theorem part_1 {b : Int} (hb : 0 ≤ b ∧ b < 64) : word_part1 b 1 = 1 := by
  have e : word_part1 b 1 = iMin (iMax 1 0) (iSub .i64 64 (word_part0 b 1)) := rfl
  rw [e, part_0 hb, iSub_i64 (by omega) (by omega), iMax_eq, iMin_eq]; split <;> split <;> omega
theorem mask_1 : word_mask0 1 = 1 := by kernel_rfl

theorem bits_1 {v b : Int} (hb : 0 ≤ b ∧ b < 64) : word_Bits0 v b 1 = iAnd .u64 (iShr .u64 v b) 1 := by
  unfold word_Bits0; rw [part_0 hb, part_1 hb, mask_1]

theorem set_true (v : Int) {b : Int} (hb : 0 ≤ b ∧ b < 64) : word_Set0 v b 1 1 = sallyportref16_set0 v b true := by
  unfold word_Set0 sallyportref16_set0
  rw [part_0 hb, part_1 hb, mask_1, cond_true, show iAnd .u64 1 1 = 1 from by decide, show iConv .u64 b = b from wrapU hb.1 (by omega)]
  apply W_inj (U_or _ _) (U_or _ _)
  rw [W_or, W_or, W_andNot]
  generalize W v = x
  generalize W (iShl .u64 1 b) = m
  apply bits64
  intro i hi
  simp only [BitVec.getLsbD_or, BitVec.getLsbD_and, BitVec.getLsbD_not, hi, decide_true, Bool.true_and]
  cases x.getLsbD i <;> cases m.getLsbD i <;> rfl

theorem shl_zero {b : Int} (hb : 0 ≤ b ∧ b < 64) : iShl .u64 0 b = 0 := by
  unfold iShl; rw [Int.zero_mul]; decide

theorem set_false (v : Int) {b : Int} (hb : 0 ≤ b ∧ b < 64) : word_Set0 v b 1 0 = sallyportref16_set0 v b false := by
  unfold word_Set0 sallyportref16_set0
  rw [part_0 hb, part_1 hb, mask_1, cond_false, show iAnd .u64 0 1 = 0 from by decide, shl_zero hb, show iConv .u64 b = b from wrapU hb.1 (by omega)]
  apply W_inj (U_or _ _) (U_andNot _ _)
  rw [W_or, W_andNot]
  show (W v &&& ~~~W (iShl .u64 1 b)) ||| 0#64 = _
  simp

section
variable (X : Nat → Int) (PC L : Int) (V : Bool) (C : Nat → Int) (D : Int)

theorem put4 (i b : Int) (t : Bool) (j : Nat) (hb : 0 ≤ b ∧ b < 64) : csr_Put4 X PC L V C D i b t j = bif j == i.toNat then sallyportref16_set0 (C i.toNat) b t else C j := by
  unfold csr_Put4
  rw [set_true _ hb, set_false _ hb]
  cases t <;> rfl

theorem bit_of (i b : Int) (hb : 0 ≤ b ∧ b < 64) : csr_Bit0 X PC L V C D i b = bitI (C i.toNat) b := by
  unfold csr_Bit0; rw [bits_1 hb]; rfl

theorem kenter (i n w : Int) (j : Nat) (hn : 0 ≤ n ∧ n < 64) (hw : 0 ≤ w ∧ w < 64) :
    trap_kept__enter0 i n w X PC L V C D j = bif j == i.toNat then sallyportref16_set0 (sallyportref16_set0 (C i.toNat) w (bitI (C i.toNat) n)) n false else C j := by
  unfold trap_kept__enter0
  simp only [put4 _ _ _ _ _ _ _ _ _ _ hn, put4 _ _ _ _ _ _ _ _ _ _ hw, bit_of _ _ _ _ _ _ _ _ hn, beq_self_eq_true, cond_true]
  cases j == i.toNat <;> rfl

theorem kback (i n w : Int) (j : Nat) (hn : 0 ≤ n ∧ n < 64) (hw : 0 ≤ w ∧ w < 64) :
    trap_kept__back0 i n w X PC L V C D j = bif j == i.toNat then sallyportref16_set0 (sallyportref16_set0 (C i.toNat) n (bitI (C i.toNat) w)) w true else C j := by
  unfold trap_kept__back0
  simp only [put4 _ _ _ _ _ _ _ _ _ _ hn, put4 _ _ _ _ _ _ _ _ _ _ hw, bit_of _ _ _ _ _ _ _ _ hw, beq_self_eq_true, cond_true]
  cases j == i.toNat <;> rfl

/-- A supervisor's status behind a trap. -/
def lowI (c l : Int) : Int := sallyportref16_set0 (sallyportref16_set0 (sallyportref16_set0 c 8 (iEq (iAnd .i64 l 1) 1)) 5 (bitI (sallyportref16_set0 c 8 (iEq (iAnd .i64 l 1) 1)) 1)) 1 false

theorem lower_of (i l : Int) (j : Nat) : trap_lower0 X PC L V C D i l j = bif j == i.toNat then lowI (C i.toNat) l else C j := by
  unfold trap_lower0
  simp only [kenter _ _ _ _ _ _ _ _ _ _ (show (0 : Int) ≤ 1 ∧ (1 : Int) < 64 by decide) (show (0 : Int) ≤ 5 ∧ (5 : Int) < 64 by decide), put4 _ _ _ _ _ _ _ _ _ _ (show (0 : Int) ≤ 8 ∧ (8 : Int) < 64 by decide), beq_self_eq_true, cond_true]
  cases j == i.toNat <;> rfl

end
end Go.Proofs.Ytjnpaegoobclfaa.PV
