/-
  Small facts about the numbers and conditions that evaluations come to. Own text; nothing of a program.
-/
import Derived.Test.YtngaeiceicgalaaDoorEvV
namespace Go.Ev

theorem iEq_true {x y : Int} : iEq x y = true ↔ x = y := by unfold iEq; exact beq_iff_eq
theorem iNe_true {x y : Int} : iNe x y = true ↔ x ≠ y := by unfold iNe; exact bne_iff_ne
theorem iLt_true {x y : Int} : iLt x y = true ↔ x < y := by unfold iLt; exact decide_eq_true_iff
theorem iLe_true {x y : Int} : iLe x y = true ↔ x ≤ y := by unfold iLe; exact decide_eq_true_iff
theorem iIn_true {x : Int} {n : Nat} : iIn x n = true ↔ 0 ≤ x ∧ x < n := by unfold iIn; exact decide_eq_true_iff
theorem iEq_false {x y : Int} : iEq x y = false ↔ x ≠ y := by rw [← Bool.not_eq_true, iEq_true]
theorem iNe_false {x y : Int} : iNe x y = false ↔ x = y := by rw [← Bool.not_eq_true, iNe_true]; omega
theorem iLt_false {x y : Int} : iLt x y = false ↔ y ≤ x := by rw [← Bool.not_eq_true, iLt_true]; omega
theorem iLe_false {x y : Int} : iLe x y = false ↔ y < x := by rw [← Bool.not_eq_true, iLe_true]; omega
theorem iEq_comm (x y : Int) : iEq x y = iEq y x := by rw [Bool.eq_iff_iff, iEq_true, iEq_true]; omega
theorem iEq_self (x : Int) : iEq x x = true := iEq_true.2 rfl
theorem iNe_not (x y : Int) : iNe x y = !iEq x y := rfl
theorem iLt_not (x y : Int) : iLt x y = !iLe y x := by
  rw [Bool.eq_iff_iff, Bool.not_eq_true', iLt_true, iLe_false]
theorem nat_beq (c : Int) (n : Nat) (hc : 0 ≤ c) : (c.toNat == n) = iEq c n := by
  rw [Bool.eq_iff_iff, beq_iff_eq, iEq_true]; omega

theorem wrapI {n : Int} (h1 : -9223372036854775808 ≤ n) (h2 : n < 9223372036854775808) : IntKind.i64.wrap n = n := by
  show (if (true && decide (n % 18446744073709551616 ≥ 9223372036854775808)) = true then n % 18446744073709551616 - 18446744073709551616 else n % 18446744073709551616) = n
  simp only [Bool.true_and, decide_eq_true_eq]
  split <;> omega

theorem wrapU {n : Int} (h1 : 0 ≤ n) (h2 : n < 18446744073709551616) : IntKind.u64.wrap n = n := by
  show (if (false && decide (n % 18446744073709551616 ≥ 9223372036854775808)) = true then n % 18446744073709551616 - 18446744073709551616 else n % 18446744073709551616) = n
  simp only [Bool.false_and, Bool.false_eq_true, if_false]
  omega

theorem wrapU_eq (n : Int) : IntKind.u64.wrap n = n % 18446744073709551616 := by
  show (if (false && decide (n % 18446744073709551616 ≥ 9223372036854775808)) = true then n % 18446744073709551616 - 18446744073709551616 else n % 18446744073709551616) = _
  simp only [Bool.false_and, Bool.false_eq_true, if_false]

theorem iAdd_i64 {x y : Int} (h1 : -9223372036854775808 ≤ x + y) (h2 : x + y < 9223372036854775808) : iAdd .i64 x y = x + y := wrapI h1 h2
theorem iSub_i64 {x y : Int} (h1 : -9223372036854775808 ≤ x - y) (h2 : x - y < 9223372036854775808) : iSub .i64 x y = x - y := wrapI h1 h2

theorem iMax_eq (x y : Int) : iMax x y = if x < y then y else x := by unfold iMax iLt; rw [Bool.cond_decide]
theorem iMin_eq (x y : Int) : iMin x y = if y < x then y else x := by unfold iMin iLt; rw [Bool.cond_decide]


/- Words of 64 bits. -/
def U (x : Int) : Prop := 0 ≤ x ∧ x < 18446744073709551616
def W (x : Int) : BitVec 64 := BitVec.ofInt 64 x

theorem U_of (v : BitVec 64) : U (v.toNat : Int) := ⟨Int.natCast_nonneg _, by have := v.isLt; omega⟩
theorem W_of (v : BitVec 64) : W (v.toNat : Int) = v := by
  unfold W; rw [BitVec.ofInt_natCast, BitVec.ofNat_toNat, BitVec.setWidth_eq]
theorem of_W {x : Int} (h : U x) : ((W x).toNat : Int) = x := by
  unfold W; rw [BitVec.toNat_ofInt]
  obtain ⟨h1, h2⟩ := h
  omega
theorem W_inj {x y : Int} (hx : U x) (hy : U y) (h : W x = W y) : x = y := by rw [← of_W hx, ← of_W hy, h]
theorem wrap_of (v : BitVec 64) : IntKind.u64.wrap (v.toNat : Int) = v.toNat := wrapU (U_of v).1 (U_of v).2
theorem W_wrap (x : Int) : W (IntKind.u64.wrap x) = W x := by
  rw [wrapU_eq]
  apply BitVec.eq_of_toNat_eq
  unfold W
  rw [BitVec.toNat_ofInt, BitVec.toNat_ofInt]
  omega
theorem U_wrap (x : Int) : U (IntKind.u64.wrap x) := by rw [wrapU_eq]; unfold U; omega

theorem iAnd_W (x y : Int) : iAnd .u64 x y = ((W x &&& W y).toNat : Int) := wrap_of _
theorem iOr_W (x y : Int) : iOr .u64 x y = ((W x ||| W y).toNat : Int) := wrap_of _
theorem iXor_W (x y : Int) : iXor .u64 x y = ((W x ^^^ W y).toNat : Int) := wrap_of _
theorem iAndNot_W (x y : Int) : iAndNot .u64 x y = ((W x &&& ~~~ W y).toNat : Int) := wrap_of _
theorem W_and (x y : Int) : W (iAnd .u64 x y) = W x &&& W y := by rw [iAnd_W, W_of]
theorem W_or (x y : Int) : W (iOr .u64 x y) = W x ||| W y := by rw [iOr_W, W_of]
theorem W_xor (x y : Int) : W (iXor .u64 x y) = W x ^^^ W y := by rw [iXor_W, W_of]
theorem W_andNot (x y : Int) : W (iAndNot .u64 x y) = W x &&& ~~~ W y := by rw [iAndNot_W, W_of]
theorem U_and (x y : Int) : U (iAnd .u64 x y) := by rw [iAnd_W]; exact U_of _
theorem U_or (x y : Int) : U (iOr .u64 x y) := by rw [iOr_W]; exact U_of _
theorem U_xor (x y : Int) : U (iXor .u64 x y) := by rw [iXor_W]; exact U_of _
theorem U_andNot (x y : Int) : U (iAndNot .u64 x y) := by rw [iAndNot_W]; exact U_of _
theorem U_add (x y : Int) : U (iAdd .u64 x y) := U_wrap _
theorem U_sub (x y : Int) : U (iSub .u64 x y) := U_wrap _
theorem U_shl (x y : Int) : U (iShl .u64 x y) := U_wrap _
theorem W_add (x y : Int) : W (iAdd .u64 x y) = W x + W y := by
  unfold iAdd; rw [W_wrap]; unfold W; rw [BitVec.ofInt_add]

theorem W_shl (x : Int) (n : Nat) (hn : n ≤ 64) : W (iShl .u64 x (n : Int)) = W x <<< n := by
  unfold iShl
  rw [W_wrap]
  have e : min (n : Int).toNat (IntKind.u64.bits) = n := by show min (n : Int).toNat 64 = n; omega
  rw [e]
  apply BitVec.eq_of_toNat_eq
  unfold W
  rw [BitVec.toNat_shiftLeft, BitVec.toNat_ofInt, BitVec.toNat_ofInt, Nat.shiftLeft_eq]
  have h2 : ((2 : Int) ^ n) = ((2 ^ n : Nat) : Int) := by simp
  rw [h2]
  have h3 : (x * ((2 ^ n : Nat) : Int)) % 18446744073709551616 = ((x % 18446744073709551616) * ((2 ^ n : Nat) : Int)) % 18446744073709551616 := by
    rw [Int.mul_emod (x % 18446744073709551616), Int.emod_emod_of_dvd _ (Int.dvd_refl _), ← Int.mul_emod]
  show ((x * ((2 ^ n : Nat) : Int)) % 18446744073709551616).toNat = ((x % 18446744073709551616).toNat * 2 ^ n) % 18446744073709551616
  rw [h3]
  have h4 : 0 ≤ x % 18446744073709551616 := Int.emod_nonneg _ (by decide)
  obtain ⟨m, hm⟩ := Int.eq_ofNat_of_zero_le h4
  rw [hm, ← Int.natCast_mul, Int.toNat_natCast]
  omega

theorem iShr_W {x : Int} (hx : U x) (n : Nat) (hn : n ≤ 64) : iShr .u64 x (n : Int) = ((W x >>> n).toNat : Int) := by
  unfold iShr
  have e : min (n : Int).toNat (IntKind.u64.bits) = n := by show min (n : Int).toNat 64 = n; omega
  rw [e, BitVec.toNat_ushiftRight, Nat.shiftRight_eq_div_pow]
  obtain ⟨m, rfl⟩ := Int.eq_ofNat_of_zero_le hx.1
  have hm : (W (m : Int)).toNat = m := by have := of_W hx; exact Int.ofNat_inj.1 this
  rw [hm]
  have h2 : ((2 : Int) ^ n) = ((2 ^ n : Nat) : Int) := by simp
  rw [h2, Int.fdiv_eq_ediv_of_nonneg _ (Int.natCast_nonneg _)]
  exact (Int.natCast_ediv _ _).symm
theorem W_shr {x : Int} (hx : U x) (n : Nat) (hn : n ≤ 64) : W (iShr .u64 x (n : Int)) = W x >>> n := by rw [iShr_W hx n hn, W_of]
theorem U_shr {x : Int} (hx : U x) (n : Nat) (hn : n ≤ 64) : U (iShr .u64 x (n : Int)) := by rw [iShr_W hx n hn]; exact U_of _

theorem iEq_W {x y : Int} (hx : U x) (hy : U y) : iEq x y = (W x == W y) := by
  rw [Bool.eq_iff_iff, iEq_true, beq_iff_eq]
  exact ⟨fun h => by rw [h], W_inj hx hy⟩

/-- Bit by bit. -/
theorem bits64 {a b : BitVec 64} (h : ∀ i, i < 64 → a.getLsbD i = b.getLsbD i) : a = b := BitVec.eq_of_getLsbD_eq h

theorem getLsbD_eq (v : BitVec 64) (k : Nat) : v.getLsbD k = v.toNat.testBit k := rfl

/-- One bit of a word. -/
theorem bit_at {q : Int} (hq : U q) (k : Nat) (hk : k ≤ 64) : iAnd .u64 (iShr .u64 q (k : Int)) 1 = bif (W q).getLsbD k then 1 else 0 := by
  rw [iAnd_W, W_shr hq k hk]
  have h1 : W 1 = 1#64 := rfl
  rw [h1, BitVec.toNat_and, BitVec.toNat_ushiftRight]
  have h2 : (1#64 : BitVec 64).toNat = 1 := rfl
  rw [h2, Nat.and_one_is_mod, getLsbD_eq, Nat.testBit, Nat.one_and_eq_mod_two]
  have := Nat.mod_two_eq_zero_or_one ((W q).toNat >>> k)
  rcases this with h | h <;> rw [h] <;> rfl

theorem inR_u64 {n : Int} (h : inR (.it .u64 n)) : U n := by
  have h2 : n ≤ 18446744073709551615 := h.2
  exact ⟨h.1, by omega⟩
theorem inR_i64 {n : Int} (h : inR (.it .i64 n)) : -9223372036854775808 ≤ n ∧ n < 9223372036854775808 := by
  have h1 : -9223372036854775808 ≤ n := h.1
  have h2 : n ≤ 9223372036854775807 := h.2
  omega
theorem inR_u8 {n : Int} (h : inR (.it .u8 n)) : 0 ≤ n ∧ n < 256 := by
  have h1 : 0 ≤ n := h.1
  have h2 : n ≤ 255 := h.2
  omega
theorem inR_u16 {n : Int} (h : inR (.it .u16 n)) : 0 ≤ n ∧ n < 65536 := by
  have h1 : 0 ≤ n := h.1
  have h2 : n ≤ 65535 := h.2
  omega
theorem inR_u32 {n : Int} (h : inR (.it .u32 n)) : 0 ≤ n ∧ n < 4294967296 := by
  have h1 : 0 ≤ n := h.1
  have h2 : n ≤ 4294967295 := h.2
  omega

end Go.Ev
