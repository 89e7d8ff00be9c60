/-
  Words as sums of their parts (for omega). Own text; nothing of a program.
-/
import Derived.Test.YtngaeiceicgalaaDoorEvY
namespace Go.Ev

theorem wrap32 (n : Int) : IntKind.u32.wrap n = n % 4294967296 := by
  show (if (false && decide (n % 4294967296 ≥ 2147483648)) = true then n % 4294967296 - 4294967296 else n % 4294967296) = _
  simp only [Bool.false_and, Bool.false_eq_true, if_false]
theorem wrapI_eq (n : Int) : IntKind.i64.wrap n = if n % 18446744073709551616 ≥ 9223372036854775808 then n % 18446744073709551616 - 18446744073709551616 else n % 18446744073709551616 := by
  show (if (true && decide (n % 18446744073709551616 ≥ 9223372036854775808)) = true then n % 18446744073709551616 - 18446744073709551616 else n % 18446744073709551616) = _
  simp only [Bool.true_and, decide_eq_true_eq]

theorem conv32 (n : Int) : iConv .u32 n = n % 4294967296 := wrap32 n
theorem conv32_of {n : Int} (h : 0 ≤ n ∧ n < 4294967296) : iConv .u32 n = n := by rw [conv32]; omega
theorem conv64_of {n : Int} (h : 0 ≤ n ∧ n < 18446744073709551616) : iConv .u64 n = n := wrapU h.1 h.2
theorem convI_of {n : Int} (h : -9223372036854775808 ≤ n ∧ n < 9223372036854775808) : iConv .i64 n = n := wrapI h.1 h.2

/-- A shift to the left, nothing lost. M: the power of two. -/
theorem shl32 {x : Int} (y M : Int) (hM : (2 : Int) ^ (min y.toNat 32) = M) (h : 0 ≤ x * M ∧ x * M < 4294967296) : iShl .u32 x y = x * M := by
  unfold iShl
  rw [show (2 : Int) ^ (min y.toNat IntKind.u32.bits) = M from hM, wrap32]
  omega
theorem shl64 {x : Int} (y M : Int) (hM : (2 : Int) ^ (min y.toNat 64) = M) (h : 0 ≤ x * M ∧ x * M < 18446744073709551616) : iShl .u64 x y = x * M := by
  unfold iShl
  rw [show (2 : Int) ^ (min y.toNat IntKind.u64.bits) = M from hM, wrapU_eq]
  omega
theorem shr32 {x : Int} (y M : Int) (hM : (2 : Int) ^ (min y.toNat 32) = M) (h0 : 0 ≤ M) : iShr .u32 x y = x / M := by
  unfold iShr
  rw [show (2 : Int) ^ (min y.toNat IntKind.u32.bits) = M from hM, Int.fdiv_eq_ediv_of_nonneg _ h0]
theorem shr64 {x : Int} (y M : Int) (hM : (2 : Int) ^ (min y.toNat 64) = M) (h0 : 0 ≤ M) : iShr .u64 x y = x / M := by
  unfold iShr
  rw [show (2 : Int) ^ (min y.toNat IntKind.u64.bits) = M from hM, Int.fdiv_eq_ediv_of_nonneg _ h0]
theorem shrI {x : Int} (y M : Int) (hM : (2 : Int) ^ (min y.toNat 64) = M) (h0 : 0 ≤ M) : iShr .i64 x y = x / M := by
  unfold iShr
  rw [show (2 : Int) ^ (min y.toNat IntKind.i64.bits) = M from hM, Int.fdiv_eq_ediv_of_nonneg _ h0]

theorem natOf {x : Int} {b : Nat} (h : 0 ≤ x ∧ x < (b : Int)) : ∃ n : Nat, n < b ∧ x = n := ⟨x.toNat, by omega, by omega⟩

theorem and32_nat (a b : Nat) (ha : a < 4294967296) (hb : b < 4294967296) : iAnd .u32 (a : Int) (b : Int) = ((a &&& b : Nat) : Int) := by
  show IntKind.u32.wrap (((BitVec.ofInt 32 (a : Int) &&& BitVec.ofInt 32 (b : Int)).toNat : Nat) : Int) = _
  rw [BitVec.ofInt_natCast, BitVec.ofInt_natCast, BitVec.toNat_and, BitVec.toNat_ofNat, BitVec.toNat_ofNat, Nat.mod_eq_of_lt ha, Nat.mod_eq_of_lt hb, wrap32]
  have : a &&& b ≤ a := Nat.and_le_left
  omega
theorem or32_nat (a b : Nat) (ha : a < 4294967296) (hb : b < 4294967296) : iOr .u32 (a : Int) (b : Int) = ((a ||| b : Nat) : Int) := by
  show IntKind.u32.wrap (((BitVec.ofInt 32 (a : Int) ||| BitVec.ofInt 32 (b : Int)).toNat : Nat) : Int) = _
  rw [BitVec.ofInt_natCast, BitVec.ofInt_natCast, BitVec.toNat_or, BitVec.toNat_ofNat, BitVec.toNat_ofNat, Nat.mod_eq_of_lt ha, Nat.mod_eq_of_lt hb, wrap32]
  have : a ||| b < 2 ^ 32 := Nat.or_lt_two_pow ha hb
  omega
theorem and64_nat (a b : Nat) (ha : a < 18446744073709551616) (hb : b < 18446744073709551616) : iAnd .u64 (a : Int) (b : Int) = ((a &&& b : Nat) : Int) := by
  rw [iAnd_W]
  unfold W
  rw [BitVec.ofInt_natCast, BitVec.ofInt_natCast, BitVec.toNat_and, BitVec.toNat_ofNat, BitVec.toNat_ofNat, Nat.mod_eq_of_lt ha, Nat.mod_eq_of_lt hb]
theorem or64_nat (a b : Nat) (ha : a < 18446744073709551616) (hb : b < 18446744073709551616) : iOr .u64 (a : Int) (b : Int) = ((a ||| b : Nat) : Int) := by
  rw [iOr_W]
  unfold W
  rw [BitVec.ofInt_natCast, BitVec.ofInt_natCast, BitVec.toNat_or, BitVec.toNat_ofNat, BitVec.toNat_ofNat, Nat.mod_eq_of_lt ha, Nat.mod_eq_of_lt hb]

/-- A mask of n lowest bits. -/
theorem and32 {x m : Int} (n : Nat) (M : Int) (hM : ((2 ^ n : Nat) : Int) = M) (hm : m = M - 1) (hn : n ≤ 32) (h : 0 ≤ x ∧ x < 4294967296) : iAnd .u32 x m = x % M := by
  obtain ⟨a, ha, rfl⟩ := natOf (b := 4294967296) h
  have hp : 1 ≤ 2 ^ n := Nat.one_le_two_pow
  have hq : 2 ^ n ≤ 2 ^ 32 := Nat.pow_le_pow_right (by decide) hn
  have e : m = ((2 ^ n - 1 : Nat) : Int) := by omega
  rw [e, and32_nat a _ ha (by omega), Nat.and_two_pow_sub_one_eq_mod, ← hM]
  exact Int.natCast_emod _ _
theorem and64 {x m : Int} (n : Nat) (M : Int) (hM : ((2 ^ n : Nat) : Int) = M) (hm : m = M - 1) (hn : n ≤ 64) (h : 0 ≤ x ∧ x < 18446744073709551616) : iAnd .u64 x m = x % M := by
  obtain ⟨a, ha, rfl⟩ := natOf (b := 18446744073709551616) h
  have hp : 1 ≤ 2 ^ n := Nat.one_le_two_pow
  have hq : 2 ^ n ≤ 2 ^ 64 := Nat.pow_le_pow_right (by decide) hn
  have e : m = ((2 ^ n - 1 : Nat) : Int) := by omega
  rw [e, and64_nat a _ ha (by omega), Nat.and_two_pow_sub_one_eq_mod, ← hM]
  exact Int.natCast_emod _ _

/-- Parts that do not meet: y lies in the n bits from k on, where x has none. -/
theorem or_nat (k n x y : Nat) (h1 : y % 2 ^ k = 0) (h2 : y / 2 ^ k < 2 ^ n) (h3 : x / 2 ^ k % 2 ^ n = 0) : x ||| y = x + y := by
  have hk : 0 < 2 ^ k := Nat.two_pow_pos k
  have ex : x = 2 ^ (k + n) * (x / 2 ^ k / 2 ^ n) + x % 2 ^ k := by
    have a1 := Nat.div_add_mod x (2 ^ k)
    have a2 := Nat.div_add_mod (x / 2 ^ k) (2 ^ n)
    rw [h3, Nat.add_zero] at a2
    rw [Nat.pow_add, Nat.mul_assoc, a2]
    omega
  have ey : y = 2 ^ k * (y / 2 ^ k) := by
    have a1 := Nat.div_add_mod y (2 ^ k)
    omega
  have hl : x % 2 ^ k < 2 ^ k := Nat.mod_lt _ hk
  have h4 : 2 ^ k * (y / 2 ^ k) + x % 2 ^ k < 2 ^ (k + n) := by
    rw [Nat.pow_add]
    have : 2 ^ k * (y / 2 ^ k) + 2 ^ k ≤ 2 ^ k * 2 ^ n := by
      rw [← Nat.mul_succ]
      exact Nat.mul_le_mul_left _ h2
    omega
  have o1 := Nat.two_pow_add_eq_or_of_lt (i := k) hl (y / 2 ^ k)
  have hl2 : x % 2 ^ k < 2 ^ (k + n) := Nat.lt_of_le_of_lt (Nat.le_add_left _ _) h4
  have o2 := Nat.two_pow_add_eq_or_of_lt (i := k + n) hl2 (x / 2 ^ k / 2 ^ n)
  have o3 := Nat.two_pow_add_eq_or_of_lt (i := k + n) h4 (x / 2 ^ k / 2 ^ n)
  have e1 : x ||| y = 2 ^ (k + n) * (x / 2 ^ k / 2 ^ n) ||| (2 ^ k * (y / 2 ^ k) + x % 2 ^ k) := by
    rw [o1]
    conv => lhs; rw [ex, o2, ey]
    rw [Nat.or_assoc, Nat.or_comm (x % 2 ^ k)]
  rw [e1, ← o3]
  omega

theorem or32 {x y : Int} (k n : Nat) (K N : Int) (hK : ((2 ^ k : Nat) : Int) = K) (hN : ((2 ^ n : Nat) : Int) = N) (hx : 0 ≤ x ∧ x < 4294967296) (hy : 0 ≤ y ∧ y < 4294967296) (h1 : y % K = 0) (h2 : y / K < N) (h3 : x / K % N = 0) :
    iOr .u32 x y = x + y := by
  obtain ⟨a, ha, rfl⟩ := natOf (b := 4294967296) hx
  obtain ⟨b, hb, rfl⟩ := natOf (b := 4294967296) hy
  subst hK; subst hN
  rw [or32_nat a b ha hb, or_nat k n a b (Int.ofNat_inj.1 (by rw [Int.natCast_emod]; exact h1)) (Int.ofNat_lt.1 (by rw [Int.natCast_ediv]; exact h2)) (Int.ofNat_inj.1 (by rw [Int.natCast_emod, Int.natCast_ediv]; exact h3))]
  exact Int.natCast_add _ _
/-- .. the parts told: lo lies below, hi above. -/
theorem or32s {x y : Int} (lo hi t : Int) (k n : Nat) (K N : Int) (hK : ((2 ^ k : Nat) : Int) = K) (hN : ((2 ^ n : Nat) : Int) = N) (hx : x = lo + hi * (K * N)) (hy : y = t * K) (hlo : 0 ≤ lo ∧ lo < K) (hhi : 0 ≤ hi) (ht : 0 ≤ t ∧ t < N) (h32 : x < 4294967296 ∧ y < 4294967296) :
    iOr .u32 x y = x + y := by
  have hK0 : 0 < K := by have := Nat.two_pow_pos k; omega
  have hN0 : 0 < N := by have := Nat.two_pow_pos n; omega
  have e : hi * (K * N) = (hi * N) * K := by rw [Int.mul_comm K N, Int.mul_assoc]
  have h1 : 0 ≤ hi * (K * N) := Int.mul_nonneg hhi (Int.mul_nonneg (by omega) (by omega))
  refine or32 k n K N hK hN ⟨by omega, h32.1⟩ ⟨?_, h32.2⟩ ?_ ?_ ?_
  · rw [hy]; exact Int.mul_nonneg ht.1 (by omega)
  · rw [hy, Int.mul_emod_left]
  · rw [hy, Int.mul_ediv_cancel _ (by omega)]; exact ht.2
  · rw [hx, e, Int.add_mul_ediv_right _ _ (by omega), Int.ediv_eq_zero_of_lt hlo.1 hlo.2, Int.zero_add, Int.mul_emod_left]
theorem or64 {x y : Int} (k n : Nat) (K N : Int) (hK : ((2 ^ k : Nat) : Int) = K) (hN : ((2 ^ n : Nat) : Int) = N) (hx : 0 ≤ x ∧ x < 18446744073709551616) (hy : 0 ≤ y ∧ y < 18446744073709551616) (h1 : y % K = 0) (h2 : y / K < N) (h3 : x / K % N = 0) :
    iOr .u64 x y = x + y := by
  obtain ⟨a, ha, rfl⟩ := natOf (b := 18446744073709551616) hx
  obtain ⟨b, hb, rfl⟩ := natOf (b := 18446744073709551616) hy
  subst hK; subst hN
  rw [or64_nat a b ha hb, or_nat k n a b (Int.ofNat_inj.1 (by rw [Int.natCast_emod]; exact h1)) (Int.ofNat_lt.1 (by rw [Int.natCast_ediv]; exact h2)) (Int.ofNat_inj.1 (by rw [Int.natCast_emod, Int.natCast_ediv]; exact h3))]
  exact Int.natCast_add _ _

/-- One part more behind what there is. -/
theorem step64 (k : Nat) (y M : Int) (hM : (2 : Int) ^ (min y.toNat 64) = M) (hk : ((2 ^ k : Nat) : Int) = M) {v p : Int} (hv : 0 ≤ v) (hp : 0 ≤ p ∧ p < M) (h : v * M + p < 18446744073709551616) : iOr .u64 (iShl .u64 v y) p = v * M + p := by
  have h0 : 0 ≤ v * M := Int.mul_nonneg hv (by omega)
  rw [shl64 y M hM ⟨h0, by omega⟩]
  refine or64 0 k 1 M (by decide) hk ⟨h0, by omega⟩ ⟨hp.1, by omega⟩ (by omega) (by omega) ?_
  rw [Int.ediv_one, Int.mul_emod_left]

/-- A number with its sign. H: half of what there is. -/
theorem signed64 {x : Int} (y M H : Int) (hM : (2 : Int) ^ (min y.toNat 64) = M) (hH : H * M = 9223372036854775808) (hHp : 0 < H) (hMp : 0 < M) (h : 0 ≤ x ∧ x < 2 * H) :
    iConv .i64 (iConv .u64 (iShr .i64 (iConv .i64 (iShl .u64 x y)) y)) = if x < H then x else x - 2 * H := by
  have hb : x * M < 18446744073709551616 := by
    have : x * M < (2 * H) * M := Int.mul_lt_mul_of_pos_right h.2 hMp
    rw [Int.mul_assoc, hH] at this
    omega
  have h0 : 0 ≤ x * M := Int.mul_nonneg h.1 (by omega)
  have hHle : H ≤ 9223372036854775808 := by
    have : H * 1 ≤ H * M := Int.mul_le_mul_of_nonneg_left (by omega) (by omega)
    omega
  rw [shl64 y M hM ⟨h0, hb⟩, shrI y M hM (by omega)]
  split
  · rename_i hx
    have h1 : x * M < H * M := Int.mul_lt_mul_of_pos_right hx hMp
    rw [convI_of (n := x * M) ⟨by omega, by omega⟩, Int.mul_ediv_cancel _ (by omega), conv64_of (n := x) ⟨h.1, by omega⟩, convI_of (n := x) ⟨by omega, by omega⟩]
  · rename_i hx
    have h1 : H * M ≤ x * M := Int.mul_le_mul_of_nonneg_right (by omega) (by omega)
    have e1 : iConv .i64 (x * M) = (x - 2 * H) * M := by
      show IntKind.i64.wrap _ = _
      rw [wrapI_eq]
      have e2 : (x - 2 * H) * M = x * M - 18446744073709551616 := by
        rw [Int.sub_mul, Int.mul_assoc 2, hH]
        omega
      rw [e2]
      omega
    rw [e1, Int.mul_ediv_cancel _ (by omega)]
    show IntKind.i64.wrap (IntKind.u64.wrap _) = _
    rw [wrapU_eq, wrapI_eq]
    omega
end Go.Ev
