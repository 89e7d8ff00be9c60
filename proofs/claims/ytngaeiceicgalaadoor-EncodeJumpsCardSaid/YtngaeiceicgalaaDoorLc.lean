/-
  EncodeJumps: the plain law.
-/
import Derived.Test.YtngaeiceicgalaaDoorLa
import Derived.Test.YtngaeiceicgalaaDoorEvW
import Derived.Test.YtngaeiceicgalaaDoorHc
set_option linter.unusedVariables false
set_option linter.unusedSimpArgs false
set_option maxRecDepth 100000
namespace Go.Proofs.YtngaeiceicgalaaDoor.PV
open Go Go.Ev
def jD (c : Int) (n : Int) : Int := iAndNot .i64 (iShr .i64 (iShl .i64 (iConv .i64 n) c) c) 1
def rG (a : Int) : Int := iConv .u32 (iRem a 32)
def jW (u x : Int) : Int := iOr .u32 (iOr .u32 (iOr .u32 (iOr .u32 (iOr .u32 (iShl .u32 (iAnd .u32 (iShr .u32 u 20) 1) 31) (iShl .u32 (iAnd .u32 (iShr .u32 u 1) 1023) 21)) (iShl .u32 (iAnd .u32 (iShr .u32 u 11) 1) 20)) (iShl .u32 (iAnd .u32 (iShr .u32 u 12) 255) 12)) (iShl .u32 x 7)) 111
def bW (t x y : Int) : Int := iOr .u32 (iOr .u32 (iOr .u32 (iOr .u32 (iOr .u32 (iOr .u32 (iOr .u32 (iShl .u32 (iAnd .u32 (iShr .u32 t 12) 1) 31) (iShl .u32 (iAnd .u32 (iShr .u32 t 5) 63) 25)) (iShl .u32 y 20)) (iShl .u32 x 15)) 16384) (iShl .u32 (iAnd .u32 (iShr .u32 t 1) 15) 8)) (iShl .u32 (iAnd .u32 (iShr .u32 t 11) 1) 7)) 99
def jI (n a : Int) : In6 := ⟨3, iConv .i64 (rG a), 0, 0, jD 43 n, 0⟩
def bI (n a b : Int) : In6 := ⟨7, 0, iConv .i64 (rG a), iConv .i64 (rG b), jD 51 n, 0⟩
def oI (n : Int) : In6 := ⟨3, 0, 0, 0, iOr .i64 (jD 43 n) 1, 0⟩
theorem jumpsE (n a b : Int) : pcOf Tryd.prog okT (lookR TE) HR RO NOV 100 false Tryd.f6 [.it .i32 n, .it .u8 a, .it .u8 b] =
    some (true, .bl (anB (anB (anB (anB (iEq (enE (jI n a)) 0) (iEq (enE (bI n a b)) 0)) (iEq (enE (oI n)) 40)) (iEq (enW (jI n a)) (jW (iConv .u32 (jD 43 n)) (rG a)))) (iEq (enW (bI n a b)) (bW (iConv .u32 (jD 51 n)) (rG a) (rG b))))) := by kernel_rfl
theorem wI (x : Int) : IntKind.i64.wrap x = if x % 18446744073709551616 ≥ 9223372036854775808 then x % 18446744073709551616 - 18446744073709551616 else x % 18446744073709551616 := by
  show (if (true && decide (x % 18446744073709551616 ≥ 9223372036854775808)) = true then x % 18446744073709551616 - 18446744073709551616 else x % 18446744073709551616) = _
  simp only [Bool.true_and, decide_eq_true_eq]
theorem andNot1 {s : Int} (h : -4294967296 ≤ s ∧ s < 4294967296) : iAndNot .i64 s 1 = s - s % 2 := by
  unfold iAndNot
  show IntKind.i64.wrap (((BitVec.ofInt 64 s &&& ~~~ (1#64)).toNat : Nat) : Int) = _
  have e : ∀ a : BitVec 64, a &&& ~~~ (1#64) = (a >>> 1) <<< 1 := fun a => BitVec.eq_of_getLsbD_eq fun i hi => by
    simp only [BitVec.getLsbD_and, BitVec.getLsbD_not, BitVec.getLsbD_shiftLeft, BitVec.getLsbD_ushiftRight, BitVec.getLsbD_one]
    by_cases h0 : i = 0
    · subst h0; simp
    · have h1 : ¬ i < 1 := by omega
      have h2 : 1 + (i - 1) = i := by omega
      simp [hi, h0, h1, h2]
  rw [e, BitVec.toNat_shiftLeft, BitVec.toNat_ushiftRight, BitVec.toNat_ofInt, Nat.shiftLeft_eq, Nat.shiftRight_eq_div_pow, wI]
  have : ((2 ^ 64 : Nat) : Int) = 18446744073709551616 := rfl
  rw [this]
  split <;> omega
theorem or1 {j : Int} (h : -4294967296 ≤ j ∧ j < 4294967296) (h2 : j % 2 = 0) : iOr .i64 j 1 = j + 1 := by
  unfold iOr
  show IntKind.i64.wrap (((BitVec.ofInt 64 j ||| 1#64).toNat : Nat) : Int) = _
  have e : ∀ n : Nat, n % 2 = 0 → n ||| 1 = n + 1 := fun n hn => by
    have := Nat.shiftLeft_add_eq_or_of_lt (b := 1) (i := 1) (by decide) (n / 2)
    rw [Nat.shiftLeft_eq, show n / 2 * 2 ^ 1 = n by omega] at this
    exact this.symm
  have e3 : ((2 ^ 64 : Nat) : Int) = 18446744073709551616 := rfl
  rw [BitVec.toNat_or, BitVec.toNat_ofInt, e3, show (1#64).toNat = 1 from rfl, e _ (by omega), wI]
  split <;> omega
theorem jD43 {n : Int} (hn : -2147483648 ≤ n ∧ n ≤ 2147483647) : -1048576 ≤ jD 43 n ∧ jD 43 n ≤ 1048574 ∧ jD 43 n % 2 = 0 := by
  have hs : -1048576 ≤ iShr .i64 (iShl .i64 (iConv .i64 n) 43) 43 ∧ iShr .i64 (iShl .i64 (iConv .i64 n) 43) 43 < 1048576 := by
    rw [convI_of ⟨by omega, by omega⟩]
    unfold iShr iShl
    rw [show (2 : Int) ^ (min (43 : Int).toNat IntKind.i64.bits) = 8796093022208 by decide +kernel, Int.fdiv_eq_ediv_of_nonneg _ (by omega), wI]
    split <;> omega
  unfold jD
  rw [andNot1 ⟨by omega, by omega⟩]
  omega
theorem jD51 {n : Int} (hn : -2147483648 ≤ n ∧ n ≤ 2147483647) : -4096 ≤ jD 51 n ∧ jD 51 n ≤ 4094 ∧ jD 51 n % 2 = 0 := by
  have hs : -4096 ≤ iShr .i64 (iShl .i64 (iConv .i64 n) 51) 51 ∧ iShr .i64 (iShl .i64 (iConv .i64 n) 51) 51 < 4096 := by
    rw [convI_of ⟨by omega, by omega⟩]
    unfold iShr iShl
    rw [show (2 : Int) ^ (min (51 : Int).toNat IntKind.i64.bits) = 2251799813685248 by decide +kernel, Int.fdiv_eq_ediv_of_nonneg _ (by omega), wI]
    split <;> omega
  unfold jD
  rw [andNot1 ⟨by omega, by omega⟩]
  omega
theorem jW_eq {u x : Int} (hu : 0 ≤ u ∧ u < 4294967296) (hx : 0 ≤ x ∧ x < 32) : jW u x = 111 + x * 128 + u / 1048576 % 2 * 2147483648 + u / 4096 % 256 * 4096 + u / 2048 % 2 * 1048576 + u / 2 % 1024 * 2097152 := by
  unfold jW
  rw [shr32 (x := u) 20 1048576 (by decide +kernel) (by decide),
    and32 (x := u / 1048576) (m := 1) 1 2 (by decide +kernel) (by decide) (by decide) ⟨by omega, by omega⟩,
    shl32 (x := u / 1048576 % 2) 31 2147483648 (by decide +kernel) ⟨by omega, by omega⟩,
    shr32 (x := u) 12 4096 (by decide +kernel) (by decide),
    and32 (x := u / 4096) (m := 255) 8 256 (by decide +kernel) (by decide) (by decide) ⟨by omega, by omega⟩,
    shl32 (x := u / 4096 % 256) 12 4096 (by decide +kernel) ⟨by omega, by omega⟩,
    shr32 (x := u) 11 2048 (by decide +kernel) (by decide),
    and32 (x := u / 2048) (m := 1) 1 2 (by decide +kernel) (by decide) (by decide) ⟨by omega, by omega⟩,
    shl32 (x := u / 2048 % 2) 20 1048576 (by decide +kernel) ⟨by omega, by omega⟩,
    shr32 (x := u) 1 2 (by decide +kernel) (by decide),
    and32 (x := u / 2) (m := 1023) 10 1024 (by decide +kernel) (by decide) (by decide) ⟨by omega, by omega⟩,
    shl32 (x := u / 2 % 1024) 21 2097152 (by decide +kernel) ⟨by omega, by omega⟩,
    shl32 (x := x) 7 128 (by decide +kernel) ⟨by omega, by omega⟩]
  have gp0 : 0 ≤ u / 1048576 % 2 ∧ u / 1048576 % 2 < 2 := by omega
  generalize u / 1048576 % 2 = p0 at gp0 ⊢
  have gp1 : 0 ≤ u / 4096 % 256 ∧ u / 4096 % 256 < 256 := by omega
  generalize u / 4096 % 256 = p1 at gp1 ⊢
  have gp2 : 0 ≤ u / 2048 % 2 ∧ u / 2048 % 2 < 2 := by omega
  generalize u / 2048 % 2 = p2 at gp2 ⊢
  have gp3 : 0 ≤ u / 2 % 1024 ∧ u / 2 % 1024 < 1024 := by omega
  generalize u / 2 % 1024 = p3 at gp3 ⊢
  rw [or32s (x := p0 * 2147483648) (y := p3 * 2097152) (0) (p0 * 1) (p3) 21 10 2097152 1024 (by decide +kernel) (by decide +kernel) (by omega) (by omega) ⟨by omega, by omega⟩ (by omega) ⟨by omega, by omega⟩ ⟨by omega, by omega⟩,
    or32s (x := p0 * 2147483648 + p3 * 2097152) (y := p2 * 1048576) (0) (p0 * 1024 + p3 * 1) (p2) 20 1 1048576 2 (by decide +kernel) (by decide +kernel) (by omega) (by omega) ⟨by omega, by omega⟩ (by omega) ⟨by omega, by omega⟩ ⟨by omega, by omega⟩,
    or32s (x := p0 * 2147483648 + p3 * 2097152 + p2 * 1048576) (y := p1 * 4096) (0) (p0 * 2048 + p3 * 2 + p2 * 1) (p1) 12 8 4096 256 (by decide +kernel) (by decide +kernel) (by omega) (by omega) ⟨by omega, by omega⟩ (by omega) ⟨by omega, by omega⟩ ⟨by omega, by omega⟩,
    or32s (x := p0 * 2147483648 + p3 * 2097152 + p2 * 1048576 + p1 * 4096) (y := x * 128) (0) (p0 * 524288 + p3 * 512 + p2 * 256 + p1 * 1) (x) 7 5 128 32 (by decide +kernel) (by decide +kernel) (by omega) (by omega) ⟨by omega, by omega⟩ (by omega) ⟨by omega, by omega⟩ ⟨by omega, by omega⟩,
    or32s (x := p0 * 2147483648 + p3 * 2097152 + p2 * 1048576 + p1 * 4096 + x * 128) (y := 111) (0) (p0 * 16777216 + p3 * 16384 + p2 * 8192 + p1 * 32 + x * 1) (111) 0 7 1 128 (by decide +kernel) (by decide +kernel) (by omega) (by omega) ⟨by omega, by omega⟩ (by omega) ⟨by omega, by omega⟩ ⟨by omega, by omega⟩]
  omega
theorem bW_eq {u x y : Int} (hu : 0 ≤ u ∧ u < 4294967296) (hx : 0 ≤ x ∧ x < 32) (hy : 0 ≤ y ∧ y < 32) : bW u x y = 99 + 4 * 4096 + x * 32768 + y * 1048576 + u / 4096 % 2 * 2147483648 + u / 2048 % 2 * 128 + u / 32 % 64 * 33554432 + u / 2 % 16 * 256 := by
  unfold bW
  rw [shr32 (x := u) 12 4096 (by decide +kernel) (by decide),
    and32 (x := u / 4096) (m := 1) 1 2 (by decide +kernel) (by decide) (by decide) ⟨by omega, by omega⟩,
    shl32 (x := u / 4096 % 2) 31 2147483648 (by decide +kernel) ⟨by omega, by omega⟩,
    shr32 (x := u) 11 2048 (by decide +kernel) (by decide),
    and32 (x := u / 2048) (m := 1) 1 2 (by decide +kernel) (by decide) (by decide) ⟨by omega, by omega⟩,
    shl32 (x := u / 2048 % 2) 7 128 (by decide +kernel) ⟨by omega, by omega⟩,
    shr32 (x := u) 5 32 (by decide +kernel) (by decide),
    and32 (x := u / 32) (m := 63) 6 64 (by decide +kernel) (by decide) (by decide) ⟨by omega, by omega⟩,
    shl32 (x := u / 32 % 64) 25 33554432 (by decide +kernel) ⟨by omega, by omega⟩,
    shr32 (x := u) 1 2 (by decide +kernel) (by decide),
    and32 (x := u / 2) (m := 15) 4 16 (by decide +kernel) (by decide) (by decide) ⟨by omega, by omega⟩,
    shl32 (x := u / 2 % 16) 8 256 (by decide +kernel) ⟨by omega, by omega⟩,
    shl32 (x := y) 20 1048576 (by decide +kernel) ⟨by omega, by omega⟩,
    shl32 (x := x) 15 32768 (by decide +kernel) ⟨by omega, by omega⟩]
  have gp0 : 0 ≤ u / 4096 % 2 ∧ u / 4096 % 2 < 2 := by omega
  generalize u / 4096 % 2 = q0 at gp0 ⊢
  have gp1 : 0 ≤ u / 2048 % 2 ∧ u / 2048 % 2 < 2 := by omega
  generalize u / 2048 % 2 = q1 at gp1 ⊢
  have gp2 : 0 ≤ u / 32 % 64 ∧ u / 32 % 64 < 64 := by omega
  generalize u / 32 % 64 = q2 at gp2 ⊢
  have gp3 : 0 ≤ u / 2 % 16 ∧ u / 2 % 16 < 16 := by omega
  generalize u / 2 % 16 = q3 at gp3 ⊢
  rw [or32s (x := q0 * 2147483648) (y := q2 * 33554432) (0) (q0 * 1) (q2) 25 6 33554432 64 (by decide +kernel) (by decide +kernel) (by omega) (by omega) ⟨by omega, by omega⟩ (by omega) ⟨by omega, by omega⟩ ⟨by omega, by omega⟩,
    or32s (x := q0 * 2147483648 + q2 * 33554432) (y := y * 1048576) (0) (q0 * 64 + q2 * 1) (y) 20 5 1048576 32 (by decide +kernel) (by decide +kernel) (by omega) (by omega) ⟨by omega, by omega⟩ (by omega) ⟨by omega, by omega⟩ ⟨by omega, by omega⟩,
    or32s (x := q0 * 2147483648 + q2 * 33554432 + y * 1048576) (y := x * 32768) (0) (q0 * 2048 + q2 * 32 + y * 1) (x) 15 5 32768 32 (by decide +kernel) (by decide +kernel) (by omega) (by omega) ⟨by omega, by omega⟩ (by omega) ⟨by omega, by omega⟩ ⟨by omega, by omega⟩,
    or32s (x := q0 * 2147483648 + q2 * 33554432 + y * 1048576 + x * 32768) (y := 16384) (0) (q0 * 65536 + q2 * 1024 + y * 32 + x * 1) (4) 12 3 4096 8 (by decide +kernel) (by decide +kernel) (by omega) (by omega) ⟨by omega, by omega⟩ (by omega) ⟨by omega, by omega⟩ ⟨by omega, by omega⟩,
    or32s (x := q0 * 2147483648 + q2 * 33554432 + y * 1048576 + x * 32768 + 16384) (y := q3 * 256) (0) (q0 * 524288 + q2 * 8192 + y * 256 + x * 8 + 4 * 1) (q3) 8 4 256 16 (by decide +kernel) (by decide +kernel) (by omega) (by omega) ⟨by omega, by omega⟩ (by omega) ⟨by omega, by omega⟩ ⟨by omega, by omega⟩,
    or32s (x := q0 * 2147483648 + q2 * 33554432 + y * 1048576 + x * 32768 + 16384 + q3 * 256) (y := q1 * 128) (0) (q0 * 8388608 + q2 * 131072 + y * 4096 + x * 128 + 4 * 16 + q3 * 1) (q1) 7 1 128 2 (by decide +kernel) (by decide +kernel) (by omega) (by omega) ⟨by omega, by omega⟩ (by omega) ⟨by omega, by omega⟩ ⟨by omega, by omega⟩,
    or32s (x := q0 * 2147483648 + q2 * 33554432 + y * 1048576 + x * 32768 + 16384 + q3 * 256 + q1 * 128) (y := 99) (0) (q0 * 16777216 + q2 * 262144 + y * 8192 + x * 256 + 4 * 32 + q3 * 2 + q1 * 1) (99) 0 7 1 128 (by decide +kernel) (by decide +kernel) (by omega) (by omega) ⟨by omega, by omega⟩ (by omega) ⟨by omega, by omega⟩ ⟨by omega, by omega⟩]
  omega
theorem reg_ok {x : Int} (h : 0 ≤ x ∧ x < 32) : sallyportref3_reg0 x true = true := by
  unfold sallyportref3_reg0
  cases h0 : iEq x 0 with
  | true => rfl
  | false =>
    have := iEq_false.1 h0
    rw [iLt_true.2 (show (0 : Int) < x by omega), iLt_true.2 h.2]; rfl
theorem within_ok {j lo hi : Int} (h : lo ≤ j ∧ j ≤ hi ∧ j % 2 = 0) : sallyportref3_within0 j lo hi 2 = true := by
  unfold sallyportref3_within0 iRem
  rw [iLe_true.2 h.1, iLe_true.2 h.2.1, Int.tmod_eq_zero_of_dvd (Int.dvd_of_emod_eq_zero h.2.2)]; rfl
theorem is3 {x j : Int} (hx : 0 ≤ x ∧ x < 32) (hj : -1048576 ≤ j ∧ j ≤ 1048574 ∧ j % 2 = 0) : sallyportref3_Is0 3 x 0 0 j 0 = true := by
  unfold sallyportref3_Is0
  rw [show sallyportref3_number0 3 x 0 0 j 0 = sallyportref3_within0 j (-1048576) 1048574 2 by kernel_rfl, within_ok hj,
    show sallyportref3_Parts0 3 = true by decide +kernel, show sallyportref3_Parts1 3 = false by decide +kernel, show sallyportref3_Parts2 3 = false by decide +kernel, show sallyportref3_Parts3 3 = false by decide +kernel,
    show sallyportref3_Parts4 3 = true by decide +kernel, show iEq (sallyportref3_Class0 3) 0 = false by decide +kernel, reg_ok hx]
  rfl
theorem is7 {x y j : Int} (hx : 0 ≤ x ∧ x < 32) (hy : 0 ≤ y ∧ y < 32) (hj : -4096 ≤ j ∧ j ≤ 4094 ∧ j % 2 = 0) : sallyportref3_Is0 7 0 x y j 0 = true := by
  unfold sallyportref3_Is0
  rw [show sallyportref3_number0 7 0 x y j 0 = sallyportref3_within0 j (-4096) 4094 2 by kernel_rfl, within_ok hj,
    show sallyportref3_Parts0 7 = false by decide +kernel, show sallyportref3_Parts1 7 = true by decide +kernel, show sallyportref3_Parts2 7 = true by decide +kernel, show sallyportref3_Parts3 7 = false by decide +kernel,
    show sallyportref3_Parts4 7 = true by decide +kernel, show iEq (sallyportref3_Class0 7) 0 = false by decide +kernel, reg_ok hx, reg_ok hy]
  rfl
theorem not3 {j : Int} (hj : j % 2 = 1) : sallyportref3_Is0 3 0 0 0 j 0 = false := by
  rw [← Bool.not_eq_true]
  intro h
  have hm := (is_hyps h).hnum (by decide +kernel)
  rw [show sallyportref3_number0 3 0 0 0 j 0 = sallyportref3_within0 j (-1048576) 1048574 2 by kernel_rfl] at hm
  have := rem_dvd (within_hyps hm).2.2
  omega
theorem rG_in {a : Int} (h : 0 ≤ a ∧ a < 256) : 0 ≤ rG a ∧ rG a < 32 := by
  unfold rG iRem
  rw [Int.tmod_eq_emod_of_nonneg h.1, conv32]; omega
theorem jumpsP : Plain Tryd.prog 6 Tryd.f6 := ⟨Tryd.func6, of_decide_eq_true (by kernel_rfl)⟩
theorem jumps_true {n a b : Int} (hn : -2147483648 ≤ n ∧ n ≤ 2147483647) (ha : 0 ≤ a ∧ a < 256) (hb : 0 ≤ b ∧ b < 256) : anB (anB (anB (anB (iEq (enE (jI n a)) 0) (iEq (enE (bI n a b)) 0)) (iEq (enE (oI n)) 40)) (iEq (enW (jI n a)) (jW (iConv .u32 (jD 43 n)) (rG a)))) (iEq (enW (bI n a b)) (bW (iConv .u32 (jD 51 n)) (rG a) (rG b))) = true := by
  have hj := jD43 hn
  have hk := jD51 hn
  have hx := rG_in ha
  have hy := rG_in hb
  have cx : iConv .i64 (rG a) = rG a := convI_of ⟨by omega, by omega⟩
  have cy : iConv .i64 (rG b) = rG b := convI_of ⟨by omega, by omega⟩
  have i1 : sallyportref3_Is0 3 (rG a) 0 0 (jD 43 n) 0 = true := is3 hx hj
  have i2 : sallyportref3_Is0 7 0 (rG a) (rG b) (jD 51 n) 0 = true := is7 hx hy hk
  have i3 : sallyportref3_Is0 3 0 0 0 (iOr .i64 (jD 43 n) 1) 0 = false := by
    rw [or1 ⟨by omega, by omega⟩ hj.2.2]; exact not3 (by omega)
  have e1 : isI (jI n a) = true := by unfold isI jI; rw [cx, ← is_eq]; exact i1
  have e2 : isI (bI n a b) = true := by unfold isI bI; rw [cx, cy, ← is_eq]; exact i2
  have e3 : isI (oI n) = false := by unfold isI oI; rw [← is_eq]; exact i3
  have w1 : enW (jI n a) = jW (iConv .u32 (jD 43 n)) (rG a) := by
    rw [enW_eq, conv32, jW_eq ⟨by omega, by omega⟩ hx, ← (enc3 i1).1]
    unfold rwW jI; rw [cx]
  have w2 : enW (bI n a b) = bW (iConv .u32 (jD 51 n)) (rG a) (rG b) := by
    rw [enW_eq, conv32, bW_eq ⟨by omega, by omega⟩ hx hy, ← (enc7 i2).1]
    unfold rwW bI; rw [cx, cy]
  rw [w1, w2, enE_is, enE_is, enE_is, e1, e2, e3, iEq_true.2 rfl, iEq_true.2 rfl, cond_true, cond_false, iEq_true.2 rfl, iEq_true.2 rfl]
  rfl
theorem jumps_law (g : Nat → AV) (hg : Ofs [.int .i32, .int .u8, .int .u8] (norms [.int .i32, .int .u8, .int .u8] 0 g)) : Gives Tryd.prog 6 (norms [.int .i32, .int .u8, .int .u8] 0 g) (.bl true) := by
  have h1 : inR (.it .i32 (g 0).num) := hg.2.2.1
  have h2 : inR (.it .u8 (g 1).num) := hg.2.2.2.1
  have h3 : inR (.it .u8 (g 2).num) := hg.2.2.2.2.1
  have := pcOf_ok mix fair TE_ok HR_ok jumpsP (fun c _ => OvOk_none c) (jumpsE (g 0).num (g 1).num (g 2).num) rfl
  rw [jumps_true ⟨h1.1, h1.2⟩ ⟨h2.1, by have : (g 1).num ≤ 255 := h2.2; omega⟩ ⟨h3.1, by have : (g 2).num ≤ 255 := h3.2; omega⟩] at this
  exact this
end Go.Proofs.YtngaeiceicgalaaDoor.PV
