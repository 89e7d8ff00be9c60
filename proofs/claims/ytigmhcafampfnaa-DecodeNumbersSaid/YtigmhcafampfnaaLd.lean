/-
  The plain law DecodeNumbers, of the printed functions.
-/
import Derived.Test.YtigmhcafampfnaaLb
import Derived.Test.YtigmhcafampfnaaGb
set_option linter.unusedVariables false
set_option linter.unusedSimpArgs false
namespace Go.Proofs.Ytigmhcafampfnaa.PV
open Go Go.Ev

theorem inR_i16 {n : Int} (h : inR (.it .i16 n)) : -32768 ≤ n ∧ n < 32768 := by
  have h1 : -32768 ≤ n := h.1
  have h2 : n ≤ 32767 := h.2
  omega

theorem num_k {n : Int} (h : -32768 ≤ n ∧ n < 32768) : iShr .i64 (iShl .i64 (iConv .i64 n) 52) 52 = if n % 4096 < 2048 then n % 4096 else n % 4096 - 4096 := by
  rw [convI_of ⟨by omega, by omega⟩, shrI 52 4503599627370496 (by decide +kernel) (by decide)]
  unfold iShl
  rw [show (2 : Int) ^ (min (52 : Int).toNat IntKind.i64.bits) = 4503599627370496 by decide +kernel, wrapI_eq]
  split <;> split <;> omega
theorem num_u {n : Int} (h : -32768 ≤ n ∧ n < 32768) : iAnd .u32 (iConv .u32 (iShr .i64 (iShl .i64 (iConv .i64 n) 52) 52)) 4095 = n % 4096 := by
  rw [num_k h, conv32, and32 (m := 4095) 12 4096 (by decide +kernel) (by decide) (by decide) ⟨by omega, by omega⟩]
  split <;> omega
theorem num_r {a : Int} (h : 0 ≤ a ∧ a < 256) : iConv .u32 (iRem a 32) = a % 32 := by
  have e1 : iRem a 32 = a % 32 := by show a.tmod 32 = _; rw [Int.tmod_eq_emod_of_nonneg h.1]
  rw [e1, conv32_of ⟨by omega, by omega⟩]

theorem num0 {u b a : Int} (hu : 0 ≤ u ∧ u < 4096) (hb : 0 ≤ b ∧ b < 32) (ha : 0 ≤ a ∧ a < 32) : iOr .u32 (iOr .u32 (iOr .u32 (iShl .u32 u 20) (iShl .u32 b 15)) (iShl .u32 a 7)) 19 = u * 1048576 + b * 32768 + a * 128 + 19 := by
  rw [shl32 20 1048576 (by decide +kernel) ⟨by omega, by omega⟩, shl32 15 32768 (by decide +kernel) ⟨by omega, by omega⟩, shl32 7 128 (by decide +kernel) ⟨by omega, by omega⟩,
    or32s (x := u * 1048576) (y := b * 32768) 0 u b 15 5 32768 32 (by decide +kernel) (by decide +kernel) (by omega) (by omega) (by omega) (by omega) (by omega) (by omega),
    or32s (x := u * 1048576 + b * 32768) (y := a * 128) 0 (u * 256 + b * 8) a 7 5 128 32 (by decide +kernel) (by decide +kernel) (by omega) (by omega) (by omega) (by omega) (by omega) (by omega),
    or32s (x := u * 1048576 + b * 32768 + a * 128) (y := 19) 0 (u * 8192 + b * 256 + a) 19 0 7 1 128 (by decide +kernel) (by decide +kernel) (by omega) (by omega) (by omega) (by omega) (by omega) (by omega)]
theorem num1 {u b a : Int} (hu : 0 ≤ u ∧ u < 4096) (hb : 0 ≤ b ∧ b < 32) (ha : 0 ≤ a ∧ a < 32) : iOr .u32 (iOr .u32 (iOr .u32 (iOr .u32 (iShl .u32 u 20) (iShl .u32 b 15)) 12288) (iShl .u32 a 7)) 3 = u * 1048576 + b * 32768 + 12288 + a * 128 + 3 := by
  rw [shl32 20 1048576 (by decide +kernel) ⟨by omega, by omega⟩, shl32 15 32768 (by decide +kernel) ⟨by omega, by omega⟩, shl32 7 128 (by decide +kernel) ⟨by omega, by omega⟩,
    or32s (x := u * 1048576) (y := b * 32768) 0 u b 15 5 32768 32 (by decide +kernel) (by decide +kernel) (by omega) (by omega) (by omega) (by omega) (by omega) (by omega),
    or32s (x := u * 1048576 + b * 32768) (y := 12288) 0 (u * 32 + b) 3 12 3 4096 8 (by decide +kernel) (by decide +kernel) (by omega) (by omega) (by omega) (by omega) (by omega) (by omega),
    or32s (x := u * 1048576 + b * 32768 + 12288) (y := a * 128) 0 (u * 256 + b * 8 + 3) a 7 5 128 32 (by decide +kernel) (by decide +kernel) (by omega) (by omega) (by omega) (by omega) (by omega) (by omega),
    or32s (x := u * 1048576 + b * 32768 + 12288 + a * 128) (y := 3) 0 (u * 8192 + b * 256 + 96 + a) 3 0 7 1 128 (by decide +kernel) (by decide +kernel) (by omega) (by omega) (by omega) (by omega) (by omega) (by omega)]
theorem num2 {u b a : Int} (hu : 0 ≤ u ∧ u < 4096) (hb : 0 ≤ b ∧ b < 32) (ha : 0 ≤ a ∧ a < 32) :
    iOr .u32 (iOr .u32 (iOr .u32 (iOr .u32 (iOr .u32 (iShl .u32 (iShr .u32 u 5) 25) (iShl .u32 a 20)) (iShl .u32 b 15)) 12288) (iShl .u32 (iAnd .u32 u 31) 7)) 35 = u / 32 * 33554432 + a * 1048576 + b * 32768 + 12288 + u % 32 * 128 + 35 := by
  rw [shr32 5 32 (by decide +kernel) (by decide), and32 (m := 31) 5 32 (by decide +kernel) (by decide) (by decide) ⟨by omega, by omega⟩]
  obtain ⟨p, hp⟩ : ∃ p, u / 32 = p := ⟨_, rfl⟩
  obtain ⟨q, hq⟩ : ∃ q, u % 32 = q := ⟨_, rfl⟩
  rw [hp, hq]
  have bp : 0 ≤ p ∧ p < 128 := by omega
  have bq : 0 ≤ q ∧ q < 32 := by omega
  clear hp hq hu
  rw [shl32 25 33554432 (by decide +kernel) ⟨by omega, by omega⟩, shl32 20 1048576 (by decide +kernel) ⟨by omega, by omega⟩, shl32 15 32768 (by decide +kernel) ⟨by omega, by omega⟩, shl32 7 128 (by decide +kernel) ⟨by omega, by omega⟩,
    or32s (x := p * 33554432) (y := a * 1048576) 0 p a 20 5 1048576 32 (by decide +kernel) (by decide +kernel) (by omega) (by omega) (by omega) (by omega) (by omega) (by omega),
    or32s (x := p * 33554432 + a * 1048576) (y := b * 32768) 0 (p * 32 + a) b 15 5 32768 32 (by decide +kernel) (by decide +kernel) (by omega) (by omega) (by omega) (by omega) (by omega) (by omega),
    or32s (x := p * 33554432 + a * 1048576 + b * 32768) (y := 12288) 0 (p * 1024 + a * 32 + b) 3 12 3 4096 8 (by decide +kernel) (by decide +kernel) (by omega) (by omega) (by omega) (by omega) (by omega) (by omega),
    or32s (x := p * 33554432 + a * 1048576 + b * 32768 + 12288) (y := q * 128) 0 (p * 8192 + a * 256 + b * 8 + 3) q 7 5 128 32 (by decide +kernel) (by decide +kernel) (by omega) (by omega) (by omega) (by omega) (by omega) (by omega),
    or32s (x := p * 33554432 + a * 1048576 + b * 32768 + 12288 + q * 128) (y := 35) 0 (p * 262144 + a * 8192 + b * 256 + 96 + q) 35 0 7 1 128 (by decide +kernel) (by decide +kernel) (by omega) (by omega) (by omega) (by omega) (by omega) (by omega)]
theorem num3 {m a : Int} (hm : 0 ≤ m ∧ m < 1048576) (ha : 0 ≤ a ∧ a < 32) : iOr .u32 (iOr .u32 (m * 4096) (iShl .u32 a 7)) 55 = m * 4096 + a * 128 + 55 := by
  rw [shl32 7 128 (by decide +kernel) ⟨by omega, by omega⟩,
    or32s (x := m * 4096) (y := a * 128) 0 m a 7 5 128 32 (by decide +kernel) (by decide +kernel) (by omega) (by omega) (by omega) (by omega) (by omega) (by omega),
    or32s (x := m * 4096 + a * 128) (y := 55) 0 (m * 32 + a) 55 0 7 1 128 (by decide +kernel) (by decide +kernel) (by omega) (by omega) (by omega) (by omega) (by omega) (by omega)]
theorem num_s {n : Int} (h : -32768 ≤ n ∧ n < 32768) : iShl .u32 (iConv .u32 n) 12 = n % 1048576 * 4096 := by
  rw [conv32]
  unfold iShl
  rw [show (2 : Int) ^ (min (12 : Int).toNat IntKind.u32.bits) = 4096 by decide +kernel, wrap32]
  omega
theorem convi32 {x : Int} (h : 0 ≤ x ∧ x < 4294967296) : iConv .i32 x = if x < 2147483648 then x else x - 4294967296 := by
  show IntKind.i32.wrap x = _
  unfold IntKind.wrap
  have e : x % 4294967296 = x := by omega
  show (if (true && decide (x % 4294967296 ≥ 2147483648)) = true then x % 4294967296 - 4294967296 else x % 4294967296) = _
  rw [e]
  simp only [Bool.true_and, decide_eq_true_eq]
  split <;> split <;> omega

theorem pw0 {u b a x : Int} (hu : 0 ≤ u ∧ u < 4096) (hb : 0 ≤ b ∧ b < 32) (ha : 0 ≤ a ∧ a < 32) (e : u * 1048576 + b * 32768 + a * 128 + 19 = x) : W32 x ∧ x % 128 = 19 ∧ x / 4096 % 8 = 0 ∧ x / 128 % 32 = a ∧ x / 32768 % 32 = b ∧ x / 1048576 = u :=
  ⟨⟨by omega, by omega⟩, by omega, by omega, by omega, by omega, by omega⟩
theorem pw1 {u b a x : Int} (hu : 0 ≤ u ∧ u < 4096) (hb : 0 ≤ b ∧ b < 32) (ha : 0 ≤ a ∧ a < 32) (e : u * 1048576 + b * 32768 + 12288 + a * 128 + 3 = x) : W32 x ∧ x % 128 = 3 ∧ x / 4096 % 8 = 3 ∧ x / 128 % 32 = a ∧ x / 32768 % 32 = b ∧ x / 1048576 = u :=
  ⟨⟨by omega, by omega⟩, by omega, by omega, by omega, by omega, by omega⟩
theorem pw2 {p q b a x : Int} (hp : 0 ≤ p ∧ p < 128) (hq : 0 ≤ q ∧ q < 32) (hb : 0 ≤ b ∧ b < 32) (ha : 0 ≤ a ∧ a < 32) (e : p * 33554432 + a * 1048576 + b * 32768 + 12288 + q * 128 + 35 = x) :
    W32 x ∧ x % 128 = 35 ∧ x / 4096 % 8 = 3 ∧ x / 1048576 % 32 = a ∧ x / 32768 % 32 = b ∧ x / 33554432 = p ∧ x / 128 % 32 = q :=
  ⟨⟨by omega, by omega⟩, by omega, by omega, by omega, by omega, by omega, by omega⟩
theorem pw3 {m a x : Int} (hm : 0 ≤ m ∧ m < 1048576) (ha : 0 ≤ a ∧ a < 32) (e : m * 4096 + a * 128 + 55 = x) : W32 x ∧ x % 128 = 55 ∧ x / 4096 = m :=
  ⟨⟨by omega, by omega⟩, by omega, by omega⟩

theorem pwS {u : Int} (h : 0 ≤ u ∧ u < 4096) : (if u / 32 < 64 then u / 32 * 32 + u % 32 else u / 32 * 32 + u % 32 - 4096) = if u < 2048 then u else u - 4096 := by split <;> split <;> omega

theorem decodeNumbers_true {n r s : Int} (hn : -32768 ≤ n ∧ n < 32768) (hr : 0 ≤ r ∧ r < 256) (hs : 0 ≤ s ∧ s < 256) : sallyportlaw3_DecodeNumbers0 n r s = true := by
  obtain ⟨a, ea⟩ : ∃ a, r % 32 = a := ⟨_, rfl⟩
  obtain ⟨b, eb⟩ : ∃ b, s % 32 = b := ⟨_, rfl⟩
  obtain ⟨u, eu⟩ : ∃ u, n % 4096 = u := ⟨_, rfl⟩
  obtain ⟨m, em⟩ : ∃ m, n % 1048576 = m := ⟨_, rfl⟩
  have ba : 0 ≤ a ∧ a < 32 := by omega
  have bb : 0 ≤ b ∧ b < 32 := by omega
  have bu : 0 ≤ u ∧ u < 4096 := by omega
  have bm : 0 ≤ m ∧ m < 1048576 := by omega
  have k := num_k hn
  rw [eu] at k
  have w0 : sallyportlaw3_DecodeNumbers_c0 n r s = u * 1048576 + b * 32768 + a * 128 + 19 := by
    unfold sallyportlaw3_DecodeNumbers_c0
    rw [num_u hn, num_r hr, num_r hs, ea, eb, eu, num0 bu bb ba]
  have w1 : sallyportlaw3_DecodeNumbers_c1 n r s = u * 1048576 + b * 32768 + 12288 + a * 128 + 3 := by
    unfold sallyportlaw3_DecodeNumbers_c1
    rw [num_u hn, num_r hr, num_r hs, ea, eb, eu, num1 bu bb ba]
  have w2 : sallyportlaw3_DecodeNumbers_c2 n r s = u / 32 * 33554432 + a * 1048576 + b * 32768 + 12288 + u % 32 * 128 + 35 := by
    unfold sallyportlaw3_DecodeNumbers_c2
    rw [num_u hn, num_r hr, num_r hs, ea, eb, eu, num2 bu bb ba]
  have w3 : iOr IntKind.u32 (iOr IntKind.u32 (iShl IntKind.u32 (iConv IntKind.u32 n) 12) (iShl IntKind.u32 (iConv IntKind.u32 (iRem r 32)) 7)) 55 = m * 4096 + a * 128 + 55 := by
    rw [num_s hn, num_r hr, ea, em, num3 bm ba]
  have fin : iConv IntKind.i64 (iConv IntKind.i32 (iShl IntKind.u32 (iConv IntKind.u32 n) 12)) = if m < 524288 then m * 4096 else m * 4096 - 4294967296 := by
    rw [num_s hn, em, convi32 ⟨by omega, by omega⟩]
    split <;> split <;> first | omega | (rw [convI_of ⟨by omega, by omega⟩])
  have ra : iConv IntKind.i64 (iConv IntKind.u32 (iRem r 32)) = a := by rw [num_r hr, ea, convI_of ⟨by omega, by omega⟩]
  have rb : iConv IntKind.i64 (iConv IntKind.u32 (iRem s 32)) = b := by rw [num_r hs, eb, convI_of ⟨by omega, by omega⟩]
  clear ea eb eu em
  obtain ⟨x, ex⟩ : ∃ x, u * 1048576 + b * 32768 + a * 128 + 19 = x := ⟨_, rfl⟩
  obtain ⟨y, ey⟩ : ∃ x, u * 1048576 + b * 32768 + 12288 + a * 128 + 3 = x := ⟨_, rfl⟩
  obtain ⟨z, ez⟩ : ∃ x, u / 32 * 33554432 + a * 1048576 + b * 32768 + 12288 + u % 32 * 128 + 35 = x := ⟨_, rfl⟩
  obtain ⟨v, ev⟩ : ∃ x, m * 4096 + a * 128 + 55 = x := ⟨_, rfl⟩
  rw [ex] at w0
  rw [ey] at w1
  rw [ez] at w2
  rw [ev] at w3
  obtain ⟨px, px1, px2, px3, px4, px5⟩ := pw0 bu bb ba ex
  obtain ⟨py, py1, py2, py3, py4, py5⟩ := pw1 bu bb ba ey
  obtain ⟨pz, pz1, pz2, pz3, pz4, pz5, pz6⟩ := pw2 (p := u / 32) (q := u % 32) ⟨by omega, by omega⟩ ⟨by omega, by omega⟩ bb ba ez
  obtain ⟨pv, pv1, pv2⟩ := pw3 bm ba ev
  have hx := dec_hit (hit22 px px1 px2)
  have hy := dec_hit (hit14 py py1 py2)
  have hz := dec_hit (hit21 pz pz1 pz2)
  have hv := dec_hit (hit1 pv pv1)
  obtain ⟨x0, x1, x2, x3, x4, x5, x6⟩ := hx
  obtain ⟨y0, y1, y2, y3, y4, y5, y6⟩ := hy
  obtain ⟨z0, z1, z2, z3, z4, z5, z6⟩ := hz
  obtain ⟨v0, v1, v2, v3, v4, v5, v6⟩ := hv
  rw [px3] at x1
  rw [px4] at x2
  rw [px5] at x4
  rw [py3] at y1
  rw [py4] at y2
  rw [py5] at y4
  rw [pz4] at z2
  rw [pz3] at z3
  rw [pz5, pz6] at z4
  have z4' : decode_Decode4 z = if u < 2048 then u else u - 4096 := by
    rw [z4, pwS bu]
  rw [pv2] at v4
  have c3 : sallyportlaw3_DecodeNumbers_c3 n r s = true := by
    unfold sallyportlaw3_DecodeNumbers_c3
    rw [w0, w1, w2, w3, x6, y6, z6, v6]
    rfl
  have c4 : sallyportlaw3_DecodeNumbers_c4 n r s = true := by
    unfold sallyportlaw3_DecodeNumbers_c4
    rw [w0, x5]
    rfl
  have c6 : sallyportlaw3_DecodeNumbers_c6 n r s = true := by
    unfold sallyportlaw3_DecodeNumbers_c6
    rw [w1, y5]
    rfl
  have c8 : sallyportlaw3_DecodeNumbers_c8 n r s = true := by
    unfold sallyportlaw3_DecodeNumbers_c8
    rw [w2, z5]
    rfl
  have c9 : sallyportlaw3_DecodeNumbers_c9 n r s = true := by
    unfold sallyportlaw3_DecodeNumbers_c9
    rw [w3, v4, fin, iEq_self]
  unfold sallyportlaw3_DecodeNumbers0
  rw [c3, c4, c6, c8, c9, w0, w1, w2, w3, x0, x1, x2, x3, x4, y0, y1, y2, y3, y4, z0, z1, z2, z3, z4', v0, k, ra, rb, iEq_self a, iEq_self b, iEq_self 22, iEq_self (if u < 2048 then u else u - 4096)]
  rfl
end Go.Proofs.Ytigmhcafampfnaa.PV
