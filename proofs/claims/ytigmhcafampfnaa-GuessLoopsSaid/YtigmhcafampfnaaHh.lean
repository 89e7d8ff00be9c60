/-
  What the document guesses of a word, as arithmetic. Printed by a program of the prover's own (wip/prt/words5.py).
-/
import Derived.Test.YtigmhcafampfnaaHf
import Derived.Test.YtigmhcafampfnaaGd
set_option linter.unusedVariables false
set_option linter.unusedSimpArgs false
namespace Go.Proofs.Ytigmhcafampfnaa.PV
open Go Go.Ev

theorem rsext12 {x : Int} (h : 0 ≤ x ∧ x < 4096) : sallyportref3_sext0 x 12 = if x < 2048 then x else x - 4096 := by
  have k1 : iConv IntKind.u64 (iMax 1 (iMin 12 64)) = 12 := by decide +kernel
  have k2 : iSub IntKind.u64 (iShl IntKind.u64 1 12) 1 = 4095 := by decide +kernel
  have k3 : iSub IntKind.u64 12 1 = 11 := by decide +kernel
  have k4 : iShl IntKind.u64 18446744073709551615 12 = 18446744073709547520 := by decide +kernel
  have k5 : iEq (12 : Int) 64 = false := by decide +kernel
  unfold sallyportref3_sext0 sallyportref1_Sext0 sallyportref1_Sext_c0
  rw [k1, k5, cond_false, k2, k3, k4, conv64_of ⟨h.1, by omega⟩, and64 (m := 4095) 12 4096 (by decide +kernel) (by decide) (by decide) ⟨h.1, by omega⟩,
    shr64 11 2048 (by decide +kernel) (by decide)]
  have e : x % 4096 = x := by omega
  rw [e]
  by_cases hx : x < 2048
  · have e1 : iEq (x / 2048) 1 = false := by rw [iEq_false]; omega
    rw [e1, cond_false, if_pos hx]
    exact convI_of ⟨by omega, by omega⟩
  · have e1 : iEq (x / 2048) 1 = true := by rw [iEq_true]; omega
    rw [e1, cond_true, if_neg hx, or64 (x := x) (y := 18446744073709547520) 12 52 4096 4503599627370496 (by decide +kernel) (by decide +kernel) ⟨h.1, by omega⟩ (by decide) (by decide) (by decide) (by omega)]
    show IntKind.i64.wrap _ = _
    rw [wrapI_eq]
    split <;> omega
theorem rsext13 {x : Int} (h : 0 ≤ x ∧ x < 8192) : sallyportref3_sext0 x 13 = if x < 4096 then x else x - 8192 := by
  have k1 : iConv IntKind.u64 (iMax 1 (iMin 13 64)) = 13 := by decide +kernel
  have k2 : iSub IntKind.u64 (iShl IntKind.u64 1 13) 1 = 8191 := by decide +kernel
  have k3 : iSub IntKind.u64 13 1 = 12 := by decide +kernel
  have k4 : iShl IntKind.u64 18446744073709551615 13 = 18446744073709543424 := by decide +kernel
  have k5 : iEq (13 : Int) 64 = false := by decide +kernel
  unfold sallyportref3_sext0 sallyportref1_Sext0 sallyportref1_Sext_c0
  rw [k1, k5, cond_false, k2, k3, k4, conv64_of ⟨h.1, by omega⟩, and64 (m := 8191) 13 8192 (by decide +kernel) (by decide) (by decide) ⟨h.1, by omega⟩,
    shr64 12 4096 (by decide +kernel) (by decide)]
  have e : x % 8192 = x := by omega
  rw [e]
  by_cases hx : x < 4096
  · have e1 : iEq (x / 4096) 1 = false := by rw [iEq_false]; omega
    rw [e1, cond_false, if_pos hx]
    exact convI_of ⟨by omega, by omega⟩
  · have e1 : iEq (x / 4096) 1 = true := by rw [iEq_true]; omega
    rw [e1, cond_true, if_neg hx, or64 (x := x) (y := 18446744073709543424) 13 51 8192 2251799813685248 (by decide +kernel) (by decide +kernel) ⟨h.1, by omega⟩ (by decide) (by decide) (by decide) (by omega)]
    show IntKind.i64.wrap _ = _
    rw [wrapI_eq]
    split <;> omega
theorem rsext21 {x : Int} (h : 0 ≤ x ∧ x < 2097152) : sallyportref3_sext0 x 21 = if x < 1048576 then x else x - 2097152 := by
  have k1 : iConv IntKind.u64 (iMax 1 (iMin 21 64)) = 21 := by decide +kernel
  have k2 : iSub IntKind.u64 (iShl IntKind.u64 1 21) 1 = 2097151 := by decide +kernel
  have k3 : iSub IntKind.u64 21 1 = 20 := by decide +kernel
  have k4 : iShl IntKind.u64 18446744073709551615 21 = 18446744073707454464 := by decide +kernel
  have k5 : iEq (21 : Int) 64 = false := by decide +kernel
  unfold sallyportref3_sext0 sallyportref1_Sext0 sallyportref1_Sext_c0
  rw [k1, k5, cond_false, k2, k3, k4, conv64_of ⟨h.1, by omega⟩, and64 (m := 2097151) 21 2097152 (by decide +kernel) (by decide) (by decide) ⟨h.1, by omega⟩,
    shr64 20 1048576 (by decide +kernel) (by decide)]
  have e : x % 2097152 = x := by omega
  rw [e]
  by_cases hx : x < 1048576
  · have e1 : iEq (x / 1048576) 1 = false := by rw [iEq_false]; omega
    rw [e1, cond_false, if_pos hx]
    exact convI_of ⟨by omega, by omega⟩
  · have e1 : iEq (x / 1048576) 1 = true := by rw [iEq_true]; omega
    rw [e1, cond_true, if_neg hx, or64 (x := x) (y := 18446744073707454464) 21 43 2097152 8796093022208 (by decide +kernel) (by decide +kernel) ⟨h.1, by omega⟩ (by decide) (by decide) (by decide) (by omega)]
    show IntKind.i64.wrap _ = _
    rw [wrapI_eq]
    split <;> omega
theorem rsext32 {x : Int} (h : 0 ≤ x ∧ x < 4294967296) : sallyportref3_sext0 x 32 = if x < 2147483648 then x else x - 4294967296 := by
  have k1 : iConv IntKind.u64 (iMax 1 (iMin 32 64)) = 32 := by decide +kernel
  have k2 : iSub IntKind.u64 (iShl IntKind.u64 1 32) 1 = 4294967295 := by decide +kernel
  have k3 : iSub IntKind.u64 32 1 = 31 := by decide +kernel
  have k4 : iShl IntKind.u64 18446744073709551615 32 = 18446744069414584320 := by decide +kernel
  have k5 : iEq (32 : Int) 64 = false := by decide +kernel
  unfold sallyportref3_sext0 sallyportref1_Sext0 sallyportref1_Sext_c0
  rw [k1, k5, cond_false, k2, k3, k4, conv64_of ⟨h.1, by omega⟩, and64 (m := 4294967295) 32 4294967296 (by decide +kernel) (by decide) (by decide) ⟨h.1, by omega⟩,
    shr64 31 2147483648 (by decide +kernel) (by decide)]
  have e : x % 4294967296 = x := by omega
  rw [e]
  by_cases hx : x < 2147483648
  · have e1 : iEq (x / 2147483648) 1 = false := by rw [iEq_false]; omega
    rw [e1, cond_false, if_pos hx]
    exact convI_of ⟨by omega, by omega⟩
  · have e1 : iEq (x / 2147483648) 1 = true := by rw [iEq_true]; omega
    rw [e1, cond_true, if_neg hx, or64 (x := x) (y := 18446744069414584320) 32 32 4294967296 4294967296 (by decide +kernel) (by decide +kernel) ⟨h.1, by omega⟩ (by decide) (by decide) (by decide) (by omega)]
    show IntKind.i64.wrap _ = _
    rw [wrapI_eq]
    split <;> omega

theorem gI {w : Int} (hw : W32 w) : sallyportref3_sext0 (iShr IntKind.u32 w 20) 12 = if w / 1048576 < 2048 then w / 1048576 else w / 1048576 - 4096 := by
  have h := hw
  unfold W32 at h
  rw [shr32 20 1048576 (by decide +kernel) (by decide), rsext12 ⟨by omega, by omega⟩]
theorem gU {w : Int} (hw : W32 w) : sallyportref3_sext0 (iAnd IntKind.u32 w 4294963200) 32 = if w / 4096 < 524288 then w / 4096 * 4096 else w / 4096 * 4096 - 4294967296 := by
  have h := hw
  unfold W32 at h
  rw [andHi h, rsext32 ⟨by omega, by omega⟩]
  split <;> split <;> omega
theorem gS {w : Int} (hw : W32 w) : sallyportref3_sext0 (iOr IntKind.u32 (iShl IntKind.u32 (iShr IntKind.u32 w 25) 5) (iAnd IntKind.u32 (iShr IntKind.u32 w 7) 31)) 12 = if w / 33554432 < 64 then w / 33554432 * 32 + w / 128 % 32 else w / 33554432 * 32 + w / 128 % 32 - 4096 := by
  have h := hw
  unfold W32 at h
  rw [shr32 25 33554432 (by decide +kernel) (by decide), shr32 7 128 (by decide +kernel) (by decide), shl32 5 32 (by decide +kernel) ⟨by omega, by omega⟩, and32 (m := 31) 5 32 (by decide +kernel) (by decide) (by decide) ⟨by omega, by omega⟩,
    or32s 0 (w / 33554432) (w / 128 % 32) 0 5 1 32 (by decide +kernel) (by decide +kernel) (by omega) (by omega) (by omega) (by omega) (by omega) (by omega), rsext12 ⟨by omega, by omega⟩]
  split <;> split <;> omega
theorem gB {w : Int} (hw : W32 w) : sallyportref3_sext0 (iOr IntKind.u32 (iOr IntKind.u32 (iOr IntKind.u32 (iShl IntKind.u32 (iShr IntKind.u32 w 31) 12) (iShl IntKind.u32 (iAnd IntKind.u32 (iShr IntKind.u32 w 7) 1) 11)) (iShl IntKind.u32 (iAnd IntKind.u32 (iShr IntKind.u32 w 25) 63) 5)) (iShl IntKind.u32 (iAnd IntKind.u32 (iShr IntKind.u32 w 8) 15) 1)) 13 = w / 128 % 2 * 2048 + w / 33554432 % 64 * 32 + w / 256 % 16 * 2 - w / 2147483648 * 4096 := by
  have h := hw
  unfold W32 at h
  rw [shr32 31 2147483648 (by decide +kernel) (by decide), shr32 7 128 (by decide +kernel) (by decide), shr32 25 33554432 (by decide +kernel) (by decide), shr32 8 256 (by decide +kernel) (by decide),
    and32 (m := 1) 1 2 (by decide +kernel) (by decide) (by decide) ⟨by omega, by omega⟩, and32 (m := 63) 6 64 (by decide +kernel) (by decide) (by decide) ⟨by omega, by omega⟩, and32 (m := 15) 4 16 (by decide +kernel) (by decide) (by decide) ⟨by omega, by omega⟩]
  obtain ⟨a, ea⟩ : ∃ a, w / 2147483648 = a := ⟨_, rfl⟩
  obtain ⟨b, eb⟩ : ∃ b, w / 128 % 2 = b := ⟨_, rfl⟩
  obtain ⟨c, ec⟩ : ∃ c, w / 33554432 % 64 = c := ⟨_, rfl⟩
  obtain ⟨d, ed⟩ : ∃ d, w / 256 % 16 = d := ⟨_, rfl⟩
  rw [ea, eb, ec, ed]
  have ha : 0 ≤ a ∧ a < 2 := by omega
  have hb : 0 ≤ b ∧ b < 2 := by omega
  have hc : 0 ≤ c ∧ c < 64 := by omega
  have hd : 0 ≤ d ∧ d < 16 := by omega
  clear ea eb ec ed h hw
  rw [shl32 12 4096 (by decide +kernel) ⟨by omega, by omega⟩, shl32 11 2048 (by decide +kernel) ⟨by omega, by omega⟩, shl32 5 32 (by decide +kernel) ⟨by omega, by omega⟩, shl32 1 2 (by decide +kernel) ⟨by omega, by omega⟩,
    or32s (x := a * 4096) (y := b * 2048) 0 a b 11 1 2048 2 (by decide +kernel) (by decide +kernel) (by omega) (by omega) (by omega) (by omega) (by omega) (by omega),
    or32s (x := a * 4096 + b * 2048) (y := c * 32) 0 (a * 2 + b) c 5 6 32 64 (by decide +kernel) (by decide +kernel) (by omega) (by omega) (by omega) (by omega) (by omega) (by omega),
    or32s (x := a * 4096 + b * 2048 + c * 32) (y := d * 2) 0 ((a * 2 + b) * 64 + c) d 1 4 2 16 (by decide +kernel) (by decide +kernel) (by omega) (by omega) (by omega) (by omega) (by omega) (by omega), rsext13 ⟨by omega, by omega⟩]
  split <;> omega
theorem gJ {w : Int} (hw : W32 w) : sallyportref3_sext0 (iOr IntKind.u32 (iOr IntKind.u32 (iOr IntKind.u32 (iShl IntKind.u32 (iShr IntKind.u32 w 31) 20) (iShl IntKind.u32 (iAnd IntKind.u32 (iShr IntKind.u32 w 12) 255) 12)) (iShl IntKind.u32 (iAnd IntKind.u32 (iShr IntKind.u32 w 20) 1) 11)) (iShl IntKind.u32 (iAnd IntKind.u32 (iShr IntKind.u32 w 21) 1023) 1)) 21 = w / 4096 % 256 * 4096 + w / 1048576 % 2 * 2048 + w / 2097152 % 1024 * 2 - w / 2147483648 * 1048576 := by
  have h := hw
  unfold W32 at h
  rw [shr32 31 2147483648 (by decide +kernel) (by decide), shr32 12 4096 (by decide +kernel) (by decide), shr32 20 1048576 (by decide +kernel) (by decide), shr32 21 2097152 (by decide +kernel) (by decide),
    and32 (m := 255) 8 256 (by decide +kernel) (by decide) (by decide) ⟨by omega, by omega⟩, and32 (m := 1) 1 2 (by decide +kernel) (by decide) (by decide) ⟨by omega, by omega⟩, and32 (m := 1023) 10 1024 (by decide +kernel) (by decide) (by decide) ⟨by omega, by omega⟩]
  obtain ⟨a, ea⟩ : ∃ a, w / 2147483648 = a := ⟨_, rfl⟩
  obtain ⟨b, eb⟩ : ∃ b, w / 4096 % 256 = b := ⟨_, rfl⟩
  obtain ⟨c, ec⟩ : ∃ c, w / 1048576 % 2 = c := ⟨_, rfl⟩
  obtain ⟨d, ed⟩ : ∃ d, w / 2097152 % 1024 = d := ⟨_, rfl⟩
  rw [ea, eb, ec, ed]
  have ha : 0 ≤ a ∧ a < 2 := by omega
  have hb : 0 ≤ b ∧ b < 256 := by omega
  have hc : 0 ≤ c ∧ c < 2 := by omega
  have hd : 0 ≤ d ∧ d < 1024 := by omega
  clear ea eb ec ed h hw
  rw [shl32 20 1048576 (by decide +kernel) ⟨by omega, by omega⟩, shl32 12 4096 (by decide +kernel) ⟨by omega, by omega⟩, shl32 11 2048 (by decide +kernel) ⟨by omega, by omega⟩, shl32 1 2 (by decide +kernel) ⟨by omega, by omega⟩,
    or32s (x := a * 1048576) (y := b * 4096) 0 a b 12 8 4096 256 (by decide +kernel) (by decide +kernel) (by omega) (by omega) (by omega) (by omega) (by omega) (by omega),
    or32s (x := a * 1048576 + b * 4096) (y := c * 2048) 0 (a * 256 + b) c 11 1 2048 2 (by decide +kernel) (by decide +kernel) (by omega) (by omega) (by omega) (by omega) (by omega) (by omega),
    or32s (x := a * 1048576 + b * 4096 + c * 2048) (y := d * 2) 0 ((a * 256 + b) * 2 + c) d 1 10 2 1024 (by decide +kernel) (by decide +kernel) (by omega) (by omega) (by omega) (by omega) (by omega) (by omega), rsext21 ⟨by omega, by omega⟩]
  split <;> omega
theorem p7 {w : Int} (hw : W32 w) : iConv IntKind.i64 (iAnd IntKind.u32 (iShr IntKind.u32 w 7) 31) = w / 128 % 32 := by
  have h := hw
  unfold W32 at h
  rw [shr32 7 128 (by decide +kernel) (by decide), and32 (m := 31) 5 32 (by decide +kernel) (by decide) (by decide) ⟨by omega, by omega⟩]
  exact convI_of ⟨by omega, by omega⟩
theorem p15 {w : Int} (hw : W32 w) : iConv IntKind.i64 (iAnd IntKind.u32 (iShr IntKind.u32 w 15) 31) = w / 32768 % 32 := by
  have h := hw
  unfold W32 at h
  rw [shr32 15 32768 (by decide +kernel) (by decide), and32 (m := 31) 5 32 (by decide +kernel) (by decide) (by decide) ⟨by omega, by omega⟩]
  exact convI_of ⟨by omega, by omega⟩
theorem p20 {w : Int} (hw : W32 w) : iConv IntKind.i64 (iAnd IntKind.u32 (iShr IntKind.u32 w 20) 31) = w / 1048576 % 32 := by
  have h := hw
  unfold W32 at h
  rw [shr32 20 1048576 (by decide +kernel) (by decide), and32 (m := 31) 5 32 (by decide +kernel) (by decide) (by decide) ⟨by omega, by omega⟩]
  exact convI_of ⟨by omega, by omega⟩
theorem p206 {w : Int} (hw : W32 w) : iConv IntKind.i64 (iAnd IntKind.u32 (iShr IntKind.u32 w 20) 63) = w / 1048576 % 64 := by
  have h := hw
  unfold W32 at h
  rw [shr32 20 1048576 (by decide +kernel) (by decide), and32 (m := 63) 6 64 (by decide +kernel) (by decide) (by decide) ⟨by omega, by omega⟩]
  exact convI_of ⟨by omega, by omega⟩
theorem pcsr {w : Int} (hw : W32 w) : iConv IntKind.i64 (iShr IntKind.u32 w 20) = w / 1048576 := by
  have h := hw
  unfold W32 at h
  rw [shr32 20 1048576 (by decide +kernel) (by decide)]
  exact convI_of ⟨by omega, by omega⟩
theorem g1t {w op : Int} (hw : W32 w) (h : sallyportref3_Parts0 op = true) : sallyportref3_guess1 op w = w / 128 % 32 := by unfold sallyportref3_guess1; rw [h, cond_true, p7 hw]
theorem g1f {w op : Int} (h : sallyportref3_Parts0 op = false) : sallyportref3_guess1 op w = 0 := by unfold sallyportref3_guess1; rw [h, cond_false]
theorem g2t {w op : Int} (hw : W32 w) (h : sallyportref3_Parts1 op = true) : sallyportref3_guess2 op w = w / 32768 % 32 := by unfold sallyportref3_guess2; rw [h, cond_true, p15 hw]
theorem g2f {w op : Int} (h : sallyportref3_Parts1 op = false) : sallyportref3_guess2 op w = 0 := by unfold sallyportref3_guess2; rw [h, cond_false]
theorem g3t {w op : Int} (hw : W32 w) (h : sallyportref3_Parts2 op = true) : sallyportref3_guess3 op w = w / 1048576 % 32 := by unfold sallyportref3_guess3; rw [h, cond_true, p20 hw]
theorem g3f {w op : Int} (h : sallyportref3_Parts2 op = false) : sallyportref3_guess3 op w = 0 := by unfold sallyportref3_guess3; rw [h, cond_false]
theorem g5t {w op : Int} (hw : W32 w) (h : sallyportref3_Parts3 op = true) : sallyportref3_guess5 op w = w / 1048576 := by unfold sallyportref3_guess5; rw [h, cond_true, pcsr hw]
theorem g5f {w op : Int} (h : sallyportref3_Parts3 op = false) : sallyportref3_guess5 op w = 0 := by unfold sallyportref3_guess5; rw [h, cond_false]
theorem g4_U {w op : Int} (hw : W32 w)  (h0 : iLe op 2 = true) : sallyportref3_guess4 op w = if w / 4096 < 524288 then w / 4096 * 4096 else w / 4096 * 4096 - 4294967296 := by
  unfold sallyportref3_guess4 sallyportref3_guess_c20
  rw [h0, cond_true, gU hw]
theorem g4_J {w op : Int} (hw : W32 w) (h0 : iLe op 2 = false) (h1 : iEq op 3 = true) : sallyportref3_guess4 op w = w / 4096 % 256 * 4096 + w / 1048576 % 2 * 2048 + w / 2097152 % 1024 * 2 - w / 2147483648 * 1048576 := by
  unfold sallyportref3_guess4 sallyportref3_guess_c20
  rw [h0, cond_false, h1, cond_true, gJ hw]
theorem g4_B {w op : Int} (hw : W32 w) (h0 : iLe op 2 = false) (h1 : iEq op 3 = false) (h2 : iEq (sallyportref3_Class0 op) 2 = true) : sallyportref3_guess4 op w = w / 128 % 2 * 2048 + w / 33554432 % 64 * 32 + w / 256 % 16 * 2 - w / 2147483648 * 4096 := by
  unfold sallyportref3_guess4 sallyportref3_guess_c20
  rw [h0, cond_false, h1, cond_false, h2, cond_true, gB hw]
theorem g4_S {w op : Int} (hw : W32 w) (h0 : iLe op 2 = false) (h1 : iEq op 3 = false) (h2 : iEq (sallyportref3_Class0 op) 2 = false) (h3 : iEq (sallyportref3_Class0 op) 4 = true) : sallyportref3_guess4 op w = if w / 33554432 < 64 then w / 33554432 * 32 + w / 128 % 32 else w / 33554432 * 32 + w / 128 % 32 - 4096 := by
  unfold sallyportref3_guess4 sallyportref3_guess_c20
  rw [h0, cond_false, h1, cond_false, h2, cond_false, h3, cond_true, gS hw]
theorem g4_Sh6 {w op : Int} (hw : W32 w) (h0 : iLe op 2 = false) (h1 : iEq op 3 = false) (h2 : iEq (sallyportref3_Class0 op) 2 = false) (h3 : iEq (sallyportref3_Class0 op) 4 = false) (h4 : (bif iLe 28 op then iLe op 30 else false) = true) : sallyportref3_guess4 op w = w / 1048576 % 64 := by
  unfold sallyportref3_guess4 sallyportref3_guess_c20
  rw [h0, cond_false, h1, cond_false, h2, cond_false, h3, cond_false, h4, cond_true, p206 hw]
theorem g4_Sh5 {w op : Int} (hw : W32 w) (h0 : iLe op 2 = false) (h1 : iEq op 3 = false) (h2 : iEq (sallyportref3_Class0 op) 2 = false) (h3 : iEq (sallyportref3_Class0 op) 4 = false) (h4 : (bif iLe 28 op then iLe op 30 else false) = false) (h5 : (bif iLe 32 op then iLe op 34 else false) = true) : sallyportref3_guess4 op w = w / 1048576 % 32 := by
  unfold sallyportref3_guess4 sallyportref3_guess_c20
  rw [h0, cond_false, h1, cond_false, h2, cond_false, h3, cond_false, h4, cond_false, h5, cond_true, p20 hw]
theorem g4_Ci {w op : Int} (hw : W32 w) (h0 : iLe op 2 = false) (h1 : iEq op 3 = false) (h2 : iEq (sallyportref3_Class0 op) 2 = false) (h3 : iEq (sallyportref3_Class0 op) 4 = false) (h4 : (bif iLe 28 op then iLe op 30 else false) = false) (h5 : (bif iLe 32 op then iLe op 34 else false) = false) (h6 : (bif iEq (sallyportref3_Class0 op) 9 then iLe 57 op else false) = true) : sallyportref3_guess4 op w = w / 32768 % 32 := by
  unfold sallyportref3_guess4 sallyportref3_guess_c20
  rw [h0, cond_false, h1, cond_false, h2, cond_false, h3, cond_false, h4, cond_false, h5, cond_false, h6, cond_true, p15 hw]
theorem g4_I {w op : Int} (hw : W32 w) (h0 : iLe op 2 = false) (h1 : iEq op 3 = false) (h2 : iEq (sallyportref3_Class0 op) 2 = false) (h3 : iEq (sallyportref3_Class0 op) 4 = false) (h4 : (bif iLe 28 op then iLe op 30 else false) = false) (h5 : (bif iLe 32 op then iLe op 34 else false) = false) (h6 : (bif iEq (sallyportref3_Class0 op) 9 then iLe 57 op else false) = false) (h7 : (bif bif iEq op 4 then true else iEq (sallyportref3_Class0 op) 3 then true else iEq (sallyportref3_Class0 op) 5) = true) : sallyportref3_guess4 op w = if w / 1048576 < 2048 then w / 1048576 else w / 1048576 - 4096 := by
  unfold sallyportref3_guess4 sallyportref3_guess_c20
  rw [h0, cond_false, h1, cond_false, h2, cond_false, h3, cond_false, h4, cond_false, h5, cond_false, h6, cond_false, h7, cond_true, gI hw]
theorem g4_0 {w op : Int} (hw : W32 w) (h0 : iLe op 2 = false) (h1 : iEq op 3 = false) (h2 : iEq (sallyportref3_Class0 op) 2 = false) (h3 : iEq (sallyportref3_Class0 op) 4 = false) (h4 : (bif iLe 28 op then iLe op 30 else false) = false) (h5 : (bif iLe 32 op then iLe op 34 else false) = false) (h6 : (bif iEq (sallyportref3_Class0 op) 9 then iLe 57 op else false) = false) (h7 : (bif bif iEq op 4 then true else iEq (sallyportref3_Class0 op) 3 then true else iEq (sallyportref3_Class0 op) 5) = false) : sallyportref3_guess4 op w = 0 := by
  unfold sallyportref3_guess4 sallyportref3_guess_c20
  rw [h0, cond_false, h1, cond_false, h2, cond_false, h3, cond_false, h4, cond_false, h5, cond_false, h6, cond_false, h7, cond_false]

theorem within_of {n lo hi s : Int} (h : lo ≤ n ∧ n ≤ hi) (hm : n % s = 0) (hs : 0 < s) : sallyportref3_within0 n lo hi s = true := by
  unfold sallyportref3_within0
  rw [iLe_true.2 h.1, iLe_true.2 h.2, cond_true, cond_true, iEq_true]
  show iRem n s = 0
  unfold iRem
  exact Int.tmod_eq_zero_of_dvd (Int.dvd_of_emod_eq_zero hm)
theorem reg_of {r : Int} {b : Bool} (h : r = 0 ∨ (b = true ∧ 0 ≤ r ∧ r < 32)) : sallyportref3_reg0 r b = true := by
  unfold sallyportref3_reg0
  rcases h with rfl | ⟨rfl, h1, h2⟩
  · rfl
  · cases h0 : iEq r 0 with
    | true => rfl
    | false =>
      rw [iEq_false] at h0
      rw [cond_false, cond_true, iLt_true.2 (show 0 < r by omega), iLt_true.2 h2]
      rfl
theorem is_of {op rd rs1 rs2 imm csr : Int} (hc : iEq (sallyportref3_Class0 op) 0 = false) (h1 : rd = 0 ∨ (sallyportref3_Parts0 op = true ∧ 0 ≤ rd ∧ rd < 32)) (h2 : rs1 = 0 ∨ (sallyportref3_Parts1 op = true ∧ 0 ≤ rs1 ∧ rs1 < 32))
    (h3 : rs2 = 0 ∨ (sallyportref3_Parts2 op = true ∧ 0 ≤ rs2 ∧ rs2 < 32)) (h4 : csr = 0 ∨ (sallyportref3_Parts3 op = true ∧ 0 ≤ csr ∧ csr < 4096))
    (h5 : (sallyportref3_Parts4 op = false ∧ imm = 0) ∨ (sallyportref3_Parts4 op = true ∧ sallyportref3_number0 op rd rs1 rs2 imm csr = true)) : sallyportref3_Is0 op rd rs1 rs2 imm csr = true := by
  have e4 : (bif iNe csr 0 then bif bif !sallyportref3_Parts3 op then true else iLt csr 0 then true else iLt 4095 csr else false) = false := by
    rcases h4 with rfl | ⟨h, ha, hb⟩
    · rfl
    · rw [h, iLt_false.2 (show 0 ≤ csr by omega), iLt_false.2 (show csr ≤ 4095 by omega)]
      cases iNe csr 0 <;> rfl
  unfold sallyportref3_Is0
  rw [hc, reg_of h1, reg_of h2, reg_of h3, e4]
  rcases h5 with ⟨h, rfl⟩ | ⟨h, hn⟩
  · rw [h]; rfl
  · rw [h, hn]; rfl
theorem is1 {rd imm : Int} (hrd : 0 ≤ rd ∧ rd < 32) (hn : -2147483648 ≤ imm ∧ imm ≤ 2147479552) (hm : imm % 4096 = 0) : sallyportref3_Is0 1 rd 0 0 imm 0 = true :=
  is_of (by decide +kernel) (.inr ⟨by decide +kernel, hrd⟩) (.inl rfl) (.inl rfl) (.inl rfl) (.inr ⟨by decide +kernel, (by kernel_rfl : sallyportref3_number0 1 rd 0 0 imm 0 = sallyportref3_within0 imm (-2147483648) 2147479552 4096).trans (within_of hn hm (by decide))⟩)
theorem is2 {rd imm : Int} (hrd : 0 ≤ rd ∧ rd < 32) (hn : -2147483648 ≤ imm ∧ imm ≤ 2147479552) (hm : imm % 4096 = 0) : sallyportref3_Is0 2 rd 0 0 imm 0 = true :=
  is_of (by decide +kernel) (.inr ⟨by decide +kernel, hrd⟩) (.inl rfl) (.inl rfl) (.inl rfl) (.inr ⟨by decide +kernel, (by kernel_rfl : sallyportref3_number0 2 rd 0 0 imm 0 = sallyportref3_within0 imm (-2147483648) 2147479552 4096).trans (within_of hn hm (by decide))⟩)
theorem is3 {rd imm : Int} (hrd : 0 ≤ rd ∧ rd < 32) (hn : -1048576 ≤ imm ∧ imm ≤ 1048574) (hm : imm % 2 = 0) : sallyportref3_Is0 3 rd 0 0 imm 0 = true :=
  is_of (by decide +kernel) (.inr ⟨by decide +kernel, hrd⟩) (.inl rfl) (.inl rfl) (.inl rfl) (.inr ⟨by decide +kernel, (by kernel_rfl : sallyportref3_number0 3 rd 0 0 imm 0 = sallyportref3_within0 imm (-1048576) 1048574 2).trans (within_of hn hm (by decide))⟩)
theorem is4 {rd rs1 imm : Int} (hrd : 0 ≤ rd ∧ rd < 32) (hrs1 : 0 ≤ rs1 ∧ rs1 < 32) (hn : -2048 ≤ imm ∧ imm ≤ 2047) : sallyportref3_Is0 4 rd rs1 0 imm 0 = true :=
  is_of (by decide +kernel) (.inr ⟨by decide +kernel, hrd⟩) (.inr ⟨by decide +kernel, hrs1⟩) (.inl rfl) (.inl rfl) (.inr ⟨by decide +kernel, (by kernel_rfl : sallyportref3_number0 4 rd rs1 0 imm 0 = sallyportref3_within0 imm (-2048) 2047 1).trans (within_of hn (by omega) (by decide))⟩)
theorem is5 {rs1 rs2 imm : Int} (hrs1 : 0 ≤ rs1 ∧ rs1 < 32) (hrs2 : 0 ≤ rs2 ∧ rs2 < 32) (hn : -4096 ≤ imm ∧ imm ≤ 4094) (hm : imm % 2 = 0) : sallyportref3_Is0 5 0 rs1 rs2 imm 0 = true :=
  is_of (by decide +kernel) (.inl rfl) (.inr ⟨by decide +kernel, hrs1⟩) (.inr ⟨by decide +kernel, hrs2⟩) (.inl rfl) (.inr ⟨by decide +kernel, (by kernel_rfl : sallyportref3_number0 5 0 rs1 rs2 imm 0 = sallyportref3_within0 imm (-4096) 4094 2).trans (within_of hn hm (by decide))⟩)
theorem is6 {rs1 rs2 imm : Int} (hrs1 : 0 ≤ rs1 ∧ rs1 < 32) (hrs2 : 0 ≤ rs2 ∧ rs2 < 32) (hn : -4096 ≤ imm ∧ imm ≤ 4094) (hm : imm % 2 = 0) : sallyportref3_Is0 6 0 rs1 rs2 imm 0 = true :=
  is_of (by decide +kernel) (.inl rfl) (.inr ⟨by decide +kernel, hrs1⟩) (.inr ⟨by decide +kernel, hrs2⟩) (.inl rfl) (.inr ⟨by decide +kernel, (by kernel_rfl : sallyportref3_number0 6 0 rs1 rs2 imm 0 = sallyportref3_within0 imm (-4096) 4094 2).trans (within_of hn hm (by decide))⟩)
theorem is7 {rs1 rs2 imm : Int} (hrs1 : 0 ≤ rs1 ∧ rs1 < 32) (hrs2 : 0 ≤ rs2 ∧ rs2 < 32) (hn : -4096 ≤ imm ∧ imm ≤ 4094) (hm : imm % 2 = 0) : sallyportref3_Is0 7 0 rs1 rs2 imm 0 = true :=
  is_of (by decide +kernel) (.inl rfl) (.inr ⟨by decide +kernel, hrs1⟩) (.inr ⟨by decide +kernel, hrs2⟩) (.inl rfl) (.inr ⟨by decide +kernel, (by kernel_rfl : sallyportref3_number0 7 0 rs1 rs2 imm 0 = sallyportref3_within0 imm (-4096) 4094 2).trans (within_of hn hm (by decide))⟩)
theorem is8 {rs1 rs2 imm : Int} (hrs1 : 0 ≤ rs1 ∧ rs1 < 32) (hrs2 : 0 ≤ rs2 ∧ rs2 < 32) (hn : -4096 ≤ imm ∧ imm ≤ 4094) (hm : imm % 2 = 0) : sallyportref3_Is0 8 0 rs1 rs2 imm 0 = true :=
  is_of (by decide +kernel) (.inl rfl) (.inr ⟨by decide +kernel, hrs1⟩) (.inr ⟨by decide +kernel, hrs2⟩) (.inl rfl) (.inr ⟨by decide +kernel, (by kernel_rfl : sallyportref3_number0 8 0 rs1 rs2 imm 0 = sallyportref3_within0 imm (-4096) 4094 2).trans (within_of hn hm (by decide))⟩)
theorem is9 {rs1 rs2 imm : Int} (hrs1 : 0 ≤ rs1 ∧ rs1 < 32) (hrs2 : 0 ≤ rs2 ∧ rs2 < 32) (hn : -4096 ≤ imm ∧ imm ≤ 4094) (hm : imm % 2 = 0) : sallyportref3_Is0 9 0 rs1 rs2 imm 0 = true :=
  is_of (by decide +kernel) (.inl rfl) (.inr ⟨by decide +kernel, hrs1⟩) (.inr ⟨by decide +kernel, hrs2⟩) (.inl rfl) (.inr ⟨by decide +kernel, (by kernel_rfl : sallyportref3_number0 9 0 rs1 rs2 imm 0 = sallyportref3_within0 imm (-4096) 4094 2).trans (within_of hn hm (by decide))⟩)
theorem is10 {rs1 rs2 imm : Int} (hrs1 : 0 ≤ rs1 ∧ rs1 < 32) (hrs2 : 0 ≤ rs2 ∧ rs2 < 32) (hn : -4096 ≤ imm ∧ imm ≤ 4094) (hm : imm % 2 = 0) : sallyportref3_Is0 10 0 rs1 rs2 imm 0 = true :=
  is_of (by decide +kernel) (.inl rfl) (.inr ⟨by decide +kernel, hrs1⟩) (.inr ⟨by decide +kernel, hrs2⟩) (.inl rfl) (.inr ⟨by decide +kernel, (by kernel_rfl : sallyportref3_number0 10 0 rs1 rs2 imm 0 = sallyportref3_within0 imm (-4096) 4094 2).trans (within_of hn hm (by decide))⟩)
theorem is11 {rd rs1 imm : Int} (hrd : 0 ≤ rd ∧ rd < 32) (hrs1 : 0 ≤ rs1 ∧ rs1 < 32) (hn : -2048 ≤ imm ∧ imm ≤ 2047) : sallyportref3_Is0 11 rd rs1 0 imm 0 = true :=
  is_of (by decide +kernel) (.inr ⟨by decide +kernel, hrd⟩) (.inr ⟨by decide +kernel, hrs1⟩) (.inl rfl) (.inl rfl) (.inr ⟨by decide +kernel, (by kernel_rfl : sallyportref3_number0 11 rd rs1 0 imm 0 = sallyportref3_within0 imm (-2048) 2047 1).trans (within_of hn (by omega) (by decide))⟩)
theorem is12 {rd rs1 imm : Int} (hrd : 0 ≤ rd ∧ rd < 32) (hrs1 : 0 ≤ rs1 ∧ rs1 < 32) (hn : -2048 ≤ imm ∧ imm ≤ 2047) : sallyportref3_Is0 12 rd rs1 0 imm 0 = true :=
  is_of (by decide +kernel) (.inr ⟨by decide +kernel, hrd⟩) (.inr ⟨by decide +kernel, hrs1⟩) (.inl rfl) (.inl rfl) (.inr ⟨by decide +kernel, (by kernel_rfl : sallyportref3_number0 12 rd rs1 0 imm 0 = sallyportref3_within0 imm (-2048) 2047 1).trans (within_of hn (by omega) (by decide))⟩)
theorem is13 {rd rs1 imm : Int} (hrd : 0 ≤ rd ∧ rd < 32) (hrs1 : 0 ≤ rs1 ∧ rs1 < 32) (hn : -2048 ≤ imm ∧ imm ≤ 2047) : sallyportref3_Is0 13 rd rs1 0 imm 0 = true :=
  is_of (by decide +kernel) (.inr ⟨by decide +kernel, hrd⟩) (.inr ⟨by decide +kernel, hrs1⟩) (.inl rfl) (.inl rfl) (.inr ⟨by decide +kernel, (by kernel_rfl : sallyportref3_number0 13 rd rs1 0 imm 0 = sallyportref3_within0 imm (-2048) 2047 1).trans (within_of hn (by omega) (by decide))⟩)
theorem is14 {rd rs1 imm : Int} (hrd : 0 ≤ rd ∧ rd < 32) (hrs1 : 0 ≤ rs1 ∧ rs1 < 32) (hn : -2048 ≤ imm ∧ imm ≤ 2047) : sallyportref3_Is0 14 rd rs1 0 imm 0 = true :=
  is_of (by decide +kernel) (.inr ⟨by decide +kernel, hrd⟩) (.inr ⟨by decide +kernel, hrs1⟩) (.inl rfl) (.inl rfl) (.inr ⟨by decide +kernel, (by kernel_rfl : sallyportref3_number0 14 rd rs1 0 imm 0 = sallyportref3_within0 imm (-2048) 2047 1).trans (within_of hn (by omega) (by decide))⟩)
theorem is15 {rd rs1 imm : Int} (hrd : 0 ≤ rd ∧ rd < 32) (hrs1 : 0 ≤ rs1 ∧ rs1 < 32) (hn : -2048 ≤ imm ∧ imm ≤ 2047) : sallyportref3_Is0 15 rd rs1 0 imm 0 = true :=
  is_of (by decide +kernel) (.inr ⟨by decide +kernel, hrd⟩) (.inr ⟨by decide +kernel, hrs1⟩) (.inl rfl) (.inl rfl) (.inr ⟨by decide +kernel, (by kernel_rfl : sallyportref3_number0 15 rd rs1 0 imm 0 = sallyportref3_within0 imm (-2048) 2047 1).trans (within_of hn (by omega) (by decide))⟩)
theorem is16 {rd rs1 imm : Int} (hrd : 0 ≤ rd ∧ rd < 32) (hrs1 : 0 ≤ rs1 ∧ rs1 < 32) (hn : -2048 ≤ imm ∧ imm ≤ 2047) : sallyportref3_Is0 16 rd rs1 0 imm 0 = true :=
  is_of (by decide +kernel) (.inr ⟨by decide +kernel, hrd⟩) (.inr ⟨by decide +kernel, hrs1⟩) (.inl rfl) (.inl rfl) (.inr ⟨by decide +kernel, (by kernel_rfl : sallyportref3_number0 16 rd rs1 0 imm 0 = sallyportref3_within0 imm (-2048) 2047 1).trans (within_of hn (by omega) (by decide))⟩)
theorem is17 {rd rs1 imm : Int} (hrd : 0 ≤ rd ∧ rd < 32) (hrs1 : 0 ≤ rs1 ∧ rs1 < 32) (hn : -2048 ≤ imm ∧ imm ≤ 2047) : sallyportref3_Is0 17 rd rs1 0 imm 0 = true :=
  is_of (by decide +kernel) (.inr ⟨by decide +kernel, hrd⟩) (.inr ⟨by decide +kernel, hrs1⟩) (.inl rfl) (.inl rfl) (.inr ⟨by decide +kernel, (by kernel_rfl : sallyportref3_number0 17 rd rs1 0 imm 0 = sallyportref3_within0 imm (-2048) 2047 1).trans (within_of hn (by omega) (by decide))⟩)
theorem is18 {rs1 rs2 imm : Int} (hrs1 : 0 ≤ rs1 ∧ rs1 < 32) (hrs2 : 0 ≤ rs2 ∧ rs2 < 32) (hn : -2048 ≤ imm ∧ imm ≤ 2047) : sallyportref3_Is0 18 0 rs1 rs2 imm 0 = true :=
  is_of (by decide +kernel) (.inl rfl) (.inr ⟨by decide +kernel, hrs1⟩) (.inr ⟨by decide +kernel, hrs2⟩) (.inl rfl) (.inr ⟨by decide +kernel, (by kernel_rfl : sallyportref3_number0 18 0 rs1 rs2 imm 0 = sallyportref3_within0 imm (-2048) 2047 1).trans (within_of hn (by omega) (by decide))⟩)
theorem is19 {rs1 rs2 imm : Int} (hrs1 : 0 ≤ rs1 ∧ rs1 < 32) (hrs2 : 0 ≤ rs2 ∧ rs2 < 32) (hn : -2048 ≤ imm ∧ imm ≤ 2047) : sallyportref3_Is0 19 0 rs1 rs2 imm 0 = true :=
  is_of (by decide +kernel) (.inl rfl) (.inr ⟨by decide +kernel, hrs1⟩) (.inr ⟨by decide +kernel, hrs2⟩) (.inl rfl) (.inr ⟨by decide +kernel, (by kernel_rfl : sallyportref3_number0 19 0 rs1 rs2 imm 0 = sallyportref3_within0 imm (-2048) 2047 1).trans (within_of hn (by omega) (by decide))⟩)
theorem is20 {rs1 rs2 imm : Int} (hrs1 : 0 ≤ rs1 ∧ rs1 < 32) (hrs2 : 0 ≤ rs2 ∧ rs2 < 32) (hn : -2048 ≤ imm ∧ imm ≤ 2047) : sallyportref3_Is0 20 0 rs1 rs2 imm 0 = true :=
  is_of (by decide +kernel) (.inl rfl) (.inr ⟨by decide +kernel, hrs1⟩) (.inr ⟨by decide +kernel, hrs2⟩) (.inl rfl) (.inr ⟨by decide +kernel, (by kernel_rfl : sallyportref3_number0 20 0 rs1 rs2 imm 0 = sallyportref3_within0 imm (-2048) 2047 1).trans (within_of hn (by omega) (by decide))⟩)
theorem is21 {rs1 rs2 imm : Int} (hrs1 : 0 ≤ rs1 ∧ rs1 < 32) (hrs2 : 0 ≤ rs2 ∧ rs2 < 32) (hn : -2048 ≤ imm ∧ imm ≤ 2047) : sallyportref3_Is0 21 0 rs1 rs2 imm 0 = true :=
  is_of (by decide +kernel) (.inl rfl) (.inr ⟨by decide +kernel, hrs1⟩) (.inr ⟨by decide +kernel, hrs2⟩) (.inl rfl) (.inr ⟨by decide +kernel, (by kernel_rfl : sallyportref3_number0 21 0 rs1 rs2 imm 0 = sallyportref3_within0 imm (-2048) 2047 1).trans (within_of hn (by omega) (by decide))⟩)
theorem is22 {rd rs1 imm : Int} (hrd : 0 ≤ rd ∧ rd < 32) (hrs1 : 0 ≤ rs1 ∧ rs1 < 32) (hn : -2048 ≤ imm ∧ imm ≤ 2047) : sallyportref3_Is0 22 rd rs1 0 imm 0 = true :=
  is_of (by decide +kernel) (.inr ⟨by decide +kernel, hrd⟩) (.inr ⟨by decide +kernel, hrs1⟩) (.inl rfl) (.inl rfl) (.inr ⟨by decide +kernel, (by kernel_rfl : sallyportref3_number0 22 rd rs1 0 imm 0 = sallyportref3_within0 imm (-2048) 2047 1).trans (within_of hn (by omega) (by decide))⟩)
theorem is23 {rd rs1 imm : Int} (hrd : 0 ≤ rd ∧ rd < 32) (hrs1 : 0 ≤ rs1 ∧ rs1 < 32) (hn : -2048 ≤ imm ∧ imm ≤ 2047) : sallyportref3_Is0 23 rd rs1 0 imm 0 = true :=
  is_of (by decide +kernel) (.inr ⟨by decide +kernel, hrd⟩) (.inr ⟨by decide +kernel, hrs1⟩) (.inl rfl) (.inl rfl) (.inr ⟨by decide +kernel, (by kernel_rfl : sallyportref3_number0 23 rd rs1 0 imm 0 = sallyportref3_within0 imm (-2048) 2047 1).trans (within_of hn (by omega) (by decide))⟩)
theorem is24 {rd rs1 imm : Int} (hrd : 0 ≤ rd ∧ rd < 32) (hrs1 : 0 ≤ rs1 ∧ rs1 < 32) (hn : -2048 ≤ imm ∧ imm ≤ 2047) : sallyportref3_Is0 24 rd rs1 0 imm 0 = true :=
  is_of (by decide +kernel) (.inr ⟨by decide +kernel, hrd⟩) (.inr ⟨by decide +kernel, hrs1⟩) (.inl rfl) (.inl rfl) (.inr ⟨by decide +kernel, (by kernel_rfl : sallyportref3_number0 24 rd rs1 0 imm 0 = sallyportref3_within0 imm (-2048) 2047 1).trans (within_of hn (by omega) (by decide))⟩)
theorem is25 {rd rs1 imm : Int} (hrd : 0 ≤ rd ∧ rd < 32) (hrs1 : 0 ≤ rs1 ∧ rs1 < 32) (hn : -2048 ≤ imm ∧ imm ≤ 2047) : sallyportref3_Is0 25 rd rs1 0 imm 0 = true :=
  is_of (by decide +kernel) (.inr ⟨by decide +kernel, hrd⟩) (.inr ⟨by decide +kernel, hrs1⟩) (.inl rfl) (.inl rfl) (.inr ⟨by decide +kernel, (by kernel_rfl : sallyportref3_number0 25 rd rs1 0 imm 0 = sallyportref3_within0 imm (-2048) 2047 1).trans (within_of hn (by omega) (by decide))⟩)
theorem is26 {rd rs1 imm : Int} (hrd : 0 ≤ rd ∧ rd < 32) (hrs1 : 0 ≤ rs1 ∧ rs1 < 32) (hn : -2048 ≤ imm ∧ imm ≤ 2047) : sallyportref3_Is0 26 rd rs1 0 imm 0 = true :=
  is_of (by decide +kernel) (.inr ⟨by decide +kernel, hrd⟩) (.inr ⟨by decide +kernel, hrs1⟩) (.inl rfl) (.inl rfl) (.inr ⟨by decide +kernel, (by kernel_rfl : sallyportref3_number0 26 rd rs1 0 imm 0 = sallyportref3_within0 imm (-2048) 2047 1).trans (within_of hn (by omega) (by decide))⟩)
theorem is27 {rd rs1 imm : Int} (hrd : 0 ≤ rd ∧ rd < 32) (hrs1 : 0 ≤ rs1 ∧ rs1 < 32) (hn : -2048 ≤ imm ∧ imm ≤ 2047) : sallyportref3_Is0 27 rd rs1 0 imm 0 = true :=
  is_of (by decide +kernel) (.inr ⟨by decide +kernel, hrd⟩) (.inr ⟨by decide +kernel, hrs1⟩) (.inl rfl) (.inl rfl) (.inr ⟨by decide +kernel, (by kernel_rfl : sallyportref3_number0 27 rd rs1 0 imm 0 = sallyportref3_within0 imm (-2048) 2047 1).trans (within_of hn (by omega) (by decide))⟩)
theorem is28 {rd rs1 imm : Int} (hrd : 0 ≤ rd ∧ rd < 32) (hrs1 : 0 ≤ rs1 ∧ rs1 < 32) (hn : 0 ≤ imm ∧ imm ≤ 63) : sallyportref3_Is0 28 rd rs1 0 imm 0 = true :=
  is_of (by decide +kernel) (.inr ⟨by decide +kernel, hrd⟩) (.inr ⟨by decide +kernel, hrs1⟩) (.inl rfl) (.inl rfl) (.inr ⟨by decide +kernel, (by kernel_rfl : sallyportref3_number0 28 rd rs1 0 imm 0 = sallyportref3_within0 imm (0) 63 1).trans (within_of hn (by omega) (by decide))⟩)
theorem is29 {rd rs1 imm : Int} (hrd : 0 ≤ rd ∧ rd < 32) (hrs1 : 0 ≤ rs1 ∧ rs1 < 32) (hn : 0 ≤ imm ∧ imm ≤ 63) : sallyportref3_Is0 29 rd rs1 0 imm 0 = true :=
  is_of (by decide +kernel) (.inr ⟨by decide +kernel, hrd⟩) (.inr ⟨by decide +kernel, hrs1⟩) (.inl rfl) (.inl rfl) (.inr ⟨by decide +kernel, (by kernel_rfl : sallyportref3_number0 29 rd rs1 0 imm 0 = sallyportref3_within0 imm (0) 63 1).trans (within_of hn (by omega) (by decide))⟩)
theorem is30 {rd rs1 imm : Int} (hrd : 0 ≤ rd ∧ rd < 32) (hrs1 : 0 ≤ rs1 ∧ rs1 < 32) (hn : 0 ≤ imm ∧ imm ≤ 63) : sallyportref3_Is0 30 rd rs1 0 imm 0 = true :=
  is_of (by decide +kernel) (.inr ⟨by decide +kernel, hrd⟩) (.inr ⟨by decide +kernel, hrs1⟩) (.inl rfl) (.inl rfl) (.inr ⟨by decide +kernel, (by kernel_rfl : sallyportref3_number0 30 rd rs1 0 imm 0 = sallyportref3_within0 imm (0) 63 1).trans (within_of hn (by omega) (by decide))⟩)
theorem is31 {rd rs1 imm : Int} (hrd : 0 ≤ rd ∧ rd < 32) (hrs1 : 0 ≤ rs1 ∧ rs1 < 32) (hn : -2048 ≤ imm ∧ imm ≤ 2047) : sallyportref3_Is0 31 rd rs1 0 imm 0 = true :=
  is_of (by decide +kernel) (.inr ⟨by decide +kernel, hrd⟩) (.inr ⟨by decide +kernel, hrs1⟩) (.inl rfl) (.inl rfl) (.inr ⟨by decide +kernel, (by kernel_rfl : sallyportref3_number0 31 rd rs1 0 imm 0 = sallyportref3_within0 imm (-2048) 2047 1).trans (within_of hn (by omega) (by decide))⟩)
theorem is32 {rd rs1 imm : Int} (hrd : 0 ≤ rd ∧ rd < 32) (hrs1 : 0 ≤ rs1 ∧ rs1 < 32) (hn : 0 ≤ imm ∧ imm ≤ 31) : sallyportref3_Is0 32 rd rs1 0 imm 0 = true :=
  is_of (by decide +kernel) (.inr ⟨by decide +kernel, hrd⟩) (.inr ⟨by decide +kernel, hrs1⟩) (.inl rfl) (.inl rfl) (.inr ⟨by decide +kernel, (by kernel_rfl : sallyportref3_number0 32 rd rs1 0 imm 0 = sallyportref3_within0 imm (0) 31 1).trans (within_of hn (by omega) (by decide))⟩)
theorem is33 {rd rs1 imm : Int} (hrd : 0 ≤ rd ∧ rd < 32) (hrs1 : 0 ≤ rs1 ∧ rs1 < 32) (hn : 0 ≤ imm ∧ imm ≤ 31) : sallyportref3_Is0 33 rd rs1 0 imm 0 = true :=
  is_of (by decide +kernel) (.inr ⟨by decide +kernel, hrd⟩) (.inr ⟨by decide +kernel, hrs1⟩) (.inl rfl) (.inl rfl) (.inr ⟨by decide +kernel, (by kernel_rfl : sallyportref3_number0 33 rd rs1 0 imm 0 = sallyportref3_within0 imm (0) 31 1).trans (within_of hn (by omega) (by decide))⟩)
theorem is34 {rd rs1 imm : Int} (hrd : 0 ≤ rd ∧ rd < 32) (hrs1 : 0 ≤ rs1 ∧ rs1 < 32) (hn : 0 ≤ imm ∧ imm ≤ 31) : sallyportref3_Is0 34 rd rs1 0 imm 0 = true :=
  is_of (by decide +kernel) (.inr ⟨by decide +kernel, hrd⟩) (.inr ⟨by decide +kernel, hrs1⟩) (.inl rfl) (.inl rfl) (.inr ⟨by decide +kernel, (by kernel_rfl : sallyportref3_number0 34 rd rs1 0 imm 0 = sallyportref3_within0 imm (0) 31 1).trans (within_of hn (by omega) (by decide))⟩)
theorem is35 {rd rs1 rs2 : Int} (hrd : 0 ≤ rd ∧ rd < 32) (hrs1 : 0 ≤ rs1 ∧ rs1 < 32) (hrs2 : 0 ≤ rs2 ∧ rs2 < 32) : sallyportref3_Is0 35 rd rs1 rs2 0 0 = true :=
  is_of (by decide +kernel) (.inr ⟨by decide +kernel, hrd⟩) (.inr ⟨by decide +kernel, hrs1⟩) (.inr ⟨by decide +kernel, hrs2⟩) (.inl rfl) (.inl ⟨by decide +kernel, rfl⟩)
theorem is36 {rd rs1 rs2 : Int} (hrd : 0 ≤ rd ∧ rd < 32) (hrs1 : 0 ≤ rs1 ∧ rs1 < 32) (hrs2 : 0 ≤ rs2 ∧ rs2 < 32) : sallyportref3_Is0 36 rd rs1 rs2 0 0 = true :=
  is_of (by decide +kernel) (.inr ⟨by decide +kernel, hrd⟩) (.inr ⟨by decide +kernel, hrs1⟩) (.inr ⟨by decide +kernel, hrs2⟩) (.inl rfl) (.inl ⟨by decide +kernel, rfl⟩)
theorem is37 {rd rs1 rs2 : Int} (hrd : 0 ≤ rd ∧ rd < 32) (hrs1 : 0 ≤ rs1 ∧ rs1 < 32) (hrs2 : 0 ≤ rs2 ∧ rs2 < 32) : sallyportref3_Is0 37 rd rs1 rs2 0 0 = true :=
  is_of (by decide +kernel) (.inr ⟨by decide +kernel, hrd⟩) (.inr ⟨by decide +kernel, hrs1⟩) (.inr ⟨by decide +kernel, hrs2⟩) (.inl rfl) (.inl ⟨by decide +kernel, rfl⟩)
theorem is38 {rd rs1 rs2 : Int} (hrd : 0 ≤ rd ∧ rd < 32) (hrs1 : 0 ≤ rs1 ∧ rs1 < 32) (hrs2 : 0 ≤ rs2 ∧ rs2 < 32) : sallyportref3_Is0 38 rd rs1 rs2 0 0 = true :=
  is_of (by decide +kernel) (.inr ⟨by decide +kernel, hrd⟩) (.inr ⟨by decide +kernel, hrs1⟩) (.inr ⟨by decide +kernel, hrs2⟩) (.inl rfl) (.inl ⟨by decide +kernel, rfl⟩)
theorem is39 {rd rs1 rs2 : Int} (hrd : 0 ≤ rd ∧ rd < 32) (hrs1 : 0 ≤ rs1 ∧ rs1 < 32) (hrs2 : 0 ≤ rs2 ∧ rs2 < 32) : sallyportref3_Is0 39 rd rs1 rs2 0 0 = true :=
  is_of (by decide +kernel) (.inr ⟨by decide +kernel, hrd⟩) (.inr ⟨by decide +kernel, hrs1⟩) (.inr ⟨by decide +kernel, hrs2⟩) (.inl rfl) (.inl ⟨by decide +kernel, rfl⟩)
theorem is40 {rd rs1 rs2 : Int} (hrd : 0 ≤ rd ∧ rd < 32) (hrs1 : 0 ≤ rs1 ∧ rs1 < 32) (hrs2 : 0 ≤ rs2 ∧ rs2 < 32) : sallyportref3_Is0 40 rd rs1 rs2 0 0 = true :=
  is_of (by decide +kernel) (.inr ⟨by decide +kernel, hrd⟩) (.inr ⟨by decide +kernel, hrs1⟩) (.inr ⟨by decide +kernel, hrs2⟩) (.inl rfl) (.inl ⟨by decide +kernel, rfl⟩)
theorem is41 {rd rs1 rs2 : Int} (hrd : 0 ≤ rd ∧ rd < 32) (hrs1 : 0 ≤ rs1 ∧ rs1 < 32) (hrs2 : 0 ≤ rs2 ∧ rs2 < 32) : sallyportref3_Is0 41 rd rs1 rs2 0 0 = true :=
  is_of (by decide +kernel) (.inr ⟨by decide +kernel, hrd⟩) (.inr ⟨by decide +kernel, hrs1⟩) (.inr ⟨by decide +kernel, hrs2⟩) (.inl rfl) (.inl ⟨by decide +kernel, rfl⟩)
theorem is42 {rd rs1 rs2 : Int} (hrd : 0 ≤ rd ∧ rd < 32) (hrs1 : 0 ≤ rs1 ∧ rs1 < 32) (hrs2 : 0 ≤ rs2 ∧ rs2 < 32) : sallyportref3_Is0 42 rd rs1 rs2 0 0 = true :=
  is_of (by decide +kernel) (.inr ⟨by decide +kernel, hrd⟩) (.inr ⟨by decide +kernel, hrs1⟩) (.inr ⟨by decide +kernel, hrs2⟩) (.inl rfl) (.inl ⟨by decide +kernel, rfl⟩)
theorem is43 {rd rs1 rs2 : Int} (hrd : 0 ≤ rd ∧ rd < 32) (hrs1 : 0 ≤ rs1 ∧ rs1 < 32) (hrs2 : 0 ≤ rs2 ∧ rs2 < 32) : sallyportref3_Is0 43 rd rs1 rs2 0 0 = true :=
  is_of (by decide +kernel) (.inr ⟨by decide +kernel, hrd⟩) (.inr ⟨by decide +kernel, hrs1⟩) (.inr ⟨by decide +kernel, hrs2⟩) (.inl rfl) (.inl ⟨by decide +kernel, rfl⟩)
theorem is44 {rd rs1 rs2 : Int} (hrd : 0 ≤ rd ∧ rd < 32) (hrs1 : 0 ≤ rs1 ∧ rs1 < 32) (hrs2 : 0 ≤ rs2 ∧ rs2 < 32) : sallyportref3_Is0 44 rd rs1 rs2 0 0 = true :=
  is_of (by decide +kernel) (.inr ⟨by decide +kernel, hrd⟩) (.inr ⟨by decide +kernel, hrs1⟩) (.inr ⟨by decide +kernel, hrs2⟩) (.inl rfl) (.inl ⟨by decide +kernel, rfl⟩)
theorem is45 {rd rs1 rs2 : Int} (hrd : 0 ≤ rd ∧ rd < 32) (hrs1 : 0 ≤ rs1 ∧ rs1 < 32) (hrs2 : 0 ≤ rs2 ∧ rs2 < 32) : sallyportref3_Is0 45 rd rs1 rs2 0 0 = true :=
  is_of (by decide +kernel) (.inr ⟨by decide +kernel, hrd⟩) (.inr ⟨by decide +kernel, hrs1⟩) (.inr ⟨by decide +kernel, hrs2⟩) (.inl rfl) (.inl ⟨by decide +kernel, rfl⟩)
theorem is46 {rd rs1 rs2 : Int} (hrd : 0 ≤ rd ∧ rd < 32) (hrs1 : 0 ≤ rs1 ∧ rs1 < 32) (hrs2 : 0 ≤ rs2 ∧ rs2 < 32) : sallyportref3_Is0 46 rd rs1 rs2 0 0 = true :=
  is_of (by decide +kernel) (.inr ⟨by decide +kernel, hrd⟩) (.inr ⟨by decide +kernel, hrs1⟩) (.inr ⟨by decide +kernel, hrs2⟩) (.inl rfl) (.inl ⟨by decide +kernel, rfl⟩)
theorem is47 {rd rs1 rs2 : Int} (hrd : 0 ≤ rd ∧ rd < 32) (hrs1 : 0 ≤ rs1 ∧ rs1 < 32) (hrs2 : 0 ≤ rs2 ∧ rs2 < 32) : sallyportref3_Is0 47 rd rs1 rs2 0 0 = true :=
  is_of (by decide +kernel) (.inr ⟨by decide +kernel, hrd⟩) (.inr ⟨by decide +kernel, hrs1⟩) (.inr ⟨by decide +kernel, hrs2⟩) (.inl rfl) (.inl ⟨by decide +kernel, rfl⟩)
theorem is48 {rd rs1 rs2 : Int} (hrd : 0 ≤ rd ∧ rd < 32) (hrs1 : 0 ≤ rs1 ∧ rs1 < 32) (hrs2 : 0 ≤ rs2 ∧ rs2 < 32) : sallyportref3_Is0 48 rd rs1 rs2 0 0 = true :=
  is_of (by decide +kernel) (.inr ⟨by decide +kernel, hrd⟩) (.inr ⟨by decide +kernel, hrs1⟩) (.inr ⟨by decide +kernel, hrs2⟩) (.inl rfl) (.inl ⟨by decide +kernel, rfl⟩)
theorem is49 {rd rs1 rs2 : Int} (hrd : 0 ≤ rd ∧ rd < 32) (hrs1 : 0 ≤ rs1 ∧ rs1 < 32) (hrs2 : 0 ≤ rs2 ∧ rs2 < 32) : sallyportref3_Is0 49 rd rs1 rs2 0 0 = true :=
  is_of (by decide +kernel) (.inr ⟨by decide +kernel, hrd⟩) (.inr ⟨by decide +kernel, hrs1⟩) (.inr ⟨by decide +kernel, hrs2⟩) (.inl rfl) (.inl ⟨by decide +kernel, rfl⟩)
theorem is54 {rd rs1 csr : Int} (hrd : 0 ≤ rd ∧ rd < 32) (hrs1 : 0 ≤ rs1 ∧ rs1 < 32) (hcsr : 0 ≤ csr ∧ csr < 4096) : sallyportref3_Is0 54 rd rs1 0 0 csr = true :=
  is_of (by decide +kernel) (.inr ⟨by decide +kernel, hrd⟩) (.inr ⟨by decide +kernel, hrs1⟩) (.inl rfl) (.inr ⟨by decide +kernel, hcsr⟩) (.inl ⟨by decide +kernel, rfl⟩)
theorem is55 {rd rs1 csr : Int} (hrd : 0 ≤ rd ∧ rd < 32) (hrs1 : 0 ≤ rs1 ∧ rs1 < 32) (hcsr : 0 ≤ csr ∧ csr < 4096) : sallyportref3_Is0 55 rd rs1 0 0 csr = true :=
  is_of (by decide +kernel) (.inr ⟨by decide +kernel, hrd⟩) (.inr ⟨by decide +kernel, hrs1⟩) (.inl rfl) (.inr ⟨by decide +kernel, hcsr⟩) (.inl ⟨by decide +kernel, rfl⟩)
theorem is56 {rd rs1 csr : Int} (hrd : 0 ≤ rd ∧ rd < 32) (hrs1 : 0 ≤ rs1 ∧ rs1 < 32) (hcsr : 0 ≤ csr ∧ csr < 4096) : sallyportref3_Is0 56 rd rs1 0 0 csr = true :=
  is_of (by decide +kernel) (.inr ⟨by decide +kernel, hrd⟩) (.inr ⟨by decide +kernel, hrs1⟩) (.inl rfl) (.inr ⟨by decide +kernel, hcsr⟩) (.inl ⟨by decide +kernel, rfl⟩)
theorem is57 {rd csr imm : Int} (hrd : 0 ≤ rd ∧ rd < 32) (hcsr : 0 ≤ csr ∧ csr < 4096) (hn : 0 ≤ imm ∧ imm ≤ 31) : sallyportref3_Is0 57 rd 0 0 imm csr = true :=
  is_of (by decide +kernel) (.inr ⟨by decide +kernel, hrd⟩) (.inl rfl) (.inl rfl) (.inr ⟨by decide +kernel, hcsr⟩) (.inr ⟨by decide +kernel, (by kernel_rfl : sallyportref3_number0 57 rd 0 0 imm csr = sallyportref3_within0 imm (0) 31 1).trans (within_of hn (by omega) (by decide))⟩)
theorem is58 {rd csr imm : Int} (hrd : 0 ≤ rd ∧ rd < 32) (hcsr : 0 ≤ csr ∧ csr < 4096) (hn : 0 ≤ imm ∧ imm ≤ 31) : sallyportref3_Is0 58 rd 0 0 imm csr = true :=
  is_of (by decide +kernel) (.inr ⟨by decide +kernel, hrd⟩) (.inl rfl) (.inl rfl) (.inr ⟨by decide +kernel, hcsr⟩) (.inr ⟨by decide +kernel, (by kernel_rfl : sallyportref3_number0 58 rd 0 0 imm csr = sallyportref3_within0 imm (0) 31 1).trans (within_of hn (by omega) (by decide))⟩)
theorem is59 {rd csr imm : Int} (hrd : 0 ≤ rd ∧ rd < 32) (hcsr : 0 ≤ csr ∧ csr < 4096) (hn : 0 ≤ imm ∧ imm ≤ 31) : sallyportref3_Is0 59 rd 0 0 imm csr = true :=
  is_of (by decide +kernel) (.inr ⟨by decide +kernel, hrd⟩) (.inl rfl) (.inl rfl) (.inr ⟨by decide +kernel, hcsr⟩) (.inr ⟨by decide +kernel, (by kernel_rfl : sallyportref3_number0 59 rd 0 0 imm csr = sallyportref3_within0 imm (0) 31 1).trans (within_of hn (by omega) (by decide))⟩)
theorem is63 {rs1 rs2 : Int} (hrs1 : 0 ≤ rs1 ∧ rs1 < 32) (hrs2 : 0 ≤ rs2 ∧ rs2 < 32) : sallyportref3_Is0 63 0 rs1 rs2 0 0 = true :=
  is_of (by decide +kernel) (.inl rfl) (.inr ⟨by decide +kernel, hrs1⟩) (.inr ⟨by decide +kernel, hrs2⟩) (.inl rfl) (.inl ⟨by decide +kernel, rfl⟩)
theorem is64 {rs1 rs2 : Int} (hrs1 : 0 ≤ rs1 ∧ rs1 < 32) (hrs2 : 0 ≤ rs2 ∧ rs2 < 32) : sallyportref3_Is0 64 0 rs1 rs2 0 0 = true :=
  is_of (by decide +kernel) (.inl rfl) (.inr ⟨by decide +kernel, hrs1⟩) (.inr ⟨by decide +kernel, hrs2⟩) (.inl rfl) (.inl ⟨by decide +kernel, rfl⟩)
theorem is65 {rs1 rs2 : Int} (hrs1 : 0 ≤ rs1 ∧ rs1 < 32) (hrs2 : 0 ≤ rs2 ∧ rs2 < 32) : sallyportref3_Is0 65 0 rs1 rs2 0 0 = true :=
  is_of (by decide +kernel) (.inl rfl) (.inr ⟨by decide +kernel, hrs1⟩) (.inr ⟨by decide +kernel, hrs2⟩) (.inl rfl) (.inl ⟨by decide +kernel, rfl⟩)
theorem is66 {rd rs1 : Int} (hrd : 0 ≤ rd ∧ rd < 32) (hrs1 : 0 ≤ rs1 ∧ rs1 < 32) : sallyportref3_Is0 66 rd rs1 0 0 0 = true :=
  is_of (by decide +kernel) (.inr ⟨by decide +kernel, hrd⟩) (.inr ⟨by decide +kernel, hrs1⟩) (.inl rfl) (.inl rfl) (.inl ⟨by decide +kernel, rfl⟩)
theorem is67 {rd rs1 : Int} (hrd : 0 ≤ rd ∧ rd < 32) (hrs1 : 0 ≤ rs1 ∧ rs1 < 32) : sallyportref3_Is0 67 rd rs1 0 0 0 = true :=
  is_of (by decide +kernel) (.inr ⟨by decide +kernel, hrd⟩) (.inr ⟨by decide +kernel, hrs1⟩) (.inl rfl) (.inl rfl) (.inl ⟨by decide +kernel, rfl⟩)
theorem is68 {rd rs1 : Int} (hrd : 0 ≤ rd ∧ rd < 32) (hrs1 : 0 ≤ rs1 ∧ rs1 < 32) : sallyportref3_Is0 68 rd rs1 0 0 0 = true :=
  is_of (by decide +kernel) (.inr ⟨by decide +kernel, hrd⟩) (.inr ⟨by decide +kernel, hrs1⟩) (.inl rfl) (.inl rfl) (.inl ⟨by decide +kernel, rfl⟩)
theorem is69 {rs1 rs2 : Int} (hrs1 : 0 ≤ rs1 ∧ rs1 < 32) (hrs2 : 0 ≤ rs2 ∧ rs2 < 32) : sallyportref3_Is0 69 0 rs1 rs2 0 0 = true :=
  is_of (by decide +kernel) (.inl rfl) (.inr ⟨by decide +kernel, hrs1⟩) (.inr ⟨by decide +kernel, hrs2⟩) (.inl rfl) (.inl ⟨by decide +kernel, rfl⟩)

/-- An operation whose word this is, read from it by the program and by the document. -/
structure HitT (w op rd rs1 rs2 imm csr : Int) : Prop where
  is : sallyportref3_Is0 op rd rs1 rs2 imm csr = true
  enc : sallyportref3_Encode0 op rd rs1 rs2 imm csr = w
  ins : InsT w op rd rs1 rs2 imm csr
  g1 : sallyportref3_guess1 op w = rd
  g2 : sallyportref3_guess2 op w = rs1
  g3 : sallyportref3_guess3 op w = rs2
  g4 : sallyportref3_guess4 op w = imm
  g5 : sallyportref3_guess5 op w = csr
  c : rdRound_c0 w false op 0 0 0 0 0 0 = false
  q : w % 128 = bif iEq (sallyportref3_fixed0 op) 0 then sallyportref3_Code0 op else sallyportref3_fixed0 op % 128

theorem cndU {w op c : Int} (hw : W32 w) (h0 : sallyportref3_Code0 op = c) (hq : w % 128 = c) (h3 : iLt 3 op = false) : rdRound_c0 w false op 0 0 0 0 0 0 = false := by
  have h := hw
  unfold W32 at h
  have e : iNe (iAnd IntKind.u32 w 127) (sallyportref3_Code0 op) = false := by rw [and32 (m := 127) 7 128 (by decide +kernel) (by decide) (by decide) h, iNe_false]; omega
  unfold rdRound_c0
  rw [e, h3, cond_false, cond_false]
  cases iEq (sallyportref3_fixed0 op) 0 <;> rfl
theorem cnd {w op c f : Int} (hw : W32 w) (h0 : sallyportref3_Code0 op = c) (hq : w % 128 = c) (h1 : sallyportref3_Code1 op = f) (h3 : w / 4096 % 8 = f) : rdRound_c0 w false op 0 0 0 0 0 0 = false := by
  have h := hw
  unfold W32 at h
  have e : iNe (iAnd IntKind.u32 w 127) (sallyportref3_Code0 op) = false := by rw [and32 (m := 127) 7 128 (by decide +kernel) (by decide) (by decide) h, iNe_false]; omega
  have e2 : iNe (iAnd IntKind.u32 (iShr IntKind.u32 w 12) 7) (sallyportref3_Code1 op) = false := by
    rw [shr32 12 4096 (by decide +kernel) (by decide), and32 (m := 7) 3 8 (by decide +kernel) (by decide) (by decide) ⟨by omega, by omega⟩, iNe_false]; omega
  unfold rdRound_c0
  rw [e, e2, cond_false]
  cases iEq (sallyportref3_fixed0 op) 0 <;> cases iLt 3 op <;> rfl
end Go.Proofs.Ytigmhcafampfnaa.PV
