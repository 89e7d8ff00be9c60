/-
  Which numbers make an instruction; a word that is one's.
-/
import Derived.Test.YtngaeiceicgalaaDoorHg
set_option linter.unusedVariables false
set_option linter.unusedSimpArgs false
set_option maxRecDepth 100000
namespace Go.Proofs.YtngaeiceicgalaaDoor.PV
open Go Go.Ev
theorem within_of {n lo hi s : Int} (h : lo ≤ n ∧ n ≤ hi) (hm : n % s = 0) (hs : 0 < s) : sallyportref3_within0 n lo hi s = true := by
  unfold sallyportref3_within0
  rw [iLe_true.2 h.1, iLe_true.2 h.2, cond_true, cond_true, iEq_true]
  show iRem n s = 0
  unfold iRem
  exact Int.tmod_eq_zero_of_dvd (Int.dvd_of_emod_eq_zero hm)
theorem reg_of {r : Int} {b : Bool} (h : r = 0 ∨ (b = true ∧ 0 ≤ r ∧ r < 32)) : sallyportref3_reg0 r b = true := by
  unfold sallyportref3_reg0
  rcases h with rfl | ⟨rfl, h1, h2⟩
  · rfl
  · cases h0 : iEq r 0 with
    | true => rfl
    | false =>
      rw [iEq_false] at h0
      rw [cond_false, cond_true, iLt_true.2 (show 0 < r by omega), iLt_true.2 h2]
      rfl
theorem is_of {op rd rs1 rs2 imm csr : Int} (hc : iEq (sallyportref3_Class0 op) 0 = false) (h1 : rd = 0 ∨ (sallyportref3_Parts0 op = true ∧ 0 ≤ rd ∧ rd < 32)) (h2 : rs1 = 0 ∨ (sallyportref3_Parts1 op = true ∧ 0 ≤ rs1 ∧ rs1 < 32))
    (h3 : rs2 = 0 ∨ (sallyportref3_Parts2 op = true ∧ 0 ≤ rs2 ∧ rs2 < 32)) (h4 : csr = 0 ∨ (sallyportref3_Parts3 op = true ∧ 0 ≤ csr ∧ csr < 4096))
    (h5 : (sallyportref3_Parts4 op = false ∧ imm = 0) ∨ (sallyportref3_Parts4 op = true ∧ sallyportref3_number0 op rd rs1 rs2 imm csr = true)) : sallyportref3_Is0 op rd rs1 rs2 imm csr = true := by
  have e4 : (bif iNe csr 0 then bif bif !sallyportref3_Parts3 op then true else iLt csr 0 then true else iLt 4095 csr else false) = false := by
    rcases h4 with rfl | ⟨h, ha, hb⟩
    · rfl
    · rw [h, iLt_false.2 (show 0 ≤ csr by omega), iLt_false.2 (show csr ≤ 4095 by omega)]
      cases iNe csr 0 <;> rfl
  unfold sallyportref3_Is0
  rw [hc, reg_of h1, reg_of h2, reg_of h3, e4]
  rcases h5 with ⟨h, rfl⟩ | ⟨h, hn⟩
  · rw [h]; rfl
  · rw [h, hn]; rfl
theorem is1 {rd imm : Int} (hrd : 0 ≤ rd ∧ rd < 32) (hn : -2147483648 ≤ imm ∧ imm ≤ 2147479552) (hm : imm % 4096 = 0) : sallyportref3_Is0 1 rd 0 0 imm 0 = true :=
  is_of (by decide +kernel) (.inr ⟨by decide +kernel, hrd⟩) (.inl rfl) (.inl rfl) (.inl rfl) (.inr ⟨by decide +kernel, (by kernel_rfl : sallyportref3_number0 1 rd 0 0 imm 0 = sallyportref3_within0 imm (-2147483648) 2147479552 4096).trans (within_of hn hm (by decide))⟩)
theorem is2 {rd imm : Int} (hrd : 0 ≤ rd ∧ rd < 32) (hn : -2147483648 ≤ imm ∧ imm ≤ 2147479552) (hm : imm % 4096 = 0) : sallyportref3_Is0 2 rd 0 0 imm 0 = true :=
  is_of (by decide +kernel) (.inr ⟨by decide +kernel, hrd⟩) (.inl rfl) (.inl rfl) (.inl rfl) (.inr ⟨by decide +kernel, (by kernel_rfl : sallyportref3_number0 2 rd 0 0 imm 0 = sallyportref3_within0 imm (-2147483648) 2147479552 4096).trans (within_of hn hm (by decide))⟩)
theorem is3 {rd imm : Int} (hrd : 0 ≤ rd ∧ rd < 32) (hn : -1048576 ≤ imm ∧ imm ≤ 1048574) (hm : imm % 2 = 0) : sallyportref3_Is0 3 rd 0 0 imm 0 = true :=
  is_of (by decide +kernel) (.inr ⟨by decide +kernel, hrd⟩) (.inl rfl) (.inl rfl) (.inl rfl) (.inr ⟨by decide +kernel, (by kernel_rfl : sallyportref3_number0 3 rd 0 0 imm 0 = sallyportref3_within0 imm (-1048576) 1048574 2).trans (within_of hn hm (by decide))⟩)
theorem is4 {rd rs1 imm : Int} (hrd : 0 ≤ rd ∧ rd < 32) (hrs1 : 0 ≤ rs1 ∧ rs1 < 32) (hn : -2048 ≤ imm ∧ imm ≤ 2047) : sallyportref3_Is0 4 rd rs1 0 imm 0 = true :=
  is_of (by decide +kernel) (.inr ⟨by decide +kernel, hrd⟩) (.inr ⟨by decide +kernel, hrs1⟩) (.inl rfl) (.inl rfl) (.inr ⟨by decide +kernel, (by kernel_rfl : sallyportref3_number0 4 rd rs1 0 imm 0 = sallyportref3_within0 imm (-2048) 2047 1).trans (within_of hn (by omega) (by decide))⟩)
theorem is5 {rs1 rs2 imm : Int} (hrs1 : 0 ≤ rs1 ∧ rs1 < 32) (hrs2 : 0 ≤ rs2 ∧ rs2 < 32) (hn : -4096 ≤ imm ∧ imm ≤ 4094) (hm : imm % 2 = 0) : sallyportref3_Is0 5 0 rs1 rs2 imm 0 = true :=
  is_of (by decide +kernel) (.inl rfl) (.inr ⟨by decide +kernel, hrs1⟩) (.inr ⟨by decide +kernel, hrs2⟩) (.inl rfl) (.inr ⟨by decide +kernel, (by kernel_rfl : sallyportref3_number0 5 0 rs1 rs2 imm 0 = sallyportref3_within0 imm (-4096) 4094 2).trans (within_of hn hm (by decide))⟩)
theorem is6 {rs1 rs2 imm : Int} (hrs1 : 0 ≤ rs1 ∧ rs1 < 32) (hrs2 : 0 ≤ rs2 ∧ rs2 < 32) (hn : -4096 ≤ imm ∧ imm ≤ 4094) (hm : imm % 2 = 0) : sallyportref3_Is0 6 0 rs1 rs2 imm 0 = true :=
  is_of (by decide +kernel) (.inl rfl) (.inr ⟨by decide +kernel, hrs1⟩) (.inr ⟨by decide +kernel, hrs2⟩) (.inl rfl) (.inr ⟨by decide +kernel, (by kernel_rfl : sallyportref3_number0 6 0 rs1 rs2 imm 0 = sallyportref3_within0 imm (-4096) 4094 2).trans (within_of hn hm (by decide))⟩)
theorem is7 {rs1 rs2 imm : Int} (hrs1 : 0 ≤ rs1 ∧ rs1 < 32) (hrs2 : 0 ≤ rs2 ∧ rs2 < 32) (hn : -4096 ≤ imm ∧ imm ≤ 4094) (hm : imm % 2 = 0) : sallyportref3_Is0 7 0 rs1 rs2 imm 0 = true :=
  is_of (by decide +kernel) (.inl rfl) (.inr ⟨by decide +kernel, hrs1⟩) (.inr ⟨by decide +kernel, hrs2⟩) (.inl rfl) (.inr ⟨by decide +kernel, (by kernel_rfl : sallyportref3_number0 7 0 rs1 rs2 imm 0 = sallyportref3_within0 imm (-4096) 4094 2).trans (within_of hn hm (by decide))⟩)
theorem is8 {rs1 rs2 imm : Int} (hrs1 : 0 ≤ rs1 ∧ rs1 < 32) (hrs2 : 0 ≤ rs2 ∧ rs2 < 32) (hn : -4096 ≤ imm ∧ imm ≤ 4094) (hm : imm % 2 = 0) : sallyportref3_Is0 8 0 rs1 rs2 imm 0 = true :=
  is_of (by decide +kernel) (.inl rfl) (.inr ⟨by decide +kernel, hrs1⟩) (.inr ⟨by decide +kernel, hrs2⟩) (.inl rfl) (.inr ⟨by decide +kernel, (by kernel_rfl : sallyportref3_number0 8 0 rs1 rs2 imm 0 = sallyportref3_within0 imm (-4096) 4094 2).trans (within_of hn hm (by decide))⟩)
theorem is9 {rs1 rs2 imm : Int} (hrs1 : 0 ≤ rs1 ∧ rs1 < 32) (hrs2 : 0 ≤ rs2 ∧ rs2 < 32) (hn : -4096 ≤ imm ∧ imm ≤ 4094) (hm : imm % 2 = 0) : sallyportref3_Is0 9 0 rs1 rs2 imm 0 = true :=
  is_of (by decide +kernel) (.inl rfl) (.inr ⟨by decide +kernel, hrs1⟩) (.inr ⟨by decide +kernel, hrs2⟩) (.inl rfl) (.inr ⟨by decide +kernel, (by kernel_rfl : sallyportref3_number0 9 0 rs1 rs2 imm 0 = sallyportref3_within0 imm (-4096) 4094 2).trans (within_of hn hm (by decide))⟩)
theorem is10 {rs1 rs2 imm : Int} (hrs1 : 0 ≤ rs1 ∧ rs1 < 32) (hrs2 : 0 ≤ rs2 ∧ rs2 < 32) (hn : -4096 ≤ imm ∧ imm ≤ 4094) (hm : imm % 2 = 0) : sallyportref3_Is0 10 0 rs1 rs2 imm 0 = true :=
  is_of (by decide +kernel) (.inl rfl) (.inr ⟨by decide +kernel, hrs1⟩) (.inr ⟨by decide +kernel, hrs2⟩) (.inl rfl) (.inr ⟨by decide +kernel, (by kernel_rfl : sallyportref3_number0 10 0 rs1 rs2 imm 0 = sallyportref3_within0 imm (-4096) 4094 2).trans (within_of hn hm (by decide))⟩)
theorem is11 {rd rs1 imm : Int} (hrd : 0 ≤ rd ∧ rd < 32) (hrs1 : 0 ≤ rs1 ∧ rs1 < 32) (hn : -2048 ≤ imm ∧ imm ≤ 2047) : sallyportref3_Is0 11 rd rs1 0 imm 0 = true :=
  is_of (by decide +kernel) (.inr ⟨by decide +kernel, hrd⟩) (.inr ⟨by decide +kernel, hrs1⟩) (.inl rfl) (.inl rfl) (.inr ⟨by decide +kernel, (by kernel_rfl : sallyportref3_number0 11 rd rs1 0 imm 0 = sallyportref3_within0 imm (-2048) 2047 1).trans (within_of hn (by omega) (by decide))⟩)
theorem is12 {rd rs1 imm : Int} (hrd : 0 ≤ rd ∧ rd < 32) (hrs1 : 0 ≤ rs1 ∧ rs1 < 32) (hn : -2048 ≤ imm ∧ imm ≤ 2047) : sallyportref3_Is0 12 rd rs1 0 imm 0 = true :=
  is_of (by decide +kernel) (.inr ⟨by decide +kernel, hrd⟩) (.inr ⟨by decide +kernel, hrs1⟩) (.inl rfl) (.inl rfl) (.inr ⟨by decide +kernel, (by kernel_rfl : sallyportref3_number0 12 rd rs1 0 imm 0 = sallyportref3_within0 imm (-2048) 2047 1).trans (within_of hn (by omega) (by decide))⟩)
theorem is13 {rd rs1 imm : Int} (hrd : 0 ≤ rd ∧ rd < 32) (hrs1 : 0 ≤ rs1 ∧ rs1 < 32) (hn : -2048 ≤ imm ∧ imm ≤ 2047) : sallyportref3_Is0 13 rd rs1 0 imm 0 = true :=
  is_of (by decide +kernel) (.inr ⟨by decide +kernel, hrd⟩) (.inr ⟨by decide +kernel, hrs1⟩) (.inl rfl) (.inl rfl) (.inr ⟨by decide +kernel, (by kernel_rfl : sallyportref3_number0 13 rd rs1 0 imm 0 = sallyportref3_within0 imm (-2048) 2047 1).trans (within_of hn (by omega) (by decide))⟩)
theorem is14 {rd rs1 imm : Int} (hrd : 0 ≤ rd ∧ rd < 32) (hrs1 : 0 ≤ rs1 ∧ rs1 < 32) (hn : -2048 ≤ imm ∧ imm ≤ 2047) : sallyportref3_Is0 14 rd rs1 0 imm 0 = true :=
  is_of (by decide +kernel) (.inr ⟨by decide +kernel, hrd⟩) (.inr ⟨by decide +kernel, hrs1⟩) (.inl rfl) (.inl rfl) (.inr ⟨by decide +kernel, (by kernel_rfl : sallyportref3_number0 14 rd rs1 0 imm 0 = sallyportref3_within0 imm (-2048) 2047 1).trans (within_of hn (by omega) (by decide))⟩)
theorem is15 {rd rs1 imm : Int} (hrd : 0 ≤ rd ∧ rd < 32) (hrs1 : 0 ≤ rs1 ∧ rs1 < 32) (hn : -2048 ≤ imm ∧ imm ≤ 2047) : sallyportref3_Is0 15 rd rs1 0 imm 0 = true :=
  is_of (by decide +kernel) (.inr ⟨by decide +kernel, hrd⟩) (.inr ⟨by decide +kernel, hrs1⟩) (.inl rfl) (.inl rfl) (.inr ⟨by decide +kernel, (by kernel_rfl : sallyportref3_number0 15 rd rs1 0 imm 0 = sallyportref3_within0 imm (-2048) 2047 1).trans (within_of hn (by omega) (by decide))⟩)
theorem is16 {rd rs1 imm : Int} (hrd : 0 ≤ rd ∧ rd < 32) (hrs1 : 0 ≤ rs1 ∧ rs1 < 32) (hn : -2048 ≤ imm ∧ imm ≤ 2047) : sallyportref3_Is0 16 rd rs1 0 imm 0 = true :=
  is_of (by decide +kernel) (.inr ⟨by decide +kernel, hrd⟩) (.inr ⟨by decide +kernel, hrs1⟩) (.inl rfl) (.inl rfl) (.inr ⟨by decide +kernel, (by kernel_rfl : sallyportref3_number0 16 rd rs1 0 imm 0 = sallyportref3_within0 imm (-2048) 2047 1).trans (within_of hn (by omega) (by decide))⟩)
theorem is17 {rd rs1 imm : Int} (hrd : 0 ≤ rd ∧ rd < 32) (hrs1 : 0 ≤ rs1 ∧ rs1 < 32) (hn : -2048 ≤ imm ∧ imm ≤ 2047) : sallyportref3_Is0 17 rd rs1 0 imm 0 = true :=
  is_of (by decide +kernel) (.inr ⟨by decide +kernel, hrd⟩) (.inr ⟨by decide +kernel, hrs1⟩) (.inl rfl) (.inl rfl) (.inr ⟨by decide +kernel, (by kernel_rfl : sallyportref3_number0 17 rd rs1 0 imm 0 = sallyportref3_within0 imm (-2048) 2047 1).trans (within_of hn (by omega) (by decide))⟩)
theorem is18 {rs1 rs2 imm : Int} (hrs1 : 0 ≤ rs1 ∧ rs1 < 32) (hrs2 : 0 ≤ rs2 ∧ rs2 < 32) (hn : -2048 ≤ imm ∧ imm ≤ 2047) : sallyportref3_Is0 18 0 rs1 rs2 imm 0 = true :=
  is_of (by decide +kernel) (.inl rfl) (.inr ⟨by decide +kernel, hrs1⟩) (.inr ⟨by decide +kernel, hrs2⟩) (.inl rfl) (.inr ⟨by decide +kernel, (by kernel_rfl : sallyportref3_number0 18 0 rs1 rs2 imm 0 = sallyportref3_within0 imm (-2048) 2047 1).trans (within_of hn (by omega) (by decide))⟩)
theorem is19 {rs1 rs2 imm : Int} (hrs1 : 0 ≤ rs1 ∧ rs1 < 32) (hrs2 : 0 ≤ rs2 ∧ rs2 < 32) (hn : -2048 ≤ imm ∧ imm ≤ 2047) : sallyportref3_Is0 19 0 rs1 rs2 imm 0 = true :=
  is_of (by decide +kernel) (.inl rfl) (.inr ⟨by decide +kernel, hrs1⟩) (.inr ⟨by decide +kernel, hrs2⟩) (.inl rfl) (.inr ⟨by decide +kernel, (by kernel_rfl : sallyportref3_number0 19 0 rs1 rs2 imm 0 = sallyportref3_within0 imm (-2048) 2047 1).trans (within_of hn (by omega) (by decide))⟩)
theorem is20 {rs1 rs2 imm : Int} (hrs1 : 0 ≤ rs1 ∧ rs1 < 32) (hrs2 : 0 ≤ rs2 ∧ rs2 < 32) (hn : -2048 ≤ imm ∧ imm ≤ 2047) : sallyportref3_Is0 20 0 rs1 rs2 imm 0 = true :=
  is_of (by decide +kernel) (.inl rfl) (.inr ⟨by decide +kernel, hrs1⟩) (.inr ⟨by decide +kernel, hrs2⟩) (.inl rfl) (.inr ⟨by decide +kernel, (by kernel_rfl : sallyportref3_number0 20 0 rs1 rs2 imm 0 = sallyportref3_within0 imm (-2048) 2047 1).trans (within_of hn (by omega) (by decide))⟩)
theorem is21 {rs1 rs2 imm : Int} (hrs1 : 0 ≤ rs1 ∧ rs1 < 32) (hrs2 : 0 ≤ rs2 ∧ rs2 < 32) (hn : -2048 ≤ imm ∧ imm ≤ 2047) : sallyportref3_Is0 21 0 rs1 rs2 imm 0 = true :=
  is_of (by decide +kernel) (.inl rfl) (.inr ⟨by decide +kernel, hrs1⟩) (.inr ⟨by decide +kernel, hrs2⟩) (.inl rfl) (.inr ⟨by decide +kernel, (by kernel_rfl : sallyportref3_number0 21 0 rs1 rs2 imm 0 = sallyportref3_within0 imm (-2048) 2047 1).trans (within_of hn (by omega) (by decide))⟩)
theorem is22 {rd rs1 imm : Int} (hrd : 0 ≤ rd ∧ rd < 32) (hrs1 : 0 ≤ rs1 ∧ rs1 < 32) (hn : -2048 ≤ imm ∧ imm ≤ 2047) : sallyportref3_Is0 22 rd rs1 0 imm 0 = true :=
  is_of (by decide +kernel) (.inr ⟨by decide +kernel, hrd⟩) (.inr ⟨by decide +kernel, hrs1⟩) (.inl rfl) (.inl rfl) (.inr ⟨by decide +kernel, (by kernel_rfl : sallyportref3_number0 22 rd rs1 0 imm 0 = sallyportref3_within0 imm (-2048) 2047 1).trans (within_of hn (by omega) (by decide))⟩)
theorem is23 {rd rs1 imm : Int} (hrd : 0 ≤ rd ∧ rd < 32) (hrs1 : 0 ≤ rs1 ∧ rs1 < 32) (hn : -2048 ≤ imm ∧ imm ≤ 2047) : sallyportref3_Is0 23 rd rs1 0 imm 0 = true :=
  is_of (by decide +kernel) (.inr ⟨by decide +kernel, hrd⟩) (.inr ⟨by decide +kernel, hrs1⟩) (.inl rfl) (.inl rfl) (.inr ⟨by decide +kernel, (by kernel_rfl : sallyportref3_number0 23 rd rs1 0 imm 0 = sallyportref3_within0 imm (-2048) 2047 1).trans (within_of hn (by omega) (by decide))⟩)
theorem is24 {rd rs1 imm : Int} (hrd : 0 ≤ rd ∧ rd < 32) (hrs1 : 0 ≤ rs1 ∧ rs1 < 32) (hn : -2048 ≤ imm ∧ imm ≤ 2047) : sallyportref3_Is0 24 rd rs1 0 imm 0 = true :=
  is_of (by decide +kernel) (.inr ⟨by decide +kernel, hrd⟩) (.inr ⟨by decide +kernel, hrs1⟩) (.inl rfl) (.inl rfl) (.inr ⟨by decide +kernel, (by kernel_rfl : sallyportref3_number0 24 rd rs1 0 imm 0 = sallyportref3_within0 imm (-2048) 2047 1).trans (within_of hn (by omega) (by decide))⟩)
theorem is25 {rd rs1 imm : Int} (hrd : 0 ≤ rd ∧ rd < 32) (hrs1 : 0 ≤ rs1 ∧ rs1 < 32) (hn : -2048 ≤ imm ∧ imm ≤ 2047) : sallyportref3_Is0 25 rd rs1 0 imm 0 = true :=
  is_of (by decide +kernel) (.inr ⟨by decide +kernel, hrd⟩) (.inr ⟨by decide +kernel, hrs1⟩) (.inl rfl) (.inl rfl) (.inr ⟨by decide +kernel, (by kernel_rfl : sallyportref3_number0 25 rd rs1 0 imm 0 = sallyportref3_within0 imm (-2048) 2047 1).trans (within_of hn (by omega) (by decide))⟩)
theorem is26 {rd rs1 imm : Int} (hrd : 0 ≤ rd ∧ rd < 32) (hrs1 : 0 ≤ rs1 ∧ rs1 < 32) (hn : -2048 ≤ imm ∧ imm ≤ 2047) : sallyportref3_Is0 26 rd rs1 0 imm 0 = true :=
  is_of (by decide +kernel) (.inr ⟨by decide +kernel, hrd⟩) (.inr ⟨by decide +kernel, hrs1⟩) (.inl rfl) (.inl rfl) (.inr ⟨by decide +kernel, (by kernel_rfl : sallyportref3_number0 26 rd rs1 0 imm 0 = sallyportref3_within0 imm (-2048) 2047 1).trans (within_of hn (by omega) (by decide))⟩)
theorem is27 {rd rs1 imm : Int} (hrd : 0 ≤ rd ∧ rd < 32) (hrs1 : 0 ≤ rs1 ∧ rs1 < 32) (hn : -2048 ≤ imm ∧ imm ≤ 2047) : sallyportref3_Is0 27 rd rs1 0 imm 0 = true :=
  is_of (by decide +kernel) (.inr ⟨by decide +kernel, hrd⟩) (.inr ⟨by decide +kernel, hrs1⟩) (.inl rfl) (.inl rfl) (.inr ⟨by decide +kernel, (by kernel_rfl : sallyportref3_number0 27 rd rs1 0 imm 0 = sallyportref3_within0 imm (-2048) 2047 1).trans (within_of hn (by omega) (by decide))⟩)
theorem is28 {rd rs1 imm : Int} (hrd : 0 ≤ rd ∧ rd < 32) (hrs1 : 0 ≤ rs1 ∧ rs1 < 32) (hn : 0 ≤ imm ∧ imm ≤ 63) : sallyportref3_Is0 28 rd rs1 0 imm 0 = true :=
  is_of (by decide +kernel) (.inr ⟨by decide +kernel, hrd⟩) (.inr ⟨by decide +kernel, hrs1⟩) (.inl rfl) (.inl rfl) (.inr ⟨by decide +kernel, (by kernel_rfl : sallyportref3_number0 28 rd rs1 0 imm 0 = sallyportref3_within0 imm (0) 63 1).trans (within_of hn (by omega) (by decide))⟩)
theorem is29 {rd rs1 imm : Int} (hrd : 0 ≤ rd ∧ rd < 32) (hrs1 : 0 ≤ rs1 ∧ rs1 < 32) (hn : 0 ≤ imm ∧ imm ≤ 63) : sallyportref3_Is0 29 rd rs1 0 imm 0 = true :=
  is_of (by decide +kernel) (.inr ⟨by decide +kernel, hrd⟩) (.inr ⟨by decide +kernel, hrs1⟩) (.inl rfl) (.inl rfl) (.inr ⟨by decide +kernel, (by kernel_rfl : sallyportref3_number0 29 rd rs1 0 imm 0 = sallyportref3_within0 imm (0) 63 1).trans (within_of hn (by omega) (by decide))⟩)
theorem is30 {rd rs1 imm : Int} (hrd : 0 ≤ rd ∧ rd < 32) (hrs1 : 0 ≤ rs1 ∧ rs1 < 32) (hn : 0 ≤ imm ∧ imm ≤ 63) : sallyportref3_Is0 30 rd rs1 0 imm 0 = true :=
  is_of (by decide +kernel) (.inr ⟨by decide +kernel, hrd⟩) (.inr ⟨by decide +kernel, hrs1⟩) (.inl rfl) (.inl rfl) (.inr ⟨by decide +kernel, (by kernel_rfl : sallyportref3_number0 30 rd rs1 0 imm 0 = sallyportref3_within0 imm (0) 63 1).trans (within_of hn (by omega) (by decide))⟩)
theorem is31 {rd rs1 imm : Int} (hrd : 0 ≤ rd ∧ rd < 32) (hrs1 : 0 ≤ rs1 ∧ rs1 < 32) (hn : -2048 ≤ imm ∧ imm ≤ 2047) : sallyportref3_Is0 31 rd rs1 0 imm 0 = true :=
  is_of (by decide +kernel) (.inr ⟨by decide +kernel, hrd⟩) (.inr ⟨by decide +kernel, hrs1⟩) (.inl rfl) (.inl rfl) (.inr ⟨by decide +kernel, (by kernel_rfl : sallyportref3_number0 31 rd rs1 0 imm 0 = sallyportref3_within0 imm (-2048) 2047 1).trans (within_of hn (by omega) (by decide))⟩)
theorem is32 {rd rs1 imm : Int} (hrd : 0 ≤ rd ∧ rd < 32) (hrs1 : 0 ≤ rs1 ∧ rs1 < 32) (hn : 0 ≤ imm ∧ imm ≤ 31) : sallyportref3_Is0 32 rd rs1 0 imm 0 = true :=
  is_of (by decide +kernel) (.inr ⟨by decide +kernel, hrd⟩) (.inr ⟨by decide +kernel, hrs1⟩) (.inl rfl) (.inl rfl) (.inr ⟨by decide +kernel, (by kernel_rfl : sallyportref3_number0 32 rd rs1 0 imm 0 = sallyportref3_within0 imm (0) 31 1).trans (within_of hn (by omega) (by decide))⟩)
theorem is33 {rd rs1 imm : Int} (hrd : 0 ≤ rd ∧ rd < 32) (hrs1 : 0 ≤ rs1 ∧ rs1 < 32) (hn : 0 ≤ imm ∧ imm ≤ 31) : sallyportref3_Is0 33 rd rs1 0 imm 0 = true :=
  is_of (by decide +kernel) (.inr ⟨by decide +kernel, hrd⟩) (.inr ⟨by decide +kernel, hrs1⟩) (.inl rfl) (.inl rfl) (.inr ⟨by decide +kernel, (by kernel_rfl : sallyportref3_number0 33 rd rs1 0 imm 0 = sallyportref3_within0 imm (0) 31 1).trans (within_of hn (by omega) (by decide))⟩)
theorem is34 {rd rs1 imm : Int} (hrd : 0 ≤ rd ∧ rd < 32) (hrs1 : 0 ≤ rs1 ∧ rs1 < 32) (hn : 0 ≤ imm ∧ imm ≤ 31) : sallyportref3_Is0 34 rd rs1 0 imm 0 = true :=
  is_of (by decide +kernel) (.inr ⟨by decide +kernel, hrd⟩) (.inr ⟨by decide +kernel, hrs1⟩) (.inl rfl) (.inl rfl) (.inr ⟨by decide +kernel, (by kernel_rfl : sallyportref3_number0 34 rd rs1 0 imm 0 = sallyportref3_within0 imm (0) 31 1).trans (within_of hn (by omega) (by decide))⟩)
theorem is35 {rd rs1 rs2 : Int} (hrd : 0 ≤ rd ∧ rd < 32) (hrs1 : 0 ≤ rs1 ∧ rs1 < 32) (hrs2 : 0 ≤ rs2 ∧ rs2 < 32) : sallyportref3_Is0 35 rd rs1 rs2 0 0 = true :=
  is_of (by decide +kernel) (.inr ⟨by decide +kernel, hrd⟩) (.inr ⟨by decide +kernel, hrs1⟩) (.inr ⟨by decide +kernel, hrs2⟩) (.inl rfl) (.inl ⟨by decide +kernel, rfl⟩)
theorem is36 {rd rs1 rs2 : Int} (hrd : 0 ≤ rd ∧ rd < 32) (hrs1 : 0 ≤ rs1 ∧ rs1 < 32) (hrs2 : 0 ≤ rs2 ∧ rs2 < 32) : sallyportref3_Is0 36 rd rs1 rs2 0 0 = true :=
  is_of (by decide +kernel) (.inr ⟨by decide +kernel, hrd⟩) (.inr ⟨by decide +kernel, hrs1⟩) (.inr ⟨by decide +kernel, hrs2⟩) (.inl rfl) (.inl ⟨by decide +kernel, rfl⟩)
theorem is37 {rd rs1 rs2 : Int} (hrd : 0 ≤ rd ∧ rd < 32) (hrs1 : 0 ≤ rs1 ∧ rs1 < 32) (hrs2 : 0 ≤ rs2 ∧ rs2 < 32) : sallyportref3_Is0 37 rd rs1 rs2 0 0 = true :=
  is_of (by decide +kernel) (.inr ⟨by decide +kernel, hrd⟩) (.inr ⟨by decide +kernel, hrs1⟩) (.inr ⟨by decide +kernel, hrs2⟩) (.inl rfl) (.inl ⟨by decide +kernel, rfl⟩)
theorem is38 {rd rs1 rs2 : Int} (hrd : 0 ≤ rd ∧ rd < 32) (hrs1 : 0 ≤ rs1 ∧ rs1 < 32) (hrs2 : 0 ≤ rs2 ∧ rs2 < 32) : sallyportref3_Is0 38 rd rs1 rs2 0 0 = true :=
  is_of (by decide +kernel) (.inr ⟨by decide +kernel, hrd⟩) (.inr ⟨by decide +kernel, hrs1⟩) (.inr ⟨by decide +kernel, hrs2⟩) (.inl rfl) (.inl ⟨by decide +kernel, rfl⟩)
theorem is39 {rd rs1 rs2 : Int} (hrd : 0 ≤ rd ∧ rd < 32) (hrs1 : 0 ≤ rs1 ∧ rs1 < 32) (hrs2 : 0 ≤ rs2 ∧ rs2 < 32) : sallyportref3_Is0 39 rd rs1 rs2 0 0 = true :=
  is_of (by decide +kernel) (.inr ⟨by decide +kernel, hrd⟩) (.inr ⟨by decide +kernel, hrs1⟩) (.inr ⟨by decide +kernel, hrs2⟩) (.inl rfl) (.inl ⟨by decide +kernel, rfl⟩)
theorem is40 {rd rs1 rs2 : Int} (hrd : 0 ≤ rd ∧ rd < 32) (hrs1 : 0 ≤ rs1 ∧ rs1 < 32) (hrs2 : 0 ≤ rs2 ∧ rs2 < 32) : sallyportref3_Is0 40 rd rs1 rs2 0 0 = true :=
  is_of (by decide +kernel) (.inr ⟨by decide +kernel, hrd⟩) (.inr ⟨by decide +kernel, hrs1⟩) (.inr ⟨by decide +kernel, hrs2⟩) (.inl rfl) (.inl ⟨by decide +kernel, rfl⟩)
theorem is41 {rd rs1 rs2 : Int} (hrd : 0 ≤ rd ∧ rd < 32) (hrs1 : 0 ≤ rs1 ∧ rs1 < 32) (hrs2 : 0 ≤ rs2 ∧ rs2 < 32) : sallyportref3_Is0 41 rd rs1 rs2 0 0 = true :=
  is_of (by decide +kernel) (.inr ⟨by decide +kernel, hrd⟩) (.inr ⟨by decide +kernel, hrs1⟩) (.inr ⟨by decide +kernel, hrs2⟩) (.inl rfl) (.inl ⟨by decide +kernel, rfl⟩)
theorem is42 {rd rs1 rs2 : Int} (hrd : 0 ≤ rd ∧ rd < 32) (hrs1 : 0 ≤ rs1 ∧ rs1 < 32) (hrs2 : 0 ≤ rs2 ∧ rs2 < 32) : sallyportref3_Is0 42 rd rs1 rs2 0 0 = true :=
  is_of (by decide +kernel) (.inr ⟨by decide +kernel, hrd⟩) (.inr ⟨by decide +kernel, hrs1⟩) (.inr ⟨by decide +kernel, hrs2⟩) (.inl rfl) (.inl ⟨by decide +kernel, rfl⟩)
theorem is43 {rd rs1 rs2 : Int} (hrd : 0 ≤ rd ∧ rd < 32) (hrs1 : 0 ≤ rs1 ∧ rs1 < 32) (hrs2 : 0 ≤ rs2 ∧ rs2 < 32) : sallyportref3_Is0 43 rd rs1 rs2 0 0 = true :=
  is_of (by decide +kernel) (.inr ⟨by decide +kernel, hrd⟩) (.inr ⟨by decide +kernel, hrs1⟩) (.inr ⟨by decide +kernel, hrs2⟩) (.inl rfl) (.inl ⟨by decide +kernel, rfl⟩)
theorem is44 {rd rs1 rs2 : Int} (hrd : 0 ≤ rd ∧ rd < 32) (hrs1 : 0 ≤ rs1 ∧ rs1 < 32) (hrs2 : 0 ≤ rs2 ∧ rs2 < 32) : sallyportref3_Is0 44 rd rs1 rs2 0 0 = true :=
  is_of (by decide +kernel) (.inr ⟨by decide +kernel, hrd⟩) (.inr ⟨by decide +kernel, hrs1⟩) (.inr ⟨by decide +kernel, hrs2⟩) (.inl rfl) (.inl ⟨by decide +kernel, rfl⟩)
theorem is45 {rd rs1 rs2 : Int} (hrd : 0 ≤ rd ∧ rd < 32) (hrs1 : 0 ≤ rs1 ∧ rs1 < 32) (hrs2 : 0 ≤ rs2 ∧ rs2 < 32) : sallyportref3_Is0 45 rd rs1 rs2 0 0 = true :=
  is_of (by decide +kernel) (.inr ⟨by decide +kernel, hrd⟩) (.inr ⟨by decide +kernel, hrs1⟩) (.inr ⟨by decide +kernel, hrs2⟩) (.inl rfl) (.inl ⟨by decide +kernel, rfl⟩)
theorem is46 {rd rs1 rs2 : Int} (hrd : 0 ≤ rd ∧ rd < 32) (hrs1 : 0 ≤ rs1 ∧ rs1 < 32) (hrs2 : 0 ≤ rs2 ∧ rs2 < 32) : sallyportref3_Is0 46 rd rs1 rs2 0 0 = true :=
  is_of (by decide +kernel) (.inr ⟨by decide +kernel, hrd⟩) (.inr ⟨by decide +kernel, hrs1⟩) (.inr ⟨by decide +kernel, hrs2⟩) (.inl rfl) (.inl ⟨by decide +kernel, rfl⟩)
theorem is47 {rd rs1 rs2 : Int} (hrd : 0 ≤ rd ∧ rd < 32) (hrs1 : 0 ≤ rs1 ∧ rs1 < 32) (hrs2 : 0 ≤ rs2 ∧ rs2 < 32) : sallyportref3_Is0 47 rd rs1 rs2 0 0 = true :=
  is_of (by decide +kernel) (.inr ⟨by decide +kernel, hrd⟩) (.inr ⟨by decide +kernel, hrs1⟩) (.inr ⟨by decide +kernel, hrs2⟩) (.inl rfl) (.inl ⟨by decide +kernel, rfl⟩)
theorem is48 {rd rs1 rs2 : Int} (hrd : 0 ≤ rd ∧ rd < 32) (hrs1 : 0 ≤ rs1 ∧ rs1 < 32) (hrs2 : 0 ≤ rs2 ∧ rs2 < 32) : sallyportref3_Is0 48 rd rs1 rs2 0 0 = true :=
  is_of (by decide +kernel) (.inr ⟨by decide +kernel, hrd⟩) (.inr ⟨by decide +kernel, hrs1⟩) (.inr ⟨by decide +kernel, hrs2⟩) (.inl rfl) (.inl ⟨by decide +kernel, rfl⟩)
theorem is49 {rd rs1 rs2 : Int} (hrd : 0 ≤ rd ∧ rd < 32) (hrs1 : 0 ≤ rs1 ∧ rs1 < 32) (hrs2 : 0 ≤ rs2 ∧ rs2 < 32) : sallyportref3_Is0 49 rd rs1 rs2 0 0 = true :=
  is_of (by decide +kernel) (.inr ⟨by decide +kernel, hrd⟩) (.inr ⟨by decide +kernel, hrs1⟩) (.inr ⟨by decide +kernel, hrs2⟩) (.inl rfl) (.inl ⟨by decide +kernel, rfl⟩)
theorem is54 {rd rs1 csr : Int} (hrd : 0 ≤ rd ∧ rd < 32) (hrs1 : 0 ≤ rs1 ∧ rs1 < 32) (hcsr : 0 ≤ csr ∧ csr < 4096) : sallyportref3_Is0 54 rd rs1 0 0 csr = true :=
  is_of (by decide +kernel) (.inr ⟨by decide +kernel, hrd⟩) (.inr ⟨by decide +kernel, hrs1⟩) (.inl rfl) (.inr ⟨by decide +kernel, hcsr⟩) (.inl ⟨by decide +kernel, rfl⟩)
theorem is55 {rd rs1 csr : Int} (hrd : 0 ≤ rd ∧ rd < 32) (hrs1 : 0 ≤ rs1 ∧ rs1 < 32) (hcsr : 0 ≤ csr ∧ csr < 4096) : sallyportref3_Is0 55 rd rs1 0 0 csr = true :=
  is_of (by decide +kernel) (.inr ⟨by decide +kernel, hrd⟩) (.inr ⟨by decide +kernel, hrs1⟩) (.inl rfl) (.inr ⟨by decide +kernel, hcsr⟩) (.inl ⟨by decide +kernel, rfl⟩)
theorem is56 {rd rs1 csr : Int} (hrd : 0 ≤ rd ∧ rd < 32) (hrs1 : 0 ≤ rs1 ∧ rs1 < 32) (hcsr : 0 ≤ csr ∧ csr < 4096) : sallyportref3_Is0 56 rd rs1 0 0 csr = true :=
  is_of (by decide +kernel) (.inr ⟨by decide +kernel, hrd⟩) (.inr ⟨by decide +kernel, hrs1⟩) (.inl rfl) (.inr ⟨by decide +kernel, hcsr⟩) (.inl ⟨by decide +kernel, rfl⟩)
theorem is57 {rd csr imm : Int} (hrd : 0 ≤ rd ∧ rd < 32) (hcsr : 0 ≤ csr ∧ csr < 4096) (hn : 0 ≤ imm ∧ imm ≤ 31) : sallyportref3_Is0 57 rd 0 0 imm csr = true :=
  is_of (by decide +kernel) (.inr ⟨by decide +kernel, hrd⟩) (.inl rfl) (.inl rfl) (.inr ⟨by decide +kernel, hcsr⟩) (.inr ⟨by decide +kernel, (by kernel_rfl : sallyportref3_number0 57 rd 0 0 imm csr = sallyportref3_within0 imm (0) 31 1).trans (within_of hn (by omega) (by decide))⟩)
theorem is58 {rd csr imm : Int} (hrd : 0 ≤ rd ∧ rd < 32) (hcsr : 0 ≤ csr ∧ csr < 4096) (hn : 0 ≤ imm ∧ imm ≤ 31) : sallyportref3_Is0 58 rd 0 0 imm csr = true :=
  is_of (by decide +kernel) (.inr ⟨by decide +kernel, hrd⟩) (.inl rfl) (.inl rfl) (.inr ⟨by decide +kernel, hcsr⟩) (.inr ⟨by decide +kernel, (by kernel_rfl : sallyportref3_number0 58 rd 0 0 imm csr = sallyportref3_within0 imm (0) 31 1).trans (within_of hn (by omega) (by decide))⟩)
theorem is59 {rd csr imm : Int} (hrd : 0 ≤ rd ∧ rd < 32) (hcsr : 0 ≤ csr ∧ csr < 4096) (hn : 0 ≤ imm ∧ imm ≤ 31) : sallyportref3_Is0 59 rd 0 0 imm csr = true :=
  is_of (by decide +kernel) (.inr ⟨by decide +kernel, hrd⟩) (.inl rfl) (.inl rfl) (.inr ⟨by decide +kernel, hcsr⟩) (.inr ⟨by decide +kernel, (by kernel_rfl : sallyportref3_number0 59 rd 0 0 imm csr = sallyportref3_within0 imm (0) 31 1).trans (within_of hn (by omega) (by decide))⟩)
theorem is63 {rs1 rs2 : Int} (hrs1 : 0 ≤ rs1 ∧ rs1 < 32) (hrs2 : 0 ≤ rs2 ∧ rs2 < 32) : sallyportref3_Is0 63 0 rs1 rs2 0 0 = true :=
  is_of (by decide +kernel) (.inl rfl) (.inr ⟨by decide +kernel, hrs1⟩) (.inr ⟨by decide +kernel, hrs2⟩) (.inl rfl) (.inl ⟨by decide +kernel, rfl⟩)
theorem is64 {rs1 rs2 : Int} (hrs1 : 0 ≤ rs1 ∧ rs1 < 32) (hrs2 : 0 ≤ rs2 ∧ rs2 < 32) : sallyportref3_Is0 64 0 rs1 rs2 0 0 = true :=
  is_of (by decide +kernel) (.inl rfl) (.inr ⟨by decide +kernel, hrs1⟩) (.inr ⟨by decide +kernel, hrs2⟩) (.inl rfl) (.inl ⟨by decide +kernel, rfl⟩)
theorem is65 {rs1 rs2 : Int} (hrs1 : 0 ≤ rs1 ∧ rs1 < 32) (hrs2 : 0 ≤ rs2 ∧ rs2 < 32) : sallyportref3_Is0 65 0 rs1 rs2 0 0 = true :=
  is_of (by decide +kernel) (.inl rfl) (.inr ⟨by decide +kernel, hrs1⟩) (.inr ⟨by decide +kernel, hrs2⟩) (.inl rfl) (.inl ⟨by decide +kernel, rfl⟩)
theorem is66 {rd rs1 : Int} (hrd : 0 ≤ rd ∧ rd < 32) (hrs1 : 0 ≤ rs1 ∧ rs1 < 32) : sallyportref3_Is0 66 rd rs1 0 0 0 = true :=
  is_of (by decide +kernel) (.inr ⟨by decide +kernel, hrd⟩) (.inr ⟨by decide +kernel, hrs1⟩) (.inl rfl) (.inl rfl) (.inl ⟨by decide +kernel, rfl⟩)
theorem is67 {rd rs1 : Int} (hrd : 0 ≤ rd ∧ rd < 32) (hrs1 : 0 ≤ rs1 ∧ rs1 < 32) : sallyportref3_Is0 67 rd rs1 0 0 0 = true :=
  is_of (by decide +kernel) (.inr ⟨by decide +kernel, hrd⟩) (.inr ⟨by decide +kernel, hrs1⟩) (.inl rfl) (.inl rfl) (.inl ⟨by decide +kernel, rfl⟩)
theorem is68 {rd rs1 : Int} (hrd : 0 ≤ rd ∧ rd < 32) (hrs1 : 0 ≤ rs1 ∧ rs1 < 32) : sallyportref3_Is0 68 rd rs1 0 0 0 = true :=
  is_of (by decide +kernel) (.inr ⟨by decide +kernel, hrd⟩) (.inr ⟨by decide +kernel, hrs1⟩) (.inl rfl) (.inl rfl) (.inl ⟨by decide +kernel, rfl⟩)
theorem is69 {rs1 rs2 : Int} (hrs1 : 0 ≤ rs1 ∧ rs1 < 32) (hrs2 : 0 ≤ rs2 ∧ rs2 < 32) : sallyportref3_Is0 69 0 rs1 rs2 0 0 = true :=
  is_of (by decide +kernel) (.inl rfl) (.inr ⟨by decide +kernel, hrs1⟩) (.inr ⟨by decide +kernel, hrs2⟩) (.inl rfl) (.inl ⟨by decide +kernel, rfl⟩)

/-- An operation whose word this is, read from it by the program and by the document. -/
structure HitT (w op rd rs1 rs2 imm csr : Int) : Prop where
  is : sallyportref3_Is0 op rd rs1 rs2 imm csr = true
  enc : sallyportref3_Encode0 op rd rs1 rs2 imm csr = w
  ins : InsT w op rd rs1 rs2 imm csr
end Go.Proofs.YtngaeiceicgalaaDoor.PV

set_option linter.unusedVariables false
set_option linter.unusedSimpArgs false
namespace Go.Proofs.YtngaeiceicgalaaDoor.PV
open Go Go.Ev

theorem hit1 {w : Int} (hW : W32 w) (hq : w % 128 = 55) : HitT w 1 (w / 128 % 32) (0) (0) (if w / 4096 < 524288 then w / 4096 * 4096 else w / 4096 * 4096 - 4294967296) (0) := by
  have hw := hW
  unfold W32 at hw
  have his : sallyportref3_Is0 1 (w / 128 % 32) (0) (0) (if w / 4096 < 524288 then w / 4096 * 4096 else w / 4096 * 4096 - 4294967296) (0) = true := is1 ⟨by omega, by omega⟩ ⟨by split <;> omega, by split <;> omega⟩ (by split <;> omega)
  refine ⟨his, ?_, ins1 hW hq⟩
  rw [(enc1 his).1]
  split <;> omega
theorem hit2 {w : Int} (hW : W32 w) (hq : w % 128 = 23) : HitT w 2 (w / 128 % 32) (0) (0) (if w / 4096 < 524288 then w / 4096 * 4096 else w / 4096 * 4096 - 4294967296) (0) := by
  have hw := hW
  unfold W32 at hw
  have his : sallyportref3_Is0 2 (w / 128 % 32) (0) (0) (if w / 4096 < 524288 then w / 4096 * 4096 else w / 4096 * 4096 - 4294967296) (0) = true := is2 ⟨by omega, by omega⟩ ⟨by split <;> omega, by split <;> omega⟩ (by split <;> omega)
  refine ⟨his, ?_, ins2 hW hq⟩
  rw [(enc2 his).1]
  split <;> omega
theorem hit3 {w : Int} (hW : W32 w) (hq : w % 128 = 111) : HitT w 3 (w / 128 % 32) (0) (0) (w / 4096 % 256 * 4096 + w / 1048576 % 2 * 2048 + w / 2097152 % 1024 * 2 - w / 2147483648 * 1048576) (0) := by
  have hw := hW
  unfold W32 at hw
  have his : sallyportref3_Is0 3 (w / 128 % 32) (0) (0) (w / 4096 % 256 * 4096 + w / 1048576 % 2 * 2048 + w / 2097152 % 1024 * 2 - w / 2147483648 * 1048576) (0) = true := is3 ⟨by omega, by omega⟩ ⟨by omega, by omega⟩ (by omega)
  refine ⟨his, ?_, ins3 hW hq⟩
  rw [(enc3 his).1]
  obtain ⟨a, ea⟩ : ∃ p, w / 2147483648 = p := ⟨_, rfl⟩
  obtain ⟨b, eb⟩ : ∃ p, w / 4096 % 256 = p := ⟨_, rfl⟩
  obtain ⟨c, ec⟩ : ∃ p, w / 1048576 % 2 = p := ⟨_, rfl⟩
  obtain ⟨d, ed⟩ : ∃ p, w / 2097152 % 1024 = p := ⟨_, rfl⟩
  rw [ea, eb, ec, ed]
  have ha : 0 ≤ a ∧ a < 2 := by omega
  have hb : 0 ≤ b ∧ b < 256 := by omega
  have hc : 0 ≤ c ∧ c < 2 := by omega
  have hd : 0 ≤ d ∧ d < 1024 := by omega
  obtain ⟨m, em⟩ : ∃ m, (b * 4096 + c * 2048 + d * 2 - a * 1048576) % 4294967296 = m := ⟨_, rfl⟩
  rw [em]
  have em' : m = b * 4096 + c * 2048 + d * 2 + a * 4293918720 := by clear ea eb ec ed his hw hq; omega
  clear em
  have q1 : m / 1048576 % 2 = a := by clear ea eb ec ed his hw hq; omega
  have q2 : m / 4096 % 256 = b := by clear ea eb ec ed his hw hq; omega
  have q3 : m / 2048 % 2 = c := by clear ea eb ec ed his hw hq; omega
  have q4 : m / 2 % 1024 = d := by clear ea eb ec ed his hw hq; omega
  rw [q1, q2, q3, q4]
  clear em' q1 q2 q3 q4 his
  omega
theorem hit4 {w : Int} (hW : W32 w) (hq : w % 128 = 103) (h3 : w / 4096 % 8 = 0) : HitT w 4 (w / 128 % 32) (w / 32768 % 32) (0) (if w / 1048576 < 2048 then w / 1048576 else w / 1048576 - 4096) (0) := by
  have hw := hW
  unfold W32 at hw
  have his : sallyportref3_Is0 4 (w / 128 % 32) (w / 32768 % 32) (0) (if w / 1048576 < 2048 then w / 1048576 else w / 1048576 - 4096) (0) = true := is4 ⟨by omega, by omega⟩ ⟨by omega, by omega⟩ ⟨by split <;> omega, by split <;> omega⟩ 
  refine ⟨his, ?_, ins4 hW hq h3⟩
  rw [(enc4 his).1]
  split <;> omega
theorem hit5 {w : Int} (hW : W32 w) (hq : w % 128 = 99) (h3 : w / 4096 % 8 = 0) : HitT w 5 (0) (w / 32768 % 32) (w / 1048576 % 32) (w / 128 % 2 * 2048 + w / 33554432 % 64 * 32 + w / 256 % 16 * 2 - w / 2147483648 * 4096) (0) := by
  have hw := hW
  unfold W32 at hw
  have his : sallyportref3_Is0 5 (0) (w / 32768 % 32) (w / 1048576 % 32) (w / 128 % 2 * 2048 + w / 33554432 % 64 * 32 + w / 256 % 16 * 2 - w / 2147483648 * 4096) (0) = true := is5 ⟨by omega, by omega⟩ ⟨by omega, by omega⟩ ⟨by omega, by omega⟩ (by omega)
  refine ⟨his, ?_, ins5 hW hq h3⟩
  rw [(enc5 his).1]
  obtain ⟨a, ea⟩ : ∃ p, w / 2147483648 = p := ⟨_, rfl⟩
  obtain ⟨b, eb⟩ : ∃ p, w / 128 % 2 = p := ⟨_, rfl⟩
  obtain ⟨c, ec⟩ : ∃ p, w / 33554432 % 64 = p := ⟨_, rfl⟩
  obtain ⟨d, ed⟩ : ∃ p, w / 256 % 16 = p := ⟨_, rfl⟩
  rw [ea, eb, ec, ed]
  have ha : 0 ≤ a ∧ a < 2 := by omega
  have hb : 0 ≤ b ∧ b < 2 := by omega
  have hc : 0 ≤ c ∧ c < 64 := by omega
  have hd : 0 ≤ d ∧ d < 16 := by omega
  obtain ⟨m, em⟩ : ∃ m, (b * 2048 + c * 32 + d * 2 - a * 4096) % 4294967296 = m := ⟨_, rfl⟩
  rw [em]
  have em' : m = b * 2048 + c * 32 + d * 2 + a * 4294963200 := by clear ea eb ec ed his hw hq h3; omega
  clear em
  have q1 : m / 4096 % 2 = a := by clear ea eb ec ed his hw hq h3; omega
  have q2 : m / 2048 % 2 = b := by clear ea eb ec ed his hw hq h3; omega
  have q3 : m / 32 % 64 = c := by clear ea eb ec ed his hw hq h3; omega
  have q4 : m / 2 % 16 = d := by clear ea eb ec ed his hw hq h3; omega
  rw [q1, q2, q3, q4]
  clear em' q1 q2 q3 q4 his
  omega
theorem hit6 {w : Int} (hW : W32 w) (hq : w % 128 = 99) (h3 : w / 4096 % 8 = 1) : HitT w 6 (0) (w / 32768 % 32) (w / 1048576 % 32) (w / 128 % 2 * 2048 + w / 33554432 % 64 * 32 + w / 256 % 16 * 2 - w / 2147483648 * 4096) (0) := by
  have hw := hW
  unfold W32 at hw
  have his : sallyportref3_Is0 6 (0) (w / 32768 % 32) (w / 1048576 % 32) (w / 128 % 2 * 2048 + w / 33554432 % 64 * 32 + w / 256 % 16 * 2 - w / 2147483648 * 4096) (0) = true := is6 ⟨by omega, by omega⟩ ⟨by omega, by omega⟩ ⟨by omega, by omega⟩ (by omega)
  refine ⟨his, ?_, ins6 hW hq h3⟩
  rw [(enc6 his).1]
  obtain ⟨a, ea⟩ : ∃ p, w / 2147483648 = p := ⟨_, rfl⟩
  obtain ⟨b, eb⟩ : ∃ p, w / 128 % 2 = p := ⟨_, rfl⟩
  obtain ⟨c, ec⟩ : ∃ p, w / 33554432 % 64 = p := ⟨_, rfl⟩
  obtain ⟨d, ed⟩ : ∃ p, w / 256 % 16 = p := ⟨_, rfl⟩
  rw [ea, eb, ec, ed]
  have ha : 0 ≤ a ∧ a < 2 := by omega
  have hb : 0 ≤ b ∧ b < 2 := by omega
  have hc : 0 ≤ c ∧ c < 64 := by omega
  have hd : 0 ≤ d ∧ d < 16 := by omega
  obtain ⟨m, em⟩ : ∃ m, (b * 2048 + c * 32 + d * 2 - a * 4096) % 4294967296 = m := ⟨_, rfl⟩
  rw [em]
  have em' : m = b * 2048 + c * 32 + d * 2 + a * 4294963200 := by clear ea eb ec ed his hw hq h3; omega
  clear em
  have q1 : m / 4096 % 2 = a := by clear ea eb ec ed his hw hq h3; omega
  have q2 : m / 2048 % 2 = b := by clear ea eb ec ed his hw hq h3; omega
  have q3 : m / 32 % 64 = c := by clear ea eb ec ed his hw hq h3; omega
  have q4 : m / 2 % 16 = d := by clear ea eb ec ed his hw hq h3; omega
  rw [q1, q2, q3, q4]
  clear em' q1 q2 q3 q4 his
  omega
theorem hit7 {w : Int} (hW : W32 w) (hq : w % 128 = 99) (h3 : w / 4096 % 8 = 4) : HitT w 7 (0) (w / 32768 % 32) (w / 1048576 % 32) (w / 128 % 2 * 2048 + w / 33554432 % 64 * 32 + w / 256 % 16 * 2 - w / 2147483648 * 4096) (0) := by
  have hw := hW
  unfold W32 at hw
  have his : sallyportref3_Is0 7 (0) (w / 32768 % 32) (w / 1048576 % 32) (w / 128 % 2 * 2048 + w / 33554432 % 64 * 32 + w / 256 % 16 * 2 - w / 2147483648 * 4096) (0) = true := is7 ⟨by omega, by omega⟩ ⟨by omega, by omega⟩ ⟨by omega, by omega⟩ (by omega)
  refine ⟨his, ?_, ins7 hW hq h3⟩
  rw [(enc7 his).1]
  obtain ⟨a, ea⟩ : ∃ p, w / 2147483648 = p := ⟨_, rfl⟩
  obtain ⟨b, eb⟩ : ∃ p, w / 128 % 2 = p := ⟨_, rfl⟩
  obtain ⟨c, ec⟩ : ∃ p, w / 33554432 % 64 = p := ⟨_, rfl⟩
  obtain ⟨d, ed⟩ : ∃ p, w / 256 % 16 = p := ⟨_, rfl⟩
  rw [ea, eb, ec, ed]
  have ha : 0 ≤ a ∧ a < 2 := by omega
  have hb : 0 ≤ b ∧ b < 2 := by omega
  have hc : 0 ≤ c ∧ c < 64 := by omega
  have hd : 0 ≤ d ∧ d < 16 := by omega
  obtain ⟨m, em⟩ : ∃ m, (b * 2048 + c * 32 + d * 2 - a * 4096) % 4294967296 = m := ⟨_, rfl⟩
  rw [em]
  have em' : m = b * 2048 + c * 32 + d * 2 + a * 4294963200 := by clear ea eb ec ed his hw hq h3; omega
  clear em
  have q1 : m / 4096 % 2 = a := by clear ea eb ec ed his hw hq h3; omega
  have q2 : m / 2048 % 2 = b := by clear ea eb ec ed his hw hq h3; omega
  have q3 : m / 32 % 64 = c := by clear ea eb ec ed his hw hq h3; omega
  have q4 : m / 2 % 16 = d := by clear ea eb ec ed his hw hq h3; omega
  rw [q1, q2, q3, q4]
  clear em' q1 q2 q3 q4 his
  omega
theorem hit8 {w : Int} (hW : W32 w) (hq : w % 128 = 99) (h3 : w / 4096 % 8 = 5) : HitT w 8 (0) (w / 32768 % 32) (w / 1048576 % 32) (w / 128 % 2 * 2048 + w / 33554432 % 64 * 32 + w / 256 % 16 * 2 - w / 2147483648 * 4096) (0) := by
  have hw := hW
  unfold W32 at hw
  have his : sallyportref3_Is0 8 (0) (w / 32768 % 32) (w / 1048576 % 32) (w / 128 % 2 * 2048 + w / 33554432 % 64 * 32 + w / 256 % 16 * 2 - w / 2147483648 * 4096) (0) = true := is8 ⟨by omega, by omega⟩ ⟨by omega, by omega⟩ ⟨by omega, by omega⟩ (by omega)
  refine ⟨his, ?_, ins8 hW hq h3⟩
  rw [(enc8 his).1]
  obtain ⟨a, ea⟩ : ∃ p, w / 2147483648 = p := ⟨_, rfl⟩
  obtain ⟨b, eb⟩ : ∃ p, w / 128 % 2 = p := ⟨_, rfl⟩
  obtain ⟨c, ec⟩ : ∃ p, w / 33554432 % 64 = p := ⟨_, rfl⟩
  obtain ⟨d, ed⟩ : ∃ p, w / 256 % 16 = p := ⟨_, rfl⟩
  rw [ea, eb, ec, ed]
  have ha : 0 ≤ a ∧ a < 2 := by omega
  have hb : 0 ≤ b ∧ b < 2 := by omega
  have hc : 0 ≤ c ∧ c < 64 := by omega
  have hd : 0 ≤ d ∧ d < 16 := by omega
  obtain ⟨m, em⟩ : ∃ m, (b * 2048 + c * 32 + d * 2 - a * 4096) % 4294967296 = m := ⟨_, rfl⟩
  rw [em]
  have em' : m = b * 2048 + c * 32 + d * 2 + a * 4294963200 := by clear ea eb ec ed his hw hq h3; omega
  clear em
  have q1 : m / 4096 % 2 = a := by clear ea eb ec ed his hw hq h3; omega
  have q2 : m / 2048 % 2 = b := by clear ea eb ec ed his hw hq h3; omega
  have q3 : m / 32 % 64 = c := by clear ea eb ec ed his hw hq h3; omega
  have q4 : m / 2 % 16 = d := by clear ea eb ec ed his hw hq h3; omega
  rw [q1, q2, q3, q4]
  clear em' q1 q2 q3 q4 his
  omega
theorem hit9 {w : Int} (hW : W32 w) (hq : w % 128 = 99) (h3 : w / 4096 % 8 = 6) : HitT w 9 (0) (w / 32768 % 32) (w / 1048576 % 32) (w / 128 % 2 * 2048 + w / 33554432 % 64 * 32 + w / 256 % 16 * 2 - w / 2147483648 * 4096) (0) := by
  have hw := hW
  unfold W32 at hw
  have his : sallyportref3_Is0 9 (0) (w / 32768 % 32) (w / 1048576 % 32) (w / 128 % 2 * 2048 + w / 33554432 % 64 * 32 + w / 256 % 16 * 2 - w / 2147483648 * 4096) (0) = true := is9 ⟨by omega, by omega⟩ ⟨by omega, by omega⟩ ⟨by omega, by omega⟩ (by omega)
  refine ⟨his, ?_, ins9 hW hq h3⟩
  rw [(enc9 his).1]
  obtain ⟨a, ea⟩ : ∃ p, w / 2147483648 = p := ⟨_, rfl⟩
  obtain ⟨b, eb⟩ : ∃ p, w / 128 % 2 = p := ⟨_, rfl⟩
  obtain ⟨c, ec⟩ : ∃ p, w / 33554432 % 64 = p := ⟨_, rfl⟩
  obtain ⟨d, ed⟩ : ∃ p, w / 256 % 16 = p := ⟨_, rfl⟩
  rw [ea, eb, ec, ed]
  have ha : 0 ≤ a ∧ a < 2 := by omega
  have hb : 0 ≤ b ∧ b < 2 := by omega
  have hc : 0 ≤ c ∧ c < 64 := by omega
  have hd : 0 ≤ d ∧ d < 16 := by omega
  obtain ⟨m, em⟩ : ∃ m, (b * 2048 + c * 32 + d * 2 - a * 4096) % 4294967296 = m := ⟨_, rfl⟩
  rw [em]
  have em' : m = b * 2048 + c * 32 + d * 2 + a * 4294963200 := by clear ea eb ec ed his hw hq h3; omega
  clear em
  have q1 : m / 4096 % 2 = a := by clear ea eb ec ed his hw hq h3; omega
  have q2 : m / 2048 % 2 = b := by clear ea eb ec ed his hw hq h3; omega
  have q3 : m / 32 % 64 = c := by clear ea eb ec ed his hw hq h3; omega
  have q4 : m / 2 % 16 = d := by clear ea eb ec ed his hw hq h3; omega
  rw [q1, q2, q3, q4]
  clear em' q1 q2 q3 q4 his
  omega
theorem hit10 {w : Int} (hW : W32 w) (hq : w % 128 = 99) (h3 : w / 4096 % 8 = 7) : HitT w 10 (0) (w / 32768 % 32) (w / 1048576 % 32) (w / 128 % 2 * 2048 + w / 33554432 % 64 * 32 + w / 256 % 16 * 2 - w / 2147483648 * 4096) (0) := by
  have hw := hW
  unfold W32 at hw
  have his : sallyportref3_Is0 10 (0) (w / 32768 % 32) (w / 1048576 % 32) (w / 128 % 2 * 2048 + w / 33554432 % 64 * 32 + w / 256 % 16 * 2 - w / 2147483648 * 4096) (0) = true := is10 ⟨by omega, by omega⟩ ⟨by omega, by omega⟩ ⟨by omega, by omega⟩ (by omega)
  refine ⟨his, ?_, ins10 hW hq h3⟩
  rw [(enc10 his).1]
  obtain ⟨a, ea⟩ : ∃ p, w / 2147483648 = p := ⟨_, rfl⟩
  obtain ⟨b, eb⟩ : ∃ p, w / 128 % 2 = p := ⟨_, rfl⟩
  obtain ⟨c, ec⟩ : ∃ p, w / 33554432 % 64 = p := ⟨_, rfl⟩
  obtain ⟨d, ed⟩ : ∃ p, w / 256 % 16 = p := ⟨_, rfl⟩
  rw [ea, eb, ec, ed]
  have ha : 0 ≤ a ∧ a < 2 := by omega
  have hb : 0 ≤ b ∧ b < 2 := by omega
  have hc : 0 ≤ c ∧ c < 64 := by omega
  have hd : 0 ≤ d ∧ d < 16 := by omega
  obtain ⟨m, em⟩ : ∃ m, (b * 2048 + c * 32 + d * 2 - a * 4096) % 4294967296 = m := ⟨_, rfl⟩
  rw [em]
  have em' : m = b * 2048 + c * 32 + d * 2 + a * 4294963200 := by clear ea eb ec ed his hw hq h3; omega
  clear em
  have q1 : m / 4096 % 2 = a := by clear ea eb ec ed his hw hq h3; omega
  have q2 : m / 2048 % 2 = b := by clear ea eb ec ed his hw hq h3; omega
  have q3 : m / 32 % 64 = c := by clear ea eb ec ed his hw hq h3; omega
  have q4 : m / 2 % 16 = d := by clear ea eb ec ed his hw hq h3; omega
  rw [q1, q2, q3, q4]
  clear em' q1 q2 q3 q4 his
  omega
theorem hit11 {w : Int} (hW : W32 w) (hq : w % 128 = 3) (h3 : w / 4096 % 8 = 0) : HitT w 11 (w / 128 % 32) (w / 32768 % 32) (0) (if w / 1048576 < 2048 then w / 1048576 else w / 1048576 - 4096) (0) := by
  have hw := hW
  unfold W32 at hw
  have his : sallyportref3_Is0 11 (w / 128 % 32) (w / 32768 % 32) (0) (if w / 1048576 < 2048 then w / 1048576 else w / 1048576 - 4096) (0) = true := is11 ⟨by omega, by omega⟩ ⟨by omega, by omega⟩ ⟨by split <;> omega, by split <;> omega⟩ 
  refine ⟨his, ?_, ins11 hW hq h3⟩
  rw [(enc11 his).1]
  split <;> omega
theorem hit12 {w : Int} (hW : W32 w) (hq : w % 128 = 3) (h3 : w / 4096 % 8 = 1) : HitT w 12 (w / 128 % 32) (w / 32768 % 32) (0) (if w / 1048576 < 2048 then w / 1048576 else w / 1048576 - 4096) (0) := by
  have hw := hW
  unfold W32 at hw
  have his : sallyportref3_Is0 12 (w / 128 % 32) (w / 32768 % 32) (0) (if w / 1048576 < 2048 then w / 1048576 else w / 1048576 - 4096) (0) = true := is12 ⟨by omega, by omega⟩ ⟨by omega, by omega⟩ ⟨by split <;> omega, by split <;> omega⟩ 
  refine ⟨his, ?_, ins12 hW hq h3⟩
  rw [(enc12 his).1]
  split <;> omega
theorem hit13 {w : Int} (hW : W32 w) (hq : w % 128 = 3) (h3 : w / 4096 % 8 = 2) : HitT w 13 (w / 128 % 32) (w / 32768 % 32) (0) (if w / 1048576 < 2048 then w / 1048576 else w / 1048576 - 4096) (0) := by
  have hw := hW
  unfold W32 at hw
  have his : sallyportref3_Is0 13 (w / 128 % 32) (w / 32768 % 32) (0) (if w / 1048576 < 2048 then w / 1048576 else w / 1048576 - 4096) (0) = true := is13 ⟨by omega, by omega⟩ ⟨by omega, by omega⟩ ⟨by split <;> omega, by split <;> omega⟩ 
  refine ⟨his, ?_, ins13 hW hq h3⟩
  rw [(enc13 his).1]
  split <;> omega
theorem hit14 {w : Int} (hW : W32 w) (hq : w % 128 = 3) (h3 : w / 4096 % 8 = 3) : HitT w 14 (w / 128 % 32) (w / 32768 % 32) (0) (if w / 1048576 < 2048 then w / 1048576 else w / 1048576 - 4096) (0) := by
  have hw := hW
  unfold W32 at hw
  have his : sallyportref3_Is0 14 (w / 128 % 32) (w / 32768 % 32) (0) (if w / 1048576 < 2048 then w / 1048576 else w / 1048576 - 4096) (0) = true := is14 ⟨by omega, by omega⟩ ⟨by omega, by omega⟩ ⟨by split <;> omega, by split <;> omega⟩ 
  refine ⟨his, ?_, ins14 hW hq h3⟩
  rw [(enc14 his).1]
  split <;> omega
theorem hit15 {w : Int} (hW : W32 w) (hq : w % 128 = 3) (h3 : w / 4096 % 8 = 4) : HitT w 15 (w / 128 % 32) (w / 32768 % 32) (0) (if w / 1048576 < 2048 then w / 1048576 else w / 1048576 - 4096) (0) := by
  have hw := hW
  unfold W32 at hw
  have his : sallyportref3_Is0 15 (w / 128 % 32) (w / 32768 % 32) (0) (if w / 1048576 < 2048 then w / 1048576 else w / 1048576 - 4096) (0) = true := is15 ⟨by omega, by omega⟩ ⟨by omega, by omega⟩ ⟨by split <;> omega, by split <;> omega⟩ 
  refine ⟨his, ?_, ins15 hW hq h3⟩
  rw [(enc15 his).1]
  split <;> omega
theorem hit16 {w : Int} (hW : W32 w) (hq : w % 128 = 3) (h3 : w / 4096 % 8 = 5) : HitT w 16 (w / 128 % 32) (w / 32768 % 32) (0) (if w / 1048576 < 2048 then w / 1048576 else w / 1048576 - 4096) (0) := by
  have hw := hW
  unfold W32 at hw
  have his : sallyportref3_Is0 16 (w / 128 % 32) (w / 32768 % 32) (0) (if w / 1048576 < 2048 then w / 1048576 else w / 1048576 - 4096) (0) = true := is16 ⟨by omega, by omega⟩ ⟨by omega, by omega⟩ ⟨by split <;> omega, by split <;> omega⟩ 
  refine ⟨his, ?_, ins16 hW hq h3⟩
  rw [(enc16 his).1]
  split <;> omega
theorem hit17 {w : Int} (hW : W32 w) (hq : w % 128 = 3) (h3 : w / 4096 % 8 = 6) : HitT w 17 (w / 128 % 32) (w / 32768 % 32) (0) (if w / 1048576 < 2048 then w / 1048576 else w / 1048576 - 4096) (0) := by
  have hw := hW
  unfold W32 at hw
  have his : sallyportref3_Is0 17 (w / 128 % 32) (w / 32768 % 32) (0) (if w / 1048576 < 2048 then w / 1048576 else w / 1048576 - 4096) (0) = true := is17 ⟨by omega, by omega⟩ ⟨by omega, by omega⟩ ⟨by split <;> omega, by split <;> omega⟩ 
  refine ⟨his, ?_, ins17 hW hq h3⟩
  rw [(enc17 his).1]
  split <;> omega
theorem hit18 {w : Int} (hW : W32 w) (hq : w % 128 = 35) (h3 : w / 4096 % 8 = 0) : HitT w 18 (0) (w / 32768 % 32) (w / 1048576 % 32) (if w / 33554432 < 64 then w / 33554432 * 32 + w / 128 % 32 else w / 33554432 * 32 + w / 128 % 32 - 4096) (0) := by
  have hw := hW
  unfold W32 at hw
  have his : sallyportref3_Is0 18 (0) (w / 32768 % 32) (w / 1048576 % 32) (if w / 33554432 < 64 then w / 33554432 * 32 + w / 128 % 32 else w / 33554432 * 32 + w / 128 % 32 - 4096) (0) = true := is18 ⟨by omega, by omega⟩ ⟨by omega, by omega⟩ ⟨by split <;> omega, by split <;> omega⟩ 
  refine ⟨his, ?_, ins18 hW hq h3⟩
  rw [(enc18 his).1]
  obtain ⟨t, et⟩ : ∃ p, w / 33554432 = p := ⟨_, rfl⟩
  obtain ⟨d, ed⟩ : ∃ p, w / 128 % 32 = p := ⟨_, rfl⟩
  rw [et, ed]
  have ht : 0 ≤ t ∧ t < 128 := by omega
  have hd : 0 ≤ d ∧ d < 32 := by omega
  have q1 : (if t < 64 then t * 32 + d else t * 32 + d - 4096) % 4294967296 / 32 % 128 = t := by clear et ed his hw hq h3; split <;> omega
  have q2 : (if t < 64 then t * 32 + d else t * 32 + d - 4096) % 4294967296 % 32 = d := by clear et ed his hw hq h3; split <;> omega
  rw [q1, q2]
  clear q1 q2 his
  omega
theorem hit19 {w : Int} (hW : W32 w) (hq : w % 128 = 35) (h3 : w / 4096 % 8 = 1) : HitT w 19 (0) (w / 32768 % 32) (w / 1048576 % 32) (if w / 33554432 < 64 then w / 33554432 * 32 + w / 128 % 32 else w / 33554432 * 32 + w / 128 % 32 - 4096) (0) := by
  have hw := hW
  unfold W32 at hw
  have his : sallyportref3_Is0 19 (0) (w / 32768 % 32) (w / 1048576 % 32) (if w / 33554432 < 64 then w / 33554432 * 32 + w / 128 % 32 else w / 33554432 * 32 + w / 128 % 32 - 4096) (0) = true := is19 ⟨by omega, by omega⟩ ⟨by omega, by omega⟩ ⟨by split <;> omega, by split <;> omega⟩ 
  refine ⟨his, ?_, ins19 hW hq h3⟩
  rw [(enc19 his).1]
  obtain ⟨t, et⟩ : ∃ p, w / 33554432 = p := ⟨_, rfl⟩
  obtain ⟨d, ed⟩ : ∃ p, w / 128 % 32 = p := ⟨_, rfl⟩
  rw [et, ed]
  have ht : 0 ≤ t ∧ t < 128 := by omega
  have hd : 0 ≤ d ∧ d < 32 := by omega
  have q1 : (if t < 64 then t * 32 + d else t * 32 + d - 4096) % 4294967296 / 32 % 128 = t := by clear et ed his hw hq h3; split <;> omega
  have q2 : (if t < 64 then t * 32 + d else t * 32 + d - 4096) % 4294967296 % 32 = d := by clear et ed his hw hq h3; split <;> omega
  rw [q1, q2]
  clear q1 q2 his
  omega
theorem hit20 {w : Int} (hW : W32 w) (hq : w % 128 = 35) (h3 : w / 4096 % 8 = 2) : HitT w 20 (0) (w / 32768 % 32) (w / 1048576 % 32) (if w / 33554432 < 64 then w / 33554432 * 32 + w / 128 % 32 else w / 33554432 * 32 + w / 128 % 32 - 4096) (0) := by
  have hw := hW
  unfold W32 at hw
  have his : sallyportref3_Is0 20 (0) (w / 32768 % 32) (w / 1048576 % 32) (if w / 33554432 < 64 then w / 33554432 * 32 + w / 128 % 32 else w / 33554432 * 32 + w / 128 % 32 - 4096) (0) = true := is20 ⟨by omega, by omega⟩ ⟨by omega, by omega⟩ ⟨by split <;> omega, by split <;> omega⟩ 
  refine ⟨his, ?_, ins20 hW hq h3⟩
  rw [(enc20 his).1]
  obtain ⟨t, et⟩ : ∃ p, w / 33554432 = p := ⟨_, rfl⟩
  obtain ⟨d, ed⟩ : ∃ p, w / 128 % 32 = p := ⟨_, rfl⟩
  rw [et, ed]
  have ht : 0 ≤ t ∧ t < 128 := by omega
  have hd : 0 ≤ d ∧ d < 32 := by omega
  have q1 : (if t < 64 then t * 32 + d else t * 32 + d - 4096) % 4294967296 / 32 % 128 = t := by clear et ed his hw hq h3; split <;> omega
  have q2 : (if t < 64 then t * 32 + d else t * 32 + d - 4096) % 4294967296 % 32 = d := by clear et ed his hw hq h3; split <;> omega
  rw [q1, q2]
  clear q1 q2 his
  omega
theorem hit21 {w : Int} (hW : W32 w) (hq : w % 128 = 35) (h3 : w / 4096 % 8 = 3) : HitT w 21 (0) (w / 32768 % 32) (w / 1048576 % 32) (if w / 33554432 < 64 then w / 33554432 * 32 + w / 128 % 32 else w / 33554432 * 32 + w / 128 % 32 - 4096) (0) := by
  have hw := hW
  unfold W32 at hw
  have his : sallyportref3_Is0 21 (0) (w / 32768 % 32) (w / 1048576 % 32) (if w / 33554432 < 64 then w / 33554432 * 32 + w / 128 % 32 else w / 33554432 * 32 + w / 128 % 32 - 4096) (0) = true := is21 ⟨by omega, by omega⟩ ⟨by omega, by omega⟩ ⟨by split <;> omega, by split <;> omega⟩ 
  refine ⟨his, ?_, ins21 hW hq h3⟩
  rw [(enc21 his).1]
  obtain ⟨t, et⟩ : ∃ p, w / 33554432 = p := ⟨_, rfl⟩
  obtain ⟨d, ed⟩ : ∃ p, w / 128 % 32 = p := ⟨_, rfl⟩
  rw [et, ed]
  have ht : 0 ≤ t ∧ t < 128 := by omega
  have hd : 0 ≤ d ∧ d < 32 := by omega
  have q1 : (if t < 64 then t * 32 + d else t * 32 + d - 4096) % 4294967296 / 32 % 128 = t := by clear et ed his hw hq h3; split <;> omega
  have q2 : (if t < 64 then t * 32 + d else t * 32 + d - 4096) % 4294967296 % 32 = d := by clear et ed his hw hq h3; split <;> omega
  rw [q1, q2]
  clear q1 q2 his
  omega
theorem hit22 {w : Int} (hW : W32 w) (hq : w % 128 = 19) (h3 : w / 4096 % 8 = 0) : HitT w 22 (w / 128 % 32) (w / 32768 % 32) (0) (if w / 1048576 < 2048 then w / 1048576 else w / 1048576 - 4096) (0) := by
  have hw := hW
  unfold W32 at hw
  have his : sallyportref3_Is0 22 (w / 128 % 32) (w / 32768 % 32) (0) (if w / 1048576 < 2048 then w / 1048576 else w / 1048576 - 4096) (0) = true := is22 ⟨by omega, by omega⟩ ⟨by omega, by omega⟩ ⟨by split <;> omega, by split <;> omega⟩ 
  refine ⟨his, ?_, ins22 hW hq h3⟩
  rw [(enc22 his).1]
  split <;> omega
theorem hit23 {w : Int} (hW : W32 w) (hq : w % 128 = 19) (h3 : w / 4096 % 8 = 2) : HitT w 23 (w / 128 % 32) (w / 32768 % 32) (0) (if w / 1048576 < 2048 then w / 1048576 else w / 1048576 - 4096) (0) := by
  have hw := hW
  unfold W32 at hw
  have his : sallyportref3_Is0 23 (w / 128 % 32) (w / 32768 % 32) (0) (if w / 1048576 < 2048 then w / 1048576 else w / 1048576 - 4096) (0) = true := is23 ⟨by omega, by omega⟩ ⟨by omega, by omega⟩ ⟨by split <;> omega, by split <;> omega⟩ 
  refine ⟨his, ?_, ins23 hW hq h3⟩
  rw [(enc23 his).1]
  split <;> omega
theorem hit24 {w : Int} (hW : W32 w) (hq : w % 128 = 19) (h3 : w / 4096 % 8 = 3) : HitT w 24 (w / 128 % 32) (w / 32768 % 32) (0) (if w / 1048576 < 2048 then w / 1048576 else w / 1048576 - 4096) (0) := by
  have hw := hW
  unfold W32 at hw
  have his : sallyportref3_Is0 24 (w / 128 % 32) (w / 32768 % 32) (0) (if w / 1048576 < 2048 then w / 1048576 else w / 1048576 - 4096) (0) = true := is24 ⟨by omega, by omega⟩ ⟨by omega, by omega⟩ ⟨by split <;> omega, by split <;> omega⟩ 
  refine ⟨his, ?_, ins24 hW hq h3⟩
  rw [(enc24 his).1]
  split <;> omega
theorem hit25 {w : Int} (hW : W32 w) (hq : w % 128 = 19) (h3 : w / 4096 % 8 = 4) : HitT w 25 (w / 128 % 32) (w / 32768 % 32) (0) (if w / 1048576 < 2048 then w / 1048576 else w / 1048576 - 4096) (0) := by
  have hw := hW
  unfold W32 at hw
  have his : sallyportref3_Is0 25 (w / 128 % 32) (w / 32768 % 32) (0) (if w / 1048576 < 2048 then w / 1048576 else w / 1048576 - 4096) (0) = true := is25 ⟨by omega, by omega⟩ ⟨by omega, by omega⟩ ⟨by split <;> omega, by split <;> omega⟩ 
  refine ⟨his, ?_, ins25 hW hq h3⟩
  rw [(enc25 his).1]
  split <;> omega
theorem hit26 {w : Int} (hW : W32 w) (hq : w % 128 = 19) (h3 : w / 4096 % 8 = 6) : HitT w 26 (w / 128 % 32) (w / 32768 % 32) (0) (if w / 1048576 < 2048 then w / 1048576 else w / 1048576 - 4096) (0) := by
  have hw := hW
  unfold W32 at hw
  have his : sallyportref3_Is0 26 (w / 128 % 32) (w / 32768 % 32) (0) (if w / 1048576 < 2048 then w / 1048576 else w / 1048576 - 4096) (0) = true := is26 ⟨by omega, by omega⟩ ⟨by omega, by omega⟩ ⟨by split <;> omega, by split <;> omega⟩ 
  refine ⟨his, ?_, ins26 hW hq h3⟩
  rw [(enc26 his).1]
  split <;> omega
theorem hit27 {w : Int} (hW : W32 w) (hq : w % 128 = 19) (h3 : w / 4096 % 8 = 7) : HitT w 27 (w / 128 % 32) (w / 32768 % 32) (0) (if w / 1048576 < 2048 then w / 1048576 else w / 1048576 - 4096) (0) := by
  have hw := hW
  unfold W32 at hw
  have his : sallyportref3_Is0 27 (w / 128 % 32) (w / 32768 % 32) (0) (if w / 1048576 < 2048 then w / 1048576 else w / 1048576 - 4096) (0) = true := is27 ⟨by omega, by omega⟩ ⟨by omega, by omega⟩ ⟨by split <;> omega, by split <;> omega⟩ 
  refine ⟨his, ?_, ins27 hW hq h3⟩
  rw [(enc27 his).1]
  split <;> omega
theorem hit28 {w : Int} (hW : W32 w) (hq : w % 128 = 19) (h3 : w / 4096 % 8 = 1) (hb : w / 67108864 % 64 = 0) : HitT w 28 (w / 128 % 32) (w / 32768 % 32) (0) (w / 1048576 % 64) (0) := by
  have hw := hW
  unfold W32 at hw
  have his : sallyportref3_Is0 28 (w / 128 % 32) (w / 32768 % 32) (0) (w / 1048576 % 64) (0) = true := is28 ⟨by omega, by omega⟩ ⟨by omega, by omega⟩ ⟨by omega, by omega⟩ 
  refine ⟨his, ?_, ins28 hW hq h3 hb⟩
  rw [(enc28 his).1]
  omega
theorem hit29 {w : Int} (hW : W32 w) (hq : w % 128 = 19) (h3 : w / 4096 % 8 = 5) (hb : w / 67108864 % 64 = 0) : HitT w 29 (w / 128 % 32) (w / 32768 % 32) (0) (w / 1048576 % 64) (0) := by
  have hw := hW
  unfold W32 at hw
  have his : sallyportref3_Is0 29 (w / 128 % 32) (w / 32768 % 32) (0) (w / 1048576 % 64) (0) = true := is29 ⟨by omega, by omega⟩ ⟨by omega, by omega⟩ ⟨by omega, by omega⟩ 
  refine ⟨his, ?_, ins29 hW hq h3 hb⟩
  rw [(enc29 his).1]
  omega
theorem hit30 {w : Int} (hW : W32 w) (hq : w % 128 = 19) (h3 : w / 4096 % 8 = 5) (hb : w / 67108864 % 64 = 16) : HitT w 30 (w / 128 % 32) (w / 32768 % 32) (0) (w / 1048576 % 64) (0) := by
  have hw := hW
  unfold W32 at hw
  have his : sallyportref3_Is0 30 (w / 128 % 32) (w / 32768 % 32) (0) (w / 1048576 % 64) (0) = true := is30 ⟨by omega, by omega⟩ ⟨by omega, by omega⟩ ⟨by omega, by omega⟩ 
  refine ⟨his, ?_, ins30 hW hq h3 hb⟩
  rw [(enc30 his).1]
  omega
theorem hit31 {w : Int} (hW : W32 w) (hq : w % 128 = 27) (h3 : w / 4096 % 8 = 0) : HitT w 31 (w / 128 % 32) (w / 32768 % 32) (0) (if w / 1048576 < 2048 then w / 1048576 else w / 1048576 - 4096) (0) := by
  have hw := hW
  unfold W32 at hw
  have his : sallyportref3_Is0 31 (w / 128 % 32) (w / 32768 % 32) (0) (if w / 1048576 < 2048 then w / 1048576 else w / 1048576 - 4096) (0) = true := is31 ⟨by omega, by omega⟩ ⟨by omega, by omega⟩ ⟨by split <;> omega, by split <;> omega⟩ 
  refine ⟨his, ?_, ins31 hW hq h3⟩
  rw [(enc31 his).1]
  split <;> omega
theorem hit32 {w : Int} (hW : W32 w) (hq : w % 128 = 27) (h3 : w / 4096 % 8 = 1) (hb : w / 33554432 % 128 = 0) : HitT w 32 (w / 128 % 32) (w / 32768 % 32) (0) (w / 1048576 % 32) (0) := by
  have hw := hW
  unfold W32 at hw
  have his : sallyportref3_Is0 32 (w / 128 % 32) (w / 32768 % 32) (0) (w / 1048576 % 32) (0) = true := is32 ⟨by omega, by omega⟩ ⟨by omega, by omega⟩ ⟨by omega, by omega⟩ 
  refine ⟨his, ?_, ins32 hW hq h3 hb⟩
  rw [(enc32 his).1]
  omega
theorem hit33 {w : Int} (hW : W32 w) (hq : w % 128 = 27) (h3 : w / 4096 % 8 = 5) (hb : w / 33554432 % 128 = 0) : HitT w 33 (w / 128 % 32) (w / 32768 % 32) (0) (w / 1048576 % 32) (0) := by
  have hw := hW
  unfold W32 at hw
  have his : sallyportref3_Is0 33 (w / 128 % 32) (w / 32768 % 32) (0) (w / 1048576 % 32) (0) = true := is33 ⟨by omega, by omega⟩ ⟨by omega, by omega⟩ ⟨by omega, by omega⟩ 
  refine ⟨his, ?_, ins33 hW hq h3 hb⟩
  rw [(enc33 his).1]
  omega
theorem hit34 {w : Int} (hW : W32 w) (hq : w % 128 = 27) (h3 : w / 4096 % 8 = 5) (hb : w / 33554432 % 128 = 32) : HitT w 34 (w / 128 % 32) (w / 32768 % 32) (0) (w / 1048576 % 32) (0) := by
  have hw := hW
  unfold W32 at hw
  have his : sallyportref3_Is0 34 (w / 128 % 32) (w / 32768 % 32) (0) (w / 1048576 % 32) (0) = true := is34 ⟨by omega, by omega⟩ ⟨by omega, by omega⟩ ⟨by omega, by omega⟩ 
  refine ⟨his, ?_, ins34 hW hq h3 hb⟩
  rw [(enc34 his).1]
  omega
theorem hit35 {w : Int} (hW : W32 w) (hq : w % 128 = 51) (h3 : w / 4096 % 8 = 0) (h7 : w / 33554432 % 128 = 0) : HitT w 35 (w / 128 % 32) (w / 32768 % 32) (w / 1048576 % 32) (0) (0) := by
  have hw := hW
  unfold W32 at hw
  have his : sallyportref3_Is0 35 (w / 128 % 32) (w / 32768 % 32) (w / 1048576 % 32) (0) (0) = true := is35 ⟨by omega, by omega⟩ ⟨by omega, by omega⟩ ⟨by omega, by omega⟩ 
  refine ⟨his, ?_, ins35 hW hq h3 h7⟩
  rw [(enc35 his).1]
  omega
theorem hit36 {w : Int} (hW : W32 w) (hq : w % 128 = 51) (h3 : w / 4096 % 8 = 0) (h7 : w / 33554432 % 128 = 32) : HitT w 36 (w / 128 % 32) (w / 32768 % 32) (w / 1048576 % 32) (0) (0) := by
  have hw := hW
  unfold W32 at hw
  have his : sallyportref3_Is0 36 (w / 128 % 32) (w / 32768 % 32) (w / 1048576 % 32) (0) (0) = true := is36 ⟨by omega, by omega⟩ ⟨by omega, by omega⟩ ⟨by omega, by omega⟩ 
  refine ⟨his, ?_, ins36 hW hq h3 h7⟩
  rw [(enc36 his).1]
  omega
theorem hit37 {w : Int} (hW : W32 w) (hq : w % 128 = 51) (h3 : w / 4096 % 8 = 1) (h7 : w / 33554432 % 128 = 0) : HitT w 37 (w / 128 % 32) (w / 32768 % 32) (w / 1048576 % 32) (0) (0) := by
  have hw := hW
  unfold W32 at hw
  have his : sallyportref3_Is0 37 (w / 128 % 32) (w / 32768 % 32) (w / 1048576 % 32) (0) (0) = true := is37 ⟨by omega, by omega⟩ ⟨by omega, by omega⟩ ⟨by omega, by omega⟩ 
  refine ⟨his, ?_, ins37 hW hq h3 h7⟩
  rw [(enc37 his).1]
  omega
theorem hit38 {w : Int} (hW : W32 w) (hq : w % 128 = 51) (h3 : w / 4096 % 8 = 2) (h7 : w / 33554432 % 128 = 0) : HitT w 38 (w / 128 % 32) (w / 32768 % 32) (w / 1048576 % 32) (0) (0) := by
  have hw := hW
  unfold W32 at hw
  have his : sallyportref3_Is0 38 (w / 128 % 32) (w / 32768 % 32) (w / 1048576 % 32) (0) (0) = true := is38 ⟨by omega, by omega⟩ ⟨by omega, by omega⟩ ⟨by omega, by omega⟩ 
  refine ⟨his, ?_, ins38 hW hq h3 h7⟩
  rw [(enc38 his).1]
  omega
theorem hit39 {w : Int} (hW : W32 w) (hq : w % 128 = 51) (h3 : w / 4096 % 8 = 3) (h7 : w / 33554432 % 128 = 0) : HitT w 39 (w / 128 % 32) (w / 32768 % 32) (w / 1048576 % 32) (0) (0) := by
  have hw := hW
  unfold W32 at hw
  have his : sallyportref3_Is0 39 (w / 128 % 32) (w / 32768 % 32) (w / 1048576 % 32) (0) (0) = true := is39 ⟨by omega, by omega⟩ ⟨by omega, by omega⟩ ⟨by omega, by omega⟩ 
  refine ⟨his, ?_, ins39 hW hq h3 h7⟩
  rw [(enc39 his).1]
  omega
theorem hit40 {w : Int} (hW : W32 w) (hq : w % 128 = 51) (h3 : w / 4096 % 8 = 4) (h7 : w / 33554432 % 128 = 0) : HitT w 40 (w / 128 % 32) (w / 32768 % 32) (w / 1048576 % 32) (0) (0) := by
  have hw := hW
  unfold W32 at hw
  have his : sallyportref3_Is0 40 (w / 128 % 32) (w / 32768 % 32) (w / 1048576 % 32) (0) (0) = true := is40 ⟨by omega, by omega⟩ ⟨by omega, by omega⟩ ⟨by omega, by omega⟩ 
  refine ⟨his, ?_, ins40 hW hq h3 h7⟩
  rw [(enc40 his).1]
  omega
theorem hit41 {w : Int} (hW : W32 w) (hq : w % 128 = 51) (h3 : w / 4096 % 8 = 5) (h7 : w / 33554432 % 128 = 0) : HitT w 41 (w / 128 % 32) (w / 32768 % 32) (w / 1048576 % 32) (0) (0) := by
  have hw := hW
  unfold W32 at hw
  have his : sallyportref3_Is0 41 (w / 128 % 32) (w / 32768 % 32) (w / 1048576 % 32) (0) (0) = true := is41 ⟨by omega, by omega⟩ ⟨by omega, by omega⟩ ⟨by omega, by omega⟩ 
  refine ⟨his, ?_, ins41 hW hq h3 h7⟩
  rw [(enc41 his).1]
  omega
theorem hit42 {w : Int} (hW : W32 w) (hq : w % 128 = 51) (h3 : w / 4096 % 8 = 5) (h7 : w / 33554432 % 128 = 32) : HitT w 42 (w / 128 % 32) (w / 32768 % 32) (w / 1048576 % 32) (0) (0) := by
  have hw := hW
  unfold W32 at hw
  have his : sallyportref3_Is0 42 (w / 128 % 32) (w / 32768 % 32) (w / 1048576 % 32) (0) (0) = true := is42 ⟨by omega, by omega⟩ ⟨by omega, by omega⟩ ⟨by omega, by omega⟩ 
  refine ⟨his, ?_, ins42 hW hq h3 h7⟩
  rw [(enc42 his).1]
  omega
theorem hit43 {w : Int} (hW : W32 w) (hq : w % 128 = 51) (h3 : w / 4096 % 8 = 6) (h7 : w / 33554432 % 128 = 0) : HitT w 43 (w / 128 % 32) (w / 32768 % 32) (w / 1048576 % 32) (0) (0) := by
  have hw := hW
  unfold W32 at hw
  have his : sallyportref3_Is0 43 (w / 128 % 32) (w / 32768 % 32) (w / 1048576 % 32) (0) (0) = true := is43 ⟨by omega, by omega⟩ ⟨by omega, by omega⟩ ⟨by omega, by omega⟩ 
  refine ⟨his, ?_, ins43 hW hq h3 h7⟩
  rw [(enc43 his).1]
  omega
theorem hit44 {w : Int} (hW : W32 w) (hq : w % 128 = 51) (h3 : w / 4096 % 8 = 7) (h7 : w / 33554432 % 128 = 0) : HitT w 44 (w / 128 % 32) (w / 32768 % 32) (w / 1048576 % 32) (0) (0) := by
  have hw := hW
  unfold W32 at hw
  have his : sallyportref3_Is0 44 (w / 128 % 32) (w / 32768 % 32) (w / 1048576 % 32) (0) (0) = true := is44 ⟨by omega, by omega⟩ ⟨by omega, by omega⟩ ⟨by omega, by omega⟩ 
  refine ⟨his, ?_, ins44 hW hq h3 h7⟩
  rw [(enc44 his).1]
  omega
theorem hit45 {w : Int} (hW : W32 w) (hq : w % 128 = 59) (h3 : w / 4096 % 8 = 0) (h7 : w / 33554432 % 128 = 0) : HitT w 45 (w / 128 % 32) (w / 32768 % 32) (w / 1048576 % 32) (0) (0) := by
  have hw := hW
  unfold W32 at hw
  have his : sallyportref3_Is0 45 (w / 128 % 32) (w / 32768 % 32) (w / 1048576 % 32) (0) (0) = true := is45 ⟨by omega, by omega⟩ ⟨by omega, by omega⟩ ⟨by omega, by omega⟩ 
  refine ⟨his, ?_, ins45 hW hq h3 h7⟩
  rw [(enc45 his).1]
  omega
theorem hit46 {w : Int} (hW : W32 w) (hq : w % 128 = 59) (h3 : w / 4096 % 8 = 0) (h7 : w / 33554432 % 128 = 32) : HitT w 46 (w / 128 % 32) (w / 32768 % 32) (w / 1048576 % 32) (0) (0) := by
  have hw := hW
  unfold W32 at hw
  have his : sallyportref3_Is0 46 (w / 128 % 32) (w / 32768 % 32) (w / 1048576 % 32) (0) (0) = true := is46 ⟨by omega, by omega⟩ ⟨by omega, by omega⟩ ⟨by omega, by omega⟩ 
  refine ⟨his, ?_, ins46 hW hq h3 h7⟩
  rw [(enc46 his).1]
  omega
theorem hit47 {w : Int} (hW : W32 w) (hq : w % 128 = 59) (h3 : w / 4096 % 8 = 1) (h7 : w / 33554432 % 128 = 0) : HitT w 47 (w / 128 % 32) (w / 32768 % 32) (w / 1048576 % 32) (0) (0) := by
  have hw := hW
  unfold W32 at hw
  have his : sallyportref3_Is0 47 (w / 128 % 32) (w / 32768 % 32) (w / 1048576 % 32) (0) (0) = true := is47 ⟨by omega, by omega⟩ ⟨by omega, by omega⟩ ⟨by omega, by omega⟩ 
  refine ⟨his, ?_, ins47 hW hq h3 h7⟩
  rw [(enc47 his).1]
  omega
theorem hit48 {w : Int} (hW : W32 w) (hq : w % 128 = 59) (h3 : w / 4096 % 8 = 5) (h7 : w / 33554432 % 128 = 0) : HitT w 48 (w / 128 % 32) (w / 32768 % 32) (w / 1048576 % 32) (0) (0) := by
  have hw := hW
  unfold W32 at hw
  have his : sallyportref3_Is0 48 (w / 128 % 32) (w / 32768 % 32) (w / 1048576 % 32) (0) (0) = true := is48 ⟨by omega, by omega⟩ ⟨by omega, by omega⟩ ⟨by omega, by omega⟩ 
  refine ⟨his, ?_, ins48 hW hq h3 h7⟩
  rw [(enc48 his).1]
  omega
theorem hit49 {w : Int} (hW : W32 w) (hq : w % 128 = 59) (h3 : w / 4096 % 8 = 5) (h7 : w / 33554432 % 128 = 32) : HitT w 49 (w / 128 % 32) (w / 32768 % 32) (w / 1048576 % 32) (0) (0) := by
  have hw := hW
  unfold W32 at hw
  have his : sallyportref3_Is0 49 (w / 128 % 32) (w / 32768 % 32) (w / 1048576 % 32) (0) (0) = true := is49 ⟨by omega, by omega⟩ ⟨by omega, by omega⟩ ⟨by omega, by omega⟩ 
  refine ⟨his, ?_, ins49 hW hq h3 h7⟩
  rw [(enc49 his).1]
  omega
theorem hit50 : HitT 267386895 50 0 0 0 0 0 := ⟨by decide +kernel, by decide +kernel, ins50⟩
theorem hit51 : HitT 4111 51 0 0 0 0 0 := ⟨by decide +kernel, by decide +kernel, ins51⟩
theorem hit52 : HitT 115 52 0 0 0 0 0 := ⟨by decide +kernel, by decide +kernel, ins52⟩
theorem hit53 : HitT 1048691 53 0 0 0 0 0 := ⟨by decide +kernel, by decide +kernel, ins53⟩
theorem hit54 {w : Int} (hW : W32 w) (hq : w % 128 = 115) (h3 : w / 4096 % 8 = 1) : HitT w 54 (w / 128 % 32) (w / 32768 % 32) (0) (0) (w / 1048576) := by
  have hw := hW
  unfold W32 at hw
  have his : sallyportref3_Is0 54 (w / 128 % 32) (w / 32768 % 32) (0) (0) (w / 1048576) = true := is54 ⟨by omega, by omega⟩ ⟨by omega, by omega⟩ ⟨by omega, by omega⟩ 
  refine ⟨his, ?_, ins54 hW hq h3⟩
  rw [(enc54 his).1]
  omega
theorem hit55 {w : Int} (hW : W32 w) (hq : w % 128 = 115) (h3 : w / 4096 % 8 = 2) : HitT w 55 (w / 128 % 32) (w / 32768 % 32) (0) (0) (w / 1048576) := by
  have hw := hW
  unfold W32 at hw
  have his : sallyportref3_Is0 55 (w / 128 % 32) (w / 32768 % 32) (0) (0) (w / 1048576) = true := is55 ⟨by omega, by omega⟩ ⟨by omega, by omega⟩ ⟨by omega, by omega⟩ 
  refine ⟨his, ?_, ins55 hW hq h3⟩
  rw [(enc55 his).1]
  omega
theorem hit56 {w : Int} (hW : W32 w) (hq : w % 128 = 115) (h3 : w / 4096 % 8 = 3) : HitT w 56 (w / 128 % 32) (w / 32768 % 32) (0) (0) (w / 1048576) := by
  have hw := hW
  unfold W32 at hw
  have his : sallyportref3_Is0 56 (w / 128 % 32) (w / 32768 % 32) (0) (0) (w / 1048576) = true := is56 ⟨by omega, by omega⟩ ⟨by omega, by omega⟩ ⟨by omega, by omega⟩ 
  refine ⟨his, ?_, ins56 hW hq h3⟩
  rw [(enc56 his).1]
  omega
theorem hit57 {w : Int} (hW : W32 w) (hq : w % 128 = 115) (h3 : w / 4096 % 8 = 5) : HitT w 57 (w / 128 % 32) (0) (0) (w / 32768 % 32) (w / 1048576) := by
  have hw := hW
  unfold W32 at hw
  have his : sallyportref3_Is0 57 (w / 128 % 32) (0) (0) (w / 32768 % 32) (w / 1048576) = true := is57 ⟨by omega, by omega⟩ ⟨by omega, by omega⟩ ⟨by omega, by omega⟩ 
  refine ⟨his, ?_, ins57 hW hq h3⟩
  rw [(enc57 his).1]
  omega
theorem hit58 {w : Int} (hW : W32 w) (hq : w % 128 = 115) (h3 : w / 4096 % 8 = 6) : HitT w 58 (w / 128 % 32) (0) (0) (w / 32768 % 32) (w / 1048576) := by
  have hw := hW
  unfold W32 at hw
  have his : sallyportref3_Is0 58 (w / 128 % 32) (0) (0) (w / 32768 % 32) (w / 1048576) = true := is58 ⟨by omega, by omega⟩ ⟨by omega, by omega⟩ ⟨by omega, by omega⟩ 
  refine ⟨his, ?_, ins58 hW hq h3⟩
  rw [(enc58 his).1]
  omega
theorem hit59 {w : Int} (hW : W32 w) (hq : w % 128 = 115) (h3 : w / 4096 % 8 = 7) : HitT w 59 (w / 128 % 32) (0) (0) (w / 32768 % 32) (w / 1048576) := by
  have hw := hW
  unfold W32 at hw
  have his : sallyportref3_Is0 59 (w / 128 % 32) (0) (0) (w / 32768 % 32) (w / 1048576) = true := is59 ⟨by omega, by omega⟩ ⟨by omega, by omega⟩ ⟨by omega, by omega⟩ 
  refine ⟨his, ?_, ins59 hW hq h3⟩
  rw [(enc59 his).1]
  omega
theorem hit60 : HitT 807403635 60 0 0 0 0 0 := ⟨by decide +kernel, by decide +kernel, ins60⟩
theorem hit61 : HitT 270532723 61 0 0 0 0 0 := ⟨by decide +kernel, by decide +kernel, ins61⟩
theorem hit62 : HitT 273678451 62 0 0 0 0 0 := ⟨by decide +kernel, by decide +kernel, ins62⟩
theorem hit63 {w : Int} (hW : W32 w) (hq : w % 128 = 115) (h3 : w / 4096 % 8 = 0) (h7 : w / 33554432 % 128 = 9) (hd : w / 128 % 32 = 0) : HitT w 63 (0) (w / 32768 % 32) (w / 1048576 % 32) (0) (0) := by
  have hw := hW
  unfold W32 at hw
  have his : sallyportref3_Is0 63 (0) (w / 32768 % 32) (w / 1048576 % 32) (0) (0) = true := is63 ⟨by omega, by omega⟩ ⟨by omega, by omega⟩ 
  refine ⟨his, ?_, ins63 hW hq h3 h7 hd⟩
  rw [(enc63 his).1]
  omega
theorem hit64 {w : Int} (hW : W32 w) (hq : w % 128 = 115) (h3 : w / 4096 % 8 = 0) (h7 : w / 33554432 % 128 = 17) (hd : w / 128 % 32 = 0) : HitT w 64 (0) (w / 32768 % 32) (w / 1048576 % 32) (0) (0) := by
  have hw := hW
  unfold W32 at hw
  have his : sallyportref3_Is0 64 (0) (w / 32768 % 32) (w / 1048576 % 32) (0) (0) = true := is64 ⟨by omega, by omega⟩ ⟨by omega, by omega⟩ 
  refine ⟨his, ?_, ins64 hW hq h3 h7 hd⟩
  rw [(enc64 his).1]
  omega
theorem hit65 {w : Int} (hW : W32 w) (hq : w % 128 = 115) (h3 : w / 4096 % 8 = 0) (h7 : w / 33554432 % 128 = 49) (hd : w / 128 % 32 = 0) : HitT w 65 (0) (w / 32768 % 32) (w / 1048576 % 32) (0) (0) := by
  have hw := hW
  unfold W32 at hw
  have his : sallyportref3_Is0 65 (0) (w / 32768 % 32) (w / 1048576 % 32) (0) (0) = true := is65 ⟨by omega, by omega⟩ ⟨by omega, by omega⟩ 
  refine ⟨his, ?_, ins65 hW hq h3 h7 hd⟩
  rw [(enc65 his).1]
  omega
theorem hit66 {w : Int} (hW : W32 w) (hq : w % 128 = 115) (h3 : w / 4096 % 8 = 4) (h7 : w / 33554432 % 128 = 52) (h2 : w / 1048576 % 32 = 0) : HitT w 66 (w / 128 % 32) (w / 32768 % 32) (0) (0) (0) := by
  have hw := hW
  unfold W32 at hw
  have his : sallyportref3_Is0 66 (w / 128 % 32) (w / 32768 % 32) (0) (0) (0) = true := is66 ⟨by omega, by omega⟩ ⟨by omega, by omega⟩ 
  refine ⟨his, ?_, ins66 hW hq h3 h7 h2⟩
  rw [(enc66 his).1]
  omega
theorem hit67 {w : Int} (hW : W32 w) (hq : w % 128 = 115) (h3 : w / 4096 % 8 = 4) (h7 : w / 33554432 % 128 = 54) (h2 : w / 1048576 % 32 = 0) : HitT w 67 (w / 128 % 32) (w / 32768 % 32) (0) (0) (0) := by
  have hw := hW
  unfold W32 at hw
  have his : sallyportref3_Is0 67 (w / 128 % 32) (w / 32768 % 32) (0) (0) (0) = true := is67 ⟨by omega, by omega⟩ ⟨by omega, by omega⟩ 
  refine ⟨his, ?_, ins67 hW hq h3 h7 h2⟩
  rw [(enc67 his).1]
  omega
theorem hit68 {w : Int} (hW : W32 w) (hq : w % 128 = 115) (h3 : w / 4096 % 8 = 4) (h7 : w / 33554432 % 128 = 52) (h2 : w / 1048576 % 32 = 3) : HitT w 68 (w / 128 % 32) (w / 32768 % 32) (0) (0) (0) := by
  have hw := hW
  unfold W32 at hw
  have his : sallyportref3_Is0 68 (w / 128 % 32) (w / 32768 % 32) (0) (0) (0) = true := is68 ⟨by omega, by omega⟩ ⟨by omega, by omega⟩ 
  refine ⟨his, ?_, ins68 hW hq h3 h7 h2⟩
  rw [(enc68 his).1]
  omega
theorem hit69 {w : Int} (hW : W32 w) (hq : w % 128 = 115) (h3 : w / 4096 % 8 = 4) (h7 : w / 33554432 % 128 = 55) (hd : w / 128 % 32 = 0) : HitT w 69 (0) (w / 32768 % 32) (w / 1048576 % 32) (0) (0) := by
  have hw := hW
  unfold W32 at hw
  have his : sallyportref3_Is0 69 (0) (w / 32768 % 32) (w / 1048576 % 32) (0) (0) = true := is69 ⟨by omega, by omega⟩ ⟨by omega, by omega⟩ 
  refine ⟨his, ?_, ins69 hW hq h3 h7 hd⟩
  rw [(enc69 his).1]
  omega
end Go.Proofs.YtngaeiceicgalaaDoor.PV

set_option linter.unusedVariables false
set_option linter.unusedSimpArgs false
namespace Go.Proofs.YtngaeiceicgalaaDoor.PV
open Go Go.Ev

def Hit (w : Int) : Prop := ∃ op rd rs1 rs2 imm csr, HitT w op rd rs1 rs2 imm csr
theorem HitT.any {w op rd rs1 rs2 imm csr : Int} (h : HitT w op rd rs1 rs2 imm csr) : Hit w := ⟨op, rd, rs1, rs2, imm, csr, h⟩
theorem no {b : Bool} {p : Prop} (h : b = true) (h2 : b = false) : p := by rw [h] at h2; cases h2
theorem f3_cases {f : Int} (h : 0 ≤ f ∧ f < 8) : f = 0 ∨ f = 1 ∨ f = 2 ∨ f = 3 ∨ f = 4 ∨ f = 5 ∨ f = 6 ∨ f = 7 := by omega

theorem rk19 {w rd f3 rs1 rs2 f7 x : Int} (ho : decode_Opcode0 w = 19) (hx : word_Bits0 (iConv IntKind.u64 w) 26 6 = x) (hb : 0 ≤ x ∧ x < 64) (h0 : x ≠ 0) (h1 : x ≠ 16) (h3 : f3 = 1 ∨ f3 = 5) : decode_parts__reckons6 w rd f3 rs1 rs2 f7 = false := by
  have e1 : iEq (iShl IntKind.u64 x 6) 1024 = false := by rw [shl64 6 64 (by decide +kernel) ⟨by omega, by omega⟩, iEq_false]; omega
  have e2 : iNe (iShl IntKind.u64 x 6) 0 = true := by rw [shl64 6 64 (by decide +kernel) ⟨by omega, by omega⟩, iNe_true]; omega
  rcases h3 with rfl | rfl
  · unfold decode_parts__reckons6 decode_parts__reckons_c12
    rw [ho, hx, e1, e2]
    rfl
  · unfold decode_parts__reckons6 decode_parts__reckons_c12
    rw [ho, hx, e1, e2]
    rfl
theorem rk19' {w rd rs1 rs2 f7 : Int} (ho : decode_Opcode0 w = 19) (hx : word_Bits0 (iConv IntKind.u64 w) 26 6 = 16) : decode_parts__reckons6 w rd 1 rs1 rs2 f7 = false := by
  unfold decode_parts__reckons6 decode_parts__reckons_c12
  rw [ho, hx]
  kernel_rfl
theorem rk27 {w rd f3 rs1 rs2 f7 x : Int} (ho : decode_Opcode0 w = 27) (hx : word_Bits0 (iConv IntKind.u64 w) 25 7 = x) (hb : 0 ≤ x ∧ x < 128) (h0 : x ≠ 0) (h1 : x ≠ 32) (h3 : f3 = 1 ∨ f3 = 5) : decode_parts__reckons6 w rd f3 rs1 rs2 f7 = false := by
  have e1 : iEq (iShl IntKind.u64 x 5) 1024 = false := by rw [shl64 5 32 (by decide +kernel) ⟨by omega, by omega⟩, iEq_false]; omega
  have e2 : iNe (iShl IntKind.u64 x 5) 0 = true := by rw [shl64 5 32 (by decide +kernel) ⟨by omega, by omega⟩, iNe_true]; omega
  rcases h3 with rfl | rfl
  · unfold decode_parts__reckons6 decode_parts__reckons_c12
    rw [ho, hx, e1, e2]
    rfl
  · unfold decode_parts__reckons6 decode_parts__reckons_c12
    rw [ho, hx, e1, e2]
    rfl
theorem rk27' {w rd rs1 rs2 f7 : Int} (ho : decode_Opcode0 w = 27) (hx : word_Bits0 (iConv IntKind.u64 w) 25 7 = 32) : decode_parts__reckons6 w rd 1 rs1 rs2 f7 = false := by
  unfold decode_parts__reckons6 decode_parts__reckons_c12
  rw [ho, hx]
  kernel_rfl
theorem rk27n {w rd f3 rs1 rs2 f7 : Int} (ho : decode_Opcode0 w = 27) (h3 : f3 = 2 ∨ f3 = 3 ∨ f3 = 4 ∨ f3 = 6 ∨ f3 = 7) : decode_parts__reckons6 w rd f3 rs1 rs2 f7 = false := by
  rcases h3 with rfl | rfl | rfl | rfl | rfl <;> unfold decode_parts__reckons6 <;> rw [ho] <;> kernel_rfl
theorem rg_n {w rd f3 rs1 rs2 f7 : Int} (h0 : f7 ≠ 0) (h1 : f7 ≠ 32) : decode_parts__registers6 w rd f3 rs1 rs2 f7 = false := by
  unfold decode_parts__registers6
  rw [iEq_false.2 h0, iEq_false.2 h1]
  rfl
theorem fx {w rd f3 rs1 rs2 f7 : Int} (h : decode_parts__fixed1 w rd f3 rs1 rs2 f7 = true) : Hit w := by
  unfold decode_parts__fixed1 decode_parts__fixed_c0 at h
  by_cases h0 : w = 267386895
  · rw [h0]; exact hit50.any
  by_cases h1 : w = 4111
  · rw [h1]; exact hit51.any
  by_cases h2 : w = 115
  · rw [h2]; exact hit52.any
  by_cases h3 : w = 1048691
  · rw [h3]; exact hit53.any
  by_cases h4 : w = 807403635
  · rw [h4]; exact hit60.any
  by_cases h5 : w = 270532723
  · rw [h5]; exact hit61.any
  by_cases h6 : w = 273678451
  · rw [h6]; exact hit62.any
  rw [iEq_false.2 h0, iEq_false.2 h1, iEq_false.2 h2, iEq_false.2 h3, iEq_false.2 h4, iEq_false.2 h5, iEq_false.2 h6] at h
  cases h

theorem any55 {w : Int} (hW : W32 w) (hq : w % 128 = 55) : Hit w := (hit1 hW hq).any
theorem any23 {w : Int} (hW : W32 w) (hq : w % 128 = 23) : Hit w := (hit2 hW hq).any
theorem any111 {w : Int} (hW : W32 w) (hq : w % 128 = 111) : Hit w := (hit3 hW hq).any
theorem any103 {w : Int} (hW : W32 w) (hq : w % 128 = 103) (h6 : decode_parts__insn6 w (decode_of0 w) (decode_of1 w) (decode_of2 w) (decode_of3 w) (decode_of4 w) = true) : Hit w := by
  have ho : decode_Opcode0 w = 103 := (opc_eq hW).trans hq
  have h := (s103_6 ho).symm.trans h6
  have k3 := of1_eq hW
  have k7 := of4_eq hW
  have k2 := of3_eq hW
  have kd := of0_eq hW
  have hw := hW
  unfold W32 at hw
  rcases f3_cases (show 0 ≤ w / 4096 % 8 ∧ w / 4096 % 8 < 8 by omega) with h3 | h3 | h3 | h3 | h3 | h3 | h3 | h3
  · exact (hit4 hW hq h3).any
  · rw [k3.trans h3] at h; exact no h (by kernel_rfl)
  · rw [k3.trans h3] at h; exact no h (by kernel_rfl)
  · rw [k3.trans h3] at h; exact no h (by kernel_rfl)
  · rw [k3.trans h3] at h; exact no h (by kernel_rfl)
  · rw [k3.trans h3] at h; exact no h (by kernel_rfl)
  · rw [k3.trans h3] at h; exact no h (by kernel_rfl)
  · rw [k3.trans h3] at h; exact no h (by kernel_rfl)
theorem any99 {w : Int} (hW : W32 w) (hq : w % 128 = 99) (h6 : decode_parts__insn6 w (decode_of0 w) (decode_of1 w) (decode_of2 w) (decode_of3 w) (decode_of4 w) = true) : Hit w := by
  have ho : decode_Opcode0 w = 99 := (opc_eq hW).trans hq
  have h := (s99_6 ho).symm.trans h6
  have k3 := of1_eq hW
  have k7 := of4_eq hW
  have k2 := of3_eq hW
  have kd := of0_eq hW
  have hw := hW
  unfold W32 at hw
  rcases f3_cases (show 0 ≤ w / 4096 % 8 ∧ w / 4096 % 8 < 8 by omega) with h3 | h3 | h3 | h3 | h3 | h3 | h3 | h3
  · exact (hit5 hW hq h3).any
  · exact (hit6 hW hq h3).any
  · rw [k3.trans h3] at h; exact no h (by kernel_rfl)
  · rw [k3.trans h3] at h; exact no h (by kernel_rfl)
  · exact (hit7 hW hq h3).any
  · exact (hit8 hW hq h3).any
  · exact (hit9 hW hq h3).any
  · exact (hit10 hW hq h3).any
theorem any3 {w : Int} (hW : W32 w) (hq : w % 128 = 3) (h6 : decode_parts__insn6 w (decode_of0 w) (decode_of1 w) (decode_of2 w) (decode_of3 w) (decode_of4 w) = true) : Hit w := by
  have ho : decode_Opcode0 w = 3 := (opc_eq hW).trans hq
  have h := (s3_6 ho).symm.trans h6
  have k3 := of1_eq hW
  have k7 := of4_eq hW
  have k2 := of3_eq hW
  have kd := of0_eq hW
  have hw := hW
  unfold W32 at hw
  rcases f3_cases (show 0 ≤ w / 4096 % 8 ∧ w / 4096 % 8 < 8 by omega) with h3 | h3 | h3 | h3 | h3 | h3 | h3 | h3
  · exact (hit11 hW hq h3).any
  · exact (hit12 hW hq h3).any
  · exact (hit13 hW hq h3).any
  · exact (hit14 hW hq h3).any
  · exact (hit15 hW hq h3).any
  · exact (hit16 hW hq h3).any
  · exact (hit17 hW hq h3).any
  · rw [k3.trans h3] at h; exact no h (by kernel_rfl)
theorem any35 {w : Int} (hW : W32 w) (hq : w % 128 = 35) (h6 : decode_parts__insn6 w (decode_of0 w) (decode_of1 w) (decode_of2 w) (decode_of3 w) (decode_of4 w) = true) : Hit w := by
  have ho : decode_Opcode0 w = 35 := (opc_eq hW).trans hq
  have h := (s35_6 ho).symm.trans h6
  have k3 := of1_eq hW
  have k7 := of4_eq hW
  have k2 := of3_eq hW
  have kd := of0_eq hW
  have hw := hW
  unfold W32 at hw
  rcases f3_cases (show 0 ≤ w / 4096 % 8 ∧ w / 4096 % 8 < 8 by omega) with h3 | h3 | h3 | h3 | h3 | h3 | h3 | h3
  · exact (hit18 hW hq h3).any
  · exact (hit19 hW hq h3).any
  · exact (hit20 hW hq h3).any
  · exact (hit21 hW hq h3).any
  · rw [k3.trans h3] at h; exact no h (by kernel_rfl)
  · rw [k3.trans h3] at h; exact no h (by kernel_rfl)
  · rw [k3.trans h3] at h; exact no h (by kernel_rfl)
  · rw [k3.trans h3] at h; exact no h (by kernel_rfl)
theorem any19 {w : Int} (hW : W32 w) (hq : w % 128 = 19) (h6 : decode_parts__insn6 w (decode_of0 w) (decode_of1 w) (decode_of2 w) (decode_of3 w) (decode_of4 w) = true) : Hit w := by
  have ho : decode_Opcode0 w = 19 := (opc_eq hW).trans hq
  have h := (s19_6 ho).symm.trans h6
  have k3 := of1_eq hW
  have k7 := of4_eq hW
  have k2 := of3_eq hW
  have kd := of0_eq hW
  have hw := hW
  unfold W32 at hw
  rcases f3_cases (show 0 ≤ w / 4096 % 8 ∧ w / 4096 % 8 < 8 by omega) with h3 | h3 | h3 | h3 | h3 | h3 | h3 | h3
  · exact (hit22 hW hq h3).any
  · rw [k3.trans h3] at h
    by_cases x0 : w / 67108864 % 64 = 0
    · exact (hit28 hW hq h3 x0).any
    by_cases x1 : w / 67108864 % 64 = 16
    · exact no h (rk19' ho ((b_26_6 hW).trans x1))
    exact no h (rk19 ho (b_26_6 hW) ⟨by omega, by omega⟩ x0 x1 (by decide))
  · exact (hit23 hW hq h3).any
  · exact (hit24 hW hq h3).any
  · exact (hit25 hW hq h3).any
  · rw [k3.trans h3] at h
    by_cases x0 : w / 67108864 % 64 = 0
    · exact (hit29 hW hq h3 x0).any
    by_cases x1 : w / 67108864 % 64 = 16
    · exact (hit30 hW hq h3 x1).any
    exact no h (rk19 ho (b_26_6 hW) ⟨by omega, by omega⟩ x0 x1 (by decide))
  · exact (hit26 hW hq h3).any
  · exact (hit27 hW hq h3).any
theorem any27 {w : Int} (hW : W32 w) (hq : w % 128 = 27) (h6 : decode_parts__insn6 w (decode_of0 w) (decode_of1 w) (decode_of2 w) (decode_of3 w) (decode_of4 w) = true) : Hit w := by
  have ho : decode_Opcode0 w = 27 := (opc_eq hW).trans hq
  have h := (s27_6 ho).symm.trans h6
  have k3 := of1_eq hW
  have k7 := of4_eq hW
  have k2 := of3_eq hW
  have kd := of0_eq hW
  have hw := hW
  unfold W32 at hw
  rcases f3_cases (show 0 ≤ w / 4096 % 8 ∧ w / 4096 % 8 < 8 by omega) with h3 | h3 | h3 | h3 | h3 | h3 | h3 | h3
  · exact (hit31 hW hq h3).any
  · rw [k3.trans h3] at h
    by_cases x0 : w / 33554432 % 128 = 0
    · exact (hit32 hW hq h3 x0).any
    by_cases x1 : w / 33554432 % 128 = 32
    · exact no h (rk27' ho ((b_25_7 hW).trans x1))
    exact no h (rk27 ho (b_25_7 hW) ⟨by omega, by omega⟩ x0 x1 (by decide))
  · rw [k3.trans h3] at h; exact no h (rk27n ho (by decide))
  · rw [k3.trans h3] at h; exact no h (rk27n ho (by decide))
  · rw [k3.trans h3] at h; exact no h (rk27n ho (by decide))
  · rw [k3.trans h3] at h
    by_cases x0 : w / 33554432 % 128 = 0
    · exact (hit33 hW hq h3 x0).any
    by_cases x1 : w / 33554432 % 128 = 32
    · exact (hit34 hW hq h3 x1).any
    exact no h (rk27 ho (b_25_7 hW) ⟨by omega, by omega⟩ x0 x1 (by decide))
  · rw [k3.trans h3] at h; exact no h (rk27n ho (by decide))
  · rw [k3.trans h3] at h; exact no h (rk27n ho (by decide))
theorem any51 {w : Int} (hW : W32 w) (hq : w % 128 = 51) (h6 : decode_parts__insn6 w (decode_of0 w) (decode_of1 w) (decode_of2 w) (decode_of3 w) (decode_of4 w) = true) : Hit w := by
  have ho : decode_Opcode0 w = 51 := (opc_eq hW).trans hq
  have h := (s51_6 ho).symm.trans h6
  have k3 := of1_eq hW
  have k7 := of4_eq hW
  have k2 := of3_eq hW
  have kd := of0_eq hW
  have hw := hW
  unfold W32 at hw
  by_cases z0 : w / 33554432 % 128 = 0
  · rw [k7.trans z0] at h
    rcases f3_cases (show 0 ≤ w / 4096 % 8 ∧ w / 4096 % 8 < 8 by omega) with h3 | h3 | h3 | h3 | h3 | h3 | h3 | h3
    · exact (hit35 hW hq h3 z0).any
    · exact (hit37 hW hq h3 z0).any
    · exact (hit38 hW hq h3 z0).any
    · exact (hit39 hW hq h3 z0).any
    · exact (hit40 hW hq h3 z0).any
    · exact (hit41 hW hq h3 z0).any
    · exact (hit43 hW hq h3 z0).any
    · exact (hit44 hW hq h3 z0).any
  by_cases z1 : w / 33554432 % 128 = 32
  · rw [k7.trans z1] at h
    rcases f3_cases (show 0 ≤ w / 4096 % 8 ∧ w / 4096 % 8 < 8 by omega) with h3 | h3 | h3 | h3 | h3 | h3 | h3 | h3
    · exact (hit36 hW hq h3 z1).any
    · rw [k3.trans h3] at h; unfold decode_parts__registers6 at h; rw [ho] at h; exact no h (by kernel_rfl)
    · rw [k3.trans h3] at h; unfold decode_parts__registers6 at h; rw [ho] at h; exact no h (by kernel_rfl)
    · rw [k3.trans h3] at h; unfold decode_parts__registers6 at h; rw [ho] at h; exact no h (by kernel_rfl)
    · rw [k3.trans h3] at h; unfold decode_parts__registers6 at h; rw [ho] at h; exact no h (by kernel_rfl)
    · exact (hit42 hW hq h3 z1).any
    · rw [k3.trans h3] at h; unfold decode_parts__registers6 at h; rw [ho] at h; exact no h (by kernel_rfl)
    · rw [k3.trans h3] at h; unfold decode_parts__registers6 at h; rw [ho] at h; exact no h (by kernel_rfl)
  exact no h (rg_n (by rw [k7]; exact z0) (by rw [k7]; exact z1))
theorem any59 {w : Int} (hW : W32 w) (hq : w % 128 = 59) (h6 : decode_parts__insn6 w (decode_of0 w) (decode_of1 w) (decode_of2 w) (decode_of3 w) (decode_of4 w) = true) : Hit w := by
  have ho : decode_Opcode0 w = 59 := (opc_eq hW).trans hq
  have h := (s59_6 ho).symm.trans h6
  have k3 := of1_eq hW
  have k7 := of4_eq hW
  have k2 := of3_eq hW
  have kd := of0_eq hW
  have hw := hW
  unfold W32 at hw
  by_cases z0 : w / 33554432 % 128 = 0
  · rw [k7.trans z0] at h
    rcases f3_cases (show 0 ≤ w / 4096 % 8 ∧ w / 4096 % 8 < 8 by omega) with h3 | h3 | h3 | h3 | h3 | h3 | h3 | h3
    · exact (hit45 hW hq h3 z0).any
    · exact (hit47 hW hq h3 z0).any
    · rw [k3.trans h3] at h; unfold decode_parts__registers6 at h; rw [ho] at h; exact no h (by kernel_rfl)
    · rw [k3.trans h3] at h; unfold decode_parts__registers6 at h; rw [ho] at h; exact no h (by kernel_rfl)
    · rw [k3.trans h3] at h; unfold decode_parts__registers6 at h; rw [ho] at h; exact no h (by kernel_rfl)
    · exact (hit48 hW hq h3 z0).any
    · rw [k3.trans h3] at h; unfold decode_parts__registers6 at h; rw [ho] at h; exact no h (by kernel_rfl)
    · rw [k3.trans h3] at h; unfold decode_parts__registers6 at h; rw [ho] at h; exact no h (by kernel_rfl)
  by_cases z1 : w / 33554432 % 128 = 32
  · rw [k7.trans z1] at h
    rcases f3_cases (show 0 ≤ w / 4096 % 8 ∧ w / 4096 % 8 < 8 by omega) with h3 | h3 | h3 | h3 | h3 | h3 | h3 | h3
    · exact (hit46 hW hq h3 z1).any
    · rw [k3.trans h3] at h; unfold decode_parts__registers6 at h; rw [ho] at h; exact no h (by kernel_rfl)
    · rw [k3.trans h3] at h; unfold decode_parts__registers6 at h; rw [ho] at h; exact no h (by kernel_rfl)
    · rw [k3.trans h3] at h; unfold decode_parts__registers6 at h; rw [ho] at h; exact no h (by kernel_rfl)
    · rw [k3.trans h3] at h; unfold decode_parts__registers6 at h; rw [ho] at h; exact no h (by kernel_rfl)
    · exact (hit49 hW hq h3 z1).any
    · rw [k3.trans h3] at h; unfold decode_parts__registers6 at h; rw [ho] at h; exact no h (by kernel_rfl)
    · rw [k3.trans h3] at h; unfold decode_parts__registers6 at h; rw [ho] at h; exact no h (by kernel_rfl)
  exact no h (rg_n (by rw [k7]; exact z0) (by rw [k7]; exact z1))
theorem any15 {w : Int} (hW : W32 w) (hq : w % 128 = 15) (h6 : decode_parts__insn6 w (decode_of0 w) (decode_of1 w) (decode_of2 w) (decode_of3 w) (decode_of4 w) = true) : Hit w := by
  have ho : decode_Opcode0 w = 15 := (opc_eq hW).trans hq
  have h := (s15_6 ho).symm.trans h6
  have k3 := of1_eq hW
  have k7 := of4_eq hW
  have k2 := of3_eq hW
  have kd := of0_eq hW
  have hw := hW
  unfold W32 at hw
  exact fx h
theorem any115 {w : Int} (hW : W32 w) (hq : w % 128 = 115) (h6 : decode_parts__insn6 w (decode_of0 w) (decode_of1 w) (decode_of2 w) (decode_of3 w) (decode_of4 w) = true) : Hit w := by
  have ho : decode_Opcode0 w = 115 := (opc_eq hW).trans hq
  have h := (s115_6 ho).symm.trans h6
  have k3 := of1_eq hW
  have k7 := of4_eq hW
  have k2 := of3_eq hW
  have kd := of0_eq hW
  have hw := hW
  unfold W32 at hw
  rcases f3_cases (show 0 ≤ w / 4096 % 8 ∧ w / 4096 % 8 < 8 by omega) with h3 | h3 | h3 | h3 | h3 | h3 | h3 | h3
  · rw [k3.trans h3] at h
    by_cases d0 : w / 128 % 32 = 0
    · by_cases z9 : w / 33554432 % 128 = 9
      · exact (hit63 hW hq h3 z9 d0).any
      by_cases z17 : w / 33554432 % 128 = 17
      · exact (hit64 hW hq h3 z17 d0).any
      by_cases z49 : w / 33554432 % 128 = 49
      · exact (hit65 hW hq h3 z49 d0).any
      have e : decode_fence0 (decode_of4 w) = 0 := by
        unfold decode_fence0
        rw [k7, iEq_false.2 z9, iEq_false.2 z17, iEq_false.2 z49]
        rfl
      unfold decode_parts__system6 at h
      rw [e] at h
      exact fx h
    · have e : iNe (decode_of0 w) 0 = true := by rw [kd, iNe_true]; exact d0
      unfold decode_parts__system6 at h
      rw [e, show iEq (0 : Int) 0 = true from rfl, cond_true] at h
      cases hf : iEq (decode_fence0 (decode_of4 w)) 0 <;> rw [hf] at h <;> exact fx h
  · exact (hit54 hW hq h3).any
  · exact (hit55 hW hq h3).any
  · exact (hit56 hW hq h3).any
  · rw [k3.trans h3] at h
    unfold decode_parts__system6 at h
    rw [show iEq (4 : Int) 0 = false from rfl, show iEq (4 : Int) 4 = true from rfl, cond_false, cond_true] at h
    unfold decode_parts__guests6 at h
    by_cases z52 : w / 33554432 % 128 = 52
    · by_cases t0 : w / 1048576 % 32 = 0
      · exact (hit66 hW hq h3 z52 t0).any
      by_cases t3 : w / 1048576 % 32 = 3
      · exact (hit68 hW hq h3 z52 t3).any
      rw [k7, k2, z52, iEq_false.2 t0, iEq_false.2 t3] at h
      exact no h rfl
    by_cases z54 : w / 33554432 % 128 = 54
    · by_cases t0 : w / 1048576 % 32 = 0
      · exact (hit67 hW hq h3 z54 t0).any
      rw [k7, k2, z54, iEq_false.2 t0] at h
      exact no h rfl
    by_cases z55 : w / 33554432 % 128 = 55
    · by_cases d0 : w / 128 % 32 = 0
      · exact (hit69 hW hq h3 z55 d0).any
      rw [k7, kd, z55, iEq_false.2 d0] at h
      exact no h rfl
    rw [k7, iEq_false.2 z52, iEq_false.2 z54, iEq_false.2 z55] at h
    exact no h rfl
  · exact (hit57 hW hq h3).any
  · exact (hit58 hW hq h3).any
  · exact (hit59 hW hq h3).any

theorem any_hit {w : Int} (hW : W32 w) (h : decode_Decode_c0 w = false) : Hit w := by
  have h6 : decode_parts__insn6 w (decode_of0 w) (decode_of1 w) (decode_of2 w) (decode_of3 w) (decode_of4 w) = true := by
    unfold decode_Decode_c0 at h
    cases hx : decode_parts__insn6 w (decode_of0 w) (decode_of1 w) (decode_of2 w) (decode_of3 w) (decode_of4 w) with
    | true => rfl
    | false => rw [hx] at h; cases h
  by_cases q55 : w % 128 = 55
  · exact any55 hW q55
  by_cases q23 : w % 128 = 23
  · exact any23 hW q23
  by_cases q111 : w % 128 = 111
  · exact any111 hW q111
  by_cases q103 : w % 128 = 103
  · exact any103 hW q103 h6
  by_cases q99 : w % 128 = 99
  · exact any99 hW q99 h6
  by_cases q3 : w % 128 = 3
  · exact any3 hW q3 h6
  by_cases q35 : w % 128 = 35
  · exact any35 hW q35 h6
  by_cases q19 : w % 128 = 19
  · exact any19 hW q19 h6
  by_cases q27 : w % 128 = 27
  · exact any27 hW q27 h6
  by_cases q51 : w % 128 = 51
  · exact any51 hW q51 h6
  by_cases q59 : w % 128 = 59
  · exact any59 hW q59 h6
  by_cases q15 : w % 128 = 15
  · exact any15 hW q15 h6
  by_cases q115 : w % 128 = 115
  · exact any115 hW q115 h6
  have ho := opc_eq hW
  unfold decode_parts__insn6 decode_parts__insn_c16 at h6
  rw [ho, iEq_false.2 q55, iEq_false.2 q23, iEq_false.2 q111, iEq_false.2 q103, iEq_false.2 q99, iEq_false.2 q3, iEq_false.2 q35, iEq_false.2 q19, iEq_false.2 q27, iEq_false.2 q51, iEq_false.2 q59, iEq_false.2 q15, iEq_false.2 q115] at h6
  exact no h6 rfl

end Go.Proofs.YtngaeiceicgalaaDoor.PV

