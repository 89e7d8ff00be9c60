/-
  The plain laws GuessTells, GuessSure, GuessLoops, of the printed functions.
-/
import Derived.Test.YtigmhcafampfnaaLb
import Derived.Test.YtigmhcafampfnaaGb
set_option linter.unusedVariables false
set_option linter.unusedSimpArgs false
namespace Go.Proofs.Ytigmhcafampfnaa.PV
open Go Go.Ev

theorem next_none (pc : Int) {w : Int} (h6 : decode_Decode6 w = 40) : guess_Next0 pc w = iAdd .u64 pc 4 := by
  unfold guess_Next0
  rw [h6]
  rfl
theorem next_some (pc : Int) {w op imm : Int} (h0 : decode_Decode0 w = op) (h4 : decode_Decode4 w = imm) (h6 : decode_Decode6 w = 0) (rd rs1 rs2 csr : Int) : guess_Next0 pc w = sallyportlaw20_next0 pc op rd rs1 rs2 imm csr := by
  unfold guess_Next0 sallyportlaw20_next0
  rw [h6, h0, h4, class_eq]
  rfl
theorem sure_facts : ∀ n, n < 70 → (bif bif iNe (n : Nat) 4 then
          bif (insn_Class0 (n : Nat)).toNat == 6 then true
          else
            bif (insn_Class0 (n : Nat)).toNat == 5 then true
            else bif (insn_Class0 (n : Nat)).toNat == 4 then true else bif (insn_Class0 (n : Nat)).toNat == 3 then true else (insn_Class0 (n : Nat)).toNat == 1
        else false then
      true
    else iEq (n : Nat) 50) = (bif bif bif iEq (sallyportref3_Class0 (n : Nat)) 1 then iNe (n : Nat) 4 else false then true else bif iLe 3 (sallyportref3_Class0 (n : Nat)) then iLe (sallyportref3_Class0 (n : Nat)) 6 else false then true
  else iEq (n : Nat) 50) := by decide +kernel
theorem sure_some {w op : Int} (hop : 0 ≤ op ∧ op < 70) (h0 : decode_Decode0 w = op) (h6 : decode_Decode6 w = 0) (rd rs1 rs2 imm csr : Int) : guess_Sure0 w = sallyportlaw20_sure0 op rd rs1 rs2 imm csr := by
  obtain ⟨n, rfl⟩ := Int.eq_ofNat_of_zero_le hop.1
  unfold guess_Sure0 sallyportlaw20_sure0
  rw [h6, h0]
  exact sure_facts n (by omega)

theorem guess_dec {w : Int} (pc : Int) (hW : W32 w) : guess_Next0 pc w = sallyportlaw20_next0 pc (decode_Decode0 w) (decode_Decode1 w) (decode_Decode2 w) (decode_Decode3 w) (decode_Decode4 w) (decode_Decode5 w) ∧
    guess_Sure0 w = sallyportlaw20_sure0 (decode_Decode0 w) (decode_Decode1 w) (decode_Decode2 w) (decode_Decode3 w) (decode_Decode4 w) (decode_Decode5 w) := by
  cases hc : decode_Decode_c0 w with
  | true =>
    obtain ⟨h0, h1, h2, h3, h4, h5, h6⟩ := dec_none hc
    rw [next_none pc h6]
    unfold guess_Sure0
    rw [h0, h1, h2, h3, h4, h5, h6]
    exact ⟨rfl, rfl⟩
  | false =>
    obtain ⟨op, rd, rs1, rs2, imm, csr, h⟩ := any_hit hW hc
    obtain ⟨h0, h1, h2, h3, h4, h5, h6⟩ := dec_hit h
    have hop := ris_op h.is
    refine ⟨next_some pc rfl rfl h6 _ _ _ _, sure_some (by omega) rfl h6 _ _ _ _ _⟩

theorem guessTells_true (pc op rd rs1 rs2 imm csr went : Int) {raw : Int} (hW : W32 raw) : sallyportlaw20_GuessTells0 pc op rd rs1 rs2 imm csr raw went = true := by
  unfold sallyportlaw20_GuessTells0 sallyportref3_Encode1 guess_Wrong0
  cases h : sallyportref3_Is0 op rd rs1 rs2 imm csr with
  | false =>
    obtain ⟨h0, h1, h2, h3, h4, h5, h6, h7⟩ := ref_eq hW
    obtain ⟨g1, g2⟩ := guess_dec pc hW
    rw [h0, h1, h2, h3, h4, h5, ← g1, ← g2, iEq_self]
    cases guess_Sure0 raw <;> cases iNe (guess_Next0 pc raw) went <;> rfl
  | true =>
    obtain ⟨w, hw⟩ : ∃ w, sallyportref3_Encode0 op rd rs1 rs2 imm csr = w := ⟨_, rfl⟩
    obtain ⟨h0, h1, h2, h3, h4, h5, h6⟩ := dec_made h hw.symm
    obtain ⟨g1, g2⟩ := guess_dec pc (made h hw.symm).1
    rw [h0, h1, h2, h3, h4, h5] at g1 g2
    rw [hw, ← g1, ← g2, iEq_self]
    cases guess_Sure0 w <;> cases iNe (guess_Next0 pc w) went <;> rfl

theorem goes_facts : ∀ n, n < 70 → sallyportlaw20_sure0 (n : Nat) 0 0 0 0 0 = true → iEq (sallyportref3_Class0 (n : Nat)) 2 = false ∧ iEq (n : Nat) 4 = false := by decide +kernel

theorem guessSure_true (X : Nat → Int) (PC Level : Int) (V : Bool) (C : Nat → Int) (Done op rd rs1 rs2 imm csr : Int) : sallyportlaw20_GuessSure0 X PC Level V C Done op rd rs1 rs2 imm csr = true := by
  unfold sallyportlaw20_GuessSure0 sallyportref3_Encode1
  cases h : sallyportref3_Is0 op rd rs1 rs2 imm csr with
  | false => rfl
  | true =>
    obtain ⟨w, hw⟩ : ∃ w, sallyportref3_Encode0 op rd rs1 rs2 imm csr = w := ⟨_, rfl⟩
    obtain ⟨h0, h1, h2, h3, h4, h5, h6⟩ := dec_made h hw.symm
    generalize sallyportref18_Clean1 (fun i0 => X i0) PC Level V (fun i0 => C i0) Done = pc
    obtain ⟨g1, g2⟩ := guess_dec pc (made h hw.symm).1
    rw [h0, h1, h2, h3, h4, h5] at g1 g2
    rw [hw, g1, g2]
    have hop := ris_op h
    cases hs : sallyportlaw20_sure0 op rd rs1 rs2 imm csr with
    | false => rfl
    | true =>
      obtain ⟨n, hn⟩ := Int.eq_ofNat_of_zero_le (show 0 ≤ op by omega)
      have hs' : sallyportlaw20_sure0 op 0 0 0 0 0 = true := hs
      have hf : sallyportlaw20_sure0 op 0 0 0 0 0 = true → iEq (sallyportref3_Class0 op) 2 = false ∧ iEq op 4 = false := by rw [hn]; exact goes_facts n (by omega)
      obtain ⟨f1, f2⟩ := hf hs'
      unfold sallyportlaw20_next0 sallyportref18_Goes0
      rw [f1, f2]
      show iEq _ _ = true
      rw [iEq_true]
      cases iEq op 3 <;> rfl

theorem loop_is {op imm : Int} (h : 5 ≤ op ∧ op ≤ 10) (hn : -4096 ≤ imm ∧ imm ≤ 4094) (hm : imm % 2 = 0) : sallyportref3_Is0 op 0 1 2 imm 0 = true ∧ iEq (sallyportref3_Class0 op) 2 = true ∧ iEq op 3 = false := by
  have hc : op = 5 ∨ op = 6 ∨ op = 7 ∨ op = 8 ∨ op = 9 ∨ op = 10 := by omega
  rcases hc with rfl | rfl | rfl | rfl | rfl | rfl
  · exact ⟨is5 (by decide) (by decide) hn hm, by decide +kernel, by decide +kernel⟩
  · exact ⟨is6 (by decide) (by decide) hn hm, by decide +kernel, by decide +kernel⟩
  · exact ⟨is7 (by decide) (by decide) hn hm, by decide +kernel, by decide +kernel⟩
  · exact ⟨is8 (by decide) (by decide) hn hm, by decide +kernel, by decide +kernel⟩
  · exact ⟨is9 (by decide) (by decide) hn hm, by decide +kernel, by decide +kernel⟩
  · exact ⟨is10 (by decide) (by decide) hn hm, by decide +kernel, by decide +kernel⟩

theorem conv_u64 (n : Int) : iConv .u64 n = n % 18446744073709551616 := wrapU_eq n
theorem add_u64 (a b : Int) : iAdd .u64 a b = (a + b) % 18446744073709551616 := wrapU_eq _
theorem sub_u64 (a b : Int) : iSub .u64 a b = (a - b) % 18446744073709551616 := wrapU_eq _

theorem guessLoops_true {pc n o : Int} (hp : 0 ≤ pc ∧ pc < 18446744073709551616) (hn : 0 ≤ n ∧ n < 65536) (ho : 0 ≤ o ∧ o < 256) : sallyportlaw20_GuessLoops0 pc n o = true := by
  unfold sallyportlaw20_GuessLoops0 sallyportlaw20_GuessLoops_c2 sallyportlaw20_GuessLoops_c0 sallyportlaw20_GuessLoops_c1
  have e1 : iRem o 6 = o % 6 := by show o.tmod 6 = _; rw [Int.tmod_eq_emod_of_nonneg ho.1]
  have e2 : iRem n 2000 = n % 2000 := by show n.tmod 2000 = _; rw [Int.tmod_eq_emod_of_nonneg hn.1]
  obtain ⟨d, hd⟩ : ∃ d, n % 2000 * 2 + 2 = d := ⟨_, rfl⟩
  obtain ⟨op, hop⟩ : ∃ op, 5 + o % 6 = op := ⟨_, rfl⟩
  have e3 : iMul .i64 (n % 2000) 2 = n % 2000 * 2 := wrapI (by omega) (by omega)
  rw [e1, e2, convI_of ⟨by omega, by omega⟩, convI_of ⟨by omega, by omega⟩, iAdd_i64 (by omega) (by omega), e3, iAdd_i64 (by omega) (by omega), hd, hop, iSub_i64 (by omega) (by omega)]
  have bop : 5 ≤ op ∧ op ≤ 10 := by omega
  have bd : 2 ≤ d ∧ d ≤ 4000 ∧ d % 2 = 0 := by omega
  clear hd hop e3 e1 e2
  obtain ⟨i1, c2, c3⟩ := loop_is (op := op) (imm := 0 - d) bop (by omega) (by omega)
  obtain ⟨i2, _, _⟩ := loop_is (op := op) (imm := d) bop (by omega) (by omega)
  obtain ⟨b, hb⟩ : ∃ w, sallyportref3_Encode0 op 0 1 2 (0 - d) 0 = w := ⟨_, rfl⟩
  obtain ⟨f, hf⟩ : ∃ w, sallyportref3_Encode0 op 0 1 2 d 0 = w := ⟨_, rfl⟩
  have mb := dec_made i1 hb.symm
  have mf := dec_made i2 hf.symm
  have nb := next_some pc mb.1 mb.2.2.2.2.1 mb.2.2.2.2.2.2 0 0 0 0
  have nf := next_some pc mf.1 mf.2.2.2.2.1 mf.2.2.2.2.2.2 0 0 0 0
  have n73 : guess_Next0 pc 115 = iAdd .u64 pc 4 := by
    rw [next_some pc (w := 115) (op := 52) (imm := 0) (by decide +kernel) (by decide +kernel) (by decide +kernel) 0 0 0 0]
    rfl
  unfold sallyportlaw20_next0 at nb nf
  rw [c2, c3, iLt_true.2 (show 0 - d < 0 by omega)] at nb
  rw [c2, c3, iLt_false.2 (show 0 ≤ d by omega)] at nf
  simp only [cond_true, cond_false] at nb nf
  rw [hb, hf]
  unfold sallyportref3_Encode1 guess_Wrong0
  rw [i1, i2, nb, nf, n73, iEq_self]
  have k1 : iNe (iAdd IntKind.u64 pc (iConv IntKind.u64 (0 - d))) (iSub IntKind.u64 pc (iConv IntKind.u64 d)) = false := by
    rw [iNe_false, add_u64, sub_u64, conv_u64, conv_u64]; omega
  have k2 : iNe (iAdd IntKind.u64 pc (iConv IntKind.u64 (0 - d))) (iAdd IntKind.u64 pc 4) = true := by
    rw [iNe_true, add_u64, add_u64, conv_u64]; omega
  have k3 : iNe (iAdd IntKind.u64 pc 4) (iAdd IntKind.u64 pc 4) = false := by rw [iNe_false]
  have k4 : (bif iEq d 4 then true else iNe (iAdd IntKind.u64 pc 4) (iAdd IntKind.u64 pc (iConv IntKind.u64 d))) = true := by
    cases h4 : iEq d 4 with
    | true => rfl
    | false =>
      rw [iEq_false] at h4
      rw [cond_false, iNe_true, add_u64, add_u64, conv_u64]; omega
  rw [k1, k2, k3, k4]
  rfl
end Go.Proofs.Ytigmhcafampfnaa.PV
