/-
  The plain laws DecodeTells, DecodeTurned, DecodeIs, of the printed functions.
-/
import Derived.Test.YtigmhcafampfnaaHj
import Derived.Test.YtigmhcafampfnaaGe
set_option linter.unusedVariables false
set_option linter.unusedSimpArgs false
namespace Go.Proofs.Ytigmhcafampfnaa.PV
open Go Go.Ev

/-- The document reads in a word what the program reads. -/
theorem ref_eq {w : Int} (hW : W32 w) : sallyportref3_Decode0 w = decode_Decode0 w ∧ sallyportref3_Decode1 w = decode_Decode1 w ∧ sallyportref3_Decode2 w = decode_Decode2 w ∧ sallyportref3_Decode3 w = decode_Decode3 w ∧
    sallyportref3_Decode4 w = decode_Decode4 w ∧ sallyportref3_Decode5 w = decode_Decode5 w ∧ sallyportref3_Decode6 w = iEq (decode_Decode6 w) 0 ∧ (decode_Decode6 w = 0 ∨ decode_Decode6 w = 40) := by
  cases hc : decode_Decode_c0 w with
  | true =>
    obtain ⟨h0, h1, h2, h3, h4, h5, h6⟩ := dec_none hc
    have ho := opOf_none hc
    have hl : iLt (opOf w) 70 = false := by rw [ho]; rfl
    unfold sallyportref3_Decode0 sallyportref3_Decode1 sallyportref3_Decode2 sallyportref3_Decode3 sallyportref3_Decode4 sallyportref3_Decode5 sallyportref3_Decode6
    rw [hl, h0, h1, h2, h3, h4, h5, h6]
    exact ⟨rfl, rfl, rfl, rfl, rfl, rfl, rfl, .inr rfl⟩
  | false =>
    obtain ⟨op, rd, rs1, rs2, imm, csr, h⟩ := any_hit hW hc
    obtain ⟨h0, h1, h2, h3, h4, h5, h6⟩ := dec_hit h
    have ho := opOf_some h
    have hl : iLt (opOf w) 70 = true := by rw [ho]; exact iLt_true.2 (ris_op h.is).2
    unfold sallyportref3_Decode0 sallyportref3_Decode1 sallyportref3_Decode2 sallyportref3_Decode3 sallyportref3_Decode4 sallyportref3_Decode5 sallyportref3_Decode6
    rw [hl, ho, h0, h1, h2, h3, h4, h5, h6, h.g1, h.g2, h.g3, h.g4, h.g5]
    exact ⟨rfl, rfl, rfl, rfl, rfl, rfl, rfl, .inl rfl⟩

theorem format_facts : ∀ n, n < 70 → 1 ≤ n → decode_Format0 (n : Nat) = sallyportlaw3_format0 (n : Nat) := by decide +kernel
theorem format_eq (op : Int) : decode_Format0 op = sallyportlaw3_format0 op := by
  by_cases h : 1 ≤ op ∧ op < 70
  · obtain ⟨n, rfl⟩ := Int.eq_ofNat_of_zero_le (show 0 ≤ op by omega)
    exact format_facts n (by omega) (by omega)
  · unfold decode_Format0 sallyportlaw3_format0
    rw [class_out h, class_out' h]
    rfl

theorem decodeTells_true {w op : Int} (hW : W32 w) : sallyportlaw3_DecodeTells0 w op = true := by
  obtain ⟨h0, h1, h2, h3, h4, h5, h6, h7⟩ := ref_eq hW
  have ho : iConv IntKind.i64 (iAnd IntKind.u32 w 127) = w % 128 := by
    rw [and32 (m := 127) 7 128 (by decide +kernel) (by decide) (by decide) hW]
    exact convI_of ⟨by omega, by omega⟩
  unfold sallyportlaw3_DecodeTells0
  rw [h0, h1, h2, h3, h4, h5, h6, ho, opc_eq hW, format_eq]
  rw [iEq_self, iEq_self, iEq_self, iEq_self, iEq_self, iEq_self, iEq_self, iEq_self]
  rcases h7 with h7 | h7 <;> rw [h7] <;> rfl

/-- What is read is written as it was. -/
theorem enc_dec {w : Int} (hW : W32 w) (hc : decode_Decode_c0 w = false) :
    sallyportref3_Is0 (decode_Decode0 w) (decode_Decode1 w) (decode_Decode2 w) (decode_Decode3 w) (decode_Decode4 w) (decode_Decode5 w) = true ∧
    sallyportref3_Encode0 (decode_Decode0 w) (decode_Decode1 w) (decode_Decode2 w) (decode_Decode3 w) (decode_Decode4 w) (decode_Decode5 w) = w := by
  obtain ⟨op, rd, rs1, rs2, imm, csr, h⟩ := any_hit hW hc
  obtain ⟨h0, h1, h2, h3, h4, h5, h6⟩ := dec_hit h
  rw [h0, h1, h2, h3, h4, h5]
  exact ⟨h.is, h.enc⟩

theorem turn32 {w a : Int} (hW : W32 w) (ha : 0 ≤ a) : W32 (iXor IntKind.u32 w (iShl IntKind.u32 1 (iConv IntKind.u64 (iRem a 32)))) ∧ iXor IntKind.u32 w (iShl IntKind.u32 1 (iConv IntKind.u64 (iRem a 32))) ≠ w := by
  have hr : iRem a 32 = a % 32 := by
    show a.tmod 32 = a % 32
    rw [Int.tmod_eq_emod_of_nonneg ha]
  rw [hr, conv64_of ⟨by omega, by omega⟩]
  obtain ⟨k, hk, e⟩ := natOf (x := a % 32) (b := 32) ⟨by omega, by omega⟩
  rw [e]
  obtain ⟨n, hn, rfl⟩ := natOf (x := w) (b := 4294967296) hW
  have hp : 2 ^ k < 4294967296 := Nat.lt_of_lt_of_le (Nat.pow_lt_pow_right (a := 2) (by decide) hk) (by decide)
  have hs : iShl IntKind.u32 1 (k : Int) = ((2 ^ k : Nat) : Int) := by
    have e1 : (2 : Int) ^ (min (k : Int).toNat 32) = ((2 ^ k : Nat) : Int) := by
      rw [Int.toNat_natCast, Nat.min_eq_left (by omega)]; norm_cast
    have hq : (0 : Int) ≤ ((2 ^ k : Nat) : Int) := Int.natCast_nonneg _
    have hq2 : ((2 ^ k : Nat) : Int) < 4294967296 := by omega
    have := shl32 (x := 1) (k : Int) ((2 ^ k : Nat) : Int) e1 ⟨by omega, by omega⟩
    rw [this]; omega
  rw [hs]
  have hx : iXor IntKind.u32 (n : Int) ((2 ^ k : Nat) : Int) = ((n ^^^ 2 ^ k : Nat) : Int) := by
    show IntKind.u32.wrap _ = _
    rw [wrap32]
    have : n ^^^ 2 ^ k < 2 ^ 32 := Nat.xor_lt_two_pow (by omega) (by omega)
    have e2 : ((BitVec.ofInt 32 (n : Int) ^^^ BitVec.ofInt 32 ((2 ^ k : Nat) : Int)).toNat) = n ^^^ 2 ^ k := by
      rw [BitVec.toNat_xor, BitVec.ofInt_natCast, BitVec.ofInt_natCast, BitVec.toNat_ofNat, BitVec.toNat_ofNat, Nat.mod_eq_of_lt (by omega), Nat.mod_eq_of_lt (by omega)]
    show (((BitVec.ofInt 32 (n : Int) ^^^ BitVec.ofInt 32 ((2 ^ k : Nat) : Int)).toNat : Nat) : Int) % 4294967296 = _
    rw [e2]; omega
  rw [hx]
  have hl : n ^^^ 2 ^ k < 2 ^ 32 := Nat.xor_lt_two_pow (by omega) (by omega)
  refine ⟨⟨by omega, by omega⟩, fun h => ?_⟩
  have h : n ^^^ 2 ^ k = n := by omega
  have : 2 ^ k = 0 := by
    have h2 : n ^^^ (n ^^^ 2 ^ k) = n ^^^ n := by rw [h]
    rwa [← Nat.xor_assoc, Nat.xor_self, Nat.zero_xor] at h2
  have := Nat.two_pow_pos k
  omega

theorem decodeTurned_true (op rd rs1 rs2 imm csr a : Int) (ha : 0 ≤ a) : sallyportlaw3_DecodeTurned0 op rd rs1 rs2 imm csr a = true := by
  unfold sallyportlaw3_DecodeTurned0 sallyportlaw3_DecodeTurned_c0 sallyportref3_Encode1
  cases h : sallyportref3_Is0 op rd rs1 rs2 imm csr with
  | false => rfl
  | true =>
    obtain ⟨w, hw⟩ : ∃ w, sallyportref3_Encode0 op rd rs1 rs2 imm csr = w := ⟨_, rfl⟩
    rw [hw]
    have hW : W32 w := (made h hw.symm).1
    obtain ⟨x, hx⟩ : ∃ x, iXor IntKind.u32 w (iShl IntKind.u32 1 (iConv IntKind.u64 (iRem a 32))) = x := ⟨_, rfl⟩
    obtain ⟨hX, hne⟩ := turn32 hW ha
    rw [hx] at hX hne ⊢
    obtain ⟨h0, h1, h2, h3, h4, h5, h6, h7⟩ := ref_eq hX
    rw [h0, h1, h2, h3, h4, h5, h6]
    rw [iEq_self, iEq_self, iEq_self, iEq_self, iEq_self, iEq_self]
    have key : (iEq (decode_Decode0 x) op && (iEq (decode_Decode1 x) rd && (iEq (decode_Decode2 x) rs1 && (iEq (decode_Decode3 x) rs2 && (iEq (decode_Decode4 x) imm && iEq (decode_Decode5 x) csr))))) = false := by
      rw [← Bool.not_eq_true]
      intro hk
      simp only [Bool.and_eq_true, iEq_true] at hk
      obtain ⟨k0, k1, k2, k3, k4, k5⟩ := hk
      cases hc : decode_Decode_c0 x with
      | true =>
        have := (dec_none hc).1
        have := ris_op h
        omega
      | false =>
        have := (enc_dec hX hc).2
        rw [k0, k1, k2, k3, k4, k5, hw] at this
        exact hne this.symm
    rw [key]
    cases iEq (decode_Decode6 x) 0 <;> rfl

def isCond (op q : Int) : Bool :=
  (iNe (insn_Class0 op) 2 || iEq q 99) && (iNe (insn_Class0 op) 3 || iEq q 3) && (iNe (insn_Class0 op) 4 || iEq q 35) && (iLt (insn_Class0 op) 8 || iEq q 115) && (iNe (insn_Class0 op) 6 || iEq q 51 || iEq q 59) && iEq (iAnd IntKind.i64 q 3) 3
theorem is_facts : ∀ n, n < 70 → 1 ≤ n → isCond (n : Nat) (bif iEq (sallyportref3_fixed0 (n : Nat)) 0 then sallyportref3_Code0 (n : Nat) else sallyportref3_fixed0 (n : Nat) % 128) = true := by decide +kernel
theorem isCond_law {op q : Int} (h : isCond op q = true) : (bif bif bif bif bif bif bif true then bif iNe (insn_Class0 op) 2 then true else iEq q 99 else false then bif iNe (insn_Class0 op) 3 then true else iEq q 3 else false then
    bif iNe (insn_Class0 op) 4 then true else iEq q 35 else false then bif iLt (insn_Class0 op) 8 then true else iEq q 115 else false then bif bif iNe (insn_Class0 op) 6 then true else iEq q 51 then true else iEq q 59 else false then
    iEq (iAnd IntKind.i64 q 3) 3 else false then true else false) = true := by
  unfold isCond at h
  revert h
  cases iNe (insn_Class0 op) 2 <;> cases iEq q 99 <;> cases iNe (insn_Class0 op) 3 <;> cases iEq q 3 <;> cases iNe (insn_Class0 op) 4 <;> cases iEq q 35 <;> cases iLt (insn_Class0 op) 8 <;> cases iEq q 115 <;> cases iNe (insn_Class0 op) 6 <;> cases iEq q 51 <;> cases iEq q 59 <;> cases iEq (iAnd IntKind.i64 q 3) 3 <;> decide

theorem decodeIs_true {w : Int} (hW : W32 w) : sallyportlaw3_DecodeIs0 w = true := by
  unfold sallyportlaw3_DecodeIs0
  cases hc : decode_Decode_c0 w with
  | true =>
    obtain ⟨h0, h1, h2, h3, h4, h5, h6⟩ := dec_none hc
    rw [h0, h1, h2, h3, h4, h5, h6]
    rfl
  | false =>
    obtain ⟨op, rd, rs1, rs2, imm, csr, h⟩ := any_hit hW hc
    obtain ⟨h0, h1, h2, h3, h4, h5, h6⟩ := dec_hit h
    have hop := ris_op h.is
    obtain ⟨n, hn⟩ := Int.eq_ofNat_of_zero_le (show 0 ≤ op by omega)
    have hf := is_facts n (by omega) (by omega)
    rw [← hn, ← h.q] at hf
    unfold sallyportlaw3_DecodeIs_c0
    rw [h0, h1, h2, h3, h4, h5, h6, ← is_eq, h.is, opc_eq hW, show iNe (0 : Int) 0 = false from rfl, cond_false]
    have := isCond_law hf
    revert this
    generalize iEq (iAnd IntKind.i64 (w % 128) 3) 3 = z
    intro this
    simpa using this
end Go.Proofs.Ytigmhcafampfnaa.PV
