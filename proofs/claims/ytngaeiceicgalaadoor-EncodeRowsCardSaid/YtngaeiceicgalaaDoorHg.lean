/-
  Each instruction's word is read as it.
-/
import Derived.Test.YtngaeiceicgalaaDoorHf
set_option linter.unusedVariables false
namespace Go.Proofs.YtngaeiceicgalaaDoor.PV
open Go Go.Ev

theorem made_nat {rd rs1 rs2 imm csr w : Int} : ∀ n : Nat, n < 70 → 1 ≤ n → sallyportref3_Is0 (n : Int) rd rs1 rs2 imm csr = true → w = sallyportref3_Encode0 (n : Int) rd rs1 rs2 imm csr → W32 w ∧ InsT w (n : Int) rd rs1 rs2 imm csr
  | 0, _, h, _, _ => by omega
  | 1, _, _, h, hw => made1 h hw
  | 2, _, _, h, hw => made2 h hw
  | 3, _, _, h, hw => made3 h hw
  | 4, _, _, h, hw => made4 h hw
  | 5, _, _, h, hw => made5 h hw
  | 6, _, _, h, hw => made6 h hw
  | 7, _, _, h, hw => made7 h hw
  | 8, _, _, h, hw => made8 h hw
  | 9, _, _, h, hw => made9 h hw
  | 10, _, _, h, hw => made10 h hw
  | 11, _, _, h, hw => made11 h hw
  | 12, _, _, h, hw => made12 h hw
  | 13, _, _, h, hw => made13 h hw
  | 14, _, _, h, hw => made14 h hw
  | 15, _, _, h, hw => made15 h hw
  | 16, _, _, h, hw => made16 h hw
  | 17, _, _, h, hw => made17 h hw
  | 18, _, _, h, hw => made18 h hw
  | 19, _, _, h, hw => made19 h hw
  | 20, _, _, h, hw => made20 h hw
  | 21, _, _, h, hw => made21 h hw
  | 22, _, _, h, hw => made22 h hw
  | 23, _, _, h, hw => made23 h hw
  | 24, _, _, h, hw => made24 h hw
  | 25, _, _, h, hw => made25 h hw
  | 26, _, _, h, hw => made26 h hw
  | 27, _, _, h, hw => made27 h hw
  | 28, _, _, h, hw => made28 h hw
  | 29, _, _, h, hw => made29 h hw
  | 30, _, _, h, hw => made30 h hw
  | 31, _, _, h, hw => made31 h hw
  | 32, _, _, h, hw => made32 h hw
  | 33, _, _, h, hw => made33 h hw
  | 34, _, _, h, hw => made34 h hw
  | 35, _, _, h, hw => made35 h hw
  | 36, _, _, h, hw => made36 h hw
  | 37, _, _, h, hw => made37 h hw
  | 38, _, _, h, hw => made38 h hw
  | 39, _, _, h, hw => made39 h hw
  | 40, _, _, h, hw => made40 h hw
  | 41, _, _, h, hw => made41 h hw
  | 42, _, _, h, hw => made42 h hw
  | 43, _, _, h, hw => made43 h hw
  | 44, _, _, h, hw => made44 h hw
  | 45, _, _, h, hw => made45 h hw
  | 46, _, _, h, hw => made46 h hw
  | 47, _, _, h, hw => made47 h hw
  | 48, _, _, h, hw => made48 h hw
  | 49, _, _, h, hw => made49 h hw
  | 50, _, _, h, hw => made50 h hw
  | 51, _, _, h, hw => made51 h hw
  | 52, _, _, h, hw => made52 h hw
  | 53, _, _, h, hw => made53 h hw
  | 54, _, _, h, hw => made54 h hw
  | 55, _, _, h, hw => made55 h hw
  | 56, _, _, h, hw => made56 h hw
  | 57, _, _, h, hw => made57 h hw
  | 58, _, _, h, hw => made58 h hw
  | 59, _, _, h, hw => made59 h hw
  | 60, _, _, h, hw => made60 h hw
  | 61, _, _, h, hw => made61 h hw
  | 62, _, _, h, hw => made62 h hw
  | 63, _, _, h, hw => made63 h hw
  | 64, _, _, h, hw => made64 h hw
  | 65, _, _, h, hw => made65 h hw
  | 66, _, _, h, hw => made66 h hw
  | 67, _, _, h, hw => made67 h hw
  | 68, _, _, h, hw => made68 h hw
  | 69, _, _, h, hw => made69 h hw
  | n + 70, h, _, _, _ => by omega

theorem made {op rd rs1 rs2 imm csr w : Int} (h : sallyportref3_Is0 op rd rs1 rs2 imm csr = true) (hw : w = sallyportref3_Encode0 op rd rs1 rs2 imm csr) : W32 w ∧ InsT w op rd rs1 rs2 imm csr := by
  have hop := ris_op h
  have e : op = ((op.toNat : Nat) : Int) := by omega
  rw [e] at h hw ⊢
  exact made_nat op.toNat (by omega) (by omega) h hw

theorem dec_made {op rd rs1 rs2 imm csr w : Int} (h : sallyportref3_Is0 op rd rs1 rs2 imm csr = true) (hw : w = sallyportref3_Encode0 op rd rs1 rs2 imm csr) :
    decode_Decode0 w = op ∧ decode_Decode1 w = rd ∧ decode_Decode2 w = rs1 ∧ decode_Decode3 w = rs2 ∧ decode_Decode4 w = imm ∧ decode_Decode5 w = csr ∧ decode_Decode6 w = 0 :=
  dec_of_ins (made h hw).2 h
end Go.Proofs.YtngaeiceicgalaaDoor.PV
