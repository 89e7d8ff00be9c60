/-
  'sallyportlaw21.HazardLaws' answers true at every input; no condition.
-/
import Derived.Test.YtihmjmaabednjaaFa
namespace Go.Proofs.Ytihmjmaabednjaa
open Go Go.Ev PV

theorem Try.own : ownKnob Try.prog.godebug = none := by kernel_rfl

theorem hazardLaws_true (a b c d e f g h i j k l : Int) : sallyportlaw21_HazardLaws0 a b c d e f g h i j k l = true := by
  unfold sallyportlaw21_HazardLaws0 hazard_Waits0 hazard_Passes0 hazard_Uses0
  have hc := class_in a
  generalize insn_Class0 a = cl at hc
  generalize insn_Writes0 a b c d e f = w
  generalize insn_Reads0 g h i j k l = x
  generalize insn_Reads1 g h i j k l = y
  have h12 : (cl.toNat == 12) = iEq cl 12 := by
    rw [Bool.eq_iff_iff, beq_iff_eq, iEq, beq_iff_eq]; omega
  have h3 : (cl.toNat == 3) = iEq cl 3 := by
    rw [Bool.eq_iff_iff, beq_iff_eq, iEq, beq_iff_eq]; omega
  rw [h12, h3]
  have e1 : iEq w x = iEq x w := by rw [Bool.eq_iff_iff, iEq, iEq, beq_iff_eq, beq_iff_eq]; omega
  have e2 : iEq w y = iEq y w := by rw [Bool.eq_iff_iff, iEq, iEq, beq_iff_eq, beq_iff_eq]; omega
  have e3 : iEq w 0 = !iNe w 0 := by simp only [iEq, iNe, bne, Bool.not_not]
  have e4 : iNe 0 0 = false := by decide
  rw [e1, e2, e3, e4]
  simp only [cond_false]
  have e5 : iNe x 0 = false → iNe w 0 = true → iEq x w = false := by simp only [iEq, iNe]; intro h1 h2; simp at h1 h2 ⊢; omega
  have e6 : iNe y 0 = false → iNe w 0 = true → iEq y w = false := by simp only [iEq, iNe]; intro h1 h2; simp at h1 h2 ⊢; omega
  revert e5 e6
  generalize iNe w 0 = p1
  generalize iEq x w = p2
  generalize iEq y w = p3
  generalize iNe x 0 = p4
  generalize iNe y 0 = p5
  generalize iEq cl 12 = p6
  generalize iEq cl 3 = p7
  revert p1 p2 p3 p4 p5 p6 p7
  decide

theorem hazardLaws_lifted (os : Os) (started : os.Started) (H : Type) (enc : TypeId × Value → H) :
    ReturnsInHanded {} Try.checked os 5 .any (Rows.hazardLawsSpec.pre6 enc Try.prog Try.f5 Rows.hazardLawsRow.domain false) (Rows.hazardLawsSpec.post enc Try.prog Try.f5 false true false false) := by
  refine returnsInHanded_of_change (C := Try.checked) Try.own started (by kernel_rfl) Try.func5
    (ChangeSpec.witness6 (enc := enc) (C := Try.checked) false ⟨#[], #[.agg #[.int .i64 0, .int .i64 0, .int .i64 0, .int .i64 0, .int .i64 0, .int .i64 0], .agg #[.int .i64 0, .int .i64 0, .int .i64 0, .int .i64 0, .int .i64 0, .int .i64 0]], []⟩ 8
      (by kernel_rfl) (by kernel_rfl) (by kernel_rfl) (by kernel_rfl)) ?_
  intro W base args ds gs before hval hW _ _
  refine plain_contract (P := Try.prog) sallyportlaw21_HazardLawsP (c := (Try.f5.body).getD .skip) (by kernel_rfl) (d := 4) (by kernel_rfl) (tb := 4) (by kernel_rfl) Try.underlying4 (by kernel_rfl) ?_
    (law_row sallyportlaw21_HazardLawsO fun g _ => ?_) W args ds gs before hval hW
  · intro ds hds
    match ds, hds with
    | [_, _], _ => rfl
  · show AV.bl _ = AV.bl true
    rw [hazardLaws_true]

theorem hazardLaws_holds : Rows.HazardLawsSaid :=
  OpenClaim.holds_of_wide 5 Try.f5 rfl rfl rfl rfl rfl rfl rfl ⟨rfl, rfl, rfl, rfl, rfl⟩ rfl rfl rfl rfl rfl (by kernel_rfl) Try.func5 (by kernel_rfl)
    (of_decide_eq_true (by kernel_rfl)) (by unfold Func.isWrapper; first | (rw [if_pos (by decide +kernel)]; kernel_rfl) | (rw [if_neg (by decide +kernel)]; exact ⟨rfl, rfl⟩))
    (fun os started H enc _ => hazardLaws_lifted os started H enc)

end Go.Proofs.Ytihmjmaabednjaa
