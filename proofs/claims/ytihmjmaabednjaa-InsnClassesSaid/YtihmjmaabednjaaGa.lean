/-
  What functions of the program and of the document yield, evaluated (insn.Class .. insn.Size). Printed by a program of the prover's own (wip/prt).
-/
import Derived.Test.YtihmjmaabednjaaRows
import Derived.Test.YtihmjmaabednjaaEvW
import Derived.Test.YtihmjmaabednjaaEvX
import Derived.Test.YtihmjmaabednjaaOn
set_option linter.unusedVariables false
set_option linter.unusedSimpArgs false
namespace Go.Proofs.Ytihmjmaabednjaa.PV
noncomputable section
open Go Go.Ev
def okT : List TypeId := [23]
theorem fair : Go.Ev.Fair Try.prog okT :=
  ⟨fun t h => by
    simp only [okT, List.contains_cons, List.contains_nil, Bool.or_false, Bool.or_eq_true, beq_iff_eq] at h
    subst h
    · exact Try.stoodInHeld23
   , fun t h => by
    simp only [okT, List.contains_cons, List.contains_nil, Bool.or_false, Bool.or_eq_true, beq_iff_eq] at h
    subst h
    · exact Try.eqGuardType23
  ⟩
theorem mix : Try.prog.follows .mixedOrders = true := Checked.mixed Try.checked
def RO : FuncId → Bool := fun _ => true
abbrev NOV : Ov := fun _ _ _ _ => none
abbrev NOH : Hd := fun _ _ _ _ => none
def T0 : List Row := []
theorem T0_ok : PSound Try.prog (lookR T0) := lookR_nil
def FS : List FuncId := [37, 42]
theorem FS_ok : Names Try.prog FS := names_of (by kernel_rfl)
def ST : FuncId → Bool := fun f => memN f [42]
/- sallyport/insn.Class -/
def insn_Class0 (a0 : Int) : Int :=
  bif bif iLt a0 1 then true else iLe 70 a0 then 0
  else
    bif iLe a0 4 then 1
    else
      bif iLe a0 10 then 2
      else
        bif iLe a0 17 then 3
        else
          bif iLe a0 21 then 4
          else
            bif iLe a0 34 then 5
            else
              bif iLe a0 49 then 6 else bif iLe a0 51 then 7 else bif iLe a0 53 then 8 else bif iLe a0 59 then 9 else bif iLe a0 62 then 10 else bif iLe a0 65 then 11 else bif iLe a0 69 then 12 else 0
def insn_ClassG (a0 : Int) : Bool :=
  bif bif iLt a0 1 then true else iLe 70 a0 then true
  else
    bif iLe a0 4 then true
    else
      bif iLe a0 10 then true
      else
        bif iLe a0 17 then true
        else
          bif iLe a0 21 then true
          else
            bif iLe a0 34 then true
            else
              bif iLe a0 49 then true
              else bif iLe a0 51 then true else bif iLe a0 53 then true else bif iLe a0 59 then true else bif iLe a0 62 then true else bif iLe a0 65 then true else bif iLe a0 69 then true else true
def insn_ClassV (a0 : Int) : AV := .it .i64 (insn_Class0 a0)
theorem insn_ClassE (g : Nat → AV) : pcOf Try.prog okT (lookR T0) (inlO Try.prog okT (lookR T0) RO FS 400 ST (hOnce Try.prog 41 55 21) 8) RO NOV 100 false Try.f23 (norms [(.int .i64)] 0 g) = some (insn_ClassG ((g 0).num), insn_ClassV ((g 0).num)) := by kernel_rfl
theorem insn_ClassP : Plain Try.prog 23 Try.f23 := ⟨Try.func23, of_decide_eq_true (by kernel_rfl)⟩
theorem insn_ClassT (a0 : Int) : insn_ClassG a0 = true := by
  unfold insn_ClassG
  simp only [Go.Ev.cS1, Go.Ev.cS2, Go.Ev.cS3, Go.Ev.cS4, Go.Ev.cS6, Go.Ev.cS7]
theorem insn_ClassO : RowOk Try.prog 23 (rowF [(.int .i64)] none fun g => insn_ClassV ((g 0).num)) := rowT_ok fun g => pcOf_ok mix fair T0_ok (inlO_ok mix fair T0_ok FS_ok (fun _ h => hOnce_ok once_ok h) 8) insn_ClassP (fun c _ => OvOk_none c) (insn_ClassE g) (insn_ClassT ((g 0).num))
def T23 : List Row := (23, (rowF [(.int .i64)] none fun g => insn_ClassV ((g 0).num))) :: T0
theorem T23_ok : PSound Try.prog (lookR T23) := lookR_cons insn_ClassO T0_ok

theorem class_zero {op : Int} (h : iEq (insn_Class0 op) 0 = false) : iIn op 70 = true := by
  by_cases hr : 1 ≤ op ∧ op < 70
  · exact iIn_true.2 ⟨by omega, by omega⟩
  · have : (bif iLt op 1 then true else iLe 70 op) = true := by
      cases h1 : iLt op 1 with
      | true => rfl
      | false => rw [cond_false, iLe_true]; rw [iLt_false] at h1; omega
    unfold insn_Class0 at h
    rw [this, cond_true] at h
    cases h
/- sallyport/insn.Name -/
def insn_Name0 (a0 : Int) : List UInt8 :=
  bif iEq (insn_Class0 a0) 0 then []
  else
    bif a0.toNat == 69 then [104, 115, 118, 46, 100]
    else
      bif a0.toNat == 68 then [104, 108, 118, 120, 46, 119, 117]
      else
        bif a0.toNat == 67 then [104, 108, 118, 46, 100]
        else
          bif a0.toNat == 66 then [104, 108, 118, 46, 119]
          else
            bif a0.toNat == 65 then [104, 102, 101, 110, 99, 101, 46, 103, 118, 109, 97]
            else
              bif a0.toNat == 64 then [104, 102, 101, 110, 99, 101, 46, 118, 118, 109, 97]
              else
                bif a0.toNat == 63 then [115, 102, 101, 110, 99, 101, 46, 118, 109, 97]
                else
                  bif a0.toNat == 62 then [119, 102, 105]
                  else
                    bif a0.toNat == 61 then [115, 114, 101, 116]
                    else
                      bif a0.toNat == 60 then [109, 114, 101, 116]
                      else
                        bif a0.toNat == 59 then [99, 115, 114, 114, 99, 105]
                        else
                          bif a0.toNat == 58 then [99, 115, 114, 114, 115, 105]
                          else
                            bif a0.toNat == 57 then [99, 115, 114, 114, 119, 105]
                            else
                              bif a0.toNat == 56 then [99, 115, 114, 114, 99]
                              else
                                bif a0.toNat == 55 then [99, 115, 114, 114, 115]
                                else
                                  bif a0.toNat == 54 then [99, 115, 114, 114, 119]
                                  else
                                    bif a0.toNat == 53 then [101, 98, 114, 101, 97, 107]
                                    else
                                      bif a0.toNat == 52 then [101, 99, 97, 108, 108]
                                      else
                                        bif a0.toNat == 51 then [102, 101, 110, 99, 101, 46, 105]
                                        else
                                          bif a0.toNat == 50 then [102, 101, 110, 99, 101]
                                          else
                                            bif a0.toNat == 49 then [115, 114, 97, 119]
                                            else
                                              bif a0.toNat == 48 then [115, 114, 108, 119]
                                              else
                                                bif a0.toNat == 47 then [115, 108, 108, 119]
                                                else
                                                  bif a0.toNat == 46 then [115, 117, 98, 119]
                                                  else
                                                    bif a0.toNat == 45 then [97, 100, 100, 119]
                                                    else
                                                      bif a0.toNat == 44 then [97, 110, 100]
                                                      else
                                                        bif a0.toNat == 43 then [111, 114]
                                                        else
                                                          bif a0.toNat == 42 then [115, 114, 97]
                                                          else
                                                            bif a0.toNat == 41 then [115, 114, 108]
                                                            else
                                                              bif a0.toNat == 40 then [120, 111, 114]
                                                              else
                                                                bif a0.toNat == 39 then [115, 108, 116, 117]
                                                                else
                                                                  bif a0.toNat == 38 then [115, 108, 116]
                                                                  else
                                                                    bif a0.toNat == 37 then [115, 108, 108]
                                                                    else
                                                                      bif a0.toNat == 36 then [115, 117, 98]
                                                                      else
                                                                        bif a0.toNat == 35 then [97, 100, 100]
                                                                        else
                                                                          bif a0.toNat == 34 then [115, 114, 97, 105, 119]
                                                                          else
                                                                            bif a0.toNat == 33 then [115, 114, 108, 105, 119]
                                                                            else
                                                                              bif a0.toNat == 32 then [115, 108, 108, 105, 119]
                                                                              else
                                                                                bif a0.toNat == 31 then [97, 100, 100, 105, 119]
                                                                                else
                                                                                  bif a0.toNat == 30 then [115, 114, 97, 105]
                                                                                  else
                                                                                    bif a0.toNat == 29 then [115, 114, 108, 105]
                                                                                    else
                                                                                      bif a0.toNat == 28 then [115, 108, 108, 105]
                                                                                      else
                                                                                        bif a0.toNat == 27 then [97, 110, 100, 105]
                                                                                        else
                                                                                          bif a0.toNat == 26 then [111, 114, 105]
                                                                                          else
                                                                                            bif a0.toNat == 25 then [120, 111, 114, 105]
                                                                                            else
                                                                                              bif a0.toNat == 24 then [115, 108, 116, 105, 117]
                                                                                              else
                                                                                                bif a0.toNat == 23 then [115, 108, 116, 105]
                                                                                                else
                                                                                                  bif a0.toNat == 22 then [97, 100, 100, 105]
                                                                                                  else
                                                                                                    bif a0.toNat == 21 then [115, 100]
                                                                                                    else
                                                                                                      bif a0.toNat == 20 then [115, 119]
                                                                                                      else
                                                                                                        bif a0.toNat == 19 then [115, 104]
                                                                                                        else
                                                                                                          bif a0.toNat == 18 then [115, 98]
                                                                                                          else
                                                                                                            bif a0.toNat == 17 then [108, 119, 117]
                                                                                                            else
                                                                                                              bif a0.toNat == 16 then [108, 104, 117]
                                                                                                              else
                                                                                                                bif a0.toNat == 15 then [108, 98, 117]
                                                                                                                else
                                                                                                                  bif a0.toNat == 14 then [108, 100]
                                                                                                                  else
                                                                                                                    bif a0.toNat == 13 then [108, 119]
                                                                                                                    else
                                                                                                                      bif a0.toNat == 12 then [108, 104]
                                                                                                                      else
                                                                                                                        bif a0.toNat == 11 then [108, 98]
                                                                                                                        else
                                                                                                                          bif a0.toNat == 10 then [98, 103, 101, 117]
                                                                                                                          else
                                                                                                                            bif a0.toNat == 9 then [98, 108, 116, 117]
                                                                                                                            else
                                                                                                                              bif a0.toNat == 8 then [98, 103, 101]
                                                                                                                              else
                                                                                                                                bif a0.toNat == 7 then [98, 108, 116]
                                                                                                                                else
                                                                                                                                  bif a0.toNat == 6 then [98, 110, 101]
                                                                                                                                  else
                                                                                                                                    bif a0.toNat == 5 then [98, 101, 113]
                                                                                                                                    else
                                                                                                                                      bif a0.toNat == 4 then [106, 97, 108, 114]
                                                                                                                                      else
                                                                                                                                        bif a0.toNat == 3 then [106, 97, 108]
                                                                                                                                        else
                                                                                                                                          bif a0.toNat == 2 then [97, 117, 105, 112, 99]
                                                                                                                                          else bif a0.toNat == 1 then [108, 117, 105] else []
def insn_NameG (a0 : Int) : Bool :=
  bif iEq (insn_Class0 a0) 0 then true else iIn a0 70 && true
def insn_NameV (a0 : Int) : AV := .st (insn_Name0 a0)
theorem insn_NameE (g : Nat → AV) : pcOf Try.prog okT (lookR T23) (inlO Try.prog okT (lookR T23) RO FS 400 ST (hOnce Try.prog 41 55 21) 8) RO NOV 100 false Try.f28 (norms [(.int .i64)] 0 g) = some (insn_NameG ((g 0).num), insn_NameV ((g 0).num)) := by kernel_rfl
theorem insn_NameP : Plain Try.prog 28 Try.f28 := ⟨Try.func28, of_decide_eq_true (by kernel_rfl)⟩
theorem insn_NameT (a0 : Int) : insn_NameG a0 = true := by
  unfold insn_NameG
  cases h : iEq (insn_Class0 a0) 0 with
  | true => rfl
  | false => rw [class_zero h]; rfl
theorem insn_NameO : RowOk Try.prog 28 (rowF [(.int .i64)] none fun g => insn_NameV ((g 0).num)) := rowT_ok fun g => pcOf_ok mix fair T23_ok (inlO_ok mix fair T23_ok FS_ok (fun _ h => hOnce_ok once_ok h) 8) insn_NameP (fun c _ => OvOk_none c) (insn_NameE g) (insn_NameT ((g 0).num))
def T28 : List Row := (28, (rowF [(.int .i64)] none fun g => insn_NameV ((g 0).num))) :: T23
theorem T28_ok : PSound Try.prog (lookR T28) := lookR_cons insn_NameO T23_ok

/- sallyport/insn.jumps -/
def insn_jumps0r (a0 : Int) : Bool :=
  bif iEq a0 3 then true else bif iEq a0 4 then true else true
def insn_jumps1r (a0 : Int) : Bool :=
  bif iEq a0 3 then false else bif iEq a0 4 then false else false
def insn_jumps2 (a0 : Int) : Bool :=
  bif iEq a0 3 then false else iEq a0 4
def insn_jumps2r (a0 : Int) : Bool :=
  bif iEq a0 3 then false else bif iEq a0 4 then true else false
def insn_jumps3r (a0 : Int) : Bool :=
  bif iEq a0 3 then false else bif iEq a0 4 then false else false
def insn_jumps4 (a0 : Int) : Int :=
  bif iEq a0 3 then -1048576 else bif iEq a0 4 then -2048 else -2147483648
def insn_jumps5 (a0 : Int) : Int :=
  bif iEq a0 3 then 1048574 else bif iEq a0 4 then 2047 else 2147479552
def insn_jumps6 (a0 : Int) : Int :=
  bif iEq a0 3 then 2 else bif iEq a0 4 then 1 else 4096
def insn_jumpsG (a0 : Int) : Bool :=
  bif iEq a0 3 then true else bif iEq a0 4 then true else true
theorem insn_jumps0_eq (a0 : Int)  : insn_jumps0r a0  = true := by
  unfold insn_jumps0r
  first | (simp only [Go.Ev.cS1, Go.Ev.cS2, Go.Ev.cS3, Go.Ev.cS4, Go.Ev.cS6, Go.Ev.cS7]; done) | (simp only [Go.Ev.cS1, Go.Ev.cS2, Go.Ev.cS3, Go.Ev.cS4, Go.Ev.cS6, Go.Ev.cS7]; kernel_rfl)
theorem insn_jumps1_eq (a0 : Int)  : insn_jumps1r a0  = false := by
  unfold insn_jumps1r
  first | (simp only [Go.Ev.cS1, Go.Ev.cS2, Go.Ev.cS3, Go.Ev.cS4, Go.Ev.cS6, Go.Ev.cS7]; done) | (simp only [Go.Ev.cS1, Go.Ev.cS2, Go.Ev.cS3, Go.Ev.cS4, Go.Ev.cS6, Go.Ev.cS7]; kernel_rfl)
theorem insn_jumps2_eq (a0 : Int)  : insn_jumps2r a0  = insn_jumps2 a0  := by
  unfold insn_jumps2r
  first | (simp only [Go.Ev.cS1, Go.Ev.cS2, Go.Ev.cS3, Go.Ev.cS4, Go.Ev.cS6, Go.Ev.cS7]; done) | (simp only [Go.Ev.cS1, Go.Ev.cS2, Go.Ev.cS3, Go.Ev.cS4, Go.Ev.cS6, Go.Ev.cS7]; kernel_rfl)
theorem insn_jumps3_eq (a0 : Int)  : insn_jumps3r a0  = false := by
  unfold insn_jumps3r
  first | (simp only [Go.Ev.cS1, Go.Ev.cS2, Go.Ev.cS3, Go.Ev.cS4, Go.Ev.cS6, Go.Ev.cS7]; done) | (simp only [Go.Ev.cS1, Go.Ev.cS2, Go.Ev.cS3, Go.Ev.cS4, Go.Ev.cS6, Go.Ev.cS7]; kernel_rfl)
def insn_jumpsV (a0 : Int) : AV := .agg [.bl true, .bl false, .bl (insn_jumps2 a0), .bl false, .it .i64 (insn_jumps4 a0), .it .i64 (insn_jumps5 a0), .it .i64 (insn_jumps6 a0)]
def insn_jumpsVr (a0 : Int) : AV := .agg [.bl (insn_jumps0r a0), .bl (insn_jumps1r a0), .bl (insn_jumps2r a0), .bl (insn_jumps3r a0), .it .i64 (insn_jumps4 a0), .it .i64 (insn_jumps5 a0), .it .i64 (insn_jumps6 a0)]
theorem insn_jumpsV_eq (a0 : Int) : insn_jumpsVr a0 = insn_jumpsV a0 := by
  unfold insn_jumpsVr insn_jumpsV
  simp only [insn_jumps0_eq, insn_jumps1_eq, insn_jumps2_eq, insn_jumps3_eq]
theorem insn_jumpsE (g : Nat → AV) : pcOf Try.prog okT (lookR T28) (inlO Try.prog okT (lookR T28) RO FS 400 ST (hOnce Try.prog 41 55 21) 8) RO NOV 100 false Try.f38 (norms [(.int .i64)] 0 g) = some (insn_jumpsG ((g 0).num), insn_jumpsV ((g 0).num)) :=
  (by kernel_rfl : pcOf Try.prog okT (lookR T28) (inlO Try.prog okT (lookR T28) RO FS 400 ST (hOnce Try.prog 41 55 21) 8) RO NOV 100 false Try.f38 (norms [(.int .i64)] 0 g) = some (insn_jumpsG ((g 0).num), insn_jumpsVr ((g 0).num))).trans (by rw [insn_jumpsV_eq])
theorem insn_jumpsP : Plain Try.prog 38 Try.f38 := ⟨Try.func38, of_decide_eq_true (by kernel_rfl)⟩
theorem insn_jumpsT (a0 : Int) : insn_jumpsG a0 = true := by
  unfold insn_jumpsG
  simp only [Go.Ev.cS1, Go.Ev.cS2, Go.Ev.cS3, Go.Ev.cS4, Go.Ev.cS6, Go.Ev.cS7]
theorem insn_jumpsO : RowOk Try.prog 38 (rowF [(.int .i64)] none fun g => insn_jumpsV ((g 0).num)) := rowT_ok fun g => pcOf_ok mix fair T28_ok (inlO_ok mix fair T28_ok FS_ok (fun _ h => hOnce_ok once_ok h) 8) insn_jumpsP (fun c _ => OvOk_none c) (insn_jumpsE g) (insn_jumpsT ((g 0).num))
def T38 : List Row := (38, (rowF [(.int .i64)] none fun g => insn_jumpsV ((g 0).num))) :: T28
theorem T38_ok : PSound Try.prog (lookR T38) := lookR_cons insn_jumpsO T28_ok

/- sallyport/insn.withNumber -/
def insn_withNumber_c0 (a0 : Int) : Bool :=
  bif iEq a0 32 then bif iEq a0 32 then true else true else bif iEq a0 33 then bif iEq a0 33 then true else true else bif iEq a0 34 then true else true
def insn_withNumber_c1 (a0 : Int) : Bool :=
  bif iEq a0 28 then bif iEq a0 28 then true else insn_withNumber_c0 a0 else bif iEq a0 29 then bif iEq a0 29 then true else insn_withNumber_c0 a0 else bif iEq a0 30 then true else insn_withNumber_c0 a0
def insn_withNumber_c2 (a0 : Int) : Bool :=
  bif iEq a0 32 then bif iEq a0 32 then false else false else bif iEq a0 33 then bif iEq a0 33 then false else false else bif iEq a0 34 then false else false
def insn_withNumber_c3 (a0 : Int) : Bool :=
  bif iEq a0 28 then bif iEq a0 28 then false else insn_withNumber_c2 a0
  else bif iEq a0 29 then bif iEq a0 29 then false else insn_withNumber_c2 a0 else bif iEq a0 30 then false else insn_withNumber_c2 a0
def insn_withNumber_c4 (a0 : Int) : Int :=
  bif iEq a0 32 then bif iEq a0 32 then 0 else -2048 else bif iEq a0 33 then bif iEq a0 33 then 0 else -2048 else bif iEq a0 34 then 0 else -2048
def insn_withNumber_c5 (a0 : Int) : Int :=
  bif iEq a0 32 then bif iEq a0 32 then 31 else 2047 else bif iEq a0 33 then bif iEq a0 33 then 31 else 2047 else bif iEq a0 34 then 31 else 2047
def insn_withNumber_c6 (a0 : Int) : Int :=
  bif iEq a0 32 then bif iEq a0 32 then 1 else 1 else bif iEq a0 33 then bif iEq a0 33 then 1 else 1 else bif iEq a0 34 then 1 else 1
def insn_withNumber0r (a0 : Int) : Bool :=
  insn_withNumber_c1 a0
def insn_withNumber1r (a0 : Int) : Bool :=
  insn_withNumber_c3 a0
def insn_withNumber2r (a0 : Int) : Bool :=
  insn_withNumber_c1 a0
def insn_withNumber3r (a0 : Int) : Bool :=
  insn_withNumber_c3 a0
def insn_withNumber4 (a0 : Int) : Int :=
  bif iEq a0 28 then 0 else bif iEq a0 29 then 0 else bif iEq a0 30 then 0 else bif iEq a0 32 then 0 else bif iEq a0 33 then 0 else bif iEq a0 34 then 0 else -2048
def insn_withNumber4r (a0 : Int) : Int :=
  bif iEq a0 28 then bif iEq a0 28 then 0 else insn_withNumber_c4 a0 else bif iEq a0 29 then bif iEq a0 29 then 0 else insn_withNumber_c4 a0 else bif iEq a0 30 then 0 else insn_withNumber_c4 a0
def insn_withNumber5 (a0 : Int) : Int :=
  bif iEq a0 28 then 63 else bif iEq a0 29 then 63 else bif iEq a0 30 then 63 else bif iEq a0 32 then 31 else bif iEq a0 33 then 31 else bif iEq a0 34 then 31 else 2047
def insn_withNumber5r (a0 : Int) : Int :=
  bif iEq a0 28 then bif iEq a0 28 then 63 else insn_withNumber_c5 a0 else bif iEq a0 29 then bif iEq a0 29 then 63 else insn_withNumber_c5 a0 else bif iEq a0 30 then 63 else insn_withNumber_c5 a0
def insn_withNumber6r (a0 : Int) : Int :=
  bif iEq a0 28 then bif iEq a0 28 then 1 else insn_withNumber_c6 a0 else bif iEq a0 29 then bif iEq a0 29 then 1 else insn_withNumber_c6 a0 else bif iEq a0 30 then 1 else insn_withNumber_c6 a0
def insn_withNumberG (a0 : Int) : Bool :=
  insn_withNumber_c1 a0
theorem insn_withNumber0_eq (a0 : Int)  : insn_withNumber0r a0  = true := by
  unfold insn_withNumber0r
  first | (simp only [insn_withNumber_c0, insn_withNumber_c1, insn_withNumber_c2, insn_withNumber_c3, insn_withNumber_c4, insn_withNumber_c5, insn_withNumber_c6, Go.Ev.cS1, Go.Ev.cS2, Go.Ev.cS3, Go.Ev.cS4, Go.Ev.cS6, Go.Ev.cS7]; done) | (simp only [insn_withNumber_c0, insn_withNumber_c1, insn_withNumber_c2, insn_withNumber_c3, insn_withNumber_c4, insn_withNumber_c5, insn_withNumber_c6, Go.Ev.cS1, Go.Ev.cS2, Go.Ev.cS3, Go.Ev.cS4, Go.Ev.cS6, Go.Ev.cS7]; kernel_rfl)
theorem insn_withNumber1_eq (a0 : Int)  : insn_withNumber1r a0  = false := by
  unfold insn_withNumber1r
  first | (simp only [insn_withNumber_c0, insn_withNumber_c1, insn_withNumber_c2, insn_withNumber_c3, insn_withNumber_c4, insn_withNumber_c5, insn_withNumber_c6, Go.Ev.cS1, Go.Ev.cS2, Go.Ev.cS3, Go.Ev.cS4, Go.Ev.cS6, Go.Ev.cS7]; done) | (simp only [insn_withNumber_c0, insn_withNumber_c1, insn_withNumber_c2, insn_withNumber_c3, insn_withNumber_c4, insn_withNumber_c5, insn_withNumber_c6, Go.Ev.cS1, Go.Ev.cS2, Go.Ev.cS3, Go.Ev.cS4, Go.Ev.cS6, Go.Ev.cS7]; kernel_rfl)
theorem insn_withNumber2_eq (a0 : Int)  : insn_withNumber2r a0  = true := by
  unfold insn_withNumber2r
  first | (simp only [insn_withNumber_c0, insn_withNumber_c1, insn_withNumber_c2, insn_withNumber_c3, insn_withNumber_c4, insn_withNumber_c5, insn_withNumber_c6, Go.Ev.cS1, Go.Ev.cS2, Go.Ev.cS3, Go.Ev.cS4, Go.Ev.cS6, Go.Ev.cS7]; done) | (simp only [insn_withNumber_c0, insn_withNumber_c1, insn_withNumber_c2, insn_withNumber_c3, insn_withNumber_c4, insn_withNumber_c5, insn_withNumber_c6, Go.Ev.cS1, Go.Ev.cS2, Go.Ev.cS3, Go.Ev.cS4, Go.Ev.cS6, Go.Ev.cS7]; kernel_rfl)
theorem insn_withNumber3_eq (a0 : Int)  : insn_withNumber3r a0  = false := by
  unfold insn_withNumber3r
  first | (simp only [insn_withNumber_c0, insn_withNumber_c1, insn_withNumber_c2, insn_withNumber_c3, insn_withNumber_c4, insn_withNumber_c5, insn_withNumber_c6, Go.Ev.cS1, Go.Ev.cS2, Go.Ev.cS3, Go.Ev.cS4, Go.Ev.cS6, Go.Ev.cS7]; done) | (simp only [insn_withNumber_c0, insn_withNumber_c1, insn_withNumber_c2, insn_withNumber_c3, insn_withNumber_c4, insn_withNumber_c5, insn_withNumber_c6, Go.Ev.cS1, Go.Ev.cS2, Go.Ev.cS3, Go.Ev.cS4, Go.Ev.cS6, Go.Ev.cS7]; kernel_rfl)
theorem insn_withNumber4_eq (a0 : Int)  : insn_withNumber4r a0  = insn_withNumber4 a0  := by
  unfold insn_withNumber4r
  first | (simp only [insn_withNumber_c0, insn_withNumber_c1, insn_withNumber_c2, insn_withNumber_c3, insn_withNumber_c4, insn_withNumber_c5, insn_withNumber_c6, Go.Ev.cS1, Go.Ev.cS2, Go.Ev.cS3, Go.Ev.cS4, Go.Ev.cS6, Go.Ev.cS7]; done) | (simp only [insn_withNumber_c0, insn_withNumber_c1, insn_withNumber_c2, insn_withNumber_c3, insn_withNumber_c4, insn_withNumber_c5, insn_withNumber_c6, Go.Ev.cS1, Go.Ev.cS2, Go.Ev.cS3, Go.Ev.cS4, Go.Ev.cS6, Go.Ev.cS7]; kernel_rfl)
theorem insn_withNumber5_eq (a0 : Int)  : insn_withNumber5r a0  = insn_withNumber5 a0  := by
  unfold insn_withNumber5r
  first | (simp only [insn_withNumber_c0, insn_withNumber_c1, insn_withNumber_c2, insn_withNumber_c3, insn_withNumber_c4, insn_withNumber_c5, insn_withNumber_c6, Go.Ev.cS1, Go.Ev.cS2, Go.Ev.cS3, Go.Ev.cS4, Go.Ev.cS6, Go.Ev.cS7]; done) | (simp only [insn_withNumber_c0, insn_withNumber_c1, insn_withNumber_c2, insn_withNumber_c3, insn_withNumber_c4, insn_withNumber_c5, insn_withNumber_c6, Go.Ev.cS1, Go.Ev.cS2, Go.Ev.cS3, Go.Ev.cS4, Go.Ev.cS6, Go.Ev.cS7]; kernel_rfl)
theorem insn_withNumber6_eq (a0 : Int)  : insn_withNumber6r a0  = 1 := by
  unfold insn_withNumber6r
  first | (simp only [insn_withNumber_c0, insn_withNumber_c1, insn_withNumber_c2, insn_withNumber_c3, insn_withNumber_c4, insn_withNumber_c5, insn_withNumber_c6, Go.Ev.cS1, Go.Ev.cS2, Go.Ev.cS3, Go.Ev.cS4, Go.Ev.cS6, Go.Ev.cS7]; done) | (simp only [insn_withNumber_c0, insn_withNumber_c1, insn_withNumber_c2, insn_withNumber_c3, insn_withNumber_c4, insn_withNumber_c5, insn_withNumber_c6, Go.Ev.cS1, Go.Ev.cS2, Go.Ev.cS3, Go.Ev.cS4, Go.Ev.cS6, Go.Ev.cS7]; kernel_rfl)
def insn_withNumberV (a0 : Int) : AV := .agg [.bl true, .bl false, .bl true, .bl false, .it .i64 (insn_withNumber4 a0), .it .i64 (insn_withNumber5 a0), .it .i64 1]
def insn_withNumberVr (a0 : Int) : AV := .agg [.bl (insn_withNumber0r a0), .bl (insn_withNumber1r a0), .bl (insn_withNumber2r a0), .bl (insn_withNumber3r a0), .it .i64 (insn_withNumber4r a0), .it .i64 (insn_withNumber5r a0), .it .i64 (insn_withNumber6r a0)]
theorem insn_withNumberV_eq (a0 : Int) : insn_withNumberVr a0 = insn_withNumberV a0 := by
  unfold insn_withNumberVr insn_withNumberV
  simp only [insn_withNumber0_eq, insn_withNumber1_eq, insn_withNumber2_eq, insn_withNumber3_eq, insn_withNumber4_eq, insn_withNumber5_eq, insn_withNumber6_eq]
theorem insn_withNumberE (g : Nat → AV) : pcOf Try.prog okT (lookR T38) (inlO Try.prog okT (lookR T38) RO FS 400 ST (hOnce Try.prog 41 55 21) 8) RO NOV 100 false Try.f39 (norms [(.int .i64)] 0 g) = some (insn_withNumberG ((g 0).num), insn_withNumberV ((g 0).num)) :=
  (by kernel_rfl : pcOf Try.prog okT (lookR T38) (inlO Try.prog okT (lookR T38) RO FS 400 ST (hOnce Try.prog 41 55 21) 8) RO NOV 100 false Try.f39 (norms [(.int .i64)] 0 g) = some (insn_withNumberG ((g 0).num), insn_withNumberVr ((g 0).num))).trans (by rw [insn_withNumberV_eq])
theorem insn_withNumberP : Plain Try.prog 39 Try.f39 := ⟨Try.func39, of_decide_eq_true (by kernel_rfl)⟩
theorem insn_withNumberT (a0 : Int) : insn_withNumberG a0 = true := by
  unfold insn_withNumberG
  simp only [insn_withNumber_c0, insn_withNumber_c1, insn_withNumber_c2, insn_withNumber_c3, insn_withNumber_c4, insn_withNumber_c5, insn_withNumber_c6, Go.Ev.cS1, Go.Ev.cS2, Go.Ev.cS3, Go.Ev.cS4, Go.Ev.cS6, Go.Ev.cS7]
theorem insn_withNumberO : RowOk Try.prog 39 (rowF [(.int .i64)] none fun g => insn_withNumberV ((g 0).num)) := rowT_ok fun g => pcOf_ok mix fair T38_ok (inlO_ok mix fair T38_ok FS_ok (fun _ h => hOnce_ok once_ok h) 8) insn_withNumberP (fun c _ => OvOk_none c) (insn_withNumberE g) (insn_withNumberT ((g 0).num))
def T39 : List Row := (39, (rowF [(.int .i64)] none fun g => insn_withNumberV ((g 0).num))) :: T38
theorem T39_ok : PSound Try.prog (lookR T39) := lookR_cons insn_withNumberO T38_ok

/- sallyport/insn.Of -/
def insn_Of_c0 (a0 : Int) : Int :=
  bif iEq (insn_Class0 a0) 11 then 0 else bif iEq (insn_Class0 a0) 12 then bif iEq a0 69 then 0 else 0 else 0
def insn_Of0 (a0 : Int) : Bool :=
  bif iEq (insn_Class0 a0) 1 then true
  else
    bif iEq (insn_Class0 a0) 2 then false
    else
      bif iEq (insn_Class0 a0) 3 then true
      else
        bif iEq (insn_Class0 a0) 4 then false
        else
          bif iEq (insn_Class0 a0) 5 then true
          else
            bif iEq (insn_Class0 a0) 6 then true
            else bif iEq (insn_Class0 a0) 9 then true else bif iEq (insn_Class0 a0) 11 then false else bif iEq (insn_Class0 a0) 12 then bif iEq a0 69 then false else true else false
def insn_Of0r (a0 : Int) : Bool :=
  bif iEq (insn_Class0 a0) 1 then true
  else
    bif iEq (insn_Class0 a0) 2 then false
    else
      bif iEq (insn_Class0 a0) 3 then true
      else
        bif iEq (insn_Class0 a0) 4 then false
        else
          bif iEq (insn_Class0 a0) 5 then true
          else
            bif iEq (insn_Class0 a0) 6 then true
            else
              bif iEq (insn_Class0 a0) 9 then bif iLe 57 a0 then true else true
              else bif iEq (insn_Class0 a0) 11 then false else bif iEq (insn_Class0 a0) 12 then bif iEq a0 69 then false else true else false
def insn_Of1 (a0 : Int) : Bool :=
  bif iEq (insn_Class0 a0) 1 then false
  else
    bif iEq (insn_Class0 a0) 2 then false
    else
      bif iEq (insn_Class0 a0) 3 then false else bif iEq (insn_Class0 a0) 4 then false else bif iEq (insn_Class0 a0) 5 then false else bif iEq (insn_Class0 a0) 6 then false else iEq (insn_Class0 a0) 9
def insn_Of1r (a0 : Int) : Bool :=
  bif iEq (insn_Class0 a0) 1 then false
  else
    bif iEq (insn_Class0 a0) 2 then false
    else
      bif iEq (insn_Class0 a0) 3 then false
      else
        bif iEq (insn_Class0 a0) 4 then false
        else
          bif iEq (insn_Class0 a0) 5 then false
          else
            bif iEq (insn_Class0 a0) 6 then false
            else
              bif iEq (insn_Class0 a0) 9 then bif iLe 57 a0 then true else true
              else bif iEq (insn_Class0 a0) 11 then false else bif iEq (insn_Class0 a0) 12 then bif iEq a0 69 then false else false else false
def insn_Of2 (a0 : Int) : Bool :=
  bif iEq (insn_Class0 a0) 1 then insn_jumps2 a0
  else
    bif iEq (insn_Class0 a0) 2 then true
    else
      bif iEq (insn_Class0 a0) 3 then true
      else
        bif iEq (insn_Class0 a0) 4 then true
        else
          bif iEq (insn_Class0 a0) 5 then true
          else bif iEq (insn_Class0 a0) 6 then true else bif iEq (insn_Class0 a0) 9 then bif iLe 57 a0 then false else true else bif iEq (insn_Class0 a0) 11 then true else iEq (insn_Class0 a0) 12
def insn_Of2r (a0 : Int) : Bool :=
  bif iEq (insn_Class0 a0) 1 then insn_jumps2 a0
  else
    bif iEq (insn_Class0 a0) 2 then true
    else
      bif iEq (insn_Class0 a0) 3 then true
      else
        bif iEq (insn_Class0 a0) 4 then true
        else
          bif iEq (insn_Class0 a0) 5 then true
          else
            bif iEq (insn_Class0 a0) 6 then true
            else
              bif iEq (insn_Class0 a0) 9 then bif iLe 57 a0 then false else true
              else bif iEq (insn_Class0 a0) 11 then true else bif iEq (insn_Class0 a0) 12 then bif iEq a0 69 then true else true else false
def insn_Of3 (a0 : Int) : Bool :=
  bif iEq (insn_Class0 a0) 1 then false
  else
    bif iEq (insn_Class0 a0) 2 then true
    else
      bif iEq (insn_Class0 a0) 3 then false
      else
        bif iEq (insn_Class0 a0) 4 then true
        else
          bif iEq (insn_Class0 a0) 5 then false
          else bif iEq (insn_Class0 a0) 6 then true else bif iEq (insn_Class0 a0) 9 then false else bif iEq (insn_Class0 a0) 11 then true else bif iEq (insn_Class0 a0) 12 then iEq a0 69 else false
def insn_Of3r (a0 : Int) : Bool :=
  bif iEq (insn_Class0 a0) 1 then false
  else
    bif iEq (insn_Class0 a0) 2 then true
    else
      bif iEq (insn_Class0 a0) 3 then false
      else
        bif iEq (insn_Class0 a0) 4 then true
        else
          bif iEq (insn_Class0 a0) 5 then false
          else
            bif iEq (insn_Class0 a0) 6 then true
            else
              bif iEq (insn_Class0 a0) 9 then bif iLe 57 a0 then false else false
              else bif iEq (insn_Class0 a0) 11 then true else bif iEq (insn_Class0 a0) 12 then bif iEq a0 69 then true else false else false
def insn_Of4 (a0 : Int) : Int :=
  bif iEq (insn_Class0 a0) 1 then insn_jumps4 a0
  else bif iEq (insn_Class0 a0) 2 then -4096 else bif iEq (insn_Class0 a0) 3 then -2048 else bif iEq (insn_Class0 a0) 4 then -2048 else bif iEq (insn_Class0 a0) 5 then insn_withNumber4 a0 else 0
def insn_Of4r (a0 : Int) : Int :=
  bif iEq (insn_Class0 a0) 1 then insn_jumps4 a0
  else
    bif iEq (insn_Class0 a0) 2 then -4096
    else
      bif iEq (insn_Class0 a0) 3 then -2048
      else
        bif iEq (insn_Class0 a0) 4 then -2048
        else bif iEq (insn_Class0 a0) 5 then insn_withNumber4 a0 else bif iEq (insn_Class0 a0) 6 then 0 else bif iEq (insn_Class0 a0) 9 then bif iLe 57 a0 then 0 else 0 else insn_Of_c0 a0
def insn_Of5 (a0 : Int) : Int :=
  bif iEq (insn_Class0 a0) 1 then insn_jumps5 a0
  else
    bif iEq (insn_Class0 a0) 2 then 4094
    else
      bif iEq (insn_Class0 a0) 3 then 2047
      else
        bif iEq (insn_Class0 a0) 4 then 2047
        else bif iEq (insn_Class0 a0) 5 then insn_withNumber5 a0 else bif iEq (insn_Class0 a0) 6 then 0 else bif iEq (insn_Class0 a0) 9 then bif iLe 57 a0 then 31 else 0 else 0
def insn_Of5r (a0 : Int) : Int :=
  bif iEq (insn_Class0 a0) 1 then insn_jumps5 a0
  else
    bif iEq (insn_Class0 a0) 2 then 4094
    else
      bif iEq (insn_Class0 a0) 3 then 2047
      else
        bif iEq (insn_Class0 a0) 4 then 2047
        else bif iEq (insn_Class0 a0) 5 then insn_withNumber5 a0 else bif iEq (insn_Class0 a0) 6 then 0 else bif iEq (insn_Class0 a0) 9 then bif iLe 57 a0 then 31 else 0 else insn_Of_c0 a0
def insn_Of6 (a0 : Int) : Int :=
  bif iEq (insn_Class0 a0) 1 then insn_jumps6 a0
  else
    bif iEq (insn_Class0 a0) 2 then 2
    else
      bif iEq (insn_Class0 a0) 3 then 1
      else bif iEq (insn_Class0 a0) 4 then 1 else bif iEq (insn_Class0 a0) 5 then 1 else bif iEq (insn_Class0 a0) 6 then 0 else bif iEq (insn_Class0 a0) 9 then bif iLe 57 a0 then 1 else 0 else 0
def insn_Of6r (a0 : Int) : Int :=
  bif iEq (insn_Class0 a0) 1 then insn_jumps6 a0
  else
    bif iEq (insn_Class0 a0) 2 then 2
    else
      bif iEq (insn_Class0 a0) 3 then 1
      else
        bif iEq (insn_Class0 a0) 4 then 1
        else bif iEq (insn_Class0 a0) 5 then 1 else bif iEq (insn_Class0 a0) 6 then 0 else bif iEq (insn_Class0 a0) 9 then bif iLe 57 a0 then 1 else 0 else insn_Of_c0 a0
def insn_OfG (a0 : Int) : Bool :=
  bif iEq (insn_Class0 a0) 1 then true
  else
    bif iEq (insn_Class0 a0) 2 then true
    else
      bif iEq (insn_Class0 a0) 3 then true
      else
        bif iEq (insn_Class0 a0) 4 then true
        else
          bif iEq (insn_Class0 a0) 5 then true
          else
            bif iEq (insn_Class0 a0) 6 then true
            else
              bif iEq (insn_Class0 a0) 9 then bif iLe 57 a0 then true else true
              else bif iEq (insn_Class0 a0) 11 then true else bif iEq (insn_Class0 a0) 12 then bif iEq a0 69 then true else true else true
theorem insn_Of0_eq (a0 : Int)  : insn_Of0r a0  = insn_Of0 a0  := by
  unfold insn_Of0r
  first | (simp only [insn_Of_c0, Go.Ev.cS1, Go.Ev.cS2, Go.Ev.cS3, Go.Ev.cS4, Go.Ev.cS6, Go.Ev.cS7]; done) | (simp only [insn_Of_c0, Go.Ev.cS1, Go.Ev.cS2, Go.Ev.cS3, Go.Ev.cS4, Go.Ev.cS6, Go.Ev.cS7]; kernel_rfl)
theorem insn_Of1_eq (a0 : Int)  : insn_Of1r a0  = insn_Of1 a0  := by
  unfold insn_Of1r
  first | (simp only [insn_Of_c0, Go.Ev.cS1, Go.Ev.cS2, Go.Ev.cS3, Go.Ev.cS4, Go.Ev.cS6, Go.Ev.cS7]; done) | (simp only [insn_Of_c0, Go.Ev.cS1, Go.Ev.cS2, Go.Ev.cS3, Go.Ev.cS4, Go.Ev.cS6, Go.Ev.cS7]; kernel_rfl)
theorem insn_Of2_eq (a0 : Int)  : insn_Of2r a0  = insn_Of2 a0  := by
  unfold insn_Of2r
  first | (simp only [insn_Of_c0, Go.Ev.cS1, Go.Ev.cS2, Go.Ev.cS3, Go.Ev.cS4, Go.Ev.cS6, Go.Ev.cS7]; done) | (simp only [insn_Of_c0, Go.Ev.cS1, Go.Ev.cS2, Go.Ev.cS3, Go.Ev.cS4, Go.Ev.cS6, Go.Ev.cS7]; kernel_rfl)
theorem insn_Of3_eq (a0 : Int)  : insn_Of3r a0  = insn_Of3 a0  := by
  unfold insn_Of3r
  first | (simp only [insn_Of_c0, Go.Ev.cS1, Go.Ev.cS2, Go.Ev.cS3, Go.Ev.cS4, Go.Ev.cS6, Go.Ev.cS7]; done) | (simp only [insn_Of_c0, Go.Ev.cS1, Go.Ev.cS2, Go.Ev.cS3, Go.Ev.cS4, Go.Ev.cS6, Go.Ev.cS7]; kernel_rfl)
theorem insn_Of4_eq (a0 : Int)  : insn_Of4r a0  = insn_Of4 a0  := by
  unfold insn_Of4r
  first | (simp only [insn_Of_c0, Go.Ev.cS1, Go.Ev.cS2, Go.Ev.cS3, Go.Ev.cS4, Go.Ev.cS6, Go.Ev.cS7]; done) | (simp only [insn_Of_c0, Go.Ev.cS1, Go.Ev.cS2, Go.Ev.cS3, Go.Ev.cS4, Go.Ev.cS6, Go.Ev.cS7]; kernel_rfl)
theorem insn_Of5_eq (a0 : Int)  : insn_Of5r a0  = insn_Of5 a0  := by
  unfold insn_Of5r
  first | (simp only [insn_Of_c0, Go.Ev.cS1, Go.Ev.cS2, Go.Ev.cS3, Go.Ev.cS4, Go.Ev.cS6, Go.Ev.cS7]; done) | (simp only [insn_Of_c0, Go.Ev.cS1, Go.Ev.cS2, Go.Ev.cS3, Go.Ev.cS4, Go.Ev.cS6, Go.Ev.cS7]; kernel_rfl)
theorem insn_Of6_eq (a0 : Int)  : insn_Of6r a0  = insn_Of6 a0  := by
  unfold insn_Of6r
  first | (simp only [insn_Of_c0, Go.Ev.cS1, Go.Ev.cS2, Go.Ev.cS3, Go.Ev.cS4, Go.Ev.cS6, Go.Ev.cS7]; done) | (simp only [insn_Of_c0, Go.Ev.cS1, Go.Ev.cS2, Go.Ev.cS3, Go.Ev.cS4, Go.Ev.cS6, Go.Ev.cS7]; kernel_rfl)
def insn_OfV (a0 : Int) : AV := .agg [.bl (insn_Of0 a0), .bl (insn_Of1 a0), .bl (insn_Of2 a0), .bl (insn_Of3 a0), .it .i64 (insn_Of4 a0), .it .i64 (insn_Of5 a0), .it .i64 (insn_Of6 a0)]
def insn_OfVr (a0 : Int) : AV := .agg [.bl (insn_Of0r a0), .bl (insn_Of1r a0), .bl (insn_Of2r a0), .bl (insn_Of3r a0), .it .i64 (insn_Of4r a0), .it .i64 (insn_Of5r a0), .it .i64 (insn_Of6r a0)]
theorem insn_OfV_eq (a0 : Int) : insn_OfVr a0 = insn_OfV a0 := by
  unfold insn_OfVr insn_OfV
  simp only [insn_Of0_eq, insn_Of1_eq, insn_Of2_eq, insn_Of3_eq, insn_Of4_eq, insn_Of5_eq, insn_Of6_eq]
theorem insn_OfE (g : Nat → AV) : pcOf Try.prog okT (lookR T39) (inlO Try.prog okT (lookR T39) RO FS 400 ST (hOnce Try.prog 41 55 21) 8) RO NOV 100 false Try.f32 (norms [(.int .i64)] 0 g) = some (insn_OfG ((g 0).num), insn_OfV ((g 0).num)) :=
  (by kernel_rfl : pcOf Try.prog okT (lookR T39) (inlO Try.prog okT (lookR T39) RO FS 400 ST (hOnce Try.prog 41 55 21) 8) RO NOV 100 false Try.f32 (norms [(.int .i64)] 0 g) = some (insn_OfG ((g 0).num), insn_OfVr ((g 0).num))).trans (by rw [insn_OfV_eq])
theorem insn_OfP : Plain Try.prog 32 Try.f32 := ⟨Try.func32, of_decide_eq_true (by kernel_rfl)⟩
theorem insn_OfT (a0 : Int) : insn_OfG a0 = true := by
  unfold insn_OfG
  simp only [insn_Of_c0, Go.Ev.cS1, Go.Ev.cS2, Go.Ev.cS3, Go.Ev.cS4, Go.Ev.cS6, Go.Ev.cS7]
theorem insn_OfO : RowOk Try.prog 32 (rowF [(.int .i64)] none fun g => insn_OfV ((g 0).num)) := rowT_ok fun g => pcOf_ok mix fair T39_ok (inlO_ok mix fair T39_ok FS_ok (fun _ h => hOnce_ok once_ok h) 8) insn_OfP (fun c _ => OvOk_none c) (insn_OfE g) (insn_OfT ((g 0).num))
def T32 : List Row := (32, (rowF [(.int .i64)] none fun g => insn_OfV ((g 0).num))) :: T39
theorem T32_ok : PSound Try.prog (lookR T32) := lookR_cons insn_OfO T39_ok

/- sallyport/insn.field -/
def insn_field0 (a0 : Bool) (a1 : Int) (a2 : Int) : Bool :=
  bif iEq a1 0 then true else bif bif a0 then iLt 0 a1 else false then iLt a1 a2 else false
def insn_fieldG (a0 : Bool) (a1 : Int) (a2 : Int) : Bool :=
  true
def insn_fieldV (a0 : Bool) (a1 : Int) (a2 : Int) : AV := .bl (insn_field0 a0 a1 a2)
theorem insn_fieldE (g : Nat → AV) : pcOf Try.prog okT (lookR T32) (inlO Try.prog okT (lookR T32) RO FS 400 ST (hOnce Try.prog 41 55 21) 8) RO NOV 100 false Try.f33 (norms [.bool, (.int .i64), (.int .i64)] 0 g) = some (insn_fieldG ((g 0).bool) ((g 1).num) ((g 2).num), insn_fieldV ((g 0).bool) ((g 1).num) ((g 2).num)) := by kernel_rfl
theorem insn_fieldP : Plain Try.prog 33 Try.f33 := ⟨Try.func33, of_decide_eq_true (by kernel_rfl)⟩
theorem insn_fieldT (a0 : Bool) (a1 : Int) (a2 : Int) : insn_fieldG a0 a1 a2 = true := rfl
theorem insn_fieldO : RowOk Try.prog 33 (rowF [.bool, (.int .i64), (.int .i64)] none fun g => insn_fieldV ((g 0).bool) ((g 1).num) ((g 2).num)) := rowT_ok fun g => pcOf_ok mix fair T32_ok (inlO_ok mix fair T32_ok FS_ok (fun _ h => hOnce_ok once_ok h) 8) insn_fieldP (fun c _ => OvOk_none c) (insn_fieldE g) (insn_fieldT ((g 0).bool) ((g 1).num) ((g 2).num))
def T33 : List Row := (33, (rowF [.bool, (.int .i64), (.int .i64)] none fun g => insn_fieldV ((g 0).bool) ((g 1).num) ((g 2).num))) :: T32
theorem T33_ok : PSound Try.prog (lookR T33) := lookR_cons insn_fieldO T32_ok

/- sallyport/insn.Is -/
def insn_Is0 (a0_Op : Int) (a0_Rd : Int) (a0_Rs1 : Int) (a0_Rs2 : Int) (a0_Imm : Int) (a0_CSR : Int) : Bool :=
  bif iEq (insn_Class0 a0_Op) 0 then false
  else
    bif
        bif bif iEq (insn_Of6 a0_Op) 0 then iNe a0_Imm 0 else false then true
        else bif iLt 0 (insn_Of6 a0_Op) then bif bif iLt a0_Imm (insn_Of4 a0_Op) then true else iLt (insn_Of5 a0_Op) a0_Imm then true else iNe (iRem a0_Imm (insn_Of6 a0_Op)) 0 else false then
      false
    else
      bif bif bif insn_field0 (insn_Of0 a0_Op) a0_Rd 32 then insn_field0 (insn_Of2 a0_Op) a0_Rs1 32 else false then insn_field0 (insn_Of3 a0_Op) a0_Rs2 32 else false then
        insn_field0 (insn_Of1 a0_Op) a0_CSR 4096
      else false
def insn_IsG (a0_Op : Int) (a0_Rd : Int) (a0_Rs1 : Int) (a0_Rs2 : Int) (a0_Imm : Int) (a0_CSR : Int) : Bool :=
  bif iEq (insn_Class0 a0_Op) 0 then true
  else
    (!((!bif iEq (insn_Of6 a0_Op) 0 then iNe a0_Imm 0 else false) && iLt 0 (insn_Of6 a0_Op) && !bif iLt a0_Imm (insn_Of4 a0_Op) then true else iLt (insn_Of5 a0_Op) a0_Imm) || iNe (insn_Of6 a0_Op) 0) &&
      bif
          bif bif iEq (insn_Of6 a0_Op) 0 then iNe a0_Imm 0 else false then true
          else bif iLt 0 (insn_Of6 a0_Op) then bif bif iLt a0_Imm (insn_Of4 a0_Op) then true else iLt (insn_Of5 a0_Op) a0_Imm then true else iNe (iRem a0_Imm (insn_Of6 a0_Op)) 0 else false then
        true
      else true
def insn_IsV (a0_Op : Int) (a0_Rd : Int) (a0_Rs1 : Int) (a0_Rs2 : Int) (a0_Imm : Int) (a0_CSR : Int) : AV := .bl (insn_Is0 a0_Op a0_Rd a0_Rs1 a0_Rs2 a0_Imm a0_CSR)
theorem insn_IsE (g : Nat → AV) : pcOf Try.prog okT (lookR T33) (inlO Try.prog okT (lookR T33) RO FS 400 ST (hOnce Try.prog 41 55 21) 8) RO NOV 100 false Try.f25 (norms [(.agg [(.int .i64), (.int .i64), (.int .i64), (.int .i64), (.int .i64), (.int .i64)])] 0 g) = some (insn_IsG (((g 0).fld 0).num) (((g 0).fld 1).num) (((g 0).fld 2).num) (((g 0).fld 3).num) (((g 0).fld 4).num) (((g 0).fld 5).num), insn_IsV (((g 0).fld 0).num) (((g 0).fld 1).num) (((g 0).fld 2).num) (((g 0).fld 3).num) (((g 0).fld 4).num) (((g 0).fld 5).num)) := by kernel_rfl
theorem insn_IsP : Plain Try.prog 25 Try.f25 := ⟨Try.func25, of_decide_eq_true (by kernel_rfl)⟩
theorem insn_IsT (a0_Op : Int) (a0_Rd : Int) (a0_Rs1 : Int) (a0_Rs2 : Int) (a0_Imm : Int) (a0_CSR : Int) : insn_IsG a0_Op a0_Rd a0_Rs1 a0_Rs2 a0_Imm a0_CSR = true := by first | (simp [insn_IsG]; done) | (simp [insn_IsG, Go.Ev.iEq, Go.Ev.iNe, Go.Ev.iLt, Go.Ev.iLe, Go.Ev.iIn]; omega)
theorem insn_IsO : RowOk Try.prog 25 (rowF [(.agg [(.int .i64), (.int .i64), (.int .i64), (.int .i64), (.int .i64), (.int .i64)])] none fun g => insn_IsV (((g 0).fld 0).num) (((g 0).fld 1).num) (((g 0).fld 2).num) (((g 0).fld 3).num) (((g 0).fld 4).num) (((g 0).fld 5).num)) := rowT_ok fun g => pcOf_ok mix fair T33_ok (inlO_ok mix fair T33_ok FS_ok (fun _ h => hOnce_ok once_ok h) 8) insn_IsP (fun c _ => OvOk_none c) (insn_IsE g) (insn_IsT (((g 0).fld 0).num) (((g 0).fld 1).num) (((g 0).fld 2).num) (((g 0).fld 3).num) (((g 0).fld 4).num) (((g 0).fld 5).num))
def T25 : List Row := (25, (rowF [(.agg [(.int .i64), (.int .i64), (.int .i64), (.int .i64), (.int .i64), (.int .i64)])] none fun g => insn_IsV (((g 0).fld 0).num) (((g 0).fld 1).num) (((g 0).fld 2).num) (((g 0).fld 3).num) (((g 0).fld 4).num) (((g 0).fld 5).num))) :: T33
theorem T25_ok : PSound Try.prog (lookR T25) := lookR_cons insn_IsO T33_ok

/- sallyport/insn.Reads -/
def insn_Reads0 (a0_Op : Int) (a0_Rd : Int) (a0_Rs1 : Int) (a0_Rs2 : Int) (a0_Imm : Int) (a0_CSR : Int) : Int :=
  bif !insn_Is0 a0_Op a0_Rd a0_Rs1 a0_Rs2 a0_Imm a0_CSR then 0 else a0_Rs1
def insn_Reads1 (a0_Op : Int) (a0_Rd : Int) (a0_Rs1 : Int) (a0_Rs2 : Int) (a0_Imm : Int) (a0_CSR : Int) : Int :=
  bif !insn_Is0 a0_Op a0_Rd a0_Rs1 a0_Rs2 a0_Imm a0_CSR then 0 else a0_Rs2
def insn_ReadsG (a0_Op : Int) (a0_Rd : Int) (a0_Rs1 : Int) (a0_Rs2 : Int) (a0_Imm : Int) (a0_CSR : Int) : Bool :=
  bif !insn_Is0 a0_Op a0_Rd a0_Rs1 a0_Rs2 a0_Imm a0_CSR then true else true
def insn_ReadsV (a0_Op : Int) (a0_Rd : Int) (a0_Rs1 : Int) (a0_Rs2 : Int) (a0_Imm : Int) (a0_CSR : Int) : AV := .tup [.it .i64 (insn_Reads0 a0_Op a0_Rd a0_Rs1 a0_Rs2 a0_Imm a0_CSR), .it .i64 (insn_Reads1 a0_Op a0_Rd a0_Rs1 a0_Rs2 a0_Imm a0_CSR)]
theorem insn_ReadsE (g : Nat → AV) : pcOf Try.prog okT (lookR T25) (inlO Try.prog okT (lookR T25) RO FS 400 ST (hOnce Try.prog 41 55 21) 8) RO NOV 100 false Try.f21 (norms [(.agg [(.int .i64), (.int .i64), (.int .i64), (.int .i64), (.int .i64), (.int .i64)])] 0 g) = some (insn_ReadsG (((g 0).fld 0).num) (((g 0).fld 1).num) (((g 0).fld 2).num) (((g 0).fld 3).num) (((g 0).fld 4).num) (((g 0).fld 5).num), insn_ReadsV (((g 0).fld 0).num) (((g 0).fld 1).num) (((g 0).fld 2).num) (((g 0).fld 3).num) (((g 0).fld 4).num) (((g 0).fld 5).num)) := by kernel_rfl
theorem insn_ReadsP : Plain Try.prog 21 Try.f21 := ⟨Try.func21, of_decide_eq_true (by kernel_rfl)⟩
theorem insn_ReadsT (a0_Op : Int) (a0_Rd : Int) (a0_Rs1 : Int) (a0_Rs2 : Int) (a0_Imm : Int) (a0_CSR : Int) : insn_ReadsG a0_Op a0_Rd a0_Rs1 a0_Rs2 a0_Imm a0_CSR = true := by
  unfold insn_ReadsG
  simp only [Go.Ev.cS1, Go.Ev.cS2, Go.Ev.cS3, Go.Ev.cS4, Go.Ev.cS6, Go.Ev.cS7]
theorem insn_ReadsO : RowOk Try.prog 21 (rowF [(.agg [(.int .i64), (.int .i64), (.int .i64), (.int .i64), (.int .i64), (.int .i64)])] none fun g => insn_ReadsV (((g 0).fld 0).num) (((g 0).fld 1).num) (((g 0).fld 2).num) (((g 0).fld 3).num) (((g 0).fld 4).num) (((g 0).fld 5).num)) := rowT_ok fun g => pcOf_ok mix fair T25_ok (inlO_ok mix fair T25_ok FS_ok (fun _ h => hOnce_ok once_ok h) 8) insn_ReadsP (fun c _ => OvOk_none c) (insn_ReadsE g) (insn_ReadsT (((g 0).fld 0).num) (((g 0).fld 1).num) (((g 0).fld 2).num) (((g 0).fld 3).num) (((g 0).fld 4).num) (((g 0).fld 5).num))
def T21 : List Row := (21, (rowF [(.agg [(.int .i64), (.int .i64), (.int .i64), (.int .i64), (.int .i64), (.int .i64)])] none fun g => insn_ReadsV (((g 0).fld 0).num) (((g 0).fld 1).num) (((g 0).fld 2).num) (((g 0).fld 3).num) (((g 0).fld 4).num) (((g 0).fld 5).num))) :: T25
theorem T21_ok : PSound Try.prog (lookR T21) := lookR_cons insn_ReadsO T25_ok

/- sallyport/insn.Writes -/
def insn_Writes0 (a0_Op : Int) (a0_Rd : Int) (a0_Rs1 : Int) (a0_Rs2 : Int) (a0_Imm : Int) (a0_CSR : Int) : Int :=
  bif !insn_Is0 a0_Op a0_Rd a0_Rs1 a0_Rs2 a0_Imm a0_CSR then 0 else a0_Rd
def insn_WritesG (a0_Op : Int) (a0_Rd : Int) (a0_Rs1 : Int) (a0_Rs2 : Int) (a0_Imm : Int) (a0_CSR : Int) : Bool :=
  bif !insn_Is0 a0_Op a0_Rd a0_Rs1 a0_Rs2 a0_Imm a0_CSR then true else true
def insn_WritesV (a0_Op : Int) (a0_Rd : Int) (a0_Rs1 : Int) (a0_Rs2 : Int) (a0_Imm : Int) (a0_CSR : Int) : AV := .it .i64 (insn_Writes0 a0_Op a0_Rd a0_Rs1 a0_Rs2 a0_Imm a0_CSR)
theorem insn_WritesE (g : Nat → AV) : pcOf Try.prog okT (lookR T21) (inlO Try.prog okT (lookR T21) RO FS 400 ST (hOnce Try.prog 41 55 21) 8) RO NOV 100 false Try.f22 (norms [(.agg [(.int .i64), (.int .i64), (.int .i64), (.int .i64), (.int .i64), (.int .i64)])] 0 g) = some (insn_WritesG (((g 0).fld 0).num) (((g 0).fld 1).num) (((g 0).fld 2).num) (((g 0).fld 3).num) (((g 0).fld 4).num) (((g 0).fld 5).num), insn_WritesV (((g 0).fld 0).num) (((g 0).fld 1).num) (((g 0).fld 2).num) (((g 0).fld 3).num) (((g 0).fld 4).num) (((g 0).fld 5).num)) := by kernel_rfl
theorem insn_WritesP : Plain Try.prog 22 Try.f22 := ⟨Try.func22, of_decide_eq_true (by kernel_rfl)⟩
theorem insn_WritesT (a0_Op : Int) (a0_Rd : Int) (a0_Rs1 : Int) (a0_Rs2 : Int) (a0_Imm : Int) (a0_CSR : Int) : insn_WritesG a0_Op a0_Rd a0_Rs1 a0_Rs2 a0_Imm a0_CSR = true := by
  unfold insn_WritesG
  simp only [Go.Ev.cS1, Go.Ev.cS2, Go.Ev.cS3, Go.Ev.cS4, Go.Ev.cS6, Go.Ev.cS7]
theorem insn_WritesO : RowOk Try.prog 22 (rowF [(.agg [(.int .i64), (.int .i64), (.int .i64), (.int .i64), (.int .i64), (.int .i64)])] none fun g => insn_WritesV (((g 0).fld 0).num) (((g 0).fld 1).num) (((g 0).fld 2).num) (((g 0).fld 3).num) (((g 0).fld 4).num) (((g 0).fld 5).num)) := rowT_ok fun g => pcOf_ok mix fair T21_ok (inlO_ok mix fair T21_ok FS_ok (fun _ h => hOnce_ok once_ok h) 8) insn_WritesP (fun c _ => OvOk_none c) (insn_WritesE g) (insn_WritesT (((g 0).fld 0).num) (((g 0).fld 1).num) (((g 0).fld 2).num) (((g 0).fld 3).num) (((g 0).fld 4).num) (((g 0).fld 5).num))
def T22 : List Row := (22, (rowF [(.agg [(.int .i64), (.int .i64), (.int .i64), (.int .i64), (.int .i64), (.int .i64)])] none fun g => insn_WritesV (((g 0).fld 0).num) (((g 0).fld 1).num) (((g 0).fld 2).num) (((g 0).fld 3).num) (((g 0).fld 4).num) (((g 0).fld 5).num))) :: T21
theorem T22_ok : PSound Try.prog (lookR T22) := lookR_cons insn_WritesO T21_ok

/- sallyport/insn.Same -/
def insn_Same0 (a0_Op : Int) (a0_Rd : Int) (a0_Rs1 : Int) (a0_Rs2 : Int) (a0_Imm : Int) (a0_CSR : Int) (a1_Op : Int) (a1_Rd : Int) (a1_Rs1 : Int) (a1_Rs2 : Int) (a1_Imm : Int) (a1_CSR : Int) : Bool :=
  iEq a0_Op a1_Op && (iEq a0_Rd a1_Rd && (iEq a0_Rs1 a1_Rs1 && (iEq a0_Rs2 a1_Rs2 && (iEq a0_Imm a1_Imm && iEq a0_CSR a1_CSR))))
def insn_Same0r (a0_Op : Int) (a0_Rd : Int) (a0_Rs1 : Int) (a0_Rs2 : Int) (a0_Imm : Int) (a0_CSR : Int) (a1_Op : Int) (a1_Rd : Int) (a1_Rs1 : Int) (a1_Rs2 : Int) (a1_Imm : Int) (a1_CSR : Int) : Bool :=
  iEq a0_Op a1_Op && (iEq a0_Rd a1_Rd && (iEq a0_Rs1 a1_Rs1 && (iEq a0_Rs2 a1_Rs2 && (iEq a0_Imm a1_Imm && (iEq a0_CSR a1_CSR && true)))))
def insn_SameG (a0_Op : Int) (a0_Rd : Int) (a0_Rs1 : Int) (a0_Rs2 : Int) (a0_Imm : Int) (a0_CSR : Int) (a1_Op : Int) (a1_Rd : Int) (a1_Rs1 : Int) (a1_Rs2 : Int) (a1_Imm : Int) (a1_CSR : Int) : Bool :=
  true
theorem insn_Same0_eq (a0_Op : Int) (a0_Rd : Int) (a0_Rs1 : Int) (a0_Rs2 : Int) (a0_Imm : Int) (a0_CSR : Int) (a1_Op : Int) (a1_Rd : Int) (a1_Rs1 : Int) (a1_Rs2 : Int) (a1_Imm : Int) (a1_CSR : Int)  : insn_Same0r a0_Op a0_Rd a0_Rs1 a0_Rs2 a0_Imm a0_CSR a1_Op a1_Rd a1_Rs1 a1_Rs2 a1_Imm a1_CSR  = insn_Same0 a0_Op a0_Rd a0_Rs1 a0_Rs2 a0_Imm a0_CSR a1_Op a1_Rd a1_Rs1 a1_Rs2 a1_Imm a1_CSR  := by
  unfold insn_Same0r
  first | (simp only [Go.Ev.cS1, Go.Ev.cS2, Go.Ev.cS3, Go.Ev.cS4, Go.Ev.cS6, Go.Ev.cS7]; done) | (simp only [Go.Ev.cS1, Go.Ev.cS2, Go.Ev.cS3, Go.Ev.cS4, Go.Ev.cS6, Go.Ev.cS7]; kernel_rfl)
def insn_SameV (a0_Op : Int) (a0_Rd : Int) (a0_Rs1 : Int) (a0_Rs2 : Int) (a0_Imm : Int) (a0_CSR : Int) (a1_Op : Int) (a1_Rd : Int) (a1_Rs1 : Int) (a1_Rs2 : Int) (a1_Imm : Int) (a1_CSR : Int) : AV := .bl (insn_Same0 a0_Op a0_Rd a0_Rs1 a0_Rs2 a0_Imm a0_CSR a1_Op a1_Rd a1_Rs1 a1_Rs2 a1_Imm a1_CSR)
def insn_SameVr (a0_Op : Int) (a0_Rd : Int) (a0_Rs1 : Int) (a0_Rs2 : Int) (a0_Imm : Int) (a0_CSR : Int) (a1_Op : Int) (a1_Rd : Int) (a1_Rs1 : Int) (a1_Rs2 : Int) (a1_Imm : Int) (a1_CSR : Int) : AV := .bl (insn_Same0r a0_Op a0_Rd a0_Rs1 a0_Rs2 a0_Imm a0_CSR a1_Op a1_Rd a1_Rs1 a1_Rs2 a1_Imm a1_CSR)
theorem insn_SameV_eq (a0_Op : Int) (a0_Rd : Int) (a0_Rs1 : Int) (a0_Rs2 : Int) (a0_Imm : Int) (a0_CSR : Int) (a1_Op : Int) (a1_Rd : Int) (a1_Rs1 : Int) (a1_Rs2 : Int) (a1_Imm : Int) (a1_CSR : Int) : insn_SameVr a0_Op a0_Rd a0_Rs1 a0_Rs2 a0_Imm a0_CSR a1_Op a1_Rd a1_Rs1 a1_Rs2 a1_Imm a1_CSR = insn_SameV a0_Op a0_Rd a0_Rs1 a0_Rs2 a0_Imm a0_CSR a1_Op a1_Rd a1_Rs1 a1_Rs2 a1_Imm a1_CSR := by
  unfold insn_SameVr insn_SameV
  simp only [insn_Same0_eq]
theorem insn_SameE (g : Nat → AV) : pcOf Try.prog okT (lookR T22) (inlO Try.prog okT (lookR T22) RO FS 400 ST (hOnce Try.prog 41 55 21) 8) RO NOV 100 false Try.f27 (norms [(.agg [(.int .i64), (.int .i64), (.int .i64), (.int .i64), (.int .i64), (.int .i64)]), (.agg [(.int .i64), (.int .i64), (.int .i64), (.int .i64), (.int .i64), (.int .i64)])] 0 g) = some (insn_SameG (((g 0).fld 0).num) (((g 0).fld 1).num) (((g 0).fld 2).num) (((g 0).fld 3).num) (((g 0).fld 4).num) (((g 0).fld 5).num) (((g 1).fld 0).num) (((g 1).fld 1).num) (((g 1).fld 2).num) (((g 1).fld 3).num) (((g 1).fld 4).num) (((g 1).fld 5).num), insn_SameV (((g 0).fld 0).num) (((g 0).fld 1).num) (((g 0).fld 2).num) (((g 0).fld 3).num) (((g 0).fld 4).num) (((g 0).fld 5).num) (((g 1).fld 0).num) (((g 1).fld 1).num) (((g 1).fld 2).num) (((g 1).fld 3).num) (((g 1).fld 4).num) (((g 1).fld 5).num)) :=
  (by kernel_rfl : pcOf Try.prog okT (lookR T22) (inlO Try.prog okT (lookR T22) RO FS 400 ST (hOnce Try.prog 41 55 21) 8) RO NOV 100 false Try.f27 (norms [(.agg [(.int .i64), (.int .i64), (.int .i64), (.int .i64), (.int .i64), (.int .i64)]), (.agg [(.int .i64), (.int .i64), (.int .i64), (.int .i64), (.int .i64), (.int .i64)])] 0 g) = some (insn_SameG (((g 0).fld 0).num) (((g 0).fld 1).num) (((g 0).fld 2).num) (((g 0).fld 3).num) (((g 0).fld 4).num) (((g 0).fld 5).num) (((g 1).fld 0).num) (((g 1).fld 1).num) (((g 1).fld 2).num) (((g 1).fld 3).num) (((g 1).fld 4).num) (((g 1).fld 5).num), insn_SameVr (((g 0).fld 0).num) (((g 0).fld 1).num) (((g 0).fld 2).num) (((g 0).fld 3).num) (((g 0).fld 4).num) (((g 0).fld 5).num) (((g 1).fld 0).num) (((g 1).fld 1).num) (((g 1).fld 2).num) (((g 1).fld 3).num) (((g 1).fld 4).num) (((g 1).fld 5).num))).trans (by rw [insn_SameV_eq])
theorem insn_SameP : Plain Try.prog 27 Try.f27 := ⟨Try.func27, of_decide_eq_true (by kernel_rfl)⟩
theorem insn_SameT (a0_Op : Int) (a0_Rd : Int) (a0_Rs1 : Int) (a0_Rs2 : Int) (a0_Imm : Int) (a0_CSR : Int) (a1_Op : Int) (a1_Rd : Int) (a1_Rs1 : Int) (a1_Rs2 : Int) (a1_Imm : Int) (a1_CSR : Int) : insn_SameG a0_Op a0_Rd a0_Rs1 a0_Rs2 a0_Imm a0_CSR a1_Op a1_Rd a1_Rs1 a1_Rs2 a1_Imm a1_CSR = true := rfl
theorem insn_SameO : RowOk Try.prog 27 (rowF [(.agg [(.int .i64), (.int .i64), (.int .i64), (.int .i64), (.int .i64), (.int .i64)]), (.agg [(.int .i64), (.int .i64), (.int .i64), (.int .i64), (.int .i64), (.int .i64)])] none fun g => insn_SameV (((g 0).fld 0).num) (((g 0).fld 1).num) (((g 0).fld 2).num) (((g 0).fld 3).num) (((g 0).fld 4).num) (((g 0).fld 5).num) (((g 1).fld 0).num) (((g 1).fld 1).num) (((g 1).fld 2).num) (((g 1).fld 3).num) (((g 1).fld 4).num) (((g 1).fld 5).num)) := rowT_ok fun g => pcOf_ok mix fair T22_ok (inlO_ok mix fair T22_ok FS_ok (fun _ h => hOnce_ok once_ok h) 8) insn_SameP (fun c _ => OvOk_none c) (insn_SameE g) (insn_SameT (((g 0).fld 0).num) (((g 0).fld 1).num) (((g 0).fld 2).num) (((g 0).fld 3).num) (((g 0).fld 4).num) (((g 0).fld 5).num) (((g 1).fld 0).num) (((g 1).fld 1).num) (((g 1).fld 2).num) (((g 1).fld 3).num) (((g 1).fld 4).num) (((g 1).fld 5).num))
def T27 : List Row := (27, (rowF [(.agg [(.int .i64), (.int .i64), (.int .i64), (.int .i64), (.int .i64), (.int .i64)]), (.agg [(.int .i64), (.int .i64), (.int .i64), (.int .i64), (.int .i64), (.int .i64)])] none fun g => insn_SameV (((g 0).fld 0).num) (((g 0).fld 1).num) (((g 0).fld 2).num) (((g 0).fld 3).num) (((g 0).fld 4).num) (((g 0).fld 5).num) (((g 1).fld 0).num) (((g 1).fld 1).num) (((g 1).fld 2).num) (((g 1).fld 3).num) (((g 1).fld 4).num) (((g 1).fld 5).num))) :: T22
theorem T27_ok : PSound Try.prog (lookR T27) := lookR_cons insn_SameO T22_ok

/- sallyport/insn.Size -/
def insn_Size_c0 (a0 : Int) : Bool :=
  bif iEq a0 14 then bif iEq a0 14 then true else true
  else bif iEq a0 21 then bif iEq a0 21 then true else true else bif iEq a0 67 then bif iEq a0 67 then true else true else bif iEq a0 69 then true else true
def insn_Size_c1 (a0 : Int) : Bool :=
  bif iEq a0 13 then bif iEq a0 13 then true else insn_Size_c0 a0
  else
    bif iEq a0 17 then bif iEq a0 17 then true else insn_Size_c0 a0
    else bif iEq a0 20 then bif iEq a0 20 then true else insn_Size_c0 a0 else bif iEq a0 66 then bif iEq a0 66 then true else insn_Size_c0 a0 else bif iEq a0 68 then true else insn_Size_c0 a0
def insn_Size_c2 (a0 : Int) : Bool :=
  bif iEq a0 12 then bif iEq a0 12 then true else insn_Size_c1 a0 else bif iEq a0 16 then bif iEq a0 16 then true else insn_Size_c1 a0 else bif iEq a0 19 then true else insn_Size_c1 a0
def insn_Size_c3 (a0 : Int) : Int :=
  bif iEq a0 14 then bif iEq a0 14 then 8 else 0 else bif iEq a0 21 then bif iEq a0 21 then 8 else 0 else bif iEq a0 67 then bif iEq a0 67 then 8 else 0 else bif iEq a0 69 then 8 else 0
def insn_Size_c4 (a0 : Int) : Int :=
  bif iEq a0 13 then bif iEq a0 13 then 4 else insn_Size_c3 a0
  else
    bif iEq a0 17 then bif iEq a0 17 then 4 else insn_Size_c3 a0
    else bif iEq a0 20 then bif iEq a0 20 then 4 else insn_Size_c3 a0 else bif iEq a0 66 then bif iEq a0 66 then 4 else insn_Size_c3 a0 else bif iEq a0 68 then 4 else insn_Size_c3 a0
def insn_Size_c5 (a0 : Int) : Int :=
  bif iEq a0 12 then bif iEq a0 12 then 2 else insn_Size_c4 a0 else bif iEq a0 16 then bif iEq a0 16 then 2 else insn_Size_c4 a0 else bif iEq a0 19 then 2 else insn_Size_c4 a0
def insn_Size0 (a0 : Int) : Int :=
  bif iEq a0 11 then 1
  else
    bif iEq a0 15 then 1
    else
      bif iEq a0 18 then 1
      else
        bif iEq a0 12 then 2
        else
          bif iEq a0 16 then 2
          else
            bif iEq a0 19 then 2
            else
              bif iEq a0 13 then 4
              else
                bif iEq a0 17 then 4
                else
                  bif iEq a0 20 then 4 else bif iEq a0 66 then 4 else bif iEq a0 68 then 4 else bif iEq a0 14 then 8 else bif iEq a0 21 then 8 else bif iEq a0 67 then 8 else bif iEq a0 69 then 8 else 0
def insn_Size0r (a0 : Int) : Int :=
  bif iEq a0 11 then bif iEq a0 11 then 1 else insn_Size_c5 a0 else bif iEq a0 15 then bif iEq a0 15 then 1 else insn_Size_c5 a0 else bif iEq a0 18 then 1 else insn_Size_c5 a0
def insn_SizeG (a0 : Int) : Bool :=
  bif iEq a0 11 then bif iEq a0 11 then true else insn_Size_c2 a0 else bif iEq a0 15 then bif iEq a0 15 then true else insn_Size_c2 a0 else bif iEq a0 18 then true else insn_Size_c2 a0
theorem insn_Size0_eq (a0 : Int)  : insn_Size0r a0  = insn_Size0 a0  := by
  unfold insn_Size0r
  first | (simp only [insn_Size_c0, insn_Size_c1, insn_Size_c2, insn_Size_c3, insn_Size_c4, insn_Size_c5, Go.Ev.cS1, Go.Ev.cS2, Go.Ev.cS3, Go.Ev.cS4, Go.Ev.cS6, Go.Ev.cS7]; done) | (simp only [insn_Size_c0, insn_Size_c1, insn_Size_c2, insn_Size_c3, insn_Size_c4, insn_Size_c5, Go.Ev.cS1, Go.Ev.cS2, Go.Ev.cS3, Go.Ev.cS4, Go.Ev.cS6, Go.Ev.cS7]; kernel_rfl)
def insn_SizeV (a0 : Int) : AV := .it .i64 (insn_Size0 a0)
def insn_SizeVr (a0 : Int) : AV := .it .i64 (insn_Size0r a0)
theorem insn_SizeV_eq (a0 : Int) : insn_SizeVr a0 = insn_SizeV a0 := by
  unfold insn_SizeVr insn_SizeV
  simp only [insn_Size0_eq]
theorem insn_SizeE (g : Nat → AV) : pcOf Try.prog okT (lookR T27) (inlO Try.prog okT (lookR T27) RO FS 400 ST (hOnce Try.prog 41 55 21) 8) RO NOV 100 false Try.f30 (norms [(.int .i64)] 0 g) = some (insn_SizeG ((g 0).num), insn_SizeV ((g 0).num)) :=
  (by kernel_rfl : pcOf Try.prog okT (lookR T27) (inlO Try.prog okT (lookR T27) RO FS 400 ST (hOnce Try.prog 41 55 21) 8) RO NOV 100 false Try.f30 (norms [(.int .i64)] 0 g) = some (insn_SizeG ((g 0).num), insn_SizeVr ((g 0).num))).trans (by rw [insn_SizeV_eq])
theorem insn_SizeP : Plain Try.prog 30 Try.f30 := ⟨Try.func30, of_decide_eq_true (by kernel_rfl)⟩
theorem insn_SizeT (a0 : Int) : insn_SizeG a0 = true := by
  unfold insn_SizeG
  simp only [insn_Size_c0, insn_Size_c1, insn_Size_c2, insn_Size_c3, insn_Size_c4, insn_Size_c5, Go.Ev.cS1, Go.Ev.cS2, Go.Ev.cS3, Go.Ev.cS4, Go.Ev.cS6, Go.Ev.cS7]
theorem insn_SizeO : RowOk Try.prog 30 (rowF [(.int .i64)] none fun g => insn_SizeV ((g 0).num)) := rowT_ok fun g => pcOf_ok mix fair T27_ok (inlO_ok mix fair T27_ok FS_ok (fun _ h => hOnce_ok once_ok h) 8) insn_SizeP (fun c _ => OvOk_none c) (insn_SizeE g) (insn_SizeT ((g 0).num))
def T30 : List Row := (30, (rowF [(.int .i64)] none fun g => insn_SizeV ((g 0).num))) :: T27
theorem T30_ok : PSound Try.prog (lookR T30) := lookR_cons insn_SizeO T27_ok

end
end Go.Proofs.Ytihmjmaabednjaa.PV
