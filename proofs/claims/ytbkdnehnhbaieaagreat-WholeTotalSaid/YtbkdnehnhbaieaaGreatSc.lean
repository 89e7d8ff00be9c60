/-
  Lemmas of the prover's own, joined: Ga.
-/
import Derived.Test.YtbkdnehnhbaieaaGreatRows
import Derived.Test.YtbkdnehnhbaieaaGreatSb
set_option linter.unusedVariables false
set_option linter.unusedSimpArgs false
namespace Go.Proofs.YtbkdnehnhbaieaaGreat.PV
noncomputable section
open Go Go.Ev
def okT : List TypeId := [34, 43, 45, 74, 149, 311, 393]
theorem A7 : Go.Ev.Fair Tryz.prog okT :=
  ⟨fun t h => by
    simp only [okT, List.contains_cons, List.contains_nil, Bool.or_false, Bool.or_eq_true, beq_iff_eq] at h
    rcases h with rfl | rfl | rfl | rfl | rfl | rfl | rfl
    · exact Tryz.stoodInHeld34
    · exact Tryz.stoodInHeld43
    · exact Tryz.stoodInHeld45
    · exact Tryz.stoodInHeld74
    · exact Tryz.stoodInHeld149
    · exact Tryz.stoodInHeld311
    · exact Tryz.stoodInHeld393
   , fun t h => by
    simp only [okT, List.contains_cons, List.contains_nil, Bool.or_false, Bool.or_eq_true, beq_iff_eq] at h
    rcases h with rfl | rfl | rfl | rfl | rfl | rfl | rfl
    · exact Tryz.eqGuardType34
    · exact Tryz.eqGuardType43
    · exact Tryz.eqGuardType45
    · exact Tryz.eqGuardType74
    · exact Tryz.eqGuardType149
    · exact Tryz.eqGuardType311
    · exact Tryz.eqGuardType393
  ⟩
theorem mix : Tryz.prog.follows .mixedOrders = true := Checked.mixed Tryz.checked
def RO : FuncId → Bool := fun _ => true
abbrev NOV : Ov := fun _ _ _ _ => none
abbrev NOH : Hd := fun _ _ _ _ => none
def T0 : List Row := []
theorem T0_ok : r0 Tryz.prog (m5 T0) := lookR_nil
def FS : List FuncId := [255, 99, 167, 310, 329, 260, 258, 153, 154]
theorem D5 : Names Tryz.prog FS := aA8 (by kernel_rfl)
def ST : FuncId → Bool := fun f => memN f [329]
def a8 (a0 : Int) : Int :=
 bif bif iLt a0 1 then true else iLe 70 a0 then 0
 else
 bif iLe a0 4 then 1
 else
 bif iLe a0 10 then 2
 else
 bif iLe a0 17 then 3
 else
 bif iLe a0 21 then 4
 else
 bif iLe a0 34 then 5
 else
 bif iLe a0 49 then 6 else bif iLe a0 51 then 7 else bif iLe a0 53 then 8 else bif iLe a0 59 then 9 else bif iLe a0 62 then 10 else bif iLe a0 65 then 11 else bif iLe a0 69 then 12 else 0
def bu0 (a0 : Int) : Bool :=
 bif bif iLt a0 1 then true else iLe 70 a0 then true
 else
 bif iLe a0 4 then true
 else
 bif iLe a0 10 then true
 else
 bif iLe a0 17 then true
 else
 bif iLe a0 21 then true
 else
 bif iLe a0 34 then true
 else
 bif iLe a0 49 then true
 else bif iLe a0 51 then true else bif iLe a0 53 then true else bif iLe a0 59 then true else bif iLe a0 62 then true else bif iLe a0 65 then true else bif iLe a0 69 then true else true
def bx9 (a0 : Int) : AV := .it .i64 (a8 a0)
def insn_ClassA (g : Nat → AV) : AV := bx9 ((g 0).num)
def insn_ClassB (g : Nat → AV) : Bool := bu0 ((g 0).num)
def pO (T : List Row) (N : Nat) (s : Bool) (fn : Func) (a : List AV) : Option (Bool × AV) := pcOf Tryz.prog okT (m5 T) (inlO Tryz.prog okT (m5 T) RO FS 400 ST (u0 Tryz.prog 66 41 21) 8) RO NOV N s fn a
theorem dn3 (g : Nat → AV) : pO T0 100 false Tryz.f161 (r7 [(.int .i64)] 0 g) = some (insn_ClassB g, insn_ClassA g) := by kernel_rfl
theorem dr3 : Plain Tryz.prog 161 Tryz.f161 := ⟨Tryz.func161, of_decide_eq_true (by kernel_rfl)⟩
theorem dt5 (a0 : Int) : bu0 a0 = true := by
  unfold bu0
  simp only [cS1, cS2, cS3, cS4, cS6, cS7]
def row161Q : List AV → Option (Option Bool × AV) := rowF [(.int .i64)] none insn_ClassA
theorem dz9 : D1 Tryz.prog 161 row161Q := s3 fun g => p6 mix A7 T0_ok (o9 mix A7 T0_ok D5 (fun _ h => o5 p8 h) 8) dr3 (fun c _ => m7 c) (dn3 g) (dt5 ..)
def T161 : List Row := (161, row161Q) :: T0
theorem df5 : r0 Tryz.prog (m5 T161) := m8 dz9 T0_ok
def aW3 (a0 : Int) : Bool :=
 bif bif iLe 31 a0 then iLe a0 34 else false then true else bif iLe 45 a0 then iLe a0 49 else false
def cd6 (a0 : Int) : Bool :=
 true
def bz8 (a0 : Int) : AV := .bl (aW3 a0)
def alu_narrowA (g : Nat → AV) : AV := bz8 ((g 0).num)
def alu_narrowB (g : Nat → AV) : Bool := cd6 ((g 0).num)
theorem dc9 (g : Nat → AV) : pO T161 100 false Tryz.f276 (r7 [(.int .i64)] 0 g) = some (alu_narrowB g, alu_narrowA g) := by kernel_rfl
theorem dg9 : Plain Tryz.prog 276 Tryz.f276 := ⟨Tryz.func276, of_decide_eq_true (by kernel_rfl)⟩
theorem do4 (a0 : Int) : cd6 a0 = true := rfl
def row276Q : List AV → Option (Option Bool × AV) := rowF [(.int .i64)] none alu_narrowA
theorem dy9 : D1 Tryz.prog 276 row276Q := s3 fun g => p6 mix A7 df5 (o9 mix A7 df5 D5 (fun _ h => o5 p8 h) 8) dg9 (fun c _ => m7 c) (dc9 g) (do4 ..)
def T276 : List Row := (276, row276Q) :: T161
theorem dl7 : r0 Tryz.prog (m5 T276) := m8 dy9 df5
def ar6 (a0 : Int) : Int :=
 bif bif iEq (a8 a0) 6 then iLt a0 45 else false then a0
 else
 bif a0.toNat == 49 then 42
 else
 bif a0.toNat == 48 then 41
 else
 bif a0.toNat == 47 then 37
 else
 bif a0.toNat == 46 then 36
 else
 bif a0.toNat == 45 then 35
 else
 bif a0.toNat == 34 then 42
 else
 bif a0.toNat == 33 then 41
 else
 bif a0.toNat == 32 then 37
 else
 bif a0.toNat == 31 then 35
 else
 bif a0.toNat == 30 then 42
 else
 bif a0.toNat == 29 then 41
 else
 bif a0.toNat == 28 then 37
 else
 bif a0.toNat == 27 then 44
 else bif a0.toNat == 26 then 43 else bif a0.toNat == 25 then 40 else bif a0.toNat == 24 then 39 else bif a0.toNat == 23 then 38 else bif a0.toNat == 22 then 35 else 0
def ad3 (a0 : Int) : Bool :=
 bif bif iEq (a8 a0) 6 then iLt a0 45 else false then true else iIn a0 70 && true
def bN9 (a0 : Int) : AV := .it .i64 (ar6 a0)
def alu_plainA (g : Nat → AV) : AV := bN9 ((g 0).num)
def alu_plainB (g : Nat → AV) : Bool := ad3 ((g 0).num)
theorem dO1 (g : Nat → AV) : pO T276 100 false Tryz.f278 (r7 [(.int .i64)] 0 g) = some (alu_plainB g, alu_plainA g) := by kernel_rfl
theorem dL1 : Plain Tryz.prog 278 Tryz.f278 := ⟨Tryz.func278, of_decide_eq_true (by kernel_rfl)⟩
def row278Q : List AV → Option (Option Bool × AV) := rowF [(.int .i64)] (some fun g => alu_plainB g) alu_plainA
theorem dL7 : D1 Tryz.prog 278 row278Q := R9 fun g hg => p6 mix A7 dl7 (o9 mix A7 dl7 D5 (fun _ h => o5 p8 h) 8) dL1 (fun c _ => m7 c) (dO1 g) hg
def T278 : List Row := (278, row278Q) :: T276
theorem dr0 : r0 Tryz.prog (m5 T278) := m8 dL7 dl7
def bn1 (a0 a1 : Int) : Bool :=
 iLt (g8 .i64 a0) (g8 .i64 a1)
def cu2 (a0 a1 : Int) : Bool :=
 true
def bN0 (a0 a1 : Int) : AV := .bl (bn1 a0 a1)
def word_HighA (g : Nat → AV) : AV := bN0 ((g 0).num) ((g 1).num)
def word_HighB (g : Nat → AV) : Bool := cu2 ((g 0).num) ((g 1).num)
theorem dV5 (g : Nat → AV) : pO T278 100 false Tryz.f315 (r7 [(.int .u64), (.int .u64)] 0 g) = some (word_HighB g, word_HighA g) := by kernel_rfl
theorem dX3 : Plain Tryz.prog 315 Tryz.f315 := ⟨Tryz.func315, of_decide_eq_true (by kernel_rfl)⟩
theorem dN2 (a0 a1 : Int) : cu2 a0 a1 = true := rfl
def row315Q : List AV → Option (Option Bool × AV) := rowF [(.int .u64), (.int .u64)] none word_HighA
theorem dQ1 : D1 Tryz.prog 315 row315Q := s3 fun g => p6 mix A7 dr0 (o9 mix A7 dr0 D5 (fun _ h => o5 p8 h) 8) dX3 (fun c _ => m7 c) (dV5 g) (dN2 ..)
def T315 : List Row := (315, row315Q) :: T278
theorem do6 : r0 Tryz.prog (m5 T315) := m8 dQ1 dr0
def cJ6 (a0 : Bool) : Int :=
 bif a0 then 1 else 0
def cG7 (a0 : Bool) : Bool :=
 bif a0 then true else true
def cH6 (a0 : Bool) : AV := .it .u64 (cJ6 a0)
def alu_oneA (g : Nat → AV) : AV := cH6 ((g 0).bool)
def alu_oneB (g : Nat → AV) : Bool := cG7 ((g 0).bool)
theorem alu_oneE (g : Nat → AV) : pO T315 100 false Tryz.f317 (r7 [.bool] 0 g) = some (alu_oneB g, alu_oneA g) := by kernel_rfl
theorem alu_oneP : Plain Tryz.prog 317 Tryz.f317 := ⟨Tryz.func317, of_decide_eq_true (by kernel_rfl)⟩
theorem alu_oneT (a0 : Bool) : cG7 a0 = true := by
  unfold cG7
  simp only [cS1, cS2, cS3, cS4, cS6, cS7]
def row317Q : List AV → Option (Option Bool × AV) := rowF [.bool] none alu_oneA
theorem alu_oneO : D1 Tryz.prog 317 row317Q := s3 fun g => p6 mix A7 do6 (o9 mix A7 do6 D5 (fun _ h => o5 p8 h) 8) alu_oneP (fun c _ => m7 c) (alu_oneE g) (alu_oneT ..)
def T317 : List Row := (317, row317Q) :: T315
theorem dr4 : r0 Tryz.prog (m5 T317) := m8 alu_oneO do6
def aC4 (a0 a1 a2 a3 : Int) : Int :=
 bif iEq a0 35 then iAdd .u64 a1 a2
 else
 bif iEq a0 36 then iSub .u64 a1 a2
 else
 bif iEq a0 37 then iShl .u64 a1 (iAnd .u64 a2 (g8 .u64 (iSub .i64 a3 1)))
 else
 bif iEq a0 38 then cJ6 (bn1 a1 a2)
 else
 bif iEq a0 39 then cJ6 (iLt a1 a2)
 else
 bif iEq a0 40 then iXor .u64 a1 a2
 else
 bif iEq a0 41 then iShr .u64 a1 (iAnd .u64 a2 (g8 .u64 (iSub .i64 a3 1)))
 else
 bif iEq a0 42 then g8 .u64 (iShr .i64 (g8 .i64 a1) (iAnd .u64 a2 (g8 .u64 (iSub .i64 a3 1))))
 else bif iEq a0 43 then iOr .u64 a1 a2 else iAnd .u64 a1 a2
def ck3 (a0 a1 a2 a3 : Int) : Bool :=
 bif iEq a0 35 then true
 else
 bif iEq a0 36 then true
 else
 bif iEq a0 37 then true
 else bif iEq a0 38 then true else bif iEq a0 39 then true else bif iEq a0 40 then true else bif iEq a0 41 then true else bif iEq a0 42 then true else bif iEq a0 43 then true else true
def cm0 (a0 a1 a2 a3 : Int) : AV := .it .u64 (aC4 a0 a1 a2 a3)
def alu_doesA (g : Nat → AV) : AV := cm0 ((g 0).num) ((g 1).num) ((g 2).num) ((g 3).num)
def alu_doesB (g : Nat → AV) : Bool := ck3 ((g 0).num) ((g 1).num) ((g 2).num) ((g 3).num)
theorem alu_doesE (g : Nat → AV) : pO T317 100 false Tryz.f277 (r7 [(.int .i64), (.int .u64), (.int .u64), (.int .i64)] 0 g) = some (alu_doesB g, alu_doesA g) := by kernel_rfl
theorem alu_doesP : Plain Tryz.prog 277 Tryz.f277 := ⟨Tryz.func277, of_decide_eq_true (by kernel_rfl)⟩
theorem alu_doesT (a0 a1 a2 a3 : Int) : ck3 a0 a1 a2 a3 = true := by
  unfold ck3
  simp only [cS1, cS2, cS3, cS4, cS6, cS7]
def row277Q : List AV → Option (Option Bool × AV) := rowF [(.int .i64), (.int .u64), (.int .u64), (.int .i64)] none alu_doesA
theorem alu_doesO : D1 Tryz.prog 277 row277Q := s3 fun g => p6 mix A7 dr4 (o9 mix A7 dr4 D5 (fun _ h => o5 p8 h) 8) alu_doesP (fun c _ => m7 c) (alu_doesE g) (alu_doesT ..)
def T277 : List Row := (277, row277Q) :: T317
theorem dy2 : r0 Tryz.prog (m5 T277) := m8 alu_doesO dr4
def ap4 (a0 : Int) : Int :=
 bif iLe 64 a0 then 18446744073709551615 else iSub .u64 (iShl .u64 1 a0) 1
def ad4 (a0 : Int) : Bool :=
 bif iLe 64 a0 then true else iLe 0 a0 && true
def bN3 (a0 : Int) : AV := .it .u64 (ap4 a0)
def word_maskA (g : Nat → AV) : AV := bN3 ((g 0).num)
def word_maskB (g : Nat → AV) : Bool := ad4 ((g 0).num)
theorem dV6 (g : Nat → AV) : pO T277 100 false Tryz.f152 (r7 [(.int .i64)] 0 g) = some (word_maskB g, word_maskA g) := by kernel_rfl
theorem dS8 : Plain Tryz.prog 152 Tryz.f152 := ⟨Tryz.func152, of_decide_eq_true (by kernel_rfl)⟩
def row152Q : List AV → Option (Option Bool × AV) := rowF [(.int .i64)] (some fun g => word_maskB g) word_maskA
theorem dT3 : D1 Tryz.prog 152 row152Q := R9 fun g hg => p6 mix A7 dy2 (o9 mix A7 dy2 D5 (fun _ h => o5 p8 h) 8) dS8 (fun c _ => m7 c) (dV6 g) hg
def T152 : List Row := (152, row152Q) :: T277
theorem dh4 : r0 Tryz.prog (m5 T152) := m8 dT3 dy2
def I5 (a0 a1 : Int) : Int :=
 iAnd .u64 a0 (ap4 (iMin (iMax a1 1) 64))
def bL2 (a0 a1 : Int) : Bool :=
 ad4 (iMin (iMax a1 1) 64) && true
def bL5 (a0 a1 : Int) : AV := .it .u64 (I5 a0 a1)
def word_ZextA (g : Nat → AV) : AV := bL5 ((g 0).num) ((g 1).num)
def word_ZextB (g : Nat → AV) : Bool := bL2 ((g 0).num) ((g 1).num)
theorem dV2 (g : Nat → AV) : pO T152 100 false Tryz.f105 (r7 [(.int .u64), (.int .i64)] 0 g) = some (word_ZextB g, word_ZextA g) := by kernel_rfl
theorem dT4 : Plain Tryz.prog 105 Tryz.f105 := ⟨Tryz.func105, of_decide_eq_true (by kernel_rfl)⟩
theorem dT7 (a0 a1 : Int) : bL2 a0 a1 = true := by
  unfold bL2 ad4
  rw [Bool.and_true]
  cases h : iLe 64 (iMin (iMax a1 1) 64) with
  | true => rfl
  | false =>
    rw [cond_false, Bool.and_true, J1, aO5, aD6]
    split <;> split <;> omega
def row105Q : List AV → Option (Option Bool × AV) := rowF [(.int .u64), (.int .i64)] none word_ZextA
theorem dU2 : D1 Tryz.prog 105 row105Q := s3 fun g => p6 mix A7 dh4 (o9 mix A7 dh4 D5 (fun _ h => o5 p8 h) 8) dT4 (fun c _ => m7 c) (dV2 g) (dT7 ..)
def T105 : List Row := (105, row105Q) :: T152
theorem df4 : r0 Tryz.prog (m5 T105) := m8 dU2 dh4
def E1 (a0 a1 : Int) : Int :=
 g8 .u64 (iShr .i64 (g8 .i64 (iShl .u64 a0 (iSub .i64 64 (iMin (iMax a1 1) 64)))) (iSub .i64 64 (iMin (iMax a1 1) 64)))
def bM2 (a0 a1 : Int) : Bool :=
 iLe 0 (iSub .i64 64 (iMin (iMax a1 1) 64)) && (iLe 0 (iSub .i64 64 (iMin (iMax a1 1) 64)) && true)
def bM1 (a0 a1 : Int) : AV := .it .u64 (E1 a0 a1)
def word_SextA (g : Nat → AV) : AV := bM1 ((g 0).num) ((g 1).num)
def word_SextB (g : Nat → AV) : Bool := bM2 ((g 0).num) ((g 1).num)
theorem dO5 (g : Nat → AV) : pO T105 100 false Tryz.f279 (r7 [(.int .u64), (.int .i64)] 0 g) = some (word_SextB g, word_SextA g) := by kernel_rfl
theorem dR0 : Plain Tryz.prog 279 Tryz.f279 := ⟨Tryz.func279, of_decide_eq_true (by kernel_rfl)⟩
theorem dK6 (a0 a1 : Int) : bM2 a0 a1 = true := by
  unfold bM2
  have h : 0 ≤ iSub IntKind.i64 64 (iMin (iMax a1 1) 64) := by
    have h1 : 1 ≤ iMin (iMax a1 1) 64 ∧ iMin (iMax a1 1) 64 ≤ 64 := by rw [aO5, aD6]; split <;> split <;> omega
    rw [dE2 (by omega) (by omega)]; omega
  simp [J1.2 h]
def row279Q : List AV → Option (Option Bool × AV) := rowF [(.int .u64), (.int .i64)] none word_SextA
theorem dQ9 : D1 Tryz.prog 279 row279Q := s3 fun g => p6 mix A7 df4 (o9 mix A7 df4 D5 (fun _ h => o5 p8 h) 8) dR0 (fun c _ => m7 c) (dO5 g) (dK6 ..)
def T279 : List Row := (279, row279Q) :: T105
theorem dn8 : r0 Tryz.prog (m5 T279) := m8 dQ9 df4
def bD4 (a0 a1 a2 : Int) : Int :=
 bif iEq a0 48 then E1 (aC4 (ar6 a0) (I5 a1 32) a2 32) 32 else E1 (aC4 (ar6 a0) (E1 a1 32) a2 32) 32
def aM8 (a0 a1 a2 : Int) : Int :=
 bif bif iNe (a8 a0) 5 then iNe (a8 a0) 6 else false then 0
 else bif !aW3 a0 then aC4 (ar6 a0) a1 a2 64 else bif iEq a0 33 then E1 (aC4 (ar6 a0) (I5 a1 32) a2 32) 32 else bD4 a0 a1 a2
def cJ5 (a0 a1 a2 : Int) : Int :=
 bif bif iNe (a8 a0) 5 then iNe (a8 a0) 6 else false then 0
 else
 bif !aW3 a0 then aC4 (ar6 a0) a1 a2 64
 else
 bif iEq a0 33 then bif iEq a0 33 then E1 (aC4 (ar6 a0) (I5 a1 32) a2 32) 32 else E1 (aC4 (ar6 a0) (E1 a1 32) a2 32) 32
 else bD4 a0 a1 a2
def cA8 (a0 a1 a2 : Int) : Bool :=
 bif bif iNe (a8 a0) 5 then iNe (a8 a0) 6 else false then true
 else
 bif !aW3 a0 then ad3 a0 && true
 else bif iEq a0 33 then bif iEq a0 33 then ad3 a0 && true else ad3 a0 && true else bif iEq a0 48 then ad3 a0 && true else ad3 a0 && true
theorem dP3 (a0 a1 a2 : Int)  : cJ5 a0 a1 a2  = aM8 a0 a1 a2  := by
  unfold cJ5
  first | (simp only [bD4, cS1, cS2, cS3, cS4, cS6, cS7]; done) | (simp only [bD4, cS1, cS2, cS3, cS4, cS6, cS7]; kernel_rfl)
def ck0 (a0 a1 a2 : Int) : AV := .it .u64 (aM8 a0 a1 a2)
def cH3 (a0 a1 a2 : Int) : AV := .it .u64 (cJ5 a0 a1 a2)
theorem dM0 (a0 a1 a2 : Int) : cH3 a0 a1 a2 = ck0 a0 a1 a2 := by
  unfold cH3 ck0
  simp only [dP3]
def alu_DoA (g : Nat → AV) : AV := ck0 ((g 0).num) ((g 1).num) ((g 2).num)
def alu_DoB (g : Nat → AV) : Bool := cA8 ((g 0).num) ((g 1).num) ((g 2).num)
theorem alu_DoE (g : Nat → AV) : pO T279 100 false Tryz.f209 (r7 [(.int .i64), (.int .u64), (.int .u64)] 0 g) = some (alu_DoB g, alu_DoA g) := (by kernel_rfl : _ = some (alu_DoB g, cH3 ((g 0).num) ((g 1).num) ((g 2).num))).trans (by rw [dM0]; rfl)
theorem alu_DoP : Plain Tryz.prog 209 Tryz.f209 := ⟨Tryz.func209, of_decide_eq_true (by kernel_rfl)⟩
theorem alu_DoT (a0 a1 a2 : Int) : cA8 a0 a1 a2 = true := by
  unfold cA8
  cases h : (bif iNe (a8 a0) 5 then iNe (a8 a0) 6 else false) with
  | true => simp
  | false =>
    have hp : ad3 a0 = true := by
      have h3 : iIn a0 70 = true := by
        rw [V8]
        cases e1 : iLt a0 1 with
        | true => unfold a8 at h; rw [e1] at h; cases h
        | false =>
          cases e2 : iLe 70 a0 with
          | true => unfold a8 at h; rw [e1, e2] at h; cases h
          | false => rw [Q2] at e1; rw [aD1] at e2; omega
      simp [ad3, h3]
    simp [hp]
def row209Q : List AV → Option (Option Bool × AV) := rowF [(.int .i64), (.int .u64), (.int .u64)] none alu_DoA
theorem alu_DoO : D1 Tryz.prog 209 row209Q := s3 fun g => p6 mix A7 dn8 (o9 mix A7 dn8 D5 (fun _ h => o5 p8 h) 8) alu_DoP (fun c _ => m7 c) (alu_DoE g) (alu_DoT ..)
def T209 : List Row := (209, row209Q) :: T279
theorem ds1 : r0 Tryz.prog (m5 T209) := m8 alu_DoO dn8
def aQ7 (a0 a1 a2 : Int) : Bool :=
 bif iEq a0 55 then bif iEq a0 55 then true else bif iEq a0 56 then bif iEq a0 56 then true else true else bif iEq a0 59 then true else true
 else bif iEq a0 58 then true else bif iEq a0 56 then bif iEq a0 56 then true else true else bif iEq a0 59 then true else true
def aP4 (a0 a1 a2 : Int) : Int :=
 bif iEq a0 55 then bif iEq a0 55 then iOr .u64 a1 a2 else bif iEq a0 56 then bif iEq a0 56 then T1 .u64 a1 a2 else a1 else bif iEq a0 59 then T1 .u64 a1 a2 else a1
 else bif iEq a0 58 then iOr .u64 a1 a2 else bif iEq a0 56 then bif iEq a0 56 then T1 .u64 a1 a2 else a1 else bif iEq a0 59 then T1 .u64 a1 a2 else a1
def aA6 (a0 a1 a2 : Int) : Int :=
 bif iEq a0 54 then a2
 else
 bif iEq a0 57 then a2
 else
 bif iEq a0 55 then iOr .u64 a1 a2 else bif iEq a0 58 then iOr .u64 a1 a2 else bif iEq a0 56 then T1 .u64 a1 a2 else bif iEq a0 59 then T1 .u64 a1 a2 else a1
def cg0 (a0 a1 a2 : Int) : Int :=
 bif iEq a0 54 then bif iEq a0 54 then a2 else aP4 a0 a1 a2 else bif iEq a0 57 then a2 else aP4 a0 a1 a2
def bZ9 (a0 a1 a2 : Int) : Bool :=
 bif iEq a0 54 then bif iEq a0 54 then true else aQ7 a0 a1 a2 else bif iEq a0 57 then true else aQ7 a0 a1 a2
theorem dt9 (a0 a1 a2 : Int)  : cg0 a0 a1 a2  = aA6 a0 a1 a2  := by
  unfold cg0
  first | (simp only [aQ7, aP4, cS1, cS2, cS3, cS4, cS6, cS7]; done) | (simp only [aQ7, aP4, cS1, cS2, cS3, cS4, cS6, cS7]; kernel_rfl)
def bE0 (a0 a1 a2 : Int) : AV := .it .u64 (aA6 a0 a1 a2)
def ci4 (a0 a1 a2 : Int) : AV := .it .u64 (cg0 a0 a1 a2)
theorem dh2 (a0 a1 a2 : Int) : ci4 a0 a1 a2 = bE0 a0 a1 a2 := by
  unfold ci4 bE0
  simp only [dt9]
def alu_CsrA (g : Nat → AV) : AV := bE0 ((g 0).num) ((g 1).num) ((g 2).num)
def alu_CsrB (g : Nat → AV) : Bool := bZ9 ((g 0).num) ((g 1).num) ((g 2).num)
theorem alu_CsrE (g : Nat → AV) : pO T209 100 false Tryz.f283 (r7 [(.int .i64), (.int .u64), (.int .u64)] 0 g) = some (alu_CsrB g, alu_CsrA g) := (by kernel_rfl : _ = some (alu_CsrB g, ci4 ((g 0).num) ((g 1).num) ((g 2).num))).trans (by rw [dh2]; rfl)
theorem alu_CsrP : Plain Tryz.prog 283 Tryz.f283 := ⟨Tryz.func283, of_decide_eq_true (by kernel_rfl)⟩
theorem alu_CsrT (a0 a1 a2 : Int) : bZ9 a0 a1 a2 = true := by
  unfold bZ9
  simp only [aQ7, aP4, cS1, cS2, cS3, cS4, cS6, cS7]
def row283Q : List AV → Option (Option Bool × AV) := rowF [(.int .i64), (.int .u64), (.int .u64)] none alu_CsrA
theorem alu_CsrO : D1 Tryz.prog 283 row283Q := s3 fun g => p6 mix A7 ds1 (o9 mix A7 ds1 D5 (fun _ h => o5 p8 h) 8) alu_CsrP (fun c _ => m7 c) (alu_CsrE g) (alu_CsrT ..)
def T283 : List Row := (283, row283Q) :: T209
theorem de4 : r0 Tryz.prog (m5 T283) := m8 alu_CsrO ds1
def N4 (a0 a1 a2 : Int) : Bool :=
 bif iEq a0 5 then iEq a1 a2
 else bif iEq a0 6 then iNe a1 a2 else bif iEq a0 7 then bn1 a1 a2 else bif iEq a0 8 then !bn1 a1 a2 else bif iEq a0 9 then iLt a1 a2 else bif iEq a0 10 then iLe a2 a1 else false
def bK8 (a0 a1 a2 : Int) : Bool :=
 bif iEq a0 5 then true else bif iEq a0 6 then true else bif iEq a0 7 then true else bif iEq a0 8 then true else bif iEq a0 9 then true else bif iEq a0 10 then true else true
def bK1 (a0 a1 a2 : Int) : AV := .bl (N4 a0 a1 a2)
def alu_TakenA (g : Nat → AV) : AV := bK1 ((g 0).num) ((g 1).num) ((g 2).num)
def alu_TakenB (g : Nat → AV) : Bool := bK8 ((g 0).num) ((g 1).num) ((g 2).num)
theorem dS2 (g : Nat → AV) : pO T283 100 false Tryz.f272 (r7 [(.int .i64), (.int .u64), (.int .u64)] 0 g) = some (alu_TakenB g, alu_TakenA g) := by kernel_rfl
theorem dK3 : Plain Tryz.prog 272 Tryz.f272 := ⟨Tryz.func272, of_decide_eq_true (by kernel_rfl)⟩
theorem dM7 (a0 a1 a2 : Int) : bK8 a0 a1 a2 = true := by
  unfold bK8
  simp only [cS1, cS2, cS3, cS4, cS6, cS7]
def row272Q : List AV → Option (Option Bool × AV) := rowF [(.int .i64), (.int .u64), (.int .u64)] none alu_TakenA
theorem dU5 : D1 Tryz.prog 272 row272Q := s3 fun g => p6 mix A7 de4 (o9 mix A7 de4 D5 (fun _ h => o5 p8 h) 8) dK3 (fun c _ => m7 c) (dS2 g) (dM7 ..)
def T272 : List Row := (272, row272Q) :: T283
theorem dc5 : r0 Tryz.prog (m5 T272) := m8 dU5 de4
def aa1 (a0 : Int) : Bool :=
 bif iEq a0 14 then bif iEq a0 14 then true else true
 else bif iEq a0 21 then bif iEq a0 21 then true else true else bif iEq a0 67 then bif iEq a0 67 then true else true else bif iEq a0 69 then true else true
def aq7 (a0 : Int) : Bool :=
 bif iEq a0 13 then bif iEq a0 13 then true else aa1 a0
 else
 bif iEq a0 17 then bif iEq a0 17 then true else aa1 a0
 else bif iEq a0 20 then bif iEq a0 20 then true else aa1 a0 else bif iEq a0 66 then bif iEq a0 66 then true else aa1 a0 else bif iEq a0 68 then true else aa1 a0
def aq1 (a0 : Int) : Bool :=
 bif iEq a0 12 then bif iEq a0 12 then true else aq7 a0 else bif iEq a0 16 then bif iEq a0 16 then true else aq7 a0 else bif iEq a0 19 then true else aq7 a0
def aa2 (a0 : Int) : Int :=
 bif iEq a0 14 then bif iEq a0 14 then 8 else 0 else bif iEq a0 21 then bif iEq a0 21 then 8 else 0 else bif iEq a0 67 then bif iEq a0 67 then 8 else 0 else bif iEq a0 69 then 8 else 0
def ar5 (a0 : Int) : Int :=
 bif iEq a0 13 then bif iEq a0 13 then 4 else aa2 a0
 else
 bif iEq a0 17 then bif iEq a0 17 then 4 else aa2 a0
 else bif iEq a0 20 then bif iEq a0 20 then 4 else aa2 a0 else bif iEq a0 66 then bif iEq a0 66 then 4 else aa2 a0 else bif iEq a0 68 then 4 else aa2 a0
def ar3 (a0 : Int) : Int :=
 bif iEq a0 12 then bif iEq a0 12 then 2 else ar5 a0 else bif iEq a0 16 then bif iEq a0 16 then 2 else ar5 a0 else bif iEq a0 19 then 2 else ar5 a0
def f4 (a0 : Int) : Int :=
 bif iEq a0 11 then 1
 else
 bif iEq a0 15 then 1
 else
 bif iEq a0 18 then 1
 else
 bif iEq a0 12 then 2
 else
 bif iEq a0 16 then 2
 else
 bif iEq a0 19 then 2
 else
 bif iEq a0 13 then 4
 else
 bif iEq a0 17 then 4
 else
 bif iEq a0 20 then 4 else bif iEq a0 66 then 4 else bif iEq a0 68 then 4 else bif iEq a0 14 then 8 else bif iEq a0 21 then 8 else bif iEq a0 67 then 8 else bif iEq a0 69 then 8 else 0
def bB2 (a0 : Int) : Int :=
 bif iEq a0 11 then bif iEq a0 11 then 1 else ar3 a0 else bif iEq a0 15 then bif iEq a0 15 then 1 else ar3 a0 else bif iEq a0 18 then 1 else ar3 a0
def bn4 (a0 : Int) : Bool :=
 bif iEq a0 11 then bif iEq a0 11 then true else aq1 a0 else bif iEq a0 15 then bif iEq a0 15 then true else aq1 a0 else bif iEq a0 18 then true else aq1 a0
theorem cF5 (a0 : Int)  : bB2 a0  = f4 a0  := by
  unfold bB2
  first | (simp only [aa1, aq7, aq1, aa2, ar5, ar3, cS1, cS2, cS3, cS4, cS6, cS7]; done) | (simp only [aa1, aq7, aq1, aa2, ar5, ar3, cS1, cS2, cS3, cS4, cS6, cS7]; kernel_rfl)
def aR8 (a0 : Int) : AV := .it .i64 (f4 a0)
def bu4 (a0 : Int) : AV := .it .i64 (bB2 a0)
theorem cz4 (a0 : Int) : bu4 a0 = aR8 a0 := by
  unfold bu4 aR8
  simp only [cF5]
def insn_SizeA (g : Nat → AV) : AV := aR8 ((g 0).num)
def insn_SizeB (g : Nat → AV) : Bool := bn4 ((g 0).num)
theorem dP7 (g : Nat → AV) : pO T272 100 false Tryz.f163 (r7 [(.int .i64)] 0 g) = some (insn_SizeB g, insn_SizeA g) := (by kernel_rfl : _ = some (insn_SizeB g, bu4 ((g 0).num))).trans (by rw [cz4]; rfl)
theorem dR8 : Plain Tryz.prog 163 Tryz.f163 := ⟨Tryz.func163, of_decide_eq_true (by kernel_rfl)⟩
theorem dN3 (a0 : Int) : bn4 a0 = true := by
  unfold bn4
  simp only [aa1, aq7, aq1, aa2, ar5, ar3, cS1, cS2, cS3, cS4, cS6, cS7]
def row163Q : List AV → Option (Option Bool × AV) := rowF [(.int .i64)] none insn_SizeA
theorem dL4 : D1 Tryz.prog 163 row163Q := s3 fun g => p6 mix A7 dc5 (o9 mix A7 dc5 D5 (fun _ h => o5 p8 h) 8) dR8 (fun c _ => m7 c) (dP7 g) (dN3 ..)
def T163 : List Row := (163, row163Q) :: T272
theorem dg1 : r0 Tryz.prog (m5 T163) := m8 dL4 dc5
def aa5 (a0 a1 : Int) : Bool :=
 bif iEq a0 11 then bif iEq a0 11 then true else true
 else
 bif iEq a0 12 then bif iEq a0 12 then true else true
 else
 bif iEq a0 13 then bif iEq a0 13 then true else true
 else bif iEq a0 14 then bif iEq a0 14 then true else true else bif iEq a0 66 then bif iEq a0 66 then true else true else bif iEq a0 67 then true else true
def ac3 (a0 a1 : Int) : Int :=
 bif iEq a0 11 then bif iEq a0 11 then E1 a1 (iMul .i64 8 (f4 a0)) else 0
 else
 bif iEq a0 12 then bif iEq a0 12 then E1 a1 (iMul .i64 8 (f4 a0)) else 0
 else
 bif iEq a0 13 then bif iEq a0 13 then E1 a1 (iMul .i64 8 (f4 a0)) else 0
 else
 bif iEq a0 14 then bif iEq a0 14 then E1 a1 (iMul .i64 8 (f4 a0)) else 0
 else bif iEq a0 66 then bif iEq a0 66 then E1 a1 (iMul .i64 8 (f4 a0)) else 0 else bif iEq a0 67 then E1 a1 (iMul .i64 8 (f4 a0)) else 0
def ab6 (a0 a1 : Int) : Int :=
 bif iEq a0 15 then I5 a1 (iMul .i64 8 (f4 a0))
 else
 bif iEq a0 16 then I5 a1 (iMul .i64 8 (f4 a0))
 else
 bif iEq a0 17 then I5 a1 (iMul .i64 8 (f4 a0))
 else
 bif iEq a0 68 then I5 a1 (iMul .i64 8 (f4 a0))
 else
 bif iEq a0 11 then E1 a1 (iMul .i64 8 (f4 a0))
 else
 bif iEq a0 12 then E1 a1 (iMul .i64 8 (f4 a0))
 else
 bif iEq a0 13 then E1 a1 (iMul .i64 8 (f4 a0))
 else
 bif iEq a0 14 then E1 a1 (iMul .i64 8 (f4 a0))
 else bif iEq a0 66 then E1 a1 (iMul .i64 8 (f4 a0)) else bif iEq a0 67 then E1 a1 (iMul .i64 8 (f4 a0)) else 0
def bi6 (a0 a1 : Int) : Int :=
 bif iEq a0 15 then bif iEq a0 15 then I5 a1 (iMul .i64 8 (f4 a0)) else ac3 a0 a1
 else
 bif iEq a0 16 then bif iEq a0 16 then I5 a1 (iMul .i64 8 (f4 a0)) else ac3 a0 a1
 else
 bif iEq a0 17 then bif iEq a0 17 then I5 a1 (iMul .i64 8 (f4 a0)) else ac3 a0 a1
 else bif iEq a0 68 then I5 a1 (iMul .i64 8 (f4 a0)) else ac3 a0 a1
def aV2 (a0 a1 : Int) : Bool :=
 bif iEq a0 15 then bif iEq a0 15 then true else aa5 a0 a1
 else bif iEq a0 16 then bif iEq a0 16 then true else aa5 a0 a1 else bif iEq a0 17 then bif iEq a0 17 then true else aa5 a0 a1 else bif iEq a0 68 then true else aa5 a0 a1
theorem cq7 (a0 a1 : Int)  : bi6 a0 a1  = ab6 a0 a1  := by
  unfold bi6
  first | (simp only [aa5, ac3, cS1, cS2, cS3, cS4, cS6, cS7]; done) | (simp only [aa5, ac3, cS1, cS2, cS3, cS4, cS6, cS7]; kernel_rfl)
def aJ2 (a0 a1 : Int) : AV := .it .u64 (ab6 a0 a1)
def bh7 (a0 a1 : Int) : AV := .it .u64 (bi6 a0 a1)
theorem cq5 (a0 a1 : Int) : bh7 a0 a1 = aJ2 a0 a1 := by
  unfold bh7 aJ2
  simp only [cq7]
def alu_ExtendA (g : Nat → AV) : AV := aJ2 ((g 0).num) ((g 1).num)
def alu_ExtendB (g : Nat → AV) : Bool := aV2 ((g 0).num) ((g 1).num)
theorem dm7 (g : Nat → AV) : pO T163 100 false Tryz.f275 (r7 [(.int .i64), (.int .u64)] 0 g) = some (alu_ExtendB g, alu_ExtendA g) := (by kernel_rfl : _ = some (alu_ExtendB g, bh7 ((g 0).num) ((g 1).num))).trans (by rw [cq5]; rfl)
theorem ds7 : Plain Tryz.prog 275 Tryz.f275 := ⟨Tryz.func275, of_decide_eq_true (by kernel_rfl)⟩
theorem do1 (a0 a1 : Int) : aV2 a0 a1 = true := by
  unfold aV2
  simp only [aa5, ac3, cS1, cS2, cS3, cS4, cS6, cS7]
def row275Q : List AV → Option (Option Bool × AV) := rowF [(.int .i64), (.int .u64)] none alu_ExtendA
theorem dm4 : D1 Tryz.prog 275 row275Q := s3 fun g => p6 mix A7 dg1 (o9 mix A7 dg1 D5 (fun _ h => o5 p8 h) 8) ds7 (fun c _ => m7 c) (dm7 g) (do1 ..)
def T275 : List Row := (275, row275Q) :: T163
theorem dx8 : r0 Tryz.prog (m5 T275) := m8 dm4 dg1
def bg6 (a0 : Int) : Bool :=
 bif iEq a0 3 then true else bif iEq a0 4 then true else true
def bl7 (a0 : Int) : Bool :=
 bif iEq a0 3 then false else bif iEq a0 4 then false else false
def ba0 (a0 : Int) : Bool :=
 bif iEq a0 3 then false else iEq a0 4
def bm6 (a0 : Int) : Bool :=
 bif iEq a0 3 then false else bif iEq a0 4 then true else false
def bf9 (a0 : Int) : Bool :=
 bif iEq a0 3 then false else bif iEq a0 4 then false else false
def ba7 (a0 : Int) : Int :=
 bif iEq a0 3 then -1048576 else bif iEq a0 4 then -2048 else -2147483648
def aY3 (a0 : Int) : Int :=
 bif iEq a0 3 then 1048574 else bif iEq a0 4 then 2047 else 2147479552
def aX8 (a0 : Int) : Int :=
 bif iEq a0 3 then 2 else bif iEq a0 4 then 1 else 4096
def ba6 (a0 : Int) : Bool :=
 bif iEq a0 3 then true else bif iEq a0 4 then true else true
theorem cs5 (a0 : Int)  : bg6 a0  = true := by
  unfold bg6
  first | (simp only [cS1, cS2, cS3, cS4, cS6, cS7]; done) | (simp only [cS1, cS2, cS3, cS4, cS6, cS7]; kernel_rfl)
theorem cp1 (a0 : Int)  : bl7 a0  = false := by
  unfold bl7
  first | (simp only [cS1, cS2, cS3, cS4, cS6, cS7]; done) | (simp only [cS1, cS2, cS3, cS4, cS6, cS7]; kernel_rfl)
theorem cq1 (a0 : Int)  : bm6 a0  = ba0 a0  := by
  unfold bm6
  first | (simp only [cS1, cS2, cS3, cS4, cS6, cS7]; done) | (simp only [cS1, cS2, cS3, cS4, cS6, cS7]; kernel_rfl)
theorem cq9 (a0 : Int)  : bf9 a0  = false := by
  unfold bf9
  first | (simp only [cS1, cS2, cS3, cS4, cS6, cS7]; done) | (simp only [cS1, cS2, cS3, cS4, cS6, cS7]; kernel_rfl)
def aI1 (a0 : Int) : AV := .agg [.bl true, .bl false, .bl (ba0 a0), .bl false, .it .i64 (ba7 a0), .it .i64 (aY3 a0), .it .i64 (aX8 a0)]
def bh0 (a0 : Int) : AV := .agg [.bl (bg6 a0), .bl (bl7 a0), .bl (bm6 a0), .bl (bf9 a0), .it .i64 (ba7 a0), .it .i64 (aY3 a0), .it .i64 (aX8 a0)]
theorem co8 (a0 : Int) : bh0 a0 = aI1 a0 := by
  unfold bh0 aI1
  simp only [cs5, cp1, cq1, cq9]
def insn_jumpsA (g : Nat → AV) : AV := aI1 ((g 0).num)
def insn_jumpsB (g : Nat → AV) : Bool := ba6 ((g 0).num)
theorem dk3 (g : Nat → AV) : pO T275 100 false Tryz.f313 (r7 [(.int .i64)] 0 g) = some (insn_jumpsB g, insn_jumpsA g) := (by kernel_rfl : _ = some (insn_jumpsB g, bh0 ((g 0).num))).trans (by rw [co8]; rfl)
theorem dc8 : Plain Tryz.prog 313 Tryz.f313 := ⟨Tryz.func313, of_decide_eq_true (by kernel_rfl)⟩
theorem dp6 (a0 : Int) : ba6 a0 = true := by
  unfold ba6
  simp only [cS1, cS2, cS3, cS4, cS6, cS7]
def row313Q : List AV → Option (Option Bool × AV) := rowF [(.int .i64)] none insn_jumpsA
theorem di5 : D1 Tryz.prog 313 row313Q := s3 fun g => p6 mix A7 dx8 (o9 mix A7 dx8 D5 (fun _ h => o5 p8 h) 8) dc8 (fun c _ => m7 c) (dk3 g) (dp6 ..)
def T313 : List Row := (313, row313Q) :: T275
theorem du1 : r0 Tryz.prog (m5 T313) := m8 di5 dx8
def A3 (a0 : Int) : Bool :=
 bif iEq a0 32 then bif iEq a0 32 then true else true else bif iEq a0 33 then bif iEq a0 33 then true else true else bif iEq a0 34 then true else true
def A4 (a0 : Int) : Bool :=
 bif iEq a0 28 then bif iEq a0 28 then true else A3 a0 else bif iEq a0 29 then bif iEq a0 29 then true else A3 a0 else bif iEq a0 30 then true else A3 a0
def A1 (a0 : Int) : Bool :=
 bif iEq a0 32 then bif iEq a0 32 then false else false else bif iEq a0 33 then bif iEq a0 33 then false else false else bif iEq a0 34 then false else false
def B5 (a0 : Int) : Bool :=
 bif iEq a0 28 then bif iEq a0 28 then false else A1 a0
 else bif iEq a0 29 then bif iEq a0 29 then false else A1 a0 else bif iEq a0 30 then false else A1 a0
def A2 (a0 : Int) : Int :=
 bif iEq a0 32 then bif iEq a0 32 then 0 else -2048 else bif iEq a0 33 then bif iEq a0 33 then 0 else -2048 else bif iEq a0 34 then 0 else -2048
def A5 (a0 : Int) : Int :=
 bif iEq a0 32 then bif iEq a0 32 then 31 else 2047 else bif iEq a0 33 then bif iEq a0 33 then 31 else 2047 else bif iEq a0 34 then 31 else 2047
def A6 (a0 : Int) : Int :=
 bif iEq a0 32 then bif iEq a0 32 then 1 else 1 else bif iEq a0 33 then bif iEq a0 33 then 1 else 1 else bif iEq a0 34 then 1 else 1
def ay2 (a0 : Int) : Bool :=
 A4 a0
def ay7 (a0 : Int) : Bool :=
 B5 a0
def ay4 (a0 : Int) : Bool :=
 A4 a0
def ax9 (a0 : Int) : Bool :=
 B5 a0
def an5 (a0 : Int) : Int :=
 bif iEq a0 28 then 0 else bif iEq a0 29 then 0 else bif iEq a0 30 then 0 else bif iEq a0 32 then 0 else bif iEq a0 33 then 0 else bif iEq a0 34 then 0 else -2048
def aA0 (a0 : Int) : Int :=
 bif iEq a0 28 then bif iEq a0 28 then 0 else A2 a0 else bif iEq a0 29 then bif iEq a0 29 then 0 else A2 a0 else bif iEq a0 30 then 0 else A2 a0
def an8 (a0 : Int) : Int :=
 bif iEq a0 28 then 63 else bif iEq a0 29 then 63 else bif iEq a0 30 then 63 else bif iEq a0 32 then 31 else bif iEq a0 33 then 31 else bif iEq a0 34 then 31 else 2047
def ay1 (a0 : Int) : Int :=
 bif iEq a0 28 then bif iEq a0 28 then 63 else A5 a0 else bif iEq a0 29 then bif iEq a0 29 then 63 else A5 a0 else bif iEq a0 30 then 63 else A5 a0
def ay9 (a0 : Int) : Int :=
 bif iEq a0 28 then bif iEq a0 28 then 1 else A6 a0 else bif iEq a0 29 then bif iEq a0 29 then 1 else A6 a0 else bif iEq a0 30 then 1 else A6 a0
def an6 (a0 : Int) : Bool :=
 A4 a0
theorem bw5 (a0 : Int)  : ay2 a0  = true := by
  unfold ay2
  first | (simp only [A3, A4, A1, B5, A2, A5, A6, cS1, cS2, cS3, cS4, cS6, cS7]; done) | (simp only [A3, A4, A1, B5, A2, A5, A6, cS1, cS2, cS3, cS4, cS6, cS7]; kernel_rfl)
theorem bx2 (a0 : Int)  : ay7 a0  = false := by
  unfold ay7
  first | (simp only [A3, A4, A1, B5, A2, A5, A6, cS1, cS2, cS3, cS4, cS6, cS7]; done) | (simp only [A3, A4, A1, B5, A2, A5, A6, cS1, cS2, cS3, cS4, cS6, cS7]; kernel_rfl)
theorem bz6 (a0 : Int)  : ay4 a0  = true := by
  unfold ay4
  first | (simp only [A3, A4, A1, B5, A2, A5, A6, cS1, cS2, cS3, cS4, cS6, cS7]; done) | (simp only [A3, A4, A1, B5, A2, A5, A6, cS1, cS2, cS3, cS4, cS6, cS7]; kernel_rfl)
theorem bx5 (a0 : Int)  : ax9 a0  = false := by
  unfold ax9
  first | (simp only [A3, A4, A1, B5, A2, A5, A6, cS1, cS2, cS3, cS4, cS6, cS7]; done) | (simp only [A3, A4, A1, B5, A2, A5, A6, cS1, cS2, cS3, cS4, cS6, cS7]; kernel_rfl)
theorem bw0 (a0 : Int)  : aA0 a0  = an5 a0  := by
  unfold aA0
  first | (simp only [A3, A4, A1, B5, A2, A5, A6, cS1, cS2, cS3, cS4, cS6, cS7]; done) | (simp only [A3, A4, A1, B5, A2, A5, A6, cS1, cS2, cS3, cS4, cS6, cS7]; kernel_rfl)
theorem bu6 (a0 : Int)  : ay1 a0  = an8 a0  := by
  unfold ay1
  first | (simp only [A3, A4, A1, B5, A2, A5, A6, cS1, cS2, cS3, cS4, cS6, cS7]; done) | (simp only [A3, A4, A1, B5, A2, A5, A6, cS1, cS2, cS3, cS4, cS6, cS7]; kernel_rfl)
theorem bz9 (a0 : Int)  : ay9 a0  = 1 := by
  unfold ay9
  first | (simp only [A3, A4, A1, B5, A2, A5, A6, cS1, cS2, cS3, cS4, cS6, cS7]; done) | (simp only [A3, A4, A1, B5, A2, A5, A6, cS1, cS2, cS3, cS4, cS6, cS7]; kernel_rfl)
def ad0 (a0 : Int) : AV := .agg [.bl true, .bl false, .bl true, .bl false, .it .i64 (an5 a0), .it .i64 (an8 a0), .it .i64 1]
def ay5 (a0 : Int) : AV := .agg [.bl (ay2 a0), .bl (ay7 a0), .bl (ay4 a0), .bl (ax9 a0), .it .i64 (aA0 a0), .it .i64 (ay1 a0), .it .i64 (ay9 a0)]
theorem bA1 (a0 : Int) : ay5 a0 = ad0 a0 := by
  unfold ay5 ad0
  simp only [bw5, bx2, bz6, bx5, bw0, bu6, bz9]
def insn_withNumberA (g : Nat → AV) : AV := ad0 ((g 0).num)
def insn_withNumberB (g : Nat → AV) : Bool := an6 ((g 0).num)
theorem bU6 (g : Nat → AV) : pO T313 100 false Tryz.f314 (r7 [(.int .i64)] 0 g) = some (insn_withNumberB g, insn_withNumberA g) := (by kernel_rfl : _ = some (insn_withNumberB g, ay5 ((g 0).num))).trans (by rw [bA1]; rfl)
theorem bT9 : Plain Tryz.prog 314 Tryz.f314 := ⟨Tryz.func314, of_decide_eq_true (by kernel_rfl)⟩
theorem bT1 (a0 : Int) : an6 a0 = true := by
  unfold an6
  simp only [A3, A4, A1, B5, A2, A5, A6, cS1, cS2, cS3, cS4, cS6, cS7]
def row314Q : List AV → Option (Option Bool × AV) := rowF [(.int .i64)] none insn_withNumberA
theorem bW4 : D1 Tryz.prog 314 row314Q := s3 fun g => p6 mix A7 du1 (o9 mix A7 du1 D5 (fun _ h => o5 p8 h) 8) bT9 (fun c _ => m7 c) (bU6 g) (bT1 ..)
def T314 : List Row := (314, row314Q) :: T313
theorem dw2 : r0 Tryz.prog (m5 T314) := m8 bW4 du1
def K0 (a0 : Int) : Int :=
 bif iEq (a8 a0) 11 then 0 else bif iEq (a8 a0) 12 then bif iEq a0 69 then 0 else 0 else 0
def bY5 (a0 : Int) : Bool :=
 bif iEq (a8 a0) 1 then true
 else
 bif iEq (a8 a0) 2 then false
 else
 bif iEq (a8 a0) 3 then true
 else
 bif iEq (a8 a0) 4 then false
 else
 bif iEq (a8 a0) 5 then true
 else
 bif iEq (a8 a0) 6 then true
 else bif iEq (a8 a0) 9 then true else bif iEq (a8 a0) 11 then false else bif iEq (a8 a0) 12 then bif iEq a0 69 then false else true else false
def cl5 (a0 : Int) : Bool :=
 bif iEq (a8 a0) 1 then true
 else
 bif iEq (a8 a0) 2 then false
 else
 bif iEq (a8 a0) 3 then true
 else
 bif iEq (a8 a0) 4 then false
 else
 bif iEq (a8 a0) 5 then true
 else
 bif iEq (a8 a0) 6 then true
 else
 bif iEq (a8 a0) 9 then bif iLe 57 a0 then true else true
 else bif iEq (a8 a0) 11 then false else bif iEq (a8 a0) 12 then bif iEq a0 69 then false else true else false
def cJ8 (a0 : Int) : Bool :=
 bif iEq (a8 a0) 1 then false
 else
 bif iEq (a8 a0) 2 then false
 else
 bif iEq (a8 a0) 3 then false else bif iEq (a8 a0) 4 then false else bif iEq (a8 a0) 5 then false else bif iEq (a8 a0) 6 then false else iEq (a8 a0) 9
def ci3 (a0 : Int) : Bool :=
 bif iEq (a8 a0) 1 then false
 else
 bif iEq (a8 a0) 2 then false
 else
 bif iEq (a8 a0) 3 then false
 else
 bif iEq (a8 a0) 4 then false
 else
 bif iEq (a8 a0) 5 then false
 else
 bif iEq (a8 a0) 6 then false
 else
 bif iEq (a8 a0) 9 then bif iLe 57 a0 then true else true
 else bif iEq (a8 a0) 11 then false else bif iEq (a8 a0) 12 then bif iEq a0 69 then false else false else false
def bX5 (a0 : Int) : Bool :=
 bif iEq (a8 a0) 1 then ba0 a0
 else
 bif iEq (a8 a0) 2 then true
 else
 bif iEq (a8 a0) 3 then true
 else
 bif iEq (a8 a0) 4 then true
 else
 bif iEq (a8 a0) 5 then true
 else bif iEq (a8 a0) 6 then true else bif iEq (a8 a0) 9 then bif iLe 57 a0 then false else true else bif iEq (a8 a0) 11 then true else iEq (a8 a0) 12
def cc5 (a0 : Int) : Bool :=
 bif iEq (a8 a0) 1 then ba0 a0
 else
 bif iEq (a8 a0) 2 then true
 else
 bif iEq (a8 a0) 3 then true
 else
 bif iEq (a8 a0) 4 then true
 else
 bif iEq (a8 a0) 5 then true
 else
 bif iEq (a8 a0) 6 then true
 else
 bif iEq (a8 a0) 9 then bif iLe 57 a0 then false else true
 else bif iEq (a8 a0) 11 then true else bif iEq (a8 a0) 12 then bif iEq a0 69 then true else true else false
def cb0 (a0 : Int) : Bool :=
 bif iEq (a8 a0) 1 then false
 else
 bif iEq (a8 a0) 2 then true
 else
 bif iEq (a8 a0) 3 then false
 else
 bif iEq (a8 a0) 4 then true
 else
 bif iEq (a8 a0) 5 then false
 else bif iEq (a8 a0) 6 then true else bif iEq (a8 a0) 9 then false else bif iEq (a8 a0) 11 then true else bif iEq (a8 a0) 12 then iEq a0 69 else false
def co2 (a0 : Int) : Bool :=
 bif iEq (a8 a0) 1 then false
 else
 bif iEq (a8 a0) 2 then true
 else
 bif iEq (a8 a0) 3 then false
 else
 bif iEq (a8 a0) 4 then true
 else
 bif iEq (a8 a0) 5 then false
 else
 bif iEq (a8 a0) 6 then true
 else
 bif iEq (a8 a0) 9 then bif iLe 57 a0 then false else false
 else bif iEq (a8 a0) 11 then true else bif iEq (a8 a0) 12 then bif iEq a0 69 then true else false else false
def bE2 (a0 : Int) : Int :=
 bif iEq (a8 a0) 1 then ba7 a0
 else bif iEq (a8 a0) 2 then -4096 else bif iEq (a8 a0) 3 then -2048 else bif iEq (a8 a0) 4 then -2048 else bif iEq (a8 a0) 5 then an5 a0 else 0
def cj8 (a0 : Int) : Int :=
 bif iEq (a8 a0) 1 then ba7 a0
 else
 bif iEq (a8 a0) 2 then -4096
 else
 bif iEq (a8 a0) 3 then -2048
 else
 bif iEq (a8 a0) 4 then -2048
 else bif iEq (a8 a0) 5 then an5 a0 else bif iEq (a8 a0) 6 then 0 else bif iEq (a8 a0) 9 then bif iLe 57 a0 then 0 else 0 else K0 a0
def bI1 (a0 : Int) : Int :=
 bif iEq (a8 a0) 1 then aY3 a0
 else
 bif iEq (a8 a0) 2 then 4094
 else
 bif iEq (a8 a0) 3 then 2047
 else
 bif iEq (a8 a0) 4 then 2047
 else bif iEq (a8 a0) 5 then an8 a0 else bif iEq (a8 a0) 6 then 0 else bif iEq (a8 a0) 9 then bif iLe 57 a0 then 31 else 0 else 0
def cg7 (a0 : Int) : Int :=
 bif iEq (a8 a0) 1 then aY3 a0
 else
 bif iEq (a8 a0) 2 then 4094
 else
 bif iEq (a8 a0) 3 then 2047
 else
 bif iEq (a8 a0) 4 then 2047
 else bif iEq (a8 a0) 5 then an8 a0 else bif iEq (a8 a0) 6 then 0 else bif iEq (a8 a0) 9 then bif iLe 57 a0 then 31 else 0 else K0 a0
def aw7 (a0 : Int) : Int :=
 bif iEq (a8 a0) 1 then aX8 a0
 else
 bif iEq (a8 a0) 2 then 2
 else
 bif iEq (a8 a0) 3 then 1
 else bif iEq (a8 a0) 4 then 1 else bif iEq (a8 a0) 5 then 1 else bif iEq (a8 a0) 6 then 0 else bif iEq (a8 a0) 9 then bif iLe 57 a0 then 1 else 0 else 0
def cn2 (a0 : Int) : Int :=
 bif iEq (a8 a0) 1 then aX8 a0
 else
 bif iEq (a8 a0) 2 then 2
 else
 bif iEq (a8 a0) 3 then 1
 else
 bif iEq (a8 a0) 4 then 1
 else bif iEq (a8 a0) 5 then 1 else bif iEq (a8 a0) 6 then 0 else bif iEq (a8 a0) 9 then bif iLe 57 a0 then 1 else 0 else K0 a0
def bX6 (a0 : Int) : Bool :=
 bif iEq (a8 a0) 1 then true
 else
 bif iEq (a8 a0) 2 then true
 else
 bif iEq (a8 a0) 3 then true
 else
 bif iEq (a8 a0) 4 then true
 else
 bif iEq (a8 a0) 5 then true
 else
 bif iEq (a8 a0) 6 then true
 else
 bif iEq (a8 a0) 9 then bif iLe 57 a0 then true else true
 else bif iEq (a8 a0) 11 then true else bif iEq (a8 a0) 12 then bif iEq a0 69 then true else true else true
theorem dp1 (a0 : Int)  : cl5 a0  = bY5 a0  := by
  unfold cl5
  first | (simp only [K0, cS1, cS2, cS3, cS4, cS6, cS7]; done) | (simp only [K0, cS1, cS2, cS3, cS4, cS6, cS7]; kernel_rfl)
theorem dz8 (a0 : Int)  : ci3 a0  = cJ8 a0  := by
  unfold ci3
  first | (simp only [K0, cS1, cS2, cS3, cS4, cS6, cS7]; done) | (simp only [K0, cS1, cS2, cS3, cS4, cS6, cS7]; kernel_rfl)
theorem dv7 (a0 : Int)  : cc5 a0  = bX5 a0  := by
  unfold cc5
  first | (simp only [K0, cS1, cS2, cS3, cS4, cS6, cS7]; done) | (simp only [K0, cS1, cS2, cS3, cS4, cS6, cS7]; kernel_rfl)
theorem ds9 (a0 : Int)  : co2 a0  = cb0 a0  := by
  unfold co2
  first | (simp only [K0, cS1, cS2, cS3, cS4, cS6, cS7]; done) | (simp only [K0, cS1, cS2, cS3, cS4, cS6, cS7]; kernel_rfl)
theorem dx0 (a0 : Int)  : cj8 a0  = bE2 a0  := by
  unfold cj8
  first | (simp only [K0, cS1, cS2, cS3, cS4, cS6, cS7]; done) | (simp only [K0, cS1, cS2, cS3, cS4, cS6, cS7]; kernel_rfl)
theorem do0 (a0 : Int)  : cg7 a0  = bI1 a0  := by
  unfold cg7
  first | (simp only [K0, cS1, cS2, cS3, cS4, cS6, cS7]; done) | (simp only [K0, cS1, cS2, cS3, cS4, cS6, cS7]; kernel_rfl)
theorem dq5 (a0 : Int)  : cn2 a0  = aw7 a0  := by
  unfold cn2
  first | (simp only [K0, cS1, cS2, cS3, cS4, cS6, cS7]; done) | (simp only [K0, cS1, cS2, cS3, cS4, cS6, cS7]; kernel_rfl)
def bH3 (a0 : Int) : AV := .agg [.bl (bY5 a0), .bl (cJ8 a0), .bl (bX5 a0), .bl (cb0 a0), .it .i64 (bE2 a0), .it .i64 (bI1 a0), .it .i64 (aw7 a0)]
def ck9 (a0 : Int) : AV := .agg [.bl (cl5 a0), .bl (ci3 a0), .bl (cc5 a0), .bl (co2 a0), .it .i64 (cj8 a0), .it .i64 (cg7 a0), .it .i64 (cn2 a0)]
theorem dw7 (a0 : Int) : ck9 a0 = bH3 a0 := by
  unfold ck9 bH3
  simp only [dp1, dz8, dv7, ds9, dx0, do0, dq5]
def insn_OfA (g : Nat → AV) : AV := bH3 ((g 0).num)
def insn_OfB (g : Nat → AV) : Bool := bX6 ((g 0).num)
theorem insn_OfE (g : Nat → AV) : pO T314 100 false Tryz.f266 (r7 [(.int .i64)] 0 g) = some (insn_OfB g, insn_OfA g) := (by kernel_rfl : _ = some (insn_OfB g, ck9 ((g 0).num))).trans (by rw [dw7]; rfl)
theorem insn_OfP : Plain Tryz.prog 266 Tryz.f266 := ⟨Tryz.func266, of_decide_eq_true (by kernel_rfl)⟩
theorem insn_OfT (a0 : Int) : bX6 a0 = true := by
  unfold bX6
  simp only [K0, cS1, cS2, cS3, cS4, cS6, cS7]
def row266Q : List AV → Option (Option Bool × AV) := rowF [(.int .i64)] none insn_OfA
theorem insn_OfO : D1 Tryz.prog 266 row266Q := s3 fun g => p6 mix A7 dw2 (o9 mix A7 dw2 D5 (fun _ h => o5 p8 h) 8) insn_OfP (fun c _ => m7 c) (insn_OfE g) (insn_OfT ..)
def T266 : List Row := (266, row266Q) :: T314
theorem dm6 : r0 Tryz.prog (m5 T266) := m8 insn_OfO dw2
def Y0 (a0 : Bool) (a1 a2 : Int) : Bool :=
 bif iEq a1 0 then true else bif bif a0 then iLt 0 a1 else false then iLt a1 a2 else false
def ch9 (a0 : Bool) (a1 a2 : Int) : Bool :=
 true
def bu1 (a0 : Bool) (a1 a2 : Int) : AV := .bl (Y0 a0 a1 a2)
def insn_fieldA (g : Nat → AV) : AV := bu1 ((g 0).bool) ((g 1).num) ((g 2).num)
def insn_fieldB (g : Nat → AV) : Bool := ch9 ((g 0).bool) ((g 1).num) ((g 2).num)
theorem dw0 (g : Nat → AV) : pO T266 100 false Tryz.f267 (r7 [.bool, (.int .i64), (.int .i64)] 0 g) = some (insn_fieldB g, insn_fieldA g) := by kernel_rfl
theorem dk1 : Plain Tryz.prog 267 Tryz.f267 := ⟨Tryz.func267, of_decide_eq_true (by kernel_rfl)⟩
theorem de6 (a0 : Bool) (a1 a2 : Int) : ch9 a0 a1 a2 = true := rfl
def row267Q : List AV → Option (Option Bool × AV) := rowF [.bool, (.int .i64), (.int .i64)] none insn_fieldA
theorem dA2 : D1 Tryz.prog 267 row267Q := s3 fun g => p6 mix A7 dm6 (o9 mix A7 dm6 D5 (fun _ h => o5 p8 h) 8) dk1 (fun c _ => m7 c) (dw0 g) (de6 ..)
def T267 : List Row := (267, row267Q) :: T266
theorem du0 : r0 Tryz.prog (m5 T267) := m8 dA2 dm6
def E6 (q7 C7 s4 s9 q8 s8 : Int) : Bool :=
 bif iEq (a8 q7) 0 then false
 else
 bif
 bif bif iEq (aw7 q7) 0 then iNe q8 0 else false then true
 else bif iLt 0 (aw7 q7) then bif bif iLt q8 (bE2 q7) then true else iLt (bI1 q7) q8 then true else iNe (iRem q8 (aw7 q7)) 0 else false then
 false
 else
 bif bif bif Y0 (bY5 q7) C7 32 then Y0 (bX5 q7) s4 32 else false then Y0 (cb0 q7) s9 32 else false then
 Y0 (cJ8 q7) s8 4096
 else false
def ca4 (q7 C7 s4 s9 q8 s8 : Int) : Bool :=
 bif iEq (a8 q7) 0 then true
 else
 (!((!bif iEq (aw7 q7) 0 then iNe q8 0 else false) && iLt 0 (aw7 q7) && !bif iLt q8 (bE2 q7) then true else iLt (bI1 q7) q8) || iNe (aw7 q7) 0) &&
 bif
 bif bif iEq (aw7 q7) 0 then iNe q8 0 else false then true
 else bif iLt 0 (aw7 q7) then bif bif iLt q8 (bE2 q7) then true else iLt (bI1 q7) q8 then true else iNe (iRem q8 (aw7 q7)) 0 else false then
 true
 else true
def cF7 (q7 C7 s4 s9 q8 s8 : Int) : AV := .bl (E6 q7 C7 s4 s9 q8 s8)
def sh0Q : Sh := .agg [(.arr 32 (.int .u64)), (.int .u64), (.int .i64), .bool, (.arr 29 (.int .u64)), (.int .u64)]
def sh1Q : Sh := .agg [(.int .i64), (.int .i64), (.int .i64), (.int .i64), (.int .i64), (.int .i64)]
def sh2Q : Sh := .agg [(.int .u32), (.int .i64), (.int .i64), (.int .i64), (.int .i64), (.int .i64)]
def sh3Q : Sh := .agg [(.int .u64), (.int .i64), .bool]
def sh4Q : Sh := .agg [(.int .u64), (.int .u64), (.int .u64), .bool]
def sh5Q : Sh := .agg [(.arr 32 (.int .u64)), (.int .u64), (.int .i64), (.bool), (.arr 29 (.int .u64)), (.int .u64)]
def insn_IsA (g : Nat → AV) : AV := cF7 (((g 0).fld 0).num) (((g 0).fld 1).num) (((g 0).fld 2).num) (((g 0).fld 3).num) (((g 0).fld 4).num) (((g 0).fld 5).num)
def insn_IsB (g : Nat → AV) : Bool := ca4 (((g 0).fld 0).num) (((g 0).fld 1).num) (((g 0).fld 2).num) (((g 0).fld 3).num) (((g 0).fld 4).num) (((g 0).fld 5).num)
theorem insn_IsE (g : Nat → AV) : pO T267 100 false Tryz.f197 (r7 [sh1Q] 0 g) = some (insn_IsB g, insn_IsA g) := by kernel_rfl
theorem insn_IsP : Plain Tryz.prog 197 Tryz.f197 := ⟨Tryz.func197, of_decide_eq_true (by kernel_rfl)⟩
theorem insn_IsT (q7 C7 s4 s9 q8 s8 : Int) : ca4 q7 C7 s4 s9 q8 s8 = true := by first | (simp [ca4]; done) | (simp [ca4, Go.Ev.iEq, Go.Ev.iNe, Go.Ev.iLt, Go.Ev.iLe, Go.Ev.iIn]; omega)
def row197Q : List AV → Option (Option Bool × AV) := rowF [sh1Q] none insn_IsA
theorem insn_IsO : D1 Tryz.prog 197 row197Q := s3 fun g => p6 mix A7 du0 (o9 mix A7 du0 D5 (fun _ h => o5 p8 h) 8) insn_IsP (fun c _ => m7 c) (insn_IsE g) (insn_IsT ..)
def T197 : List Row := (197, row197Q) :: T267
theorem do5 : r0 Tryz.prog (m5 T197) := m8 insn_IsO du0
def p0 (f8 : Nat → Int) (b8 a7 : Int) (f9 : Bool) (g0 : Nat → Int) (a9 : Int) : Int :=
 bif bif iNe a7 0 then iNe a7 1 else false then 3 else bif f9 then bif a7.toNat == 1 then 5 else bif a7.toNat == 0 then 4 else 0 else bif a7.toNat == 1 then 1 else 0
def aZ4 (f8 : Nat → Int) (b8 a7 : Int) (f9 : Bool) (g0 : Nat → Int) (a9 : Int) : Int :=
 bif bif iNe a7 0 then iNe a7 1 else false then 3
 else bif f9 then bif a7.toNat == 1 then 5 else bif a7.toNat == 0 then 4 else 0 else bif a7.toNat == 1 then 1 else bif a7.toNat == 0 then 0 else 0
def aC0 (f8 : Nat → Int) (b8 a7 : Int) (f9 : Bool) (g0 : Nat → Int) (a9 : Int) : Bool :=
 bif bif iNe a7 0 then iNe a7 1 else false then true else bif f9 then iIn a7 2 && true else iIn a7 2 && true
theorem cc9 (f8 : Nat → Int) (b8 a7 : Int) (f9 : Bool) (g0 : Nat → Int) (a9 : Int)  : aZ4 f8 b8 a7 f9 g0 a9  = p0 f8 b8 a7 f9 g0 a9  := by
  unfold aZ4
  first | (simp only [cS1, cS2, cS3, cS4, cS6, cS7]; done) | (simp only [cS1, cS2, cS3, cS4, cS6, cS7]; kernel_rfl)
def aC9 (f8 : Nat → Int) (b8 a7 : Int) (f9 : Bool) (g0 : Nat → Int) (a9 : Int) : AV := .it .i64 (p0 f8 b8 a7 f9 g0 a9)
def aZ5 (f8 : Nat → Int) (b8 a7 : Int) (f9 : Bool) (g0 : Nat → Int) (a9 : Int) : AV := .it .i64 (aZ4 f8 b8 a7 f9 g0 a9)
theorem cj0 (f8 : Nat → Int) (b8 a7 : Int) (f9 : Bool) (g0 : Nat → Int) (a9 : Int) : aZ5 f8 b8 a7 f9 g0 a9 = aC9 f8 b8 a7 f9 g0 a9 := by
  unfold aZ5 aC9
  simp only [cc9]
def legal_LevelA (g : Nat → AV) : AV := aC9 (fun i0 => (((g 0).fld 0).ix i0).num) (((g 0).fld 1).num) (((g 0).fld 2).num) (((g 0).fld 3).bool) (fun i0 => (((g 0).fld 4).ix i0).num) (((g 0).fld 5).num)
def legal_LevelB (g : Nat → AV) : Bool := aC0 (fun i0 => (((g 0).fld 0).ix i0).num) (((g 0).fld 1).num) (((g 0).fld 2).num) (((g 0).fld 3).bool) (fun i0 => (((g 0).fld 4).ix i0).num) (((g 0).fld 5).num)
theorem cT2 (g : Nat → AV) : pO T197 100 false Tryz.f198 (r7 [sh0Q] 0 g) = some (legal_LevelB g, legal_LevelA g) := (by kernel_rfl : _ = some (legal_LevelB g, aZ5 (fun i0 => (((g 0).fld 0).ix i0).num) (((g 0).fld 1).num) (((g 0).fld 2).num) (((g 0).fld 3).bool) (fun i0 => (((g 0).fld 4).ix i0).num) (((g 0).fld 5).num))).trans (by rw [cj0]; rfl)
theorem cU4 : Plain Tryz.prog 198 Tryz.f198 := ⟨Tryz.func198, of_decide_eq_true (by kernel_rfl)⟩
theorem cZ1 (f8 : Nat → Int) (b8 a7 : Int) (f9 : Bool) (g0 : Nat → Int) (a9 : Int) : aC0 f8 b8 a7 f9 g0 a9 = true := by first | (simp [aC0]; done) | (simp [aC0, Go.Ev.iEq, Go.Ev.iNe, Go.Ev.iLt, Go.Ev.iLe, Go.Ev.iIn]; omega)
def row198Q : List AV → Option (Option Bool × AV) := rowF [sh0Q] none legal_LevelA
theorem cM3 : D1 Tryz.prog 198 row198Q := s3 fun g => p6 mix A7 do5 (o9 mix A7 do5 D5 (fun _ h => o5 p8 h) 8) cU4 (fun c _ => m7 c) (cT2 g) (cZ1 ..)
def T198 : List Row := (198, row198Q) :: T197
theorem dt1 : r0 Tryz.prog (m5 T198) := m8 cM3 do5
def p7 (q7 C7 s4 s9 q8 s8 : Int) : Bool :=
 bif bif bif iEq q7 54 then true else iEq q7 57 then true else iNe s4 0 then true else iNe q8 0
def bG2 (q7 C7 s4 s9 q8 s8 : Int) : Bool :=
 true
def aX4 (q7 C7 s4 s9 q8 s8 : Int) : AV := .bl (p7 q7 C7 s4 s9 q8 s8)
def legal_WritesA (g : Nat → AV) : AV := aX4 (((g 0).fld 0).num) (((g 0).fld 1).num) (((g 0).fld 2).num) (((g 0).fld 3).num) (((g 0).fld 4).num) (((g 0).fld 5).num)
def legal_WritesB (g : Nat → AV) : Bool := bG2 (((g 0).fld 0).num) (((g 0).fld 1).num) (((g 0).fld 2).num) (((g 0).fld 3).num) (((g 0).fld 4).num) (((g 0).fld 5).num)
theorem cB4 (g : Nat → AV) : pO T198 100 false Tryz.f200 (r7 [sh1Q] 0 g) = some (legal_WritesB g, legal_WritesA g) := by kernel_rfl
theorem cz5 : Plain Tryz.prog 200 Tryz.f200 := ⟨Tryz.func200, of_decide_eq_true (by kernel_rfl)⟩
theorem cB5 (q7 C7 s4 s9 q8 s8 : Int) : bG2 q7 C7 s4 s9 q8 s8 = true := rfl
def row200Q : List AV → Option (Option Bool × AV) := rowF [sh1Q] none legal_WritesA
theorem cI6 : D1 Tryz.prog 200 row200Q := s3 fun g => p6 mix A7 dt1 (o9 mix A7 dt1 D5 (fun _ h => o5 p8 h) 8) cz5 (fun c _ => m7 c) (cB4 g) (cB5 ..)
def T200 : List Row := (200, row200Q) :: T198
theorem dg4 : r0 Tryz.prog (m5 T200) := m8 cI6 dt1
def cg1 : Bool :=
 true
def bA9 : AV := .it .u64 786722
theorem dm3 (g : Nat → AV) : pO T200 100 false Tryz.f256 (r7 [] 0 g) = some (cg1 , bA9 ) := by kernel_rfl
theorem dj6 : Plain Tryz.prog 256 Tryz.f256 := ⟨Tryz.func256, of_decide_eq_true (by kernel_rfl)⟩
theorem df8  : cg1  = true := rfl
def row256Q : List AV → Option (Option Bool × AV) := rowF [] none fun g => bA9 
theorem dk0 : D1 Tryz.prog 256 row256Q := s3 fun g => p6 mix A7 dg4 (o9 mix A7 dg4 D5 (fun _ h => o5 p8 h) 8) dj6 (fun c _ => m7 c) (dm3 g) (df8 )
def T256 : List Row := (256, row256Q) :: T200
theorem dn4 : r0 Tryz.prog (m5 T256) := m8 dk0 dg4
def csr_rows0 : Nat → Int :=
 fun i0 => bif i0 == 28 then 640
 else
 bif i0 == 27 then 579
 else
 bif i0 == 26 then 578
 else
 bif i0 == 25 then 577
 else
 bif i0 == 24 then 576
 else
 bif i0 == 23 then 517
 else
 bif i0 == 22 then 512
 else
 bif i0 == 21 then 1664
 else
 bif i0 == 20 then 1603
 else
 bif i0 == 19 then 1605
 else
 bif i0 == 18 then 1539
 else
 bif i0 == 17 then 1538
 else
 bif i0 == 16 then 1536
 else
 bif i0 == 15 then 384
 else
 bif i0 == 14 then 323
 else
 bif i0 == 13 then 322
 else
 bif i0 == 12 then 321
 else
 bif i0 == 11 then 320
 else
 bif i0 == 10 then 261
 else
 bif i0 == 9 then 843
 else
 bif i0 == 8 then 835
 else
 bif i0 == 7 then 834
 else
 bif i0 == 6 then 833
 else
 bif i0 == 5 then 832
 else bif i0 == 4 then 773 else bif i0 == 3 then 772 else bif i0 == 2 then 771 else bif i0 == 1 then 770 else bif i0 == 0 then 768 else 0
def U2 : Nat → Int :=
 fun i0 => bif i0 == 28 then 9223372036871487743
 else
 bif i0 == 27 then 18446744073709551615
 else
 bif i0 == 26 then 18446744073709551615
 else
 bif i0 == 25 then 18446744073709551612
 else
 bif i0 == 24 then 18446744073709551615
 else
 bif i0 == 23 then 18446744073709551612
 else
 bif i0 == 22 then 786722
 else
 bif i0 == 21 then 9223372036871487743
 else
 bif i0 == 20 then 18446744073709551615
 else
 bif i0 == 19 then 1088
 else
 bif i0 == 18 then 1088
 else
 bif i0 == 17 then 45567
 else
 bif i0 == 16 then 7340992
 else
 bif i0 == 15 then 9223372036871487743
 else
 bif i0 == 14 then 18446744073709551615
 else
 bif i0 == 13 then 18446744073709551615
 else
 bif i0 == 12 then 18446744073709551612
 else
 bif i0 == 11 then 18446744073709551615
 else
 bif i0 == 10 then 18446744073709551612
 else
 bif i0 == 9 then 18446744073709551615
 else
 bif i0 == 8 then 18446744073709551615
 else
 bif i0 == 7 then 18446744073709551615
 else
 bif i0 == 6 then 18446744073709551612
 else
 bif i0 == 5 then 18446744073709551615
 else
 bif i0 == 4 then 18446744073709551612
 else bif i0 == 3 then 1632 else bif i0 == 2 then 544 else bif i0 == 1 then 15775231 else bif i0 == 0 then 824641853866 else 0
def db9 : Bool :=
 true
def cc7 : AV := .arr 29 (.agg [(.int .i64), (.int .u64)]) fun i0 => .agg [.it .i64 (csr_rows0 i0), .it .u64 (U2 i0)]
theorem csr_rowsE (g : Nat → AV) : pO T256 100 false Tryz.f186 (r7 [] 0 g) = some (db9 , cc7 ) := by kernel_rfl
theorem csr_rowsP : Plain Tryz.prog 186 Tryz.f186 := ⟨Tryz.func186, of_decide_eq_true (by kernel_rfl)⟩
theorem csr_rowsT  : db9  = true := rfl
def row186Q : List AV → Option (Option Bool × AV) := rowF [] none fun g => cc7 
theorem csr_rowsO : D1 Tryz.prog 186 row186Q := s3 fun g => p6 mix A7 dn4 (o9 mix A7 dn4 D5 (fun _ h => o5 p8 h) 8) csr_rowsP (fun c _ => m7 c) (csr_rowsE g) (csr_rowsT )
def T186 : List Row := (186, row186Q) :: T256
theorem dh1 : r0 Tryz.prog (m5 T186) := m8 csr_rowsO dn4
def z9 (a0 : Int) : Int :=
 bif iEq 768 a0 then 0
 else
 bif iEq 770 a0 then 1
 else
 bif iEq 771 a0 then 2
 else
 bif iEq 772 a0 then 3
 else
 bif iEq 773 a0 then 4
 else
 bif iEq 832 a0 then 5
 else
 bif iEq 833 a0 then 6
 else
 bif iEq 834 a0 then 7
 else
 bif iEq 835 a0 then 8
 else
 bif iEq 843 a0 then 9
 else
 bif iEq 261 a0 then 10
 else
 bif iEq 320 a0 then 11
 else
 bif iEq 321 a0 then 12
 else
 bif iEq 322 a0 then 13
 else
 bif iEq 323 a0 then 14
 else
 bif iEq 384 a0 then 15
 else
 bif iEq 1536 a0 then 16
 else
 bif iEq 1538 a0 then 17
 else
 bif iEq 1539 a0 then 18
 else
 bif iEq 1605 a0 then 19
 else
 bif iEq 1603 a0 then 20
 else
 bif iEq 1664 a0 then 21
 else
 bif iEq 512 a0 then 22
 else
 bif iEq 517 a0 then 23
 else bif iEq 576 a0 then 24 else bif iEq 577 a0 then 25 else bif iEq 578 a0 then 26 else bif iEq 579 a0 then 27 else bif iEq 640 a0 then 28 else -1
def bO4 (a0 : Int) : Bool :=
 bif iEq 768 a0 then true
 else
 bif iEq 770 a0 then true
 else
 bif iEq 771 a0 then true
 else
 bif iEq 772 a0 then true
 else
 bif iEq 773 a0 then true
 else
 bif iEq 832 a0 then true
 else
 bif iEq 833 a0 then true
 else
 bif iEq 834 a0 then true
 else
 bif iEq 835 a0 then true
 else
 bif iEq 843 a0 then true
 else
 bif iEq 261 a0 then true
 else
 bif iEq 320 a0 then true
 else
 bif iEq 321 a0 then true
 else
 bif iEq 322 a0 then true
 else
 bif iEq 323 a0 then true
 else
 bif iEq 384 a0 then true
 else
 bif iEq 1536 a0 then true
 else
 bif iEq 1538 a0 then true
 else
 bif iEq 1539 a0 then true
 else
 bif iEq 1605 a0 then true
 else
 bif iEq 1603 a0 then true
 else
 bif iEq 1664 a0 then true
 else
 bif iEq 512 a0 then true
 else
 bif iEq 517 a0 then true
 else
 bif iEq 576 a0 then true
 else bif iEq 577 a0 then true else bif iEq 578 a0 then true else bif iEq 579 a0 then true else bif iEq 640 a0 then true else true
def bP3 (a0 : Int) : AV := .it .i64 (z9 a0)
def csr_IndexA (g : Nat → AV) : AV := bP3 ((g 0).num)
def csr_IndexB (g : Nat → AV) : Bool := bO4 ((g 0).num)
theorem dP4 (g : Nat → AV) : pO T186 100 false Tryz.f223 (r7 [(.int .i64)] 0 g) = some (csr_IndexB g, csr_IndexA g) := by kernel_rfl
theorem dW7 : Plain Tryz.prog 223 Tryz.f223 := ⟨Tryz.func223, of_decide_eq_true (by kernel_rfl)⟩
theorem dW1 (a0 : Int) : bO4 a0 = true := by
  unfold bO4
  simp only [cS1, cS2, cS3, cS4, cS6, cS7]
def row223Q : List AV → Option (Option Bool × AV) := rowF [(.int .i64)] none csr_IndexA
theorem dU6 : D1 Tryz.prog 223 row223Q := s3 fun g => p6 mix A7 dh1 (o9 mix A7 dh1 D5 (fun _ h => o5 p8 h) 8) dW7 (fun c _ => m7 c) (dP4 g) (dW1 ..)
def T223 : List Row := (223, row223Q) :: T186
theorem dq8 : r0 Tryz.prog (m5 T223) := m8 dU6 dh1
theorem dD0 (n : Int) : -1 ≤ z9 n ∧ z9 n < 29 := by
  show (fun x : Int => -1 ≤ x ∧ x < 29) (z9 n)
  unfold z9
  repeat' (refine t8 (p := fun x : Int => -1 ≤ x ∧ x < 29) ?_ ?_)
  all_goals decide
def bK2 (a0 : Int) : Bool :=
 bif bif bif bif iEq a0 256 then true else iEq a0 260 then true else iEq a0 516 then true else iEq a0 3074 then true else iLe 0 (z9 a0)
def csr_IsG (a0 : Int) : Bool :=
 true
def de0 (a0 : Int) : AV := .bl (bK2 a0)
def csr_IsA (g : Nat → AV) : AV := de0 ((g 0).num)
def csr_IsB (g : Nat → AV) : Bool := csr_IsG ((g 0).num)
theorem csr_IsE (g : Nat → AV) : pO T223 100 false Tryz.f268 (r7 [(.int .i64)] 0 g) = some (csr_IsB g, csr_IsA g) := by kernel_rfl
theorem csr_IsP : Plain Tryz.prog 268 Tryz.f268 := ⟨Tryz.func268, of_decide_eq_true (by kernel_rfl)⟩
theorem csr_IsT (a0 : Int) : csr_IsG a0 = true := rfl
def row268Q : List AV → Option (Option Bool × AV) := rowF [(.int .i64)] none csr_IsA
theorem csr_IsO : D1 Tryz.prog 268 row268Q := s3 fun g => p6 mix A7 dq8 (o9 mix A7 dq8 D5 (fun _ h => o5 p8 h) 8) csr_IsP (fun c _ => m7 c) (csr_IsE g) (csr_IsT ..)
def T268 : List Row := (268, row268Q) :: T223
theorem dy7 : r0 Tryz.prog (m5 T268) := m8 csr_IsO dq8
def N5 (a0 : Int) : Int :=
 iAnd .i64 (iShr .i64 a0 8) 3
def cv1 (a0 : Int) : Bool :=
 true
def bM6 (a0 : Int) : AV := .it .i64 (N5 a0)
def legal_askA (g : Nat → AV) : AV := bM6 ((g 0).num)
def legal_askB (g : Nat → AV) : Bool := cv1 ((g 0).num)
theorem dP2 (g : Nat → AV) : pO T268 100 false Tryz.f270 (r7 [(.int .i64)] 0 g) = some (legal_askB g, legal_askA g) := by kernel_rfl
theorem dV8 : Plain Tryz.prog 270 Tryz.f270 := ⟨Tryz.func270, of_decide_eq_true (by kernel_rfl)⟩
theorem dK7 (a0 : Int) : cv1 a0 = true := rfl
def row270Q : List AV → Option (Option Bool × AV) := rowF [(.int .i64)] none legal_askA
theorem dP5 : D1 Tryz.prog 270 row270Q := s3 fun g => p6 mix A7 dy7 (o9 mix A7 dy7 D5 (fun _ h => o5 p8 h) 8) dV8 (fun c _ => m7 c) (dP2 g) (dK7 ..)
def T270 : List Row := (270, row270Q) :: T268
theorem dh8 : r0 Tryz.prog (m5 T270) := m8 dP5 dy7
theorem ask_in (x : Int) : 0 ≤ iAnd .i64 x 3 ∧ iAnd .i64 x 3 < 4 := by
  unfold iAnd
  have h : (BitVec.ofInt IntKind.i64.bits x &&& BitVec.ofInt IntKind.i64.bits 3).toNat ≤ 3 := by
    rw [BitVec.toNat_and]
    exact Nat.and_le_right
  rw [dP9 (by omega) (by omega)]
  omega
def P4 (a0 a1 : Int) : Int :=
 iMin (iMax a0 0) 63
def T6 (a0 a1 : Int) : Int :=
 iMin (iMax a1 0) (iSub .i64 64 (iMin (iMax a0 0) 63))
def cx7 (a0 a1 : Int) : Bool :=
 true
def bP2 (a0 a1 : Int) : AV := .tup [.it .i64 (P4 a0 a1), .it .i64 (T6 a0 a1)]
def word_partA (g : Nat → AV) : AV := bP2 ((g 0).num) ((g 1).num)
def word_partB (g : Nat → AV) : Bool := cx7 ((g 0).num) ((g 1).num)
theorem dX0 (g : Nat → AV) : pO T270 100 false Tryz.f188 (r7 [(.int .i64), (.int .i64)] 0 g) = some (word_partB g, word_partA g) := by kernel_rfl
theorem dL6 : Plain Tryz.prog 188 Tryz.f188 := ⟨Tryz.func188, of_decide_eq_true (by kernel_rfl)⟩
theorem dY0 (a0 a1 : Int) : cx7 a0 a1 = true := rfl
def row188Q : List AV → Option (Option Bool × AV) := rowF [(.int .i64), (.int .i64)] none word_partA
theorem dS3 : D1 Tryz.prog 188 row188Q := s3 fun g => p6 mix A7 dh8 (o9 mix A7 dh8 D5 (fun _ h => o5 p8 h) 8) dL6 (fun c _ => m7 c) (dX0 g) (dY0 ..)
def T188 : List Row := (188, row188Q) :: T270
theorem do2 : r0 Tryz.prog (m5 T188) := m8 dS3 dh8
theorem cE3 (a b : Int) : 0 ≤ P4 a b ∧ P4 a b ≤ 63 := by
  unfold P4; rw [aO5, aD6]; split <;> split <;> omega
theorem dD1 (a b : Int) : 0 ≤ T6 a b ∧ T6 a b ≤ 64 - P4 a b := by
  have h := cE3 a b
  have e : T6 a b = iMin (iMax b 0) (iSub .i64 64 (P4 a b)) := rfl
  rw [e, dE2 (by omega) (by omega), aO5, aD6]; split <;> split <;> omega
def g9 (a0 a1 a2 : Int) : Int :=
 iAnd .u64 (iShr .u64 a0 (P4 a1 a2)) (ap4 (T6 a1 a2))
def bK9 (a0 a1 a2 : Int) : Bool :=
 iLe 0 (P4 a1 a2) && (ad4 (T6 a1 a2) && true)
def bK3 (a0 a1 a2 : Int) : AV := .it .u64 (g9 a0 a1 a2)
def word_BitsA (g : Nat → AV) : AV := bK3 ((g 0).num) ((g 1).num) ((g 2).num)
def word_BitsB (g : Nat → AV) : Bool := bK9 ((g 0).num) ((g 1).num) ((g 2).num)
theorem dP6 (g : Nat → AV) : pO T188 100 false Tryz.f135 (r7 [(.int .u64), (.int .i64), (.int .i64)] 0 g) = some (word_BitsB g, word_BitsA g) := by kernel_rfl
theorem dR2 : Plain Tryz.prog 135 Tryz.f135 := ⟨Tryz.func135, of_decide_eq_true (by kernel_rfl)⟩
theorem dN5 (a0 a1 a2 : Int) : bK9 a0 a1 a2 = true := by unfold bK9 ad4; have h0 := cE3 a1 a2; have h1 := dD1 a1 a2; simp [J1.2 h0.1, J1.2 h1.1]
def row135Q : List AV → Option (Option Bool × AV) := rowF [(.int .u64), (.int .i64), (.int .i64)] none word_BitsA
theorem dU1 : D1 Tryz.prog 135 row135Q := s3 fun g => p6 mix A7 do2 (o9 mix A7 do2 D5 (fun _ h => o5 p8 h) 8) dR2 (fun c _ => m7 c) (dP6 g) (dN5 ..)
def T135 : List Row := (135, row135Q) :: T188
theorem ds5 : r0 Tryz.prog (m5 T135) := m8 dU1 do2
def o7 (f8 : Nat → Int) (b8 a7 : Int) (f9 : Bool) (g0 : Nat → Int) (a9 a1 a2 : Int) : Bool :=
 iEq (g9 (g0 a1.toNat) a2 1) 1
def D3 (f8 : Nat → Int) (b8 a7 : Int) (f9 : Bool) (g0 : Nat → Int) (a9 a1 a2 : Int) : Bool :=
 iIn a1 29 && true
def cI3 (f8 : Nat → Int) (b8 a7 : Int) (f9 : Bool) (g0 : Nat → Int) (a9 a1 a2 : Int) : AV := .bl (o7 f8 b8 a7 f9 g0 a9 a1 a2)
def csr_BitA (g : Nat → AV) : AV := cI3 (fun i0 => (((g 0).fld 0).ix i0).num) (((g 0).fld 1).num) (((g 0).fld 2).num) (((g 0).fld 3).bool) (fun i0 => (((g 0).fld 4).ix i0).num) (((g 0).fld 5).num) ((g 1).num) ((g 2).num)
def csr_BitB (g : Nat → AV) : Bool := D3 (fun i0 => (((g 0).fld 0).ix i0).num) (((g 0).fld 1).num) (((g 0).fld 2).num) (((g 0).fld 3).bool) (fun i0 => (((g 0).fld 4).ix i0).num) (((g 0).fld 5).num) ((g 1).num) ((g 2).num)
theorem csr_BitE (g : Nat → AV) : pO T135 100 false Tryz.f101 (r7 [sh0Q, (.int .i64), (.int .i64)] 0 g) = some (csr_BitB g, csr_BitA g) := by kernel_rfl
theorem csr_BitP : Plain Tryz.prog 101 Tryz.f101 := ⟨Tryz.func101, of_decide_eq_true (by kernel_rfl)⟩
def row101Q : List AV → Option (Option Bool × AV) := rowF [sh0Q, (.int .i64), (.int .i64)] (some fun g => csr_BitB g) csr_BitA
theorem csr_BitO : D1 Tryz.prog 101 row101Q := R9 fun g hg => p6 mix A7 ds5 (o9 mix A7 ds5 D5 (fun _ h => o5 p8 h) 8) csr_BitP (fun c _ => m7 c) (csr_BitE g) hg
def T101 : List Row := (101, row101Q) :: T135
theorem ds6 : r0 Tryz.prog (m5 T101) := m8 csr_BitO ds5
def F8 (a0 : Bool) (a1 : Int) : Int :=
 bif a0 then 0 else a1
def aI0 (a0 : Bool) (a1 : Int) : Bool :=
 bif a0 then true else false
def aB0 (a0 : Bool) (a1 : Int) : Bool :=
 bif a0 then true else true
theorem bM0 (a0 : Bool) (a1 : Int)  : aI0 a0 a1  = a0 := by
  unfold aI0
  first | (simp only [cS1, cS2, cS3, cS4, cS6, cS7]; done) | (simp only [cS1, cS2, cS3, cS4, cS6, cS7]; kernel_rfl)
def an3 (a0 : Bool) (a1 : Int) : AV := .tup [.it .u64 (F8 a0 a1), .bl a0]
def aI3 (a0 : Bool) (a1 : Int) : AV := .tup [.it .u64 (F8 a0 a1), .bl (aI0 a0 a1)]
theorem bN4 (a0 : Bool) (a1 : Int) : aI3 a0 a1 = an3 a0 a1 := by
  unfold aI3 an3
  simp only [bM0]
def legal_becauseA (g : Nat → AV) : AV := an3 ((g 0).bool) ((g 1).num)
def legal_becauseB (g : Nat → AV) : Bool := aB0 ((g 0).bool) ((g 1).num)
theorem cr4 (g : Nat → AV) : pO T101 100 false Tryz.f201 (r7 [.bool, (.int .u64)] 0 g) = some (legal_becauseB g, legal_becauseA g) := (by kernel_rfl : _ = some (legal_becauseB g, aI3 ((g 0).bool) ((g 1).num))).trans (by rw [bN4]; rfl)
theorem cr0 : Plain Tryz.prog 201 Tryz.f201 := ⟨Tryz.func201, of_decide_eq_true (by kernel_rfl)⟩
theorem cq3 (a0 : Bool) (a1 : Int) : aB0 a0 a1 = true := by
  unfold aB0
  simp only [cS1, cS2, cS3, cS4, cS6, cS7]
def row201Q : List AV → Option (Option Bool × AV) := rowF [.bool, (.int .u64)] none legal_becauseA
theorem ct0 : D1 Tryz.prog 201 row201Q := s3 fun g => p6 mix A7 ds6 (o9 mix A7 ds6 D5 (fun _ h => o5 p8 h) 8) cr0 (fun c _ => m7 c) (cr4 g) (cq3 ..)
def T201 : List Row := (201, row201Q) :: T101
theorem dv2 : r0 Tryz.prog (m5 T201) := m8 ct0 ds6
def at7 (f8 : Nat → Int) (b8 a7 : Int) (f9 : Bool) (g0 : Nat → Int) (a9 a1 a2 : Int) : Int :=
 bif iEq a2 3074 then 22
 else
 bif iEq (N5 a2) 3 then 2
 else
 bif bif iEq (N5 a2) 2 then true else iEq a1 4 then 22
 else F8 (bif iNe a2 384 then true else !o7 f8 b8 a7 f9 g0 a9 16 20) 22
def aH8 (f8 : Nat → Int) (b8 a7 : Int) (f9 : Bool) (g0 : Nat → Int) (a9 a1 a2 : Int) : Bool :=
 bif iEq a2 3074 then false
 else
 bif iEq (N5 a2) 3 then false
 else bif bif iEq (N5 a2) 2 then true else iEq a1 4 then false else bif iNe a2 384 then true else !o7 f8 b8 a7 f9 g0 a9 16 20
def aJ7 (f8 : Nat → Int) (b8 a7 : Int) (f9 : Bool) (g0 : Nat → Int) (a9 a1 a2 : Int) : Bool :=
 bif iEq a2 3074 then true
 else
 bif iEq (N5 a2) 3 then true
 else bif bif iEq (N5 a2) 2 then true else iEq a1 4 then true else (!!iNe a2 384 || D3 f8 b8 a7 f9 g0 a9 16 20) && true
def aH6 (f8 : Nat → Int) (b8 a7 : Int) (f9 : Bool) (g0 : Nat → Int) (a9 a1 a2 : Int) : AV := .tup [.it .u64 (at7 f8 b8 a7 f9 g0 a9 a1 a2), .bl (aH8 f8 b8 a7 f9 g0 a9 a1 a2)]
def legal_guestCsrA (g : Nat → AV) : AV := aH6 (fun i0 => (((g 0).fld 0).ix i0).num) (((g 0).fld 1).num) (((g 0).fld 2).num) (((g 0).fld 3).bool) (fun i0 => (((g 0).fld 4).ix i0).num) (((g 0).fld 5).num) ((g 1).num) ((g 2).num)
def legal_guestCsrB (g : Nat → AV) : Bool := aJ7 (fun i0 => (((g 0).fld 0).ix i0).num) (((g 0).fld 1).num) (((g 0).fld 2).num) (((g 0).fld 3).bool) (fun i0 => (((g 0).fld 4).ix i0).num) (((g 0).fld 5).num) ((g 1).num) ((g 2).num)
theorem cn7 (g : Nat → AV) : pO T201 100 false Tryz.f269 (r7 [sh0Q, (.int .i64), (.int .i64)] 0 g) = some (legal_guestCsrB g, legal_guestCsrA g) := by kernel_rfl
theorem ce5 : Plain Tryz.prog 269 Tryz.f269 := ⟨Tryz.func269, of_decide_eq_true (by kernel_rfl)⟩
theorem ci2 (f8 : Nat → Int) (b8 a7 : Int) (f9 : Bool) (g0 : Nat → Int) (a9 a1 a2 : Int) : aJ7 f8 b8 a7 f9 g0 a9 a1 a2 = true := by simp [aJ7, D3, Go.Ev.iIn]
def row269Q : List AV → Option (Option Bool × AV) := rowF [sh0Q, (.int .i64), (.int .i64)] none legal_guestCsrA
theorem co0 : D1 Tryz.prog 269 row269Q := s3 fun g => p6 mix A7 dv2 (o9 mix A7 dv2 D5 (fun _ h => o5 p8 h) 8) ce5 (fun c _ => m7 c) (cn7 g) (ci2 ..)
def T269 : List Row := (269, row269Q) :: T201
theorem dd2 : r0 Tryz.prog (m5 T269) := m8 co0 dv2
def V6 (f8 : Nat → Int) (b8 a7 : Int) (f9 : Bool) (g0 : Nat → Int) (a9 a1 : Int) (a2 : Bool) : Bool :=
 bif bif iEq a1 384 then iEq (p0 f8 b8 a7 f9 g0 a9) 1 else false then
 o7 f8 b8 a7 f9 g0 a9 0 20
 else false
def ap5 (f8 : Nat → Int) (b8 a7 : Int) (f9 : Bool) (g0 : Nat → Int) (a9 a1 : Int) (a2 : Bool) : Bool :=
 iLe (bif (N5 a1).toNat == 3 then 3 else bif (N5 a1).toNat == 2 then 1 else bif (N5 a1).toNat == 1 then 1 else 0)
 (p0 f8 b8 a7 f9 g0 a9)
def ar0 (f8 : Nat → Int) (b8 a7 : Int) (f9 : Bool) (g0 : Nat → Int) (a9 a1 : Int) (a2 : Bool) : Bool :=
 iLe (bif (N5 a1).toNat == 3 then 3 else bif (N5 a1).toNat == 2 then 1 else bif (N5 a1).toNat == 1 then 1 else bif (N5 a1).toNat == 0 then 0 else 0)
 (p0 f8 b8 a7 f9 g0 a9)
def aS3 (f8 : Nat → Int) (b8 a7 : Int) (f9 : Bool) (g0 : Nat → Int) (a9 a1 : Int) (a2 : Bool) : Int :=
 bif bif !bK2 a1 then true else bif a2 then iLe 3072 a1 else false then 2
 else
 bif iLe 4 (p0 f8 b8 a7 f9 g0 a9) then
 at7 f8 b8 a7 f9 g0 a9 (p0 f8 b8 a7 f9 g0 a9) a1
 else
 bif iEq a1 3074 then F8 (iLe 1 (p0 f8 b8 a7 f9 g0 a9)) 2
 else bif V6 f8 b8 a7 f9 g0 a9 a1 a2 then 2 else F8 (ap5 f8 b8 a7 f9 g0 a9 a1 a2) 2
def bw6 (f8 : Nat → Int) (b8 a7 : Int) (f9 : Bool) (g0 : Nat → Int) (a9 a1 : Int) (a2 : Bool) : Int :=
 bif bif !bK2 a1 then true else bif a2 then iLe 3072 a1 else false then 2
 else
 bif iLe 4 (p0 f8 b8 a7 f9 g0 a9) then
 at7 f8 b8 a7 f9 g0 a9 (p0 f8 b8 a7 f9 g0 a9) a1
 else
 bif iEq a1 3074 then F8 (iLe 1 (p0 f8 b8 a7 f9 g0 a9)) 2
 else bif V6 f8 b8 a7 f9 g0 a9 a1 a2 then 2 else F8 (ar0 f8 b8 a7 f9 g0 a9 a1 a2) 2
def bn3 (f8 : Nat → Int) (b8 a7 : Int) (f9 : Bool) (g0 : Nat → Int) (a9 a1 : Int) (a2 : Bool) : Bool :=
 bif bif !bK2 a1 then true else bif a2 then iLe 3072 a1 else false then false
 else
 bif iLe 4 (p0 f8 b8 a7 f9 g0 a9) then
 aH8 f8 b8 a7 f9 g0 a9 (p0 f8 b8 a7 f9 g0 a9) a1
 else
 bif iEq a1 3074 then iLe 1 (p0 f8 b8 a7 f9 g0 a9)
 else bif V6 f8 b8 a7 f9 g0 a9 a1 a2 then false else ap5 f8 b8 a7 f9 g0 a9 a1 a2
def bt9 (f8 : Nat → Int) (b8 a7 : Int) (f9 : Bool) (g0 : Nat → Int) (a9 a1 : Int) (a2 : Bool) : Bool :=
 bif bif !bK2 a1 then true else bif a2 then iLe 3072 a1 else false then false
 else
 bif iLe 4 (p0 f8 b8 a7 f9 g0 a9) then
 aH8 f8 b8 a7 f9 g0 a9 (p0 f8 b8 a7 f9 g0 a9) a1
 else
 bif iEq a1 3074 then iLe 1 (p0 f8 b8 a7 f9 g0 a9)
 else bif V6 f8 b8 a7 f9 g0 a9 a1 a2 then false else ar0 f8 b8 a7 f9 g0 a9 a1 a2
def bp7 (f8 : Nat → Int) (b8 a7 : Int) (f9 : Bool) (g0 : Nat → Int) (a9 a1 : Int) (a2 : Bool) : Bool :=
 bif bif !bK2 a1 then true else bif a2 then iLe 3072 a1 else false then true
 else
 bif iLe 4 (p0 f8 b8 a7 f9 g0 a9) then true
 else
 bif iEq a1 3074 then true
 else
 ((!bif iEq a1 384 then iEq (p0 f8 b8 a7 f9 g0 a9) 1 else false) ||
 D3 f8 b8 a7 f9 g0 a9 0 20) &&
 bif V6 f8 b8 a7 f9 g0 a9 a1 a2 then true else iIn (N5 a1) 4 && true
theorem cH4 (f8 : Nat → Int) (b8 a7 : Int) (f9 : Bool) (g0 : Nat → Int) (a9 a1 : Int) (a2 : Bool)  : bw6 f8 b8 a7 f9 g0 a9 a1 a2  = aS3 f8 b8 a7 f9 g0 a9 a1 a2  := by
  unfold bw6
  first | (simp only [V6, ap5, ar0, cS1, cS2, cS3, cS4, cS6, cS7]; done) | (simp only [V6, ap5, ar0, cS1, cS2, cS3, cS4, cS6, cS7]; kernel_rfl)
theorem cK9 (f8 : Nat → Int) (b8 a7 : Int) (f9 : Bool) (g0 : Nat → Int) (a9 a1 : Int) (a2 : Bool)  : bt9 f8 b8 a7 f9 g0 a9 a1 a2  = bn3 f8 b8 a7 f9 g0 a9 a1 a2  := by
  unfold bt9
  first | (simp only [V6, ap5, ar0, cS1, cS2, cS3, cS4, cS6, cS7]; done) | (simp only [V6, ap5, ar0, cS1, cS2, cS3, cS4, cS6, cS7]; kernel_rfl)
def aP7 (f8 : Nat → Int) (b8 a7 : Int) (f9 : Bool) (g0 : Nat → Int) (a9 a1 : Int) (a2 : Bool) : AV := .tup [.it .u64 (aS3 f8 b8 a7 f9 g0 a9 a1 a2), .bl (bn3 f8 b8 a7 f9 g0 a9 a1 a2)]
def bB0 (f8 : Nat → Int) (b8 a7 : Int) (f9 : Bool) (g0 : Nat → Int) (a9 a1 : Int) (a2 : Bool) : AV := .tup [.it .u64 (bw6 f8 b8 a7 f9 g0 a9 a1 a2), .bl (bt9 f8 b8 a7 f9 g0 a9 a1 a2)]
theorem cB2 (f8 : Nat → Int) (b8 a7 : Int) (f9 : Bool) (g0 : Nat → Int) (a9 a1 : Int) (a2 : Bool) : bB0 f8 b8 a7 f9 g0 a9 a1 a2 = aP7 f8 b8 a7 f9 g0 a9 a1 a2 := by
  unfold bB0 aP7
  simp only [cH4, cK9]
def legal_CsrA (g : Nat → AV) : AV := aP7 (fun i0 => (((g 0).fld 0).ix i0).num) (((g 0).fld 1).num) (((g 0).fld 2).num) (((g 0).fld 3).bool) (fun i0 => (((g 0).fld 4).ix i0).num) (((g 0).fld 5).num) ((g 1).num) ((g 2).bool)
def legal_CsrB (g : Nat → AV) : Bool := bp7 (fun i0 => (((g 0).fld 0).ix i0).num) (((g 0).fld 1).num) (((g 0).fld 2).num) (((g 0).fld 3).bool) (fun i0 => (((g 0).fld 4).ix i0).num) (((g 0).fld 5).num) ((g 1).num) ((g 2).bool)
theorem dS4 (g : Nat → AV) : pO T269 100 false Tryz.f199 (r7 [sh0Q, (.int .i64), .bool] 0 g) = some (legal_CsrB g, legal_CsrA g) := (by kernel_rfl : _ = some (legal_CsrB g, bB0 (fun i0 => (((g 0).fld 0).ix i0).num) (((g 0).fld 1).num) (((g 0).fld 2).num) (((g 0).fld 3).bool) (fun i0 => (((g 0).fld 4).ix i0).num) (((g 0).fld 5).num) ((g 1).num) ((g 2).bool))).trans (by rw [cB2]; rfl)
theorem dU7 : Plain Tryz.prog 199 Tryz.f199 := ⟨Tryz.func199, of_decide_eq_true (by kernel_rfl)⟩
theorem dR7 (f8 : Nat → Int) (b8 a7 : Int) (f9 : Bool) (g0 : Nat → Int) (a9 a1 : Int) (a2 : Bool) : bp7 f8 b8 a7 f9 g0 a9 a1 a2 = true := by
  have h := ask_in (iShr .i64 a1 8)
  have hi : iIn (N5 a1) 4 = true := V8.2 h
  unfold bp7
  simp [hi, D3, show iIn 16 29 = true by decide, show iIn 0 29 = true by decide]
def row199Q : List AV → Option (Option Bool × AV) := rowF [sh0Q, (.int .i64), .bool] none legal_CsrA
theorem dR3 : D1 Tryz.prog 199 row199Q := s3 fun g => p6 mix A7 dd2 (o9 mix A7 dd2 D5 (fun _ h => o5 p8 h) 8) dU7 (fun c _ => m7 c) (dS4 g) (dR7 ..)
def T199 : List Row := (199, row199Q) :: T269
theorem dA0 : r0 Tryz.prog (m5 T199) := m8 dR3 dd2
def aq2 (f8 : Nat → Int) (b8 a7 : Int) (f9 : Bool) (g0 : Nat → Int) (a9 a1 a2 a3 : Int) : Int :=
 bif iEq a1 0 then 2
 else
 bif iEq a1 4 then 22
 else
 bif iEq a1 1 then F8 (!o7 f8 b8 a7 f9 g0 a9 0 a2) 2
 else bif iEq a1 5 then F8 (!o7 f8 b8 a7 f9 g0 a9 16 a3) 22 else 0
def aC1 (f8 : Nat → Int) (b8 a7 : Int) (f9 : Bool) (g0 : Nat → Int) (a9 a1 a2 a3 : Int) : Bool :=
 bif iEq a1 0 then false
 else
 bif iEq a1 4 then false
 else
 bif iEq a1 1 then !o7 f8 b8 a7 f9 g0 a9 0 a2
 else bif iEq a1 5 then !o7 f8 b8 a7 f9 g0 a9 16 a3 else true
def bh3 (f8 : Nat → Int) (b8 a7 : Int) (f9 : Bool) (g0 : Nat → Int) (a9 a1 a2 a3 : Int) : Bool :=
 bif iEq a1 0 then true
 else
 bif iEq a1 4 then true
 else
 bif iEq a1 1 then D3 f8 b8 a7 f9 g0 a9 0 a2 && true
 else bif iEq a1 5 then D3 f8 b8 a7 f9 g0 a9 16 a3 && true else true
def bj2 (f8 : Nat → Int) (b8 a7 : Int) (f9 : Bool) (g0 : Nat → Int) (a9 a1 a2 a3 : Int) : AV := .tup [.it .u64 (aq2 f8 b8 a7 f9 g0 a9 a1 a2 a3), .bl (aC1 f8 b8 a7 f9 g0 a9 a1 a2 a3)]
def legal_plainA (g : Nat → AV) : AV := bj2 (fun i0 => (((g 0).fld 0).ix i0).num) (((g 0).fld 1).num) (((g 0).fld 2).num) (((g 0).fld 3).bool) (fun i0 => (((g 0).fld 4).ix i0).num) (((g 0).fld 5).num) ((g 1).num) ((g 2).num) ((g 3).num)
def legal_plainB (g : Nat → AV) : Bool := bh3 (fun i0 => (((g 0).fld 0).ix i0).num) (((g 0).fld 1).num) (((g 0).fld 2).num) (((g 0).fld 3).bool) (fun i0 => (((g 0).fld 4).ix i0).num) (((g 0).fld 5).num) ((g 1).num) ((g 2).num) ((g 3).num)
theorem cP0 (g : Nat → AV) : pO T199 100 false Tryz.f202 (r7 [sh0Q, (.int .i64), (.int .i64), (.int .i64)] 0 g) = some (legal_plainB g, legal_plainA g) := by kernel_rfl
theorem cW5 : Plain Tryz.prog 202 Tryz.f202 := ⟨Tryz.func202, of_decide_eq_true (by kernel_rfl)⟩
theorem cR8 (f8 : Nat → Int) (b8 a7 : Int) (f9 : Bool) (g0 : Nat → Int) (a9 a1 a2 a3 : Int) : bh3 f8 b8 a7 f9 g0 a9 a1 a2 a3 = true := by simp [bh3, D3, show iIn 16 29 = true by decide, show iIn 0 29 = true by decide]
def row202Q : List AV → Option (Option Bool × AV) := rowF [sh0Q, (.int .i64), (.int .i64), (.int .i64)] none legal_plainA
theorem db8 : D1 Tryz.prog 202 row202Q := s3 fun g => p6 mix A7 dA0 (o9 mix A7 dA0 D5 (fun _ h => o5 p8 h) 8) cW5 (fun c _ => m7 c) (cP0 g) (cR8 ..)
def T202 : List Row := (202, row202Q) :: T199
theorem dd0 : r0 Tryz.prog (m5 T202) := m8 db8 dA0
def ah6 (f8 : Nat → Int) (b8 a7 : Int) (f9 : Bool) (g0 : Nat → Int) (a9 a1 : Int) : Bool :=
 bif iEq a1 4 then bif iEq a1 4 then true else true
 else
 (!iEq a1 5 || D3 f8 b8 a7 f9 g0 a9 16 21) &&
 bif bif iEq a1 5 then o7 f8 b8 a7 f9 g0 a9 16 21 else false then true else true
def ar2 (f8 : Nat → Int) (b8 a7 : Int) (f9 : Bool) (g0 : Nat → Int) (a9 a1 : Int) : Int :=
 bif iEq a1 4 then bif iEq a1 4 then 22 else 0 else bif bif iEq a1 5 then o7 f8 b8 a7 f9 g0 a9 16 21 else false then 22 else 0
def aq3 (f8 : Nat → Int) (b8 a7 : Int) (f9 : Bool) (g0 : Nat → Int) (a9 a1 : Int) : Bool :=
 bif iEq a1 4 then bif iEq a1 4 then false else true else bif bif iEq a1 5 then o7 f8 b8 a7 f9 g0 a9 16 21 else false then false else true
def aU4 (f8 : Nat → Int) (b8 a7 : Int) (f9 : Bool) (g0 : Nat → Int) (a9 a1 : Int) : Int :=
 bif iEq a1 0 then 2
 else
 bif bif iNe a1 3 then o7 f8 b8 a7 f9 g0 a9 0 21 else false then 2
 else bif iEq a1 4 then 22 else bif bif iEq a1 5 then o7 f8 b8 a7 f9 g0 a9 16 21 else false then 22 else 0
def bt7 (f8 : Nat → Int) (b8 a7 : Int) (f9 : Bool) (g0 : Nat → Int) (a9 a1 : Int) : Int :=
 bif iEq a1 0 then bif iEq a1 0 then 2 else ar2 f8 b8 a7 f9 g0 a9 a1
 else bif bif iNe a1 3 then o7 f8 b8 a7 f9 g0 a9 0 21 else false then 2 else ar2 f8 b8 a7 f9 g0 a9 a1
def bn6 (f8 : Nat → Int) (b8 a7 : Int) (f9 : Bool) (g0 : Nat → Int) (a9 a1 : Int) : Bool :=
 bif iEq a1 0 then false
 else
 bif bif iNe a1 3 then o7 f8 b8 a7 f9 g0 a9 0 21 else false then false
 else bif iEq a1 4 then false else bif bif iEq a1 5 then o7 f8 b8 a7 f9 g0 a9 16 21 else false then false else true
def bv7 (f8 : Nat → Int) (b8 a7 : Int) (f9 : Bool) (g0 : Nat → Int) (a9 a1 : Int) : Bool :=
 bif iEq a1 0 then bif iEq a1 0 then false else aq3 f8 b8 a7 f9 g0 a9 a1
 else bif bif iNe a1 3 then o7 f8 b8 a7 f9 g0 a9 0 21 else false then false else aq3 f8 b8 a7 f9 g0 a9 a1
def aV0 (f8 : Nat → Int) (b8 a7 : Int) (f9 : Bool) (g0 : Nat → Int) (a9 a1 : Int) : Bool :=
 bif iEq a1 0 then bif iEq a1 0 then true else ah6 f8 b8 a7 f9 g0 a9 a1
 else
 (!iNe a1 3 || D3 f8 b8 a7 f9 g0 a9 0 21) &&
 bif bif iNe a1 3 then o7 f8 b8 a7 f9 g0 a9 0 21 else false then true else ah6 f8 b8 a7 f9 g0 a9 a1
theorem cI7 (f8 : Nat → Int) (b8 a7 : Int) (f9 : Bool) (g0 : Nat → Int) (a9 a1 : Int)  : bt7 f8 b8 a7 f9 g0 a9 a1  = aU4 f8 b8 a7 f9 g0 a9 a1  := by
  unfold bt7
  first | (simp only [ah6, ar2, aq3, cS1, cS2, cS3, cS4, cS6, cS7]; done) | (simp only [ah6, ar2, aq3, cS1, cS2, cS3, cS4, cS6, cS7]; kernel_rfl)
theorem cJ2 (f8 : Nat → Int) (b8 a7 : Int) (f9 : Bool) (g0 : Nat → Int) (a9 a1 : Int)  : bv7 f8 b8 a7 f9 g0 a9 a1  = bn6 f8 b8 a7 f9 g0 a9 a1  := by
  unfold bv7
  first | (simp only [ah6, ar2, aq3, cS1, cS2, cS3, cS4, cS6, cS7]; done) | (simp only [ah6, ar2, aq3, cS1, cS2, cS3, cS4, cS6, cS7]; kernel_rfl)
def aU3 (f8 : Nat → Int) (b8 a7 : Int) (f9 : Bool) (g0 : Nat → Int) (a9 a1 : Int) : AV := .tup [.it .u64 (aU4 f8 b8 a7 f9 g0 a9 a1), .bl (bn6 f8 b8 a7 f9 g0 a9 a1)]
def bz0 (f8 : Nat → Int) (b8 a7 : Int) (f9 : Bool) (g0 : Nat → Int) (a9 a1 : Int) : AV := .tup [.it .u64 (bt7 f8 b8 a7 f9 g0 a9 a1), .bl (bv7 f8 b8 a7 f9 g0 a9 a1)]
theorem cF8 (f8 : Nat → Int) (b8 a7 : Int) (f9 : Bool) (g0 : Nat → Int) (a9 a1 : Int) : bz0 f8 b8 a7 f9 g0 a9 a1 = aU3 f8 b8 a7 f9 g0 a9 a1 := by
  unfold bz0 aU3
  simp only [cI7, cJ2]
def legal_wfiA (g : Nat → AV) : AV := aU3 (fun i0 => (((g 0).fld 0).ix i0).num) (((g 0).fld 1).num) (((g 0).fld 2).num) (((g 0).fld 3).bool) (fun i0 => (((g 0).fld 4).ix i0).num) (((g 0).fld 5).num) ((g 1).num)
def legal_wfiB (g : Nat → AV) : Bool := aV0 (fun i0 => (((g 0).fld 0).ix i0).num) (((g 0).fld 1).num) (((g 0).fld 2).num) (((g 0).fld 3).bool) (fun i0 => (((g 0).fld 4).ix i0).num) (((g 0).fld 5).num) ((g 1).num)
theorem dR6 (g : Nat → AV) : pO T202 100 false Tryz.f203 (r7 [sh0Q, (.int .i64)] 0 g) = some (legal_wfiB g, legal_wfiA g) := (by kernel_rfl : _ = some (legal_wfiB g, bz0 (fun i0 => (((g 0).fld 0).ix i0).num) (((g 0).fld 1).num) (((g 0).fld 2).num) (((g 0).fld 3).bool) (fun i0 => (((g 0).fld 4).ix i0).num) (((g 0).fld 5).num) ((g 1).num))).trans (by rw [cF8]; rfl)
theorem dP8 : Plain Tryz.prog 203 Tryz.f203 := ⟨Tryz.func203, of_decide_eq_true (by kernel_rfl)⟩
theorem dQ6 (f8 : Nat → Int) (b8 a7 : Int) (f9 : Bool) (g0 : Nat → Int) (a9 a1 : Int) : aV0 f8 b8 a7 f9 g0 a9 a1 = true := by first | simp [aV0, ah6, D3, show iIn 16 29 = true by decide, show iIn 0 29 = true by decide] | simp [aV0, D3, show iIn 16 29 = true by decide, show iIn 0 29 = true by decide]
def row203Q : List AV → Option (Option Bool × AV) := rowF [sh0Q, (.int .i64)] none legal_wfiA
theorem dU8 : D1 Tryz.prog 203 row203Q := s3 fun g => p6 mix A7 dd0 (o9 mix A7 dd0 D5 (fun _ h => o5 p8 h) 8) dP8 (fun c _ => m7 c) (dR6 g) (dQ6 ..)
def T203 : List Row := (203, row203Q) :: T202
theorem dv0 : r0 Tryz.prog (m5 T203) := m8 dU8 dd0
def W0 (f8 : Nat → Int) (b8 a7 : Int) (f9 : Bool) (g0 : Nat → Int) (a9 a1 a2 : Int) : Int :=
 bif iLe 4 a1 then 22
 else
 bif iEq a1 0 then F8 (bif iEq (a8 a2) 12 then o7 f8 b8 a7 f9 g0 a9 16 9 else false) 2
 else bif bif iEq a1 1 then iEq a2 65 else false then F8 (!o7 f8 b8 a7 f9 g0 a9 0 20) 2 else 0
def ab7 (f8 : Nat → Int) (b8 a7 : Int) (f9 : Bool) (g0 : Nat → Int) (a9 a1 a2 : Int) : Bool :=
 bif iLe 4 a1 then false
 else
 bif iEq a1 0 then bif iEq (a8 a2) 12 then o7 f8 b8 a7 f9 g0 a9 16 9 else false
 else bif bif iEq a1 1 then iEq a2 65 else false then !o7 f8 b8 a7 f9 g0 a9 0 20 else true
def aZ0 (f8 : Nat → Int) (b8 a7 : Int) (f9 : Bool) (g0 : Nat → Int) (a9 a1 a2 : Int) : Bool :=
 bif iLe 4 a1 then true
 else
 bif iEq a1 0 then (!iEq (a8 a2) 12 || D3 f8 b8 a7 f9 g0 a9 16 9) && true
 else bif bif iEq a1 1 then iEq a2 65 else false then D3 f8 b8 a7 f9 g0 a9 0 20 && true else true
def aX6 (f8 : Nat → Int) (b8 a7 : Int) (f9 : Bool) (g0 : Nat → Int) (a9 a1 a2 : Int) : AV := .tup [.it .u64 (W0 f8 b8 a7 f9 g0 a9 a1 a2), .bl (ab7 f8 b8 a7 f9 g0 a9 a1 a2)]
def legal_guestsA (g : Nat → AV) : AV := aX6 (fun i0 => (((g 0).fld 0).ix i0).num) (((g 0).fld 1).num) (((g 0).fld 2).num) (((g 0).fld 3).bool) (fun i0 => (((g 0).fld 4).ix i0).num) (((g 0).fld 5).num) ((g 1).num) ((g 2).num)
def legal_guestsB (g : Nat → AV) : Bool := aZ0 (fun i0 => (((g 0).fld 0).ix i0).num) (((g 0).fld 1).num) (((g 0).fld 2).num) (((g 0).fld 3).bool) (fun i0 => (((g 0).fld 4).ix i0).num) (((g 0).fld 5).num) ((g 1).num) ((g 2).num)
theorem cA5 (g : Nat → AV) : pO T203 100 false Tryz.f204 (r7 [sh0Q, (.int .i64), (.int .i64)] 0 g) = some (legal_guestsB g, legal_guestsA g) := by kernel_rfl
theorem cI8 : Plain Tryz.prog 204 Tryz.f204 := ⟨Tryz.func204, of_decide_eq_true (by kernel_rfl)⟩
theorem cD4 (f8 : Nat → Int) (b8 a7 : Int) (f9 : Bool) (g0 : Nat → Int) (a9 a1 a2 : Int) : aZ0 f8 b8 a7 f9 g0 a9 a1 a2 = true := by simp [aZ0, D3, show iIn 16 29 = true by decide, show iIn 0 29 = true by decide]
def row204Q : List AV → Option (Option Bool × AV) := rowF [sh0Q, (.int .i64), (.int .i64)] none legal_guestsA
theorem cC3 : D1 Tryz.prog 204 row204Q := s3 fun g => p6 mix A7 dv0 (o9 mix A7 dv0 D5 (fun _ h => o5 p8 h) 8) cI8 (fun c _ => m7 c) (cA5 g) (cD4 ..)
def T204 : List Row := (204, row204Q) :: T203
theorem dy6 : r0 Tryz.prog (m5 T204) := m8 cC3 dv0
def F5 (f8 : Nat → Int) (b8 a7 : Int) (f9 : Bool) (g0 : Nat → Int) (a9 l7 n7 l3 l5 l6 k9 : Int) : Int :=
 bif !E6 l7 n7 l3 l5 l6 k9 then 2
 else
 bif iEq (a8 l7) 9 then aS3 f8 b8 a7 f9 g0 a9 k9 (p7 l7 n7 l3 l5 l6 k9)
 else
 bif iEq l7 60 then F8 (iEq (p0 f8 b8 a7 f9 g0 a9) 3) 2
 else
 bif iEq l7 61 then aq2 f8 b8 a7 f9 g0 a9 (p0 f8 b8 a7 f9 g0 a9) 22 22
 else
 bif iEq l7 63 then aq2 f8 b8 a7 f9 g0 a9 (p0 f8 b8 a7 f9 g0 a9) 20 20
 else
 bif iEq l7 62 then aU4 f8 b8 a7 f9 g0 a9 (p0 f8 b8 a7 f9 g0 a9)
 else
 bif iEq l7 64 then
 W0 f8 b8 a7 f9 g0 a9 (p0 f8 b8 a7 f9 g0 a9) l7
 else
 bif iEq l7 65 then
 W0 f8 b8 a7 f9 g0 a9 (p0 f8 b8 a7 f9 g0 a9) l7
 else
 bif iEq (a8 l7) 12 then
 W0 f8 b8 a7 f9 g0 a9 (p0 f8 b8 a7 f9 g0 a9) l7
 else 0
def bm2 (f8 : Nat → Int) (b8 a7 : Int) (f9 : Bool) (g0 : Nat → Int) (a9 l7 n7 l3 l5 l6 k9 : Int) : Int :=
 bif !E6 l7 n7 l3 l5 l6 k9 then 2
 else
 bif iEq (a8 l7) 9 then aS3 f8 b8 a7 f9 g0 a9 k9 (p7 l7 n7 l3 l5 l6 k9)
 else
 bif iEq l7 60 then F8 (iEq (p0 f8 b8 a7 f9 g0 a9) 3) 2
 else
 bif iEq l7 61 then aq2 f8 b8 a7 f9 g0 a9 (p0 f8 b8 a7 f9 g0 a9) 22 22
 else
 bif iEq l7 63 then aq2 f8 b8 a7 f9 g0 a9 (p0 f8 b8 a7 f9 g0 a9) 20 20
 else
 bif iEq l7 62 then aU4 f8 b8 a7 f9 g0 a9 (p0 f8 b8 a7 f9 g0 a9)
 else
 bif iEq l7 64 then
 bif iEq l7 64 then
 W0 f8 b8 a7 f9 g0 a9 (p0 f8 b8 a7 f9 g0 a9) l7
 else 0
 else
 bif iEq l7 65 then
 bif iEq l7 65 then
 W0 f8 b8 a7 f9 g0 a9 (p0 f8 b8 a7 f9 g0 a9) l7
 else 0
 else
 bif iEq (a8 l7) 12 then
 W0 f8 b8 a7 f9 g0 a9 (p0 f8 b8 a7 f9 g0 a9) l7
 else 0
def o6 (f8 : Nat → Int) (b8 a7 : Int) (f9 : Bool) (g0 : Nat → Int) (a9 l7 n7 l3 l5 l6 k9 : Int) : Bool :=
 bif !E6 l7 n7 l3 l5 l6 k9 then false
 else
 bif iEq (a8 l7) 9 then bn3 f8 b8 a7 f9 g0 a9 k9 (p7 l7 n7 l3 l5 l6 k9)
 else
 bif iEq l7 60 then iEq (p0 f8 b8 a7 f9 g0 a9) 3
 else
 bif iEq l7 61 then aC1 f8 b8 a7 f9 g0 a9 (p0 f8 b8 a7 f9 g0 a9) 22 22
 else
 bif iEq l7 63 then aC1 f8 b8 a7 f9 g0 a9 (p0 f8 b8 a7 f9 g0 a9) 20 20
 else
 bif iEq l7 62 then bn6 f8 b8 a7 f9 g0 a9 (p0 f8 b8 a7 f9 g0 a9)
 else
 bif iEq l7 64 then
 ab7 f8 b8 a7 f9 g0 a9 (p0 f8 b8 a7 f9 g0 a9) l7
 else
 bif iEq l7 65 then
 ab7 f8 b8 a7 f9 g0 a9 (p0 f8 b8 a7 f9 g0 a9) l7
 else
 bif iEq (a8 l7) 12 then
 ab7 f8 b8 a7 f9 g0 a9 (p0 f8 b8 a7 f9 g0 a9) l7
 else true
def bj8 (f8 : Nat → Int) (b8 a7 : Int) (f9 : Bool) (g0 : Nat → Int) (a9 l7 n7 l3 l5 l6 k9 : Int) : Bool :=
 bif !E6 l7 n7 l3 l5 l6 k9 then false
 else
 bif iEq (a8 l7) 9 then bn3 f8 b8 a7 f9 g0 a9 k9 (p7 l7 n7 l3 l5 l6 k9)
 else
 bif iEq l7 60 then iEq (p0 f8 b8 a7 f9 g0 a9) 3
 else
 bif iEq l7 61 then aC1 f8 b8 a7 f9 g0 a9 (p0 f8 b8 a7 f9 g0 a9) 22 22
 else
 bif iEq l7 63 then aC1 f8 b8 a7 f9 g0 a9 (p0 f8 b8 a7 f9 g0 a9) 20 20
 else
 bif iEq l7 62 then bn6 f8 b8 a7 f9 g0 a9 (p0 f8 b8 a7 f9 g0 a9)
 else
 bif iEq l7 64 then
 bif iEq l7 64 then
 ab7 f8 b8 a7 f9 g0 a9 (p0 f8 b8 a7 f9 g0 a9) l7
 else true
 else
 bif iEq l7 65 then
 bif iEq l7 65 then
 ab7 f8 b8 a7 f9 g0 a9 (p0 f8 b8 a7 f9 g0 a9) l7
 else true
 else
 bif iEq (a8 l7) 12 then
 ab7 f8 b8 a7 f9 g0 a9 (p0 f8 b8 a7 f9 g0 a9) l7
 else true
def aW4 (f8 : Nat → Int) (b8 a7 : Int) (f9 : Bool) (g0 : Nat → Int) (a9 l7 n7 l3 l5 l6 k9 : Int) : Bool :=
 bif !E6 l7 n7 l3 l5 l6 k9 then true
 else
 bif iEq (a8 l7) 9 then true
 else
 bif iEq l7 60 then true
 else
 bif iEq l7 61 then true
 else
 bif iEq l7 63 then true
 else
 bif iEq l7 62 then true
 else bif iEq l7 64 then bif iEq l7 64 then true else true else bif iEq l7 65 then bif iEq l7 65 then true else true else bif iEq (a8 l7) 12 then true else true
theorem cq4 (f8 : Nat → Int) (b8 a7 : Int) (f9 : Bool) (g0 : Nat → Int) (a9 l7 n7 l3 l5 l6 k9 : Int)  : bm2 f8 b8 a7 f9 g0 a9 l7 n7 l3 l5 l6 k9  = F5 f8 b8 a7 f9 g0 a9 l7 n7 l3 l5 l6 k9  := by
  unfold bm2
  first | (simp only [cS1, cS2, cS3, cS4, cS6, cS7]; done) | (simp only [cS1, cS2, cS3, cS4, cS6, cS7]; kernel_rfl)
theorem cr6 (f8 : Nat → Int) (b8 a7 : Int) (f9 : Bool) (g0 : Nat → Int) (a9 l7 n7 l3 l5 l6 k9 : Int)  : bj8 f8 b8 a7 f9 g0 a9 l7 n7 l3 l5 l6 k9  = o6 f8 b8 a7 f9 g0 a9 l7 n7 l3 l5 l6 k9  := by
  unfold bj8
  first | (simp only [cS1, cS2, cS3, cS4, cS6, cS7]; done) | (simp only [cS1, cS2, cS3, cS4, cS6, cS7]; kernel_rfl)
def aK0 (f8 : Nat → Int) (b8 a7 : Int) (f9 : Bool) (g0 : Nat → Int) (a9 l7 n7 l3 l5 l6 k9 : Int) : AV := .tup [.it .u64 (F5 f8 b8 a7 f9 g0 a9 l7 n7 l3 l5 l6 k9), .bl (o6 f8 b8 a7 f9 g0 a9 l7 n7 l3 l5 l6 k9)]
def bd8 (f8 : Nat → Int) (b8 a7 : Int) (f9 : Bool) (g0 : Nat → Int) (a9 l7 n7 l3 l5 l6 k9 : Int) : AV := .tup [.it .u64 (bm2 f8 b8 a7 f9 g0 a9 l7 n7 l3 l5 l6 k9), .bl (bj8 f8 b8 a7 f9 g0 a9 l7 n7 l3 l5 l6 k9)]
theorem cs8 (f8 : Nat → Int) (b8 a7 : Int) (f9 : Bool) (g0 : Nat → Int) (a9 l7 n7 l3 l5 l6 k9 : Int) : bd8 f8 b8 a7 f9 g0 a9 l7 n7 l3 l5 l6 k9 = aK0 f8 b8 a7 f9 g0 a9 l7 n7 l3 l5 l6 k9 := by
  unfold bd8 aK0
  simp only [cq4, cr6]
def legal_InsnA (g : Nat → AV) : AV := aK0 (fun i0 => (((g 0).fld 0).ix i0).num) (((g 0).fld 1).num) (((g 0).fld 2).num) (((g 0).fld 3).bool) (fun i0 => (((g 0).fld 4).ix i0).num) (((g 0).fld 5).num) (((g 1).fld 0).num) (((g 1).fld 1).num) (((g 1).fld 2).num) (((g 1).fld 3).num) (((g 1).fld 4).num) (((g 1).fld 5).num)
def legal_InsnB (g : Nat → AV) : Bool := aW4 (fun i0 => (((g 0).fld 0).ix i0).num) (((g 0).fld 1).num) (((g 0).fld 2).num) (((g 0).fld 3).bool) (fun i0 => (((g 0).fld 4).ix i0).num) (((g 0).fld 5).num) (((g 1).fld 0).num) (((g 1).fld 1).num) (((g 1).fld 2).num) (((g 1).fld 3).num) (((g 1).fld 4).num) (((g 1).fld 5).num)
theorem di6 (g : Nat → AV) : pO T204 100 false Tryz.f141 (r7 [sh0Q, sh1Q] 0 g) = some (legal_InsnB g, legal_InsnA g) := (by kernel_rfl : _ = some (legal_InsnB g, bd8 (fun i0 => (((g 0).fld 0).ix i0).num) (((g 0).fld 1).num) (((g 0).fld 2).num) (((g 0).fld 3).bool) (fun i0 => (((g 0).fld 4).ix i0).num) (((g 0).fld 5).num) (((g 1).fld 0).num) (((g 1).fld 1).num) (((g 1).fld 2).num) (((g 1).fld 3).num) (((g 1).fld 4).num) (((g 1).fld 5).num))).trans (by rw [cs8]; rfl)
theorem do3 : Plain Tryz.prog 141 Tryz.f141 := ⟨Tryz.func141, of_decide_eq_true (by kernel_rfl)⟩
theorem de5 (f8 : Nat → Int) (b8 a7 : Int) (f9 : Bool) (g0 : Nat → Int) (a9 l7 n7 l3 l5 l6 k9 : Int) : aW4 f8 b8 a7 f9 g0 a9 l7 n7 l3 l5 l6 k9 = true := by simp [aW4, D3, show iIn 16 29 = true by decide, show iIn 0 29 = true by decide]
def row141Q : List AV → Option (Option Bool × AV) := rowF [sh0Q, sh1Q] none legal_InsnA
theorem dr9 : D1 Tryz.prog 141 row141Q := s3 fun g => p6 mix A7 dy6 (o9 mix A7 dy6 D5 (fun _ h => o5 p8 h) 8) do3 (fun c _ => m7 c) (di6 g) (de5 ..)
def T141 : List Row := (141, row141Q) :: T204
theorem dn6 : r0 Tryz.prog (m5 T141) := m8 dr9 dy6
def at6 (an1 G9 G8 F3 E3 : Int) (as3 : Nat → Int) (N1 x9 : Int) (ag1 : Bool) (aC7 : Nat → Int) (D4 H3 H2 I3 : Int) (Z4 : Bool) : Nat → Int :=
 fun i0 => bif iLe 0 F3 then as3 i0 else as3 i0
def n4 (an1 G9 G8 F3 E3 : Int) (as3 : Nat → Int) (N1 x9 : Int) (ag1 : Bool) (aC7 : Nat → Int) (D4 H3 H2 I3 : Int) (Z4 : Bool) : Int :=
 bif iLe 0 F3 then
 bif E3.toNat == F3.toNat then I3
 else bif E3.toNat == G8.toNat then H2 else bif E3.toNat == G9.toNat then H3 else bif E3.toNat == an1.toNat then N1 else aC7 E3.toNat
 else bif E3.toNat == G8.toNat then H2 else bif E3.toNat == G9.toNat then H3 else bif E3.toNat == an1.toNat then N1 else aC7 E3.toNat
def ax1 (an1 G9 G8 F3 E3 : Int) (as3 : Nat → Int) (N1 x9 : Int) (ag1 : Bool) (aC7 : Nat → Int) (D4 H3 H2 I3 : Int) (Z4 : Bool) : Int :=
 bif iLe 0 F3 then x9 else x9
def av4 (an1 G9 G8 F3 E3 : Int) (as3 : Nat → Int) (N1 x9 : Int) (ag1 : Bool) (aC7 : Nat → Int) (D4 H3 H2 I3 : Int) (Z4 : Bool) : Bool :=
 bif iLe 0 F3 then ag1 else ag1
def q9 (an1 G9 G8 F3 E3 : Int) (as3 : Nat → Int) (N1 x9 : Int) (ag1 : Bool) (aC7 : Nat → Int) (D4 H3 H2 I3 : Int) (Z4 : Bool) : Nat → Int :=
 fun i0 => bif iLe 0 F3 then
 bif i0 == F3.toNat then I3 else bif i0 == G8.toNat then H2 else bif i0 == G9.toNat then H3 else bif i0 == an1.toNat then N1 else aC7 i0
 else bif i0 == G8.toNat then H2 else bif i0 == G9.toNat then H3 else bif i0 == an1.toNat then N1 else aC7 i0
def as1 (an1 G9 G8 F3 E3 : Int) (as3 : Nat → Int) (N1 x9 : Int) (ag1 : Bool) (aC7 : Nat → Int) (D4 H3 H2 I3 : Int) (Z4 : Bool) : Int :=
 bif iLe 0 F3 then D4 else D4
def L6 (an1 G9 G8 F3 E3 : Int) (as3 : Nat → Int) (N1 x9 : Int) (ag1 : Bool) (aC7 : Nat → Int) (D4 H3 H2 I3 : Int) (Z4 : Bool) : Bool :=
 iIn an1 29 && (iIn G9 29 && (iIn G8 29 && bif iLe 0 F3 then iIn F3 29 && (iIn E3 29 && true) else iIn E3 29 && true))
theorem bq8 (an1 G9 G8 F3 E3 : Int) (as3 : Nat → Int) (N1 x9 : Int) (ag1 : Bool) (aC7 : Nat → Int) (D4 H3 H2 I3 : Int) (Z4 : Bool) (i0 : Nat) : at6 an1 G9 G8 F3 E3 as3 N1 x9 ag1 aC7 D4 H3 H2 I3 Z4 i0 = as3 i0 := by
  unfold at6
  first | (simp only [cS1, cS2, cS3, cS4, cS6, cS7]; done) | (simp only [cS1, cS2, cS3, cS4, cS6, cS7]; kernel_rfl)
theorem bq6 (an1 G9 G8 F3 E3 : Int) (as3 : Nat → Int) (N1 x9 : Int) (ag1 : Bool) (aC7 : Nat → Int) (D4 H3 H2 I3 : Int) (Z4 : Bool)  : ax1 an1 G9 G8 F3 E3 as3 N1 x9 ag1 aC7 D4 H3 H2 I3 Z4  = x9 := by
  unfold ax1
  first | (simp only [cS1, cS2, cS3, cS4, cS6, cS7]; done) | (simp only [cS1, cS2, cS3, cS4, cS6, cS7]; kernel_rfl)
theorem br2 (an1 G9 G8 F3 E3 : Int) (as3 : Nat → Int) (N1 x9 : Int) (ag1 : Bool) (aC7 : Nat → Int) (D4 H3 H2 I3 : Int) (Z4 : Bool)  : av4 an1 G9 G8 F3 E3 as3 N1 x9 ag1 aC7 D4 H3 H2 I3 Z4  = ag1 := by
  unfold av4
  first | (simp only [cS1, cS2, cS3, cS4, cS6, cS7]; done) | (simp only [cS1, cS2, cS3, cS4, cS6, cS7]; kernel_rfl)
theorem bs0 (an1 G9 G8 F3 E3 : Int) (as3 : Nat → Int) (N1 x9 : Int) (ag1 : Bool) (aC7 : Nat → Int) (D4 H3 H2 I3 : Int) (Z4 : Bool)  : as1 an1 G9 G8 F3 E3 as3 N1 x9 ag1 aC7 D4 H3 H2 I3 Z4  = D4 := by
  unfold as1
  first | (simp only [cS1, cS2, cS3, cS4, cS6, cS7]; done) | (simp only [cS1, cS2, cS3, cS4, cS6, cS7]; kernel_rfl)
def Z0 (an1 G9 G8 F3 E3 : Int) (as3 : Nat → Int) (N1 x9 : Int) (ag1 : Bool) (aC7 : Nat → Int) (D4 H3 H2 I3 : Int) (Z4 : Bool) : AV := .agg [.arr 32 (.int .u64) fun i0 => .it .u64 (as3 i0), .it .u64 (n4 an1 G9 G8 F3 E3 as3 N1 x9 ag1 aC7 D4 H3 H2 I3 Z4), .it .i64 (x9), .bl (ag1), .arr 29 (.int .u64) fun i0 => .it .u64 (q9 an1 G9 G8 F3 E3 as3 N1 x9 ag1 aC7 D4 H3 H2 I3 Z4 i0), .it .u64 (D4)]
def av0 (an1 G9 G8 F3 E3 : Int) (as3 : Nat → Int) (N1 x9 : Int) (ag1 : Bool) (aC7 : Nat → Int) (D4 H3 H2 I3 : Int) (Z4 : Bool) : AV := .agg [.arr 32 (.int .u64) fun i0 => .it .u64 (at6 an1 G9 G8 F3 E3 as3 N1 x9 ag1 aC7 D4 H3 H2 I3 Z4 i0), .it .u64 (n4 an1 G9 G8 F3 E3 as3 N1 x9 ag1 aC7 D4 H3 H2 I3 Z4), .it .i64 (ax1 an1 G9 G8 F3 E3 as3 N1 x9 ag1 aC7 D4 H3 H2 I3 Z4), .bl (av4 an1 G9 G8 F3 E3 as3 N1 x9 ag1 aC7 D4 H3 H2 I3 Z4), .arr 29 (.int .u64) fun i0 => .it .u64 (q9 an1 G9 G8 F3 E3 as3 N1 x9 ag1 aC7 D4 H3 H2 I3 Z4 i0), .it .u64 (as1 an1 G9 G8 F3 E3 as3 N1 x9 ag1 aC7 D4 H3 H2 I3 Z4)]
theorem br5 (an1 G9 G8 F3 E3 : Int) (as3 : Nat → Int) (N1 x9 : Int) (ag1 : Bool) (aC7 : Nat → Int) (D4 H3 H2 I3 : Int) (Z4 : Bool) : av0 an1 G9 G8 F3 E3 as3 N1 x9 ag1 aC7 D4 H3 H2 I3 Z4 = Z0 an1 G9 G8 F3 E3 as3 N1 x9 ag1 aC7 D4 H3 H2 I3 Z4 := by
  unfold av0 Z0
  simp only [bq8, bq6, br2, bs0]
def trap_told__enterA (g : Nat → AV) : AV := Z0 (((g 0).fld 0).num) (((g 0).fld 1).num) (((g 0).fld 2).num) (((g 0).fld 3).num) (((g 0).fld 4).num) (fun i0 => (((g 1).fld 0).ix i0).num) (((g 1).fld 1).num) (((g 1).fld 2).num) (((g 1).fld 3).bool) (fun i0 => (((g 1).fld 4).ix i0).num) (((g 1).fld 5).num) (((g 2).fld 0).num) (((g 2).fld 1).num) (((g 2).fld 2).num) (((g 2).fld 3).bool)
def trap_told__enterB (g : Nat → AV) : Bool := L6 (((g 0).fld 0).num) (((g 0).fld 1).num) (((g 0).fld 2).num) (((g 0).fld 3).num) (((g 0).fld 4).num) (fun i0 => (((g 1).fld 0).ix i0).num) (((g 1).fld 1).num) (((g 1).fld 2).num) (((g 1).fld 3).bool) (fun i0 => (((g 1).fld 4).ix i0).num) (((g 1).fld 5).num) (((g 2).fld 0).num) (((g 2).fld 1).num) (((g 2).fld 2).num) (((g 2).fld 3).bool)
theorem bL4 (g : Nat → AV) : pO T141 100 false Tryz.f189 (r7 [(.agg [(.int .i64), (.int .i64), (.int .i64), (.int .i64), (.int .i64)]), sh0Q, sh4Q] 0 g) = some (trap_told__enterB g, trap_told__enterA g) := (by kernel_rfl : _ = some (trap_told__enterB g, av0 (((g 0).fld 0).num) (((g 0).fld 1).num) (((g 0).fld 2).num) (((g 0).fld 3).num) (((g 0).fld 4).num) (fun i0 => (((g 1).fld 0).ix i0).num) (((g 1).fld 1).num) (((g 1).fld 2).num) (((g 1).fld 3).bool) (fun i0 => (((g 1).fld 4).ix i0).num) (((g 1).fld 5).num) (((g 2).fld 0).num) (((g 2).fld 1).num) (((g 2).fld 2).num) (((g 2).fld 3).bool))).trans (by rw [br5]; rfl)
theorem bK0 : Plain Tryz.prog 189 Tryz.f189 := ⟨Tryz.func189, of_decide_eq_true (by kernel_rfl)⟩
def row189Q : List AV → Option (Option Bool × AV) := rowF [(.agg [(.int .i64), (.int .i64), (.int .i64), (.int .i64), (.int .i64)]), sh0Q, sh4Q] (some fun g => trap_told__enterB g) trap_told__enterA
theorem bO8 : D1 Tryz.prog 189 row189Q := R9 fun g hg => p6 mix A7 dn6 (o9 mix A7 dn6 D5 (fun _ h => o5 p8 h) 8) bK0 (fun c _ => m7 c) (bL4 g) hg
def T189 : List Row := (189, row189Q) :: T141
theorem dd3 : r0 Tryz.prog (m5 T189) := m8 bO8 dn6
def F9 (a0 a1 a2 a3 : Int) : Int :=
 iOr .u64 (T1 .u64 a0 (iShl .u64 (ap4 (T6 a1 a2)) (P4 a1 a2)))
 (iShl .u64 (iAnd .u64 a3 (ap4 (T6 a1 a2))) (P4 a1 a2))
def cg9 (a0 a1 a2 a3 : Int) : Bool :=
 ad4 (T6 a1 a2) && (iLe 0 (P4 a1 a2) && (ad4 (T6 a1 a2) && (iLe 0 (P4 a1 a2) && true)))
def cj7 (a0 a1 a2 a3 : Int) : AV := .it .u64 (F9 a0 a1 a2 a3)
def word_SetA (g : Nat → AV) : AV := cj7 ((g 0).num) ((g 1).num) ((g 2).num) ((g 3).num)
def word_SetB (g : Nat → AV) : Bool := cg9 ((g 0).num) ((g 1).num) ((g 2).num) ((g 3).num)
theorem word_SetE (g : Nat → AV) : pO T189 100 false Tryz.f150 (r7 [(.int .u64), (.int .i64), (.int .i64), (.int .u64)] 0 g) = some (word_SetB g, word_SetA g) := by kernel_rfl
theorem word_SetP : Plain Tryz.prog 150 Tryz.f150 := ⟨Tryz.func150, of_decide_eq_true (by kernel_rfl)⟩
theorem word_SetT (a0 a1 a2 a3 : Int) : cg9 a0 a1 a2 a3 = true := by unfold cg9 ad4; have h0 := cE3 a1 a2; have h1 := dD1 a1 a2; simp [J1.2 h0.1, J1.2 h1.1]
def row150Q : List AV → Option (Option Bool × AV) := rowF [(.int .u64), (.int .i64), (.int .i64), (.int .u64)] none word_SetA
theorem word_SetO : D1 Tryz.prog 150 row150Q := s3 fun g => p6 mix A7 dd3 (o9 mix A7 dd3 D5 (fun _ h => o5 p8 h) 8) word_SetP (fun c _ => m7 c) (word_SetE g) (word_SetT ..)
def T150 : List Row := (150, row150Q) :: T189
theorem df1 : r0 Tryz.prog (m5 T150) := m8 word_SetO dd3
def cn4 (f8 : Nat → Int) (b8 a7 : Int) (f9 : Bool) (g0 : Nat → Int) (a9 a1 a2 : Int) (a3 : Bool) : Nat → Int :=
 fun i0 => bif a3 then f8 i0 else f8 i0
def cd9 (f8 : Nat → Int) (b8 a7 : Int) (f9 : Bool) (g0 : Nat → Int) (a9 a1 a2 : Int) (a3 : Bool) : Int :=
 bif a3 then b8 else b8
def cf9 (f8 : Nat → Int) (b8 a7 : Int) (f9 : Bool) (g0 : Nat → Int) (a9 a1 a2 : Int) (a3 : Bool) : Int :=
 bif a3 then a7 else a7
def cc8 (f8 : Nat → Int) (b8 a7 : Int) (f9 : Bool) (g0 : Nat → Int) (a9 a1 a2 : Int) (a3 : Bool) : Bool :=
 bif a3 then f9 else f9
def D6 (f8 : Nat → Int) (b8 a7 : Int) (f9 : Bool) (g0 : Nat → Int) (a9 a1 a2 : Int) (a3 : Bool) : Nat → Int :=
 fun i0 => bif a3 then bif i0 == a1.toNat then F9 (g0 a1.toNat) a2 1 1 else g0 i0 else bif i0 == a1.toNat then F9 (g0 a1.toNat) a2 1 0 else g0 i0
def cf0 (f8 : Nat → Int) (b8 a7 : Int) (f9 : Bool) (g0 : Nat → Int) (a9 a1 a2 : Int) (a3 : Bool) : Int :=
 bif a3 then a9 else a9
def R0 (f8 : Nat → Int) (b8 a7 : Int) (f9 : Bool) (g0 : Nat → Int) (a9 a1 a2 : Int) (a3 : Bool) : Bool :=
 bif a3 then iIn a1 29 && (iIn a1 29 && true) else iIn a1 29 && (iIn a1 29 && true)
theorem dv3 (f8 : Nat → Int) (b8 a7 : Int) (f9 : Bool) (g0 : Nat → Int) (a9 a1 a2 : Int) (a3 : Bool) (i0 : Nat) : cn4 f8 b8 a7 f9 g0 a9 a1 a2 a3 i0 = f8 i0 := by
  unfold cn4
  first | (simp only [cS1, cS2, cS3, cS4, cS6, cS7]; done) | (simp only [cS1, cS2, cS3, cS4, cS6, cS7]; kernel_rfl)
theorem dh0 (f8 : Nat → Int) (b8 a7 : Int) (f9 : Bool) (g0 : Nat → Int) (a9 a1 a2 : Int) (a3 : Bool)  : cd9 f8 b8 a7 f9 g0 a9 a1 a2 a3  = b8 := by
  unfold cd9
  first | (simp only [cS1, cS2, cS3, cS4, cS6, cS7]; done) | (simp only [cS1, cS2, cS3, cS4, cS6, cS7]; kernel_rfl)
theorem ds0 (f8 : Nat → Int) (b8 a7 : Int) (f9 : Bool) (g0 : Nat → Int) (a9 a1 a2 : Int) (a3 : Bool)  : cf9 f8 b8 a7 f9 g0 a9 a1 a2 a3  = a7 := by
  unfold cf9
  first | (simp only [cS1, cS2, cS3, cS4, cS6, cS7]; done) | (simp only [cS1, cS2, cS3, cS4, cS6, cS7]; kernel_rfl)
theorem dx1 (f8 : Nat → Int) (b8 a7 : Int) (f9 : Bool) (g0 : Nat → Int) (a9 a1 a2 : Int) (a3 : Bool)  : cc8 f8 b8 a7 f9 g0 a9 a1 a2 a3  = f9 := by
  unfold cc8
  first | (simp only [cS1, cS2, cS3, cS4, cS6, cS7]; done) | (simp only [cS1, cS2, cS3, cS4, cS6, cS7]; kernel_rfl)
theorem dm8 (f8 : Nat → Int) (b8 a7 : Int) (f9 : Bool) (g0 : Nat → Int) (a9 a1 a2 : Int) (a3 : Bool)  : cf0 f8 b8 a7 f9 g0 a9 a1 a2 a3  = a9 := by
  unfold cf0
  first | (simp only [cS1, cS2, cS3, cS4, cS6, cS7]; done) | (simp only [cS1, cS2, cS3, cS4, cS6, cS7]; kernel_rfl)
def bG7 (f8 : Nat → Int) (b8 a7 : Int) (f9 : Bool) (g0 : Nat → Int) (a9 a1 a2 : Int) (a3 : Bool) : AV := .agg [.arr 32 (.int .u64) fun i0 => .it .u64 (f8 i0), .it .u64 (b8), .it .i64 (a7), .bl (f9), .arr 29 (.int .u64) fun i0 => .it .u64 (D6 f8 b8 a7 f9 g0 a9 a1 a2 a3 i0), .it .u64 (a9)]
def cm3 (f8 : Nat → Int) (b8 a7 : Int) (f9 : Bool) (g0 : Nat → Int) (a9 a1 a2 : Int) (a3 : Bool) : AV := .agg [.arr 32 (.int .u64) fun i0 => .it .u64 (cn4 f8 b8 a7 f9 g0 a9 a1 a2 a3 i0), .it .u64 (cd9 f8 b8 a7 f9 g0 a9 a1 a2 a3), .it .i64 (cf9 f8 b8 a7 f9 g0 a9 a1 a2 a3), .bl (cc8 f8 b8 a7 f9 g0 a9 a1 a2 a3), .arr 29 (.int .u64) fun i0 => .it .u64 (D6 f8 b8 a7 f9 g0 a9 a1 a2 a3 i0), .it .u64 (cf0 f8 b8 a7 f9 g0 a9 a1 a2 a3)]
theorem de2 (f8 : Nat → Int) (b8 a7 : Int) (f9 : Bool) (g0 : Nat → Int) (a9 a1 a2 : Int) (a3 : Bool) : cm3 f8 b8 a7 f9 g0 a9 a1 a2 a3 = bG7 f8 b8 a7 f9 g0 a9 a1 a2 a3 := by
  unfold cm3 bG7
  simp only [dv3, dh0, ds0, dx1, dm8]
def csr_PutA (g : Nat → AV) : AV := bG7 (fun i0 => (((g 0).fld 0).ix i0).num) (((g 0).fld 1).num) (((g 0).fld 2).num) (((g 0).fld 3).bool) (fun i0 => (((g 0).fld 4).ix i0).num) (((g 0).fld 5).num) ((g 1).num) ((g 2).num) ((g 3).bool)
def csr_PutB (g : Nat → AV) : Bool := R0 (fun i0 => (((g 0).fld 0).ix i0).num) (((g 0).fld 1).num) (((g 0).fld 2).num) (((g 0).fld 3).bool) (fun i0 => (((g 0).fld 4).ix i0).num) (((g 0).fld 5).num) ((g 1).num) ((g 2).num) ((g 3).bool)
theorem csr_PutE (g : Nat → AV) : pO T150 100 false Tryz.f190 (r7 [sh0Q, (.int .i64), (.int .i64), .bool] 0 g) = some (csr_PutB g, csr_PutA g) := (by kernel_rfl : _ = some (csr_PutB g, cm3 (fun i0 => (((g 0).fld 0).ix i0).num) (((g 0).fld 1).num) (((g 0).fld 2).num) (((g 0).fld 3).bool) (fun i0 => (((g 0).fld 4).ix i0).num) (((g 0).fld 5).num) ((g 1).num) ((g 2).num) ((g 3).bool))).trans (by rw [de2]; rfl)
theorem csr_PutP : Plain Tryz.prog 190 Tryz.f190 := ⟨Tryz.func190, of_decide_eq_true (by kernel_rfl)⟩
def row190Q : List AV → Option (Option Bool × AV) := rowF [sh0Q, (.int .i64), (.int .i64), .bool] (some fun g => csr_PutB g) csr_PutA
theorem csr_PutO : D1 Tryz.prog 190 row190Q := R9 fun g hg => p6 mix A7 df1 (o9 mix A7 df1 D5 (fun _ h => o5 p8 h) 8) csr_PutP (fun c _ => m7 c) (csr_PutE g) hg
def T190 : List Row := (190, row190Q) :: T150
theorem di8 : r0 Tryz.prog (m5 T190) := m8 csr_PutO df1
theorem bT5 (X : Nat → Int) (PC L : Int) (V : Bool) (C : Nat → Int) (D : Int) (i b : Int) (t : Bool) (h : iIn i 29 = true) : R0 X PC L V C D i b t = true := by
  unfold R0; rw [h]; cases t <;> rfl
theorem cd2 (X : Nat → Int) (PC L : Int) (V : Bool) (C : Nat → Int) (D : Int) (i b : Int) (h : iIn i 29 = true) : D3 X PC L V C D i b = true := by
  unfold D3; rw [h]; rfl
def J8 (K8 aE5 aE7 : Int) (as3 : Nat → Int) (N1 x9 : Int) (ag1 : Bool) (aC7 : Nat → Int) (D4 : Int) : Nat → Int :=
 fun i0 => D6 as3 N1 x9 ag1
 (fun i0 =>
 D6 as3 N1 x9 ag1 aC7 D4 K8 aE7 (o7 as3 N1 x9 ag1 aC7 D4 K8 aE5) i0)
 D4 K8 aE5 false i0
def P2 (K8 aE5 aE7 : Int) (as3 : Nat → Int) (N1 x9 : Int) (ag1 : Bool) (aC7 : Nat → Int) (D4 : Int) : Bool :=
 D3 as3 N1 x9 ag1 aC7 D4 K8 aE5 &&
 (R0 as3 N1 x9 ag1 aC7 D4 K8 aE7 (o7 as3 N1 x9 ag1 aC7 D4 K8 aE5) &&
 (R0 as3 N1 x9 ag1
 (fun i0 =>
 D6 as3 N1 x9 ag1 aC7 D4 K8 aE7 (o7 as3 N1 x9 ag1 aC7 D4 K8 aE5)
 i0)
 D4 K8 aE5 false &&
 true))
def ax6 (K8 aE5 aE7 : Int) (as3 : Nat → Int) (N1 x9 : Int) (ag1 : Bool) (aC7 : Nat → Int) (D4 : Int) : AV := .agg [.arr 32 (.int .u64) fun i0 => .it .u64 (as3 i0), .it .u64 (N1), .it .i64 (x9), .bl (ag1), .arr 29 (.int .u64) fun i0 => .it .u64 (J8 K8 aE5 aE7 as3 N1 x9 ag1 aC7 D4 i0), .it .u64 (D4)]
def trap_kept__enterA (g : Nat → AV) : AV := ax6 (((g 0).fld 0).num) (((g 0).fld 1).num) (((g 0).fld 2).num) (fun i0 => (((g 1).fld 0).ix i0).num) (((g 1).fld 1).num) (((g 1).fld 2).num) (((g 1).fld 3).bool) (fun i0 => (((g 1).fld 4).ix i0).num) (((g 1).fld 5).num)
def trap_kept__enterB (g : Nat → AV) : Bool := P2 (((g 0).fld 0).num) (((g 0).fld 1).num) (((g 0).fld 2).num) (fun i0 => (((g 1).fld 0).ix i0).num) (((g 1).fld 1).num) (((g 1).fld 2).num) (((g 1).fld 3).bool) (fun i0 => (((g 1).fld 4).ix i0).num) (((g 1).fld 5).num)
theorem bJ6 (g : Nat → AV) : pO T190 100 false Tryz.f191 (r7 [(.agg [(.int .i64), (.int .i64), (.int .i64)]), sh0Q] 0 g) = some (trap_kept__enterB g, trap_kept__enterA g) := by kernel_rfl
theorem bM5 : Plain Tryz.prog 191 Tryz.f191 := ⟨Tryz.func191, of_decide_eq_true (by kernel_rfl)⟩
def row191Q : List AV → Option (Option Bool × AV) := rowF [(.agg [(.int .i64), (.int .i64), (.int .i64)]), sh0Q] (some fun g => trap_kept__enterB g) trap_kept__enterA
theorem bN8 : D1 Tryz.prog 191 row191Q := R9 fun g hg => p6 mix A7 di8 (o9 mix A7 di8 D5 (fun _ h => o5 p8 h) 8) bM5 (fun c _ => m7 c) (bJ6 g) hg
def T191 : List Row := (191, row191Q) :: T190
theorem ds8 : r0 Tryz.prog (m5 T191) := m8 bN8 di8
theorem kept_g (i a b : Int) (X : Nat → Int) (PC L : Int) (V : Bool) (C : Nat → Int) (D : Int) (h : iIn i 29 = true) : P2 i a b X PC L V C D = true := by
  unfold P2; simp only [bT5 _ _ _ _ _ _ _ _ _ h, cd2 _ _ _ _ _ _ _ _ h, Bool.and_true]
def T9 (f8 : Nat → Int) (b8 a7 : Int) (f9 : Bool) (g0 : Nat → Int) (a9 a1 a2 : Int) : Nat → Int :=
 fun i0 => J8 a1 1 5 f8 b8 a7 f9 (fun i0 => D6 f8 b8 a7 f9 g0 a9 a1 8 (iEq (iAnd .i64 a2 1) 1) i0)
 a9 i0
def ao7 (f8 : Nat → Int) (b8 a7 : Int) (f9 : Bool) (g0 : Nat → Int) (a9 a1 a2 : Int) : Bool :=
 R0 f8 b8 a7 f9 g0 a9 a1 8 (iEq (iAnd .i64 a2 1) 1) &&
 (P2 a1 1 5 f8 b8 a7 f9 (fun i0 => D6 f8 b8 a7 f9 g0 a9 a1 8 (iEq (iAnd .i64 a2 1) 1) i0)
 a9 &&
 true)
def bv5 (f8 : Nat → Int) (b8 a7 : Int) (f9 : Bool) (g0 : Nat → Int) (a9 a1 a2 : Int) : AV := .agg [.arr 32 (.int .u64) fun i0 => .it .u64 (f8 i0), .it .u64 (b8), .it .i64 (a7), .bl (f9), .arr 29 (.int .u64) fun i0 => .it .u64 (T9 f8 b8 a7 f9 g0 a9 a1 a2 i0), .it .u64 (a9)]
def trap_lowerA (g : Nat → AV) : AV := bv5 (fun i0 => (((g 0).fld 0).ix i0).num) (((g 0).fld 1).num) (((g 0).fld 2).num) (((g 0).fld 3).bool) (fun i0 => (((g 0).fld 4).ix i0).num) (((g 0).fld 5).num) ((g 1).num) ((g 2).num)
def trap_lowerB (g : Nat → AV) : Bool := ao7 (fun i0 => (((g 0).fld 0).ix i0).num) (((g 0).fld 1).num) (((g 0).fld 2).num) (((g 0).fld 3).bool) (fun i0 => (((g 0).fld 4).ix i0).num) (((g 0).fld 5).num) ((g 1).num) ((g 2).num)
theorem dz5 (g : Nat → AV) : pO T191 100 false Tryz.f192 (r7 [sh0Q, (.int .i64), (.int .i64)] 0 g) = some (trap_lowerB g, trap_lowerA g) := by kernel_rfl
theorem de7 : Plain Tryz.prog 192 Tryz.f192 := ⟨Tryz.func192, of_decide_eq_true (by kernel_rfl)⟩
def row192Q : List AV → Option (Option Bool × AV) := rowF [sh0Q, (.int .i64), (.int .i64)] (some fun g => trap_lowerB g) trap_lowerA
theorem dv5 : D1 Tryz.prog 192 row192Q := R9 fun g hg => p6 mix A7 ds8 (o9 mix A7 ds8 D5 (fun _ h => o5 p8 h) 8) de7 (fun c _ => m7 c) (dz5 g) hg
def T192 : List Row := (192, row192Q) :: T191
theorem dn2 : r0 Tryz.prog (m5 T192) := m8 dv5 ds8
theorem lower_g (X : Nat → Int) (PC L : Int) (V : Bool) (C : Nat → Int) (D : Int) (i b : Int) (h : iIn i 29 = true) : ao7 X PC L V C D i b = true := by
  unfold ao7; simp only [bT5 _ _ _ _ _ _ _ _ _ h, kept_g _ _ _ _ _ _ _ _ _ h, Bool.and_true]
def D0 (f8 : Nat → Int) (b8 a7 : Int) (f9 : Bool) (g0 : Nat → Int) (a9 n9 o4 o0 : Int) (r9 : Bool) (a2 : Int) (a3 : Bool) : Nat → Int :=
 D6 f8 (n4 12 13 14 20 10 f8 b8 a7 f9 g0 a9 n9 o4 o0 r9) a7 f9
 (fun i0 =>
 D6 f8 (n4 12 13 14 20 10 f8 b8 a7 f9 g0 a9 n9 o4 o0 r9) a7 f9
 (fun i0 =>
 T9 f8 (n4 12 13 14 20 10 f8 b8 a7 f9 g0 a9 n9 o4 o0 r9) a7 f9
 (fun i0 => q9 12 13 14 20 10 f8 b8 a7 f9 g0 a9 n9 o4 o0 r9 i0) a9 0 a7 i0)
 a9 16 7 f9 i0)
 a9 16 6 r9
def bf5 (f8 : Nat → Int) (b8 a7 : Int) (f9 : Bool) (g0 : Nat → Int) (a9 n9 o4 o0 : Int) (r9 : Bool) (a2 : Int) (a3 : Bool) : Nat → Int :=
 fun i0 => bif iEq a2 3 && (a3 == false && true) then f8 i0
 else bif iEq a2 1 && (a3 == false && true) then bif f9 then f8 i0 else f8 i0 else bif bif iEq a2 1 && (a3 == true && true) then f9 else false then f8 i0 else f8 i0
def L2 (f8 : Nat → Int) (b8 a7 : Int) (f9 : Bool) (g0 : Nat → Int) (a9 n9 o4 o0 : Int) (r9 : Bool) (a2 : Int) (a3 : Bool) : Int :=
 bif iEq a2 3 && a3 == false then n4 6 7 8 9 4 f8 b8 a7 f9 g0 a9 n9 o4 o0 r9
 else
 bif iEq a2 1 && a3 == false then n4 12 13 14 20 10 f8 b8 a7 f9 g0 a9 n9 o4 o0 r9
 else
 bif bif iEq a2 1 && a3 == true then f9 else false then n4 25 26 27 (-1) 23 f8 b8 a7 f9 g0 a9 n9 o4 o0 r9
 else b8
def bk0 (f8 : Nat → Int) (b8 a7 : Int) (f9 : Bool) (g0 : Nat → Int) (a9 n9 o4 o0 : Int) (r9 : Bool) (a2 : Int) (a3 : Bool) : Int :=
 bif iEq a2 3 && (a3 == false && true) then n4 6 7 8 9 4 f8 b8 a7 f9 g0 a9 n9 o4 o0 r9
 else
 bif iEq a2 1 && (a3 == false && true) then
 bif f9 then n4 12 13 14 20 10 f8 b8 a7 f9 g0 a9 n9 o4 o0 r9
 else n4 12 13 14 20 10 f8 b8 a7 f9 g0 a9 n9 o4 o0 r9
 else
 bif bif iEq a2 1 && (a3 == true && true) then f9 else false then
 n4 25 26 27 (-1) 23 f8 b8 a7 f9 g0 a9 n9 o4 o0 r9
 else b8
def R7 (f8 : Nat → Int) (b8 a7 : Int) (f9 : Bool) (g0 : Nat → Int) (a9 n9 o4 o0 : Int) (r9 : Bool) (a2 : Int) (a3 : Bool) : Int :=
 bif iEq a2 3 && a3 == false then a2 else bif iEq a2 1 && a3 == false then a2 else bif bif iEq a2 1 && a3 == true then f9 else false then a2 else a7
def bi8 (f8 : Nat → Int) (b8 a7 : Int) (f9 : Bool) (g0 : Nat → Int) (a9 n9 o4 o0 : Int) (r9 : Bool) (a2 : Int) (a3 : Bool) : Int :=
 bif iEq a2 3 && (a3 == false && true) then a2
 else bif iEq a2 1 && (a3 == false && true) then bif f9 then a2 else a2 else bif bif iEq a2 1 && (a3 == true && true) then f9 else false then a2 else a7
def az8 (f8 : Nat → Int) (b8 a7 : Int) (f9 : Bool) (g0 : Nat → Int) (a9 n9 o4 o0 : Int) (r9 : Bool) (a2 : Int) (a3 : Bool) : Bool :=
 bif iEq a2 3 && a3 == false then a3 else bif iEq a2 1 && a3 == false then a3 else bif bif iEq a2 1 && a3 == true then f9 else false then a3 else f9
def bj6 (f8 : Nat → Int) (b8 a7 : Int) (f9 : Bool) (g0 : Nat → Int) (a9 n9 o4 o0 : Int) (r9 : Bool) (a2 : Int) (a3 : Bool) : Bool :=
 bif iEq a2 3 && (a3 == false && true) then a3
 else bif iEq a2 1 && (a3 == false && true) then bif f9 then a3 else a3 else bif bif iEq a2 1 && (a3 == true && true) then f9 else false then a3 else f9
def I1 (f8 : Nat → Int) (b8 a7 : Int) (f9 : Bool) (g0 : Nat → Int) (a9 n9 o4 o0 : Int) (r9 : Bool) (a2 : Int) (a3 : Bool) : Nat → Int :=
 fun i0 => bif iEq a2 3 && a3 == false then
 J8 0 3 7 f8 (n4 6 7 8 9 4 f8 b8 a7 f9 g0 a9 n9 o4 o0 r9) a7 f9
 (fun i0 =>
 D6 f8 (n4 6 7 8 9 4 f8 b8 a7 f9 g0 a9 n9 o4 o0 r9) a7 f9
 (fun i0 =>
 D6 f8 (n4 6 7 8 9 4 f8 b8 a7 f9 g0 a9 n9 o4 o0 r9) a7 f9
 (fun i0 =>
 bif i0 == 0 then
 F9 (q9 6 7 8 9 4 f8 b8 a7 f9 g0 a9 n9 o4 o0 r9 0) 11 2 (g8 .u64 a7)
 else q9 6 7 8 9 4 f8 b8 a7 f9 g0 a9 n9 o4 o0 r9 i0)
 a9 0 39 f9 i0)
 a9 0 38 r9 i0)
 a9 i0
 else
 bif iEq a2 1 && a3 == false then
 bif f9 then
 D6 f8 (n4 12 13 14 20 10 f8 b8 a7 f9 g0 a9 n9 o4 o0 r9) a7 f9
 (fun i0 => D0 f8 b8 a7 f9 g0 a9 n9 o4 o0 r9 a2 a3 i0) a9 16 8 (iEq (iAnd .i64 a7 1) 1) i0
 else D0 f8 b8 a7 f9 g0 a9 n9 o4 o0 r9 a2 a3 i0
 else
 bif bif iEq a2 1 && a3 == true then f9 else false then
 T9 f8 (n4 25 26 27 (-1) 23 f8 b8 a7 f9 g0 a9 n9 o4 o0 r9) a7 f9
 (fun i0 => q9 25 26 27 (-1) 23 f8 b8 a7 f9 g0 a9 n9 o4 o0 r9 i0) a9 22 a7 i0
 else g0 i0
def bk2 (f8 : Nat → Int) (b8 a7 : Int) (f9 : Bool) (g0 : Nat → Int) (a9 n9 o4 o0 : Int) (r9 : Bool) (a2 : Int) (a3 : Bool) : Nat → Int :=
 fun i0 => bif iEq a2 3 && (a3 == false && true) then
 J8 0 3 7 f8 (n4 6 7 8 9 4 f8 b8 a7 f9 g0 a9 n9 o4 o0 r9) a7 f9
 (fun i0 =>
 D6 f8 (n4 6 7 8 9 4 f8 b8 a7 f9 g0 a9 n9 o4 o0 r9) a7 f9
 (fun i0 =>
 D6 f8 (n4 6 7 8 9 4 f8 b8 a7 f9 g0 a9 n9 o4 o0 r9) a7 f9
 (fun i0 =>
 bif i0 == 0 then
 F9 (q9 6 7 8 9 4 f8 b8 a7 f9 g0 a9 n9 o4 o0 r9 0) 11 2 (g8 .u64 a7)
 else q9 6 7 8 9 4 f8 b8 a7 f9 g0 a9 n9 o4 o0 r9 i0)
 a9 0 39 f9 i0)
 a9 0 38 r9 i0)
 a9 i0
 else
 bif iEq a2 1 && (a3 == false && true) then
 bif f9 then
 D6 f8 (n4 12 13 14 20 10 f8 b8 a7 f9 g0 a9 n9 o4 o0 r9) a7 f9
 (fun i0 => D0 f8 b8 a7 f9 g0 a9 n9 o4 o0 r9 a2 a3 i0) a9 16 8 (iEq (iAnd .i64 a7 1) 1) i0
 else D0 f8 b8 a7 f9 g0 a9 n9 o4 o0 r9 a2 a3 i0
 else
 bif bif iEq a2 1 && (a3 == true && true) then f9 else false then
 T9 f8 (n4 25 26 27 (-1) 23 f8 b8 a7 f9 g0 a9 n9 o4 o0 r9) a7 f9
 (fun i0 => q9 25 26 27 (-1) 23 f8 b8 a7 f9 g0 a9 n9 o4 o0 r9 i0) a9 22 a7 i0
 else g0 i0
def bd1 (f8 : Nat → Int) (b8 a7 : Int) (f9 : Bool) (g0 : Nat → Int) (a9 n9 o4 o0 : Int) (r9 : Bool) (a2 : Int) (a3 : Bool) : Int :=
 bif iEq a2 3 && (a3 == false && true) then a9
 else bif iEq a2 1 && (a3 == false && true) then bif f9 then a9 else a9 else bif bif iEq a2 1 && (a3 == true && true) then f9 else false then a9 else a9
def aW5 (f8 : Nat → Int) (b8 a7 : Int) (f9 : Bool) (g0 : Nat → Int) (a9 n9 o4 o0 : Int) (r9 : Bool) (a2 : Int) (a3 : Bool) : Bool :=
 bif iEq a2 3 && (a3 == false && true) then
 L6 6 7 8 9 4 f8 b8 a7 f9 g0 a9 n9 o4 o0 r9 &&
 (R0 f8 (n4 6 7 8 9 4 f8 b8 a7 f9 g0 a9 n9 o4 o0 r9) a7 f9
 (fun i0 =>
 bif i0 == 0 then
 F9 (q9 6 7 8 9 4 f8 b8 a7 f9 g0 a9 n9 o4 o0 r9 0) 11 2 (g8 .u64 a7)
 else q9 6 7 8 9 4 f8 b8 a7 f9 g0 a9 n9 o4 o0 r9 i0)
 a9 0 39 f9 &&
 (R0 f8 (n4 6 7 8 9 4 f8 b8 a7 f9 g0 a9 n9 o4 o0 r9) a7 f9
 (fun i0 =>
 D6 f8 (n4 6 7 8 9 4 f8 b8 a7 f9 g0 a9 n9 o4 o0 r9) a7 f9
 (fun i0 =>
 bif i0 == 0 then
 F9 (q9 6 7 8 9 4 f8 b8 a7 f9 g0 a9 n9 o4 o0 r9 0) 11 2 (g8 .u64 a7)
 else q9 6 7 8 9 4 f8 b8 a7 f9 g0 a9 n9 o4 o0 r9 i0)
 a9 0 39 f9 i0)
 a9 0 38 r9 &&
 (P2 0 3 7 f8 (n4 6 7 8 9 4 f8 b8 a7 f9 g0 a9 n9 o4 o0 r9) a7 f9
 (fun i0 =>
 D6 f8 (n4 6 7 8 9 4 f8 b8 a7 f9 g0 a9 n9 o4 o0 r9) a7 f9
 (fun i0 =>
 D6 f8 (n4 6 7 8 9 4 f8 b8 a7 f9 g0 a9 n9 o4 o0 r9) a7 f9
 (fun i0 =>
 bif i0 == 0 then
 F9 (q9 6 7 8 9 4 f8 b8 a7 f9 g0 a9 n9 o4 o0 r9 0) 11 2
 (g8 .u64 a7)
 else q9 6 7 8 9 4 f8 b8 a7 f9 g0 a9 n9 o4 o0 r9 i0)
 a9 0 39 f9 i0)
 a9 0 38 r9 i0)
 a9 &&
 true)))
 else
 bif iEq a2 1 && (a3 == false && true) then
 L6 12 13 14 20 10 f8 b8 a7 f9 g0 a9 n9 o4 o0 r9 &&
 (ao7 f8 (n4 12 13 14 20 10 f8 b8 a7 f9 g0 a9 n9 o4 o0 r9) a7 f9
 (fun i0 => q9 12 13 14 20 10 f8 b8 a7 f9 g0 a9 n9 o4 o0 r9 i0) a9 0 a7 &&
 (R0 f8 (n4 12 13 14 20 10 f8 b8 a7 f9 g0 a9 n9 o4 o0 r9) a7 f9
 (fun i0 =>
 T9 f8 (n4 12 13 14 20 10 f8 b8 a7 f9 g0 a9 n9 o4 o0 r9) a7 f9
 (fun i0 => q9 12 13 14 20 10 f8 b8 a7 f9 g0 a9 n9 o4 o0 r9 i0) a9 0 a7 i0)
 a9 16 7 f9 &&
 (R0 f8 (n4 12 13 14 20 10 f8 b8 a7 f9 g0 a9 n9 o4 o0 r9) a7 f9
 (fun i0 =>
 D6 f8 (n4 12 13 14 20 10 f8 b8 a7 f9 g0 a9 n9 o4 o0 r9) a7 f9
 (fun i0 =>
 T9 f8 (n4 12 13 14 20 10 f8 b8 a7 f9 g0 a9 n9 o4 o0 r9) a7
 f9 (fun i0 => q9 12 13 14 20 10 f8 b8 a7 f9 g0 a9 n9 o4 o0 r9 i0) a9 0 a7 i0)
 a9 16 7 f9 i0)
 a9 16 6 r9 &&
 bif f9 then
 R0 f8 (n4 12 13 14 20 10 f8 b8 a7 f9 g0 a9 n9 o4 o0 r9) a7 f9
 (fun i0 => D0 f8 b8 a7 f9 g0 a9 n9 o4 o0 r9 a2 a3 i0) a9 16 8 (iEq (iAnd .i64 a7 1) 1) &&
 true
 else true)))
 else
 bif bif iEq a2 1 && (a3 == true && true) then f9 else false then
 L6 25 26 27 (-1) 23 f8 b8 a7 f9 g0 a9 n9 o4 o0 r9 &&
 (ao7 f8 (n4 25 26 27 (-1) 23 f8 b8 a7 f9 g0 a9 n9 o4 o0 r9) a7 f9
 (fun i0 => q9 25 26 27 (-1) 23 f8 b8 a7 f9 g0 a9 n9 o4 o0 r9 i0) a9 22 a7 &&
 true)
 else true
theorem cq8 (f8 : Nat → Int) (b8 a7 : Int) (f9 : Bool) (g0 : Nat → Int) (a9 n9 o4 o0 : Int) (r9 : Bool) (a2 : Int) (a3 : Bool) (i0 : Nat) : bf5 f8 b8 a7 f9 g0 a9 n9 o4 o0 r9 a2 a3 i0 = f8 i0 := by
  unfold bf5
  first | (simp only [D0, cS1, cS2, cS3, cS4, cS6, cS7]; done) | (simp only [D0, cS1, cS2, cS3, cS4, cS6, cS7]; kernel_rfl)
theorem cp0 (f8 : Nat → Int) (b8 a7 : Int) (f9 : Bool) (g0 : Nat → Int) (a9 n9 o4 o0 : Int) (r9 : Bool) (a2 : Int) (a3 : Bool)  : bk0 f8 b8 a7 f9 g0 a9 n9 o4 o0 r9 a2 a3  = L2 f8 b8 a7 f9 g0 a9 n9 o4 o0 r9 a2 a3  := by
  unfold bk0
  first | (simp only [D0, cS1, cS2, cS3, cS4, cS6, cS7]; done) | (simp only [D0, cS1, cS2, cS3, cS4, cS6, cS7]; kernel_rfl)
theorem cr9 (f8 : Nat → Int) (b8 a7 : Int) (f9 : Bool) (g0 : Nat → Int) (a9 n9 o4 o0 : Int) (r9 : Bool) (a2 : Int) (a3 : Bool)  : bi8 f8 b8 a7 f9 g0 a9 n9 o4 o0 r9 a2 a3  = R7 f8 b8 a7 f9 g0 a9 n9 o4 o0 r9 a2 a3  := by
  unfold bi8
  first | (simp only [D0, cS1, cS2, cS3, cS4, cS6, cS7]; done) | (simp only [D0, cS1, cS2, cS3, cS4, cS6, cS7]; kernel_rfl)
theorem cq2 (f8 : Nat → Int) (b8 a7 : Int) (f9 : Bool) (g0 : Nat → Int) (a9 n9 o4 o0 : Int) (r9 : Bool) (a2 : Int) (a3 : Bool)  : bj6 f8 b8 a7 f9 g0 a9 n9 o4 o0 r9 a2 a3  = az8 f8 b8 a7 f9 g0 a9 n9 o4 o0 r9 a2 a3  := by
  unfold bj6
  first | (simp only [D0, cS1, cS2, cS3, cS4, cS6, cS7]; done) | (simp only [D0, cS1, cS2, cS3, cS4, cS6, cS7]; kernel_rfl)
theorem cp6 (f8 : Nat → Int) (b8 a7 : Int) (f9 : Bool) (g0 : Nat → Int) (a9 n9 o4 o0 : Int) (r9 : Bool) (a2 : Int) (a3 : Bool) (i0 : Nat) : bk2 f8 b8 a7 f9 g0 a9 n9 o4 o0 r9 a2 a3 i0 = I1 f8 b8 a7 f9 g0 a9 n9 o4 o0 r9 a2 a3 i0 := by
  unfold bk2
  first | (simp only [D0, cS1, cS2, cS3, cS4, cS6, cS7]; done) | (simp only [D0, cS1, cS2, cS3, cS4, cS6, cS7]; kernel_rfl)
theorem ct4 (f8 : Nat → Int) (b8 a7 : Int) (f9 : Bool) (g0 : Nat → Int) (a9 n9 o4 o0 : Int) (r9 : Bool) (a2 : Int) (a3 : Bool)  : bd1 f8 b8 a7 f9 g0 a9 n9 o4 o0 r9 a2 a3  = a9 := by
  unfold bd1
  first | (simp only [D0, cS1, cS2, cS3, cS4, cS6, cS7]; done) | (simp only [D0, cS1, cS2, cS3, cS4, cS6, cS7]; kernel_rfl)
def aJ3 (f8 : Nat → Int) (b8 a7 : Int) (f9 : Bool) (g0 : Nat → Int) (a9 n9 o4 o0 : Int) (r9 : Bool) (a2 : Int) (a3 : Bool) : AV := .agg [.arr 32 (.int .u64) fun i0 => .it .u64 (f8 i0), .it .u64 (L2 f8 b8 a7 f9 g0 a9 n9 o4 o0 r9 a2 a3), .it .i64 (R7 f8 b8 a7 f9 g0 a9 n9 o4 o0 r9 a2 a3), .bl (az8 f8 b8 a7 f9 g0 a9 n9 o4 o0 r9 a2 a3), .arr 29 (.int .u64) fun i0 => .it .u64 (I1 f8 b8 a7 f9 g0 a9 n9 o4 o0 r9 a2 a3 i0), .it .u64 (a9)]
def bj0 (f8 : Nat → Int) (b8 a7 : Int) (f9 : Bool) (g0 : Nat → Int) (a9 n9 o4 o0 : Int) (r9 : Bool) (a2 : Int) (a3 : Bool) : AV := .agg [.arr 32 (.int .u64) fun i0 => .it .u64 (bf5 f8 b8 a7 f9 g0 a9 n9 o4 o0 r9 a2 a3 i0), .it .u64 (bk0 f8 b8 a7 f9 g0 a9 n9 o4 o0 r9 a2 a3), .it .i64 (bi8 f8 b8 a7 f9 g0 a9 n9 o4 o0 r9 a2 a3), .bl (bj6 f8 b8 a7 f9 g0 a9 n9 o4 o0 r9 a2 a3), .arr 29 (.int .u64) fun i0 => .it .u64 (bk2 f8 b8 a7 f9 g0 a9 n9 o4 o0 r9 a2 a3 i0), .it .u64 (bd1 f8 b8 a7 f9 g0 a9 n9 o4 o0 r9 a2 a3)]
theorem cp8 (f8 : Nat → Int) (b8 a7 : Int) (f9 : Bool) (g0 : Nat → Int) (a9 n9 o4 o0 : Int) (r9 : Bool) (a2 : Int) (a3 : Bool) : bj0 f8 b8 a7 f9 g0 a9 n9 o4 o0 r9 a2 a3 = aJ3 f8 b8 a7 f9 g0 a9 n9 o4 o0 r9 a2 a3 := by
  unfold bj0 aJ3
  simp only [cq8, cp0, cr9, cq2, cp6, ct4]
def trap_EnterA (g : Nat → AV) : AV := aJ3 (fun i0 => (((g 0).fld 0).ix i0).num) (((g 0).fld 1).num) (((g 0).fld 2).num) (((g 0).fld 3).bool) (fun i0 => (((g 0).fld 4).ix i0).num) (((g 0).fld 5).num) (((g 1).fld 0).num) (((g 1).fld 1).num) (((g 1).fld 2).num) (((g 1).fld 3).bool) ((g 2).num) ((g 3).bool)
def trap_EnterB (g : Nat → AV) : Bool := aW5 (fun i0 => (((g 0).fld 0).ix i0).num) (((g 0).fld 1).num) (((g 0).fld 2).num) (((g 0).fld 3).bool) (fun i0 => (((g 0).fld 4).ix i0).num) (((g 0).fld 5).num) (((g 1).fld 0).num) (((g 1).fld 1).num) (((g 1).fld 2).num) (((g 1).fld 3).bool) ((g 2).num) ((g 3).bool)
theorem dy3 (g : Nat → AV) : pO T192 100 false Tryz.f137 (r7 [sh0Q, sh4Q, (.int .i64), .bool] 0 g) = some (trap_EnterB g, trap_EnterA g) := (by kernel_rfl : _ = some (trap_EnterB g, bj0 (fun i0 => (((g 0).fld 0).ix i0).num) (((g 0).fld 1).num) (((g 0).fld 2).num) (((g 0).fld 3).bool) (fun i0 => (((g 0).fld 4).ix i0).num) (((g 0).fld 5).num) (((g 1).fld 0).num) (((g 1).fld 1).num) (((g 1).fld 2).num) (((g 1).fld 3).bool) ((g 2).num) ((g 3).bool))).trans (by rw [cp8]; rfl)
theorem ds2 : Plain Tryz.prog 137 Tryz.f137 := ⟨Tryz.func137, of_decide_eq_true (by kernel_rfl)⟩
theorem dq1 (f8 : Nat → Int) (b8 a7 : Int) (f9 : Bool) (g0 : Nat → Int) (a9 n9 o4 o0 : Int) (r9 : Bool) (a2 : Int) (a3 : Bool) : aW5 f8 b8 a7 f9 g0 a9 n9 o4 o0 r9 a2 a3 = true := by
  unfold aW5
  simp only [bT5 _ _ _ _ _ _ _ _ _ (show iIn 0 29 = true from by decide), bT5 _ _ _ _ _ _ _ _ _ (show iIn 16 29 = true from by decide), bT5 _ _ _ _ _ _ _ _ _ (show iIn 22 29 = true from by decide), cd2 _ _ _ _ _ _ _ _ (show iIn 0 29 = true from by decide), cd2 _ _ _ _ _ _ _ _ (show iIn 16 29 = true from by decide), cd2 _ _ _ _ _ _ _ _ (show iIn 22 29 = true from by decide), kept_g _ _ _ _ _ _ _ _ _ (show iIn 0 29 = true from by decide), kept_g _ _ _ _ _ _ _ _ _ (show iIn 22 29 = true from by decide), lower_g _ _ _ _ _ _ _ _ (show iIn 0 29 = true from by decide), lower_g _ _ _ _ _ _ _ _ (show iIn 22 29 = true from by decide), Bool.and_true, Bool.true_and, Bool.cond_self, L6]
  simp [Go.Ev.iIn, Go.Ev.iLe]
def row137Q : List AV → Option (Option Bool × AV) := rowF [sh0Q, sh4Q, (.int .i64), .bool] none trap_EnterA
theorem dt0 : D1 Tryz.prog 137 row137Q := s3 fun g => p6 mix A7 dn2 (o9 mix A7 dn2 D5 (fun _ h => o5 p8 h) 8) ds2 (fun c _ => m7 c) (dy3 g) (dq1 ..)
def T137 : List Row := (137, row137Q) :: T192
theorem dj8 : r0 Tryz.prog (m5 T137) := m8 dt0 dn2
def J4 (K8 aE5 aE7 : Int) (as3 : Nat → Int) (N1 x9 : Int) (ag1 : Bool) (aC7 : Nat → Int) (D4 : Int) : Nat → Int :=
 fun i0 => D6 as3 N1 x9 ag1
 (fun i0 =>
 D6 as3 N1 x9 ag1 aC7 D4 K8 aE5 (o7 as3 N1 x9 ag1 aC7 D4 K8 aE7) i0)
 D4 K8 aE7 true i0
def N7 (K8 aE5 aE7 : Int) (as3 : Nat → Int) (N1 x9 : Int) (ag1 : Bool) (aC7 : Nat → Int) (D4 : Int) : Bool :=
 D3 as3 N1 x9 ag1 aC7 D4 K8 aE7 &&
 (R0 as3 N1 x9 ag1 aC7 D4 K8 aE5 (o7 as3 N1 x9 ag1 aC7 D4 K8 aE7) &&
 (R0 as3 N1 x9 ag1
 (fun i0 =>
 D6 as3 N1 x9 ag1 aC7 D4 K8 aE5 (o7 as3 N1 x9 ag1 aC7 D4 K8 aE7)
 i0)
 D4 K8 aE7 true &&
 true))
def aD7 (K8 aE5 aE7 : Int) (as3 : Nat → Int) (N1 x9 : Int) (ag1 : Bool) (aC7 : Nat → Int) (D4 : Int) : AV := .agg [.arr 32 (.int .u64) fun i0 => .it .u64 (as3 i0), .it .u64 (N1), .it .i64 (x9), .bl (ag1), .arr 29 (.int .u64) fun i0 => .it .u64 (J4 K8 aE5 aE7 as3 N1 x9 ag1 aC7 D4 i0), .it .u64 (D4)]
def trap_kept__backA (g : Nat → AV) : AV := aD7 (((g 0).fld 0).num) (((g 0).fld 1).num) (((g 0).fld 2).num) (fun i0 => (((g 1).fld 0).ix i0).num) (((g 1).fld 1).num) (((g 1).fld 2).num) (((g 1).fld 3).bool) (fun i0 => (((g 1).fld 4).ix i0).num) (((g 1).fld 5).num)
def trap_kept__backB (g : Nat → AV) : Bool := N7 (((g 0).fld 0).num) (((g 0).fld 1).num) (((g 0).fld 2).num) (fun i0 => (((g 1).fld 0).ix i0).num) (((g 1).fld 1).num) (((g 1).fld 2).num) (((g 1).fld 3).bool) (fun i0 => (((g 1).fld 4).ix i0).num) (((g 1).fld 5).num)
theorem bU8 (g : Nat → AV) : pO T137 100 false Tryz.f318 (r7 [(.agg [(.int .i64), (.int .i64), (.int .i64)]), sh0Q] 0 g) = some (trap_kept__backB g, trap_kept__backA g) := by kernel_rfl
theorem bW5 : Plain Tryz.prog 318 Tryz.f318 := ⟨Tryz.func318, of_decide_eq_true (by kernel_rfl)⟩
def row318Q : List AV → Option (Option Bool × AV) := rowF [(.agg [(.int .i64), (.int .i64), (.int .i64)]), sh0Q] (some fun g => trap_kept__backB g) trap_kept__backA
theorem bS9 : D1 Tryz.prog 318 row318Q := R9 fun g hg => p6 mix A7 dj8 (o9 mix A7 dj8 D5 (fun _ h => o5 p8 h) 8) bW5 (fun c _ => m7 c) (bU8 g) hg
def T318 : List Row := (318, row318Q) :: T137
theorem dx7 : r0 Tryz.prog (m5 T318) := m8 bS9 dj8
theorem cE6 (i a b : Int) (X : Nat → Int) (PC L : Int) (V : Bool) (C : Nat → Int) (D : Int) (h : iIn i 29 = true) : N7 i a b X PC L V C D = true := by
  unfold N7; simp only [bT5 _ _ _ _ _ _ _ _ _ h, cd2 _ _ _ _ _ _ _ _ h, Bool.and_true]
def L8 (f8 : Nat → Int) (b8 a7 : Int) (f9 : Bool) (g0 : Nat → Int) (a9 : Int) : Bool :=
 bif o7 f8 b8 (g8 .i64 (g9 (g0 0) 11 2)) f9 g0 a9 0 39 then iNe (g8 .i64 (g9 (g0 0) 11 2)) 3 else false
def aa4 (f8 : Nat → Int) (b8 a7 : Int) (f9 : Bool) (g0 : Nat → Int) (a9 : Int) : Nat → Int :=
 J4 0 3 7 f8 b8 (g8 .i64 (g9 (g0 0) 11 2)) (L8 f8 b8 a7 f9 g0 a9) g0 a9
def ap7 (f8 : Nat → Int) (b8 a7 : Int) (f9 : Bool) (g0 : Nat → Int) (a9 : Int) : Nat → Int :=
 D6 f8 b8 (g8 .i64 (g9 (g0 0) 11 2)) (L8 f8 b8 a7 f9 g0 a9)
 (fun i0 => bif i0 == 0 then F9 (aa4 f8 b8 a7 f9 g0 a9 0) 11 2 0 else aa4 f8 b8 a7 f9 g0 a9 i0) a9 0 39 false
def by0 (f8 : Nat → Int) (b8 a7 : Int) (f9 : Bool) (g0 : Nat → Int) (a9 : Int) : Nat → Int :=
 fun i0 => bif !o6 f8 b8 a7 f9 g0 a9 60 0 0 0 0 0 then f8 i0 else f8 i0
def ap3 (f8 : Nat → Int) (b8 a7 : Int) (f9 : Bool) (g0 : Nat → Int) (a9 : Int) : Int :=
 bif !o6 f8 b8 a7 f9 g0 a9 60 0 0 0 0 0 then b8 else ap7 f8 b8 a7 f9 g0 a9 6
def aq5 (f8 : Nat → Int) (b8 a7 : Int) (f9 : Bool) (g0 : Nat → Int) (a9 : Int) : Int :=
 bif !o6 f8 b8 a7 f9 g0 a9 60 0 0 0 0 0 then a7 else g8 .i64 (g9 (g0 0) 11 2)
def aq0 (f8 : Nat → Int) (b8 a7 : Int) (f9 : Bool) (g0 : Nat → Int) (a9 : Int) : Bool :=
 bif !o6 f8 b8 a7 f9 g0 a9 60 0 0 0 0 0 then f9 else L8 f8 b8 a7 f9 g0 a9
def ar1 (f8 : Nat → Int) (b8 a7 : Int) (f9 : Bool) (g0 : Nat → Int) (a9 : Int) : Nat → Int :=
 fun i0 => bif !o6 f8 b8 a7 f9 g0 a9 60 0 0 0 0 0 then g0 i0 else ap7 f8 b8 a7 f9 g0 a9 i0
def bz3 (f8 : Nat → Int) (b8 a7 : Int) (f9 : Bool) (g0 : Nat → Int) (a9 : Int) : Int :=
 bif !o6 f8 b8 a7 f9 g0 a9 60 0 0 0 0 0 then a9 else a9
def cx1 (f8 : Nat → Int) (b8 a7 : Int) (f9 : Bool) (g0 : Nat → Int) (a9 : Int) : Int :=
 bif !o6 f8 b8 a7 f9 g0 a9 60 0 0 0 0 0 then F5 f8 b8 a7 f9 g0 a9 60 0 0 0 0 0
 else 0
def cu4 (f8 : Nat → Int) (b8 a7 : Int) (f9 : Bool) (g0 : Nat → Int) (a9 : Int) : Bool :=
 bif !o6 f8 b8 a7 f9 g0 a9 60 0 0 0 0 0 then false else true
def bo7 (f8 : Nat → Int) (b8 a7 : Int) (f9 : Bool) (g0 : Nat → Int) (a9 : Int) : Bool :=
 bif !o6 f8 b8 a7 f9 g0 a9 60 0 0 0 0 0 then true
 else
 D3 f8 b8 (g8 .i64 (g9 (g0 0) 11 2)) f9 g0 a9 0 39 &&
 (N7 0 3 7 f8 b8 (g8 .i64 (g9 (g0 0) 11 2)) (L8 f8 b8 a7 f9 g0 a9) g0 a9 &&
 (R0 f8 b8 (g8 .i64 (g9 (g0 0) 11 2)) (L8 f8 b8 a7 f9 g0 a9)
 (fun i0 => bif i0 == 0 then F9 (aa4 f8 b8 a7 f9 g0 a9 0) 11 2 0 else aa4 f8 b8 a7 f9 g0 a9 i0) a9 0 39 false &&
 true))
theorem cI9 (f8 : Nat → Int) (b8 a7 : Int) (f9 : Bool) (g0 : Nat → Int) (a9 : Int) (i0 : Nat) : by0 f8 b8 a7 f9 g0 a9 i0 = f8 i0 := by
  unfold by0
  first | (simp only [L8, aa4, ap7, cS1, cS2, cS3, cS4, cS6, cS7]; done) | (simp only [L8, aa4, ap7, cS1, cS2, cS3, cS4, cS6, cS7]; kernel_rfl)
theorem cA1 (f8 : Nat → Int) (b8 a7 : Int) (f9 : Bool) (g0 : Nat → Int) (a9 : Int)  : bz3 f8 b8 a7 f9 g0 a9  = a9 := by
  unfold bz3
  first | (simp only [L8, aa4, ap7, cS1, cS2, cS3, cS4, cS6, cS7]; done) | (simp only [L8, aa4, ap7, cS1, cS2, cS3, cS4, cS6, cS7]; kernel_rfl)
def aQ2 (f8 : Nat → Int) (b8 a7 : Int) (f9 : Bool) (g0 : Nat → Int) (a9 : Int) : AV := .tup [.agg [.arr 32 (.int .u64) fun i0 => .it .u64 (f8 i0), .it .u64 (ap3 f8 b8 a7 f9 g0 a9), .it .i64 (aq5 f8 b8 a7 f9 g0 a9), .bl (aq0 f8 b8 a7 f9 g0 a9), .arr 29 (.int .u64) fun i0 => .it .u64 (ar1 f8 b8 a7 f9 g0 a9 i0), .it .u64 (a9)], .it .u64 (cx1 f8 b8 a7 f9 g0 a9), .bl (cu4 f8 b8 a7 f9 g0 a9)]
def bA7 (f8 : Nat → Int) (b8 a7 : Int) (f9 : Bool) (g0 : Nat → Int) (a9 : Int) : AV := .tup [.agg [.arr 32 (.int .u64) fun i0 => .it .u64 (by0 f8 b8 a7 f9 g0 a9 i0), .it .u64 (ap3 f8 b8 a7 f9 g0 a9), .it .i64 (aq5 f8 b8 a7 f9 g0 a9), .bl (aq0 f8 b8 a7 f9 g0 a9), .arr 29 (.int .u64) fun i0 => .it .u64 (ar1 f8 b8 a7 f9 g0 a9 i0), .it .u64 (bz3 f8 b8 a7 f9 g0 a9)], .it .u64 (cx1 f8 b8 a7 f9 g0 a9), .bl (cu4 f8 b8 a7 f9 g0 a9)]
theorem cF2 (f8 : Nat → Int) (b8 a7 : Int) (f9 : Bool) (g0 : Nat → Int) (a9 : Int) : bA7 f8 b8 a7 f9 g0 a9 = aQ2 f8 b8 a7 f9 g0 a9 := by
  unfold bA7 aQ2
  simp only [cI9, cA1]
def trap_MretA (g : Nat → AV) : AV := aQ2 (fun i0 => (((g 0).fld 0).ix i0).num) (((g 0).fld 1).num) (((g 0).fld 2).num) (((g 0).fld 3).bool) (fun i0 => (((g 0).fld 4).ix i0).num) (((g 0).fld 5).num)
def trap_MretB (g : Nat → AV) : Bool := bo7 (fun i0 => (((g 0).fld 0).ix i0).num) (((g 0).fld 1).num) (((g 0).fld 2).num) (((g 0).fld 3).bool) (fun i0 => (((g 0).fld 4).ix i0).num) (((g 0).fld 5).num)
theorem dQ3 (g : Nat → AV) : pO T318 100 false Tryz.f284 (r7 [sh0Q] 0 g) = some (trap_MretB g, trap_MretA g) := (by kernel_rfl : _ = some (trap_MretB g, bA7 (fun i0 => (((g 0).fld 0).ix i0).num) (((g 0).fld 1).num) (((g 0).fld 2).num) (((g 0).fld 3).bool) (fun i0 => (((g 0).fld 4).ix i0).num) (((g 0).fld 5).num))).trans (by rw [cF2]; rfl)
theorem dW2 : Plain Tryz.prog 284 Tryz.f284 := ⟨Tryz.func284, of_decide_eq_true (by kernel_rfl)⟩
theorem dX5 (f8 : Nat → Int) (b8 a7 : Int) (f9 : Bool) (g0 : Nat → Int) (a9 : Int) : bo7 f8 b8 a7 f9 g0 a9 = true := by
  unfold bo7
  simp only [bT5 _ _ _ _ _ _ _ _ _ (show iIn 0 29 = true from by decide), bT5 _ _ _ _ _ _ _ _ _ (show iIn 16 29 = true from by decide), bT5 _ _ _ _ _ _ _ _ _ (show iIn 22 29 = true from by decide), cd2 _ _ _ _ _ _ _ _ (show iIn 0 29 = true from by decide), cd2 _ _ _ _ _ _ _ _ (show iIn 16 29 = true from by decide), cd2 _ _ _ _ _ _ _ _ (show iIn 22 29 = true from by decide), cE6 _ _ _ _ _ _ _ _ _ (show iIn 0 29 = true from by decide), cE6 _ _ _ _ _ _ _ _ _ (show iIn 22 29 = true from by decide), Bool.and_true, Bool.true_and, Bool.cond_self]
  try simp [Go.Ev.iIn, Go.Ev.iLe]
def row284Q : List AV → Option (Option Bool × AV) := rowF [sh0Q] none trap_MretA
theorem dK8 : D1 Tryz.prog 284 row284Q := s3 fun g => p6 mix A7 dx7 (o9 mix A7 dx7 D5 (fun _ h => o5 p8 h) 8) dW2 (fun c _ => m7 c) (dQ3 g) (dX5 ..)
def T284 : List Row := (284, row284Q) :: T318
theorem du6 : r0 Tryz.prog (m5 T284) := m8 dK8 dx7
def E7 (f8 : Nat → Int) (b8 a7 : Int) (f9 : Bool) (g0 : Nat → Int) (a9 : Int) : Int :=
 g8 .i64
 (g9 (D6 f8 b8 a7 (o7 f8 b8 a7 f9 g0 a9 16 7) g0 a9 16 7 false 0) 8 1)
def T4 (f8 : Nat → Int) (b8 a7 : Int) (f9 : Bool) (g0 : Nat → Int) (a9 : Int) : Nat → Int :=
 D6 f8 b8 (g8 .i64 (g9 (g0 22) 8 1)) f9
 (fun i0 => J4 22 1 5 f8 b8 (g8 .i64 (g9 (g0 22) 8 1)) f9 g0 a9 i0) a9 22 8 false
def T3 (f8 : Nat → Int) (b8 a7 : Int) (f9 : Bool) (g0 : Nat → Int) (a9 : Int) : Nat → Int :=
 D6 f8 b8 (E7 f8 b8 a7 f9 g0 a9) (o7 f8 b8 a7 f9 g0 a9 16 7)
 (fun i0 =>
 J4 0 1 5 f8 b8 (E7 f8 b8 a7 f9 g0 a9) (o7 f8 b8 a7 f9 g0 a9 16 7)
 (fun i0 => D6 f8 b8 a7 (o7 f8 b8 a7 f9 g0 a9 16 7) g0 a9 16 7 false i0) a9 i0)
 a9 0 8 false
def bu7 (f8 : Nat → Int) (b8 a7 : Int) (f9 : Bool) (g0 : Nat → Int) (a9 : Int) : Nat → Int :=
 fun i0 => bif !o6 f8 b8 a7 f9 g0 a9 61 0 0 0 0 0 then f8 i0 else bif f9 then f8 i0 else f8 i0
def ar7 (f8 : Nat → Int) (b8 a7 : Int) (f9 : Bool) (g0 : Nat → Int) (a9 : Int) : Int :=
 bif !o6 f8 b8 a7 f9 g0 a9 61 0 0 0 0 0 then b8
 else bif f9 then T4 f8 b8 a7 f9 g0 a9 25 else T3 f8 b8 a7 f9 g0 a9 12
def aq6 (f8 : Nat → Int) (b8 a7 : Int) (f9 : Bool) (g0 : Nat → Int) (a9 : Int) : Int :=
 bif !o6 f8 b8 a7 f9 g0 a9 61 0 0 0 0 0 then a7
 else bif f9 then g8 .i64 (g9 (g0 22) 8 1) else E7 f8 b8 a7 f9 g0 a9
def ap9 (f8 : Nat → Int) (b8 a7 : Int) (f9 : Bool) (g0 : Nat → Int) (a9 : Int) : Bool :=
 bif !o6 f8 b8 a7 f9 g0 a9 61 0 0 0 0 0 then f9
 else bif f9 then f9 else o7 f8 b8 a7 f9 g0 a9 16 7
def aq8 (f8 : Nat → Int) (b8 a7 : Int) (f9 : Bool) (g0 : Nat → Int) (a9 : Int) : Nat → Int :=
 fun i0 => bif !o6 f8 b8 a7 f9 g0 a9 61 0 0 0 0 0 then g0 i0
 else bif f9 then T4 f8 b8 a7 f9 g0 a9 i0 else T3 f8 b8 a7 f9 g0 a9 i0
def bt4 (f8 : Nat → Int) (b8 a7 : Int) (f9 : Bool) (g0 : Nat → Int) (a9 : Int) : Int :=
 bif !o6 f8 b8 a7 f9 g0 a9 61 0 0 0 0 0 then a9 else bif f9 then a9 else a9
def cx9 (f8 : Nat → Int) (b8 a7 : Int) (f9 : Bool) (g0 : Nat → Int) (a9 : Int) : Int :=
 bif !o6 f8 b8 a7 f9 g0 a9 61 0 0 0 0 0 then F5 f8 b8 a7 f9 g0 a9 61 0 0 0 0 0
 else 0
def by5 (f8 : Nat → Int) (b8 a7 : Int) (f9 : Bool) (g0 : Nat → Int) (a9 : Int) : Int :=
 bif !o6 f8 b8 a7 f9 g0 a9 61 0 0 0 0 0 then F5 f8 b8 a7 f9 g0 a9 61 0 0 0 0 0
 else bif f9 then 0 else 0
def cu8 (f8 : Nat → Int) (b8 a7 : Int) (f9 : Bool) (g0 : Nat → Int) (a9 : Int) : Bool :=
 bif !o6 f8 b8 a7 f9 g0 a9 61 0 0 0 0 0 then false else true
def bA2 (f8 : Nat → Int) (b8 a7 : Int) (f9 : Bool) (g0 : Nat → Int) (a9 : Int) : Bool :=
 bif !o6 f8 b8 a7 f9 g0 a9 61 0 0 0 0 0 then false else bif f9 then true else true
def bo8 (f8 : Nat → Int) (b8 a7 : Int) (f9 : Bool) (g0 : Nat → Int) (a9 : Int) : Bool :=
 bif !o6 f8 b8 a7 f9 g0 a9 61 0 0 0 0 0 then true
 else
 bif f9 then
 N7 22 1 5 f8 b8 (g8 .i64 (g9 (g0 22) 8 1)) f9 g0 a9 &&
 (R0 f8 b8 (g8 .i64 (g9 (g0 22) 8 1)) f9
 (fun i0 => J4 22 1 5 f8 b8 (g8 .i64 (g9 (g0 22) 8 1)) f9 g0 a9 i0) a9 22 8 false &&
 true)
 else
 D3 f8 b8 a7 f9 g0 a9 16 7 &&
 (R0 f8 b8 a7 (o7 f8 b8 a7 f9 g0 a9 16 7) g0 a9 16 7 false &&
 (N7 0 1 5 f8 b8 (E7 f8 b8 a7 f9 g0 a9) (o7 f8 b8 a7 f9 g0 a9 16 7)
 (fun i0 => D6 f8 b8 a7 (o7 f8 b8 a7 f9 g0 a9 16 7) g0 a9 16 7 false i0)
 a9 &&
 (R0 f8 b8 (E7 f8 b8 a7 f9 g0 a9) (o7 f8 b8 a7 f9 g0 a9 16 7)
 (fun i0 =>
 J4 0 1 5 f8 b8 (E7 f8 b8 a7 f9 g0 a9)
 (o7 f8 b8 a7 f9 g0 a9 16 7)
 (fun i0 => D6 f8 b8 a7 (o7 f8 b8 a7 f9 g0 a9 16 7) g0 a9 16 7 false i0)
 a9 i0)
 a9 0 8 false &&
 true)))
theorem cE4 (f8 : Nat → Int) (b8 a7 : Int) (f9 : Bool) (g0 : Nat → Int) (a9 : Int) (i0 : Nat) : bu7 f8 b8 a7 f9 g0 a9 i0 = f8 i0 := by
  unfold bu7
  first | (simp only [E7, T4, T3, cS1, cS2, cS3, cS4, cS6, cS7]; done) | (simp only [E7, T4, T3, cS1, cS2, cS3, cS4, cS6, cS7]; kernel_rfl)
theorem cK5 (f8 : Nat → Int) (b8 a7 : Int) (f9 : Bool) (g0 : Nat → Int) (a9 : Int)  : bt4 f8 b8 a7 f9 g0 a9  = a9 := by
  unfold bt4
  first | (simp only [E7, T4, T3, cS1, cS2, cS3, cS4, cS6, cS7]; done) | (simp only [E7, T4, T3, cS1, cS2, cS3, cS4, cS6, cS7]; kernel_rfl)
theorem cE9 (f8 : Nat → Int) (b8 a7 : Int) (f9 : Bool) (g0 : Nat → Int) (a9 : Int)  : by5 f8 b8 a7 f9 g0 a9  = cx9 f8 b8 a7 f9 g0 a9  := by
  unfold by5
  first | (simp only [E7, T4, T3, cS1, cS2, cS3, cS4, cS6, cS7]; done) | (simp only [E7, T4, T3, cS1, cS2, cS3, cS4, cS6, cS7]; kernel_rfl)
theorem cF9 (f8 : Nat → Int) (b8 a7 : Int) (f9 : Bool) (g0 : Nat → Int) (a9 : Int)  : bA2 f8 b8 a7 f9 g0 a9  = cu8 f8 b8 a7 f9 g0 a9  := by
  unfold bA2
  first | (simp only [E7, T4, T3, cS1, cS2, cS3, cS4, cS6, cS7]; done) | (simp only [E7, T4, T3, cS1, cS2, cS3, cS4, cS6, cS7]; kernel_rfl)
def aU1 (f8 : Nat → Int) (b8 a7 : Int) (f9 : Bool) (g0 : Nat → Int) (a9 : Int) : AV := .tup [.agg [.arr 32 (.int .u64) fun i0 => .it .u64 (f8 i0), .it .u64 (ar7 f8 b8 a7 f9 g0 a9), .it .i64 (aq6 f8 b8 a7 f9 g0 a9), .bl (ap9 f8 b8 a7 f9 g0 a9), .arr 29 (.int .u64) fun i0 => .it .u64 (aq8 f8 b8 a7 f9 g0 a9 i0), .it .u64 (a9)], .it .u64 (cx9 f8 b8 a7 f9 g0 a9), .bl (cu8 f8 b8 a7 f9 g0 a9)]
def by6 (f8 : Nat → Int) (b8 a7 : Int) (f9 : Bool) (g0 : Nat → Int) (a9 : Int) : AV := .tup [.agg [.arr 32 (.int .u64) fun i0 => .it .u64 (bu7 f8 b8 a7 f9 g0 a9 i0), .it .u64 (ar7 f8 b8 a7 f9 g0 a9), .it .i64 (aq6 f8 b8 a7 f9 g0 a9), .bl (ap9 f8 b8 a7 f9 g0 a9), .arr 29 (.int .u64) fun i0 => .it .u64 (aq8 f8 b8 a7 f9 g0 a9 i0), .it .u64 (bt4 f8 b8 a7 f9 g0 a9)], .it .u64 (by5 f8 b8 a7 f9 g0 a9), .bl (bA2 f8 b8 a7 f9 g0 a9)]
theorem cA6 (f8 : Nat → Int) (b8 a7 : Int) (f9 : Bool) (g0 : Nat → Int) (a9 : Int) : by6 f8 b8 a7 f9 g0 a9 = aU1 f8 b8 a7 f9 g0 a9 := by
  unfold by6 aU1
  simp only [cE4, cK5, cE9, cF9]
def trap_SretA (g : Nat → AV) : AV := aU1 (fun i0 => (((g 0).fld 0).ix i0).num) (((g 0).fld 1).num) (((g 0).fld 2).num) (((g 0).fld 3).bool) (fun i0 => (((g 0).fld 4).ix i0).num) (((g 0).fld 5).num)
def trap_SretB (g : Nat → AV) : Bool := bo8 (fun i0 => (((g 0).fld 0).ix i0).num) (((g 0).fld 1).num) (((g 0).fld 2).num) (((g 0).fld 3).bool) (fun i0 => (((g 0).fld 4).ix i0).num) (((g 0).fld 5).num)
theorem dL2 (g : Nat → AV) : pO T284 100 false Tryz.f285 (r7 [sh0Q] 0 g) = some (trap_SretB g, trap_SretA g) := (by kernel_rfl : _ = some (trap_SretB g, by6 (fun i0 => (((g 0).fld 0).ix i0).num) (((g 0).fld 1).num) (((g 0).fld 2).num) (((g 0).fld 3).bool) (fun i0 => (((g 0).fld 4).ix i0).num) (((g 0).fld 5).num))).trans (by rw [cA6]; rfl)
theorem dK5 : Plain Tryz.prog 285 Tryz.f285 := ⟨Tryz.func285, of_decide_eq_true (by kernel_rfl)⟩
theorem dL3 (f8 : Nat → Int) (b8 a7 : Int) (f9 : Bool) (g0 : Nat → Int) (a9 : Int) : bo8 f8 b8 a7 f9 g0 a9 = true := by
  unfold bo8
  simp only [bT5 _ _ _ _ _ _ _ _ _ (show iIn 0 29 = true from by decide), bT5 _ _ _ _ _ _ _ _ _ (show iIn 16 29 = true from by decide), bT5 _ _ _ _ _ _ _ _ _ (show iIn 22 29 = true from by decide), cd2 _ _ _ _ _ _ _ _ (show iIn 0 29 = true from by decide), cd2 _ _ _ _ _ _ _ _ (show iIn 16 29 = true from by decide), cd2 _ _ _ _ _ _ _ _ (show iIn 22 29 = true from by decide), cE6 _ _ _ _ _ _ _ _ _ (show iIn 0 29 = true from by decide), cE6 _ _ _ _ _ _ _ _ _ (show iIn 22 29 = true from by decide), Bool.and_true, Bool.true_and, Bool.cond_self]
  try simp [Go.Ev.iIn, Go.Ev.iLe]
def row285Q : List AV → Option (Option Bool × AV) := rowF [sh0Q] none trap_SretA
theorem dP0 : D1 Tryz.prog 285 row285Q := s3 fun g => p6 mix A7 du6 (o9 mix A7 du6 D5 (fun _ h => o5 p8 h) 8) dK5 (fun c _ => m7 c) (dL2 g) (dL3 ..)
def T285 : List Row := (285, row285Q) :: T284
theorem dk4 : r0 Tryz.prog (m5 T285) := m8 dP0 du6
def bR8 (f8 : Nat → Int) (b8 a7 : Int) (f9 : Bool) (g0 : Nat → Int) (a9 : Int) (a1 a2 : Bool) : Int :=
 bif a1 then bif a2 then iOr .u64 (iOr .u64 (g0 19) 32) 512 else iOr .u64 (g0 19) 32 else bif a2 then iOr .u64 (g0 19) 512 else g0 19
def be2 (f8 : Nat → Int) (b8 a7 : Int) (f9 : Bool) (g0 : Nat → Int) (a9 : Int) (a1 a2 : Bool) : Bool :=
 bif a1 then bif a2 then true else true else bif a2 then true else true
def bh6 (f8 : Nat → Int) (b8 a7 : Int) (f9 : Bool) (g0 : Nat → Int) (a9 : Int) (a1 a2 : Bool) : AV := .it .u64 (bR8 f8 b8 a7 f9 g0 a9 a1 a2)
def csr_PendingA (g : Nat → AV) : AV := bh6 (fun i0 => (((g 0).fld 0).ix i0).num) (((g 0).fld 1).num) (((g 0).fld 2).num) (((g 0).fld 3).bool) (fun i0 => (((g 0).fld 4).ix i0).num) (((g 0).fld 5).num) ((g 1).bool) ((g 2).bool)
def csr_PendingB (g : Nat → AV) : Bool := be2 (fun i0 => (((g 0).fld 0).ix i0).num) (((g 0).fld 1).num) (((g 0).fld 2).num) (((g 0).fld 3).bool) (fun i0 => (((g 0).fld 4).ix i0).num) (((g 0).fld 5).num) ((g 1).bool) ((g 2).bool)
theorem cQ9 (g : Nat → AV) : pO T285 100 false Tryz.f187 (r7 [sh0Q, .bool, .bool] 0 g) = some (csr_PendingB g, csr_PendingA g) := by kernel_rfl
theorem cV0 : Plain Tryz.prog 187 Tryz.f187 := ⟨Tryz.func187, of_decide_eq_true (by kernel_rfl)⟩
theorem cQ8 (f8 : Nat → Int) (b8 a7 : Int) (f9 : Bool) (g0 : Nat → Int) (a9 : Int) (a1 a2 : Bool) : be2 f8 b8 a7 f9 g0 a9 a1 a2 = true := by
  unfold be2
  simp only [cS1, cS2, cS3, cS4, cS6, cS7]
def row187Q : List AV → Option (Option Bool × AV) := rowF [sh0Q, .bool, .bool] none csr_PendingA
theorem cW3 : D1 Tryz.prog 187 row187Q := s3 fun g => p6 mix A7 dk4 (o9 mix A7 dk4 D5 (fun _ h => o5 p8 h) 8) cV0 (fun c _ => m7 c) (cQ9 g) (cQ8 ..)
def T187 : List Row := (187, row187Q) :: T285
theorem dq6 : r0 Tryz.prog (m5 T187) := m8 cW3 dk4
def F1 (f8 : Nat → Int) (b8 a7 : Int) (f9 : Bool) (g0 : Nat → Int) (a9 : Int) (a1 a2 : Bool) : Int :=
 iAnd .u64 (bR8 f8 b8 a7 f9 g0 a9 a1 a2) (g0 3)
def bs9 (f8 : Nat → Int) (b8 a7 : Int) (f9 : Bool) (g0 : Nat → Int) (a9 : Int) (a1 a2 : Bool) : Bool :=
 true
def aO3 (f8 : Nat → Int) (b8 a7 : Int) (f9 : Bool) (g0 : Nat → Int) (a9 : Int) (a1 a2 : Bool) : AV := .it .u64 (F1 f8 b8 a7 f9 g0 a9 a1 a2)
def route_EnabledA (g : Nat → AV) : AV := aO3 (fun i0 => (((g 0).fld 0).ix i0).num) (((g 0).fld 1).num) (((g 0).fld 2).num) (((g 0).fld 3).bool) (fun i0 => (((g 0).fld 4).ix i0).num) (((g 0).fld 5).num) ((g 1).bool) ((g 2).bool)
def route_EnabledB (g : Nat → AV) : Bool := bs9 (fun i0 => (((g 0).fld 0).ix i0).num) (((g 0).fld 1).num) (((g 0).fld 2).num) (((g 0).fld 3).bool) (fun i0 => (((g 0).fld 4).ix i0).num) (((g 0).fld 5).num) ((g 1).bool) ((g 2).bool)
theorem cs1 (g : Nat → AV) : pO T187 100 false Tryz.f133 (r7 [sh0Q, .bool, .bool] 0 g) = some (route_EnabledB g, route_EnabledA g) := by kernel_rfl
theorem cp4 : Plain Tryz.prog 133 Tryz.f133 := ⟨Tryz.func133, of_decide_eq_true (by kernel_rfl)⟩
theorem cs4 (f8 : Nat → Int) (b8 a7 : Int) (f9 : Bool) (g0 : Nat → Int) (a9 : Int) (a1 a2 : Bool) : bs9 f8 b8 a7 f9 g0 a9 a1 a2 = true := rfl
def row133Q : List AV → Option (Option Bool × AV) := rowF [sh0Q, .bool, .bool] none route_EnabledA
theorem cp2 : D1 Tryz.prog 133 row133Q := s3 fun g => p6 mix A7 dq6 (o9 mix A7 dq6 D5 (fun _ h => o5 p8 h) 8) cp4 (fun c _ => m7 c) (cs1 g) (cs4 ..)
def T133 : List Row := (133, row133Q) :: T187
theorem df0 : r0 Tryz.prog (m5 T133) := m8 cp2 dq6
def bQ2 : Nat → Int :=
 fun i0 => bif i0 == 7 then 6 else bif i0 == 6 then 10 else bif i0 == 5 then 6 else bif i0 == 4 then 10 else bif i0 == 3 then 5 else bif i0 == 2 then 9 else bif i0 == 1 then 5 else bif i0 == 0 then 9 else 0
def bS5 : Nat → Int :=
 fun i0 => bif i0 == 7 then 18 else bif i0 == 6 then 18 else bif i0 == 5 then 18 else bif i0 == 4 then 18 else bif i0 == 3 then 2 else bif i0 == 2 then 2 else bif i0 == 1 then 2 else bif i0 == 0 then 2 else 0
def bQ6 : Nat → Bool :=
 fun i0 => bif i0 == 7 then true else bif i0 == 6 then true else bif i0 == 5 then false else bif i0 == 4 then false else bif i0 == 3 then true else i0 == 2
def aV6 : Nat → Bool :=
 fun i0 => bif i0 == 7 then true
 else
 bif i0 == 6 then true else bif i0 == 5 then false else bif i0 == 4 then false else bif i0 == 3 then true else bif i0 == 2 then true else bif i0 == 1 then false else bif i0 == 0 then false else false
def bQ8 : Nat → Int :=
 fun i0 => bif i0 == 7 then 1 else bif i0 == 6 then 1 else bif i0 == 5 then 1 else bif i0 == 4 then 1 else bif i0 == 3 then 1 else bif i0 == 2 then 1 else bif i0 == 1 then 3 else bif i0 == 0 then 3 else 0
def bR7 : Nat → Bool :=
 fun i0 => bif i0 == 7 then true else i0 == 6
def aX2 : Nat → Bool :=
 fun i0 => bif i0 == 7 then true
 else
 bif i0 == 6 then true
 else bif i0 == 5 then false else bif i0 == 4 then false else bif i0 == 3 then false else bif i0 == 2 then false else bif i0 == 1 then false else bif i0 == 0 then false else false
def be9 : Bool :=
 true
theorem ch1  (i0 : Nat) : aV6  i0 = bQ6  i0 := by
  unfold aV6
  first | (simp only [cS1, cS2, cS3, cS4, cS6, cS7]; done) | (simp only [cS1, cS2, cS3, cS4, cS6, cS7]; kernel_rfl)
theorem cj9  (i0 : Nat) : aX2  i0 = bR7  i0 := by
  unfold aX2
  first | (simp only [cS1, cS2, cS3, cS4, cS6, cS7]; done) | (simp only [cS1, cS2, cS3, cS4, cS6, cS7]; kernel_rfl)
def aB9 : AV := .arr 8 (.agg [(.int .i64), (.int .i64), .bool, (.int .i64), .bool]) fun i0 => .agg [.it .i64 (bQ2 i0), .it .i64 (bS5 i0), .bl (bQ6 i0), .it .i64 (bQ8 i0), .bl (bR7 i0)]
def aW0 : AV := .arr 8 (.agg [(.int .i64), (.int .i64), .bool, (.int .i64), .bool]) fun i0 => .agg [.it .i64 (bQ2 i0), .it .i64 (bS5 i0), .bl (aV6 i0), .it .i64 (bQ8 i0), .bl (aX2 i0)]
theorem cm6  : aW0  = aB9  := by
  unfold aW0 aB9
  simp only [ch1, cj9]
theorem cV5 (g : Nat → AV) : pO T133 100 false Tryz.f134 (r7 [] 0 g) = some (be9 , aB9 ) :=
 (by kernel_rfl : _ = some (be9 , aW0 )).trans (by rw [cm6])
theorem dc2 : Plain Tryz.prog 134 Tryz.f134 := ⟨Tryz.func134, of_decide_eq_true (by kernel_rfl)⟩
theorem cX0  : be9  = true := rfl
def row134Q : List AV → Option (Option Bool × AV) := rowF [] none fun g => aB9 
theorem cR5 : D1 Tryz.prog 134 row134Q := s3 fun g => p6 mix A7 df0 (o9 mix A7 df0 D5 (fun _ h => o5 p8 h) 8) dc2 (fun c _ => m7 c) (cV5 g) (cX0 )
def T134 : List Row := (134, row134Q) :: T133
theorem du8 : r0 Tryz.prog (m5 T134) := m8 cR5 df0
def ab1 (f8 : Nat → Int) (b8 a7 : Int) (f9 : Bool) (g0 : Nat → Int) (a9 cV8 bC5 : Int) (bG0 : Bool) (aV8 : Int) (a1_v : Bool) : Bool :=
 bif iEq aV8 3 then bif iNe a7 3 then true else o7 f8 b8 a7 f9 g0 a9 0 3
 else
 bif bif iEq a7 3 then true else bif a1_v then !f9 else false then false
 else
 bif a1_v then bif iEq a7 0 then true else o7 f8 b8 a7 f9 g0 a9 22 1
 else bif bif f9 then true else iEq a7 0 then true else o7 f8 b8 a7 f9 g0 a9 0 1
def bA8 (f8 : Nat → Int) (b8 a7 : Int) (f9 : Bool) (g0 : Nat → Int) (a9 cV8 bC5 : Int) (bG0 : Bool) (aV8 : Int) (a1_v : Bool) : Bool :=
 bif iEq aV8 3 then (!!iNe a7 3 || D3 f8 b8 a7 f9 g0 a9 0 3) && true
 else
 bif bif iEq a7 3 then true else bif a1_v then !f9 else false then true
 else
 bif a1_v then (!!iEq a7 0 || D3 f8 b8 a7 f9 g0 a9 22 1) && true
 else ((!!bif f9 then true else iEq a7 0) || D3 f8 b8 a7 f9 g0 a9 0 1) && true
def bx1 (f8 : Nat → Int) (b8 a7 : Int) (f9 : Bool) (g0 : Nat → Int) (a9 cV8 bC5 : Int) (bG0 : Bool) (aV8 : Int) (a1_v : Bool) : AV := .bl (ab1 f8 b8 a7 f9 g0 a9 cV8 bC5 bG0 aV8 a1_v)
def route_openA (g : Nat → AV) : AV := bx1 (fun i0 => (((g 0).fld 0).ix i0).num) (((g 0).fld 1).num) (((g 0).fld 2).num) (((g 0).fld 3).bool) (fun i0 => (((g 0).fld 4).ix i0).num) (((g 0).fld 5).num) (((g 1).fld 0).num) (((g 1).fld 1).num) (((g 1).fld 2).bool) (((g 1).fld 3).num) (((g 1).fld 4).bool)
def route_openB (g : Nat → AV) : Bool := bA8 (fun i0 => (((g 0).fld 0).ix i0).num) (((g 0).fld 1).num) (((g 0).fld 2).num) (((g 0).fld 3).bool) (fun i0 => (((g 0).fld 4).ix i0).num) (((g 0).fld 5).num) (((g 1).fld 0).num) (((g 1).fld 1).num) (((g 1).fld 2).bool) (((g 1).fld 3).num) (((g 1).fld 4).bool)
theorem du2 (g : Nat → AV) : pO T134 100 false Tryz.f136 (r7 [sh0Q, (.agg [(.int .i64), (.int .i64), .bool, (.int .i64), .bool])] 0 g) = some (route_openB g, route_openA g) := by kernel_rfl
theorem dj5 : Plain Tryz.prog 136 Tryz.f136 := ⟨Tryz.func136, of_decide_eq_true (by kernel_rfl)⟩
theorem dz3 (f8 : Nat → Int) (b8 a7 : Int) (f9 : Bool) (g0 : Nat → Int) (a9 cV8 bC5 : Int) (bG0 : Bool) (aV8 : Int) (a1_v : Bool) : bA8 f8 b8 a7 f9 g0 a9 cV8 bC5 bG0 aV8 a1_v = true := by simp [bA8, D3, Go.Ev.iIn]
def row136Q : List AV → Option (Option Bool × AV) := rowF [sh0Q, (.agg [(.int .i64), (.int .i64), .bool, (.int .i64), .bool])] none route_openA
theorem dy5 : D1 Tryz.prog 136 row136Q := s3 fun g => p6 mix A7 du8 (o9 mix A7 du8 D5 (fun _ h => o5 p8 h) 8) dj5 (fun c _ => m7 c) (du2 g) (dz3 ..)
def T136 : List Row := (136, row136Q) :: T134
theorem dk8 : r0 Tryz.prog (m5 T136) := m8 dy5 du8
def Q9 (f8 : Nat → Int) (b8 a7 : Int) (f9 : Bool) (g0 : Nat → Int) (a9 : Int) (a1 a2 : Bool) : Bool :=
 bif
 bif iEq (g9 (F1 f8 b8 a7 f9 g0 a9 a1 a2) 9 1) 0 then true
 else !o7 f8 b8 a7 f9 g0 a9 2 9 == false then
 true
 else !ab1 f8 b8 a7 f9 g0 a9 9 2 false 3 false
def R1 (f8 : Nat → Int) (b8 a7 : Int) (f9 : Bool) (g0 : Nat → Int) (a9 : Int) (a1 a2 : Bool) : Bool :=
 bif
 bif iEq (g9 (F1 f8 b8 a7 f9 g0 a9 a1 a2) 5 1) 0 then true
 else !o7 f8 b8 a7 f9 g0 a9 2 5 == false then
 true
 else !ab1 f8 b8 a7 f9 g0 a9 5 2 false 3 false
def R5 (f8 : Nat → Int) (b8 a7 : Int) (f9 : Bool) (g0 : Nat → Int) (a9 : Int) (a1 a2 : Bool) : Bool :=
 bif
 bif iEq (g9 (F1 f8 b8 a7 f9 g0 a9 a1 a2) 9 1) 0 then true
 else !o7 f8 b8 a7 f9 g0 a9 2 9 == true then
 true
 else !ab1 f8 b8 a7 f9 g0 a9 9 2 true 1 false
def Q8 (f8 : Nat → Int) (b8 a7 : Int) (f9 : Bool) (g0 : Nat → Int) (a9 : Int) (a1 a2 : Bool) : Bool :=
 bif
 bif iEq (g9 (F1 f8 b8 a7 f9 g0 a9 a1 a2) 5 1) 0 then true
 else !o7 f8 b8 a7 f9 g0 a9 2 5 == true then
 true
 else !ab1 f8 b8 a7 f9 g0 a9 5 2 true 1 false
def R4 (f8 : Nat → Int) (b8 a7 : Int) (f9 : Bool) (g0 : Nat → Int) (a9 : Int) (a1 a2 : Bool) : Bool :=
 bif
 bif iEq (g9 (F1 f8 b8 a7 f9 g0 a9 a1 a2) 10 1) 0 then true
 else !o7 f8 b8 a7 f9 g0 a9 18 10 == false then
 true
 else !ab1 f8 b8 a7 f9 g0 a9 10 18 false 1 false
def R2 (f8 : Nat → Int) (b8 a7 : Int) (f9 : Bool) (g0 : Nat → Int) (a9 : Int) (a1 a2 : Bool) : Bool :=
 bif
 bif iEq (g9 (F1 f8 b8 a7 f9 g0 a9 a1 a2) 6 1) 0 then true
 else !o7 f8 b8 a7 f9 g0 a9 18 6 == false then
 true
 else !ab1 f8 b8 a7 f9 g0 a9 6 18 false 1 false
def R6 (f8 : Nat → Int) (b8 a7 : Int) (f9 : Bool) (g0 : Nat → Int) (a9 : Int) (a1 a2 : Bool) : Bool :=
 bif
 bif iEq (g9 (F1 f8 b8 a7 f9 g0 a9 a1 a2) 10 1) 0 then true
 else !o7 f8 b8 a7 f9 g0 a9 18 10 == true then
 true
 else !ab1 f8 b8 a7 f9 g0 a9 10 18 true 1 true
def R3 (f8 : Nat → Int) (b8 a7 : Int) (f9 : Bool) (g0 : Nat → Int) (a9 : Int) (a1 a2 : Bool) : Bool :=
 bif
 bif iEq (g9 (F1 f8 b8 a7 f9 g0 a9 a1 a2) 6 1) 0 then true
 else !o7 f8 b8 a7 f9 g0 a9 18 6 == true then
 true
 else !ab1 f8 b8 a7 f9 g0 a9 6 18 true 1 true
def H4 (f8 : Nat → Int) (b8 a7 : Int) (f9 : Bool) (g0 : Nat → Int) (a9 : Int) (a1 a2 : Bool) : Int :=
 bif Q9 f8 b8 a7 f9 g0 a9 a1 a2 then
 bif R1 f8 b8 a7 f9 g0 a9 a1 a2 then
 bif R5 f8 b8 a7 f9 g0 a9 a1 a2 then
 bif Q8 f8 b8 a7 f9 g0 a9 a1 a2 then
 bif R4 f8 b8 a7 f9 g0 a9 a1 a2 then
 bif R2 f8 b8 a7 f9 g0 a9 a1 a2 then
 bif R6 f8 b8 a7 f9 g0 a9 a1 a2 then bif R3 f8 b8 a7 f9 g0 a9 a1 a2 then 0 else 9223372036854775813
 else 9223372036854775817
 else 9223372036854775814
 else 9223372036854775818
 else 9223372036854775813
 else 9223372036854775817
 else 9223372036854775813
 else 9223372036854775817
def S2 (f8 : Nat → Int) (b8 a7 : Int) (f9 : Bool) (g0 : Nat → Int) (a9 : Int) (a1 a2 : Bool) : Int :=
 bif Q9 f8 b8 a7 f9 g0 a9 a1 a2 then
 bif R1 f8 b8 a7 f9 g0 a9 a1 a2 then
 bif R5 f8 b8 a7 f9 g0 a9 a1 a2 then
 bif Q8 f8 b8 a7 f9 g0 a9 a1 a2 then
 bif R4 f8 b8 a7 f9 g0 a9 a1 a2 then
 bif R2 f8 b8 a7 f9 g0 a9 a1 a2 then
 bif R6 f8 b8 a7 f9 g0 a9 a1 a2 then bif R3 f8 b8 a7 f9 g0 a9 a1 a2 then 0 else 1 else 1
 else 1
 else 1
 else 1
 else 1
 else 3
 else 3
def S3 (f8 : Nat → Int) (b8 a7 : Int) (f9 : Bool) (g0 : Nat → Int) (a9 : Int) (a1 a2 : Bool) : Bool :=
 bif Q9 f8 b8 a7 f9 g0 a9 a1 a2 then
 bif R1 f8 b8 a7 f9 g0 a9 a1 a2 then
 bif R5 f8 b8 a7 f9 g0 a9 a1 a2 then
 bif Q8 f8 b8 a7 f9 g0 a9 a1 a2 then
 bif R4 f8 b8 a7 f9 g0 a9 a1 a2 then
 bif R2 f8 b8 a7 f9 g0 a9 a1 a2 then
 bif R6 f8 b8 a7 f9 g0 a9 a1 a2 then bif R3 f8 b8 a7 f9 g0 a9 a1 a2 then false else true else true
 else false
 else false
 else false
 else false
 else false
 else false
def r4 (f8 : Nat → Int) (b8 a7 : Int) (f9 : Bool) (g0 : Nat → Int) (a9 : Int) (a1 a2 : Bool) : Bool :=
 bif Q9 f8 b8 a7 f9 g0 a9 a1 a2 then
 bif R1 f8 b8 a7 f9 g0 a9 a1 a2 then
 bif R5 f8 b8 a7 f9 g0 a9 a1 a2 then
 bif Q8 f8 b8 a7 f9 g0 a9 a1 a2 then
 bif R4 f8 b8 a7 f9 g0 a9 a1 a2 then
 bif R2 f8 b8 a7 f9 g0 a9 a1 a2 then
 bif R6 f8 b8 a7 f9 g0 a9 a1 a2 then bif R3 f8 b8 a7 f9 g0 a9 a1 a2 then false else true else true
 else true
 else true
 else true
 else true
 else true
 else true
def aD4 (f8 : Nat → Int) (b8 a7 : Int) (f9 : Bool) (g0 : Nat → Int) (a9 : Int) (a1 a2 : Bool) : Bool :=
 (!!iEq (g9 (F1 f8 b8 a7 f9 g0 a9 a1 a2) 9 1) 0 ||
 D3 f8 b8 a7 f9 g0 a9 2 9) &&
 bif Q9 f8 b8 a7 f9 g0 a9 a1 a2 then
 (!!iEq (g9 (F1 f8 b8 a7 f9 g0 a9 a1 a2) 5 1) 0 ||
 D3 f8 b8 a7 f9 g0 a9 2 5) &&
 bif R1 f8 b8 a7 f9 g0 a9 a1 a2 then
 (!!iEq (g9 (F1 f8 b8 a7 f9 g0 a9 a1 a2) 9 1) 0 ||
 D3 f8 b8 a7 f9 g0 a9 2 9) &&
 bif R5 f8 b8 a7 f9 g0 a9 a1 a2 then
 (!!iEq (g9 (F1 f8 b8 a7 f9 g0 a9 a1 a2) 5 1) 0 ||
 D3 f8 b8 a7 f9 g0 a9 2 5) &&
 bif Q8 f8 b8 a7 f9 g0 a9 a1 a2 then
 (!!iEq (g9 (F1 f8 b8 a7 f9 g0 a9 a1 a2) 10 1) 0 ||
 D3 f8 b8 a7 f9 g0 a9 18 10) &&
 bif R4 f8 b8 a7 f9 g0 a9 a1 a2 then
 (!!iEq (g9 (F1 f8 b8 a7 f9 g0 a9 a1 a2) 6 1) 0 ||
 D3 f8 b8 a7 f9 g0 a9 18 6) &&
 bif R2 f8 b8 a7 f9 g0 a9 a1 a2 then
 (!!iEq (g9 (F1 f8 b8 a7 f9 g0 a9 a1 a2) 10 1) 0 ||
 D3 f8 b8 a7 f9 g0 a9 18 10) &&
 bif R6 f8 b8 a7 f9 g0 a9 a1 a2 then
 (!!iEq (g9 (F1 f8 b8 a7 f9 g0 a9 a1 a2) 6 1) 0 ||
 D3 f8 b8 a7 f9 g0 a9 18 6) &&
 bif R3 f8 b8 a7 f9 g0 a9 a1 a2 then true else true
 else true
 else true
 else true
 else true
 else true
 else true
 else true
def aD5 (f8 : Nat → Int) (b8 a7 : Int) (f9 : Bool) (g0 : Nat → Int) (a9 : Int) (a1 a2 : Bool) : AV := .tup [.it .u64 (H4 f8 b8 a7 f9 g0 a9 a1 a2), .it .i64 (S2 f8 b8 a7 f9 g0 a9 a1 a2), .bl (S3 f8 b8 a7 f9 g0 a9 a1 a2), .bl (r4 f8 b8 a7 f9 g0 a9 a1 a2)]
def route_InterruptA (g : Nat → AV) : AV := aD5 (fun i0 => (((g 0).fld 0).ix i0).num) (((g 0).fld 1).num) (((g 0).fld 2).num) (((g 0).fld 3).bool) (fun i0 => (((g 0).fld 4).ix i0).num) (((g 0).fld 5).num) ((g 1).bool) ((g 2).bool)
def route_InterruptB (g : Nat → AV) : Bool := aD4 (fun i0 => (((g 0).fld 0).ix i0).num) (((g 0).fld 1).num) (((g 0).fld 2).num) (((g 0).fld 3).bool) (fun i0 => (((g 0).fld 4).ix i0).num) (((g 0).fld 5).num) ((g 1).bool) ((g 2).bool)
theorem bV4 (g : Nat → AV) : pO T136 100 false Tryz.f78 (r7 [sh0Q, .bool, .bool] 0 g) = some (route_InterruptB g, route_InterruptA g) := by kernel_rfl
theorem bV2 : Plain Tryz.prog 78 Tryz.f78 := ⟨Tryz.func78, of_decide_eq_true (by kernel_rfl)⟩
theorem bU1 (f8 : Nat → Int) (b8 a7 : Int) (f9 : Bool) (g0 : Nat → Int) (a9 : Int) (a1 a2 : Bool) : aD4 f8 b8 a7 f9 g0 a9 a1 a2 = true := by simp [aD4, D3, Go.Ev.iIn]
def row78Q : List AV → Option (Option Bool × AV) := rowF [sh0Q, .bool, .bool] none route_InterruptA
theorem bU4 : D1 Tryz.prog 78 row78Q := s3 fun g => p6 mix A7 dk8 (o9 mix A7 dk8 D5 (fun _ h => o5 p8 h) 8) bV2 (fun c _ => m7 c) (bV4 g) (bU1 ..)
def T78 : List Row := (78, row78Q) :: T136
theorem T78_ok : r0 Tryz.prog (m5 T78) := m8 bU4 dk8
def ad5 (f8 : Nat → Int) (b8 a7 : Int) (f9 : Bool) (g0 : Nat → Int) (a9 a1 a2 : Int) : Bool :=
 bif iLe a2 63 then iEq (g9 (g0 a1.toNat) (g8 .i64 a2) 1) 1 else false
def aG6 (f8 : Nat → Int) (b8 a7 : Int) (f9 : Bool) (g0 : Nat → Int) (a9 a1 a2 : Int) : Bool :=
 (!iLe a2 63 || iIn a1 29) && true
def bP1 (f8 : Nat → Int) (b8 a7 : Int) (f9 : Bool) (g0 : Nat → Int) (a9 a1 a2 : Int) : AV := .bl (ad5 f8 b8 a7 f9 g0 a9 a1 a2)
def route_hasA (g : Nat → AV) : AV := bP1 (fun i0 => (((g 0).fld 0).ix i0).num) (((g 0).fld 1).num) (((g 0).fld 2).num) (((g 0).fld 3).bool) (fun i0 => (((g 0).fld 4).ix i0).num) (((g 0).fld 5).num) ((g 1).num) ((g 2).num)
def route_hasB (g : Nat → AV) : Bool := aG6 (fun i0 => (((g 0).fld 0).ix i0).num) (((g 0).fld 1).num) (((g 0).fld 2).num) (((g 0).fld 3).bool) (fun i0 => (((g 0).fld 4).ix i0).num) (((g 0).fld 5).num) ((g 1).num) ((g 2).num)
theorem dX9 (g : Nat → AV) : pO T78 100 false Tryz.f194 (r7 [sh0Q, (.int .i64), (.int .u64)] 0 g) = some (route_hasB g, route_hasA g) := by kernel_rfl
theorem dW3 : Plain Tryz.prog 194 Tryz.f194 := ⟨Tryz.func194, of_decide_eq_true (by kernel_rfl)⟩
def row194Q : List AV → Option (Option Bool × AV) := rowF [sh0Q, (.int .i64), (.int .u64)] (some fun g => route_hasB g) route_hasA
theorem dK2 : D1 Tryz.prog 194 row194Q := R9 fun g hg => p6 mix A7 T78_ok (o9 mix A7 T78_ok D5 (fun _ h => o5 p8 h) 8) dW3 (fun c _ => m7 c) (dX9 g) hg
def T194 : List Row := (194, row194Q) :: T78
theorem dd4 : r0 Tryz.prog (m5 T194) := m8 dK2 T78_ok
def J3 (f8 : Nat → Int) (b8 a7 : Int) (f9 : Bool) (g0 : Nat → Int) (a9 a1 : Int) : Int :=
 bif bif iEq a7 3 then true else !ad5 f8 b8 a7 f9 g0 a9 1 a1 then 3 else 1
def ax4 (f8 : Nat → Int) (b8 a7 : Int) (f9 : Bool) (g0 : Nat → Int) (a9 a1 : Int) : Int :=
 bif bif iEq a7 3 then true else !ad5 f8 b8 a7 f9 g0 a9 1 a1 then 3
 else bif bif f9 then ad5 f8 b8 a7 f9 g0 a9 17 a1 else false then 1 else 1
def N8 (f8 : Nat → Int) (b8 a7 : Int) (f9 : Bool) (g0 : Nat → Int) (a9 a1 : Int) : Bool :=
 bif bif iEq a7 3 then true else !ad5 f8 b8 a7 f9 g0 a9 1 a1 then false
 else bif f9 then ad5 f8 b8 a7 f9 g0 a9 17 a1 else false
def ay8 (f8 : Nat → Int) (b8 a7 : Int) (f9 : Bool) (g0 : Nat → Int) (a9 a1 : Int) : Bool :=
 bif bif iEq a7 3 then true else !ad5 f8 b8 a7 f9 g0 a9 1 a1 then false
 else bif bif f9 then ad5 f8 b8 a7 f9 g0 a9 17 a1 else false then true else false
def an7 (f8 : Nat → Int) (b8 a7 : Int) (f9 : Bool) (g0 : Nat → Int) (a9 a1 : Int) : Bool :=
 (!!iEq a7 3 || aG6 f8 b8 a7 f9 g0 a9 1 a1) &&
 bif bif iEq a7 3 then true else !ad5 f8 b8 a7 f9 g0 a9 1 a1 then true
 else
 (!f9 || aG6 f8 b8 a7 f9 g0 a9 17 a1) &&
 bif bif f9 then ad5 f8 b8 a7 f9 g0 a9 17 a1 else false then true else true
theorem bw8 (f8 : Nat → Int) (b8 a7 : Int) (f9 : Bool) (g0 : Nat → Int) (a9 a1 : Int)  : ax4 f8 b8 a7 f9 g0 a9 a1  = J3 f8 b8 a7 f9 g0 a9 a1  := by
  unfold ax4
  first | (simp only [cS1, cS2, cS3, cS4, cS6, cS7]; done) | (simp only [cS1, cS2, cS3, cS4, cS6, cS7]; kernel_rfl)
theorem by9 (f8 : Nat → Int) (b8 a7 : Int) (f9 : Bool) (g0 : Nat → Int) (a9 a1 : Int)  : ay8 f8 b8 a7 f9 g0 a9 a1  = N8 f8 b8 a7 f9 g0 a9 a1  := by
  unfold ay8
  first | (simp only [cS1, cS2, cS3, cS4, cS6, cS7]; done) | (simp only [cS1, cS2, cS3, cS4, cS6, cS7]; kernel_rfl)
def ad1 (f8 : Nat → Int) (b8 a7 : Int) (f9 : Bool) (g0 : Nat → Int) (a9 a1 : Int) : AV := .tup [.it .i64 (J3 f8 b8 a7 f9 g0 a9 a1), .bl (N8 f8 b8 a7 f9 g0 a9 a1)]
def ay6 (f8 : Nat → Int) (b8 a7 : Int) (f9 : Bool) (g0 : Nat → Int) (a9 a1 : Int) : AV := .tup [.it .i64 (ax4 f8 b8 a7 f9 g0 a9 a1), .bl (ay8 f8 b8 a7 f9 g0 a9 a1)]
theorem by8 (f8 : Nat → Int) (b8 a7 : Int) (f9 : Bool) (g0 : Nat → Int) (a9 a1 : Int) : ay6 f8 b8 a7 f9 g0 a9 a1 = ad1 f8 b8 a7 f9 g0 a9 a1 := by
  unfold ay6 ad1
  simp only [bw8, by9]
def route_ExceptionA (g : Nat → AV) : AV := ad1 (fun i0 => (((g 0).fld 0).ix i0).num) (((g 0).fld 1).num) (((g 0).fld 2).num) (((g 0).fld 3).bool) (fun i0 => (((g 0).fld 4).ix i0).num) (((g 0).fld 5).num) ((g 1).num)
def route_ExceptionB (g : Nat → AV) : Bool := an7 (fun i0 => (((g 0).fld 0).ix i0).num) (((g 0).fld 1).num) (((g 0).fld 2).num) (((g 0).fld 3).bool) (fun i0 => (((g 0).fld 4).ix i0).num) (((g 0).fld 5).num) ((g 1).num)
theorem bT4 (g : Nat → AV) : pO T194 100 false Tryz.f139 (r7 [sh0Q, (.int .u64)] 0 g) = some (route_ExceptionB g, route_ExceptionA g) := (by kernel_rfl : _ = some (route_ExceptionB g, ay6 (fun i0 => (((g 0).fld 0).ix i0).num) (((g 0).fld 1).num) (((g 0).fld 2).num) (((g 0).fld 3).bool) (fun i0 => (((g 0).fld 4).ix i0).num) (((g 0).fld 5).num) ((g 1).num))).trans (by rw [by8]; rfl)
theorem bW9 : Plain Tryz.prog 139 Tryz.f139 := ⟨Tryz.func139, of_decide_eq_true (by kernel_rfl)⟩
theorem bW8 (f8 : Nat → Int) (b8 a7 : Int) (f9 : Bool) (g0 : Nat → Int) (a9 a1 : Int) : an7 f8 b8 a7 f9 g0 a9 a1 = true := by simp [an7, aG6, Go.Ev.iIn]
def row139Q : List AV → Option (Option Bool × AV) := rowF [sh0Q, (.int .u64)] none route_ExceptionA
theorem bU9 : D1 Tryz.prog 139 row139Q := s3 fun g => p6 mix A7 dd4 (o9 mix A7 dd4 D5 (fun _ h => o5 p8 h) 8) bW9 (fun c _ => m7 c) (bT4 g) (bW8 ..)
def T139 : List Row := (139, row139Q) :: T194
theorem dp3 : r0 Tryz.prog (m5 T139) := m8 bU9 dd4
def P3 (a0 : Int) : Int :=
 g8 .i64 (g9 (g8 .u64 a0) 7 5)
def N3 (a0 : Int) : Int :=
 g8 .i64 (g9 (g8 .u64 a0) 12 3)
def P0 (a0 : Int) : Int :=
 g8 .i64 (g9 (g8 .u64 a0) 15 5)
def P5 (a0 : Int) : Int :=
 g8 .i64 (g9 (g8 .u64 a0) 20 5)
def P1 (a0 : Int) : Int :=
 g8 .i64 (g9 (g8 .u64 a0) 25 7)
def cv2 (a0 : Int) : Bool :=
 true
def bL9 (a0 : Int) : AV := .agg [.it .u32 a0, .it .i64 (P3 a0), .it .i64 (N3 a0), .it .i64 (P0 a0), .it .i64 (P5 a0), .it .i64 (P1 a0)]
def decode_ofA (g : Nat → AV) : AV := bL9 ((g 0).num)
def decode_ofB (g : Nat → AV) : Bool := cv2 ((g 0).num)
theorem dV7 (g : Nat → AV) : pO T139 100 false Tryz.f195 (r7 [(.int .u32)] 0 g) = some (decode_ofB g, decode_ofA g) := by kernel_rfl
theorem dW0 : Plain Tryz.prog 195 Tryz.f195 := ⟨Tryz.func195, of_decide_eq_true (by kernel_rfl)⟩
theorem dN6 (a0 : Int) : cv2 a0 = true := rfl
def row195Q : List AV → Option (Option Bool × AV) := rowF [(.int .u32)] none decode_ofA
theorem dS0 : D1 Tryz.prog 195 row195Q := s3 fun g => p6 mix A7 dp3 (o9 mix A7 dp3 D5 (fun _ h => o5 p8 h) 8) dW0 (fun c _ => m7 c) (dV7 g) (dN6 ..)
def T195 : List Row := (195, row195Q) :: T139
theorem df9 : r0 Tryz.prog (m5 T195) := m8 dS0 dp3
theorem of1_in (w : Int) : iIn (N3 w) 8 = true := by
  have hm : ap4 (T6 12 3) = 7 := by decide +kernel
  show iIn (g8 .i64 (g9 (g8 .u64 w) 12 3)) 8 = true
  unfold g9
  rw [hm]
  generalize iShr IntKind.u64 (g8 IntKind.u64 w) (P4 12 3) = x
  unfold iAnd
  have h : (BitVec.ofInt IntKind.u64.bits x &&& BitVec.ofInt IntKind.u64.bits 7).toNat ≤ 7 := by
    rw [BitVec.toNat_and]
    exact Nat.and_le_right
  rw [wrapU (by omega) (by omega), V8]
  unfold g8
  rw [dP9 (by omega) (by omega)]
  omega
def b9 (a0 : Int) : Int :=
 g8 .i64 (g9 (g8 .u64 a0) 0 7)
def bt0 (a0 : Int) : Bool :=
 true
def aN6 (a0 : Int) : AV := .it .i64 (b9 a0)
def decode_OpcodeA (g : Nat → AV) : AV := aN6 ((g 0).num)
def decode_OpcodeB (g : Nat → AV) : Bool := bt0 ((g 0).num)
theorem ct2 (g : Nat → AV) : pO T195 100 false Tryz.f259 (r7 [(.int .u32)] 0 g) = some (decode_OpcodeB g, decode_OpcodeA g) := by kernel_rfl
theorem cp5 : Plain Tryz.prog 259 Tryz.f259 := ⟨Tryz.func259, of_decide_eq_true (by kernel_rfl)⟩
theorem co9 (a0 : Int) : bt0 a0 = true := rfl
def row259Q : List AV → Option (Option Bool × AV) := rowF [(.int .u32)] none decode_OpcodeA
theorem cp3 : D1 Tryz.prog 259 row259Q := s3 fun g => p6 mix A7 df9 (o9 mix A7 df9 D5 (fun _ h => o5 p8 h) 8) cp5 (fun c _ => m7 c) (ct2 g) (co9 ..)
def T259 : List Row := (259, row259Q) :: T195
theorem dz2 : r0 Tryz.prog (m5 T259) := m8 cp3 df9
def G6 (n6 m6 l4 f6 f5 l9 a1 : Int) : Int :=
 g8 .i64 (E1 (iShl .u64 (iOr .u64 0 (g9 (g8 .u64 n6) 20 12)) 0) 12)
def aq4 (n6 m6 l4 f6 f5 l9 a1 : Int) : Bool :=
 true
def Z5 (n6 m6 l4 f6 f5 l9 a1 : Int) : AV := .agg [.it .i64 a1, .it .i64 (m6), .it .i64 (f6), .it .i64 0, .it .i64 (G6 n6 m6 l4 f6 f5 l9 a1), .it .i64 0]
def decode_parts__immediateA (g : Nat → AV) : AV := Z5 (((g 0).fld 0).num) (((g 0).fld 1).num) (((g 0).fld 2).num) (((g 0).fld 3).num) (((g 0).fld 4).num) (((g 0).fld 5).num) ((g 1).num)
def decode_parts__immediateB (g : Nat → AV) : Bool := aq4 (((g 0).fld 0).num) (((g 0).fld 1).num) (((g 0).fld 2).num) (((g 0).fld 3).num) (((g 0).fld 4).num) (((g 0).fld 5).num) ((g 1).num)
theorem aQ5 (g : Nat → AV) : pO T259 100 false Tryz.f261 (r7 [sh2Q, (.int .i64)] 0 g) = some (decode_parts__immediateB g, decode_parts__immediateA g) := by kernel_rfl
theorem aQ1 : Plain Tryz.prog 261 Tryz.f261 := ⟨Tryz.func261, of_decide_eq_true (by kernel_rfl)⟩
theorem aT1 (n6 m6 l4 f6 f5 l9 a1 : Int) : aq4 n6 m6 l4 f6 f5 l9 a1 = true := rfl
def row261Q : List AV → Option (Option Bool × AV) := rowF [sh2Q, (.int .i64)] none decode_parts__immediateA
theorem aP9 : D1 Tryz.prog 261 row261Q := s3 fun g => p6 mix A7 dz2 (o9 mix A7 dz2 D5 (fun _ h => o5 p8 h) 8) aQ1 (fun c _ => m7 c) (aQ5 g) (aT1 ..)
def T261 : List Row := (261, row261Q) :: T259
theorem dx2 : r0 Tryz.prog (m5 T261) := m8 aP9 dz2
def B4 (n6 m6 l4 f6 f5 l9 : Int) : Int :=
 bif l4.toNat == 5 then 33 else bif l4.toNat == 1 then 32 else bif l4.toNat == 0 then 31 else 0
def C8 (n6 m6 l4 f6 f5 l9 : Int) : Bool :=
 bif iEq (B4 n6 m6 l4 f6 f5 l9) 0 then true else bif iNe l4 1 then iNe l4 5 else false
def G7 (n6 m6 l4 f6 f5 l9 : Int) : Bool :=
 bif iEq (b9 n6) 19 then
 bif bif iEq (iShl .u64 (g9 (g8 .u64 n6) 26 6) 6) 1024 then iEq l4 5 else false then true
 else bif iNe (iShl .u64 (g9 (g8 .u64 n6) 26 6) 6) 0 then true else true
 else
 bif bif iEq (iShl .u64 (g9 (g8 .u64 n6) 25 7) 5) 1024 then iEq l4 5 else false then true
 else bif iNe (iShl .u64 (g9 (g8 .u64 n6) 25 7) 5) 0 then true else true
def B3 (n6 m6 l4 f6 f5 l9 : Int) : Int :=
 bif l4.toNat == 7 then 27
 else
 bif l4.toNat == 6 then 26
 else
 bif l4.toNat == 5 then 29
 else bif l4.toNat == 4 then 25 else bif l4.toNat == 3 then 24 else bif l4.toNat == 2 then 23 else bif l4.toNat == 1 then 28 else bif l4.toNat == 0 then 22 else 0
def C9 (n6 m6 l4 f6 f5 l9 : Int) : Bool :=
 bif iEq (B3 n6 m6 l4 f6 f5 l9) 0 then true else bif iNe l4 1 then iNe l4 5 else false
def I4 (n6 m6 l4 f6 f5 l9 : Int) : Int :=
 bif iEq (B4 n6 m6 l4 f6 f5 l9) 29 then 30 else bif iEq (B4 n6 m6 l4 f6 f5 l9) 33 then 34 else 0
def I7 (n6 m6 l4 f6 f5 l9 : Int) : Int :=
 bif iEq (B3 n6 m6 l4 f6 f5 l9) 29 then 30 else bif iEq (B3 n6 m6 l4 f6 f5 l9) 33 then 34 else 0
def I6 (n6 m6 l4 f6 f5 l9 : Int) : Int :=
 bif iEq (b9 n6) 19 then
 bif bif iEq (iShl .u64 (g9 (g8 .u64 n6) 26 6) 6) 1024 then iEq l4 5 else false then m6
 else bif iNe (iShl .u64 (g9 (g8 .u64 n6) 26 6) 6) 0 then 0 else m6
 else
 bif bif iEq (iShl .u64 (g9 (g8 .u64 n6) 25 7) 5) 1024 then iEq l4 5 else false then m6
 else bif iNe (iShl .u64 (g9 (g8 .u64 n6) 25 7) 5) 0 then 0 else m6
def I8 (n6 m6 l4 f6 f5 l9 : Int) : Int :=
 bif iEq (b9 n6) 19 then
 bif bif iEq (iShl .u64 (g9 (g8 .u64 n6) 26 6) 6) 1024 then iEq l4 5 else false then f6
 else bif iNe (iShl .u64 (g9 (g8 .u64 n6) 26 6) 6) 0 then 0 else f6
 else
 bif bif iEq (iShl .u64 (g9 (g8 .u64 n6) 25 7) 5) 1024 then iEq l4 5 else false then f6
 else bif iNe (iShl .u64 (g9 (g8 .u64 n6) 25 7) 5) 0 then 0 else f6
def I9 (n6 m6 l4 f6 f5 l9 : Int) : Int :=
 bif iEq (b9 n6) 19 then
 bif bif iEq (iShl .u64 (g9 (g8 .u64 n6) 26 6) 6) 1024 then iEq l4 5 else false then 0
 else bif iNe (iShl .u64 (g9 (g8 .u64 n6) 26 6) 6) 0 then 0 else 0
 else
 bif bif iEq (iShl .u64 (g9 (g8 .u64 n6) 25 7) 5) 1024 then iEq l4 5 else false then 0
 else bif iNe (iShl .u64 (g9 (g8 .u64 n6) 25 7) 5) 0 then 0 else 0
def I0 (n6 m6 l4 f6 f5 l9 : Int) : Int :=
 bif !iEq (b9 n6) 19 then bif C8 n6 m6 l4 f6 f5 l9 then 0 else I9 n6 m6 l4 f6 f5 l9
 else bif C9 n6 m6 l4 f6 f5 l9 then 0 else I9 n6 m6 l4 f6 f5 l9
def H9 (n6 m6 l4 f6 f5 l9 : Int) : Int :=
 bif iEq (b9 n6) 19 then
 bif bif iEq (iShl .u64 (g9 (g8 .u64 n6) 26 6) 6) 1024 then iEq l4 5 else false then g8 .i64 (g9 (g8 .u64 n6) 20 6)
 else bif iNe (iShl .u64 (g9 (g8 .u64 n6) 26 6) 6) 0 then 0 else g8 .i64 (g9 (g8 .u64 n6) 20 6)
 else
 bif bif iEq (iShl .u64 (g9 (g8 .u64 n6) 25 7) 5) 1024 then iEq l4 5 else false then g8 .i64 (g9 (g8 .u64 n6) 20 5)
 else bif iNe (iShl .u64 (g9 (g8 .u64 n6) 25 7) 5) 0 then 0 else g8 .i64 (g9 (g8 .u64 n6) 20 5)
def H8 (n6 m6 l4 f6 f5 l9 : Int) : Bool :=
 bif iEq (b9 n6) 19 then
 bif bif iEq (iShl .u64 (g9 (g8 .u64 n6) 26 6) 6) 1024 then iEq l4 5 else false then true
 else bif iNe (iShl .u64 (g9 (g8 .u64 n6) 26 6) 6) 0 then false else true
 else
 bif bif iEq (iShl .u64 (g9 (g8 .u64 n6) 25 7) 5) 1024 then iEq l4 5 else false then true
 else bif iNe (iShl .u64 (g9 (g8 .u64 n6) 25 7) 5) 0 then false else true
def K3 (n6 m6 l4 f6 f5 l9 : Int) : Int :=
 bif !iEq (b9 n6) 19 then
 bif C8 n6 m6 l4 f6 f5 l9 then B4 n6 m6 l4 f6 f5 l9
 else
 bif iEq (b9 n6) 19 then
 bif bif iEq (iShl .u64 (g9 (g8 .u64 n6) 26 6) 6) 1024 then iEq l4 5 else false then I4 n6 m6 l4 f6 f5 l9
 else bif iNe (iShl .u64 (g9 (g8 .u64 n6) 26 6) 6) 0 then 0 else B4 n6 m6 l4 f6 f5 l9
 else
 bif bif iEq (iShl .u64 (g9 (g8 .u64 n6) 25 7) 5) 1024 then iEq l4 5 else false then I4 n6 m6 l4 f6 f5 l9
 else bif iNe (iShl .u64 (g9 (g8 .u64 n6) 25 7) 5) 0 then 0 else B4 n6 m6 l4 f6 f5 l9
 else
 bif C9 n6 m6 l4 f6 f5 l9 then B3 n6 m6 l4 f6 f5 l9
 else
 bif iEq (b9 n6) 19 then
 bif bif iEq (iShl .u64 (g9 (g8 .u64 n6) 26 6) 6) 1024 then iEq l4 5 else false then I7 n6 m6 l4 f6 f5 l9
 else bif iNe (iShl .u64 (g9 (g8 .u64 n6) 26 6) 6) 0 then 0 else B3 n6 m6 l4 f6 f5 l9
 else
 bif bif iEq (iShl .u64 (g9 (g8 .u64 n6) 25 7) 5) 1024 then iEq l4 5 else false then I7 n6 m6 l4 f6 f5 l9
 else bif iNe (iShl .u64 (g9 (g8 .u64 n6) 25 7) 5) 0 then 0 else B3 n6 m6 l4 f6 f5 l9
def K6 (n6 m6 l4 f6 f5 l9 : Int) : Int :=
 bif !iEq (b9 n6) 19 then bif C8 n6 m6 l4 f6 f5 l9 then m6 else I6 n6 m6 l4 f6 f5 l9
 else bif C9 n6 m6 l4 f6 f5 l9 then m6 else I6 n6 m6 l4 f6 f5 l9
def K1 (n6 m6 l4 f6 f5 l9 : Int) : Int :=
 bif !iEq (b9 n6) 19 then bif C8 n6 m6 l4 f6 f5 l9 then f6 else I8 n6 m6 l4 f6 f5 l9
 else bif C9 n6 m6 l4 f6 f5 l9 then f6 else I8 n6 m6 l4 f6 f5 l9
def ab8 (n6 m6 l4 f6 f5 l9 : Int) : Int :=
 I0 n6 m6 l4 f6 f5 l9
def K2 (n6 m6 l4 f6 f5 l9 : Int) : Int :=
 bif !iEq (b9 n6) 19 then
 bif C8 n6 m6 l4 f6 f5 l9 then G6 n6 m6 l4 f6 f5 l9 (B4 n6 m6 l4 f6 f5 l9)
 else H9 n6 m6 l4 f6 f5 l9
 else
 bif C9 n6 m6 l4 f6 f5 l9 then G6 n6 m6 l4 f6 f5 l9 (B3 n6 m6 l4 f6 f5 l9)
 else H9 n6 m6 l4 f6 f5 l9
def ac0 (n6 m6 l4 f6 f5 l9 : Int) : Int :=
 I0 n6 m6 l4 f6 f5 l9
def K5 (n6 m6 l4 f6 f5 l9 : Int) : Bool :=
 bif !iEq (b9 n6) 19 then
 bif C8 n6 m6 l4 f6 f5 l9 then iNe (B4 n6 m6 l4 f6 f5 l9) 0
 else H8 n6 m6 l4 f6 f5 l9
 else
 bif C9 n6 m6 l4 f6 f5 l9 then iNe (B3 n6 m6 l4 f6 f5 l9) 0
 else H8 n6 m6 l4 f6 f5 l9
def G4 (n6 m6 l4 f6 f5 l9 : Int) : Bool :=
 iIn l4 8 &&
 bif !iEq (b9 n6) 19 then iIn l4 8 && bif C8 n6 m6 l4 f6 f5 l9 then true else G7 n6 m6 l4 f6 f5 l9
 else bif C9 n6 m6 l4 f6 f5 l9 then true else G7 n6 m6 l4 f6 f5 l9
theorem aN4 (n6 m6 l4 f6 f5 l9 : Int)  : ab8 n6 m6 l4 f6 f5 l9  = 0 := by
  unfold ab8
  first | (simp only [B4, C8, G7, B3, C9, I4, I7, I6, I8, I9, I0, H9, H8, cS1, cS2, cS3, cS4, cS6, cS7]; done) | (simp only [B4, C8, G7, B3, C9, I4, I7, I6, I8, I9, I0, H9, H8, cS1, cS2, cS3, cS4, cS6, cS7]; kernel_rfl)
theorem aL5 (n6 m6 l4 f6 f5 l9 : Int)  : ac0 n6 m6 l4 f6 f5 l9  = 0 := by
  unfold ac0
  first | (simp only [B4, C8, G7, B3, C9, I4, I7, I6, I8, I9, I0, H9, H8, cS1, cS2, cS3, cS4, cS6, cS7]; done) | (simp only [B4, C8, G7, B3, C9, I4, I7, I6, I8, I9, I0, H9, H8, cS1, cS2, cS3, cS4, cS6, cS7]; kernel_rfl)
def O8 (n6 m6 l4 f6 f5 l9 : Int) : AV := .tup [.agg [.it .i64 (K3 n6 m6 l4 f6 f5 l9), .it .i64 (K6 n6 m6 l4 f6 f5 l9), .it .i64 (K1 n6 m6 l4 f6 f5 l9), .it .i64 0, .it .i64 (K2 n6 m6 l4 f6 f5 l9), .it .i64 0], .bl (K5 n6 m6 l4 f6 f5 l9)]
def ac8 (n6 m6 l4 f6 f5 l9 : Int) : AV := .tup [.agg [.it .i64 (K3 n6 m6 l4 f6 f5 l9), .it .i64 (K6 n6 m6 l4 f6 f5 l9), .it .i64 (K1 n6 m6 l4 f6 f5 l9), .it .i64 (ab8 n6 m6 l4 f6 f5 l9), .it .i64 (K2 n6 m6 l4 f6 f5 l9), .it .i64 (ac0 n6 m6 l4 f6 f5 l9)], .bl (K5 n6 m6 l4 f6 f5 l9)]
theorem aN9 (n6 m6 l4 f6 f5 l9 : Int) : ac8 n6 m6 l4 f6 f5 l9 = O8 n6 m6 l4 f6 f5 l9 := by
  unfold ac8 O8
  simp only [aN4, aL5]
def decode_parts__reckonsA (g : Nat → AV) : AV := O8 (((g 0).fld 0).num) (((g 0).fld 1).num) (((g 0).fld 2).num) (((g 0).fld 3).num) (((g 0).fld 4).num) (((g 0).fld 5).num)
def decode_parts__reckonsB (g : Nat → AV) : Bool := G4 (((g 0).fld 0).num) (((g 0).fld 1).num) (((g 0).fld 2).num) (((g 0).fld 3).num) (((g 0).fld 4).num) (((g 0).fld 5).num)
theorem bb4 (g : Nat → AV) : pO T261 100 false Tryz.f262 (r7 [sh2Q] 0 g) = some (decode_parts__reckonsB g, decode_parts__reckonsA g) := (by kernel_rfl : _ = some (decode_parts__reckonsB g, ac8 (((g 0).fld 0).num) (((g 0).fld 1).num) (((g 0).fld 2).num) (((g 0).fld 3).num) (((g 0).fld 4).num) (((g 0).fld 5).num))).trans (by rw [aN9]; rfl)
theorem bb6 : Plain Tryz.prog 262 Tryz.f262 := ⟨Tryz.func262, of_decide_eq_true (by kernel_rfl)⟩
def row262Q : List AV → Option (Option Bool × AV) := rowF [sh2Q] (some fun g => decode_parts__reckonsB g) decode_parts__reckonsA
theorem bb8 : D1 Tryz.prog 262 row262Q := R9 fun g hg => p6 mix A7 dx2 (o9 mix A7 dx2 D5 (fun _ h => o5 p8 h) 8) bb6 (fun c _ => m7 c) (bb4 g) hg
def T262 : List Row := (262, row262Q) :: T261
theorem dk2 : r0 Tryz.prog (m5 T262) := m8 bb8 dx2
theorem reckons_g (n6 m6 l4 f6 f5 l9 : Int) (h : iIn l4 8 = true) : G4 n6 m6 l4 f6 f5 l9 = true := by
  unfold G4
  rw [h]
  simp only [G7, cS1, cS7, cS6]
def y7 (n6 m6 l4 f6 f5 l9 : Int) : Int :=
 bif l4.toNat == 7 then 44
 else
 bif l4.toNat == 6 then 43
 else
 bif l4.toNat == 5 then 41
 else bif l4.toNat == 4 then 40 else bif l4.toNat == 3 then 39 else bif l4.toNat == 2 then 38 else bif l4.toNat == 1 then 37 else bif l4.toNat == 0 then 35 else 0
def y9 (n6 m6 l4 f6 f5 l9 : Int) : Int :=
 bif l4.toNat == 5 then 48 else bif l4.toNat == 1 then 47 else bif l4.toNat == 0 then 45 else 0
def y8 (n6 m6 l4 f6 f5 l9 : Int) : Int :=
 bif bif iEq l9 0 then iEq (b9 n6) 51 else false then 0
 else bif iEq l9 0 then 0 else bif bif iEq l9 32 then iEq (b9 n6) 51 else false then 0 else bif iEq l9 32 then 0 else 0
def M1 (n6 m6 l4 f6 f5 l9 : Int) : Int :=
 bif bif iEq l9 0 then iEq (b9 n6) 51 else false then y7 n6 m6 l4 f6 f5 l9
 else
 bif iEq l9 0 then y9 n6 m6 l4 f6 f5 l9
 else
 bif bif iEq l9 32 then iEq (b9 n6) 51 else false then bif l4.toNat == 5 then 42 else bif l4.toNat == 0 then 36 else 0
 else bif iEq l9 32 then bif l4.toNat == 5 then 49 else bif l4.toNat == 0 then 46 else 0 else 0
def X4 (n6 m6 l4 f6 f5 l9 : Int) : Int :=
 bif bif iEq l9 0 then iEq (b9 n6) 51 else false then m6
 else bif iEq l9 0 then m6 else bif bif iEq l9 32 then iEq (b9 n6) 51 else false then m6 else bif iEq l9 32 then m6 else m6
def X9 (n6 m6 l4 f6 f5 l9 : Int) : Int :=
 bif bif iEq l9 0 then iEq (b9 n6) 51 else false then f6
 else bif iEq l9 0 then f6 else bif bif iEq l9 32 then iEq (b9 n6) 51 else false then f6 else bif iEq l9 32 then f6 else f6
def X8 (n6 m6 l4 f6 f5 l9 : Int) : Int :=
 bif bif iEq l9 0 then iEq (b9 n6) 51 else false then f5
 else bif iEq l9 0 then f5 else bif bif iEq l9 32 then iEq (b9 n6) 51 else false then f5 else bif iEq l9 32 then f5 else f5
def X7 (n6 m6 l4 f6 f5 l9 : Int) : Int :=
 y8 n6 m6 l4 f6 f5 l9
def X2 (n6 m6 l4 f6 f5 l9 : Int) : Int :=
 y8 n6 m6 l4 f6 f5 l9
def M2 (n6 m6 l4 f6 f5 l9 : Int) : Bool :=
 bif bif iEq l9 0 then iEq (b9 n6) 51 else false then iNe (y7 n6 m6 l4 f6 f5 l9) 0
 else
 bif iEq l9 0 then iNe (y9 n6 m6 l4 f6 f5 l9) 0
 else
 bif bif iEq l9 32 then iEq (b9 n6) 51 else false then iNe (bif l4.toNat == 5 then 42 else bif l4.toNat == 0 then 36 else 0) 0
 else bif iEq l9 32 then iNe (bif l4.toNat == 5 then 49 else bif l4.toNat == 0 then 46 else 0) 0 else false
def F4 (n6 m6 l4 f6 f5 l9 : Int) : Bool :=
 bif bif iEq l9 0 then iEq (b9 n6) 51 else false then iIn l4 8 && true
 else bif iEq l9 0 then iIn l4 8 && true else bif bif iEq l9 32 then iEq (b9 n6) 51 else false then iIn l4 8 && true else bif iEq l9 32 then iIn l4 8 && true else true
theorem aJ6 (n6 m6 l4 f6 f5 l9 : Int)  : X4 n6 m6 l4 f6 f5 l9  = m6 := by
  unfold X4
  first | (simp only [y7, y9, y8, cS1, cS2, cS3, cS4, cS6, cS7]; done) | (simp only [y7, y9, y8, cS1, cS2, cS3, cS4, cS6, cS7]; kernel_rfl)
theorem aH4 (n6 m6 l4 f6 f5 l9 : Int)  : X9 n6 m6 l4 f6 f5 l9  = f6 := by
  unfold X9
  first | (simp only [y7, y9, y8, cS1, cS2, cS3, cS4, cS6, cS7]; done) | (simp only [y7, y9, y8, cS1, cS2, cS3, cS4, cS6, cS7]; kernel_rfl)
theorem aH5 (n6 m6 l4 f6 f5 l9 : Int)  : X8 n6 m6 l4 f6 f5 l9  = f5 := by
  unfold X8
  first | (simp only [y7, y9, y8, cS1, cS2, cS3, cS4, cS6, cS7]; done) | (simp only [y7, y9, y8, cS1, cS2, cS3, cS4, cS6, cS7]; kernel_rfl)
theorem aJ9 (n6 m6 l4 f6 f5 l9 : Int)  : X7 n6 m6 l4 f6 f5 l9  = 0 := by
  unfold X7
  first | (simp only [y7, y9, y8, cS1, cS2, cS3, cS4, cS6, cS7]; done) | (simp only [y7, y9, y8, cS1, cS2, cS3, cS4, cS6, cS7]; kernel_rfl)
theorem aJ0 (n6 m6 l4 f6 f5 l9 : Int)  : X2 n6 m6 l4 f6 f5 l9  = 0 := by
  unfold X2
  first | (simp only [y7, y9, y8, cS1, cS2, cS3, cS4, cS6, cS7]; done) | (simp only [y7, y9, y8, cS1, cS2, cS3, cS4, cS6, cS7]; kernel_rfl)
def M4 (n6 m6 l4 f6 f5 l9 : Int) : AV := .tup [.agg [.it .i64 (M1 n6 m6 l4 f6 f5 l9), .it .i64 (m6), .it .i64 (f6), .it .i64 (f5), .it .i64 0, .it .i64 0], .bl (M2 n6 m6 l4 f6 f5 l9)]
def X3 (n6 m6 l4 f6 f5 l9 : Int) : AV := .tup [.agg [.it .i64 (M1 n6 m6 l4 f6 f5 l9), .it .i64 (X4 n6 m6 l4 f6 f5 l9), .it .i64 (X9 n6 m6 l4 f6 f5 l9), .it .i64 (X8 n6 m6 l4 f6 f5 l9), .it .i64 (X7 n6 m6 l4 f6 f5 l9), .it .i64 (X2 n6 m6 l4 f6 f5 l9)], .bl (M2 n6 m6 l4 f6 f5 l9)]
theorem aH2 (n6 m6 l4 f6 f5 l9 : Int) : X3 n6 m6 l4 f6 f5 l9 = M4 n6 m6 l4 f6 f5 l9 := by
  unfold X3 M4
  simp only [aJ6, aH4, aH5, aJ9, aJ0]
def decode_parts__registersA (g : Nat → AV) : AV := M4 (((g 0).fld 0).num) (((g 0).fld 1).num) (((g 0).fld 2).num) (((g 0).fld 3).num) (((g 0).fld 4).num) (((g 0).fld 5).num)
def decode_parts__registersB (g : Nat → AV) : Bool := F4 (((g 0).fld 0).num) (((g 0).fld 1).num) (((g 0).fld 2).num) (((g 0).fld 3).num) (((g 0).fld 4).num) (((g 0).fld 5).num)
theorem aU8 (g : Nat → AV) : pO T262 100 false Tryz.f263 (r7 [sh2Q] 0 g) = some (decode_parts__registersB g, decode_parts__registersA g) := (by kernel_rfl : _ = some (decode_parts__registersB g, X3 (((g 0).fld 0).num) (((g 0).fld 1).num) (((g 0).fld 2).num) (((g 0).fld 3).num) (((g 0).fld 4).num) (((g 0).fld 5).num))).trans (by rw [aH2]; rfl)
theorem aT3 : Plain Tryz.prog 263 Tryz.f263 := ⟨Tryz.func263, of_decide_eq_true (by kernel_rfl)⟩
def row263Q : List AV → Option (Option Bool × AV) := rowF [sh2Q] (some fun g => decode_parts__registersB g) decode_parts__registersA
theorem aQ4 : D1 Tryz.prog 263 row263Q := R9 fun g hg => p6 mix A7 dk2 (o9 mix A7 dk2 D5 (fun _ h => o5 p8 h) 8) aT3 (fun c _ => m7 c) (aU8 g) hg
def T263 : List Row := (263, row263Q) :: T262
theorem dv8 : r0 Tryz.prog (m5 T263) := m8 aQ4 dk2
theorem dj7 (n6 m6 l4 f6 f5 l9 : Int) (h : iIn l4 8 = true) : F4 n6 m6 l4 f6 f5 l9 = true := by
  unfold F4
  rw [h]
  simp [cS1, cS2]
def ax3 (n6 m6 l4 f6 f5 l9 : Int) : Int :=
 bif iEq n6 267386895 then 50
 else
 bif iEq n6 4111 then 51
 else bif iEq n6 115 then 52 else bif iEq n6 1048691 then 53 else bif iEq n6 807403635 then 60 else bif iEq n6 270532723 then 61 else bif iEq n6 273678451 then 62 else 0
def S5 (n6 m6 l4 f6 f5 l9 : Int) : Int :=
 ax3 n6 m6 l4 f6 f5 l9
def S8 (n6 m6 l4 f6 f5 l9 : Int) : Bool :=
 iNe (ax3 n6 m6 l4 f6 f5 l9) 0
def aE4 (n6 m6 l4 f6 f5 l9 : Int) : Bool :=
 true
def ak8 (n6 m6 l4 f6 f5 l9 : Int) : AV := .tup [.agg [.it .i64 (S5 n6 m6 l4 f6 f5 l9), .it .i64 0, .it .i64 0, .it .i64 0, .it .i64 0, .it .i64 0], .bl (S8 n6 m6 l4 f6 f5 l9)]
def decode_parts__fixedA (g : Nat → AV) : AV := ak8 (((g 0).fld 0).num) (((g 0).fld 1).num) (((g 0).fld 2).num) (((g 0).fld 3).num) (((g 0).fld 4).num) (((g 0).fld 5).num)
def decode_parts__fixedB (g : Nat → AV) : Bool := aE4 (((g 0).fld 0).num) (((g 0).fld 1).num) (((g 0).fld 2).num) (((g 0).fld 3).num) (((g 0).fld 4).num) (((g 0).fld 5).num)
theorem bs2 (g : Nat → AV) : pO T263 100 false Tryz.f264 (r7 [sh2Q] 0 g) = some (decode_parts__fixedB g, decode_parts__fixedA g) := by kernel_rfl
theorem br8 : Plain Tryz.prog 264 Tryz.f264 := ⟨Tryz.func264, of_decide_eq_true (by kernel_rfl)⟩
theorem br3 (n6 m6 l4 f6 f5 l9 : Int) : aE4 n6 m6 l4 f6 f5 l9 = true := rfl
def row264Q : List AV → Option (Option Bool × AV) := rowF [sh2Q] none decode_parts__fixedA
theorem bs6 : D1 Tryz.prog 264 row264Q := s3 fun g => p6 mix A7 dv8 (o9 mix A7 dv8 D5 (fun _ h => o5 p8 h) 8) br8 (fun c _ => m7 c) (bs2 g) (br3 ..)
def T264 : List Row := (264, row264Q) :: T263
theorem dk9 : r0 Tryz.prog (m5 T264) := m8 bs6 dv8
def I2 (a0 : Int) : Int :=
 bif iEq a0 9 then 63 else bif iEq a0 17 then 64 else bif iEq a0 49 then 65 else 0
def aW9 (a0 : Int) : Bool :=
 bif iEq a0 9 then true else bif iEq a0 17 then true else bif iEq a0 49 then true else true
def aV7 (a0 : Int) : AV := .it .i64 (I2 a0)
def decode_fenceA (g : Nat → AV) : AV := aV7 ((g 0).num)
def decode_fenceB (g : Nat → AV) : Bool := aW9 ((g 0).num)
theorem cG8 (g : Nat → AV) : pO T264 100 false Tryz.f311 (r7 [(.int .i64)] 0 g) = some (decode_fenceB g, decode_fenceA g) := by kernel_rfl
theorem cH9 : Plain Tryz.prog 311 Tryz.f311 := ⟨Tryz.func311, of_decide_eq_true (by kernel_rfl)⟩
theorem cI2 (a0 : Int) : aW9 a0 = true := by
  unfold aW9
  simp only [cS1, cS2, cS3, cS4, cS6, cS7]
def row311Q : List AV → Option (Option Bool × AV) := rowF [(.int .i64)] none decode_fenceA
theorem cL8 : D1 Tryz.prog 311 row311Q := s3 fun g => p6 mix A7 dk9 (o9 mix A7 dk9 D5 (fun _ h => o5 p8 h) 8) cH9 (fun c _ => m7 c) (cG8 g) (cI2 ..)
def T311 : List Row := (311, row311Q) :: T264
theorem dd1 : r0 Tryz.prog (m5 T311) := m8 cL8 dk9
def D2 (n6 m6 l4 f6 f5 l9 : Int) : Int :=
 bif bif iEq l9 52 then iEq f5 0 else false then 0
 else bif bif iEq l9 52 then iEq f5 3 else false then 0 else bif bif iEq l9 54 then iEq f5 0 else false then 0 else bif bif iEq l9 55 then iEq m6 0 else false then 0 else 0
def V0 (n6 m6 l4 f6 f5 l9 : Int) : Int :=
 bif bif iEq l9 52 then iEq f5 0 else false then 66
 else bif bif iEq l9 52 then iEq f5 3 else false then 68 else bif bif iEq l9 54 then iEq f5 0 else false then 67 else bif bif iEq l9 55 then iEq m6 0 else false then 69 else 0
def W2 (n6 m6 l4 f6 f5 l9 : Int) : Int :=
 bif bif iEq l9 52 then iEq f5 0 else false then m6
 else
 bif bif iEq l9 52 then iEq f5 3 else false then m6 else bif bif iEq l9 54 then iEq f5 0 else false then m6 else bif bif iEq l9 55 then iEq m6 0 else false then 0 else m6
def ad8 (n6 m6 l4 f6 f5 l9 : Int) : Int :=
 bif bif iEq l9 52 then iEq f5 0 else false then f6
 else
 bif bif iEq l9 52 then iEq f5 3 else false then f6
 else bif bif iEq l9 54 then iEq f5 0 else false then f6 else bif bif iEq l9 55 then iEq m6 0 else false then f6 else f6
def V4 (n6 m6 l4 f6 f5 l9 : Int) : Int :=
 bif bif iEq l9 52 then iEq f5 0 else false then 0
 else bif bif iEq l9 52 then iEq f5 3 else false then 0 else bif bif iEq l9 54 then iEq f5 0 else false then 0 else bif bif iEq l9 55 then iEq m6 0 else false then f5 else 0
def ae8 (n6 m6 l4 f6 f5 l9 : Int) : Int :=
 D2 n6 m6 l4 f6 f5 l9
def af1 (n6 m6 l4 f6 f5 l9 : Int) : Int :=
 D2 n6 m6 l4 f6 f5 l9
def V1 (n6 m6 l4 f6 f5 l9 : Int) : Bool :=
 bif bif iEq l9 52 then iEq f5 0 else false then true
 else bif bif iEq l9 52 then iEq f5 3 else false then true else bif bif iEq l9 54 then iEq f5 0 else false then true else bif iEq l9 55 then iEq m6 0 else false
def ae3 (n6 m6 l4 f6 f5 l9 : Int) : Bool :=
 bif bif iEq l9 52 then iEq f5 0 else false then true
 else
 bif bif iEq l9 52 then iEq f5 3 else false then true
 else bif bif iEq l9 54 then iEq f5 0 else false then true else bif bif iEq l9 55 then iEq m6 0 else false then true else false
def W7 (n6 m6 l4 f6 f5 l9 : Int) : Bool :=
 bif bif iEq l9 52 then iEq f5 0 else false then true
 else
 bif bif iEq l9 52 then iEq f5 3 else false then true else bif bif iEq l9 54 then iEq f5 0 else false then true else bif bif iEq l9 55 then iEq m6 0 else false then true else true
theorem aT2 (n6 m6 l4 f6 f5 l9 : Int)  : ad8 n6 m6 l4 f6 f5 l9  = f6 := by
  unfold ad8
  first | (simp only [D2, cS1, cS2, cS3, cS4, cS6, cS7]; done) | (simp only [D2, cS1, cS2, cS3, cS4, cS6, cS7]; kernel_rfl)
theorem aS8 (n6 m6 l4 f6 f5 l9 : Int)  : ae8 n6 m6 l4 f6 f5 l9  = 0 := by
  unfold ae8
  first | (simp only [D2, cS1, cS2, cS3, cS4, cS6, cS7]; done) | (simp only [D2, cS1, cS2, cS3, cS4, cS6, cS7]; kernel_rfl)
theorem aT4 (n6 m6 l4 f6 f5 l9 : Int)  : af1 n6 m6 l4 f6 f5 l9  = 0 := by
  unfold af1
  first | (simp only [D2, cS1, cS2, cS3, cS4, cS6, cS7]; done) | (simp only [D2, cS1, cS2, cS3, cS4, cS6, cS7]; kernel_rfl)
theorem aP0 (n6 m6 l4 f6 f5 l9 : Int)  : ae3 n6 m6 l4 f6 f5 l9  = V1 n6 m6 l4 f6 f5 l9  := by
  unfold ae3
  first | (simp only [D2, cS1, cS2, cS3, cS4, cS6, cS7]; done) | (simp only [D2, cS1, cS2, cS3, cS4, cS6, cS7]; kernel_rfl)
def Q4 (n6 m6 l4 f6 f5 l9 : Int) : AV := .tup [.agg [.it .i64 (V0 n6 m6 l4 f6 f5 l9), .it .i64 (W2 n6 m6 l4 f6 f5 l9), .it .i64 (f6), .it .i64 (V4 n6 m6 l4 f6 f5 l9), .it .i64 0, .it .i64 0], .bl (V1 n6 m6 l4 f6 f5 l9)]
def ae1 (n6 m6 l4 f6 f5 l9 : Int) : AV := .tup [.agg [.it .i64 (V0 n6 m6 l4 f6 f5 l9), .it .i64 (W2 n6 m6 l4 f6 f5 l9), .it .i64 (ad8 n6 m6 l4 f6 f5 l9), .it .i64 (V4 n6 m6 l4 f6 f5 l9), .it .i64 (ae8 n6 m6 l4 f6 f5 l9), .it .i64 (af1 n6 m6 l4 f6 f5 l9)], .bl (ae3 n6 m6 l4 f6 f5 l9)]
theorem aU0 (n6 m6 l4 f6 f5 l9 : Int) : ae1 n6 m6 l4 f6 f5 l9 = Q4 n6 m6 l4 f6 f5 l9 := by
  unfold ae1 Q4
  simp only [aT2, aS8, aT4, aP0]
def decode_parts__guestsA (g : Nat → AV) : AV := Q4 (((g 0).fld 0).num) (((g 0).fld 1).num) (((g 0).fld 2).num) (((g 0).fld 3).num) (((g 0).fld 4).num) (((g 0).fld 5).num)
def decode_parts__guestsB (g : Nat → AV) : Bool := W7 (((g 0).fld 0).num) (((g 0).fld 1).num) (((g 0).fld 2).num) (((g 0).fld 3).num) (((g 0).fld 4).num) (((g 0).fld 5).num)
theorem bh4 (g : Nat → AV) : pO T311 100 false Tryz.f312 (r7 [sh2Q] 0 g) = some (decode_parts__guestsB g, decode_parts__guestsA g) := (by kernel_rfl : _ = some (decode_parts__guestsB g, ae1 (((g 0).fld 0).num) (((g 0).fld 1).num) (((g 0).fld 2).num) (((g 0).fld 3).num) (((g 0).fld 4).num) (((g 0).fld 5).num))).trans (by rw [aU0]; rfl)
theorem be5 : Plain Tryz.prog 312 Tryz.f312 := ⟨Tryz.func312, of_decide_eq_true (by kernel_rfl)⟩
theorem bh2 (n6 m6 l4 f6 f5 l9 : Int) : W7 n6 m6 l4 f6 f5 l9 = true := by
  unfold W7
  simp only [D2, cS1, cS2, cS3, cS4, cS6, cS7]
def row312Q : List AV → Option (Option Bool × AV) := rowF [sh2Q] none decode_parts__guestsA
theorem bl6 : D1 Tryz.prog 312 row312Q := s3 fun g => p6 mix A7 dd1 (o9 mix A7 dd1 D5 (fun _ h => o5 p8 h) 8) be5 (fun c _ => m7 c) (bh4 g) (bh2 ..)
def T312 : List Row := (312, row312Q) :: T311
theorem di4 : r0 Tryz.prog (m5 T312) := m8 bl6 dd1
def x8 (n6 m6 l4 f6 f5 l9 : Int) : Int :=
 bif l4.toNat == 7 then 59
 else
 bif l4.toNat == 6 then 58
 else
 bif l4.toNat == 5 then 57
 else bif l4.toNat == 4 then 0 else bif l4.toNat == 3 then 56 else bif l4.toNat == 2 then 55 else bif l4.toNat == 1 then 54 else bif l4.toNat == 0 then 0 else 0
def X0 (n6 m6 l4 f6 f5 l9 : Int) : Int :=
 bif iEq l4 0 then bif bif iEq (I2 l9) 0 then true else iNe m6 0 then S5 n6 m6 l4 f6 f5 l9 else I2 l9
 else
 bif iEq l4 4 then V0 n6 m6 l4 f6 f5 l9
 else
 bif l4.toNat == 7 then 59
 else
 bif l4.toNat == 6 then 58
 else bif l4.toNat == 5 then 57 else bif l4.toNat == 4 then 0 else bif l4.toNat == 3 then 56 else bif l4.toNat == 2 then 55 else bif l4.toNat == 1 then 54 else 0
def ae2 (n6 m6 l4 f6 f5 l9 : Int) : Int :=
 bif iEq l4 0 then bif bif iEq (I2 l9) 0 then true else iNe m6 0 then S5 n6 m6 l4 f6 f5 l9 else I2 l9
 else
 bif iEq l4 4 then V0 n6 m6 l4 f6 f5 l9
 else bif iLt 4 l4 then x8 n6 m6 l4 f6 f5 l9 else x8 n6 m6 l4 f6 f5 l9
def U9 (n6 m6 l4 f6 f5 l9 : Int) : Int :=
 bif iEq l4 0 then 0 else bif iEq l4 4 then W2 n6 m6 l4 f6 f5 l9 else m6
def ad7 (n6 m6 l4 f6 f5 l9 : Int) : Int :=
 bif iEq l4 0 then bif bif iEq (I2 l9) 0 then true else iNe m6 0 then 0 else 0
 else bif iEq l4 4 then W2 n6 m6 l4 f6 f5 l9 else bif iLt 4 l4 then m6 else m6
def V7 (n6 m6 l4 f6 f5 l9 : Int) : Int :=
 bif iEq l4 0 then bif bif iEq (I2 l9) 0 then true else iNe m6 0 then 0 else f6 else bif iEq l4 4 then f6 else bif iLt 4 l4 then 0 else f6
def V9 (n6 m6 l4 f6 f5 l9 : Int) : Int :=
 bif iEq l4 0 then bif bif iEq (I2 l9) 0 then true else iNe m6 0 then 0 else f5 else bif iEq l4 4 then V4 n6 m6 l4 f6 f5 l9 else 0
def ae0 (n6 m6 l4 f6 f5 l9 : Int) : Int :=
 bif iEq l4 0 then bif bif iEq (I2 l9) 0 then true else iNe m6 0 then 0 else f5
 else bif iEq l4 4 then V4 n6 m6 l4 f6 f5 l9 else bif iLt 4 l4 then 0 else 0
def U8 (n6 m6 l4 f6 f5 l9 : Int) : Int :=
 bif iEq l4 0 then 0 else bif iEq l4 4 then 0 else bif iLt 4 l4 then f6 else 0
def ad9 (n6 m6 l4 f6 f5 l9 : Int) : Int :=
 bif iEq l4 0 then bif bif iEq (I2 l9) 0 then true else iNe m6 0 then 0 else 0 else bif iEq l4 4 then 0 else bif iLt 4 l4 then f6 else 0
def U7 (n6 m6 l4 f6 f5 l9 : Int) : Int :=
 bif iEq l4 0 then 0 else bif iEq l4 4 then 0 else g8 .i64 (g9 (g8 .u64 n6) 20 12)
def af2 (n6 m6 l4 f6 f5 l9 : Int) : Int :=
 bif iEq l4 0 then bif bif iEq (I2 l9) 0 then true else iNe m6 0 then 0 else 0
 else bif iEq l4 4 then 0 else bif iLt 4 l4 then g8 .i64 (g9 (g8 .u64 n6) 20 12) else g8 .i64 (g9 (g8 .u64 n6) 20 12)
def W3 (n6 m6 l4 f6 f5 l9 : Int) : Bool :=
 bif iEq l4 0 then bif bif iEq (I2 l9) 0 then true else iNe m6 0 then S8 n6 m6 l4 f6 f5 l9 else true
 else bif iEq l4 4 then V1 n6 m6 l4 f6 f5 l9 else true
def af0 (n6 m6 l4 f6 f5 l9 : Int) : Bool :=
 bif iEq l4 0 then bif bif iEq (I2 l9) 0 then true else iNe m6 0 then S8 n6 m6 l4 f6 f5 l9 else true
 else bif iEq l4 4 then V1 n6 m6 l4 f6 f5 l9 else bif iLt 4 l4 then true else true
def H0 (n6 m6 l4 f6 f5 l9 : Int) : Bool :=
 bif iEq l4 0 then bif bif iEq (I2 l9) 0 then true else iNe m6 0 then true else true else bif iEq l4 4 then true else iIn l4 8 && bif iLt 4 l4 then true else true
theorem aS1 (n6 m6 l4 f6 f5 l9 : Int)  : ae2 n6 m6 l4 f6 f5 l9  = X0 n6 m6 l4 f6 f5 l9  := by
  unfold ae2
  first | (simp only [x8, cS1, cS2, cS3, cS4, cS6, cS7]; done) | (simp only [x8, cS1, cS2, cS3, cS4, cS6, cS7]; kernel_rfl)
theorem aQ8 (n6 m6 l4 f6 f5 l9 : Int)  : ad7 n6 m6 l4 f6 f5 l9  = U9 n6 m6 l4 f6 f5 l9  := by
  unfold ad7
  first | (simp only [x8, cS1, cS2, cS3, cS4, cS6, cS7]; done) | (simp only [x8, cS1, cS2, cS3, cS4, cS6, cS7]; kernel_rfl)
theorem aP5 (n6 m6 l4 f6 f5 l9 : Int)  : ae0 n6 m6 l4 f6 f5 l9  = V9 n6 m6 l4 f6 f5 l9  := by
  unfold ae0
  first | (simp only [x8, cS1, cS2, cS3, cS4, cS6, cS7]; done) | (simp only [x8, cS1, cS2, cS3, cS4, cS6, cS7]; kernel_rfl)
theorem aT8 (n6 m6 l4 f6 f5 l9 : Int)  : ad9 n6 m6 l4 f6 f5 l9  = U8 n6 m6 l4 f6 f5 l9  := by
  unfold ad9
  first | (simp only [x8, cS1, cS2, cS3, cS4, cS6, cS7]; done) | (simp only [x8, cS1, cS2, cS3, cS4, cS6, cS7]; kernel_rfl)
theorem aR9 (n6 m6 l4 f6 f5 l9 : Int)  : af2 n6 m6 l4 f6 f5 l9  = U7 n6 m6 l4 f6 f5 l9  := by
  unfold af2
  first | (simp only [x8, cS1, cS2, cS3, cS4, cS6, cS7]; done) | (simp only [x8, cS1, cS2, cS3, cS4, cS6, cS7]; kernel_rfl)
theorem aQ9 (n6 m6 l4 f6 f5 l9 : Int)  : af0 n6 m6 l4 f6 f5 l9  = W3 n6 m6 l4 f6 f5 l9  := by
  unfold af0
  first | (simp only [x8, cS1, cS2, cS3, cS4, cS6, cS7]; done) | (simp only [x8, cS1, cS2, cS3, cS4, cS6, cS7]; kernel_rfl)
def Q0 (n6 m6 l4 f6 f5 l9 : Int) : AV := .tup [.agg [.it .i64 (X0 n6 m6 l4 f6 f5 l9), .it .i64 (U9 n6 m6 l4 f6 f5 l9), .it .i64 (V7 n6 m6 l4 f6 f5 l9), .it .i64 (V9 n6 m6 l4 f6 f5 l9), .it .i64 (U8 n6 m6 l4 f6 f5 l9), .it .i64 (U7 n6 m6 l4 f6 f5 l9)], .bl (W3 n6 m6 l4 f6 f5 l9)]
def ae5 (n6 m6 l4 f6 f5 l9 : Int) : AV := .tup [.agg [.it .i64 (ae2 n6 m6 l4 f6 f5 l9), .it .i64 (ad7 n6 m6 l4 f6 f5 l9), .it .i64 (V7 n6 m6 l4 f6 f5 l9), .it .i64 (ae0 n6 m6 l4 f6 f5 l9), .it .i64 (ad9 n6 m6 l4 f6 f5 l9), .it .i64 (af2 n6 m6 l4 f6 f5 l9)], .bl (af0 n6 m6 l4 f6 f5 l9)]
theorem aT7 (n6 m6 l4 f6 f5 l9 : Int) : ae5 n6 m6 l4 f6 f5 l9 = Q0 n6 m6 l4 f6 f5 l9 := by
  unfold ae5 Q0
  simp only [aS1, aQ8, aP5, aT8, aR9, aQ9]
def decode_parts__systemA (g : Nat → AV) : AV := Q0 (((g 0).fld 0).num) (((g 0).fld 1).num) (((g 0).fld 2).num) (((g 0).fld 3).num) (((g 0).fld 4).num) (((g 0).fld 5).num)
def decode_parts__systemB (g : Nat → AV) : Bool := H0 (((g 0).fld 0).num) (((g 0).fld 1).num) (((g 0).fld 2).num) (((g 0).fld 3).num) (((g 0).fld 4).num) (((g 0).fld 5).num)
theorem bf1 (g : Nat → AV) : pO T312 100 false Tryz.f265 (r7 [sh2Q] 0 g) = some (decode_parts__systemB g, decode_parts__systemA g) := (by kernel_rfl : _ = some (decode_parts__systemB g, ae5 (((g 0).fld 0).num) (((g 0).fld 1).num) (((g 0).fld 2).num) (((g 0).fld 3).num) (((g 0).fld 4).num) (((g 0).fld 5).num))).trans (by rw [aT7]; rfl)
theorem bi1 : Plain Tryz.prog 265 Tryz.f265 := ⟨Tryz.func265, of_decide_eq_true (by kernel_rfl)⟩
def row265Q : List AV → Option (Option Bool × AV) := rowF [sh2Q] (some fun g => decode_parts__systemB g) decode_parts__systemA
theorem be4 : D1 Tryz.prog 265 row265Q := R9 fun g hg => p6 mix A7 di4 (o9 mix A7 di4 D5 (fun _ h => o5 p8 h) 8) bi1 (fun c _ => m7 c) (bf1 g) hg
def T265 : List Row := (265, row265Q) :: T312
theorem dr5 : r0 Tryz.prog (m5 T265) := m8 be4 di4
theorem system_g (n6 m6 l4 f6 f5 l9 : Int) (h : iIn l4 8 = true) : H0 n6 m6 l4 f6 f5 l9 = true := by
  unfold H0
  rw [h]
  simp [cS1, cS2]
def u9 (n6 m6 l4 f6 f5 l9 : Int) : Bool :=
 bif iEq (b9 n6) 51 then
 bif iEq (b9 n6) 51 then F4 n6 m6 l4 f6 f5 l9 && true
 else bif iEq (b9 n6) 15 then true else bif iEq (b9 n6) 115 then H0 n6 m6 l4 f6 f5 l9 && true else true
 else
 bif iEq (b9 n6) 59 then F4 n6 m6 l4 f6 f5 l9 && true
 else bif iEq (b9 n6) 15 then true else bif iEq (b9 n6) 115 then H0 n6 m6 l4 f6 f5 l9 && true else true
def t7 (n6 m6 l4 f6 f5 l9 : Int) : Int :=
 bif l4.toNat == 7 then 10
 else
 bif l4.toNat == 6 then 9
 else
 bif l4.toNat == 5 then 8
 else bif l4.toNat == 4 then 7 else bif l4.toNat == 3 then 0 else bif l4.toNat == 2 then 0 else bif l4.toNat == 1 then 6 else bif l4.toNat == 0 then 5 else 0
def s5 (n6 m6 l4 f6 f5 l9 : Int) : Int :=
 bif l4.toNat == 6 then 17
 else
 bif l4.toNat == 5 then 16
 else bif l4.toNat == 4 then 15 else bif l4.toNat == 3 then 14 else bif l4.toNat == 2 then 13 else bif l4.toNat == 1 then 12 else bif l4.toNat == 0 then 11 else 0
def t6 (n6 m6 l4 f6 f5 l9 : Int) : Int :=
 bif l4.toNat == 3 then 21 else bif l4.toNat == 2 then 20 else bif l4.toNat == 1 then 19 else bif l4.toNat == 0 then 18 else 0
def x4 (n6 m6 l4 f6 f5 l9 : Int) : Int :=
 bif iEq (b9 n6) 59 then M1 n6 m6 l4 f6 f5 l9
 else
 bif iEq (b9 n6) 15 then S5 n6 m6 l4 f6 f5 l9
 else bif iEq (b9 n6) 115 then X0 n6 m6 l4 f6 f5 l9 else 0
def x3 (n6 m6 l4 f6 f5 l9 : Int) : Int :=
 bif iEq (b9 n6) 51 then
 bif iEq (b9 n6) 51 then M1 n6 m6 l4 f6 f5 l9
 else
 bif iEq (b9 n6) 15 then S5 n6 m6 l4 f6 f5 l9
 else bif iEq (b9 n6) 115 then X0 n6 m6 l4 f6 f5 l9 else 0
 else x4 n6 m6 l4 f6 f5 l9
def w9 (n6 m6 l4 f6 f5 l9 : Int) : Int :=
 bif iEq (b9 n6) 59 then m6 else bif iEq (b9 n6) 15 then 0 else bif iEq (b9 n6) 115 then U9 n6 m6 l4 f6 f5 l9 else 0
def x7 (n6 m6 l4 f6 f5 l9 : Int) : Int :=
 bif iEq (b9 n6) 51 then
 bif iEq (b9 n6) 51 then m6 else bif iEq (b9 n6) 15 then 0 else bif iEq (b9 n6) 115 then U9 n6 m6 l4 f6 f5 l9 else 0
 else w9 n6 m6 l4 f6 f5 l9
def x6 (n6 m6 l4 f6 f5 l9 : Int) : Int :=
 bif iEq (b9 n6) 59 then f6 else bif iEq (b9 n6) 15 then 0 else bif iEq (b9 n6) 115 then V7 n6 m6 l4 f6 f5 l9 else 0
def w8 (n6 m6 l4 f6 f5 l9 : Int) : Int :=
 bif iEq (b9 n6) 51 then
 bif iEq (b9 n6) 51 then f6
 else bif iEq (b9 n6) 15 then 0 else bif iEq (b9 n6) 115 then V7 n6 m6 l4 f6 f5 l9 else 0
 else x6 n6 m6 l4 f6 f5 l9
def v7 (n6 m6 l4 f6 f5 l9 : Int) : Int :=
 bif iEq (b9 n6) 59 then f5 else bif iEq (b9 n6) 15 then 0 else bif iEq (b9 n6) 115 then V9 n6 m6 l4 f6 f5 l9 else 0
def w5 (n6 m6 l4 f6 f5 l9 : Int) : Int :=
 bif iEq (b9 n6) 51 then
 bif iEq (b9 n6) 51 then f5
 else bif iEq (b9 n6) 15 then 0 else bif iEq (b9 n6) 115 then V9 n6 m6 l4 f6 f5 l9 else 0
 else v7 n6 m6 l4 f6 f5 l9
def v6 (n6 m6 l4 f6 f5 l9 : Int) : Int :=
 bif iEq (b9 n6) 59 then 0 else bif iEq (b9 n6) 15 then 0 else bif iEq (b9 n6) 115 then U8 n6 m6 l4 f6 f5 l9 else 0
def v5 (n6 m6 l4 f6 f5 l9 : Int) : Int :=
 bif iEq (b9 n6) 51 then
 bif iEq (b9 n6) 51 then 0 else bif iEq (b9 n6) 15 then 0 else bif iEq (b9 n6) 115 then U8 n6 m6 l4 f6 f5 l9 else 0
 else v6 n6 m6 l4 f6 f5 l9
def v9 (n6 m6 l4 f6 f5 l9 : Int) : Int :=
 bif iEq (b9 n6) 59 then 0 else bif iEq (b9 n6) 15 then 0 else bif iEq (b9 n6) 115 then U7 n6 m6 l4 f6 f5 l9 else 0
def w6 (n6 m6 l4 f6 f5 l9 : Int) : Int :=
 bif iEq (b9 n6) 51 then
 bif iEq (b9 n6) 51 then 0 else bif iEq (b9 n6) 15 then 0 else bif iEq (b9 n6) 115 then U7 n6 m6 l4 f6 f5 l9 else 0
 else v9 n6 m6 l4 f6 f5 l9
def v8 (n6 m6 l4 f6 f5 l9 : Int) : Bool :=
 bif iEq (b9 n6) 59 then M2 n6 m6 l4 f6 f5 l9
 else
 bif iEq (b9 n6) 15 then S8 n6 m6 l4 f6 f5 l9
 else bif iEq (b9 n6) 115 then W3 n6 m6 l4 f6 f5 l9 else false
def w7 (n6 m6 l4 f6 f5 l9 : Int) : Bool :=
 bif iEq (b9 n6) 51 then
 bif iEq (b9 n6) 51 then M2 n6 m6 l4 f6 f5 l9
 else
 bif iEq (b9 n6) 15 then S8 n6 m6 l4 f6 f5 l9
 else bif iEq (b9 n6) 115 then W3 n6 m6 l4 f6 f5 l9 else false
 else v8 n6 m6 l4 f6 f5 l9
def aa7 (n6 m6 l4 f6 f5 l9 : Int) : Int :=
 bif iEq (b9 n6) 55 then 1
 else
 bif iEq (b9 n6) 23 then 2
 else
 bif iEq (b9 n6) 111 then 3
 else
 bif iEq (b9 n6) 103 then 4
 else
 bif iEq (b9 n6) 99 then t7 n6 m6 l4 f6 f5 l9
 else
 bif iEq (b9 n6) 3 then s5 n6 m6 l4 f6 f5 l9
 else
 bif iEq (b9 n6) 35 then t6 n6 m6 l4 f6 f5 l9
 else
 bif iEq (b9 n6) 19 then K3 n6 m6 l4 f6 f5 l9
 else
 bif iEq (b9 n6) 27 then K3 n6 m6 l4 f6 f5 l9
 else bif iEq (b9 n6) 51 then M1 n6 m6 l4 f6 f5 l9 else x4 n6 m6 l4 f6 f5 l9
def al5 (n6 m6 l4 f6 f5 l9 : Int) : Int :=
 bif iEq (b9 n6) 55 then 1
 else
 bif iEq (b9 n6) 23 then 2
 else
 bif iEq (b9 n6) 111 then 3
 else
 bif iEq (b9 n6) 103 then 4
 else
 bif iEq (b9 n6) 99 then t7 n6 m6 l4 f6 f5 l9
 else
 bif iEq (b9 n6) 3 then s5 n6 m6 l4 f6 f5 l9
 else
 bif iEq (b9 n6) 35 then t6 n6 m6 l4 f6 f5 l9
 else
 bif iEq (b9 n6) 19 then
 bif iEq (b9 n6) 19 then K3 n6 m6 l4 f6 f5 l9 else x3 n6 m6 l4 f6 f5 l9
 else bif iEq (b9 n6) 27 then K3 n6 m6 l4 f6 f5 l9 else x3 n6 m6 l4 f6 f5 l9
def ab4 (n6 m6 l4 f6 f5 l9 : Int) : Int :=
 bif iEq (b9 n6) 55 then m6
 else
 bif iEq (b9 n6) 23 then m6
 else
 bif iEq (b9 n6) 111 then m6
 else
 bif iEq (b9 n6) 103 then m6
 else
 bif iEq (b9 n6) 99 then 0
 else
 bif iEq (b9 n6) 3 then m6
 else
 bif iEq (b9 n6) 35 then 0
 else
 bif iEq (b9 n6) 19 then K6 n6 m6 l4 f6 f5 l9
 else
 bif iEq (b9 n6) 27 then K6 n6 m6 l4 f6 f5 l9
 else bif iEq (b9 n6) 51 then m6 else w9 n6 m6 l4 f6 f5 l9
def al9 (n6 m6 l4 f6 f5 l9 : Int) : Int :=
 bif iEq (b9 n6) 55 then m6
 else
 bif iEq (b9 n6) 23 then m6
 else
 bif iEq (b9 n6) 111 then m6
 else
 bif iEq (b9 n6) 103 then m6
 else
 bif iEq (b9 n6) 99 then 0
 else
 bif iEq (b9 n6) 3 then m6
 else
 bif iEq (b9 n6) 35 then 0
 else
 bif iEq (b9 n6) 19 then
 bif iEq (b9 n6) 19 then K6 n6 m6 l4 f6 f5 l9 else x7 n6 m6 l4 f6 f5 l9
 else bif iEq (b9 n6) 27 then K6 n6 m6 l4 f6 f5 l9 else x7 n6 m6 l4 f6 f5 l9
def ab0 (n6 m6 l4 f6 f5 l9 : Int) : Int :=
 bif iEq (b9 n6) 55 then 0
 else
 bif iEq (b9 n6) 23 then 0
 else
 bif iEq (b9 n6) 111 then 0
 else
 bif iEq (b9 n6) 103 then f6
 else
 bif iEq (b9 n6) 99 then f6
 else
 bif iEq (b9 n6) 3 then f6
 else
 bif iEq (b9 n6) 35 then f6
 else
 bif iEq (b9 n6) 19 then K1 n6 m6 l4 f6 f5 l9
 else
 bif iEq (b9 n6) 27 then K1 n6 m6 l4 f6 f5 l9
 else bif iEq (b9 n6) 51 then f6 else x6 n6 m6 l4 f6 f5 l9
def am1 (n6 m6 l4 f6 f5 l9 : Int) : Int :=
 bif iEq (b9 n6) 55 then 0
 else
 bif iEq (b9 n6) 23 then 0
 else
 bif iEq (b9 n6) 111 then 0
 else
 bif iEq (b9 n6) 103 then f6
 else
 bif iEq (b9 n6) 99 then f6
 else
 bif iEq (b9 n6) 3 then f6
 else
 bif iEq (b9 n6) 35 then f6
 else
 bif iEq (b9 n6) 19 then
 bif iEq (b9 n6) 19 then K1 n6 m6 l4 f6 f5 l9 else w8 n6 m6 l4 f6 f5 l9
 else bif iEq (b9 n6) 27 then K1 n6 m6 l4 f6 f5 l9 else w8 n6 m6 l4 f6 f5 l9
def aa8 (n6 m6 l4 f6 f5 l9 : Int) : Int :=
 bif iEq (b9 n6) 55 then 0
 else
 bif iEq (b9 n6) 23 then 0
 else
 bif iEq (b9 n6) 111 then 0
 else
 bif iEq (b9 n6) 103 then 0
 else
 bif iEq (b9 n6) 99 then f5
 else
 bif iEq (b9 n6) 3 then 0
 else
 bif iEq (b9 n6) 35 then f5
 else
 bif iEq (b9 n6) 19 then 0
 else bif iEq (b9 n6) 27 then 0 else bif iEq (b9 n6) 51 then f5 else v7 n6 m6 l4 f6 f5 l9
def am0 (n6 m6 l4 f6 f5 l9 : Int) : Int :=
 bif iEq (b9 n6) 55 then 0
 else
 bif iEq (b9 n6) 23 then 0
 else
 bif iEq (b9 n6) 111 then 0
 else
 bif iEq (b9 n6) 103 then 0
 else
 bif iEq (b9 n6) 99 then f5
 else
 bif iEq (b9 n6) 3 then 0
 else
 bif iEq (b9 n6) 35 then f5
 else
 bif iEq (b9 n6) 19 then bif iEq (b9 n6) 19 then 0 else w5 n6 m6 l4 f6 f5 l9
 else bif iEq (b9 n6) 27 then 0 else w5 n6 m6 l4 f6 f5 l9
def ab3 (n6 m6 l4 f6 f5 l9 : Int) : Int :=
 bif iEq (b9 n6) 55 then g8 .i64 (E1 (iShl .u64 (iOr .u64 0 (g9 (g8 .u64 n6) 12 20)) 12) 32)
 else
 bif iEq (b9 n6) 23 then g8 .i64 (E1 (iShl .u64 (iOr .u64 0 (g9 (g8 .u64 n6) 12 20)) 12) 32)
 else
 bif iEq (b9 n6) 111 then
 g8 .i64
 (E1
 (iShl .u64
 (iOr .u64
 (iShl .u64
 (iOr .u64 (iShl .u64 (iOr .u64 (iShl .u64 (iOr .u64 0 (g9 (g8 .u64 n6) 31 1)) 8) (g9 (g8 .u64 n6) 12 8)) 1)
 (g9 (g8 .u64 n6) 20 1))
 10)
 (g9 (g8 .u64 n6) 21 10))
 1)
 21)
 else
 bif iEq (b9 n6) 103 then G6 n6 m6 l4 f6 f5 l9 4
 else
 bif iEq (b9 n6) 99 then
 g8 .i64
 (E1
 (iShl .u64
 (iOr .u64
 (iShl .u64
 (iOr .u64
 (iShl .u64 (iOr .u64 (iShl .u64 (iOr .u64 0 (g9 (g8 .u64 n6) 31 1)) 1) (g9 (g8 .u64 n6) 7 1)) 6)
 (g9 (g8 .u64 n6) 25 6))
 4)
 (g9 (g8 .u64 n6) 8 4))
 1)
 13)
 else
 bif iEq (b9 n6) 3 then G6 n6 m6 l4 f6 f5 l9 (s5 n6 m6 l4 f6 f5 l9)
 else
 bif iEq (b9 n6) 35 then
 g8 .i64
 (E1 (iShl .u64 (iOr .u64 (iShl .u64 (iOr .u64 0 (g9 (g8 .u64 n6) 25 7)) 5) (g9 (g8 .u64 n6) 7 5)) 0) 12)
 else
 bif iEq (b9 n6) 19 then K2 n6 m6 l4 f6 f5 l9
 else
 bif iEq (b9 n6) 27 then K2 n6 m6 l4 f6 f5 l9
 else bif iEq (b9 n6) 51 then 0 else v6 n6 m6 l4 f6 f5 l9
def am5 (n6 m6 l4 f6 f5 l9 : Int) : Int :=
 bif iEq (b9 n6) 55 then g8 .i64 (E1 (iShl .u64 (iOr .u64 0 (g9 (g8 .u64 n6) 12 20)) 12) 32)
 else
 bif iEq (b9 n6) 23 then g8 .i64 (E1 (iShl .u64 (iOr .u64 0 (g9 (g8 .u64 n6) 12 20)) 12) 32)
 else
 bif iEq (b9 n6) 111 then
 g8 .i64
 (E1
 (iShl .u64
 (iOr .u64
 (iShl .u64
 (iOr .u64 (iShl .u64 (iOr .u64 (iShl .u64 (iOr .u64 0 (g9 (g8 .u64 n6) 31 1)) 8) (g9 (g8 .u64 n6) 12 8)) 1)
 (g9 (g8 .u64 n6) 20 1))
 10)
 (g9 (g8 .u64 n6) 21 10))
 1)
 21)
 else
 bif iEq (b9 n6) 103 then G6 n6 m6 l4 f6 f5 l9 4
 else
 bif iEq (b9 n6) 99 then
 g8 .i64
 (E1
 (iShl .u64
 (iOr .u64
 (iShl .u64
 (iOr .u64
 (iShl .u64 (iOr .u64 (iShl .u64 (iOr .u64 0 (g9 (g8 .u64 n6) 31 1)) 1) (g9 (g8 .u64 n6) 7 1)) 6)
 (g9 (g8 .u64 n6) 25 6))
 4)
 (g9 (g8 .u64 n6) 8 4))
 1)
 13)
 else
 bif iEq (b9 n6) 3 then G6 n6 m6 l4 f6 f5 l9 (s5 n6 m6 l4 f6 f5 l9)
 else
 bif iEq (b9 n6) 35 then
 g8 .i64
 (E1 (iShl .u64 (iOr .u64 (iShl .u64 (iOr .u64 0 (g9 (g8 .u64 n6) 25 7)) 5) (g9 (g8 .u64 n6) 7 5)) 0) 12)
 else
 bif iEq (b9 n6) 19 then
 bif iEq (b9 n6) 19 then K2 n6 m6 l4 f6 f5 l9 else v5 n6 m6 l4 f6 f5 l9
 else bif iEq (b9 n6) 27 then K2 n6 m6 l4 f6 f5 l9 else v5 n6 m6 l4 f6 f5 l9
def ac4 (n6 m6 l4 f6 f5 l9 : Int) : Int :=
 bif iEq (b9 n6) 55 then 0
 else
 bif iEq (b9 n6) 23 then 0
 else
 bif iEq (b9 n6) 111 then 0
 else
 bif iEq (b9 n6) 103 then 0
 else
 bif iEq (b9 n6) 99 then 0
 else
 bif iEq (b9 n6) 3 then 0
 else
 bif iEq (b9 n6) 35 then 0
 else
 bif iEq (b9 n6) 19 then 0
 else bif iEq (b9 n6) 27 then 0 else bif iEq (b9 n6) 51 then 0 else v9 n6 m6 l4 f6 f5 l9
def am4 (n6 m6 l4 f6 f5 l9 : Int) : Int :=
 bif iEq (b9 n6) 55 then 0
 else
 bif iEq (b9 n6) 23 then 0
 else
 bif iEq (b9 n6) 111 then 0
 else
 bif iEq (b9 n6) 103 then 0
 else
 bif iEq (b9 n6) 99 then 0
 else
 bif iEq (b9 n6) 3 then 0
 else
 bif iEq (b9 n6) 35 then 0
 else
 bif iEq (b9 n6) 19 then bif iEq (b9 n6) 19 then 0 else w6 n6 m6 l4 f6 f5 l9
 else bif iEq (b9 n6) 27 then 0 else w6 n6 m6 l4 f6 f5 l9
def ao3 (n6 m6 l4 f6 f5 l9 : Int) : Bool :=
 bif iEq (b9 n6) 55 then true
 else
 bif iEq (b9 n6) 23 then true
 else
 bif iEq (b9 n6) 111 then true
 else
 bif iEq (b9 n6) 103 then iEq l4 0
 else
 bif iEq (b9 n6) 99 then iNe (t7 n6 m6 l4 f6 f5 l9) 0
 else
 bif iEq (b9 n6) 3 then iNe (s5 n6 m6 l4 f6 f5 l9) 0
 else
 bif iEq (b9 n6) 35 then iNe (t6 n6 m6 l4 f6 f5 l9) 0
 else
 bif iEq (b9 n6) 19 then K5 n6 m6 l4 f6 f5 l9
 else
 bif iEq (b9 n6) 27 then K5 n6 m6 l4 f6 f5 l9
 else bif iEq (b9 n6) 51 then M2 n6 m6 l4 f6 f5 l9 else v8 n6 m6 l4 f6 f5 l9
def al1 (n6 m6 l4 f6 f5 l9 : Int) : Bool :=
 bif iEq (b9 n6) 55 then true
 else
 bif iEq (b9 n6) 23 then true
 else
 bif iEq (b9 n6) 111 then true
 else
 bif iEq (b9 n6) 103 then iEq l4 0
 else
 bif iEq (b9 n6) 99 then iNe (t7 n6 m6 l4 f6 f5 l9) 0
 else
 bif iEq (b9 n6) 3 then iNe (s5 n6 m6 l4 f6 f5 l9) 0
 else
 bif iEq (b9 n6) 35 then iNe (t6 n6 m6 l4 f6 f5 l9) 0
 else
 bif iEq (b9 n6) 19 then
 bif iEq (b9 n6) 19 then K5 n6 m6 l4 f6 f5 l9 else w7 n6 m6 l4 f6 f5 l9
 else bif iEq (b9 n6) 27 then K5 n6 m6 l4 f6 f5 l9 else w7 n6 m6 l4 f6 f5 l9
def L3 (n6 m6 l4 f6 f5 l9 : Int) : Bool :=
 bif iEq (b9 n6) 55 then true
 else
 bif iEq (b9 n6) 23 then true
 else
 bif iEq (b9 n6) 111 then true
 else
 bif iEq (b9 n6) 103 then true
 else
 bif iEq (b9 n6) 99 then iIn l4 8 && true
 else
 bif iEq (b9 n6) 3 then iIn l4 8 && true
 else
 bif iEq (b9 n6) 35 then iIn l4 8 && true
 else
 bif iEq (b9 n6) 19 then
 bif iEq (b9 n6) 19 then G4 n6 m6 l4 f6 f5 l9 && true else u9 n6 m6 l4 f6 f5 l9
 else bif iEq (b9 n6) 27 then G4 n6 m6 l4 f6 f5 l9 && true else u9 n6 m6 l4 f6 f5 l9
theorem bc3 (n6 m6 l4 f6 f5 l9 : Int)  : al5 n6 m6 l4 f6 f5 l9  = aa7 n6 m6 l4 f6 f5 l9  := by
  unfold al5
  first | (simp only [u9, t7, s5, t6, x4, x3, w9, x7, x6, w8, v7, w5, v6, v5, v9, w6, v8, w7, cS1, cS2, cS3, cS4, cS6, cS7]; done) | (simp only [u9, t7, s5, t6, x4, x3, w9, x7, x6, w8, v7, w5, v6, v5, v9, w6, v8, w7, cS1, cS2, cS3, cS4, cS6, cS7]; kernel_rfl)
theorem ba9 (n6 m6 l4 f6 f5 l9 : Int)  : al9 n6 m6 l4 f6 f5 l9  = ab4 n6 m6 l4 f6 f5 l9  := by
  unfold al9
  first | (simp only [u9, t7, s5, t6, x4, x3, w9, x7, x6, w8, v7, w5, v6, v5, v9, w6, v8, w7, cS1, cS2, cS3, cS4, cS6, cS7]; done) | (simp only [u9, t7, s5, t6, x4, x3, w9, x7, x6, w8, v7, w5, v6, v5, v9, w6, v8, w7, cS1, cS2, cS3, cS4, cS6, cS7]; kernel_rfl)
theorem bb9 (n6 m6 l4 f6 f5 l9 : Int)  : am1 n6 m6 l4 f6 f5 l9  = ab0 n6 m6 l4 f6 f5 l9  := by
  unfold am1
  first | (simp only [u9, t7, s5, t6, x4, x3, w9, x7, x6, w8, v7, w5, v6, v5, v9, w6, v8, w7, cS1, cS2, cS3, cS4, cS6, cS7]; done) | (simp only [u9, t7, s5, t6, x4, x3, w9, x7, x6, w8, v7, w5, v6, v5, v9, w6, v8, w7, cS1, cS2, cS3, cS4, cS6, cS7]; kernel_rfl)
theorem bb1 (n6 m6 l4 f6 f5 l9 : Int)  : am0 n6 m6 l4 f6 f5 l9  = aa8 n6 m6 l4 f6 f5 l9  := by
  unfold am0
  first | (simp only [u9, t7, s5, t6, x4, x3, w9, x7, x6, w8, v7, w5, v6, v5, v9, w6, v8, w7, cS1, cS2, cS3, cS4, cS6, cS7]; done) | (simp only [u9, t7, s5, t6, x4, x3, w9, x7, x6, w8, v7, w5, v6, v5, v9, w6, v8, w7, cS1, cS2, cS3, cS4, cS6, cS7]; kernel_rfl)
theorem bc5 (n6 m6 l4 f6 f5 l9 : Int)  : am5 n6 m6 l4 f6 f5 l9  = ab3 n6 m6 l4 f6 f5 l9  := by
  unfold am5
  first | (simp only [u9, t7, s5, t6, x4, x3, w9, x7, x6, w8, v7, w5, v6, v5, v9, w6, v8, w7, cS1, cS2, cS3, cS4, cS6, cS7]; done) | (simp only [u9, t7, s5, t6, x4, x3, w9, x7, x6, w8, v7, w5, v6, v5, v9, w6, v8, w7, cS1, cS2, cS3, cS4, cS6, cS7]; kernel_rfl)
theorem bc2 (n6 m6 l4 f6 f5 l9 : Int)  : am4 n6 m6 l4 f6 f5 l9  = ac4 n6 m6 l4 f6 f5 l9  := by
  unfold am4
  first | (simp only [u9, t7, s5, t6, x4, x3, w9, x7, x6, w8, v7, w5, v6, v5, v9, w6, v8, w7, cS1, cS2, cS3, cS4, cS6, cS7]; done) | (simp only [u9, t7, s5, t6, x4, x3, w9, x7, x6, w8, v7, w5, v6, v5, v9, w6, v8, w7, cS1, cS2, cS3, cS4, cS6, cS7]; kernel_rfl)
theorem bc6 (n6 m6 l4 f6 f5 l9 : Int)  : al1 n6 m6 l4 f6 f5 l9  = ao3 n6 m6 l4 f6 f5 l9  := by
  unfold al1
  first | (simp only [u9, t7, s5, t6, x4, x3, w9, x7, x6, w8, v7, w5, v6, v5, v9, w6, v8, w7, cS1, cS2, cS3, cS4, cS6, cS7]; done) | (simp only [u9, t7, s5, t6, x4, x3, w9, x7, x6, w8, v7, w5, v6, v5, v9, w6, v8, w7, cS1, cS2, cS3, cS4, cS6, cS7]; kernel_rfl)
def U1 (n6 m6 l4 f6 f5 l9 : Int) : AV := .tup [.agg [.it .i64 (aa7 n6 m6 l4 f6 f5 l9), .it .i64 (ab4 n6 m6 l4 f6 f5 l9), .it .i64 (ab0 n6 m6 l4 f6 f5 l9), .it .i64 (aa8 n6 m6 l4 f6 f5 l9), .it .i64 (ab3 n6 m6 l4 f6 f5 l9), .it .i64 (ac4 n6 m6 l4 f6 f5 l9)], .bl (ao3 n6 m6 l4 f6 f5 l9)]
def am6 (n6 m6 l4 f6 f5 l9 : Int) : AV := .tup [.agg [.it .i64 (al5 n6 m6 l4 f6 f5 l9), .it .i64 (al9 n6 m6 l4 f6 f5 l9), .it .i64 (am1 n6 m6 l4 f6 f5 l9), .it .i64 (am0 n6 m6 l4 f6 f5 l9), .it .i64 (am5 n6 m6 l4 f6 f5 l9), .it .i64 (am4 n6 m6 l4 f6 f5 l9)], .bl (al1 n6 m6 l4 f6 f5 l9)]
theorem bc4 (n6 m6 l4 f6 f5 l9 : Int) : am6 n6 m6 l4 f6 f5 l9 = U1 n6 m6 l4 f6 f5 l9 := by
  unfold am6 U1
  simp only [bc3, ba9, bb9, bb1, bc5, bc2, bc6]
def decode_parts__insnA (g : Nat → AV) : AV := U1 (((g 0).fld 0).num) (((g 0).fld 1).num) (((g 0).fld 2).num) (((g 0).fld 3).num) (((g 0).fld 4).num) (((g 0).fld 5).num)
def decode_parts__insnB (g : Nat → AV) : Bool := L3 (((g 0).fld 0).num) (((g 0).fld 1).num) (((g 0).fld 2).num) (((g 0).fld 3).num) (((g 0).fld 4).num) (((g 0).fld 5).num)
theorem bA6 (g : Nat → AV) : pO T265 100 false Tryz.f196 (r7 [sh2Q] 0 g) = some (decode_parts__insnB g, decode_parts__insnA g) := (by kernel_rfl : _ = some (decode_parts__insnB g, am6 (((g 0).fld 0).num) (((g 0).fld 1).num) (((g 0).fld 2).num) (((g 0).fld 3).num) (((g 0).fld 4).num) (((g 0).fld 5).num))).trans (by rw [bc4]; rfl)
theorem bx4 : Plain Tryz.prog 196 Tryz.f196 := ⟨Tryz.func196, of_decide_eq_true (by kernel_rfl)⟩
def row196Q : List AV → Option (Option Bool × AV) := rowF [sh2Q] (some fun g => decode_parts__insnB g) decode_parts__insnA
theorem bt3 : D1 Tryz.prog 196 row196Q := R9 fun g hg => p6 mix A7 dr5 (o9 mix A7 dr5 D5 (fun _ h => o5 p8 h) 8) bx4 (fun c _ => m7 c) (bA6 g) hg
def T196 : List Row := (196, row196Q) :: T265
theorem dv6 : r0 Tryz.prog (m5 T196) := m8 bt3 dr5
theorem pinsn_g (n6 m6 l4 f6 f5 l9 : Int) (h : iIn l4 8 = true) : L3 n6 m6 l4 f6 f5 l9 = true := by
  unfold L3 u9
  rw [reckons_g _ _ _ _ _ _ h, dj7 _ _ _ _ _ _ h, system_g _ _ _ _ _ _ h, h]
  simp only [cS1, cS7, cS6, Bool.cond_self]
def N9 (a0 : Int) : Bool :=
 bif !ao3 a0 (P3 a0) (N3 a0) (P0 a0) (P5 a0) (P1 a0) then true
 else
 !E6 (aa7 a0 (P3 a0) (N3 a0) (P0 a0) (P5 a0) (P1 a0))
 (ab4 a0 (P3 a0) (N3 a0) (P0 a0) (P5 a0) (P1 a0))
 (ab0 a0 (P3 a0) (N3 a0) (P0 a0) (P5 a0) (P1 a0))
 (aa8 a0 (P3 a0) (N3 a0) (P0 a0) (P5 a0) (P1 a0))
 (ab3 a0 (P3 a0) (N3 a0) (P0 a0) (P5 a0) (P1 a0))
 (ac4 a0 (P3 a0) (N3 a0) (P0 a0) (P5 a0) (P1 a0))
def d1 (a0 : Int) : Int :=
 bif N9 a0 then 0 else aa7 a0 (P3 a0) (N3 a0) (P0 a0) (P5 a0) (P1 a0)
def d4 (a0 : Int) : Int :=
 bif N9 a0 then 0 else ab4 a0 (P3 a0) (N3 a0) (P0 a0) (P5 a0) (P1 a0)
def d5 (a0 : Int) : Int :=
 bif N9 a0 then 0 else ab0 a0 (P3 a0) (N3 a0) (P0 a0) (P5 a0) (P1 a0)
def d6 (a0 : Int) : Int :=
 bif N9 a0 then 0 else aa8 a0 (P3 a0) (N3 a0) (P0 a0) (P5 a0) (P1 a0)
def d3 (a0 : Int) : Int :=
 bif N9 a0 then 0 else ab3 a0 (P3 a0) (N3 a0) (P0 a0) (P5 a0) (P1 a0)
def d7 (a0 : Int) : Int :=
 bif N9 a0 then 0 else ac4 a0 (P3 a0) (N3 a0) (P0 a0) (P5 a0) (P1 a0)
def o8 (a0 : Int) : Int :=
 bif N9 a0 then 40 else 0
def aN7 (a0 : Int) : Bool :=
 L3 a0 (P3 a0) (N3 a0) (P0 a0) (P5 a0) (P1 a0) && bif N9 a0 then true else true
def aL7 (a0 : Int) : AV := .tup [.agg [.it .i64 (d1 a0), .it .i64 (d4 a0), .it .i64 (d5 a0), .it .i64 (d6 a0), .it .i64 (d3 a0), .it .i64 (d7 a0)], .it .i64 (o8 a0)]
def decode_DecodeA (g : Nat → AV) : AV := aL7 ((g 0).num)
def decode_DecodeB (g : Nat → AV) : Bool := aN7 ((g 0).num)
theorem cp9 (g : Nat → AV) : pO T196 100 false Tryz.f140 (r7 [(.int .u32)] 0 g) = some (decode_DecodeB g, decode_DecodeA g) := by kernel_rfl
theorem cs3 : Plain Tryz.prog 140 Tryz.f140 := ⟨Tryz.func140, of_decide_eq_true (by kernel_rfl)⟩
theorem cr5 (a0 : Int) : aN7 a0 = true := by
  unfold aN7
  rw [pinsn_g _ _ _ _ _ _ (of1_in a0)]
  simp [cS1]
def row140Q : List AV → Option (Option Bool × AV) := rowF [(.int .u32)] none decode_DecodeA
theorem cq0 : D1 Tryz.prog 140 row140Q := s3 fun g => p6 mix A7 dv6 (o9 mix A7 dv6 D5 (fun _ h => o5 p8 h) 8) cs3 (fun c _ => m7 c) (cp9 g) (cr5 ..)
def T140 : List Row := (140, row140Q) :: T196
theorem dd9 : r0 Tryz.prog (m5 T140) := m8 cq0 dv6
def cj5 (a0 a1 : Int) : Int :=
 bif bif iEq (o8 a1) 0 then bif iEq (d1 a1) 3 then true else bif iEq (a8 (d1 a1)) 2 then iLt (d3 a1) 0 else false else false then
 iAdd .u64 a0 (g8 .u64 (d3 a1))
 else iAdd .u64 a0 4
def bv2 (a0 a1 : Int) : Bool :=
 bif bif iEq (o8 a1) 0 then bif iEq (d1 a1) 3 then true else bif iEq (a8 (d1 a1)) 2 then iLt (d3 a1) 0 else false else false then true else true
def bw7 (a0 a1 : Int) : AV := .it .u64 (cj5 a0 a1)
def guess_NextA (g : Nat → AV) : AV := bw7 ((g 0).num) ((g 1).num)
def guess_NextB (g : Nat → AV) : Bool := bv2 ((g 0).num) ((g 1).num)
theorem dd8 (g : Nat → AV) : pO T140 100 false Tryz.f118 (r7 [(.int .u64), (.int .u32)] 0 g) = some (guess_NextB g, guess_NextA g) := by kernel_rfl
theorem dm9 : Plain Tryz.prog 118 Tryz.f118 := ⟨Tryz.func118, of_decide_eq_true (by kernel_rfl)⟩
theorem dj9 (a0 a1 : Int) : bv2 a0 a1 = true := by
  unfold bv2
  simp only [cS1, cS2, cS3, cS4, cS6, cS7]
def row118Q : List AV → Option (Option Bool × AV) := rowF [(.int .u64), (.int .u32)] none guess_NextA
theorem ds4 : D1 Tryz.prog 118 row118Q := s3 fun g => p6 mix A7 dd9 (o9 mix A7 dd9 D5 (fun _ h => o5 p8 h) 8) dm9 (fun c _ => m7 c) (dd8 g) (dj9 ..)
def T118 : List Row := (118, row118Q) :: T140
theorem dj0 : r0 Tryz.prog (m5 T118) := m8 ds4 dd9
def cY6 (a0 a1 a2 : Int) : Bool :=
 iNe (cj5 a0 a1) a2
def bR3 (a0 a1 a2 : Int) : Bool :=
 true
def bj5 (a0 a1 a2 : Int) : AV := .bl (cY6 a0 a1 a2)
def guess_WrongA (g : Nat → AV) : AV := bj5 ((g 0).num) ((g 1).num) ((g 2).num)
def guess_WrongB (g : Nat → AV) : Bool := bR3 ((g 0).num) ((g 1).num) ((g 2).num)
theorem cT4 (g : Nat → AV) : pO T118 100 false Tryz.f160 (r7 [(.int .u64), (.int .u32), (.int .u64)] 0 g) = some (guess_WrongB g, guess_WrongA g) := by kernel_rfl
theorem db3 : Plain Tryz.prog 160 Tryz.f160 := ⟨Tryz.func160, of_decide_eq_true (by kernel_rfl)⟩
theorem cX6 (a0 a1 a2 : Int) : bR3 a0 a1 a2 = true := rfl
def row160Q : List AV → Option (Option Bool × AV) := rowF [(.int .u64), (.int .u32), (.int .u64)] none guess_WrongA
theorem cQ3 : D1 Tryz.prog 160 row160Q := s3 fun g => p6 mix A7 dj0 (o9 mix A7 dj0 D5 (fun _ h => o5 p8 h) 8) db3 (fun c _ => m7 c) (cT4 g) (cX6 ..)
def T160 : List Row := (160, row160Q) :: T118
theorem dg5 : r0 Tryz.prog (m5 T160) := m8 cQ3 dj0
def x5 (q7 C7 s4 s9 q8 s8 : Int) : Int :=
 bif !E6 q7 C7 s4 s9 q8 s8 then 0 else C7
def be0 (q7 C7 s4 s9 q8 s8 : Int) : Bool :=
 bif !E6 q7 C7 s4 s9 q8 s8 then true else true
def bg9 (q7 C7 s4 s9 q8 s8 : Int) : AV := .it .i64 (x5 q7 C7 s4 s9 q8 s8)
def insn_WritesA (g : Nat → AV) : AV := bg9 (((g 0).fld 0).num) (((g 0).fld 1).num) (((g 0).fld 2).num) (((g 0).fld 3).num) (((g 0).fld 4).num) (((g 0).fld 5).num)
def insn_WritesB (g : Nat → AV) : Bool := be0 (((g 0).fld 0).num) (((g 0).fld 1).num) (((g 0).fld 2).num) (((g 0).fld 3).num) (((g 0).fld 4).num) (((g 0).fld 5).num)
theorem cZ4 (g : Nat → AV) : pO T160 100 false Tryz.f143 (r7 [sh1Q] 0 g) = some (insn_WritesB g, insn_WritesA g) := by kernel_rfl
theorem cU3 : Plain Tryz.prog 143 Tryz.f143 := ⟨Tryz.func143, of_decide_eq_true (by kernel_rfl)⟩
theorem cY9 (q7 C7 s4 s9 q8 s8 : Int) : be0 q7 C7 s4 s9 q8 s8 = true := by
  unfold be0
  simp only [cS1, cS2, cS3, cS4, cS6, cS7]
def row143Q : List AV → Option (Option Bool × AV) := rowF [sh1Q] none insn_WritesA
theorem db0 : D1 Tryz.prog 143 row143Q := s3 fun g => p6 mix A7 dg5 (o9 mix A7 dg5 D5 (fun _ h => o5 p8 h) 8) cU3 (fun c _ => m7 c) (cZ4 g) (cY9 ..)
def T143 : List Row := (143, row143Q) :: T160
theorem dx6 : r0 Tryz.prog (m5 T143) := m8 db0 dg5
def ce2 (q7 C7 s4 s9 q8 s8 : Int) : Int :=
 bif !E6 q7 C7 s4 s9 q8 s8 then 0 else s4
def cb7 (q7 C7 s4 s9 q8 s8 : Int) : Int :=
 bif !E6 q7 C7 s4 s9 q8 s8 then 0 else s9
def bu2 (q7 C7 s4 s9 q8 s8 : Int) : Bool :=
 bif !E6 q7 C7 s4 s9 q8 s8 then true else true
def bB3 (q7 C7 s4 s9 q8 s8 : Int) : AV := .tup [.it .i64 (ce2 q7 C7 s4 s9 q8 s8), .it .i64 (cb7 q7 C7 s4 s9 q8 s8)]
def insn_ReadsA (g : Nat → AV) : AV := bB3 (((g 0).fld 0).num) (((g 0).fld 1).num) (((g 0).fld 2).num) (((g 0).fld 3).num) (((g 0).fld 4).num) (((g 0).fld 5).num)
def insn_ReadsB (g : Nat → AV) : Bool := bu2 (((g 0).fld 0).num) (((g 0).fld 1).num) (((g 0).fld 2).num) (((g 0).fld 3).num) (((g 0).fld 4).num) (((g 0).fld 5).num)
theorem di7 (g : Nat → AV) : pO T143 100 false Tryz.f300 (r7 [sh1Q] 0 g) = some (insn_ReadsB g, insn_ReadsA g) := by kernel_rfl
theorem dc7 : Plain Tryz.prog 300 Tryz.f300 := ⟨Tryz.func300, of_decide_eq_true (by kernel_rfl)⟩
theorem dj4 (q7 C7 s4 s9 q8 s8 : Int) : bu2 q7 C7 s4 s9 q8 s8 = true := by
  unfold bu2
  simp only [cS1, cS2, cS3, cS4, cS6, cS7]
def row300Q : List AV → Option (Option Bool × AV) := rowF [sh1Q] none insn_ReadsA
theorem dr2 : D1 Tryz.prog 300 row300Q := s3 fun g => p6 mix A7 dx6 (o9 mix A7 dx6 D5 (fun _ h => o5 p8 h) 8) dc7 (fun c _ => m7 c) (di7 g) (dj4 ..)
def T300 : List Row := (300, row300Q) :: T143
theorem dj3 : r0 Tryz.prog (m5 T300) := m8 dr2 dx6
def bQ4 (q7 C7 s4 s9 q8 s8 a1 : Int) : Bool :=
 bif iNe a1 0 then bif iEq a1 (ce2 q7 C7 s4 s9 q8 s8) then true else iEq a1 (cb7 q7 C7 s4 s9 q8 s8) else false
def bQ9 (q7 C7 s4 s9 q8 s8 a1 : Int) : Bool :=
 true
def bl4 (q7 C7 s4 s9 q8 s8 a1 : Int) : AV := .bl (bQ4 q7 C7 s4 s9 q8 s8 a1)
def hazard_UsesA (g : Nat → AV) : AV := bl4 (((g 0).fld 0).num) (((g 0).fld 1).num) (((g 0).fld 2).num) (((g 0).fld 3).num) (((g 0).fld 4).num) (((g 0).fld 5).num) ((g 1).num)
def hazard_UsesB (g : Nat → AV) : Bool := bQ9 (((g 0).fld 0).num) (((g 0).fld 1).num) (((g 0).fld 2).num) (((g 0).fld 3).num) (((g 0).fld 4).num) (((g 0).fld 5).num) ((g 1).num)
theorem cO8 (g : Nat → AV) : pO T300 100 false Tryz.f224 (r7 [sh1Q, (.int .i64)] 0 g) = some (hazard_UsesB g, hazard_UsesA g) := by kernel_rfl
theorem cQ4 : Plain Tryz.prog 224 Tryz.f224 := ⟨Tryz.func224, of_decide_eq_true (by kernel_rfl)⟩
theorem cU5 (q7 C7 s4 s9 q8 s8 a1 : Int) : bQ9 q7 C7 s4 s9 q8 s8 a1 = true := rfl
def row224Q : List AV → Option (Option Bool × AV) := rowF [sh1Q, (.int .i64)] none hazard_UsesA
theorem cM9 : D1 Tryz.prog 224 row224Q := s3 fun g => p6 mix A7 dj3 (o9 mix A7 dj3 D5 (fun _ h => o5 p8 h) 8) cQ4 (fun c _ => m7 c) (cO8 g) (cU5 ..)
def T224 : List Row := (224, row224Q) :: T300
theorem dc3 : r0 Tryz.prog (m5 T224) := m8 cM9 dj3
def aO0 (q7 C7 s4 s9 q8 s8 l7 n7 l3 l5 l6 k9 : Int) : Bool :=
 bQ4 l7 n7 l3 l5 l6 k9 (x5 q7 C7 s4 s9 q8 s8)
def bs8 (q7 C7 s4 s9 q8 s8 l7 n7 l3 l5 l6 k9 : Int) : Bool :=
 true
def aM2 (q7 C7 s4 s9 q8 s8 l7 n7 l3 l5 l6 k9 : Int) : AV := .bl (aO0 q7 C7 s4 s9 q8 s8 l7 n7 l3 l5 l6 k9)
def hazard_PassesA (g : Nat → AV) : AV := aM2 (((g 0).fld 0).num) (((g 0).fld 1).num) (((g 0).fld 2).num) (((g 0).fld 3).num) (((g 0).fld 4).num) (((g 0).fld 5).num) (((g 1).fld 0).num) (((g 1).fld 1).num) (((g 1).fld 2).num) (((g 1).fld 3).num) (((g 1).fld 4).num) (((g 1).fld 5).num)
def hazard_PassesB (g : Nat → AV) : Bool := bs8 (((g 0).fld 0).num) (((g 0).fld 1).num) (((g 0).fld 2).num) (((g 0).fld 3).num) (((g 0).fld 4).num) (((g 0).fld 5).num) (((g 1).fld 0).num) (((g 1).fld 1).num) (((g 1).fld 2).num) (((g 1).fld 3).num) (((g 1).fld 4).num) (((g 1).fld 5).num)
theorem ct3 (g : Nat → AV) : pO T224 100 false Tryz.f162 (r7 [sh1Q, sh1Q] 0 g) = some (hazard_PassesB g, hazard_PassesA g) := by kernel_rfl
theorem cs2 : Plain Tryz.prog 162 Tryz.f162 := ⟨Tryz.func162, of_decide_eq_true (by kernel_rfl)⟩
theorem cr7 (q7 C7 s4 s9 q8 s8 l7 n7 l3 l5 l6 k9 : Int) : bs8 q7 C7 s4 s9 q8 s8 l7 n7 l3 l5 l6 k9 = true := rfl
def row162Q : List AV → Option (Option Bool × AV) := rowF [sh1Q, sh1Q] none hazard_PassesA
theorem co6 : D1 Tryz.prog 162 row162Q := s3 fun g => p6 mix A7 dc3 (o9 mix A7 dc3 D5 (fun _ h => o5 p8 h) 8) cs2 (fun c _ => m7 c) (ct3 g) (cr7 ..)
def T162 : List Row := (162, row162Q) :: T224
theorem dx4 : r0 Tryz.prog (m5 T162) := m8 co6 dc3
def bI4 (q7 C7 s4 s9 q8 s8 l7 n7 l3 l5 l6 k9 : Int) : Bool :=
 bif bif (a8 q7).toNat == 12 then true else (a8 q7).toNat == 3 then aO0 q7 C7 s4 s9 q8 s8 l7 n7 l3 l5 l6 k9 else false
def aO6 (q7 C7 s4 s9 q8 s8 l7 n7 l3 l5 l6 k9 : Int) : Bool :=
 bif bif (a8 q7).toNat == 12 then true else bif (a8 q7).toNat == 3 then true else false then
 aO0 q7 C7 s4 s9 q8 s8 l7 n7 l3 l5 l6 k9
 else false
def aF8 (q7 C7 s4 s9 q8 s8 l7 n7 l3 l5 l6 k9 : Int) : Bool :=
 iIn (a8 q7) 13 && true
theorem bU5 (q7 C7 s4 s9 q8 s8 l7 n7 l3 l5 l6 k9 : Int)  : aO6 q7 C7 s4 s9 q8 s8 l7 n7 l3 l5 l6 k9  = bI4 q7 C7 s4 s9 q8 s8 l7 n7 l3 l5 l6 k9  := by
  unfold aO6
  first | (simp only [cS1, cS2, cS3, cS4, cS6, cS7]; done) | (simp only [cS1, cS2, cS3, cS4, cS6, cS7]; kernel_rfl)
def as0 (q7 C7 s4 s9 q8 s8 l7 n7 l3 l5 l6 k9 : Int) : AV := .bl (bI4 q7 C7 s4 s9 q8 s8 l7 n7 l3 l5 l6 k9)
def aO4 (q7 C7 s4 s9 q8 s8 l7 n7 l3 l5 l6 k9 : Int) : AV := .bl (aO6 q7 C7 s4 s9 q8 s8 l7 n7 l3 l5 l6 k9)
theorem bV3 (q7 C7 s4 s9 q8 s8 l7 n7 l3 l5 l6 k9 : Int) : aO4 q7 C7 s4 s9 q8 s8 l7 n7 l3 l5 l6 k9 = as0 q7 C7 s4 s9 q8 s8 l7 n7 l3 l5 l6 k9 := by
  unfold aO4 as0
  simp only [bU5]
def hazard_WaitsA (g : Nat → AV) : AV := as0 (((g 0).fld 0).num) (((g 0).fld 1).num) (((g 0).fld 2).num) (((g 0).fld 3).num) (((g 0).fld 4).num) (((g 0).fld 5).num) (((g 1).fld 0).num) (((g 1).fld 1).num) (((g 1).fld 2).num) (((g 1).fld 3).num) (((g 1).fld 4).num) (((g 1).fld 5).num)
def hazard_WaitsB (g : Nat → AV) : Bool := aF8 (((g 0).fld 0).num) (((g 0).fld 1).num) (((g 0).fld 2).num) (((g 0).fld 3).num) (((g 0).fld 4).num) (((g 0).fld 5).num) (((g 1).fld 0).num) (((g 1).fld 1).num) (((g 1).fld 2).num) (((g 1).fld 3).num) (((g 1).fld 4).num) (((g 1).fld 5).num)
theorem cB6 (g : Nat → AV) : pO T162 100 false Tryz.f115 (r7 [sh1Q, sh1Q] 0 g) = some (hazard_WaitsB g, hazard_WaitsA g) := (by kernel_rfl : _ = some (hazard_WaitsB g, aO4 (((g 0).fld 0).num) (((g 0).fld 1).num) (((g 0).fld 2).num) (((g 0).fld 3).num) (((g 0).fld 4).num) (((g 0).fld 5).num) (((g 1).fld 0).num) (((g 1).fld 1).num) (((g 1).fld 2).num) (((g 1).fld 3).num) (((g 1).fld 4).num) (((g 1).fld 5).num))).trans (by rw [bV3]; rfl)
theorem cL9 : Plain Tryz.prog 115 Tryz.f115 := ⟨Tryz.func115, of_decide_eq_true (by kernel_rfl)⟩
def row115Q : List AV → Option (Option Bool × AV) := rowF [sh1Q, sh1Q] (some fun g => hazard_WaitsB g) hazard_WaitsA
theorem cE5 : D1 Tryz.prog 115 row115Q := R9 fun g hg => p6 mix A7 dx4 (o9 mix A7 dx4 D5 (fun _ h => o5 p8 h) 8) cL9 (fun c _ => m7 c) (cB6 g) hg
def T115 : List Row := (115, row115Q) :: T162
theorem dr8 : r0 Tryz.prog (m5 T115) := m8 cE5 dx4
def cL7 (q7 C7 s4 s9 q8 s8 : Int) : Bool :=
 bif iEq q7 51 then true else iLe 8 (a8 q7)
def bE3 (q7 C7 s4 s9 q8 s8 : Int) : Bool :=
 true
def aY6 (q7 C7 s4 s9 q8 s8 : Int) : AV := .bl (cL7 q7 C7 s4 s9 q8 s8)
def hazard_AloneA (g : Nat → AV) : AV := aY6 (((g 0).fld 0).num) (((g 0).fld 1).num) (((g 0).fld 2).num) (((g 0).fld 3).num) (((g 0).fld 4).num) (((g 0).fld 5).num)
def hazard_AloneB (g : Nat → AV) : Bool := bE3 (((g 0).fld 0).num) (((g 0).fld 1).num) (((g 0).fld 2).num) (((g 0).fld 3).num) (((g 0).fld 4).num) (((g 0).fld 5).num)
theorem cK4 (g : Nat → AV) : pO T115 100 false Tryz.f119 (r7 [sh1Q] 0 g) = some (hazard_AloneB g, hazard_AloneA g) := by kernel_rfl
theorem cC1 : Plain Tryz.prog 119 Tryz.f119 := ⟨Tryz.func119, of_decide_eq_true (by kernel_rfl)⟩
theorem cF6 (q7 C7 s4 s9 q8 s8 : Int) : bE3 q7 C7 s4 s9 q8 s8 = true := rfl
def row119Q : List AV → Option (Option Bool × AV) := rowF [sh1Q] none hazard_AloneA
theorem cB1 : D1 Tryz.prog 119 row119Q := s3 fun g => p6 mix A7 dr8 (o9 mix A7 dr8 D5 (fun _ h => o5 p8 h) 8) cC1 (fun c _ => m7 c) (cK4 g) (cF6 ..)
def T119 : List Row := (119, row119Q) :: T115
theorem dq0 : r0 Tryz.prog (m5 T119) := m8 cB1 dr8
def bM9 (f8 : Nat → Int) (b8 a7 : Int) (f9 : Bool) (g0 : Nat → Int) (a9 a1 a2 a3 : Int) : Nat → Int :=
 fun i0 => bif bif iEq a1 0 then iEq (g9 (iAnd .u64 a3 a2) 11 2) 2 else false then f8 i0 else f8 i0
def bP5 (f8 : Nat → Int) (b8 a7 : Int) (f9 : Bool) (g0 : Nat → Int) (a9 a1 a2 a3 : Int) : Int :=
 bif bif iEq a1 0 then iEq (g9 (iAnd .u64 a3 a2) 11 2) 2 else false then b8 else b8
def bN1 (f8 : Nat → Int) (b8 a7 : Int) (f9 : Bool) (g0 : Nat → Int) (a9 a1 a2 a3 : Int) : Int :=
 bif bif iEq a1 0 then iEq (g9 (iAnd .u64 a3 a2) 11 2) 2 else false then a7 else a7
def bM4 (f8 : Nat → Int) (b8 a7 : Int) (f9 : Bool) (g0 : Nat → Int) (a9 a1 a2 a3 : Int) : Bool :=
 bif bif iEq a1 0 then iEq (g9 (iAnd .u64 a3 a2) 11 2) 2 else false then f9 else f9
def M9 (f8 : Nat → Int) (b8 a7 : Int) (f9 : Bool) (g0 : Nat → Int) (a9 a1 a2 a3 : Int) : Nat → Int :=
 fun i0 => bif bif iEq a1 0 then iEq (g9 (iAnd .u64 a3 a2) 11 2) 2 else false then
 bif i0 == a1.toNat then iOr .u64 (T1 .u64 (g0 a1.toNat) a2) (F9 (iAnd .u64 a3 a2) 11 2 0) else g0 i0
 else bif i0 == a1.toNat then iOr .u64 (T1 .u64 (g0 a1.toNat) a2) (iAnd .u64 a3 a2) else g0 i0
def bN5 (f8 : Nat → Int) (b8 a7 : Int) (f9 : Bool) (g0 : Nat → Int) (a9 a1 a2 a3 : Int) : Int :=
 bif bif iEq a1 0 then iEq (g9 (iAnd .u64 a3 a2) 11 2) 2 else false then a9 else a9
def ad2 (f8 : Nat → Int) (b8 a7 : Int) (f9 : Bool) (g0 : Nat → Int) (a9 a1 a2 a3 : Int) : Bool :=
 bif bif iEq a1 0 then iEq (g9 (iAnd .u64 a3 a2) 11 2) 2 else false then iIn a1 29 && (iIn a1 29 && true) else iIn a1 29 && (iIn a1 29 && true)
theorem da3 (f8 : Nat → Int) (b8 a7 : Int) (f9 : Bool) (g0 : Nat → Int) (a9 a1 a2 a3 : Int) (i0 : Nat) : bM9 f8 b8 a7 f9 g0 a9 a1 a2 a3 i0 = f8 i0 := by
  unfold bM9
  first | (simp only [cS1, cS2, cS3, cS4, cS6, cS7]; done) | (simp only [cS1, cS2, cS3, cS4, cS6, cS7]; kernel_rfl)
theorem cX4 (f8 : Nat → Int) (b8 a7 : Int) (f9 : Bool) (g0 : Nat → Int) (a9 a1 a2 a3 : Int)  : bP5 f8 b8 a7 f9 g0 a9 a1 a2 a3  = b8 := by
  unfold bP5
  first | (simp only [cS1, cS2, cS3, cS4, cS6, cS7]; done) | (simp only [cS1, cS2, cS3, cS4, cS6, cS7]; kernel_rfl)
theorem cU0 (f8 : Nat → Int) (b8 a7 : Int) (f9 : Bool) (g0 : Nat → Int) (a9 a1 a2 a3 : Int)  : bN1 f8 b8 a7 f9 g0 a9 a1 a2 a3  = a7 := by
  unfold bN1
  first | (simp only [cS1, cS2, cS3, cS4, cS6, cS7]; done) | (simp only [cS1, cS2, cS3, cS4, cS6, cS7]; kernel_rfl)
theorem cQ0 (f8 : Nat → Int) (b8 a7 : Int) (f9 : Bool) (g0 : Nat → Int) (a9 a1 a2 a3 : Int)  : bM4 f8 b8 a7 f9 g0 a9 a1 a2 a3  = f9 := by
  unfold bM4
  first | (simp only [cS1, cS2, cS3, cS4, cS6, cS7]; done) | (simp only [cS1, cS2, cS3, cS4, cS6, cS7]; kernel_rfl)
theorem cO3 (f8 : Nat → Int) (b8 a7 : Int) (f9 : Bool) (g0 : Nat → Int) (a9 a1 a2 a3 : Int)  : bN5 f8 b8 a7 f9 g0 a9 a1 a2 a3  = a9 := by
  unfold bN5
  first | (simp only [cS1, cS2, cS3, cS4, cS6, cS7]; done) | (simp only [cS1, cS2, cS3, cS4, cS6, cS7]; kernel_rfl)
def bl5 (f8 : Nat → Int) (b8 a7 : Int) (f9 : Bool) (g0 : Nat → Int) (a9 a1 a2 a3 : Int) : AV := .agg [.arr 32 (.int .u64) fun i0 => .it .u64 (f8 i0), .it .u64 (b8), .it .i64 (a7), .bl (f9), .arr 29 (.int .u64) fun i0 => .it .u64 (M9 f8 b8 a7 f9 g0 a9 a1 a2 a3 i0), .it .u64 (a9)]
def bK7 (f8 : Nat → Int) (b8 a7 : Int) (f9 : Bool) (g0 : Nat → Int) (a9 a1 a2 a3 : Int) : AV := .agg [.arr 32 (.int .u64) fun i0 => .it .u64 (bM9 f8 b8 a7 f9 g0 a9 a1 a2 a3 i0), .it .u64 (bP5 f8 b8 a7 f9 g0 a9 a1 a2 a3), .it .i64 (bN1 f8 b8 a7 f9 g0 a9 a1 a2 a3), .bl (bM4 f8 b8 a7 f9 g0 a9 a1 a2 a3), .arr 29 (.int .u64) fun i0 => .it .u64 (M9 f8 b8 a7 f9 g0 a9 a1 a2 a3 i0), .it .u64 (bN5 f8 b8 a7 f9 g0 a9 a1 a2 a3)]
theorem cZ0 (f8 : Nat → Int) (b8 a7 : Int) (f9 : Bool) (g0 : Nat → Int) (a9 a1 a2 a3 : Int) : bK7 f8 b8 a7 f9 g0 a9 a1 a2 a3 = bl5 f8 b8 a7 f9 g0 a9 a1 a2 a3 := by
  unfold bK7 bl5
  simp only [da3, cX4, cU0, cQ0, cO3]
def csr_WithA (g : Nat → AV) : AV := bl5 (fun i0 => (((g 0).fld 0).ix i0).num) (((g 0).fld 1).num) (((g 0).fld 2).num) (((g 0).fld 3).bool) (fun i0 => (((g 0).fld 4).ix i0).num) (((g 0).fld 5).num) ((g 1).num) ((g 2).num) ((g 3).num)
def csr_WithB (g : Nat → AV) : Bool := ad2 (fun i0 => (((g 0).fld 0).ix i0).num) (((g 0).fld 1).num) (((g 0).fld 2).num) (((g 0).fld 3).bool) (fun i0 => (((g 0).fld 4).ix i0).num) (((g 0).fld 5).num) ((g 1).num) ((g 2).num) ((g 3).num)
theorem csr_WithE (g : Nat → AV) : pO T119 100 false Tryz.f130 (r7 [sh0Q, (.int .i64), (.int .u64), (.int .u64)] 0 g) = some (csr_WithB g, csr_WithA g) := (by kernel_rfl : _ = some (csr_WithB g, bK7 (fun i0 => (((g 0).fld 0).ix i0).num) (((g 0).fld 1).num) (((g 0).fld 2).num) (((g 0).fld 3).bool) (fun i0 => (((g 0).fld 4).ix i0).num) (((g 0).fld 5).num) ((g 1).num) ((g 2).num) ((g 3).num))).trans (by rw [cZ0]; rfl)
theorem csr_WithP : Plain Tryz.prog 130 Tryz.f130 := ⟨Tryz.func130, of_decide_eq_true (by kernel_rfl)⟩
def row130Q : List AV → Option (Option Bool × AV) := rowF [sh0Q, (.int .i64), (.int .u64), (.int .u64)] (some fun g => csr_WithB g) csr_WithA
theorem csr_WithO : D1 Tryz.prog 130 row130Q := R9 fun g hg => p6 mix A7 dq0 (o9 mix A7 dq0 D5 (fun _ h => o5 p8 h) 8) csr_WithP (fun c _ => m7 c) (csr_WithE g) hg
def T130 : List Row := (130, row130Q) :: T119
theorem ds3 : r0 Tryz.prog (m5 T130) := m8 csr_WithO dq0
def G0 (f8 : Nat → Int) (b8 a7 : Int) (f9 : Bool) (g0 : Nat → Int) (a9 a1 : Int) : Int :=
 bif iEq a1 256 then iAnd .u64 (g0 0) 786722
 else
 bif iEq a1 260 then iAnd .u64 (g0 3) 544
 else bif iEq a1 516 then iShr .u64 (iAnd .u64 (g0 3) 1088) 1 else bif iEq a1 3074 then a9 else bif iLe 0 (z9 a1) then g0 (z9 a1).toNat else 0
def cR4 (f8 : Nat → Int) (b8 a7 : Int) (f9 : Bool) (g0 : Nat → Int) (a9 a1 : Int) : Bool :=
 bif iEq a1 256 then true else bif iEq a1 260 then true else bif iEq a1 516 then true else bif iEq a1 3074 then true else iLe 0 (z9 a1)
def bL8 (f8 : Nat → Int) (b8 a7 : Int) (f9 : Bool) (g0 : Nat → Int) (a9 a1 : Int) : Bool :=
 bif iEq a1 256 then true else bif iEq a1 260 then true else bif iEq a1 516 then true else bif iEq a1 3074 then true else bif iLe 0 (z9 a1) then true else false
def bE7 (f8 : Nat → Int) (b8 a7 : Int) (f9 : Bool) (g0 : Nat → Int) (a9 a1 : Int) : Bool :=
 bif iEq a1 256 then true else bif iEq a1 260 then true else bif iEq a1 516 then true else bif iEq a1 3074 then true else bif iLe 0 (z9 a1) then iIn (z9 a1) 29 && true else true
theorem cX2 (f8 : Nat → Int) (b8 a7 : Int) (f9 : Bool) (g0 : Nat → Int) (a9 a1 : Int)  : bL8 f8 b8 a7 f9 g0 a9 a1  = cR4 f8 b8 a7 f9 g0 a9 a1  := by
  unfold bL8
  first | (simp only [cS1, cS2, cS3, cS4, cS6, cS7]; done) | (simp only [cS1, cS2, cS3, cS4, cS6, cS7]; kernel_rfl)
def bd5 (f8 : Nat → Int) (b8 a7 : Int) (f9 : Bool) (g0 : Nat → Int) (a9 a1 : Int) : AV := .tup [.it .u64 (G0 f8 b8 a7 f9 g0 a9 a1), .bl (cR4 f8 b8 a7 f9 g0 a9 a1)]
def bJ4 (f8 : Nat → Int) (b8 a7 : Int) (f9 : Bool) (g0 : Nat → Int) (a9 a1 : Int) : AV := .tup [.it .u64 (G0 f8 b8 a7 f9 g0 a9 a1), .bl (bL8 f8 b8 a7 f9 g0 a9 a1)]
theorem cP9 (f8 : Nat → Int) (b8 a7 : Int) (f9 : Bool) (g0 : Nat → Int) (a9 a1 : Int) : bJ4 f8 b8 a7 f9 g0 a9 a1 = bd5 f8 b8 a7 f9 g0 a9 a1 := by
  unfold bJ4 bd5
  simp only [cX2]
def csr_ReadA (g : Nat → AV) : AV := bd5 (fun i0 => (((g 0).fld 0).ix i0).num) (((g 0).fld 1).num) (((g 0).fld 2).num) (((g 0).fld 3).bool) (fun i0 => (((g 0).fld 4).ix i0).num) (((g 0).fld 5).num) ((g 1).num)
def csr_ReadB (g : Nat → AV) : Bool := bE7 (fun i0 => (((g 0).fld 0).ix i0).num) (((g 0).fld 1).num) (((g 0).fld 2).num) (((g 0).fld 3).bool) (fun i0 => (((g 0).fld 4).ix i0).num) (((g 0).fld 5).num) ((g 1).num)
theorem csr_ReadE (g : Nat → AV) : pO T130 100 false Tryz.f281 (r7 [sh0Q, (.int .i64)] 0 g) = some (csr_ReadB g, csr_ReadA g) := (by kernel_rfl : _ = some (csr_ReadB g, bJ4 (fun i0 => (((g 0).fld 0).ix i0).num) (((g 0).fld 1).num) (((g 0).fld 2).num) (((g 0).fld 3).bool) (fun i0 => (((g 0).fld 4).ix i0).num) (((g 0).fld 5).num) ((g 1).num))).trans (by rw [cP9]; rfl)
theorem csr_ReadP : Plain Tryz.prog 281 Tryz.f281 := ⟨Tryz.func281, of_decide_eq_true (by kernel_rfl)⟩
theorem csr_ReadT (f8 : Nat → Int) (b8 a7 : Int) (f9 : Bool) (g0 : Nat → Int) (a9 a1 : Int) : bE7 f8 b8 a7 f9 g0 a9 a1 = true := by
  unfold bE7
  have h := dD0 a1
  cases h1 : iLe 0 (z9 a1) with
  | true => rw [V8.2 ⟨J1.1 h1, h.2⟩]; simp
  | false => simp
def row281Q : List AV → Option (Option Bool × AV) := rowF [sh0Q, (.int .i64)] none csr_ReadA
theorem csr_ReadO : D1 Tryz.prog 281 row281Q := s3 fun g => p6 mix A7 ds3 (o9 mix A7 ds3 D5 (fun _ h => o5 p8 h) 8) csr_ReadP (fun c _ => m7 c) (csr_ReadE g) (csr_ReadT ..)
def T281 : List Row := (281, row281Q) :: T130
theorem dk5 : r0 Tryz.prog (m5 T281) := m8 csr_ReadO ds3
def ai0 (a0 : Int) : Int :=
 bif bif iLt a0 0 then true else iLe 29 a0 then 0 else U2 a0.toNat
def ck5 (a0 : Int) : Bool :=
 bif bif iLt a0 0 then true else iLe 29 a0 then true else iIn a0 29 && true
def cn8 (a0 : Int) : AV := .it .u64 (ai0 a0)
def csr_MaskA (g : Nat → AV) : AV := cn8 ((g 0).num)
def csr_MaskB (g : Nat → AV) : Bool := ck5 ((g 0).num)
theorem csr_MaskE (g : Nat → AV) : pO T281 100 false Tryz.f131 (r7 [(.int .i64)] 0 g) = some (csr_MaskB g, csr_MaskA g) := by kernel_rfl
theorem csr_MaskP : Plain Tryz.prog 131 Tryz.f131 := ⟨Tryz.func131, of_decide_eq_true (by kernel_rfl)⟩
theorem csr_MaskT (a0 : Int) : ck5 a0 = true := by
  unfold ck5
  cases h1 : iLt a0 0 with
  | true => simp
  | false =>
    cases h2 : iLe 29 a0 with
    | true => simp
    | false => rw [V8.2 ⟨Q2.1 h1, aD1.1 h2⟩]; simp
def row131Q : List AV → Option (Option Bool × AV) := rowF [(.int .i64)] none csr_MaskA
theorem csr_MaskO : D1 Tryz.prog 131 row131Q := s3 fun g => p6 mix A7 dk5 (o9 mix A7 dk5 D5 (fun _ h => o5 p8 h) 8) csr_MaskP (fun c _ => m7 c) (csr_MaskE g) (csr_MaskT ..)
def T131 : List Row := (131, row131Q) :: T281
theorem du3 : r0 Tryz.prog (m5 T131) := m8 csr_MaskO dk5
def bx7 (f8 : Nat → Int) (b8 a7 : Int) (f9 : Bool) (g0 : Nat → Int) (a9 a1 a2 : Int) : Nat → Int :=
 fun i0 => bif iEq a1 256 then f8 i0 else bif iEq a1 260 then f8 i0 else bif iEq a1 516 then f8 i0 else bif iEq a1 3074 then f8 i0 else bif iLt (z9 a1) 0 then f8 i0 else f8 i0
def bv0 (f8 : Nat → Int) (b8 a7 : Int) (f9 : Bool) (g0 : Nat → Int) (a9 a1 a2 : Int) : Int :=
 bif iEq a1 256 then b8 else bif iEq a1 260 then b8 else bif iEq a1 516 then b8 else bif iEq a1 3074 then b8 else bif iLt (z9 a1) 0 then b8 else b8
def bu3 (f8 : Nat → Int) (b8 a7 : Int) (f9 : Bool) (g0 : Nat → Int) (a9 a1 a2 : Int) : Int :=
 bif iEq a1 256 then a7 else bif iEq a1 260 then a7 else bif iEq a1 516 then a7 else bif iEq a1 3074 then a7 else bif iLt (z9 a1) 0 then a7 else a7
def bv4 (f8 : Nat → Int) (b8 a7 : Int) (f9 : Bool) (g0 : Nat → Int) (a9 a1 a2 : Int) : Bool :=
 bif iEq a1 256 then f9 else bif iEq a1 260 then f9 else bif iEq a1 516 then f9 else bif iEq a1 3074 then f9 else bif iLt (z9 a1) 0 then f9 else f9
def Q7 (f8 : Nat → Int) (b8 a7 : Int) (f9 : Bool) (g0 : Nat → Int) (a9 a1 a2 : Int) : Nat → Int :=
 fun i0 => bif iEq a1 256 then M9 f8 b8 a7 f9 g0 a9 0 786722 a2 i0
 else
 bif iEq a1 260 then M9 f8 b8 a7 f9 g0 a9 3 544 a2 i0
 else
 bif iEq a1 516 then M9 f8 b8 a7 f9 g0 a9 3 1088 (iShl .u64 a2 1) i0
 else
 bif iEq a1 3074 then g0 i0
 else bif iLt (z9 a1) 0 then g0 i0 else M9 f8 b8 a7 f9 g0 a9 (z9 a1) (ai0 (z9 a1)) a2 i0
def bx8 (f8 : Nat → Int) (b8 a7 : Int) (f9 : Bool) (g0 : Nat → Int) (a9 a1 a2 : Int) : Int :=
 bif iEq a1 256 then a9 else bif iEq a1 260 then a9 else bif iEq a1 516 then a9 else bif iEq a1 3074 then a9 else bif iLt (z9 a1) 0 then a9 else a9
def cy6 (f8 : Nat → Int) (b8 a7 : Int) (f9 : Bool) (g0 : Nat → Int) (a9 a1 a2 : Int) : Bool :=
 bif iEq a1 256 then true else bif iEq a1 260 then true else bif iEq a1 516 then true else bif iEq a1 3074 then true else bif iLt (z9 a1) 0 then false else true
def bn8 (f8 : Nat → Int) (b8 a7 : Int) (f9 : Bool) (g0 : Nat → Int) (a9 a1 a2 : Int) : Bool :=
 bif iEq a1 256 then ad2 f8 b8 a7 f9 g0 a9 0 786722 a2 && true
 else
 bif iEq a1 260 then ad2 f8 b8 a7 f9 g0 a9 3 544 a2 && true
 else
 bif iEq a1 516 then ad2 f8 b8 a7 f9 g0 a9 3 1088 (iShl .u64 a2 1) && true
 else
 bif iEq a1 3074 then true
 else bif iLt (z9 a1) 0 then true else ad2 f8 b8 a7 f9 g0 a9 (z9 a1) (ai0 (z9 a1)) a2 && true
theorem cL6 (f8 : Nat → Int) (b8 a7 : Int) (f9 : Bool) (g0 : Nat → Int) (a9 a1 a2 : Int) (i0 : Nat) : bx7 f8 b8 a7 f9 g0 a9 a1 a2 i0 = f8 i0 := by
  unfold bx7
  first | (simp only [cS1, cS2, cS3, cS4, cS6, cS7]; done) | (simp only [cS1, cS2, cS3, cS4, cS6, cS7]; kernel_rfl)
theorem cH8 (f8 : Nat → Int) (b8 a7 : Int) (f9 : Bool) (g0 : Nat → Int) (a9 a1 a2 : Int)  : bv0 f8 b8 a7 f9 g0 a9 a1 a2  = b8 := by
  unfold bv0
  first | (simp only [cS1, cS2, cS3, cS4, cS6, cS7]; done) | (simp only [cS1, cS2, cS3, cS4, cS6, cS7]; kernel_rfl)
theorem cC0 (f8 : Nat → Int) (b8 a7 : Int) (f9 : Bool) (g0 : Nat → Int) (a9 a1 a2 : Int)  : bu3 f8 b8 a7 f9 g0 a9 a1 a2  = a7 := by
  unfold bu3
  first | (simp only [cS1, cS2, cS3, cS4, cS6, cS7]; done) | (simp only [cS1, cS2, cS3, cS4, cS6, cS7]; kernel_rfl)
theorem cz3 (f8 : Nat → Int) (b8 a7 : Int) (f9 : Bool) (g0 : Nat → Int) (a9 a1 a2 : Int)  : bv4 f8 b8 a7 f9 g0 a9 a1 a2  = f9 := by
  unfold bv4
  first | (simp only [cS1, cS2, cS3, cS4, cS6, cS7]; done) | (simp only [cS1, cS2, cS3, cS4, cS6, cS7]; kernel_rfl)
theorem cB7 (f8 : Nat → Int) (b8 a7 : Int) (f9 : Bool) (g0 : Nat → Int) (a9 a1 a2 : Int)  : bx8 f8 b8 a7 f9 g0 a9 a1 a2  = a9 := by
  unfold bx8
  first | (simp only [cS1, cS2, cS3, cS4, cS6, cS7]; done) | (simp only [cS1, cS2, cS3, cS4, cS6, cS7]; kernel_rfl)
def aP8 (f8 : Nat → Int) (b8 a7 : Int) (f9 : Bool) (g0 : Nat → Int) (a9 a1 a2 : Int) : AV := .tup [.agg [.arr 32 (.int .u64) fun i0 => .it .u64 (f8 i0), .it .u64 (b8), .it .i64 (a7), .bl (f9), .arr 29 (.int .u64) fun i0 => .it .u64 (Q7 f8 b8 a7 f9 g0 a9 a1 a2 i0), .it .u64 (a9)], .bl (cy6 f8 b8 a7 f9 g0 a9 a1 a2)]
def bu8 (f8 : Nat → Int) (b8 a7 : Int) (f9 : Bool) (g0 : Nat → Int) (a9 a1 a2 : Int) : AV := .tup [.agg [.arr 32 (.int .u64) fun i0 => .it .u64 (bx7 f8 b8 a7 f9 g0 a9 a1 a2 i0), .it .u64 (bv0 f8 b8 a7 f9 g0 a9 a1 a2), .it .i64 (bu3 f8 b8 a7 f9 g0 a9 a1 a2), .bl (bv4 f8 b8 a7 f9 g0 a9 a1 a2), .arr 29 (.int .u64) fun i0 => .it .u64 (Q7 f8 b8 a7 f9 g0 a9 a1 a2 i0), .it .u64 (bx8 f8 b8 a7 f9 g0 a9 a1 a2)], .bl (cy6 f8 b8 a7 f9 g0 a9 a1 a2)]
theorem cL3 (f8 : Nat → Int) (b8 a7 : Int) (f9 : Bool) (g0 : Nat → Int) (a9 a1 a2 : Int) : bu8 f8 b8 a7 f9 g0 a9 a1 a2 = aP8 f8 b8 a7 f9 g0 a9 a1 a2 := by
  unfold bu8 aP8
  simp only [cL6, cH8, cC0, cz3, cB7]
def csr_WriteA (g : Nat → AV) : AV := aP8 (fun i0 => (((g 0).fld 0).ix i0).num) (((g 0).fld 1).num) (((g 0).fld 2).num) (((g 0).fld 3).bool) (fun i0 => (((g 0).fld 4).ix i0).num) (((g 0).fld 5).num) ((g 1).num) ((g 2).num)
def csr_WriteB (g : Nat → AV) : Bool := bn8 (fun i0 => (((g 0).fld 0).ix i0).num) (((g 0).fld 1).num) (((g 0).fld 2).num) (((g 0).fld 3).bool) (fun i0 => (((g 0).fld 4).ix i0).num) (((g 0).fld 5).num) ((g 1).num) ((g 2).num)
theorem dQ7 (g : Nat → AV) : pO T131 100 false Tryz.f282 (r7 [sh0Q, (.int .i64), (.int .u64)] 0 g) = some (csr_WriteB g, csr_WriteA g) := (by kernel_rfl : _ = some (csr_WriteB g, bu8 (fun i0 => (((g 0).fld 0).ix i0).num) (((g 0).fld 1).num) (((g 0).fld 2).num) (((g 0).fld 3).bool) (fun i0 => (((g 0).fld 4).ix i0).num) (((g 0).fld 5).num) ((g 1).num) ((g 2).num))).trans (by rw [cL3]; rfl)
theorem dL5 : Plain Tryz.prog 282 Tryz.f282 := ⟨Tryz.func282, of_decide_eq_true (by kernel_rfl)⟩
theorem dW9 (f8 : Nat → Int) (b8 a7 : Int) (f9 : Bool) (g0 : Nat → Int) (a9 a1 a2 : Int) : bn8 f8 b8 a7 f9 g0 a9 a1 a2 = true := by
  unfold bn8 ad2
  have h := dD0 a1
  have i0 : iIn 0 29 = true := by decide
  have i3 : iIn 3 29 = true := by decide
  rw [i0, i3]
  cases h1 : iLt (z9 a1) 0 with
  | false => rw [V8.2 ⟨Q2.1 h1, h.2⟩]; simp
  | true => simp
def row282Q : List AV → Option (Option Bool × AV) := rowF [sh0Q, (.int .i64), (.int .u64)] none csr_WriteA
theorem dX7 : D1 Tryz.prog 282 row282Q := s3 fun g => p6 mix A7 du3 (o9 mix A7 du3 D5 (fun _ h => o5 p8 h) 8) dL5 (fun c _ => m7 c) (dQ7 g) (dW9 ..)
def T282 : List Row := (282, row282Q) :: T131
theorem dl6 : r0 Tryz.prog (m5 T282) := m8 dX7 du3
def aP6 (a0 a1 : Int) (a2 a3 a4 : Bool) : Bool :=
 bif !iEq (iAnd .i64 a0 2) 2 && a4 then iIn a1 3 && true else (!!iEq (iAnd .i64 a0 2) 2 || !a4) && (iIn a1 3 && true)
def bo0 (a0 a1 : Int) (a2 a3 a4 : Bool) : Bool :=
 bif !iEq (iAnd .i64 a0 2) 2 && a4 then
 bif a1.toNat == 2 then iEq (iAnd .i64 a0 132) 132
 else bif a1.toNat == 1 then bif iEq (iAnd .i64 a0 2) 2 then true else bif a4 then iEq (iAnd .i64 a0 8) 8 else false else bif a1.toNat == 0 then iEq (iAnd .i64 a0 8) 8 else false
 else bif a1.toNat == 2 then iEq (iAnd .i64 a0 132) 132 else bif a1.toNat == 1 then iEq (iAnd .i64 a0 2) 2 else bif a1.toNat == 0 then iEq (iAnd .i64 a0 8) 8 else false
def bq1 (a0 a1 : Int) (a2 a3 a4 : Bool) : Bool :=
 bif !iEq (iAnd .i64 a0 2) 2 && a4 then
 bif a1.toNat == 2 then iEq (iAnd .i64 a0 132) 132
 else bif a1.toNat == 1 then bif iEq (iAnd .i64 a0 2) 2 then true else bif a4 then iEq (iAnd .i64 a0 8) 8 else false else bif a1.toNat == 0 then iEq (iAnd .i64 a0 8) 8 else false
 else
 bif a1.toNat == 2 then iEq (iAnd .i64 a0 132) 132
 else bif a1.toNat == 1 then bif iEq (iAnd .i64 a0 2) 2 then true else false else bif a1.toNat == 0 then iEq (iAnd .i64 a0 8) 8 else false
def O1 (a0 a1 : Int) (a2 a3 a4 : Bool) : Bool :=
 bif !a2 then
 bif
 bif bif bif !iEq (iAnd .i64 a0 64) 64 then true else !bif !iEq (iAnd .i64 a0 16) 16 then true else bif a3 then iNe a1 0 else false then true else iLt a1 0 then true
 else iLt 2 a1 then
 false
 else bo0 a0 a1 a2 a3 a4
 else bif bif bif bif !iEq (iAnd .i64 a0 64) 64 then true else !iEq (iAnd .i64 a0 16) 16 then true else iLt a1 0 then true else iLt 2 a1 then false else bo0 a0 a1 a2 a3 a4
def cn6 (a0 a1 : Int) (a2 a3 a4 : Bool) : Bool :=
 bif !a2 then
 bif
 bif bif bif !iEq (iAnd .i64 a0 64) 64 then true else !bif !iEq (iAnd .i64 a0 16) 16 then true else bif a3 then iNe a1 0 else false then true else iLt a1 0 then true
 else iLt 2 a1 then
 false
 else bq1 a0 a1 a2 a3 a4
 else bif bif bif bif !iEq (iAnd .i64 a0 64) 64 then true else !iEq (iAnd .i64 a0 16) 16 then true else iLt a1 0 then true else iLt 2 a1 then false else bq1 a0 a1 a2 a3 a4
def ca2 (a0 a1 : Int) (a2 a3 a4 : Bool) : Bool :=
 bif !a2 then
 bif
 bif bif bif !iEq (iAnd .i64 a0 64) 64 then true else !bif !iEq (iAnd .i64 a0 16) 16 then true else bif a3 then iNe a1 0 else false then true else iLt a1 0 then true
 else iLt 2 a1 then
 true
 else aP6 a0 a1 a2 a3 a4
 else bif bif bif bif !iEq (iAnd .i64 a0 64) 64 then true else !iEq (iAnd .i64 a0 16) 16 then true else iLt a1 0 then true else iLt 2 a1 then true else aP6 a0 a1 a2 a3 a4
theorem dg3 (a0 a1 : Int) (a2 a3 a4 : Bool)  : cn6 a0 a1 a2 a3 a4  = O1 a0 a1 a2 a3 a4  := by
  unfold cn6
  first | (simp only [aP6, bo0, bq1, cS1, cS2, cS3, cS4, cS6, cS7]; done) | (simp only [aP6, bo0, bq1, cS1, cS2, cS3, cS4, cS6, cS7]; kernel_rfl)
def bD2 (a0 a1 : Int) (a2 a3 a4 : Bool) : AV := .bl (O1 a0 a1 a2 a3 a4)
def ci6 (a0 a1 : Int) (a2 a3 a4 : Bool) : AV := .bl (cn6 a0 a1 a2 a3 a4)
theorem dt3 (a0 a1 : Int) (a2 a3 a4 : Bool) : ci6 a0 a1 a2 a3 a4 = bD2 a0 a1 a2 a3 a4 := by
  unfold ci6 bD2
  simp only [dg3]
def pte_MayA (g : Nat → AV) : AV := bD2 ((g 0).num) ((g 1).num) ((g 2).bool) ((g 3).bool) ((g 4).bool)
def pte_MayB (g : Nat → AV) : Bool := ca2 ((g 0).num) ((g 1).num) ((g 2).bool) ((g 3).bool) ((g 4).bool)
theorem pte_MayE (g : Nat → AV) : pO T282 100 false Tryz.f106 (r7 [(.int .i64), (.int .i64), .bool, .bool, .bool] 0 g) = some (pte_MayB g, pte_MayA g) := (by kernel_rfl : _ = some (pte_MayB g, ci6 ((g 0).num) ((g 1).num) ((g 2).bool) ((g 3).bool) ((g 4).bool))).trans (by rw [dt3]; rfl)
theorem pte_MayP : Plain Tryz.prog 106 Tryz.f106 := ⟨Tryz.func106, of_decide_eq_true (by kernel_rfl)⟩
theorem pte_MayT (a0 a1 : Int) (a2 a3 a4 : Bool) : ca2 a0 a1 a2 a3 a4 = true := by
  unfold ca2 aP6
  cases h1 : iLt a1 0 with
  | true => simp
  | false =>
    cases h2 : iLt 2 a1 with
    | true => simp
    | false =>
      have h3 : iIn a1 3 = true := by rw [V8]; rw [Q2] at h1 h2; omega
      cases iEq (iAnd IntKind.i64 a0 2) 2 <;> cases a4 <;> simp [h3]
def row106Q : List AV → Option (Option Bool × AV) := rowF [(.int .i64), (.int .i64), .bool, .bool, .bool] none pte_MayA
theorem pte_MayO : D1 Tryz.prog 106 row106Q := s3 fun g => p6 mix A7 dl6 (o9 mix A7 dl6 D5 (fun _ h => o5 p8 h) 8) pte_MayP (fun c _ => m7 c) (pte_MayE g) (pte_MayT ..)
def T106 : List Row := (106, row106Q) :: T282
theorem dw1 : r0 Tryz.prog (m5 T106) := m8 pte_MayO dl6
def aA2 (a0 : Int) : Int :=
 g8 .i64 (g9 a0 8 8)
def cy4 (a0 : Int) : Bool :=
 true
def bK6 (a0 : Int) : AV := .it .i64 (aA2 a0)
def pte_FrameA (g : Nat → AV) : AV := bK6 ((g 0).num)
def pte_FrameB (g : Nat → AV) : Bool := cy4 ((g 0).num)
theorem dQ5 (g : Nat → AV) : pO T106 100 false Tryz.f108 (r7 [(.int .u64)] 0 g) = some (pte_FrameB g, pte_FrameA g) := by kernel_rfl
theorem dY2 : Plain Tryz.prog 108 Tryz.f108 := ⟨Tryz.func108, of_decide_eq_true (by kernel_rfl)⟩
theorem dO6 (a0 : Int) : cy4 a0 = true := rfl
def row108Q : List AV → Option (Option Bool × AV) := rowF [(.int .u64)] none pte_FrameA
theorem dM5 : D1 Tryz.prog 108 row108Q := s3 fun g => p6 mix A7 dw1 (o9 mix A7 dw1 D5 (fun _ h => o5 p8 h) 8) dY2 (fun c _ => m7 c) (dQ5 g) (dO6 ..)
def T108 : List Row := (108, row108Q) :: T106
theorem dn1 : r0 Tryz.prog (m5 T108) := m8 dM5 dw1
def cE0 (f8 : Nat → Int) (b8 a7 : Int) (f9 : Bool) (g0 : Nat → Int) (a9 a1 : Int) : Bool :=
 bif !o7 f8 b8 a7 f9 g0 a9 a1 63 then false else true
def cG1 (f8 : Nat → Int) (b8 a7 : Int) (f9 : Bool) (g0 : Nat → Int) (a9 a1 : Int) : Int :=
 bif !o7 f8 b8 a7 f9 g0 a9 a1 63 then 0 else g8 .i64 (g9 (g0 a1.toNat) 16 8)
def cA9 (f8 : Nat → Int) (b8 a7 : Int) (f9 : Bool) (g0 : Nat → Int) (a9 a1 : Int) : Int :=
 bif !o7 f8 b8 a7 f9 g0 a9 a1 63 then 0 else g8 .i64 (g9 (g0 a1.toNat) 0 8)
def bv9 (f8 : Nat → Int) (b8 a7 : Int) (f9 : Bool) (g0 : Nat → Int) (a9 a1 : Int) : Bool :=
 D3 f8 b8 a7 f9 g0 a9 a1 63 &&
 bif !o7 f8 b8 a7 f9 g0 a9 a1 63 then true else iIn a1 29 && (iIn a1 29 && true)
def dh3 (f8 : Nat → Int) (b8 a7 : Int) (f9 : Bool) (g0 : Nat → Int) (a9 a1 : Int) : AV := .tup [.bl (cE0 f8 b8 a7 f9 g0 a9 a1), .it .i64 (cG1 f8 b8 a7 f9 g0 a9 a1), .it .i64 (cA9 f8 b8 a7 f9 g0 a9 a1)]
def two_onA (g : Nat → AV) : AV := dh3 (fun i0 => (((g 0).fld 0).ix i0).num) (((g 0).fld 1).num) (((g 0).fld 2).num) (((g 0).fld 3).bool) (fun i0 => (((g 0).fld 4).ix i0).num) (((g 0).fld 5).num) ((g 1).num)
def two_onB (g : Nat → AV) : Bool := bv9 (fun i0 => (((g 0).fld 0).ix i0).num) (((g 0).fld 1).num) (((g 0).fld 2).num) (((g 0).fld 3).bool) (fun i0 => (((g 0).fld 4).ix i0).num) (((g 0).fld 5).num) ((g 1).num)
theorem two_onE (g : Nat → AV) : pO T108 100 false Tryz.f100 (r7 [sh0Q, (.int .i64)] 0 g) = some (two_onB g, two_onA g) := by kernel_rfl
theorem two_onP : Plain Tryz.prog 100 Tryz.f100 := ⟨Tryz.func100, of_decide_eq_true (by kernel_rfl)⟩
def row100Q : List AV → Option (Option Bool × AV) := rowF [sh0Q, (.int .i64)] (some fun g => two_onB g) two_onA
theorem two_onO : D1 Tryz.prog 100 row100Q := R9 fun g hg => p6 mix A7 dn1 (o9 mix A7 dn1 D5 (fun _ h => o5 p8 h) 8) two_onP (fun c _ => m7 c) (two_onE g) hg
def T100 : List Row := (100, row100Q) :: T108
theorem dg7 : r0 Tryz.prog (m5 T100) := m8 two_onO dn1
def J0 (f8 : Nat → Int) (b8 a7 : Int) (f9 : Bool) (g0 : Nat → Int) (a9 a1 : Int) (a2 : Bool) : Bool :=
 bif iEq a1 3 then false
 else bif !a2 then cE0 f8 b8 a7 f9 g0 a9 15 else cE0 f8 b8 a7 f9 g0 a9 28
def ak2 (f8 : Nat → Int) (b8 a7 : Int) (f9 : Bool) (g0 : Nat → Int) (a9 a1 : Int) (a2 : Bool) : Bool :=
 bif iEq a1 3 then false else bif !a2 then false else cE0 f8 b8 a7 f9 g0 a9 21
def P6 (f8 : Nat → Int) (b8 a7 : Int) (f9 : Bool) (g0 : Nat → Int) (a9 a1 : Int) (a2 : Bool) : Bool :=
 bif iEq a1 3 then false
 else bif !a2 then o7 f8 b8 a7 f9 g0 a9 0 18 else o7 f8 b8 a7 f9 g0 a9 22 18
def P7 (f8 : Nat → Int) (b8 a7 : Int) (f9 : Bool) (g0 : Nat → Int) (a9 a1 : Int) (a2 : Bool) : Bool :=
 bif iEq a1 3 then false
 else
 bif !a2 then o7 f8 b8 a7 f9 g0 a9 0 19
 else bif o7 f8 b8 a7 f9 g0 a9 22 19 then true else o7 f8 b8 a7 f9 g0 a9 0 19
def af5 (f8 : Nat → Int) (b8 a7 : Int) (f9 : Bool) (g0 : Nat → Int) (a9 a1 : Int) (a2 : Bool) : Int :=
 bif iEq a1 3 then 0 else bif !a2 then cG1 f8 b8 a7 f9 g0 a9 15 else cG1 f8 b8 a7 f9 g0 a9 28
def af9 (f8 : Nat → Int) (b8 a7 : Int) (f9 : Bool) (g0 : Nat → Int) (a9 a1 : Int) (a2 : Bool) : Int :=
 bif iEq a1 3 then 0 else bif !a2 then 0 else cG1 f8 b8 a7 f9 g0 a9 21
def ak3 (f8 : Nat → Int) (b8 a7 : Int) (f9 : Bool) (g0 : Nat → Int) (a9 a1 : Int) (a2 : Bool) : Int :=
 bif iEq a1 3 then 0 else bif !a2 then cA9 f8 b8 a7 f9 g0 a9 15 else cA9 f8 b8 a7 f9 g0 a9 28
def aj5 (f8 : Nat → Int) (b8 a7 : Int) (f9 : Bool) (g0 : Nat → Int) (a9 a1 : Int) (a2 : Bool) : Int :=
 bif iEq a1 3 then 0 else bif !a2 then 0 else cA9 f8 b8 a7 f9 g0 a9 21
def cA2 (f8 : Nat → Int) (b8 a7 : Int) (f9 : Bool) (g0 : Nat → Int) (a9 a1 : Int) (a2 : Bool) : Bool :=
 bif iEq a1 3 then true
 else
 bif !a2 then
 bv9 f8 b8 a7 f9 g0 a9 15 &&
 (D3 f8 b8 a7 f9 g0 a9 0 18 && (D3 f8 b8 a7 f9 g0 a9 0 19 && true))
 else
 bv9 f8 b8 a7 f9 g0 a9 28 &&
 (bv9 f8 b8 a7 f9 g0 a9 21 &&
 (D3 f8 b8 a7 f9 g0 a9 22 18 &&
 (D3 f8 b8 a7 f9 g0 a9 22 19 &&
 ((!!o7 f8 b8 a7 f9 g0 a9 22 19 || D3 f8 b8 a7 f9 g0 a9 0 19) && true))))
def cH1 (f8 : Nat → Int) (b8 a7 : Int) (f9 : Bool) (g0 : Nat → Int) (a9 a1 : Int) (a2 : Bool) : AV := .agg [.bl (J0 f8 b8 a7 f9 g0 a9 a1 a2), .bl (ak2 f8 b8 a7 f9 g0 a9 a1 a2), .bl (P6 f8 b8 a7 f9 g0 a9 a1 a2), .bl (P7 f8 b8 a7 f9 g0 a9 a1 a2), .it .i64 (af5 f8 b8 a7 f9 g0 a9 a1 a2), .it .i64 (af9 f8 b8 a7 f9 g0 a9 a1 a2), .it .i64 (ak3 f8 b8 a7 f9 g0 a9 a1 a2), .it .i64 (aj5 f8 b8 a7 f9 g0 a9 a1 a2)]
def two_AskA (g : Nat → AV) : AV := cH1 (fun i0 => (((g 0).fld 0).ix i0).num) (((g 0).fld 1).num) (((g 0).fld 2).num) (((g 0).fld 3).bool) (fun i0 => (((g 0).fld 4).ix i0).num) (((g 0).fld 5).num) ((g 1).num) ((g 2).bool)
def two_AskB (g : Nat → AV) : Bool := cA2 (fun i0 => (((g 0).fld 0).ix i0).num) (((g 0).fld 1).num) (((g 0).fld 2).num) (((g 0).fld 3).bool) (fun i0 => (((g 0).fld 4).ix i0).num) (((g 0).fld 5).num) ((g 1).num) ((g 2).bool)
theorem two_AskE (g : Nat → AV) : pO T100 100 false Tryz.f59 (r7 [sh0Q, (.int .i64), .bool] 0 g) = some (two_AskB g, two_AskA g) := by kernel_rfl
theorem two_AskP : Plain Tryz.prog 59 Tryz.f59 := ⟨Tryz.func59, of_decide_eq_true (by kernel_rfl)⟩
theorem two_AskT (f8 : Nat → Int) (b8 a7 : Int) (f9 : Bool) (g0 : Nat → Int) (a9 a1 : Int) (a2 : Bool) : cA2 f8 b8 a7 f9 g0 a9 a1 a2 = true := by simp [cA2, bv9, D3, Go.Ev.iIn]
def row59Q : List AV → Option (Option Bool × AV) := rowF [sh0Q, (.int .i64), .bool] none two_AskA
theorem two_AskO : D1 Tryz.prog 59 row59Q := s3 fun g => p6 mix A7 dg7 (o9 mix A7 dg7 D5 (fun _ h => o5 p8 h) 8) two_AskP (fun c _ => m7 c) (two_AskE g) (two_AskT ..)
def T59 : List Row := (59, row59Q) :: T100
theorem T59_ok : r0 Tryz.prog (m5 T59) := m8 two_AskO dg7
def av3 (a0 : Int) (a1 : Nat → Int) : Int :=
 a1 (iMin (iMax a0 0) 2).toNat
def aY2 (a0 : Int) (a1 : Nat → Int) : Bool :=
 iIn (iMin (iMax a0 0) 2) 3 && true
def aV3 (a0 : Int) (a1 : Nat → Int) : AV := .it .u64 (av3 a0 a1)
def access_causeA (g : Nat → AV) : AV := aV3 ((g 0).num) (fun i0 => ((g 1).ix i0).num)
def access_causeB (g : Nat → AV) : Bool := aY2 ((g 0).num) (fun i0 => ((g 1).ix i0).num)
theorem cB9 (g : Nat → AV) : pO T59 100 false Tryz.f257 (r7 [(.int .i64), (.arr 3 (.int .u64))] 0 g) = some (access_causeB g, access_causeA g) := by kernel_rfl
theorem cK6 : Plain Tryz.prog 257 Tryz.f257 := ⟨Tryz.func257, of_decide_eq_true (by kernel_rfl)⟩
theorem cK1 (a0 : Int) (a1 : Nat → Int) : aY2 a0 a1 = true := by
  unfold aY2
  rw [Bool.and_true, V8, aO5, aD6]
  split <;> split <;> omega
def row257Q : List AV → Option (Option Bool × AV) := rowF [(.int .i64), (.arr 3 (.int .u64))] none access_causeA
theorem cB3 : D1 Tryz.prog 257 row257Q := s3 fun g => p6 mix A7 T59_ok (o9 mix A7 T59_ok D5 (fun _ h => o5 p8 h) 8) cK6 (fun c _ => m7 c) (cB9 g) (cK1 ..)
def T257 : List Row := (257, row257Q) :: T59
theorem dk6 : r0 Tryz.prog (m5 T257) := m8 cB3 T59_ok
def aa6 (a0 a1 : Int) (a2 : Bool) : Int :=
 av3 a1 fun i0 => bif i0 == 2 then 7 else bif i0 == 1 then 5 else bif i0 == 0 then 1 else 0
def cj2 (a0 a1 : Int) (a2 : Bool) : Bool :=
 true
def bA4 (a0 a1 : Int) (a2 : Bool) : AV := .agg [.it .u64 (aa6 a0 a1 a2), .it .u64 a0, .it .u64 0, .bl a2]
def access_BadA (g : Nat → AV) : AV := bA4 ((g 0).num) ((g 1).num) ((g 2).bool)
def access_BadB (g : Nat → AV) : Bool := cj2 ((g 0).num) ((g 1).num) ((g 2).bool)
theorem di0 (g : Nat → AV) : pO T257 100 false Tryz.f230 (r7 [(.int .u64), (.int .i64), .bool] 0 g) = some (access_BadB g, access_BadA g) := by kernel_rfl
theorem di3 : Plain Tryz.prog 230 Tryz.f230 := ⟨Tryz.func230, of_decide_eq_true (by kernel_rfl)⟩
theorem dm0 (a0 a1 : Int) (a2 : Bool) : cj2 a0 a1 a2 = true := rfl
def row230Q : List AV → Option (Option Bool × AV) := rowF [(.int .u64), (.int .i64), .bool] none access_BadA
theorem di2 : D1 Tryz.prog 230 row230Q := s3 fun g => p6 mix A7 dk6 (o9 mix A7 dk6 D5 (fun _ h => o5 p8 h) 8) di3 (fun c _ => m7 c) (di0 g) (dm0 ..)
def T230 : List Row := (230, row230Q) :: T257
theorem dx5 : r0 Tryz.prog (m5 T230) := m8 di2 dk6
def Y9 (a0 a1 a2 : Int) (a3 : Bool) : Int :=
 bif bif bif bif iNe a1 1 then iNe a1 2 else false then iNe a1 4 else false then iNe a1 8 else false then aa6 a0 a2 a3
 else bif iNe (iRem a0 (g8 .u64 a1)) 0 then av3 a2 fun i0 => bif i0 == 2 then 6 else bif i0 == 1 then 4 else 0 else 0
def aD9 (a0 a1 a2 : Int) (a3 : Bool) : Int :=
 bif bif bif bif iNe a1 1 then iNe a1 2 else false then iNe a1 4 else false then iNe a1 8 else false then aa6 a0 a2 a3
 else bif iNe (iRem a0 (g8 .u64 a1)) 0 then av3 a2 fun i0 => bif i0 == 2 then 6 else bif i0 == 1 then 4 else bif i0 == 0 then 0 else 0 else 0
def Z6 (a0 a1 a2 : Int) (a3 : Bool) : Int :=
 bif bif bif bif iNe a1 1 then iNe a1 2 else false then iNe a1 4 else false then iNe a1 8 else false then a0 else bif iNe (iRem a0 (g8 .u64 a1)) 0 then a0 else 0
def aE2 (a0 a1 a2 : Int) (a3 : Bool) : Int :=
 bif bif bif bif iNe a1 1 then iNe a1 2 else false then iNe a1 4 else false then iNe a1 8 else false then 0 else bif iNe (iRem a0 (g8 .u64 a1)) 0 then 0 else 0
def av9 (a0 a1 a2 : Int) (a3 : Bool) : Bool :=
 bif bif bif bif iNe a1 1 then iNe a1 2 else false then iNe a1 4 else false then iNe a1 8 else false then a3 else bif iNe (iRem a0 (g8 .u64 a1)) 0 then a3 else false
def v4 (a0 a1 a2 : Int) (a3 : Bool) : Bool :=
 bif bif bif bif iNe a1 1 then iNe a1 2 else false then iNe a1 4 else false then iNe a1 8 else false then false else bif iNe (iRem a0 (g8 .u64 a1)) 0 then false else true
def at2 (a0 a1 a2 : Int) (a3 : Bool) : Bool :=
 bif bif bif bif iNe a1 1 then iNe a1 2 else false then iNe a1 4 else false then iNe a1 8 else false then true
 else iNe (g8 .u64 a1) 0 && bif iNe (iRem a0 (g8 .u64 a1)) 0 then true else true
theorem bI6 (a0 a1 a2 : Int) (a3 : Bool)  : aD9 a0 a1 a2 a3  = Y9 a0 a1 a2 a3  := by
  unfold aD9
  first | (simp only [cS1, cS2, cS3, cS4, cS6, cS7]; done) | (simp only [cS1, cS2, cS3, cS4, cS6, cS7]; kernel_rfl)
theorem bE6 (a0 a1 a2 : Int) (a3 : Bool)  : aE2 a0 a1 a2 a3  = 0 := by
  unfold aE2
  first | (simp only [cS1, cS2, cS3, cS4, cS6, cS7]; done) | (simp only [cS1, cS2, cS3, cS4, cS6, cS7]; kernel_rfl)
def ah7 (a0 a1 a2 : Int) (a3 : Bool) : AV := .tup [.agg [.it .u64 (Y9 a0 a1 a2 a3), .it .u64 (Z6 a0 a1 a2 a3), .it .u64 0, .bl (av9 a0 a1 a2 a3)], .bl (v4 a0 a1 a2 a3)]
def aD2 (a0 a1 a2 : Int) (a3 : Bool) : AV := .tup [.agg [.it .u64 (aD9 a0 a1 a2 a3), .it .u64 (Z6 a0 a1 a2 a3), .it .u64 (aE2 a0 a1 a2 a3), .bl (av9 a0 a1 a2 a3)], .bl (v4 a0 a1 a2 a3)]
theorem bJ1 (a0 a1 a2 : Int) (a3 : Bool) : aD2 a0 a1 a2 a3 = ah7 a0 a1 a2 a3 := by
  unfold aD2 ah7
  simp only [bI6, bE6]
def access_AlignedA (g : Nat → AV) : AV := ah7 ((g 0).num) ((g 1).num) ((g 2).num) ((g 3).bool)
def access_AlignedB (g : Nat → AV) : Bool := at2 ((g 0).num) ((g 1).num) ((g 2).num) ((g 3).bool)
theorem ce8 (g : Nat → AV) : pO T230 100 false Tryz.f193 (r7 [(.int .u64), (.int .i64), (.int .i64), .bool] 0 g) = some (access_AlignedB g, access_AlignedA g) := (by kernel_rfl : _ = some (access_AlignedB g, aD2 ((g 0).num) ((g 1).num) ((g 2).num) ((g 3).bool))).trans (by rw [bJ1]; rfl)
theorem cb4 : Plain Tryz.prog 193 Tryz.f193 := ⟨Tryz.func193, of_decide_eq_true (by kernel_rfl)⟩
theorem ce6 (a0 a1 a2 : Int) (a3 : Bool) : at2 a0 a1 a2 a3 = true := by
  unfold at2
  cases h1 : iNe a1 1 with
  | false => rw [O7] at h1; subst h1; simp [show iNe (g8 IntKind.u64 1) 0 = true from rfl]
  | true =>
  cases h2 : iNe a1 2 with
  | false => rw [O7] at h2; subst h2; simp [show iNe (g8 IntKind.u64 2) 0 = true from rfl]
  | true =>
  cases h4 : iNe a1 4 with
  | false => rw [O7] at h4; subst h4; simp [show iNe (g8 IntKind.u64 4) 0 = true from rfl]
  | true =>
  cases h8 : iNe a1 8 with
  | false => rw [O7] at h8; subst h8; simp [show iNe (g8 IntKind.u64 8) 0 = true from rfl]
  | true => simp
def row193Q : List AV → Option (Option Bool × AV) := rowF [(.int .u64), (.int .i64), (.int .i64), .bool] none access_AlignedA
theorem cm2 : D1 Tryz.prog 193 row193Q := s3 fun g => p6 mix A7 dx5 (o9 mix A7 dx5 D5 (fun _ h => o5 p8 h) 8) cb4 (fun c _ => m7 c) (ce8 g) (ce6 ..)
def T193 : List Row := (193, row193Q) :: T230
theorem dA1 : r0 Tryz.prog (m5 T193) := m8 cm2 dx5
end
end Go.Proofs.YtbkdnehnhbaieaaGreat.PV
