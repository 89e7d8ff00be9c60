/-
  What bits a status has, into a trap and back; the statements TrapTells, TrapBack. No condition.
-/
import Derived.Test.YtjnpaegoobclfaaLb
import Derived.Test.YtjnpaegoobclfaaFc
set_option linter.unusedVariables false
set_option linter.unusedSimpArgs false
namespace Go.Proofs.Ytjnpaegoobclfaa.PV
open Go Go.Ev

theorem set_U (v b : Int) (x : Bool) : U (sallyportref16_set0 v b x) := by
  unfold sallyportref16_set0
  cases x
  · exact U_andNot _ _
  · exact U_or _ _

theorem set_bit (v a : Int) (x : Bool) (b : Nat) (ha : 0 ≤ a ∧ a < 64) (hb : b < 64) : (W (sallyportref16_set0 v a x)).getLsbD b = bif a.toNat == b then x else (W v).getLsbD b := by
  obtain ⟨n, rfl⟩ := Int.eq_ofNat_of_zero_le ha.1
  have hn : n < 64 := by omega
  have hm : ∀ i, i < 64 → (W (iShl .u64 1 (n : Int))).getLsbD i = (n == i) := fun i hi => by
    rw [W_shl _ n (by omega), BitVec.getLsbD_shiftLeft]
    have h1 : (W 1).getLsbD (i - n) = decide (i - n = 0) := by
      show (1#64).getLsbD (i - n) = _
      rw [BitVec.getLsbD_one]; simp
    rw [h1, Bool.eq_iff_iff]
    simp only [hi, decide_true, Bool.true_and, Bool.and_eq_true, Bool.not_eq_true', decide_eq_false_iff_not, decide_eq_true_eq, beq_iff_eq]
    omega
  unfold sallyportref16_set0
  rw [show iConv .u64 (n : Int) = n from wrapU (by omega) (by omega), Int.toNat_natCast]
  cases x
  · rw [cond_false, W_andNot, BitVec.getLsbD_and, BitVec.getLsbD_not, hm b hb]
    simp only [hb, decide_true, Bool.true_and]
    cases n == b <;> simp
  · rw [cond_true, W_or, BitVec.getLsbD_or, hm b hb]
    cases n == b <;> simp

theorem bitI_of {v : Int} (hv : U v) (b : Nat) (hb : b < 64) : bitI v (b : Int) = (W v).getLsbD b := by
  unfold bitI
  rw [bit_at hv b (by omega)]
  cases (W v).getLsbD b <;> rfl

theorem low_bit {v : Int} (hv : U v) (b : Nat) (hb : b < 64) : iAnd .u64 (iShr .u64 v (b : Int)) 1 = bif (W v).getLsbD b then 1 else 0 := bit_at hv b (by omega)

theorem andn_bit (v : Int) (k : Int) (b : Nat) (hb : b < 64) : (W (iAndNot .u64 v k)).getLsbD b = ((W v).getLsbD b && !(W k).getLsbD b) := by
  rw [W_andNot, BitVec.getLsbD_and, BitVec.getLsbD_not]
  simp only [hb, decide_true, Bool.true_and]

theorem mpp_bit (c L : Int) (b : Nat) (hL : is3 L) (hb : b < 64) : (W (word_Set0 c 11 2 (iConv .u64 L))).getLsbD b = bif b == 11 then !iEq L 0 else bif b == 12 then iEq L 3 else (W c).getLsbD b := by
  have key : ∀ k, (W (iOr .u64 (iAndNot .u64 c 6144) k)).getLsbD b = (((W c).getLsbD b && !(W 6144).getLsbD b) || (W k).getLsbD b) := fun k => by
    rw [W_or, BitVec.getLsbD_or, andn_bit _ _ _ hb]
  have h1 : ∀ b, b < 64 → (W 6144).getLsbD b = (b == 11 || b == 12) ∧ (W 0).getLsbD b = false ∧ (W 2048).getLsbD b = (b == 11) := by decide
  obtain ⟨e1, e2, e3⟩ := h1 b hb
  rcases hL with rfl | rfl | rfl
  · rw [show word_Set0 c 11 2 (iConv .u64 0) = iOr .u64 (iAndNot .u64 c 6144) 0 by kernel_rfl, key, e1, e2]
    cases b == 11 <;> cases b == 12 <;> cases (W c).getLsbD b <;> rfl
  · rw [show word_Set0 c 11 2 (iConv .u64 1) = iOr .u64 (iAndNot .u64 c 6144) 2048 by kernel_rfl, key, e1, e3]
    by_cases h : b = 11
    · subst h; cases (W c).getLsbD 11 <;> rfl
    · rw [show (b == 11) = false from beq_false_of_ne h]
      cases b == 12 <;> cases (W c).getLsbD b <;> rfl
  · rw [show word_Set0 c 11 2 (iConv .u64 3) = iOr .u64 (iAndNot .u64 c 6144) 6144 by kernel_rfl, key, e1]
    cases b == 11 <;> cases b == 12 <;> cases (W c).getLsbD b <;> rfl

theorem mpp_U (c n : Int) : U (word_Set0 c 11 2 n) := by unfold word_Set0; exact U_or _ _

/-- Two bits of a word. -/
theorem two_bits {v : Int} (hv : U v) : iAnd .u64 (iShr .u64 v 11) 3 = bif (W v).getLsbD 12 then (bif (W v).getLsbD 11 then 3 else 2) else bif (W v).getLsbD 11 then 1 else 0 := by
  rw [iAnd_W, show (11 : Int) = ((11 : Nat) : Int) from rfl, W_shr hv 11 (by decide)]
  have h3 : W 3 = 3#64 := rfl
  rw [h3]
  have key : ∀ k : BitVec 64, (∀ i, i < 64 → ((W v).getLsbD (11 + i) && (3#64).getLsbD i) = k.getLsbD i) → ((W v >>> 11 &&& 3#64).toNat : Int) = k.toNat := fun k hk => by
    rw [bits64 (a := W v >>> 11 &&& 3#64) (b := k) fun i hi => by rw [BitVec.getLsbD_and, BitVec.getLsbD_ushiftRight]; exact hk i hi]
  have hz : ∀ i, i < 64 → 2 ≤ i → (3#64).getLsbD i = false ∧ (2#64).getLsbD i = false ∧ (1#64).getLsbD i = false ∧ (0#64).getLsbD i = false := by decide
  have go : ∀ (k : BitVec 64), (k = 3#64 ∨ k = 2#64 ∨ k = 1#64 ∨ k = 0#64) → (W v).getLsbD 11 = k.getLsbD 0 → (W v).getLsbD 12 = k.getLsbD 1 → ∀ i, i < 64 → ((W v).getLsbD (11 + i) && (3#64).getLsbD i) = k.getLsbD i := fun k hk h0 h1 i hi => by
    rcases Nat.lt_or_ge i 2 with h | h
    · have : i = 0 ∨ i = 1 := by omega
      rcases this with rfl | rfl
      · rw [Nat.add_zero, h0]; rcases hk with rfl | rfl | rfl | rfl <;> rfl
      · rw [h1]; rcases hk with rfl | rfl | rfl | rfl <;> rfl
    · obtain ⟨z1, z2, z3, z4⟩ := hz i hi h
      rw [z1, Bool.and_false]
      rcases hk with rfl | rfl | rfl | rfl <;> simp_all
  cases h12 : (W v).getLsbD 12 <;> cases h11 : (W v).getLsbD 11
  · exact key 0#64 (go _ (by simp) h11 h12)
  · exact key 1#64 (go _ (by simp) h11 h12)
  · exact key 2#64 (go _ (by simp) h11 h12)
  · exact key 3#64 (go _ (by simp) h11 h12)

section
variable (X : Nat → Int) (PC L : Int) (V : Bool) (C : Nat → Int) (D : Int) (c v p : Int) (g : Bool)

theorem mpp0_U (x : Int) : U (sallyportref8_Mpp0 (iAnd .u64 x 824641853866)) := by
  unfold sallyportref8_Mpp0
  refine cond_all (p := fun x => U x) (U_andNot _ _) (U_and _ _)

theorem clean4_U (j : Nat) (hj : j < 29) : U (sallyportref18_Clean4 X PC L V C D j) := by
  unfold sallyportref18_Clean4
  repeat' (first | exact U_and _ _ | exact mpp0_U _ | refine cond_split (p := fun x => U x) (fun h => ?_) (fun h => ?_))
  rename_i h0 h1 h2 h3 h4 h5 h6 h7 h8 h9 h10 h11 h12 h13 h14 h15 h16 h17 h18 h19 h20 h21 h22 h23 h24 h25 h26 h27 h28
  simp only [beq_eq_false_iff_ne] at *
  omega

theorem clean3_of (h : sallyportref18_Clean2 X PC L V C D = 3) : sallyportref18_Clean3 X PC L V C D = false := by
  unfold sallyportref18_Clean2 at h
  unfold sallyportref18_Clean3
  by_cases h0 : L = 0
  · subst h0; exact absurd h (by decide)
  by_cases h1 : L = 1
  · subst h1; exact absurd h (by decide)
  by_cases h3 : L = 3
  · subst h3; rfl
  rw [iNe_true.2 h0, iNe_true.2 h1, iNe_true.2 h3]; rfl

theorem trapTells_true (l : Int) (u : Bool) : sallyportlaw16_TrapTells0 X PC L V C D c v p g l u = true := by
  have hL := clean2_is3 X PC L V C D
  simp only [sallyportlaw16_TrapTells0, sallyportlaw16_TrapTells_c0, sallyportlaw16_TrapTells_c1, sallyportlaw16_TrapTells_c2, sallyportlaw16_TrapTells_c3]
  revert hL
  generalize sallyportref18_Clean1 (fun i0 => X i0) PC L V (fun i0 => C i0) D = PC'
  generalize sallyportref18_Clean2 (fun i0 => X i0) PC L V (fun i0 => C i0) D = L'
  generalize sallyportref18_Clean3 (fun i0 => X i0) PC L V (fun i0 => C i0) D = V'
  intro hL
  generalize (fun i0 => sallyportref18_Clean0 (fun i0 => X i0) PC L V (fun i0 => C i0) D i0) = X'
  generalize (fun i0 => sallyportref18_Clean4 (fun i0 => X i0) PC L V (fun i0 => C i0) D i0) = C'
  obtain ⟨e1, e2, e3, e4⟩ := enter_eq X' PC' L' V' C' D c v p g hL l u
  obtain ⟨m1, m2, m3, m4, m5, m6⟩ := mret_eq X' PC' L' V' C' D
  obtain ⟨s1, s2, s3, s4, s5, s6⟩ := sret_eq X' PC' L' V' C' D
  have ha : ∀ m, ((List.range m).all fun _ => true) = true := fun m => by simp
  simp only [e1, e2, e3, e4, m1, m2, m3, m4, m5, m6, s1, s2, s3, s4, s5, s6, iEq_self, beq_self_eq_true, cond_true, Bool.and_true, Bool.true_and, ha]

theorem enterM1 : trap_Enter1 X PC L V C D c v p g 3 false = C 4 ∧ trap_Enter2 X PC L V C D c v p g 3 false = 3 ∧ trap_Enter3 X PC L V C D c v p g 3 false = false := ⟨by kernel_rfl, by kernel_rfl, by kernel_rfl⟩
theorem enterS1 : trap_Enter1 X PC L V C D c v p g 1 false = C 10 ∧ trap_Enter2 X PC L V C D c v p g 1 false = 1 ∧ trap_Enter3 X PC L V C D c v p g 1 false = false := ⟨by kernel_rfl, by kernel_rfl, by kernel_rfl⟩
theorem enterG1 : trap_Enter1 X PC L true C D c v p g 1 true = C 23 ∧ trap_Enter2 X PC L true C D c v p g 1 true = 1 ∧ trap_Enter3 X PC L true C D c v p g 1 true = true := ⟨by kernel_rfl, by kernel_rfl, by kernel_rfl⟩
theorem lev3 : legal_Level0 X PC 3 V C D = 3 := rfl
theorem lev1 : legal_Level0 X PC 1 false C D = 1 := rfl
theorem lev5 : legal_Level0 X PC 1 true C D = 5 := rfl
theorem lev0 : legal_Level0 X PC 0 false C D = 0 := rfl

theorem machI_U (x : Int) : U (machI x L V g) := set_U _ _ _
theorem machI_bit (x : Int) (b : Nat) (hL : is3 L) (hb : b < 64) : (W (machI x L V g)).getLsbD b = bif 3 == b then false else bif 7 == b then (W x).getLsbD 3 else bif 38 == b then g else bif 39 == b then V else bif b == 11 then !iEq L 0 else bif b == 12 then iEq L 3 else (W x).getLsbD b := by
  have key : ∀ b, b < 64 → (W (sallyportref16_set0 (sallyportref16_set0 (word_Set0 x 11 2 (iConv .u64 L)) 39 V) 38 g)).getLsbD b = bif 38 == b then g else bif 39 == b then V else bif b == 11 then !iEq L 0 else bif b == 12 then iEq L 3 else (W x).getLsbD b := fun b hb => by
    rw [set_bit _ _ _ _ t38 hb, set_bit _ _ _ _ t39 hb, mpp_bit _ _ _ hL hb]; rfl
  unfold machI
  rw [set_bit _ _ _ _ t3 hb, set_bit _ _ _ _ t7 hb, key b hb, show (3 : Int) = ((3 : Nat) : Int) from rfl, bitI_of (set_U _ _ _) 3 (by decide), key 3 (by decide)]
  rfl

theorem level_read {v : Int} (hv : U v) (hL : is3 L) (h1 : (W v).getLsbD 11 = !iEq L 0) (h2 : (W v).getLsbD 12 = iEq L 3) : iConv .i64 (iAnd .u64 (iShr .u64 v 11) 3) = L := by
  rw [two_bits hv, h1, h2]
  rcases hL with rfl | rfl | rfl <;> decide

theorem all_true (m : Nat) : ((List.range m).all fun _ => true) = true := by simp

theorem mback_U (x : Int) : U (mbackI x) := set_U _ _ _
theorem mback_bit (x : Int) (hx : U x) (b : Nat) (hb : b < 64) : (W (mbackI x)).getLsbD b = bif 39 == b then false else (bif 7 == b then true else bif 3 == b then (W x).getLsbD 7 else (W x).getLsbD b) && !(W 6144).getLsbD b := by
  unfold mbackI
  rw [set_bit _ _ _ _ t39 hb, andn_bit _ _ _ hb, set_bit _ _ _ _ t7 hb, set_bit _ _ _ _ t3 hb, show (7 : Int) = ((7 : Nat) : Int) from rfl, bitI_of hx 7 (by decide)]
  rfl

theorem trapBack_true : sallyportlaw16_TrapBack0 X PC L V C D c v p g = true := by
  have hL := clean2_is3 X PC L V C D
  have hV := clean3_of X PC L V C D
  have hU := clean4_U X PC L V C D 0 (by decide)
  simp only [sallyportlaw16_TrapBack0, sallyportlaw16_TrapBack_c0, sallyportlaw16_TrapBack_c1, sallyportlaw16_TrapBack_c2, sallyportlaw16_TrapBack_c3, sallyportlaw16_TrapBack_c4, sallyportlaw16_TrapBack_c5, sallyportlaw16_TrapBack_c6, sallyportlaw16_TrapBack_c7, sallyportlaw16_TrapBack_c8, sallyportlaw16_TrapBack_c9, sallyportlaw16_TrapBack_c10]
  revert hL hV hU
  generalize sallyportref18_Clean1 (fun i0 => X i0) PC L V (fun i0 => C i0) D = PC'
  generalize sallyportref18_Clean2 (fun i0 => X i0) PC L V (fun i0 => C i0) D = L'
  generalize sallyportref18_Clean3 (fun i0 => X i0) PC L V (fun i0 => C i0) D = V'
  generalize sallyportref18_Clean0 (fun i0 => X i0) PC L V (fun i0 => C i0) D = X'
  generalize sallyportref18_Clean4 (fun i0 => X i0) PC L V (fun i0 => C i0) D = C'
  intro hL hV hU
  have b39 : bitI (machI (C' 0) L' V' g) 39 = V' := by
    rw [show (39 : Int) = ((39 : Nat) : Int) from rfl, bitI_of (machI_U _ _ _ _) 39 (by decide), machI_bit _ _ _ _ _ hL (by decide)]; rfl
  have bL : iConv .i64 (iAnd .u64 (iShr .u64 (machI (C' 0) L' V' g) 11) 3) = L' := level_read _ (machI_U _ _ _ _) hL (by rw [machI_bit _ _ _ _ _ hL (by decide)]; rfl) (by rw [machI_bit _ _ _ _ _ hL (by decide)]; rfl)
  have b3 : iAnd .u64 (iShr .u64 (machI (C' 0) L' V' g) 3) 1 = 0 := by
    rw [show (3 : Int) = ((3 : Nat) : Int) from rfl, low_bit (machI_U _ _ _ _) 3 (by decide), machI_bit _ _ _ _ _ hL (by decide)]; rfl
  have b3' : iAnd .u64 (iShr .u64 (mbackI (machI (C' 0) L' V' g)) 3) 1 = iAnd .u64 (iShr .u64 (C' 0) 3) 1 := by
    rw [show (3 : Int) = ((3 : Nat) : Int) from rfl, low_bit (mback_U _) 3 (by decide), low_bit hU 3 (by decide), mback_bit _ (machI_U _ _ _ _) 3 (by decide), machI_bit _ _ _ _ 7 hL (by decide)]
    have : (W 6144).getLsbD 3 = false := by decide
    rw [this]; simp
  have q6 : ∀ i : Int, iNe i i = false := fun i => by rw [iNe_false]
  have hq : (!(bif V' then iNe L' 3 else false) == V') = false := by
    cases V'
    · rfl
    · rw [iNe_true.2 (fun e => by have := hV e; cases this)]; rfl
  simp only [(enterM1 _ _ _ _ _ _ _ _ _ _).1, (enterM1 _ _ _ _ _ _ _ _ _ _).2.1, (enterM1 _ _ _ _ _ _ _ _ _ _).2.2, enterM4, mret7, mret1, mret2, mret3, mret4, lev3, show iEq 3 3 = true from rfl, Bool.not_true, cond_false, show ((6 : Nat) == 0) = false from rfl, show ((6 : Nat) == 9) = false from rfl,
    show ((6 : Nat) == 8) = false from rfl, show ((6 : Nat) == 7) = false from rfl, show ((6 : Nat) == 6) = true from rfl, cond_true, show ((0 : Nat) == 0) = true from rfl, show ((7 : Nat) == 0) = false from rfl, show ((7 : Nat) == 9) = false from rfl, show ((7 : Nat) == 8) = false from rfl, show ((7 : Nat) == 7) = true from rfl,
    show ((10 : Nat) == 0) = false from rfl, show ((10 : Nat) == 9) = false from rfl, show ((10 : Nat) == 8) = false from rfl, show ((10 : Nat) == 7) = false from rfl, show ((10 : Nat) == 6) = false from rfl, show ((22 : Nat) == 0) = false from rfl, show ((22 : Nat) == 9) = false from rfl, show ((22 : Nat) == 8) = false from rfl, show ((22 : Nat) == 7) = false from rfl, show ((22 : Nat) == 6) = false from rfl,
    b39, bL, b3, b3', q6, iEq_self, hq, all_true, Bool.not_false, show iEq 0 0 = true from rfl]

end
end Go.Proofs.Ytjnpaegoobclfaa.PV
