/-
  The plain laws PteLess, PteMade, PteUsers, of the printed functions.
-/
import Derived.Test.YtjnpaegoobclfaaDoorGa
set_option linter.unusedVariables false
namespace Go.Proofs.YtjnpaegoobclfaaDoor.PV
open Go Go.Ev

theorem byteOf {n : Int} (h : 0 ≤ n ∧ n < 256) : ∃ x : BitVec 8, n = (x.toNat : Int) := by
  refine ⟨BitVec.ofNat 8 n.toNat, ?_⟩
  rw [BitVec.toNat_ofNat, Nat.mod_eq_of_lt (by omega)]; omega
theorem conv8 (x : BitVec 8) : iConv .i64 (x.toNat : Int) = x.toNat := by
  have := x.isLt
  exact wrapI (by omega) (by omega)
theorem bitN : ∀ x : BitVec 8, iNe (iAnd .i64 x.toNat 64) 0 = x.getLsbD 6 ∧ iNe (iAnd .i64 x.toNat 16) 0 = x.getLsbD 4 ∧ iNe (iAnd .i64 x.toNat 4) 0 = x.getLsbD 2 ∧ iNe (iAnd .i64 x.toNat 128) 0 = x.getLsbD 7 := by decide +kernel
theorem bitE : ∀ x : BitVec 8, iEq (iAnd .i64 x.toNat 64) 64 = x.getLsbD 6 ∧ iEq (iAnd .i64 x.toNat 16) 16 = x.getLsbD 4 ∧ iEq (iAnd .i64 x.toNat 2) 2 = x.getLsbD 1 ∧ iEq (iAnd .i64 x.toNat 8) 8 = x.getLsbD 3 ∧
    iEq (iAnd .i64 x.toNat 132) 132 = (x.getLsbD 2 && x.getLsbD 7) := by decide +kernel

def mayB (r w x u a d : Bool) (k : Nat) (user sum mxr : Bool) : Bool :=
  a && (bif user then u else (!u || (sum && !(k == 0)))) && (match k with | 0 => x | 1 => r || (mxr && x) | _ => w && d)

theorem may_b (v : BitVec 8) (k : Nat) (hk : k < 3) (user sum mxr : Bool) :
    pte_May0 (v.toNat : Int) (k : Int) user sum mxr = mayB (v.getLsbD 1) (v.getLsbD 2) (v.getLsbD 3) (v.getLsbD 4) (v.getLsbD 6) (v.getLsbD 7) k user sum mxr := by
  obtain ⟨h1, h2, h3, h4, h5⟩ := bitE v
  unfold pte_May0 pte_May_c1
  rw [h1, h2, h3, h4, h5]
  generalize v.getLsbD 1 = r; generalize v.getLsbD 2 = w; generalize v.getLsbD 3 = x; generalize v.getLsbD 4 = u; generalize v.getLsbD 6 = a; generalize v.getLsbD 7 = d
  match k, hk with
  | 0, _ => revert r w x u a d user sum mxr; decide +kernel
  | 1, _ => revert r w x u a d user sum mxr; decide +kernel
  | 2, _ => revert r w x u a d user sum mxr; decide +kernel

theorem andNot8 (x y : BitVec 8) : iAndNot .i64 (x.toNat : Int) (y.toNat : Int) = ((x &&& ~~~ y).toNat : Int) := by
  have e : (BitVec.ofInt IntKind.i64.bits (x.toNat : Int) &&& ~~~ BitVec.ofInt IntKind.i64.bits (y.toNat : Int)) = (x &&& ~~~ y).setWidth 64 := by
    show (BitVec.ofInt 64 (x.toNat : Int) &&& ~~~ BitVec.ofInt 64 (y.toNat : Int)) = _
    rw [BitVec.ofInt_natCast, BitVec.ofInt_natCast]
    apply bits64
    intro i hi
    simp only [BitVec.getLsbD_and, BitVec.getLsbD_not, BitVec.getLsbD_setWidth, BitVec.getLsbD_ofNat, hi, decide_true, Bool.true_and]
    show (x.getLsbD i && !y.getLsbD i) = _
    by_cases h8 : i < 8
    · simp [h8]
    · rw [BitVec.getLsbD_of_ge x i (by omega)]; simp
  have h := (x &&& ~~~ y).isLt
  have e2 : (((x &&& ~~~ y).setWidth 64).toNat) = (x &&& ~~~ y).toNat := by rw [BitVec.toNat_setWidth, Nat.mod_eq_of_lt (by omega)]
  show IntKind.i64.wrap (((BitVec.ofInt IntKind.i64.bits (x.toNat : Int) &&& ~~~ BitVec.ofInt IntKind.i64.bits (y.toNat : Int)).toNat : Nat) : Int) = _
  refine (congrArg (fun v : BitVec 64 => IntKind.i64.wrap (v.toNat : Int)) e).trans ?_
  show IntKind.i64.wrap ((((x &&& ~~~ y).setWidth 64).toNat : Nat) : Int) = _
  rw [e2]
  exact wrapI (by omega) (by omega)

theorem mayB_less : ∀ (r w x u a d r' w' x' a' d' : Bool) (user sum mxr : Bool) (k : Nat) (_ : k < 3),
    (mayB (r && !r') (w && !w') (x && !x') u (a && !a') (d && !d') k user sum mxr && !mayB r w x u a d k user sum mxr) = false := by
  intro r w x u a d r' w' x' a' d' user sum mxr k hk
  match k, hk with
  | 0, _ =>
    simp only [mayB]
    cases x' <;> cases a' <;> cases x <;> cases a <;> simp
  | 1, _ =>
    simp only [mayB]
    cases r' <;> cases x' <;> cases a' <;> cases r <;> cases x <;> cases a <;> cases mxr <;> simp
  | 2, _ =>
    simp only [mayB]
    cases w' <;> cases d' <;> cases a' <;> cases w <;> cases d <;> cases a <;> simp

theorem mayB_rest : ∀ (r w x u a d user sum mxr : Bool) (k : Nat) (_ : k < 3),
    (mayB r w x u a d k user sum mxr = true → a = true) ∧ (mayB r w x u a d k user sum mxr = true → user = true → u = true) ∧ (mayB r w x u a d k user sum mxr = true → k = 2 → w = true ∧ d = true) ∧
    (mayB r w x u a d k user false false = true → mayB r w x u a d k user true true = true) := by
  intro r w x u a d user sum mxr k hk
  match k, hk with
  | 0, _ => revert r w x u a d user sum mxr; decide +kernel
  | 1, _ => revert r w x u a d user sum mxr; decide +kernel
  | 2, _ => revert r w x u a d user sum mxr; decide +kernel

theorem rem3 {n : Int} (h : 0 ≤ n ∧ n < 256) : ∃ k : Nat, k < 3 ∧ iConv .i64 (iRem n 3) = k := by
  refine ⟨(n.toNat % 3), Nat.mod_lt _ (by omega), ?_⟩
  unfold iRem
  rw [Int.tmod_eq_emod_of_nonneg h.1]
  show IntKind.i64.wrap _ = _
  rw [wrapI (by omega) (by omega)]; omega

theorem pteLess_true {a0 a1 a2 : Int} (h0 : 0 ≤ a0 ∧ a0 < 256) (h1 : 0 ≤ a1 ∧ a1 < 256) (h2 : 0 ≤ a2 ∧ a2 < 256) (a3 a4 a5 : Bool) : sallyportlaw10_PteLess0 a0 a1 a2 a3 a4 a5 = true := by
  obtain ⟨x, rfl⟩ := byteOf h0
  obtain ⟨y, rfl⟩ := byteOf h1
  obtain ⟨k, hk, e⟩ := rem3 h2
  unfold sallyportlaw10_PteLess0
  have e16 : (16 : Int) = ((16#8 : BitVec 8).toNat : Int) := rfl
  rw [e, conv8, conv8, e16, andNot8, andNot8, ← e16]
  obtain ⟨b1, b2, b3, b4⟩ := bitN x
  rw [b1, b2, b3, b4]
  simp only [may_b _ k hk]
  have l := mayB_less (x.getLsbD 1) (x.getLsbD 2) (x.getLsbD 3) (x.getLsbD 4) (x.getLsbD 6) (x.getLsbD 7) (y.getLsbD 1) (y.getLsbD 2) (y.getLsbD 3) (y.getLsbD 6) (y.getLsbD 7) a3 a4 a5 k hk
  obtain ⟨r1, r2, r3, r4⟩ := mayB_rest (x.getLsbD 1) (x.getLsbD 2) (x.getLsbD 3) (x.getLsbD 4) (x.getLsbD 6) (x.getLsbD 7) a3 a4 a5 k hk
  have g : ∀ i, i ≠ 4 → i < 8 → (x &&& ~~~ (y &&& ~~~ 16#8)).getLsbD i = (x.getLsbD i && !y.getLsbD i) := fun i hi h8 => by
    have : ∀ i : Nat, i < 8 → i ≠ 4 → (16#8 : BitVec 8).getLsbD i = false := by decide
    rw [BitVec.getLsbD_and, BitVec.getLsbD_not, BitVec.getLsbD_and, BitVec.getLsbD_not, this i h8 hi]
    simp only [h8, decide_true, Bool.true_and, Bool.not_false, Bool.and_true]
  have g4 : (x &&& ~~~ (y &&& ~~~ 16#8)).getLsbD 4 = x.getLsbD 4 := by simp
  rw [g 1 (by decide) (by decide), g 2 (by decide) (by decide), g 3 (by decide) (by decide), g4, g 6 (by decide) (by decide), g 7 (by decide) (by decide)]
  have l' : (bif mayB (x.getLsbD 1 && !y.getLsbD 1) (x.getLsbD 2 && !y.getLsbD 2) (x.getLsbD 3 && !y.getLsbD 3) (x.getLsbD 4) (x.getLsbD 6 && !y.getLsbD 6) (x.getLsbD 7 && !y.getLsbD 7) k a3 a4 a5 then
    !mayB (x.getLsbD 1) (x.getLsbD 2) (x.getLsbD 3) (x.getLsbD 4) (x.getLsbD 6) (x.getLsbD 7) k a3 a4 a5 else false) = false := by
    rw [← l]
    generalize mayB (x.getLsbD 1 && !y.getLsbD 1) (x.getLsbD 2 && !y.getLsbD 2) (x.getLsbD 3 && !y.getLsbD 3) (x.getLsbD 4) (x.getLsbD 6 && !y.getLsbD 6) (x.getLsbD 7 && !y.getLsbD 7) k a3 a4 a5 = m
    cases m <;> rfl
  rw [l']
  clear l l' g g4 b1 b2 b3 b4
  have e2 : iNe (k : Int) 2 = !decide (k = 2) := by
    rw [iNe_not, Bool.not_inj_iff, Bool.eq_iff_iff, iEq_true, decide_eq_true_iff]; omega
  rw [e2]
  revert r1 r2 r3 r4
  generalize mayB (x.getLsbD 1) (x.getLsbD 2) (x.getLsbD 3) (x.getLsbD 4) (x.getLsbD 6) (x.getLsbD 7) k a3 a4 a5 = m
  generalize mayB (x.getLsbD 1) (x.getLsbD 2) (x.getLsbD 3) (x.getLsbD 4) (x.getLsbD 6) (x.getLsbD 7) k a3 false false = m0
  generalize mayB (x.getLsbD 1) (x.getLsbD 2) (x.getLsbD 3) (x.getLsbD 4) (x.getLsbD 6) (x.getLsbD 7) k a3 true true = m1
  generalize x.getLsbD 2 = w; generalize x.getLsbD 4 = u; generalize x.getLsbD 6 = a; generalize x.getLsbD 7 = d
  cases m <;> cases m0 <;> cases m1 <;> cases a3 <;> simp
  all_goals (intros; by_cases hk2 : k = 2 <;> simp_all)

theorem users_all : ∀ (x : BitVec 8) (m : Bool), sallyportlaw10_PteUsers0 x.toNat m = true := by decide +kernel
theorem pteUsers_true {a0 : Int} (h0 : 0 ≤ a0 ∧ a0 < 256) (a1 : Bool) : sallyportlaw10_PteUsers0 a0 a1 = true := by
  obtain ⟨x, rfl⟩ := byteOf h0
  exact users_all x a1

theorem zext8 : ∀ x : BitVec 8, word_Zext0 (iConv .u64 (iConv .i64 x.toNat)) 8 = x.toNat ∧ iAndNot .u64 x.toNat (iShl .u64 (word_mask0 (word_part1 8 8)) (word_part0 8 8)) = x.toNat ∧
    iShl .u64 (iAnd .u64 (iConv .u64 (iConv .i64 x.toNat)) (word_mask0 (word_part1 8 8))) (word_part0 8 8) = 256 * (x.toNat : Int) ∧ iAnd .u64 x.toNat (word_mask0 (word_part1 8 8)) = x.toNat ∧ iConv .u64 x.toNat = x.toNat := by decide +kernel

theorem or_nat (a b : Nat) (ha : a < 18446744073709551616) (hb : b < 18446744073709551616) : iOr .u64 (a : Int) (b : Int) = ((a ||| b : Nat) : Int) := by
  rw [iOr_W]
  unfold W
  rw [BitVec.ofInt_natCast, BitVec.ofInt_natCast, BitVec.toNat_or, BitVec.toNat_ofNat, BitVec.toNat_ofNat, Nat.mod_eq_of_lt ha, Nat.mod_eq_of_lt hb]
theorem and_nat (a b : Nat) (ha : a < 18446744073709551616) (hb : b < 18446744073709551616) : iAnd .u64 (a : Int) (b : Int) = ((a &&& b : Nat) : Int) := by
  rw [iAnd_W]
  unfold W
  rw [BitVec.ofInt_natCast, BitVec.ofInt_natCast, BitVec.toNat_and, BitVec.toNat_ofNat, BitVec.toNat_ofNat, Nat.mod_eq_of_lt ha, Nat.mod_eq_of_lt hb]
theorem shr_nat (a n : Nat) (ha : a < 18446744073709551616) (hn : n ≤ 64) : iShr .u64 (a : Int) (n : Int) = ((a / 2 ^ n : Nat) : Int) := by
  rw [iShr_W ⟨by omega, by omega⟩ n hn]
  unfold W
  rw [BitVec.ofInt_natCast, BitVec.toNat_ushiftRight, BitVec.toNat_ofNat, Nat.mod_eq_of_lt ha, Nat.shiftRight_eq_div_pow]

theorem make_eq (f b : BitVec 8) : pte_Make0 (iConv .i64 f.toNat) (iConv .i64 b.toNat) = ((f.toNat * 256 + b.toNat : Nat) : Int) := by
  obtain ⟨b1, b2, _, _, _⟩ := zext8 b
  obtain ⟨_, _, f3, _, _⟩ := zext8 f
  have hf := f.isLt
  have hb := b.isLt
  unfold pte_Make0 word_Set0
  rw [b1, b2, f3]
  have : (256 * (f.toNat : Int)) = ((256 * f.toNat : Nat) : Int) := by omega
  rw [this, or_nat _ _ (by omega) (by omega)]
  congr 1
  have h := Nat.two_pow_add_eq_or_of_lt (i := 8) (b := b.toNat) hb f.toNat
  rw [Nat.or_comm, ← show 2 ^ 8 * f.toNat + b.toNat = 256 * f.toNat ||| b.toNat from h]
  omega

theorem low_and (f b c : Nat) (hc : c < 256) : (f * 256 + b) &&& c = b &&& c := by
  have e : c = 255 &&& c := by
    have := Nat.and_two_pow_sub_one_of_lt_two_pow (n := 8) hc
    rw [Nat.and_comm]; exact this.symm
  rw [e, ← Nat.and_assoc, ← Nat.and_assoc]
  congr 1
  have h1 := Nat.and_two_pow_sub_one_eq_mod (f * 256 + b) 8
  have h2 := Nat.and_two_pow_sub_one_eq_mod b 8
  rw [show (2 : Nat) ^ 8 - 1 = 255 from rfl] at h1 h2
  rw [h1, h2]; omega

theorem is_of (e : Nat) (he : e < 65536) : pte_Is0 (e : Int) = (bif bif iNe (iAnd .u64 (e : Int) 1) 0 then bif iEq (iAnd .u64 (e : Int) 4) 0 then true else iNe (iAnd .u64 (e : Int) 2) 0 else false then iEq (iAnd .u64 (e : Int) 32) 0 else false) := by
  unfold pte_Is0
  have h := shr_nat e 16 (by omega) (by omega)
  rw [show ((16 : Nat) : Int) = 16 from rfl] at h
  rw [h, Nat.div_eq_of_lt (by omega)]
  rw [show iEq ((0 : Nat) : Int) 0 = true from rfl]
  cases (bif bif iNe (iAnd .u64 (e : Int) 1) 0 then bif iEq (iAnd .u64 (e : Int) 4) 0 then true else iNe (iAnd .u64 (e : Int) 2) 0 else false then iEq (iAnd .u64 (e : Int) 32) 0 else false) <;> rfl
theorem is_high (e : Nat) (he : 65536 ≤ e) (h2 : e < 18446744073709551616) : pte_Is0 (e : Int) = false := by
  unfold pte_Is0
  have h := shr_nat e 16 (by omega) (by omega)
  rw [show ((16 : Nat) : Int) = 16 from rfl] at h
  have h3 : 1 ≤ e / 2 ^ 16 := by omega
  rw [h, show iEq ((e / 2 ^ 16 : Nat) : Int) 0 = false from iEq_false.2 (by omega)]
  cases (bif bif iNe (iAnd .u64 (e : Int) 1) 0 then bif iEq (iAnd .u64 (e : Int) 4) 0 then true else iNe (iAnd .u64 (e : Int) 2) 0 else false then iEq (iAnd .u64 (e : Int) 32) 0 else false) <;> rfl

theorem and8 : ∀ x : BitVec 8, iAnd .u64 x.toNat 1 = iAnd .i64 x.toNat 1 ∧ iAnd .u64 x.toNat 2 = iAnd .i64 x.toNat 2 ∧ iAnd .u64 x.toNat 4 = iAnd .i64 x.toNat 4 ∧ iAnd .u64 x.toNat 32 = iAnd .i64 x.toNat 32 ∧
    iAnd .u64 x.toNat 10 = iAnd .i64 x.toNat 10 ∧ iAnd .u64 x.toNat 255 = x.toNat := by decide +kernel

theorem pteMade_true {a0 a1 : Int} (h0 : 0 ≤ a0 ∧ a0 < 256) (h1 : 0 ≤ a1 ∧ a1 < 256) : sallyportlaw10_PteMade0 a0 a1 = true := by
  obtain ⟨f, rfl⟩ := byteOf h0
  obtain ⟨b, rfl⟩ := byteOf h1
  have hf := f.isLt
  have hb := b.isLt
  unfold sallyportlaw10_PteMade0 sallyportlaw10_PteMade_c0
  rw [make_eq]
  obtain ⟨c1, c2, c4, c32, c10, c255⟩ := and8 b
  have low : ∀ c : Nat, c < 256 → iAnd .u64 ((f.toNat * 256 + b.toNat : Nat) : Int) (c : Int) = iAnd .u64 (b.toNat : Int) (c : Int) := fun c hc => by
    rw [and_nat _ _ (by omega) (by omega), and_nat _ _ (by omega) (by omega), low_and _ _ _ hc]
  have k1 := low 1 (by decide); have k2 := low 2 (by decide); have k4 := low 4 (by decide); have k32 := low 32 (by decide); have k10 := low 10 (by decide); have k255 := low 255 (by decide)
  simp only [show ((1 : Nat) : Int) = 1 from rfl, show ((2 : Nat) : Int) = 2 from rfl, show ((4 : Nat) : Int) = 4 from rfl, show ((32 : Nat) : Int) = 32 from rfl, show ((10 : Nat) : Int) = 10 from rfl, show ((255 : Nat) : Int) = 255 from rfl] at k1 k2 k4 k32 k10 k255
  have eF : pte_Frame0 ((f.toNat * 256 + b.toNat : Nat) : Int) = f.toNat := by
    unfold pte_Frame0 word_Bits0
    have h := shr_nat (f.toNat * 256 + b.toNat) 8 (by omega) (by omega)
    rw [show word_part0 8 8 = ((8 : Nat) : Int) from by decide, h, show (f.toNat * 256 + b.toNat) / 2 ^ 8 = f.toNat by omega, (zext8 f).2.2.2.1]
    exact conv8 f
  have eI := is_of (f.toNat * 256 + b.toNat) (by omega)
  rw [k1, k2, k4, k32, c1, c2, c4, c32] at eI
  have or1 : iOr .u64 ((f.toNat * 256 + b.toNat : Nat) : Int) 65536 = ((65536 + (f.toNat * 256 + b.toNat) : Nat) : Int) := by
    have := or_nat (f.toNat * 256 + b.toNat) 65536 (by omega) (by omega)
    rw [show ((65536 : Nat) : Int) = 65536 from rfl] at this
    rw [this, Nat.or_comm]
    have h := Nat.two_pow_add_eq_or_of_lt (i := 16) (b := f.toNat * 256 + b.toNat) (by omega) 1
    rw [show (2 : Nat) ^ 16 * 1 = 65536 from rfl] at h
    rw [← h]
  have or2 : iOr .u64 ((f.toNat * 256 + b.toNat : Nat) : Int) 9223372036854775808 = ((9223372036854775808 + (f.toNat * 256 + b.toNat) : Nat) : Int) := by
    have := or_nat (f.toNat * 256 + b.toNat) 9223372036854775808 (by omega) (by omega)
    rw [show ((9223372036854775808 : Nat) : Int) = 9223372036854775808 from rfl] at this
    rw [this, Nat.or_comm]
    have h := Nat.two_pow_add_eq_or_of_lt (i := 63) (b := f.toNat * 256 + b.toNat) (by omega) 1
    rw [show (2 : Nat) ^ 63 * 1 = 9223372036854775808 from rfl] at h
    rw [← h]
  unfold pte_Leaf0
  rw [eF, eI, or1, or2, is_high _ (by omega) (by omega), is_high _ (by omega) (by omega), k10, k255, c10, c255, conv8, conv8, (zext8 b).2.2.2.2, iEq_self, iEq_self]
  cases (bif bif iNe (iAnd .i64 (b.toNat : Int) 1) 0 then bif iEq (iAnd .i64 (b.toNat : Int) 4) 0 then true else iNe (iAnd .i64 (b.toNat : Int) 2) 0 else false then iEq (iAnd .i64 (b.toNat : Int) 32) 0 else false) <;>
    cases (iNe (iAnd .i64 (b.toNat : Int) 10) 0) <;> rfl
end Go.Proofs.YtjnpaegoobclfaaDoor.PV
