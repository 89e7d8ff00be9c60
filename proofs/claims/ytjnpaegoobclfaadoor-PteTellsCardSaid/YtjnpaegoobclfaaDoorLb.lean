/-
  PteTells: the plain law; the law evaluated.
-/
import Derived.Test.YtjnpaegoobclfaaDoorSb
import Derived.Test.YtjnpaegoobclfaaDoorLa
set_option linter.unusedVariables false
set_option linter.unusedSimpArgs false
set_option maxRecDepth 100000
namespace Go.Proofs.YtjnpaegoobclfaaDoor.PV
noncomputable section
open Go Go.Ev
theorem W_nat (c : Nat) : W (c : Int) = BitVec.ofNat 64 c := by unfold W; exact BitVec.ofInt_natCast 64 c
theorem and_i64 (x : Int) (c : Nat) (hc : c < 9223372036854775808) : iAnd .i64 x (c : Int) = ((W x &&& BitVec.ofNat 64 c).toNat : Int) := by
  unfold iAnd
  show IntKind.i64.wrap (((W x &&& W (c : Int)).toNat : Nat) : Int) = _
  rw [W_nat]
  have h : (W x &&& BitVec.ofNat 64 c).toNat ≤ c := by
    rw [BitVec.toNat_and]
    exact Nat.le_trans Nat.and_le_right (by rw [BitVec.toNat_ofNat]; exact Nat.mod_le _ _)
  exact wrapI (by omega) (by omega)
theorem and_bit (v : BitVec 64) (i : Nat) (hi : i < 64) : (v &&& BitVec.ofNat 64 (2 ^ i)).toNat = bif v.getLsbD i then 2 ^ i else 0 := by
  rw [show BitVec.ofNat 64 (2 ^ i) = BitVec.twoPow 64 i by rw [BitVec.twoPow_eq]; apply BitVec.eq_of_toNat_eq; simp [BitVec.toNat_shiftLeft, Nat.shiftLeft_eq], BitVec.and_twoPow]
  cases v.getLsbD i with
  | true =>
    simp only [cond_true, if_true]
    rw [BitVec.toNat_twoPow]
    exact Nat.mod_eq_of_lt (Nat.pow_lt_pow_right (by decide) hi)
  | false => simp
theorem i_bit (x : Int) (i : Nat) (hi : i < 63) : iAnd .i64 x ((2 ^ i : Nat) : Int) = bif (W x).getLsbD i then ((2 ^ i : Nat) : Int) else 0 := by
  rw [and_i64 x _ (Nat.pow_lt_pow_right (by decide) hi), and_bit _ i (by omega)]
  cases (W x).getLsbD i <;> rfl
theorem u_bit (x : Int) (i : Nat) (hi : i < 64) : iAnd .u64 x ((2 ^ i : Nat) : Int) = bif (W x).getLsbD i then ((2 ^ i : Nat) : Int) else 0 := by
  rw [iAnd_W, W_nat, and_bit _ i hi]
  cases (W x).getLsbD i <;> rfl
theorem two_pos (i : Nat) : ((2 ^ i : Nat) : Int) ≠ 0 := by have := Nat.two_pow_pos i; omega
theorem i_ne (x : Int) (i : Nat) (hi : i < 63) : iNe (iAnd .i64 x ((2 ^ i : Nat) : Int)) 0 = (W x).getLsbD i := by
  rw [i_bit x i hi]
  cases (W x).getLsbD i with
  | true => rw [cond_true]; exact iNe_true.2 (two_pos i)
  | false => rfl
theorem i_eq0 (x : Int) (i : Nat) (hi : i < 63) : iEq (iAnd .i64 x ((2 ^ i : Nat) : Int)) 0 = !(W x).getLsbD i := by
  rw [i_bit x i hi]
  cases (W x).getLsbD i with
  | true => rw [cond_true]; exact iEq_false.2 (two_pos i)
  | false => rfl
theorem i_eq (x : Int) (i : Nat) (hi : i < 63) : iEq (iAnd .i64 x ((2 ^ i : Nat) : Int)) ((2 ^ i : Nat) : Int) = (W x).getLsbD i := by
  rw [i_bit x i hi]
  cases (W x).getLsbD i with
  | true => rw [cond_true]; exact iEq_true.2 rfl
  | false => rw [cond_false]; exact iEq_false.2 (two_pos i).symm
theorem u_ne (x : Int) (i : Nat) (hi : i < 64) : iNe (iAnd .u64 x ((2 ^ i : Nat) : Int)) 0 = (W x).getLsbD i := by
  rw [u_bit x i hi]
  cases (W x).getLsbD i with
  | true => rw [cond_true]; exact iNe_true.2 (two_pos i)
  | false => rfl
theorem u_eq (x : Int) (i : Nat) (hi : i < 64) : iEq (iAnd .u64 x ((2 ^ i : Nat) : Int)) ((2 ^ i : Nat) : Int) = (W x).getLsbD i := by
  rw [u_bit x i hi]
  cases (W x).getLsbD i with
  | true => rw [cond_true]; exact iEq_true.2 rfl
  | false => rw [cond_false]; exact iEq_false.2 (two_pos i).symm
theorem i_132 (x : Int) : iEq (iAnd .i64 x 132) 132 = ((W x).getLsbD 2 && (W x).getLsbD 7) := by
  have h := and_i64 x 132 (by decide)
  have e : (W x &&& BitVec.ofNat 64 132) = (W x &&& BitVec.ofNat 64 (2 ^ 2)) ||| (W x &&& BitVec.ofNat 64 (2 ^ 7)) := by
    rw [← BitVec.and_or_distrib_left]; rfl
  have e2 := and_bit (W x) 2 (by decide)
  have e7 := and_bit (W x) 7 (by decide)
  rw [show (132 : Int) = ((132 : Nat) : Int) from rfl, h, e, BitVec.toNat_or, e2, e7]
  cases (W x).getLsbD 2 <;> cases (W x).getLsbD 7 <;> decide
theorem may_eq (b k : Int) (u s m : Bool) : pte_May0 b k u s m = sallyportref11_May0 b k u s m := by
  have h64 := i_eq b 6 (by decide); have h16 := i_eq b 4 (by decide); have h2 := i_eq b 1 (by decide); have h8 := i_eq b 3 (by decide)
  have z64 := i_eq0 b 6 (by decide); have z16 := i_eq0 b 4 (by decide); have n16 := i_ne b 4 (by decide); have n8 := i_ne b 3 (by decide); have n2 := i_ne b 1 (by decide); have n4 := i_ne b 2 (by decide); have n128 := i_ne b 7 (by decide)
  have h132 := i_132 b
  have h64 : iEq (iAnd .i64 b 64) 64 = (W b).getLsbD 6 := h64
  have h16 : iEq (iAnd .i64 b 16) 16 = (W b).getLsbD 4 := h16
  have h2 : iEq (iAnd .i64 b 2) 2 = (W b).getLsbD 1 := h2
  have h8 : iEq (iAnd .i64 b 8) 8 = (W b).getLsbD 3 := h8
  have z64 : iEq (iAnd .i64 b 64) 0 = !(W b).getLsbD 6 := z64
  have z16 : iEq (iAnd .i64 b 16) 0 = !(W b).getLsbD 4 := z16
  have n16 : iNe (iAnd .i64 b 16) 0 = (W b).getLsbD 4 := n16
  have n8 : iNe (iAnd .i64 b 8) 0 = (W b).getLsbD 3 := n8
  have n2 : iNe (iAnd .i64 b 2) 0 = (W b).getLsbD 1 := n2
  have n4 : iNe (iAnd .i64 b 4) 0 = (W b).getLsbD 2 := n4
  have n128 : iNe (iAnd .i64 b 128) 0 = (W b).getLsbD 7 := n128
  unfold pte_May0 pte_May_c1 sallyportref11_May0
  rw [h64, h16, h2, h8, z64, z16, n16, n8, n2, n4, n128, h132]
  generalize (W b).getLsbD 6 = b6
  generalize (W b).getLsbD 4 = b4
  generalize (W b).getLsbD 1 = b1
  generalize (W b).getLsbD 3 = b3
  generalize (W b).getLsbD 2 = b2
  generalize (W b).getLsbD 7 = b7
  by_cases hk : 0 ≤ k ∧ k ≤ 2
  · have : k = 0 ∨ k = 1 ∨ k = 2 := by omega
    rcases this with rfl | rfl | rfl <;> revert b6 b4 b1 b3 b2 b7 u s m <;> decide
  · have e0 : iEq k 0 = false := iEq_false.2 (by omega)
    have e1 : iEq k 1 = false := iEq_false.2 (by omega)
    have e2 : iEq k 2 = false := iEq_false.2 (by omega)
    have ne0 : iNe k 0 = true := iNe_true.2 (by omega)
    rw [e0, e1, e2, ne0]
    by_cases hl : k < 0
    · rw [iLt_true.2 hl]
      generalize (k.toNat == 2) = t2
      generalize (k.toNat == 1) = t1
      generalize (k.toNat == 0) = t0
      generalize iLt 2 k = l2
      cases u <;> cases b6 <;> cases b4 <;> cases s <;> cases l2 <;> simp
    · rw [iLt_true.2 (show 2 < k by omega)]
      generalize (k.toNat == 2) = t2
      generalize (k.toNat == 1) = t1
      generalize (k.toNat == 0) = t0
      generalize iLt k 0 = l2
      cases u <;> cases b6 <;> cases b4 <;> cases s <;> cases l2 <;> simp
theorem is_eq (e : Int) : pte_Is0 e = sallyportref11_Is0 e := by
  unfold pte_Is0 sallyportref11_Is0
  have h1 : iNe (iAnd .u64 e 1) 0 = (W e).getLsbD 0 := u_ne e 0 (by decide)
  have h2 : iEq (iAnd .u64 e 1) 1 = (W e).getLsbD 0 := u_eq e 0 (by decide)
  rw [h1, h2]
  generalize (W e).getLsbD 0 = b0
  generalize iEq (iAnd .u64 e 4) 0 = b4
  generalize iNe (iAnd .u64 e 2) 0 = b2
  generalize iEq (iAnd .u64 e 32) 0 = b32
  generalize iEq (iShr .u64 e 16) 0 = h
  revert b0 b4 b2 b32 h
  decide
theorem leaf_eq (e : Int) : pte_Leaf0 e = sallyportref11_Leaf0 e := by
  unfold pte_Leaf0 sallyportref11_Leaf0
  rw [is_eq]
theorem frame_q (e : Int) : pte_Frame0 e = frQ e := by
  unfold pte_Frame0 word_Bits0 frQ
  rw [show word_part0 8 8 = 8 by kernel_rfl, show word_mask0 (word_part1 8 8) = 255 by kernel_rfl]
theorem frame_q' (e : Int) : sallyportref11_Frame0 e = frQ e := rfl
theorem W_conv (x : Int) : W (iConv .u64 x) = W x := W_wrap x
theorem make_same (f b : Int) : pte_Make0 f b = sallyportref11_Make0 f b := by
  unfold pte_Make0 word_Set0 word_Zext0 sallyportref11_Make0
  rw [show word_part0 8 8 = 8 by kernel_rfl, show word_mask0 (word_part1 8 8) = 255 by kernel_rfl, show word_mask0 (iMin (iMax 8 1) 64) = 255 by kernel_rfl]
  refine W_inj (U_or _ _) (U_or _ _) ?_
  have s8 : ∀ x, W (iShl .u64 x 8) = W x <<< 8 := fun x => W_shl x 8 (by decide)
  have w255 : W 255 = BitVec.ofNat 64 255 := W_nat 255
  have a255 : ∀ x, W (iConv .u64 (iAnd .i64 x 255)) = W x &&& BitVec.ofNat 64 255 := fun x => by
    rw [W_conv, show (255 : Int) = ((255 : Nat) : Int) from rfl, and_i64 x 255 (by decide), W_of]
  rw [W_or, W_or, W_andNot, s8, s8, s8, W_and, W_and, a255, a255, W_conv, W_conv, w255, BitVec.and_assoc]
  rw [show (BitVec.ofNat 64 255 &&& ~~~(BitVec.ofNat 64 255 <<< 8)) = BitVec.ofNat 64 255 by decide]
  exact BitVec.or_comm _ _
theorem lt_same {e : Int} (he : U e) : ltP e = ltQ e := by
  have key : ∀ i : Nat, i < 64 → iNe (iAnd .u64 e ((2 ^ i : Nat) : Int)) 0 = iEq (iAnd .u64 (iShr .u64 e (i : Int)) 1) 1 := fun i hi => by
    rw [u_ne e i hi, bit_at he i (by omega)]
    cases (W e).getLsbD i <;> rfl
  unfold ltP ltQ
  have k0 : iNe (iAnd .u64 e 1) 0 = iEq (iAnd .u64 (iShr .u64 e 0) 1) 1 := key 0 (by decide)
  have k1 : iNe (iAnd .u64 e 2) 0 = iEq (iAnd .u64 (iShr .u64 e 1) 1) 1 := key 1 (by decide)
  have k2 : iNe (iAnd .u64 e 4) 0 = iEq (iAnd .u64 (iShr .u64 e 2) 1) 1 := key 2 (by decide)
  have k3 : iNe (iAnd .u64 e 8) 0 = iEq (iAnd .u64 (iShr .u64 e 3) 1) 1 := key 3 (by decide)
  have k4 : iNe (iAnd .u64 e 16) 0 = iEq (iAnd .u64 (iShr .u64 e 4) 1) 1 := key 4 (by decide)
  have k6 : iNe (iAnd .u64 e 64) 0 = iEq (iAnd .u64 (iShr .u64 e 6) 1) 1 := key 6 (by decide)
  have k7 : iNe (iAnd .u64 e 128) 0 = iEq (iAnd .u64 (iShr .u64 e 7) 1) 1 := key 7 (by decide)
  rw [k0, k1, k2, k3, k4, k6, k7]
/- The texts' conditions. -/
theorem txG_ok {fin : List UInt8 → Bool} (h : ∀ b, b.length ≤ 7 → fin b = true) : ∀ (l : List (Bool × UInt8)) (b : List UInt8), b.length + l.length ≤ 7 → txG fin l b = true
  | [], b, hl => h b (by simpa using hl)
  | (c, x) :: r, b, hl => by
    unfold txG
    have hl : b.length + (r.length + 1) ≤ 7 := hl
    cases c with
    | true => exact txG_ok h r (b ++ [x]) (by simp; omega)
    | false => exact txG_ok h r b (by omega)
theorem frQ_in (e : Int) : 0 ≤ frQ e ∧ frQ e ≤ 255 := by
  unfold frQ
  rw [iAnd_W, show W 255 = BitVec.ofNat 64 255 from W_nat 255]
  have h : (W (iShr .u64 e 8) &&& BitVec.ofNat 64 255).toNat ≤ 255 := by
    rw [BitVec.toNat_and]
    exact Nat.and_le_right
  rw [convI_of (by omega)]
  omega
theorem fnG_ok (e : Int) (b : List UInt8) (hb : b.length ≤ 7) : fnG (frQ e) b = true := by
  obtain ⟨h0, h1⟩ := frQ_in e
  have hl := dgR_len 19 (frQ e) []
  have hi : itF (frQ e) = dgR 19 (frQ e) [] := by unfold itF; rw [iLt_false.2 h0, cond_false]
  unfold fnG inI
  rw [iLe_true.2 (show (-9223372036854775807 : Int) ≤ frQ e by omega), iLe_true.2 (show frQ e ≤ 9223372036854775807 by omega), hi]
  rw [iLe_true.2 (show sLen (sCat b [32]) + sLen (dgR 19 (frQ e) []) ≤ 9223372036854775807 by
    unfold sLen
    have : (sCat b [32]).length = b.length + 1 := by show (b ++ [32]).length = _; simp
    simp at hl; omega)]
  rfl
theorem ptP : Plain Tryd.prog 18 Tryd.f18 := ⟨Tryd.func18, of_decide_eq_true (by kernel_rfl)⟩
theorem ltPl : Plain Tryd.prog 19 Tryd.f19 := ⟨Tryd.func19, of_decide_eq_true (by kernel_rfl)⟩
theorem pt_ok : RowOk Tryd.prog 18 (rowF [.int .u64] none fun g => .st (txV (fnV (pte_Frame0 (g 0).num)) (ltP (g 0).num) [])) := rowT_ok fun g =>
  pcOf_ok mix fair PT_ok HSound_none ptP (fun c _ => OvOk_none c) (ptE (g 0).num) (txG_ok (fun b hb => by rw [frame_q]; exact fnG_ok _ b hb) _ [] (by show 0 + 7 ≤ 7; decide))
theorem lt_ok : RowOk Tryd.prog 19 (rowF [.int .u64] none fun g => .st (txV (fnV (frQ (g 0).num)) (ltQ (g 0).num) [])) := rowT_ok fun g =>
  pcOf_ok mix fair PT_ok HSound_none ltPl (fun c _ => OvOk_none c) (ltE (g 0).num) (txG_ok (fun b hb => fnG_ok _ b hb) _ [] (by show 0 + 7 ≤ 7; decide))
def PL (t u : Int → List UInt8) : List Row := (18, rowF [.int .u64] none fun g => .st (t (g 0).num)) :: (19, rowF [.int .u64] none fun g => .st (u (g 0).num)) :: T17
def tP (e : Int) : List UInt8 := txV (fnV (pte_Frame0 e)) (ltP e) []
def tQ (e : Int) : List UInt8 := txV (fnV (frQ e)) (ltQ e) []
theorem PL_ok : PSound Tryd.prog (lookR (PL tP tQ)) := lookR_cons pt_ok (lookR_cons lt_ok T17_ok)
def anB (a b : Bool) : Bool := bif a then b else false
theorem tellE (t u : Int → List UInt8) (e f b k : Int) (us su mx : Bool) : pcOf Tryd.prog okT (lookR (PL t u)) NOH RO NOV 100 false Tryd.f3 [.it .u64 e, .it .i64 f, .it .i64 b, .it .i64 k, .bl us, .bl su, .bl mx] =
    some (true, .bl (anB (anB (anB (anB (anB (iEq (pte_Make0 f b) (sallyportref11_Make0 f b)) (iEq (pte_Frame0 e) (sallyportref11_Frame0 e))) (pte_Is0 e == sallyportref11_Is0 e)) (pte_Leaf0 e == sallyportref11_Leaf0 e)) (pte_May0 b k us su mx == sallyportref11_May0 b k us su mx)) (sEq (t e) (u e)))) := by kernel_rfl
theorem tellP : Plain Tryd.prog 3 Tryd.f3 := ⟨Tryd.func3, of_decide_eq_true (by kernel_rfl)⟩
theorem tell_true {e : Int} (he : U e) (f b k : Int) (us su mx : Bool) : anB (anB (anB (anB (anB (iEq (pte_Make0 f b) (sallyportref11_Make0 f b)) (iEq (pte_Frame0 e) (sallyportref11_Frame0 e))) (pte_Is0 e == sallyportref11_Is0 e)) (pte_Leaf0 e == sallyportref11_Leaf0 e)) (pte_May0 b k us su mx == sallyportref11_May0 b k us su mx)) (sEq (tP e) (tQ e)) = true := by
  rw [make_same, frame_q, frame_q', is_eq, leaf_eq, may_eq, show tP e = tQ e by unfold tP tQ; rw [frame_q, lt_same he]]
  rw [iEq_true.2 rfl, iEq_true.2 rfl, show sEq (tQ e) (tQ e) = true by unfold sEq; simp]
  cases sallyportref11_Is0 e <;> cases sallyportref11_Leaf0 e <;> cases sallyportref11_May0 b k us su mx <;> rfl
def shTell : List Sh := [.int .u64, .int .i64, .int .i64, .int .i64, .bool, .bool, .bool]
theorem tell_law (g : Nat → AV) (hg : Ofs shTell (norms shTell 0 g)) : Gives Tryd.prog 3 (norms shTell 0 g) (.bl true) := by
  have he : U (g 0).num := inR_u64 hg.2.2.1
  have := pcOf_ok mix fair PL_ok HSound_none tellP (fun c _ => OvOk_none c) (tellE tP tQ (g 0).num (g 1).num (g 2).num (g 3).num (g 4).bool (g 5).bool (g 6).bool) rfl
  rw [tell_true he] at this
  exact this
end
end Go.Proofs.YtjnpaegoobclfaaDoor.PV
