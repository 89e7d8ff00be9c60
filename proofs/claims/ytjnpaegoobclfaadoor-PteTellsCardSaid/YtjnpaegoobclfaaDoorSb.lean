/-
  The document's numerals, the texts of an entry, evaluated.
-/
import Derived.Test.YtjnpaegoobclfaaDoorSa
import Derived.Test.YtjnpaegoobclfaaDoorGb
import Derived.Test.YtjnpaegoobclfaaDoorEwF
set_option linter.unusedVariables false
set_option linter.unusedSimpArgs false
set_option maxRecDepth 100000
namespace Go.Proofs.YtjnpaegoobclfaaDoor.PV
noncomputable section
open Go Go.Ev
theorem dgR_len : ∀ (k : Nat) (n : Int) (s : List UInt8), (dgR k n s).length ≤ k + 1 + s.length
  | 0, n, s => by unfold dgR; show ([_] ++ s).length ≤ _; simp; omega
  | k + 1, n, s => by
    unfold dgR
    cases iEq (iQuo .i64 n 10) 0 with
    | true => rw [cond_true]; show ([_] ++ s).length ≤ _; simp; omega
    | false =>
      rw [cond_false]
      have := dgR_len k (iQuo .i64 n 10) (sCat [dgB n] s)
      have h2 : (sCat [dgB n] s).length = s.length + 1 := by show ([_] ++ s).length = _; simp
      omega
def dig0R : Row := (25, rowF [.int .i64] (some fun g => iLe 0 (g 0).num && iLe (g 0).num 9223372036854775807) fun g => .st (dgR 19 (g 0).num []))
theorem dig0E (n : Int) : pcOf Tryd.prog okT (lookR T0) NOH RO NOV 20 false Tryd.f25 [.it .i64 n] = some (!iLt n 0 && dgG 19 n [], .st (dgR 19 n [])) := by kernel_rfl
theorem digP : Plain Tryd.prog 25 Tryd.f25 := ⟨Tryd.func25, of_decide_eq_true (by kernel_rfl)⟩
theorem dig0_ok : RowOk Tryd.prog 25 (rowF [.int .i64] (some fun g => iLe 0 (g 0).num && iLe (g 0).num 9223372036854775807) fun g => .st (dgR 19 (g 0).num [])) := rowF_ok fun g hg => by
  rw [Bool.and_eq_true] at hg
  have h0 := iLe_true.1 hg.1
  have h1 := iLe_true.1 hg.2
  refine pcOf_ok mix fair T0_ok HSound_none digP (fun c _ => OvOk_none c) (dig0E (g 0).num) ?_
  rw [iLt_false.2 h0, dgG_ok 19 (g 0).num [] h0 (by omega) (by have : (10 : Int) ^ (19 + 1) = 100000000000000000000 := rfl; omega) (by decide)]
  rfl
def digR : Row := (25, rowF [.int .i64] (some fun g => iLe (-9223372036854775807) (g 0).num && iLe (g 0).num 9223372036854775807) fun g => .st (itF (g 0).num))
theorem digE (n : Int) : pcOf Tryd.prog okT (lookR [dig0R]) NOH RO NOV 20 false Tryd.f25 [.it .i64 n] =
    some (bif iLt n 0 then (iLe 0 (iSub .i64 0 n) && iLe (iSub .i64 0 n) 9223372036854775807) && (iLe (sLen [45] + sLen (dgR 19 (iSub .i64 0 n) [])) 9223372036854775807 && true) else dgG 19 n [], .st (itF n)) := by kernel_rfl
theorem dig_ok : RowOk Tryd.prog 25 (rowF [.int .i64] (some fun g => iLe (-9223372036854775807) (g 0).num && iLe (g 0).num 9223372036854775807) fun g => .st (itF (g 0).num)) := rowF_ok fun g hg => by
  rw [Bool.and_eq_true] at hg
  have h0 := iLe_true.1 hg.1
  have h1 := iLe_true.1 hg.2
  refine pcOf_ok mix fair (lookR_cons dig0_ok lookR_nil) HSound_none digP (fun c _ => OvOk_none c) (digE (g 0).num) ?_
  cases h : iLt (g 0).num 0 with
  | true =>
    have h := iLt_true.1 h
    have e : iSub .i64 0 (g 0).num = -(g 0).num := by unfold iSub; simp [IntKind.wrap, IntKind.bits, IntKind.signed]; omega
    have hl := dgR_len 19 (-(g 0).num) []
    rw [cond_true, e, iLe_true.2 (show (0 : Int) ≤ -(g 0).num by omega), iLe_true.2 (show -(g 0).num ≤ 9223372036854775807 by omega)]
    rw [iLe_true.2 (show sLen [45] + sLen (dgR 19 (-(g 0).num) []) ≤ 9223372036854775807 by unfold sLen; simp at hl ⊢; omega)]
    rfl
  | false =>
    have h := iLt_false.1 h
    rw [cond_false]
    exact dgG_ok 19 (g 0).num [] h (by omega) (by have : (10 : Int) ^ (19 + 1) = 100000000000000000000 := rfl; omega) (by decide)
def itoaR : Row := (24, rowF [.int .i64] (some fun g => iLe (-9223372036854775807) (g 0).num && iLe (g 0).num 9223372036854775807) fun g => .st (itF (g 0).num))
def PT : List Row := itoaR :: digR :: T17
theorem PT_ok : PSound Tryd.prog (lookR PT) := lookR_cons itoa_row (lookR_cons dig_ok T17_ok)
/- The letters of an entry. -/
def txV (fin : List UInt8 → List UInt8) : List (Bool × UInt8) → List UInt8 → List UInt8
  | [], b => fin b
  | (c, x) :: r, b => bif c then txV fin r (b ++ [x]) else txV fin r b
def txG (fin : List UInt8 → Bool) : List (Bool × UInt8) → List UInt8 → Bool
  | [], b => fin b
  | (c, x) :: r, b => bif c then txG fin r (b ++ [x]) else txG fin r b
def inI (f : Int) : Bool := iLe (-9223372036854775807) f && iLe f 9223372036854775807
def fnG (f : Int) (b : List UInt8) : Bool := inI f && (iLe (sLen (sCat b [32]) + sLen (itF f)) 9223372036854775807 && true)
def fnV (f : Int) (b : List UInt8) : List UInt8 := sCat (sCat b [32]) (itF f)
def ltP (e : Int) : List (Bool × UInt8) := [(iNe (iAnd .u64 e 1) 0, 86), (iNe (iAnd .u64 e 2) 0, 82), (iNe (iAnd .u64 e 4) 0, 87), (iNe (iAnd .u64 e 8) 0, 88), (iNe (iAnd .u64 e 16) 0, 85), (iNe (iAnd .u64 e 64) 0, 65), (iNe (iAnd .u64 e 128) 0, 68)]
def ltQ (e : Int) : List (Bool × UInt8) := [(iEq (iAnd .u64 (iShr .u64 e 0) 1) 1, 86), (iEq (iAnd .u64 (iShr .u64 e 1) 1) 1, 82), (iEq (iAnd .u64 (iShr .u64 e 2) 1) 1, 87), (iEq (iAnd .u64 (iShr .u64 e 3) 1) 1, 88), (iEq (iAnd .u64 (iShr .u64 e 4) 1) 1, 85), (iEq (iAnd .u64 (iShr .u64 e 6) 1) 1, 65), (iEq (iAnd .u64 (iShr .u64 e 7) 1) 1, 68)]
def frQ (e : Int) : Int := iConv .i64 (iAnd .u64 (iShr .u64 e 8) 255)
theorem ptE (e : Int) : pcOf Tryd.prog okT (lookR PT) NOH RO NOV 100 false Tryd.f18 [.it .u64 e] = some (txG (fnG (pte_Frame0 e)) (ltP e) [], .st (txV (fnV (pte_Frame0 e)) (ltP e) [])) := by kernel_rfl
theorem ltE (e : Int) : pcOf Tryd.prog okT (lookR PT) NOH RO NOV 100 false Tryd.f19 [.it .u64 e] = some (txG (fnG (frQ e)) (ltQ e) [], .st (txV (fnV (frQ e)) (ltQ e) [])) := by kernel_rfl
end
end Go.Proofs.YtjnpaegoobclfaaDoor.PV
