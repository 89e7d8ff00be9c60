/-
  Decimal numerals: as the document's text makes them, as the library tells them; functions of the library that leave all as it is. Own text; nothing of a program.
-/
import Derived.Test.YtngaeiceicgalaaDoorEvX
import Derived.Lib.ItoaNum
import Derived.Lib.Join
import Derived.Lib.LaidTab
import Derived.Sort.Grow
namespace Go.Ev
open Go.Lib
section
variable {P : Program}
def dgB (n : Int) : UInt8 := UInt8.ofNat (iConv .u8 (iAdd .i64 48 (iRem n 10))).toNat
/-- The digits of n ahead of s, at most k + 1 of them. -/
def dgR : Nat → Int → List UInt8 → List UInt8
  | 0, n, s => sCat [dgB n] s
  | k + 1, n, s => bif iEq (iQuo .i64 n 10) 0 then sCat [dgB n] s else dgR k (iQuo .i64 n 10) (sCat [dgB n] s)
def dgG : Nat → Int → List UInt8 → Bool
  | 0, n, s => iLe (sLen [dgB n] + sLen s) 9223372036854775807 && (iEq (iQuo .i64 n 10) 0 && true)
  | k + 1, n, s => iLe (sLen [dgB n] + sLen s) 9223372036854775807 && bif iEq (iQuo .i64 n 10) 0 then true else dgG k (iQuo .i64 n 10) (sCat [dgB n] s)
theorem quo10 {n : Int} (h : 0 ≤ n ∧ n < 9223372036854775808) : iQuo .i64 n 10 = n / 10 := by
  unfold iQuo
  rw [Int.tdiv_eq_ediv_of_nonneg h.1]
  have := wrap_i64 (x := n / 10)
  simp [IntKind.wrap, IntKind.bits, IntKind.signed]; omega
theorem dgB_eq {n : Int} (h : 0 ≤ n) : dgB n = UInt8.ofNat (48 + n.toNat % 10) := by
  unfold dgB iConv iAdd iRem
  congr 1
  rw [Int.tmod_eq_emod_of_nonneg h]
  simp [IntKind.wrap, IntKind.bits, IntKind.signed]; omega
theorem dgR_eq : ∀ (k : Nat) (n : Int) (s : List UInt8), 0 ≤ n → n < 9223372036854775808 → n < (10 : Int) ^ (k + 1) → dgR k n s = decDigits n.toNat ++ s
  | 0, n, s, h0, h1, h2 => by
    unfold dgR
    rw [dgB_eq h0, decDigits, dif_pos (by omega)]
    show [_] ++ s = _
    congr 3
    omega
  | k + 1, n, s, h0, h1, h2 => by
    unfold dgR
    rw [quo10 ⟨h0, h1⟩, dgB_eq h0]
    by_cases h : n < 10
    · rw [show iEq (n / 10) 0 = true by unfold iEq; simp; omega, cond_true, decDigits, dif_pos (by omega)]
      show [_] ++ s = _
      congr 3
      omega
    · rw [show iEq (n / 10) 0 = false by unfold iEq; simp; omega, cond_false]
      have hp : (10 : Int) ^ (k + 1 + 1) = 10 ^ (k + 1) * 10 := rfl
      have hq : n / 10 < (10 : Int) ^ (k + 1) := by generalize (10 : Int) ^ (k + 1) = B at hp; rw [hp] at h2; omega
      have e1 := dgR_eq k (n / 10) (sCat [UInt8.ofNat (48 + n.toNat % 10)] s) (by omega) (by omega) hq
      have e2 : decDigits n.toNat = decDigits (n.toNat / 10) ++ [UInt8.ofNat (48 + n.toNat % 10)] := by
        conv => lhs; unfold decDigits
        rw [dif_neg (by omega)]
      rw [e1, e2, show (n / 10).toNat = n.toNat / 10 by omega, List.append_assoc]
      rfl
theorem dgG_ok : ∀ (k : Nat) (n : Int) (s : List UInt8), 0 ≤ n → n < 9223372036854775808 → n < (10 : Int) ^ (k + 1) → s.length + k < 1000 → dgG k n s = true
  | 0, n, s, h0, h1, h2, h3 => by
    unfold dgG
    rw [quo10 ⟨h0, h1⟩, show iEq (n / 10) 0 = true by unfold iEq; simp; omega]
    rw [show iLe (sLen [dgB n] + sLen s) 9223372036854775807 = true by unfold iLe sLen; simp; omega]
    rfl
  | k + 1, n, s, h0, h1, h2, h3 => by
    unfold dgG
    rw [quo10 ⟨h0, h1⟩, show iLe (sLen [dgB n] + sLen s) 9223372036854775807 = true by unfold iLe sLen; simp; omega, Bool.true_and]
    cases h : iEq (n / 10) 0 with
    | true => rfl
    | false =>
      have h : n / 10 ≠ 0 := by unfold iEq at h; simpa using h
      have hp : (10 : Int) ^ (k + 1 + 1) = 10 ^ (k + 1) * 10 := rfl
      have hq : n / 10 < (10 : Int) ^ (k + 1) := by generalize (10 : Int) ^ (k + 1) = B at hp; rw [hp] at h2; omega
      rw [cond_false]
      exact dgG_ok k (n / 10) _ (by omega) (by omega) hq (by show ([_] ++ s).length + k < 1000; simp; omega)
/-- A number's numeral. -/
def itF (n : Int) : List UInt8 := bif iLt n 0 then sCat [45] (dgR 19 (iSub .i64 0 n) []) else dgR 19 n []
theorem itF_eq {n : Int} (h0 : -9223372036854775808 < n) (h1 : n < 9223372036854775808) : itF n = itoa n := by
  unfold itF itoa
  cases h : iLt n 0 with
  | true =>
    have h := iLt_true.1 h
    rw [cond_true, if_pos h]
    have e : iSub .i64 0 n = -n := by unfold iSub; simp [IntKind.wrap, IntKind.bits, IntKind.signed]; omega
    rw [e, dgR_eq 19 (-n) [] (by omega) (by omega) (by have : (10 : Int) ^ (19 + 1) = 100000000000000000000 := rfl; omega), List.append_nil, show (-n).toNat = n.natAbs by omega]
    rfl
  | false =>
    have h := iLt_false.1 h
    rw [cond_false, if_neg (by omega), dgR_eq 19 n [] (by omega) (by omega) (by have : (10 : Int) ^ (19 + 1) = 100000000000000000000 := rfl; omega), List.append_nil]
/- Functions of the library. -/
theorem Gives.of_calls {f : FuncId} {fn : Func} {c : Code} (hf : Plain P f fn) (hb : fn.body = some c) {args : List AV} {s : List UInt8}
    (h : ∀ (ρ : Ren) A m w vals, Rep ρ A m w → All2 (VR3 ρ) args vals → Calls P f vals.toArray w fun e w' => e = .returned (.string ⟨s.toArray⟩) ∧ w.heap.size ≤ w'.heap.size ∧ (∀ b, b < w.heap.size → w'.heap[b]? = w.heap[b]?) ∧ w'.os = w.os ∧ w'.output = w.output ∧ w'.tape = w.tape) : Gives P f args (.st s) := fun ρ A m w vals hR ha =>
  .inr ⟨f, vals.toArray, callFunc_run hf hb _ _, (h ρ A m w vals hR ha).mono fun e w' ⟨h1, h2, h3, h4, h5, h6⟩ => ⟨ρ, _, h1, Ren.ext.refl ρ, hR.later h2 h3, ⟨h2, fun b hb _ => h3 b hb, h4, h5, h6⟩, rfl⟩⟩
theorem it_val {ρ : Ren} {k : IntKind} {n : Int} {vals : List Value} (h : All2 (VR3 ρ) [.it k n] vals) : vals.toArray = #[.int k n] := by
  match vals, h with
  | [v], ⟨h, _⟩ => rw [(show v = .int k n from h.1)]
/-- A table that is laid. -/
theorem Rep.tabIs {ρ : Ren} {A : Nat → Prop} {m : Mem} {w : World} (hR : Rep ρ A m w) {g : Nat} {name : String} {k : IntKind} {zs : List Int} (hm : (g, (zs.map fun z => Value.int k z).toArray) ∈ tabs) (hg : P.globalNamed name = some g) : TabIs P w name k zs := by
  obtain ⟨⟨e, fz, h1⟩, _⟩ := hR.tab _ hm
  unfold TabIs World.var?
  rw [hg]
  simp only [Option.bind_some, h1]
end
end Go.Ev
