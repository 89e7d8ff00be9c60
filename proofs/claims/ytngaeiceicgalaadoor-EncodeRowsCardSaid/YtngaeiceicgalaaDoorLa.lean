/-
  EncodeTells: the plain law.
-/
import Derived.Test.YtngaeiceicgalaaDoorTa
import Derived.Test.YtngaeiceicgalaaDoorIa
set_option linter.unusedVariables false
set_option linter.unusedSimpArgs false
set_option maxRecDepth 100000
namespace Go.Proofs.YtngaeiceicgalaaDoor.PV
open Go Go.Ev
def anB (a b : Bool) : Bool := bif a then b else false
def rwW (e : In6) : Int := sallyportref3_Encode0 e.op e.rd e.r1 e.r2 e.im e.cs
def rwB (e : In6) : Bool := sallyportref3_Encode1 e.op e.rd e.r1 e.r2 e.im e.cs
theorem tellsE (e : In6) : pcOf Tryd.prog okT (lookR TE) HR RO NOV 100 false Tryd.f3 [in6 e] =
    some (true, .bl (anB (anB (anB (iEq (enW e) (rwW e)) (iEq (enE e) 0 == rwB e)) (bif rwB e then true else iEq (enE e) 40)) (sEq (textV e) (textV e)))) := by kernel_rfl
theorem enW_eq (e : In6) : enW e = rwW e := by
  cases h : isI e with
  | true =>
    have h' := h
    unfold isI at h
    have := pe_eq h
    unfold enW rwW
    exact this
  | false =>
    unfold isI at h
    unfold enW rwW encode_Encode0 sallyportref3_Encode0
    rw [is_eq, h]
    rfl
theorem rwB_eq (e : In6) : rwB e = isI e := by
  unfold rwB isI sallyportref3_Encode1
  rw [is_eq]
  cases insn_Is0 e.op e.rd e.r1 e.r2 e.im e.cs <;> rfl
theorem tells_true (e : In6) : anB (anB (anB (iEq (enW e) (rwW e)) (iEq (enE e) 0 == rwB e)) (bif rwB e then true else iEq (enE e) 40)) (sEq (textV e) (textV e)) = true := by
  rw [enW_eq, rwB_eq, enE_is, iEq_true.2 rfl, show sEq (textV e) (textV e) = true by unfold sEq; simp]
  cases isI e <;> rfl
theorem tellsP : Plain Tryd.prog 3 Tryd.f3 := ⟨Tryd.func3, of_decide_eq_true (by kernel_rfl)⟩
theorem tells_law (g : Nat → AV) (hg : Ofs [inSh] (norms [inSh] 0 g)) : Gives Tryd.prog 3 (norms [inSh] 0 g) (.bl true) := by
  have := pcOf_ok mix fair TE_ok HR_ok tellsP (fun c _ => OvOk_none c) (tellsE (de6 (g 0))) rfl
  rw [tells_true] at this
  exact this
end Go.Proofs.YtngaeiceicgalaaDoor.PV
