/-
  EncodeBack: the plain law.
-/
import Derived.Test.YtngaeiceicgalaaDoorLa
import Derived.Test.YtngaeiceicgalaaDoorHh
import Derived.Test.YtngaeiceicgalaaDoorEvW
set_option linter.unusedVariables false
set_option linter.unusedSimpArgs false
set_option maxRecDepth 100000
namespace Go.Proofs.YtngaeiceicgalaaDoor.PV
open Go Go.Ev
def deI (w : Int) : In6 := ⟨decode_Decode0 w, decode_Decode1 w, decode_Decode2 w, decode_Decode3 w, decode_Decode4 w, decode_Decode5 w⟩
def eq6 (a b : In6) : Bool := iEq a.op b.op && (iEq a.rd b.rd && (iEq a.r1 b.r1 && (iEq a.r2 b.r2 && (iEq a.im b.im && (iEq a.cs b.cs && true)))))
def bkO (e : In6) (w : Int) : Option Out := brC (iNe (decode_Decode6 w) 0) (some (true, .bl true)) (some (true, .bl (anB (iEq (enE (deI w)) 0) (iEq (enW (deI w)) w))))
theorem backE (e : In6) (w : Int) : pcOf Tryd.prog okT (lookR TE) HR RO NOV 100 false Tryd.f8 [in6 e, .it .u32 w] =
    brC (iEq (enE e) 0) (brC (bif iNe (decode_Decode6 (enW e)) 0 then true else !eq6 (deI (enW e)) e) (some (true, .bl false)) (bkO e w)) (bkO e w) := by kernel_rfl
theorem brC_f {y x : Out} : brC false (some y) (some x) = some x := by show some (Om.pick false _ _) = _; rw [Om.pick_f]
theorem brC_t {y x : Out} : brC true (some y) (some x) = some y := by show some (Om.pick true _ _) = _; rw [Om.pick_t]
theorem de_made {e : In6} {w : Int} (h : isI e = true) (hw : w = enW e) : deI w = e ∧ decode_Decode6 w = 0 := by
  have hi : sallyportref3_Is0 e.op e.rd e.r1 e.r2 e.im e.cs = true := by rw [is_eq]; unfold isI at h; exact h
  have hw' : w = sallyportref3_Encode0 e.op e.rd e.r1 e.r2 e.im e.cs := by rw [hw, enW_eq]; rfl
  obtain ⟨h0, h1, h2, h3, h4, h5, h6⟩ := dec_made hi hw'
  refine ⟨?_, h6⟩
  unfold deI
  rw [h0, h1, h2, h3, h4, h5]
theorem bkO_true {e : In6} {w : Int} (hw : W32 w) : bkO e w = some (true, .bl true) := by
  unfold bkO decode_Decode6
  cases h : decode_Decode_c0 w with
  | true => exact brC_t
  | false =>
    obtain ⟨op, rd, r1, r2, im, cs, hI, hE, _⟩ := any_hit hw h
    have h1 : isI ⟨op, rd, r1, r2, im, cs⟩ = true := by unfold isI; rw [← is_eq]; exact hI
    have h2 : w = enW ⟨op, rd, r1, r2, im, cs⟩ := by rw [enW_eq]; exact hE.symm
    rw [(de_made h1 h2).1, ← h2, enE_is, h1, iEq_true.2 rfl]
    exact brC_f
theorem eq6_true {a b : In6} : eq6 a b = true ↔ a = b := by
  unfold eq6
  obtain ⟨a0, a1, a2, a3, a4, a5⟩ := a
  obtain ⟨b0, b1, b2, b3, b4, b5⟩ := b
  simp only [Bool.and_eq_true, iEq_true, In6.mk.injEq, and_true]
theorem backP : Plain Tryd.prog 8 Tryd.f8 := ⟨Tryd.func8, of_decide_eq_true (by kernel_rfl)⟩
theorem back_true (e : In6) {w : Int} (hw : W32 w) : pcOf Tryd.prog okT (lookR TE) HR RO NOV 100 false Tryd.f8 [in6 e, .it .u32 w] = some (true, .bl true) := by
  rw [backE, bkO_true hw, enE_is]
  cases h : isI e with
  | false => exact brC_f
  | true =>
    obtain ⟨h1, h2⟩ := de_made h rfl
    rw [h1, h2, eq6_true.2 rfl]
    show brC true (brC false _ _) _ = _
    rw [brC_f]
    exact brC_t
theorem back_law (g : Nat → AV) (hg : Ofs [inSh, .int .u32] (norms [inSh, .int .u32] 0 g)) : Gives Tryd.prog 8 (norms [inSh, .int .u32] 0 g) (.bl true) :=
  pcOf_ok mix fair TE_ok HR_ok backP (fun c _ => OvOk_none c) (back_true (de6 (g 0)) (w := (g 1).num) (inR_u32 hg.2.2.2.1)) rfl
end Go.Proofs.YtngaeiceicgalaaDoor.PV
