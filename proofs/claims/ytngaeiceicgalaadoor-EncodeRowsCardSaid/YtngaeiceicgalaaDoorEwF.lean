/-
  Small helpers for loops told round by round: bodies of blocks, pointers and slices told apart, a block that is not entered. Own text; nothing of a program.
-/
import Derived.Test.YtngaeiceicgalaaDoorEwE
namespace Go.Ev
noncomputable section
noncomputable def bodyAt (f : Option Code) (B : Nat) : Code := inLoop (blkAt (f.getD .skip) B)
def isPtr (id : Nat) (r : Sh) : AV → Bool
  | .pt i [] s => Nat.beq i id && s.beq r
  | _ => false
theorem isPtr_ok {id : Nat} {r : Sh} {a : AV} (h : isPtr id r a = true) : a = .pt id [] r := by
  unfold isPtr at h
  split at h <;> try (cases h; done)
  simp only [Bool.and_eq_true, Nat.beq_eq] at h
  rw [h.1, Sh.beq_eq _ _ h.2]
def isNil : AV → Bool
  | .nsl => true
  | _ => false
theorem isNil_ok {a : AV} (h : isNil a = true) : a = .nsl := by
  unfold isNil at h
  split at h <;> first | rfl | cases h
def isSl (id : Nat) (tip : Bool) : AV → Bool
  | .sl i [] lo _ t => Nat.beq i id && (Nat.beq lo 0 && (t == tip))
  | _ => false
def lenSl : AV → Nat
  | .sl _ _ _ n _ => n
  | _ => 0
theorem isSl_ok {id : Nat} {tip : Bool} {a : AV} (h : isSl id tip a = true) : a = .sl id [] 0 (lenSl a) tip := by
  unfold isSl at h
  split at h <;> try (cases h; done)
  simp only [Bool.and_eq_true, Nat.beq_eq, beq_iff_eq] at h
  rw [h.1, h.2.1, h.2.2]; rfl
/-- A block that is not entered. -/
def ovNot (B : Nat) : Ov := fun id _ _ _ => bif Nat.beq id B then some none else none
theorem ovNot_ok {P : Program} {B : Nat} : ∀ c, OvOk P (ovNot B) c := fun c => OvOk_blks c fun x _ fr m k r _ h _ => by
  unfold ovNot at h
  cases hb : Nat.beq x.1 B <;> rw [hb] at h <;> cases h
theorem noGdL {L : Lq} {l : List AV} (h : ((l.take (L.ts.length + L.mv.length)).all fun a => !isGd a) = true) : NoGd (L.F l) := Lq.noGd fun a ha => by
  have := List.all_eq_true.1 h a ha
  simpa using this
theorem iAdd_one (j : Nat) (h : j < 1000000000000) : iAdd .i64 (j : Int) 1 = ((j + 1 : Nat) : Int) := by
  rw [iAdd_i64 (by omega) (by omega)]; omega
/-- The numbers of an array. -/
def numA (a : AV) : Nat → Int := fun i => (a.ix i).num
/-- One place of a row of numbers is another one. -/
def setN (f : Nat → Int) (i : Nat) (v : Int) : Nat → Int := fun j => bif j == i then v else f j
theorem setN_at (f : Nat → Int) (i : Nat) (v : Int) : setN f i v i = v := by unfold setN; rw [beq_self_eq_true, cond_true]
theorem setN_ne (f : Nat → Int) {i j : Nat} (v : Int) (h : j ≠ i) : setN f i v j = f j := by unfold setN; rw [show (j == i) = false by simp [h], cond_false]
/-- All below n. -/
def allTo (f : Nat → Bool) : Nat → Bool
  | 0 => true
  | n + 1 => allTo f n && f n
theorem allTo_at {f : Nat → Bool} : ∀ {n : Nat}, allTo f n = true → ∀ i, i < n → f i = true
  | n + 1, h, i, hi => by
    unfold allTo at h
    rw [Bool.and_eq_true] at h
    by_cases e : i = n
    · subst e; exact h.2
    · exact allTo_at h.1 i (by omega)
theorem allTo_all {f : Nat → Bool} : ∀ {n : Nat}, (∀ i, i < n → f i = true) → allTo f n = true
  | 0, _ => rfl
  | n + 1, h => by
    unfold allTo
    rw [Bool.and_eq_true]
    exact ⟨allTo_all fun i hi => h i (by omega), h n (by omega)⟩
end
end Go.Ev
