/-
  The evaluator: arguments by their shapes; rows of a table. Own text; nothing of a program.
-/
import Derived.Test.YtngaeiceicgalaaDoorEvS
namespace Go.Ev
section
variable {P : Program} {ρ : Ren}

def AV.bool : AV → Bool
  | .bl x => x
  | _ => false
def AV.str : AV → List UInt8
  | .st l => l
  | _ => []
def AV.fld (i : Nat) : AV → AV
  | .agg l => l.getD i .un
  | _ => .un
def AV.ix (i : Nat) : AV → AV
  | .arr _ _ f => f i
  | _ => .un

mutual
/-- A value laid out by its shape. -/
def norm : Sh → AV → AV
  | .int k, a => .it k a.num
  | .bool, a => .bl a.bool
  | .str, a => .st a.str
  | .ref, a => a
  | .agg l, a => .agg (norms l 0 fun i => a.fld i)
  | .arr n s, a => .arr n s fun i => norm s (a.ix i)
def norms : List Sh → Nat → (Nat → AV) → List AV
  | [], _, _ => []
  | s :: r, i, g => norm s (g i) :: norms r (i + 1) g
end

mutual
theorem norm_eq : ∀ (s : Sh) (a : AV), a.wf → a.shape = s → norm s a = a
  | .int k, a, _, h => by
    cases a <;> simp [AV.shape] at h
    subst h; rfl
  | .bool, a, _, h => by
    cases a <;> simp [AV.shape] at h
    rfl
  | .str, a, _, h => by
    cases a <;> simp [AV.shape] at h
    rfl
  | .ref, a, _, _ => rfl
  | .agg l, a, hw, h => by
    cases a <;> simp [AV.shape] at h
    rename_i m
    simp only [norm]
    congr 1
    exact norms_eq l m 0 (fun i => (AV.agg m).fld i) hw h (fun i => by simp [AV.fld])
  | .arr n s, a, hw, h => by
    cases a <;> simp [AV.shape] at h
    rename_i n' s' f
    obtain ⟨rfl, rfl⟩ := h
    simp only [norm]
    congr 1
    funext i
    exact norm_eq s' _ (hw i).1 (hw i).2
theorem norms_eq : ∀ (l : List Sh) (m : List AV) (i : Nat) (g : Nat → AV), AV.wfs m → AV.shapes m = l → (∀ j, g (i + j) = m.getD j .un) → norms l i g = m
  | [], m, i, g, _, h, _ => by cases m <;> simp [AV.shapes] at h; rfl
  | s :: l, m, i, g, hw, h, hg => by
    cases m with
    | nil => simp [AV.shapes] at h
    | cons a m =>
      simp only [AV.shapes, List.cons.injEq] at h
      simp only [norms]
      have h0 : g i = a := by simpa using hg 0
      rw [h0, norm_eq s a hw.1 h.1, norms_eq l m (i + 1) g hw.2 h.2 fun j => by
        have := hg (j + 1)
        rw [show i + 1 + j = i + (j + 1) by omega, this]; simp]
end

mutual
theorem Sh.beq_refl : ∀ s : Sh, s.beq s = true
  | .int k => by simp [Sh.beq]
  | .bool => rfl
  | .str => rfl
  | .ref => rfl
  | .agg l => Sh.beqs_refl l
  | .arr n s => by simp [Sh.beq, Sh.beq_refl s]
theorem Sh.beqs_refl : ∀ l : List Sh, Sh.beqs l l = true
  | [] => rfl
  | s :: l => by simp [Sh.beqs, Sh.beq_refl s, Sh.beqs_refl l]
end

theorem VR3.wf {a : AV} {v : Value} (h : VR3 ρ a v) : a.wf := by
  cases a <;> first | trivial | exact h.1

theorem All2.wfs {l : List AV} {m : List Value} (h : All2 (VR3 ρ) l m) : AV.wfs l := by
  induction l generalizing m with
  | nil => exact trivial
  | cons a l ih => cases m with
    | nil => exact h.elim
    | cons b m => exact ⟨VR3.wf h.1, ih h.2⟩

/-- A row: arguments of these shapes. -/
def rowF (shs : List Sh) (G : Option ((Nat → AV) → Bool)) (V : (Nat → AV) → AV) : List AV → Option (Option Bool × AV) := fun args =>
  bif Sh.beqs (AV.shapes args) shs then some (match G with | some G => some (G fun i => args.getD i .un) | none => none, V fun i => args.getD i .un) else none

theorem rowF_row {f : FuncId} {shs : List Sh} {G : Option ((Nat → AV) → Bool)} {V : (Nat → AV) → AV} (h : ∀ g, (∀ G', G = some G' → G' g = true) → Gives P f (norms shs 0 g) (V g)) : RowOk P f (rowF shs G V) := fun args c v he hc => by
  unfold rowF at he
  cases hb : Sh.beqs (AV.shapes args) shs with
  | false => rw [hb] at he; cases he
  | true =>
  rw [hb, cond_true] at he
  cases he
  have hs := Sh.beqs_eq _ _ hb
  intro ρ A m w vals hR hargs
  have := h (fun i => args.getD i .un) (fun G' hG => by
    subst hG
    rcases hc with hc | hc
    · cases hc
    · exact Option.some.inj hc)
  rw [norms_eq shs args 0 _ hargs.wfs hs fun j => by simp] at this
  exact this ρ A m w vals hR hargs

/-- .. whatever they are. -/
theorem rowT_ok {f : FuncId} {shs : List Sh} {V : (Nat → AV) → AV} (h : ∀ g, Gives P f (norms shs 0 g) (V g)) : RowOk P f (rowF shs none V) := rowF_row fun g _ => h g
/-- .. under a condition. -/
theorem rowF_ok {f : FuncId} {shs : List Sh} {G : (Nat → AV) → Bool} {V : (Nat → AV) → AV} (h : ∀ g, G g = true → Gives P f (norms shs 0 g) (V g)) : RowOk P f (rowF shs (some G) V) := rowF_row fun g hg => h g (hg G rfl)

/- Rules that make conditions simple. -/
theorem cS1 {α : Type} (c : Bool) (a : α) : (bif c then a else a) = a := by cases c <;> rfl
theorem cS2 (c : Bool) : (bif c then true else false) = c := by cases c <;> rfl
theorem cS3 {α : Type} (c : Bool) (x y z : α) : (bif c then (bif c then x else y) else z) = bif c then x else z := by cases c <;> rfl
theorem cS4 {α : Type} (c : Bool) (x y z : α) : (bif c then x else (bif c then y else z)) = bif c then x else z := by cases c <;> rfl
theorem cS6 (x : Bool) : (x && true) = x := by cases x <;> rfl
theorem cS7 (x : Bool) : (true && x) = x := rfl

end
end Go.Ev
