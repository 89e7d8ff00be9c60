/-
  Functions that read memory and leave it as it is. Own text; nothing of a program.
-/
import Derived.Test.YtngaeiceicgalaaDoorEsA
import Derived.Below
namespace Go.Ev
open Go.Lib
section
variable {P : Program} {ρ : Ren}
/-- A function's condition and value by its arguments and the memory; the memory stays. -/
abbrev RRow := List AV → Mem → Option (Option Bool × AV)
def RRowOk (P : Program) (f : FuncId) (F : RRow) : Prop := ∀ args m c v, F args m = some (c, v) → (c = none ∨ c = some true) →
  ∀ ρ A w vals, Rep ρ A m w → All2 (VR3 ρ) args vals → Done P ρ A w (callFunc f vals.toArray) v m
def hRead : List (FuncId × RRow) → Hd → Hd
  | [], h, f, args, m, k => h f args m k
  | (g, F) :: l, h, f, args, m, k => bif Nat.beq f g then (match F args m with
    | some (c, v) => bindC c (k v m)
    | none => none) else hRead l h f args m k
def ROk (P : Program) : List (FuncId × RRow) → Prop
  | [] => True
  | (g, F) :: l => RRowOk P g F ∧ ROk P l
theorem hRead_ok {h : Hd} (hh : HSound P h) : ∀ {l : List (FuncId × RRow)}, ROk P l → HSound P (hRead l h)
  | [], _ => hh
  | (g, F) :: l, hl => fun f args m k r he hr => by
    simp only [hRead] at he
    cases hb : Nat.beq f g with
    | false => rw [hb, cond_false] at he; exact hRead_ok hh hl.2 f args m k r he hr
    | true =>
    rw [hb, cond_true] at he
    have := Nat.eq_of_beq_eq_true hb
    subst this
    split at he <;> try (cases he; done)
    rename_i c v hF
    obtain ⟨h1, h2⟩ := bindC_ok he hr
    exact ⟨_, _, h2, fun ρ A w vals hR ha => hl.1 args m c v hF h1 ρ A w vals hR ha⟩
theorem RRowOk.of_calls {f : FuncId} {fn : Func} {c : Code} (hf : Plain P f fn) (hb : fn.body = some c) {F : RRow}
    (h : ∀ args m c v, F args m = some (c, v) → (c = none ∨ c = some true) → ∀ (ρ : Ren) A w vals, Rep ρ A m w → All2 (VR3 ρ) args vals → Calls P f vals.toArray w fun e w' => (∃ rv, e = .returned rv ∧ VR3 ρ v rv) ∧ Go.RowKit.Below w.heap.size w w') : RRowOk P f F := fun args m cc v hF hc ρ A w vals hR ha =>
  .inr ⟨f, vals.toArray, callFunc_run hf hb _ _, (h args m cc v hF hc ρ A w vals hR ha).mono fun e w' ⟨⟨rv, h1, h7⟩, h2⟩ => ⟨ρ, rv, h1, Ren.ext.refl ρ, hR.later h2.size (fun b hb => h2.block b hb), ⟨h2.size, fun b hb _ => h2.block b hb, h2.os, h2.output, h2.tape⟩, h7⟩⟩
/-- The array that a slice shows. -/
def slArr (m : Mem) (id : Nat) (path : List PE) : Option (Nat × Sh × (Nat → AV)) :=
  match m.get id with
  | some (.cells tr _) => (match AV.get path tr with
    | some (.arr n s f) => some (n, s, f)
    | _ => none)
  | _ => none
theorem slArr_ok {A : Nat → Prop} {w : World} {m : Mem} (hR : Rep ρ A m w) {id : Nat} {path : List PE} {n : Nat} {s : Sh} {f : Nat → AV} (h : slArr m id path = some (n, s, f)) {lo len : Nat} {tip : Bool} {v : Value} (hv : VR1 ρ (.sl id path lo len tip) v) :
    ∃ off c, v = .slice (some ⟨ρ.bb id, off, none⟩) len c ∧ len ≤ c ∧ ρ.bb id < w.heap.size ∧ ∀ j, j < len → (f (lo + j)).wf ∧ (f (lo + j)).shape = s ∧
      ∀ r a, (f (lo + j)).flat[r]? = some a → ∃ rv, w.cell? ⟨ρ.bb id, off + j * s.size + r, none⟩ = some rv ∧ VR1 ρ a rv := by
  obtain ⟨hd, n', s', o, off, c, h1, h2, h3, h4, h5, _⟩ := hv
  unfold slArr at h
  split at h <;> try (cases h; done)
  rename_i tr wr hm
  split at h <;> try (cases h; done)
  rename_i n0 s0 f0 hg
  cases h
  obtain ⟨_, b1, b2, b3, b4, _⟩ := hR.blk id _ hm
  rw [b1] at h1
  obtain ⟨b, g1, g2, g3, g4⟩ := AV.get_ok b2 h1
  rw [hg] at g1
  cases g1
  simp only [AV.shape, Sh.arr.injEq] at g3
  obtain ⟨rfl, rfl⟩ := g3
  obtain ⟨cs, e, fz, hbk⟩ := b3
  refine ⟨off, c, h4, h3, (Array.getElem?_eq_some_iff.1 hbk).1, fun j hj => ?_⟩
  have hp : PathTo (AV.arr n s f).shape [.idx (lo + j)] s ((lo + j) * s.size + 0) := ⟨0, by omega, ⟨rfl, rfl⟩, rfl⟩
  obtain ⟨b', k1, k2, k3, k4⟩ := AV.get_ok g2 hp
  cases (show some (f (lo + j)) = some b' from k1)
  refine ⟨k2, k3, fun r a ha => ?_⟩
  have hr : r < s.size := by
    have := (List.getElem?_eq_some_iff.1 ha).1
    rwa [AV.flat_len _ k2, k3] at this
  have hrr : (lo + j) * s.size + r < (Sh.arr n s).size := by
    show _ < n * s.size
    have : (lo + j + 1) * s.size ≤ n * s.size := Nat.mul_le_mul_right _ (by omega)
    rw [Nat.add_mul, Nat.one_mul] at this
    omega
  have q1 := k4 r hr
  rw [Nat.add_zero, g4 _ hrr] at q1
  rw [q1] at ha
  obtain ⟨rv, z1, z2⟩ := b4 _ a ha
  refine ⟨rv, ?_, z2⟩
  rw [h5 (by omega), ← z1]
  congr 2
  rw [Nat.add_mul]; omega
/-- Texts put together, one between each two. -/
def joF (f : Nat → List UInt8) (sep : List UInt8) (n : Nat) : List UInt8 := Lib.join ((List.range n).map f) sep
end
end Go.Ev
