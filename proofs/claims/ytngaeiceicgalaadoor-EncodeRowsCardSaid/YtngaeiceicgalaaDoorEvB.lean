/-
  The evaluator's memory, and what it stands for in the model's world. Own text; nothing of a program.
-/
import Derived.Test.YtngaeiceicgalaaDoorEvA
import Derived.Test.YtngaeiceicgalaaDoorEvTab
namespace Go.Ev

/-- A tree of places 0, 1, 2, .. -/
inductive Tr (α : Type) where
  | e
  | n (v : Option α) (l r : Tr α)

def Tr.get {α : Type} : Tr α → Nat → Option α
  | .e, _ => none
  | .n v _ _, 0 => v
  | .n _ l r, k + 1 => bif Nat.beq (k % 2) 0 then l.get (k / 2) else r.get (k / 2)

def Tr.set {α : Type} (x : Option α) : Tr α → Nat → Tr α
  | .e, _ => .e
  | .n _ l r, 0 => .n x l r
  | .n v l r, k + 1 => bif Nat.beq (k % 2) 0 then .n v (l.set x (k / 2)) r else .n v l (r.set x (k / 2))

def Tr.mk {α : Type} : Nat → Tr α
  | 0 => .e
  | d + 1 => .n none (Tr.mk d) (Tr.mk d)

theorem Tr.get_mk {α : Type} (d : Nat) (i : Nat) : (Tr.mk d : Tr α).get i = none := by
  induction d generalizing i with
  | zero => cases i <;> rfl
  | succ d ih =>
    cases i with
    | zero => rfl
    | succ i => simp only [Tr.mk, Tr.get]; cases Nat.beq (i % 2) 0 <;> exact ih _

theorem Tr.get_set {α : Type} (x : Option α) (t : Tr α) (i j : Nat) (y : α) (h : (t.set x i).get j = some y) :
    (j = i ∧ x = some y) ∨ (j ≠ i ∧ t.get j = some y) := by
  induction t generalizing i j with
  | e => cases i <;> cases j <;> simp [Tr.set, Tr.get] at h
  | n v l r ihl ihr =>
    cases i with
    | zero =>
      cases j with
      | zero => simp [Tr.set, Tr.get] at h; exact .inl ⟨rfl, h⟩
      | succ j => simp only [Tr.set, Tr.get] at h; exact .inr ⟨by omega, by simp only [Tr.get]; exact h⟩
    | succ i =>
      cases j with
      | zero =>
        refine .inr ⟨by omega, ?_⟩
        simp only [Tr.set] at h
        cases hb : Nat.beq (i % 2) 0 <;> simp only [hb, cond_true, cond_false, Tr.get] at h ⊢ <;> exact h
      | succ j =>
        simp only [Tr.set] at h
        cases hb : Nat.beq (i % 2) 0 <;> cases hc : Nat.beq (j % 2) 0 <;> simp only [hb, hc, cond_true, cond_false, Tr.get] at h ⊢
        · have h1 : i % 2 ≠ 0 := Nat.ne_of_beq_eq_false hb
          have h2 : j % 2 ≠ 0 := Nat.ne_of_beq_eq_false hc
          rcases ihr _ _ h with ⟨h3, h4⟩ | ⟨h3, h4⟩
          · exact .inl ⟨by omega, h4⟩
          · exact .inr ⟨by intro he; apply h3; omega, h4⟩
        · have h1 : i % 2 ≠ 0 := Nat.ne_of_beq_eq_false hb
          have h2 : j % 2 = 0 := Nat.eq_of_beq_eq_true hc
          exact .inr ⟨fun he => h1 (by omega), h⟩
        · have h1 : i % 2 = 0 := Nat.eq_of_beq_eq_true hb
          have h2 : j % 2 ≠ 0 := Nat.ne_of_beq_eq_false hc
          exact .inr ⟨fun he => h2 (by omega), h⟩
        · have h1 : i % 2 = 0 := Nat.eq_of_beq_eq_true hb
          have h2 : j % 2 = 0 := Nat.eq_of_beq_eq_true hc
          rcases ihl _ _ h with ⟨h3, h4⟩ | ⟨h3, h4⟩
          · exact .inl ⟨by omega, h4⟩
          · exact .inr ⟨by intro he; apply h3; omega, h4⟩

/-- What the abstract blocks are in the world: their blocks, the offset of their first cell, their shapes, how many cells from there on are theirs. -/
structure Ren where
  n : Nat
  dom : Nat → Prop
  bb : Nat → Nat
  bo : Nat → Nat
  sh : Nat → Sh
  room : Nat → Nat

structure Ren.le (ρ ρ' : Ren) : Prop where
  dom : ∀ i, ρ.dom i → ρ'.dom i
  bb : ∀ i, ρ.dom i → ρ'.bb i = ρ.bb i
  bo : ∀ i, ρ.dom i → ρ'.bo i = ρ.bo i
  sh : ∀ i, ρ.dom i → ρ'.sh i = ρ.sh i
  room : ∀ i, ρ.dom i → ρ'.room i = ρ.room i

theorem Ren.le.refl (ρ : Ren) : ρ.le ρ := ⟨fun _ h => h, fun _ _ => rfl, fun _ _ => rfl, fun _ _ => rfl, fun _ _ => rfl⟩
theorem Ren.le.trans {a b c : Ren} (h : a.le b) (h' : b.le c) : a.le c :=
  ⟨fun i hi => h'.dom i (h.dom i hi), fun i hi => (h'.bb i (h.dom i hi)).trans (h.bb i hi), fun i hi => (h'.bo i (h.dom i hi)).trans (h.bo i hi),
    fun i hi => (h'.sh i (h.dom i hi)).trans (h.sh i hi), fun i hi => (h'.room i (h.dom i hi)).trans (h.room i hi)⟩

/-- .. nothing older has come to be named. -/
structure Ren.ext (ρ ρ' : Ren) : Prop extends ρ.le ρ' where
  n : ρ.n ≤ ρ'.n
  old : ∀ i, ρ'.dom i → i < ρ.n → ρ.dom i

theorem Ren.ext.refl (ρ : Ren) : ρ.ext ρ := ⟨Ren.le.refl ρ, Nat.le_refl _, fun _ h _ => h⟩
theorem Ren.ext.trans {a b c : Ren} (h : a.ext b) (h' : b.ext c) : a.ext c :=
  ⟨h.tole.trans h'.tole, Nat.le_trans h.n h'.n, fun i hi hn => h.old i (h'.old i hi (Nat.lt_of_lt_of_le hn h.n)) hn⟩

def All2 {α β : Type} (R : α → β → Prop) : List α → List β → Prop
  | [], [] => True
  | a :: l, b :: m => R a b ∧ All2 R l m
  | _, _ => False

theorem All2.len {α β : Type} {R : α → β → Prop} {l : List α} {m : List β} (h : All2 R l m) : l.length = m.length := by
  induction l generalizing m with
  | nil => cases m with
    | nil => rfl
    | cons => exact h.elim
  | cons a l ih => cases m with
    | nil => exact h.elim
    | cons b m => simp [ih h.2]

theorem All2.get {α β : Type} {R : α → β → Prop} {l : List α} {m : List β} (h : All2 R l m) {i : Nat} {a : α} (hi : l[i]? = some a) : ∃ b, m[i]? = some b ∧ R a b := by
  induction l generalizing m i with
  | nil => simp at hi
  | cons a l ih => cases m with
    | nil => exact h.elim
    | cons b m => cases i with
      | zero => simp at hi; subst hi; exact ⟨b, rfl, h.1⟩
      | succ i => simp at hi ⊢; exact ih h.2 hi

theorem All2.of_get {α β : Type} {R : α → β → Prop} {l : List α} {m : List β} (hl : l.length = m.length) (h : ∀ (i : Nat) (a : α), l[i]? = some a → ∃ b, m[i]? = some b ∧ R a b) : All2 R l m := by
  induction l generalizing m with
  | nil => cases m with
    | nil => exact trivial
    | cons => simp at hl
  | cons a l ih => cases m with
    | nil => simp at hl
    | cons b m =>
      refine ⟨?_, ih (by simpa using hl) fun i a hi => ?_⟩
      · obtain ⟨b', hb, hr⟩ := h 0 a rfl; simp at hb; subst hb; exact hr
      · obtain ⟨b', hb, hr⟩ := h (i + 1) a (by simpa using hi); exact ⟨b', by simpa using hb, hr⟩

theorem All2.mono {α β : Type} {R R' : α → β → Prop} {l : List α} {m : List β} (h : All2 R l m) (hr : ∀ a b, R a b → R' a b) : All2 R' l m := by
  induction l generalizing m with
  | nil => cases m with
    | nil => exact trivial
    | cons => exact h.elim
  | cons a l ih => cases m with
    | nil => exact h.elim
    | cons b m => exact ⟨hr _ _ h.1, ih h.2⟩

theorem All2.append {α β : Type} {R : α → β → Prop} {l l' : List α} {m m' : List β} (h : All2 R l m) (h' : All2 R l' m') : All2 R (l ++ l') (m ++ m') := by
  induction l generalizing m with
  | nil => cases m with
    | nil => exact h'
    | cons => exact h.elim
  | cons a l ih => cases m with
    | nil => exact h.elim
    | cons b m => exact ⟨h.1, ih h.2⟩

mutual
/-- What a scalar stands for. -/
def VR1 (ρ : Ren) : AV → Value → Prop
  | .un, _ => False
  | .bl x, v => v = .bool x
  | .it k n, v => v = .int k n ∧ (k.signed = false → 0 ≤ n)
  | .st l, v => v = .string ⟨l.toArray⟩
  | .nl, v => v = .pointer none
  | .pt id path root, v => ρ.dom id ∧ ρ.sh id = root ∧ ∃ t o, PathTo (ρ.sh id) path t o ∧ v = .pointer (some ⟨ρ.bb id, ρ.bo id + o, none⟩)
  | .nsl, v => v = .slice none 0 0
  | .sl id path lo len tip, v => ρ.dom id ∧ ∃ n s o off c, PathTo (ρ.sh id) path (.arr n s) o ∧ lo + len ≤ n ∧ len ≤ c ∧
      v = .slice (some ⟨ρ.bb id, off, none⟩) len c ∧ (0 < c → off = ρ.bo id + o + lo * s.size) ∧
      (tip = true → path = [] ∧ lo + len = n ∧ (0 < c → (lo + c) * s.size ≤ ρ.room id))
  | .nfn, v => v = .nilFunc
  | .fn f caps, v => ∃ cs : Array Value, v = .func (.func f) #[] cs ∧ VR1s ρ caps cs.toList
  | .nmp, v => v = .map none
  | .mp id, v => ρ.dom id ∧ v = .map (some (ρ.bb id))
  | .nif, v => v = .nilIface
  | .agg _, _ => False
  | .arr _ _ _, _ => False
  | .tup _, _ => False
  | .gd _ _ _, _ => False
def VR1s (ρ : Ren) : List AV → List Value → Prop
  | [], [] => True
  | a :: l, v :: m => VR1 ρ a v ∧ VR1s ρ l m
  | _, _ => False
end

/-- What a value stands for. -/
def VR2 (ρ : Ren) : AV → Value → Prop
  | .agg l, v => AV.wfs l ∧ ∃ cs : Array Value, v = .agg cs ∧ All2 (VR1 ρ) (AV.flats l) cs.toList
  | .arr n s f, v => (AV.arr n s f).wf ∧ ∃ cs : Array Value, v = .agg cs ∧ All2 (VR1 ρ) (AV.arr n s f).flat cs.toList
  | a, v => VR1 ρ a v

/-- .. a tuple, too. -/
def VR3 (ρ : Ren) : AV → Value → Prop
  | .tup l, v => ∃ vs : Array Value, v = .tuple vs ∧ All2 (VR2 ρ) l vs.toList
  | a, v => VR2 ρ a v

mutual
theorem VR1.mono {ρ ρ' : Ren} (h : ρ.le ρ') : ∀ (a : AV) (v : Value), VR1 ρ a v → VR1 ρ' a v
  | .un, _, hv => hv.elim
  | .bl _, _, hv => hv
  | .it _ _, _, hv => hv
  | .st _, _, hv => hv
  | .nl, _, hv => hv
  | .pt id path root, v, hv => by
    simp only [VR1] at hv ⊢
    obtain ⟨h1, h2⟩ := hv
    rw [h.sh id h1, h.bb id h1, h.bo id h1]
    exact ⟨h.dom id h1, h2⟩
  | .nsl, _, hv => hv
  | .sl id path lo len tip, v, hv => by
    simp only [VR1] at hv ⊢
    obtain ⟨h1, h2⟩ := hv
    rw [h.sh id h1, h.bb id h1, h.bo id h1, h.room id h1]
    exact ⟨h.dom id h1, h2⟩
  | .nfn, _, hv => hv
  | .fn f caps, v, hv => by
    simp only [VR1] at hv ⊢
    obtain ⟨cs, h1, h2⟩ := hv
    exact ⟨cs, h1, VR1s.mono h caps cs.toList h2⟩
  | .nmp, _, hv => hv
  | .mp id, v, hv => by
    simp only [VR1] at hv ⊢
    obtain ⟨h1, h2⟩ := hv
    rw [h.bb id h1]
    exact ⟨h.dom id h1, h2⟩
  | .nif, _, hv => hv
  | .agg _, _, hv => hv.elim
  | .arr _ _ _, _, hv => hv.elim
  | .tup _, _, hv => hv.elim
  | .gd _ _ _, _, hv => hv.elim
theorem VR1s.mono {ρ ρ' : Ren} (h : ρ.le ρ') : ∀ (l : List AV) (m : List Value), VR1s ρ l m → VR1s ρ' l m
  | [], [], _ => trivial
  | a :: l, v :: m, hv => ⟨VR1.mono h a v hv.1, VR1s.mono h l m hv.2⟩
  | [], _ :: _, hv => hv.elim
  | _ :: _, [], hv => hv.elim
end

theorem VR1s_iff {ρ : Ren} (l : List AV) (m : List Value) : VR1s ρ l m ↔ All2 (VR1 ρ) l m := by
  induction l generalizing m with
  | nil => cases m <;> simp [VR1s, All2]
  | cons a l ih => cases m <;> simp [VR1s, All2, ih]

theorem VR2.mono {ρ ρ' : Ren} (h : ρ.le ρ') (a : AV) (v : Value) (hv : VR2 ρ a v) : VR2 ρ' a v := by
  cases a <;> simp only [VR2] at hv ⊢ <;> first
    | exact VR1.mono h _ _ hv
    | (obtain ⟨h0, cs, h1, h2⟩ := hv; exact ⟨h0, cs, h1, h2.mono (VR1.mono h)⟩)

theorem VR3.mono {ρ ρ' : Ren} (h : ρ.le ρ') (a : AV) (v : Value) (hv : VR3 ρ a v) : VR3 ρ' a v := by
  cases a <;> simp only [VR3] at hv ⊢ <;> first
    | exact VR2.mono h _ _ hv
    | (obtain ⟨cs, h1, h2⟩ := hv; exact ⟨cs, h1, h2.mono (VR2.mono h)⟩)

/-- A block of the abstract memory. -/
inductive Blk where
  | cells (t : AV) (wr : Bool)
  | map (l : List (AV × AV))

def Blk.wr : Blk → Bool
  | .cells _ wr => wr
  | .map _ => true

structure Mem where
  n : Nat
  t : Tr Blk

def Mem.get (m : Mem) (id : Nat) : Option Blk := m.t.get id

/-- What a block stands for. 'A': the blocks of the world that may be written. -/
def BlkOk (ρ : Ren) (A : Nat → Prop) (w : World) (id : Nat) : Blk → Prop
  | .cells t wr => ρ.sh id = t.shape ∧ t.wf ∧ (∃ c e fz, w.heap[ρ.bb id]? = some (.cells c e fz)) ∧
      (∀ r v, t.flat[r]? = some v → ∃ rv, w.cell? ⟨ρ.bb id, ρ.bo id + r, none⟩ = some rv ∧ VR1 ρ v rv) ∧
      (wr = true → A (ρ.bb id) ∧ t.shape.size ≤ ρ.room id ∧ ∀ r, r < ρ.room id → (∃ rv, w.cell? ⟨ρ.bb id, ρ.bo id + r, none⟩ = some rv) ∧ w.frozen? ⟨ρ.bb id, ρ.bo id + r, none⟩ = false)
  | .map l => A (ρ.bb id) ∧ ∃ es clock, w.heap[ρ.bb id]? = some (.map es clock) ∧
      All2 (fun (x : AV × AV) (e : MapEntry) => VR1 ρ x.1 e.key ∧ VR2 ρ x.2 e.val) l es.toList

/-- What is laid is there, and may not be written. -/
def Held (A : Nat → Prop) (w : World) : Prop := ∀ x ∈ tabs, (∃ e fz, w.heap[x.1]? = some (.cells x.2 e fz)) ∧ ¬ A x.1

theorem Held.later {A : Nat → Prop} {w w' : World} (h : Held A w) (hw : ∀ b, b < w.heap.size → ¬ A b → w'.heap[b]? = w.heap[b]?) : Held A w' := fun x hx => by
  obtain ⟨⟨e, fz, h1⟩, h2⟩ := h x hx
  exact ⟨⟨e, fz, by rw [hw x.1 (Array.getElem?_eq_some_iff.1 h1).1 h2]; exact h1⟩, h2⟩

theorem held_nil {A : Nat → Prop} {w : World} (h : tabs = []) : Held A w := fun x hx => by rw [h] at hx; cases hx

theorem Held.mono {A A' : Nat → Prop} {w : World} (h : Held A w) (hA : ∀ b, b < w.heap.size → A' b → A b) : Held A' w := fun x hx => by
  obtain ⟨⟨e, fz, h1⟩, h2⟩ := h x hx
  exact ⟨⟨e, fz, h1⟩, fun h3 => h2 (hA x.1 (Array.getElem?_eq_some_iff.1 h1).1 h3)⟩

/-- The world bears the abstract memory. -/
structure Rep (ρ : Ren) (A : Nat → Prop) (m : Mem) (w : World) : Prop where
  n : ρ.n = m.n
  lt : ∀ id, ρ.dom id → id < ρ.n
  blk : ∀ id b, m.get id = some b → ρ.dom id ∧ BlkOk ρ A w id b
  sep : ∀ i j bi bj, m.get i = some bi → m.get j = some bj → i ≠ j → bi.wr = true → ρ.bb i ≠ ρ.bb j
  new : ∀ b, w.heap.size ≤ b → A b
  tab : Held A w

/-- What a step leaves alone: the blocks that may not be written. -/
structure Upd (A : Nat → Prop) (w w' : World) : Prop where
  size : w.heap.size ≤ w'.heap.size
  old : ∀ b, b < w.heap.size → ¬ A b → w'.heap[b]? = w.heap[b]?
  os : w'.os = w.os
  out : w'.output = w.output
  tape : w'.tape = w.tape

theorem Upd.refl (A : Nat → Prop) (w : World) : Upd A w w := ⟨Nat.le_refl _, fun _ _ _ => rfl, rfl, rfl, rfl⟩
theorem Upd.trans {A : Nat → Prop} {a b c : World} (h : Upd A a b) (h' : Upd A b c) : Upd A a c :=
  ⟨Nat.le_trans h.size h'.size, fun i hi ha => (h'.old i (Nat.lt_of_lt_of_le hi h.size) ha).trans (h.old i hi ha), h'.os.trans h.os, h'.out.trans h.out, h'.tape.trans h.tape⟩
theorem Upd.mono {A A' : Nat → Prop} {a b : World} (h : Upd A a b) (hA : ∀ i, i < a.heap.size → A i → A' i) : Upd A' a b :=
  ⟨h.size, fun i hi ha => h.old i hi (fun h' => ha (hA i hi h')), h.os, h.out, h.tape⟩

theorem cell?_congr {w w' : World} {a : Addr} (h : w'.heap[a.block]? = w.heap[a.block]?) : w'.cell? a = w.cell? a := by simp [World.cell?, h]
theorem frozen?_congr {w w' : World} {a : Addr} (h : w'.heap[a.block]? = w.heap[a.block]?) : w'.frozen? a = w.frozen? a := by simp [World.frozen?, h]

theorem VR1.le {ρ ρ' : Ren} (h : ρ.le ρ') {a : AV} {v : Value} (hv : VR1 ρ a v) : VR1 ρ' a v := VR1.mono h a v hv

theorem BlkOk.block_lt {ρ : Ren} {A : Nat → Prop} {w : World} {id : Nat} {b : Blk} (h : BlkOk ρ A w id b) : ρ.bb id < w.heap.size := by
  cases b with
  | cells t wr => obtain ⟨_, _, ⟨c, e, fz, hc⟩, _⟩ := h; exact (Array.getElem?_eq_some_iff.1 hc).1
  | map l => obtain ⟨_, es, cl, hc, _⟩ := h; exact (Array.getElem?_eq_some_iff.1 hc).1

/-- A block that stands for itself as before, in a later world. -/
theorem BlkOk.later {ρ ρ' : Ren} {A : Nat → Prop} {w w' : World} {id : Nat} {b : Blk} (h : BlkOk ρ A w id b) (hid : ρ.dom id) (hle : ρ.le ρ')
    (hw : w'.heap[ρ.bb id]? = w.heap[ρ.bb id]?) : BlkOk ρ' A w' id b := by
  cases b with
  | cells t wr =>
    obtain ⟨h1, h2, h3, h4, h5⟩ := h
    simp only [BlkOk]
    rw [hle.sh id hid, hle.bb id hid, hle.bo id hid, hle.room id hid, hw]
    refine ⟨h1, h2, h3, fun r v hv => ?_, fun hwr => ?_⟩
    · obtain ⟨rv, hc, hr⟩ := h4 r v hv
      exact ⟨rv, by rw [cell?_congr hw]; exact hc, hr.le hle⟩
    · obtain ⟨g1, g2, g3⟩ := h5 hwr
      exact ⟨g1, g2, fun r hr => ⟨by rw [cell?_congr hw]; exact (g3 r hr).1, by rw [frozen?_congr hw]; exact (g3 r hr).2⟩⟩
  | map l =>
    obtain ⟨h1, es, cl, h3, h4⟩ := h
    simp only [BlkOk]
    rw [hle.bb id hid, hw]
    exact ⟨h1, es, cl, h3, h4.mono fun x e ⟨a, b⟩ => ⟨a.le hle, VR2.mono hle _ _ b⟩⟩

/-- Nothing of what the memory stands for has turned. -/
theorem Rep.later {ρ : Ren} {A : Nat → Prop} {m : Mem} {w w' : World} (h : Rep ρ A m w) (hs : w.heap.size ≤ w'.heap.size)
    (hw : ∀ b, b < w.heap.size → w'.heap[b]? = w.heap[b]?) : Rep ρ A m w' :=
  ⟨h.n, h.lt, fun id b hb => ⟨(h.blk id b hb).1, (h.blk id b hb).2.later (h.blk id b hb).1 (Ren.le.refl ρ) (hw _ (h.blk id b hb).2.block_lt)⟩,
    h.sep, fun b hb => h.new b (Nat.le_trans hs hb), h.tab.later fun b hb _ => hw b hb⟩

/-- A block is forgotten. -/
def Mem.del (m : Mem) (id : Nat) : Mem := { m with t := m.t.set none id }
def Mem.put (m : Mem) (id : Nat) (b : Blk) : Mem := { m with t := m.t.set (some b) id }
def Mem.add (m : Mem) (b : Blk) : Mem := { n := m.n + 1, t := m.t.set (some b) m.n }
def Mem.empty : Mem := { n := 0, t := Tr.mk 12 }

theorem Rep.weak {ρ : Ren} {A : Nat → Prop} {m m' : Mem} {w : World} (h : Rep ρ A m w) (hn : m'.n = m.n) (hs : ∀ id b, m'.get id = some b → m.get id = some b) : Rep ρ A m' w :=
  ⟨h.n.trans hn.symm, h.lt, fun id b hb => h.blk id b (hs id b hb), fun i j bi bj hi hj => h.sep i j bi bj (hs i bi hi) (hs j bj hj), h.new, h.tab⟩

theorem Rep.del {ρ : Ren} {A : Nat → Prop} {m : Mem} {w : World} (h : Rep ρ A m w) (id : Nat) : Rep ρ A (m.del id) w :=
  h.weak rfl fun i b hb => by
    rcases Tr.get_set none m.t id i b hb with ⟨_, h1⟩ | ⟨_, h1⟩
    · cases h1
    · exact h1

def Ren.add (ρ : Ren) (bb bo : Nat) (sh : Sh) (room : Nat) : Ren :=
  { n := ρ.n + 1, dom := fun i => i = ρ.n ∨ ρ.dom i, bb := fun i => if i = ρ.n then bb else ρ.bb i, bo := fun i => if i = ρ.n then bo else ρ.bo i,
    sh := fun i => if i = ρ.n then sh else ρ.sh i, room := fun i => if i = ρ.n then room else ρ.room i }

theorem Ren.le_add {ρ : Ren} (hd : ∀ id, ρ.dom id → id < ρ.n) (bb bo : Nat) (sh : Sh) (room : Nat) : ρ.le (ρ.add bb bo sh room) := by
  have hne : ∀ i, ρ.dom i → i ≠ ρ.n := fun i hi => Nat.ne_of_lt (hd i hi)
  exact ⟨fun i hi => .inr hi, fun i hi => if_neg (hne i hi), fun i hi => if_neg (hne i hi), fun i hi => if_neg (hne i hi), fun i hi => if_neg (hne i hi)⟩

theorem Ren.ext_add {ρ : Ren} (hd : ∀ id, ρ.dom id → id < ρ.n) (bb bo : Nat) (sh : Sh) (room : Nat) : ρ.ext (ρ.add bb bo sh room) :=
  ⟨Ren.le_add hd bb bo sh room, Nat.le_succ _, fun i hi hn => by
    rcases hi with h | h
    · omega
    · exact h⟩

/-- A new block, made at the heap's end or found in memory that nothing else stands for. -/
theorem Rep.add {ρ : Ren} {A : Nat → Prop} {m : Mem} {w w' : World} (h : Rep ρ A m w) (hs : w.heap.size ≤ w'.heap.size)
    (hw : ∀ id b, m.get id = some b → w'.heap[ρ.bb id]? = w.heap[ρ.bb id]?) {bb bo room : Nat} {sh : Sh} {b : Blk}
    (hsep : ∀ id b', m.get id = some b' → ρ.bb id ≠ bb) (hA : ∀ b, b < w.heap.size → ¬ A b → w'.heap[b]? = w.heap[b]?)
    (hb : BlkOk (ρ.add bb bo sh room) A w' ρ.n b) : Rep (ρ.add bb bo sh room) A (m.add b) w' := by
  have hle := Ren.le_add h.lt bb bo sh room
  have hget : ∀ id b', (m.add b).get id = some b' → (id = m.n ∧ b' = b) ∨ (id ≠ m.n ∧ m.get id = some b') := fun id b' hb' => by
    rcases Tr.get_set (some b) m.t m.n id b' hb' with ⟨h1, h2⟩ | ⟨h1, h2⟩
    · exact .inl ⟨h1, (Option.some.inj h2).symm⟩
    · exact .inr ⟨h1, h2⟩
  refine ⟨by simp [Ren.add, Mem.add, h.n], fun id hid => ?_, fun id b' hb' => ?_, fun i j bi bj hi hj hij hwr => ?_, fun b hb => h.new b (Nat.le_trans hs hb), h.tab.later hA⟩
  · rcases hid with h1 | h1
    · subst h1; exact Nat.lt_succ_self _
    · exact Nat.lt_succ_of_lt (h.lt id h1)
  · rcases hget id b' hb' with ⟨rfl, rfl⟩ | ⟨h1, h2⟩
    · rw [← h.n]
      exact ⟨.inl rfl, hb⟩
    · obtain ⟨g1, g2⟩ := h.blk id b' h2
      exact ⟨.inr g1, g2.later g1 hle (hw id b' h2)⟩
  · have e1 : (ρ.add bb bo sh room).bb m.n = bb := by simp [Ren.add, h.n]
    have e2 : ∀ k, ρ.dom k → (ρ.add bb bo sh room).bb k = ρ.bb k := fun k hk => hle.bb k hk
    rcases hget i bi hi with ⟨rfl, rfl⟩ | ⟨hi1, hi2⟩ <;> rcases hget j bj hj with ⟨rfl, rfl⟩ | ⟨hj1, hj2⟩
    · exact absurd rfl hij
    · rw [e1, e2 j (h.blk j bj hj2).1]
      exact (hsep j bj hj2).symm
    · rw [e1, e2 i (h.blk i bi hi2).1]
      exact hsep i bi hi2
    · rw [e2 i (h.blk i bi hi2).1, e2 j (h.blk j bj hj2).1]
      exact h.sep i j bi bj hi2 hj2 hij hwr

end Go.Ev
