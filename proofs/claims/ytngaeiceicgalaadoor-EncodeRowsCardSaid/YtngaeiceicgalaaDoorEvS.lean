/-
  The evaluator: functions that leave all as it is, evaluated in a memory of their own; tables of such functions. Own text; nothing of a program.
-/
import Derived.Test.YtngaeiceicgalaaDoorEvR
namespace Go.Ev
section
variable {P : Program} {ρ : Ren}

mutual
/-- Nothing in it stands for memory. -/
def plain : AV → Bool
  | .bl _ => true
  | .it _ _ => true
  | .st _ => true
  | .nl => true
  | .nsl => true
  | .nfn => true
  | .nmp => true
  | .nif => true
  | .agg l => plains l
  | .tup l => plains l
  | .arr _ s _ => !s.hasRef
  | _ => false
def plains : List AV → Bool
  | [] => true
  | a :: l => plain a && plains l
end

theorem VR1_same {ρ' : Ren} : ∀ {a : AV} {v : Value}, plain a = true → VR1 ρ a v → VR1 ρ' a v := by
  intro a v hp hv
  cases a <;> first | exact hv | exact hv.elim | (cases hp)

mutual
theorem flat_plain : ∀ (a : AV), a.wf → plain a = true → ∀ x ∈ a.flat, plain x = true
  | .agg l, hw, h, x, hx => flats_plain l hw h x hx
  | .arr n s f, hw, h, x, hx => by
    simp only [AV.flat, List.mem_flatMap, List.mem_range] at hx
    obtain ⟨i, _, hx⟩ := hx
    obtain ⟨h1, h2⟩ := hw i
    simp only [plain, Bool.not_eq_true'] at h
    exact flat_shape (f i) h1 (by rw [h2]; exact h) x hx
  | .bl _, _, h, x, hx => by simp [AV.flat] at hx; subst hx; exact h
  | .it _ _, _, h, x, hx => by simp [AV.flat] at hx; subst hx; exact h
  | .st _, _, h, x, hx => by simp [AV.flat] at hx; subst hx; exact h
  | .nl, _, h, x, hx => by simp [AV.flat] at hx; subst hx; exact h
  | .nsl, _, h, x, hx => by simp [AV.flat] at hx; subst hx; exact h
  | .nfn, _, h, x, hx => by simp [AV.flat] at hx; subst hx; exact h
  | .nmp, _, h, x, hx => by simp [AV.flat] at hx; subst hx; exact h
  | .nif, _, h, x, hx => by simp [AV.flat] at hx; subst hx; exact h
  | .tup _, _, h, x, hx => by simp [AV.flat] at hx; subst hx; exact h
theorem flats_plain : ∀ (l : List AV), AV.wfs l → plains l = true → ∀ x ∈ AV.flats l, plain x = true
  | [], _, _, x, hx => by simp [AV.flats] at hx
  | a :: l, hw, h, x, hx => by
    simp only [AV.flats, List.mem_append] at hx
    simp only [plains, Bool.and_eq_true] at h
    rcases hx with hx | hx
    · exact flat_plain a hw.1 h.1 x hx
    · exact flats_plain l hw.2 h.2 x hx
theorem flat_shape : ∀ (a : AV), a.wf → a.shape.hasRef = false → ∀ x ∈ a.flat, plain x = true
  | .agg l, hw, h, x, hx => flats_shape l hw (by simpa [AV.shape, Sh.hasRef] using h) x hx
  | .arr n s f, hw, h, x, hx => by
    simp only [AV.flat, List.mem_flatMap, List.mem_range] at hx
    obtain ⟨i, _, hx⟩ := hx
    obtain ⟨h1, h2⟩ := hw i
    simp only [AV.shape, Sh.hasRef] at h
    exact flat_shape (f i) h1 (by rw [h2]; exact h) x hx
  | .bl _, _, _, x, hx => by simp [AV.flat] at hx; subst hx; rfl
  | .it _ _, _, _, x, hx => by simp [AV.flat] at hx; subst hx; rfl
  | .st _, _, _, x, hx => by simp [AV.flat] at hx; subst hx; rfl
  | .un, _, h, _, _ => by simp [AV.shape, Sh.hasRef] at h
  | .nl, _, h, _, _ => by simp [AV.shape, Sh.hasRef] at h
  | .pt _ _ _, _, h, _, _ => by simp [AV.shape, Sh.hasRef] at h
  | .nsl, _, h, _, _ => by simp [AV.shape, Sh.hasRef] at h
  | .sl _ _ _ _ _, _, h, _, _ => by simp [AV.shape, Sh.hasRef] at h
  | .nfn, _, h, _, _ => by simp [AV.shape, Sh.hasRef] at h
  | .fn _ _, _, h, _, _ => by simp [AV.shape, Sh.hasRef] at h
  | .nmp, _, h, _, _ => by simp [AV.shape, Sh.hasRef] at h
  | .mp _, _, h, _, _ => by simp [AV.shape, Sh.hasRef] at h
  | .nif, _, h, _, _ => by simp [AV.shape, Sh.hasRef] at h
  | .tup _, _, h, _, _ => by simp [AV.shape, Sh.hasRef] at h
  | .gd _ _ _, _, h, _, _ => by simp [AV.shape, Sh.hasRef] at h
theorem flats_shape : ∀ (l : List AV), AV.wfs l → Sh.hasRef.Sh.hasRefs (AV.shapes l) = false → ∀ x ∈ AV.flats l, plain x = true
  | [], _, _, x, hx => by simp [AV.flats] at hx
  | a :: l, hw, h, x, hx => by
    simp only [AV.flats, List.mem_append] at hx
    simp only [AV.shapes, Sh.hasRef.Sh.hasRefs, Bool.or_eq_false_iff] at h
    rcases hx with hx | hx
    · exact flat_shape a hw.1 h.1 x hx
    · exact flats_shape l hw.2 h.2 x hx
end

theorem All2.mono_mem {α β : Type} {R R' : α → β → Prop} {l : List α} {m : List β} (h : All2 R l m) (hr : ∀ a ∈ l, ∀ b, R a b → R' a b) : All2 R' l m := by
  induction l generalizing m with
  | nil => cases m with
    | nil => exact trivial
    | cons => exact h.elim
  | cons a l ih => cases m with
    | nil => exact h.elim
    | cons b m => exact ⟨hr a List.mem_cons_self b h.1, ih h.2 fun x hx => hr x (List.mem_cons_of_mem _ hx)⟩

theorem VR2_same {ρ' : Ren} {a : AV} {v : Value} (hp : plain a = true) (hv : VR2 ρ a v) : VR2 ρ' a v := by
  cases a
  case agg l =>
    obtain ⟨h1, cs, h2, h3⟩ := hv
    exact ⟨h1, cs, h2, h3.mono_mem fun x hx b hb => VR1_same (flats_plain l h1 hp x hx) hb⟩
  case arr n s f =>
    obtain ⟨h1, cs, h2, h3⟩ := hv
    exact ⟨h1, cs, h2, h3.mono_mem fun x hx b hb => VR1_same (flat_plain (.arr n s f) h1 hp x hx) hb⟩
  all_goals exact VR1_same (ρ := ρ) hp hv

theorem plains_mem : ∀ {l : List AV}, plains l = true → ∀ a ∈ l, plain a = true
  | [], _, _, h => by cases h
  | b :: l, h, a, ha => by
    simp only [plains, Bool.and_eq_true] at h
    rcases List.mem_cons.1 ha with rfl | ha
    · exact h.1
    · exact plains_mem h.2 a ha

theorem VR3_same {ρ' : Ren} {a : AV} {v : Value} (hp : plain a = true) (hv : VR3 ρ a v) : VR3 ρ' a v := by
  cases a
  case tup l =>
    obtain ⟨vs, h1, h2⟩ := hv
    exact ⟨vs, h1, h2.mono_mem fun x hx b hb => VR2_same (plains_mem hp x hx) hb⟩
  all_goals exact VR2_same (ρ := ρ) (ρ' := ρ') (v := v) hp hv

/-- What a function yields, evaluated in a memory of its own. -/
def pcOf (P : Program) (ok : List TypeId) (pc : Pcs) (h : Hd) (ro : FuncId → Bool) (ov : Ov) (N : Nat) (st : Bool) (fn : Func) (args : List AV) : Option (Bool × AV) :=
  bif plains args then evFn P ok pc h ro ov N st fn args Mem.empty fun v _ => bif plain v then some (true, v) else none
  else none

/-- A function leaves all as it is and yields this. -/
def Gives (P : Program) (f : FuncId) (args : List AV) (v : AV) : Prop :=
  ∀ ρ A m w vals, Rep ρ A m w → All2 (VR3 ρ) args vals → Done P ρ A w (callFunc f vals.toArray) v m

def Ren.nil : Ren := { n := 0, dom := fun _ => False, bb := fun _ => 0, bo := fun _ => 0, sh := fun _ => .ref, room := fun _ => 0 }

theorem Rep.nil {w : World} (ht : Held (fun b => w.heap.size ≤ b) w) : Rep Ren.nil (fun b => w.heap.size ≤ b) Mem.empty w :=
  ⟨rfl, fun _ h => h.elim, fun id b h => by (simp only [Mem.get, Mem.empty, Tr.get_mk] at h; cases h), fun i j bi bj h => by (simp only [Mem.get, Mem.empty, Tr.get_mk] at h; cases h), fun _ h => h, ht⟩

theorem Done.out {A : Nat → Prop} {m m' : Mem} {w : World} {s : Sem Next} {v : AV} (hR : Rep ρ A m w) (hv : plain v = true) (h : Done P Ren.nil (fun b => w.heap.size ≤ b) w s v m') : Done P ρ A w s v m := by
  have key : ∀ {w' : World}, Upd (fun b => w.heap.size ≤ b) w w' → Rep ρ A m w' ∧ Upd A w w' := fun hu =>
    ⟨hR.later hu.size fun b hb => hu.old b hb (by omega), hu.mono fun i hi hA => by omega⟩
  rcases h with ⟨ρ', rv, w', nx, h1, h2, h3, h4, h5, h6⟩ | ⟨f, args, h1, h2⟩
  · obtain ⟨k1, k2⟩ := key h5
    exact .inl ⟨ρ, rv, w', nx, h1, h2, Ren.ext.refl ρ, k1, k2, VR3_same hv h6⟩
  · refine .inr ⟨f, args, h1, h2.mono fun e w' ⟨ρ', rv, g1, g2, g3, g4, g5⟩ => ?_⟩
    obtain ⟨k1, k2⟩ := key g4
    exact ⟨ρ, rv, g1, Ren.ext.refl ρ, k1, k2, VR3_same hv g5⟩

theorem pcOf_ok (hmix : P.follows .mixedOrders = true) {ok : List TypeId} (hok : Fair P ok) {pc : Pcs} (hpc : PSound P pc) {h : Hd} (hh : HSound P h) {ro : FuncId → Bool} {ov : Ov}
    {N : Nat} {st : Bool} {f : FuncId} {fn : Func} (hf : Plain P f fn) (ho : ∀ c, fn.body = some c → OvOk P ov c) {args : List AV} {g : Bool} {v : AV}
    (he : pcOf P ok pc h ro ov N st fn args = some (g, v)) (hg : g = true) : Gives P f args v := by
  unfold pcOf at he
  cases hp : plains args with
  | false => rw [hp] at he; cases he
  | true =>
  rw [hp, cond_true] at he
  obtain ⟨v', m', h1, h2⟩ := evFn_ok hmix hok hpc hh hf ho he hg
  cases hv : plain v' with
  | false => rw [hv] at h1; cases h1
  | true =>
  rw [hv] at h1; cases h1
  intro ρ A m w vals hR hargs
  exact (h2 Ren.nil _ w vals (Rep.nil (hR.tab.mono fun b hb h => absurd hb (by omega))) (hargs.mono_mem fun a ha b hb => VR3_same (plains_mem hp a ha) hb)).out hR hv

/- Tables. -/
abbrev Row := FuncId × (List AV → Option (Option Bool × AV))

def lookR : List Row → Pcs
  | [], _, _ => none
  | (g, F) :: r, f, args => bif Nat.beq f g then F args else lookR r f args

def RowOk (P : Program) (f : FuncId) (F : List AV → Option (Option Bool × AV)) : Prop := ∀ args c v, F args = some (c, v) → (c = none ∨ c = some true) → Gives P f args v

theorem lookR_nil : PSound P (lookR []) := fun _ _ _ _ h => by cases h
theorem lookR_cons {f : FuncId} {F : List AV → Option (Option Bool × AV)} {l : List Row} (h : RowOk P f F) (hl : PSound P (lookR l)) : PSound P (lookR ((f, F) :: l)) := fun g args c v he hc => by
  simp only [lookR] at he
  cases hb : Nat.beq g f with
  | true =>
    rw [hb] at he
    have := Nat.eq_of_beq_eq_true hb
    subst this
    exact h args c v he hc
  | false => rw [hb] at he; exact hl g args c v he hc

theorem HSound_none : HSound P (fun _ _ _ _ => none : Hd) := fun _ _ _ _ _ h => by cases h

end
end Go.Ev
