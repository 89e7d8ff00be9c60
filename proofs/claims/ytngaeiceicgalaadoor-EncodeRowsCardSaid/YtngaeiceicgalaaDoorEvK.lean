/-
  The evaluator: a frame, one operation with its guard, a region in the order of the text. Own text; nothing of a program.
-/
import Derived.Test.YtngaeiceicgalaaDoorEvJ
namespace Go.Ev
section
variable {P : Program} {ρ : Ren}

/-- What a temporary's entry stands for. 'gd': it was yielded under a guard, the temporary t having held 'want'. -/
def VRe (ρ : Ren) (a : Act) : AV → Value → Prop
  | .gd t want v, rv => (a.tmps.getD t undef = .bool want → VR3 ρ v rv) ∧ (a.tmps.getD t undef ≠ .bool want → rv = undef)
  | v, rv => VR3 ρ v rv

structure Fr where
  n : Nat
  t : Tr AV

def Fr.get (fr : Fr) (t : Nat) : Option AV := fr.t.get t
def Fr.put (fr : Fr) (d : Option Nat) (v : AV) : Fr :=
  match d with
  | some d => { fr with t := fr.t.set (bif Nat.blt d fr.n then some v else none) d }
  | none => fr
def Fr.del (fr : Fr) (d : Nat) : Fr := { fr with t := fr.t.set none d }

/-- The entries of a frame. -/
def FRw (ρ : Ren) (fr : Fr) (a : Act) : Prop := ∀ t v, fr.get t = some v → VRe ρ a v (a.tmps.getD t undef)

structure FR (ρ : Ren) (fr : Fr) (a : Act) : Prop where
  size : a.tmps.size = fr.n
  get : FRw ρ fr a

theorem VRe.mono {ρ ρ' : Ren} (h : ρ.le ρ') {a : Act} {v : AV} {rv : Value} (hv : VRe ρ a v rv) : VRe ρ' a v rv := by
  cases v
  case gd t want v => exact ⟨fun hw => VR3.mono h _ _ (hv.1 hw), hv.2⟩
  all_goals (simp only [VRe] at hv ⊢; exact VR3.mono h _ _ hv)

theorem FRw.mono {ρ ρ' : Ren} (h : ρ.le ρ') {fr : Fr} {a : Act} (hf : FRw ρ fr a) : FRw ρ' fr a := fun t v hv => (hf t v hv).mono h
theorem FR.mono {ρ ρ' : Ren} (h : ρ.le ρ') {fr : Fr} {a : Act} (hf : FR ρ fr a) : FR ρ' fr a := ⟨hf.size, hf.get.mono h⟩

/- Guards. -/
def gB (want x : Bool) : Bool := match want with | true => x | false => !x
theorem gB_iff (want x : Bool) : gB want x = true ↔ x = want := by cases want <;> cases x <;> simp [gB]

/-- The temporaries that have held what they must if 't' holds 'w'. -/
def chain (fr : Fr) : Nat → Nat → Bool → List (Nat × Bool)
  | 0, t, w => [(t, w)]
  | n + 1, t, w => (t, w) :: match fr.get t with | some (.gd t' w' _) => chain fr n t' w' | _ => []

def gBool (fr : Fr) : Nat → Nat → Bool → Option Bool
  | 0, _, _ => none
  | n + 1, t, want => match fr.get t with
    | some (.bl x) => some (gB want x)
    | some (.gd t' w' (.bl x)) => match gBool fr n t' w' with | some g => some (g && gB want x) | none => none
    | some (.tup []) => some false
    | _ => none

theorem chain_ok {fr : Fr} {a : Act} (hf : FRw ρ fr a) : ∀ (n t : Nat) (w : Bool), a.tmps.getD t undef = .bool w → ∀ x ∈ chain fr n t w, a.tmps.getD x.1 undef = .bool x.2
  | 0, t, w, h, x, hx => by simp [chain] at hx; subst hx; exact h
  | n + 1, t, w, h, x, hx => by
    simp only [chain, List.mem_cons] at hx
    rcases hx with rfl | hx
    · exact h
    · split at hx
      · rename_i t' w' v hv
        have := hf t _ hv
        have h' : a.tmps.getD t' undef = .bool w' := Classical.byContradiction fun hne => by
          have := this.2 hne
          rw [h] at this; cases this
        exact chain_ok hf n t' w' h' x hx
      · cases hx

theorem gBool_ok {fr : Fr} {a : Act} (hf : FRw ρ fr a) : ∀ (n t : Nat) (w g : Bool), gBool fr n t w = some g → (g = true ↔ a.tmps.getD t undef = .bool w)
  | 0, _, _, _, h => by cases h
  | n + 1, t, w, g, h => by
    simp only [gBool] at h
    split at h <;> try (cases h; done)
    · rename_i x hx
      cases h
      have := hf t _ hx
      rw [show a.tmps.getD t undef = .bool x from this, gB_iff]
      simp
    · rename_i t' w' x hx
      split at h <;> try (cases h; done)
      rename_i g' hg'
      cases h
      have ih := gBool_ok hf n t' w' g' hg'
      have hv := hf t _ hx
      simp only [Bool.and_eq_true, gB_iff, ih]
      constructor
      · rintro ⟨h1, rfl⟩
        exact hv.1 h1
      · intro h1
        have h' : a.tmps.getD t' undef = .bool w' := Classical.byContradiction fun hne => by
          have := hv.2 hne
          rw [h1] at this; cases this
        refine ⟨h', ?_⟩
        have := hv.1 h'
        rw [h1] at this
        have h2 : Value.bool w = .bool x := this
        injection h2 with h2; exact h2.symm
    · rename_i hx
      cases h
      have := hf t _ hx
      obtain ⟨vs, hv, hall⟩ := this
      rw [hv]
      simp

/-- What an operand is, the temporaries of 'G' having held what they must. -/
def memG (t : Nat) (w : Bool) : List (Nat × Bool) → Bool
  | [] => false
  | (t', w') :: r => (Nat.beq t t' && (w == w')) || memG t w r

theorem memG_ok (t : Nat) (w : Bool) : ∀ (G : List (Nat × Bool)), memG t w G = true → (t, w) ∈ G
  | [], h => by cases h
  | (t', w') :: r, h => by
    simp only [memG, Bool.or_eq_true, Bool.and_eq_true, Nat.beq_eq, beq_iff_eq] at h
    rcases h with ⟨rfl, rfl⟩ | h
    · exact List.mem_cons_self
    · exact List.mem_cons_of_mem _ (memG_ok t w r h)

def rdOp (fr : Fr) (G : List (Nat × Bool)) : Operand → Option AV
  | .tmp t => match fr.get t with
    | some (.gd t' w v) => bif memG t' w G then some v else none
    | r => r
  | .const v => constAV v
  | .global _ => none
  | .func f => some (.fn f [])

theorem VRe_plain {a : Act} {v : AV} {rv : Value} (h : ∀ t w v', v ≠ .gd t w v') (hv : VRe ρ a v rv) : VR3 ρ v rv := by
  cases v <;> first | exact hv | exact absurd rfl (h _ _ _)

theorem VR3_no_gd {t : Nat} {w : Bool} {v : AV} {rv : Value} : ¬ VR3 ρ (.gd t w v) rv := fun h => h

theorem rdOp_ok {fr : Fr} {a : Act} (hf : FRw ρ fr a) {G : List (Nat × Bool)} (hG : ∀ x ∈ G, a.tmps.getD x.1 undef = .bool x.2) (x : Operand) (v : AV) (h : rdOp fr G x = some v) : VR3 ρ v (a.eval x) := by
  cases x with
  | tmp t =>
    simp only [rdOp] at h
    split at h
    · rename_i t' w v' hv
      cases hm : memG t' w G with
      | false => rw [hm] at h; cases h
      | true =>
        rw [hm] at h; cases h
        exact (hf t _ hv).1 (hG _ (memG_ok _ _ _ hm))
    · rename_i hn
      have := hf t v h
      refine VRe_plain (fun t' w v' he => ?_) this
      subst he
      exact hn t' w v' h
  | const c => exact constAV_ok h
  | global g => cases h
  | func f => cases h; exact ⟨#[], rfl, trivial⟩

/-- What one operation does, from whatever the frame and the memory stand for. -/
def Done (P : Program) (ρ : Ren) (A : Nat → Prop) (w : World) (s : Sem Next) (v : AV) (m' : Mem) : Prop :=
  (∃ ρ' rv w' nx, s.run P w = .ok nx w' ∧ (nx = .value rv ∨ (nx = .skip ∧ rv = undef)) ∧ ρ.ext ρ' ∧ Rep ρ' A m' w' ∧ Upd A w w' ∧ VR3 ρ' v rv) ∨
  (∃ f args, s.run P w = .ok (.enter f args) w ∧ Calls P f args w fun e w' => ∃ ρ' rv, e = .returned rv ∧ ρ.ext ρ' ∧ Rep ρ' A m' w' ∧ Upd A w w' ∧ VR3 ρ' v rv)

theorem Done.wp {A : Nat → Prop} {w : World} {o : Oper} {a : Act} {v : AV} {m' : Mem} (h : Done P ρ A w (execOp a.eval o) v m') {next : Act → World → Prop} {Q : Exit → Act → World → Prop}
    (hn : ∀ ρ' rv w', ρ.ext ρ' → VR3 ρ' v rv → Rep ρ' A m' w' → Upd A w w' → next (a.put o.dst rv) w') : o.wp P a w next Q := by
  unfold Oper.wp
  rcases h with ⟨ρ', rv, w', nx, h1, h2, h3, h4, h5, h6⟩ | ⟨f, args, h1, h2⟩
  · rw [h1]
    rcases h2 with rfl | ⟨rfl, rfl⟩
    · exact hn _ _ _ h3 h6 h4 h5
    · exact hn _ _ _ h3 h6 h4 h5
  · rw [h1]
    refine Calls.mono h2 fun e w' ⟨ρ', rv, he, h3, h4, h5, h6⟩ => ?_
    subst he
    exact hn _ _ _ h3 h6 h4 h5

theorem Did.done {A : Nat → Prop} {w : World} {s : Sem Value} {r : AV} {m' : Mem} {o : Oper} {ev : Operand → Value} (h : Did P ρ A w s r m') (ho : execOp ev o = (do pure (Next.value (← s)) : Sem Next)) :
    Done P ρ A w (execOp ev o) r m' := by
  obtain ⟨ρ', rv, w', h1, h2, h3, h4, h5⟩ := h
  exact .inl ⟨ρ', rv, w', .value rv, by rw [ho]; simp [h1], .inl rfl, h2, h3, h4, h5⟩

def evPartsOf (rd : Operand → Option AV) : List (Nat × Operand) → Option (List (Nat × AV))
  | [] => some []
  | (i, x) :: r => match rd x, evPartsOf rd r with
    | some v, some l => some ((i, v) :: l)
    | _, _ => none

theorem evPartsOf_ok {rd : Operand → Option AV} {ev : Operand → Value} (hrd : ∀ x v, rd x = some v → VR3 ρ v (ev x)) : ∀ (xs : List (Nat × Operand)) (l : List (Nat × AV)), evPartsOf rd xs = some l →
    All2 (fun (x : Nat × AV) (y : Nat × Value) => x.1 = y.1 ∧ VR3 ρ x.2 y.2) l (xs.map fun (i, x) => (i, ev x))
  | [], l, h => by cases h; trivial
  | (i, x) :: r, l, h => by
    simp only [evPartsOf] at h
    split at h <;> try (cases h; done)
    rename_i v l' hv hl
    cases h
    exact ⟨⟨rfl, hrd x v hv⟩, evPartsOf_ok hrd r l' hl⟩

mutual
/-- The one or the other, joined as deep as they are alike. -/
def mrg (x : Bool) : AV → AV → AV
  | .it k a, .it k' b => if k = k' then .it k (bif x then a else b) else bif x then .it k a else .it k' b
  | .bl a, .bl b => .bl (bif x then a else b)
  | .st a, .st b => .st (bif x then a else b)
  | .agg l, .agg m => .agg (mrgs x l m)
  | .tup l, .tup m => .tup (mrgs x l m)
  | .arr n s f, .arr n' s' g => bif Nat.beq n n' && s.beq s' then .arr n s fun i => mrg x (f i) (g i) else bif x then .arr n s f else .arr n' s' g
  | .pt i p r, .pt j q t => match p, q with
    | [], [] => bif Nat.beq i j && r.beq t then .pt i [] r else bif x then .pt i [] r else .pt j [] t
    | p, q => bif x then .pt i p r else .pt j q t
  | .sl i p lo len tip, .sl j q lo' len' tip' => match p, q with
    | [], [] => bif Nat.beq i j then .sl i [] (bif x then lo else lo') (bif x then len else len') (bif x then tip else tip') else bif x then .sl i [] lo len tip else .sl j [] lo' len' tip'
    | p, q => bif x then .sl i p lo len tip else .sl j q lo' len' tip'
  | .nsl, .nsl => .nsl
  | .nl, .nl => .nl
  | .fn f l, .fn g m => bif Nat.beq f g then .fn f (mrgs x l m) else bif x then .fn f l else .fn g m
  | a, b => bif x then a else b
def mrgs (x : Bool) : List AV → List AV → List AV
  | a :: l, b :: m => mrg x a b :: mrgs x l m
  | [], [] => []
  | l, m => bif x then l else m
end

mutual
theorem mrg_eq (x : Bool) : ∀ (a b : AV), mrg x a b = bif x then a else b
  | .it k a, b => by
    cases b <;> try rfl
    rename_i k' b
    simp only [mrg]
    split
    · rename_i h; subst h; cases x <;> rfl
    · rfl
  | .bl a, b => by cases b <;> first | rfl | (cases x <;> rfl)
  | .st a, b => by cases b <;> first | rfl | (cases x <;> rfl)
  | .agg l, b => by
    cases b <;> try rfl
    rename_i m
    simp only [mrg, mrgs_eq x l m]
    cases x <;> rfl
  | .tup l, b => by
    cases b <;> try rfl
    rename_i m
    simp only [mrg, mrgs_eq x l m]
    cases x <;> rfl
  | .arr n s f, b => by
    cases b <;> try rfl
    rename_i n' s' g
    simp only [mrg]
    cases h : Nat.beq n n' && s.beq s' with
    | false => rfl
    | true =>
      simp only [Bool.and_eq_true] at h
      have h1 := Nat.eq_of_beq_eq_true h.1
      have h2 := Sh.beq_eq _ _ h.2
      subst h1; subst h2
      rw [cond_true]
      have : (fun i => mrg x (f i) (g i)) = bif x then f else g := by
        funext i
        rw [mrg_eq x (f i) (g i)]
        cases x <;> rfl
      rw [this]
      cases x <;> rfl
  | .un, b => by cases b <;> rfl
  | .nl, b => by cases b <;> first | rfl | (cases x <;> rfl)
  | .pt i p r, b => by
    cases b <;> try rfl
    rename_i j q t
    cases p <;> cases q <;> try rfl
    simp only [mrg]
    cases h : Nat.beq i j && r.beq t with
    | false => rfl
    | true =>
      simp only [Bool.and_eq_true] at h
      have h1 := Nat.eq_of_beq_eq_true h.1
      have h2 := Sh.beq_eq _ _ h.2
      subst h1; subst h2
      cases x <;> rfl
  | .nsl, b => by cases b <;> first | rfl | (cases x <;> rfl)
  | .sl i p lo len tip, b => by
    cases b <;> try rfl
    rename_i j q lo' len' tip'
    cases p <;> cases q <;> try rfl
    simp only [mrg]
    cases h : Nat.beq i j with
    | false => rfl
    | true =>
      have h1 := Nat.eq_of_beq_eq_true h
      subst h1
      cases x <;> rfl
  | .nfn, b => by cases b <;> rfl
  | .fn f l, b => by
    cases b <;> try rfl
    rename_i g m
    simp only [mrg, mrgs_eq x l m]
    cases h : Nat.beq f g with
    | false => rfl
    | true =>
      have h1 := Nat.eq_of_beq_eq_true h
      subst h1
      cases x <;> rfl
  | .nmp, b => by cases b <;> rfl
  | .mp _, b => by cases b <;> rfl
  | .nif, b => by cases b <;> rfl
  | .gd _ _ _, b => by cases b <;> rfl
theorem mrgs_eq (x : Bool) : ∀ (a b : List AV), mrgs x a b = bif x then a else b
  | [], [] => by cases x <;> rfl
  | [], _ :: _ => rfl
  | _ :: _, [] => rfl
  | a :: l, b :: m => by
    simp only [mrgs, mrg_eq x a b, mrgs_eq x l m]
    cases x <;> rfl
end

def noTup : AV → Bool
  | .tup _ => false
  | _ => true
theorem VR3.noTup {v : AV} {rv : Value} (hv : VR3 ρ v rv) (h : noTup v = true) : VR2 ρ v rv := by
  cases v <;> first | exact hv | cases h

/- Maps whose keys are whole numbers. -/
def mapOf (P : Program) (t : TypeId) : Option (IntKind × TypeId × TypeId) :=
  match P.underlying t with
  | some (.map kt et) => match P.underlying kt with
    | some (.int k) => some (k, kt, et)
    | _ => none
  | _ => none

theorem mapOf_ok {t : TypeId} {k : IntKind} {kt et : TypeId} (h : mapOf P t = some (k, kt, et)) : P.underlying t = some (.map kt et) ∧ P.underlying kt = some (.int k) := by
  unfold mapOf at h
  split at h <;> try (cases h; done)
  rename_i kt' et' h1
  split at h <;> try (cases h; done)
  rename_i k' h2
  cases h
  exact ⟨h1, h2⟩

def hasKey (k : IntKind) (n : Int) : List (AV × AV) → Option Bool
  | [] => some false
  | (.it k' n', _) :: r => if k' = k then (match hasKey k n r with | some b => some (iEq n n' || b) | none => none) else none
  | _ => none

def pickKey (n : Int) (z : AV) : List (AV × AV) → AV
  | (.it _ n', v) :: r => mrg (iEq n n') v (pickKey n z r)
  | _ => z

theorem find_ok {k : IntKind} {n : Int} : ∀ (l : List (AV × AV)) (es : List MapEntry) (i : Nat) (b : Bool), hasKey k n l = some b →
    All2 (fun (x : AV × AV) (e : MapEntry) => VR1 ρ x.1 e.key ∧ VR2 ρ x.2 e.val) l es →
    ∃ r, Instr.findNow (.int k) (.int k n) es i = some r ∧ (b = false → r = none) ∧ ∀ z rz, VR2 ρ z rz → VR2 ρ (pickKey n z l) (match r with | some x => x.2 | none => rz)
  | [], es, i, b, h, ha => by
    cases es with
    | nil => cases h; exact ⟨none, rfl, fun _ => rfl, fun z rz hz => hz⟩
    | cons => exact ha.elim
  | (x, v) :: l, es, i, b, h, ha => by
    cases es with
    | nil => exact ha.elim
    | cons e es =>
    obtain ⟨⟨h1, h2⟩, ha⟩ := ha
    cases x <;> simp only [hasKey] at h <;> try (cases h; done)
    rename_i k' n'
    split at h <;> try (cases h; done)
    rename_i hk; subst hk
    split at h <;> try (cases h; done)
    rename_i b' hb'
    cases h
    obtain ⟨r, g1, g2, g3⟩ := find_ok l es (i + 1) b' hb' ha
    have he : e.key = .int k' n' := h1.1
    have hs : Instr.sameNow (.int k') (.int k' n) e.key = some (iEq n n') := by
      rw [he]
      show (if k' = k' then some (n == n') else none) = _
      rw [if_pos rfl]; rfl
    simp only [Instr.findNow, hs]
    cases hq : iEq n n' with
    | true =>
      refine ⟨some (i, e.val), rfl, fun h => by simp at h, fun z rz hz => ?_⟩
      simp only [pickKey, hq, mrg_eq, cond_true]
      exact h2
    | false =>
      refine ⟨r, g1, fun h => g2 (by simpa using h), fun z rz hz => ?_⟩
      simp only [pickKey, hq, mrg_eq, cond_false]
      exact g3 z rz hz

/-- A map's entries have been set. -/
theorem Rep.putMap {A : Nat → Prop} {w : World} {m : Mem} (hR : Rep ρ A m w) {id : Nat} {l l' : List (AV × AV)} (hid : m.get id = some (.map l)) {es' : Array MapEntry} {clock' : Nat}
    (hall : All2 (fun (x : AV × AV) (e : MapEntry) => VR1 ρ x.1 e.key ∧ VR2 ρ x.2 e.val) l' es'.toList) :
    Rep ρ A (m.put id (.map l')) { w with heap := w.heap.setIfInBounds (ρ.bb id) (.map es' clock') } ∧ Upd A w { w with heap := w.heap.setIfInBounds (ρ.bb id) (.map es' clock') } := by
  obtain ⟨h1, hA, es, clock, h3, h4⟩ := hR.blk id _ hid
  have hlt : ρ.bb id < w.heap.size := (Array.getElem?_eq_some_iff.1 h3).1
  have hget : ∀ j b, (m.put id (.map l')).get j = some b → (j = id ∧ b = .map l') ∨ (j ≠ id ∧ m.get j = some b) := fun j b hb => by
    rcases Tr.get_set _ m.t id j b hb with ⟨g1, g2⟩ | ⟨g1, g2⟩
    · exact .inl ⟨g1, (Option.some.inj g2).symm⟩
    · exact .inr ⟨g1, g2⟩
  have hoth : ∀ i, i ≠ ρ.bb id → (w.heap.setIfInBounds (ρ.bb id) (.map es' clock'))[i]? = w.heap[i]? := fun i hi => by
    rw [Array.getElem?_setIfInBounds, if_neg (fun h => hi h.symm)]
  refine ⟨⟨hR.n, hR.lt, fun j b hb => ?_, fun i j bi bj hi hj hij hwr => ?_, fun b hb => hR.new b (by simpa using hb), hR.tab.later fun i _ ha => hoth i fun he => ha (by rw [he]; exact hA)⟩, ⟨by simp, fun i _ ha => hoth i fun he => ha (by rw [he]; exact hA), rfl, rfl, rfl⟩⟩
  · rcases hget j b hb with ⟨rfl, rfl⟩ | ⟨g1, g2⟩
    · refine ⟨h1, hA, es', clock', ?_, hall⟩
      show (w.heap.setIfInBounds (ρ.bb j) _)[ρ.bb j]? = _
      rw [Array.getElem?_setIfInBounds, if_pos rfl, if_pos hlt]
    · obtain ⟨k1, k2⟩ := hR.blk j b g2
      exact ⟨k1, k2.later k1 (Ren.le.refl ρ) (hoth _ (hR.sep id j _ _ hid g2 (fun he => g1 he.symm) rfl).symm)⟩
  · rcases hget i bi hi with ⟨rfl, rfl⟩ | ⟨hi1, hi2⟩ <;> rcases hget j bj hj with ⟨rfl, rfl⟩ | ⟨hj1, hj2⟩
    · exact absurd rfl hij
    · exact hR.sep i j _ bj hid hj2 hij rfl
    · exact hR.sep i j bi _ hi2 hid hij hwr
    · exact hR.sep i j bi bj hi2 hj2 hij hwr

/-- A new map. -/
theorem did_makeMap {A : Nat → Prop} {w : World} {m : Mem} (hR : Rep ρ A m w) (t : TypeId) : Did P ρ A w (Instr.makeMap t none) (.mp m.n) (m.add (.map [])) := by
  have hold : ∀ b, b < w.heap.size → (w.heap.push (.map #[] 0))[b]? = w.heap[b]? := fun b hb => by
    rw [Array.getElem?_push, if_neg (by omega)]
  have hadd := hR.add (w' := { w with heap := w.heap.push (.map #[] 0) }) (bb := w.heap.size) (bo := 0) (sh := .ref) (room := 0) (b := .map []) (by simp) (fun id b hb => hold _ (hR.blk id b hb).2.block_lt) (fun id b hb => Nat.ne_of_lt (hR.blk id b hb).2.block_lt) (fun b hb _ => hold b hb) (by
    have e1 : (ρ.add w.heap.size 0 .ref 0).bb ρ.n = w.heap.size := by simp [Ren.add]
    simp only [BlkOk]
    rw [e1]
    exact ⟨hR.new _ (Nat.le_refl _), #[], 0, by simp, trivial⟩)
  refine ⟨_, .map (some w.heap.size), _, rfl, Ren.ext_add hR.lt _ _ _ _, hadd, ⟨by simp, fun b hb _ => hold b hb, rfl, rfl, rfl⟩, ?_⟩
  rw [← hR.n]
  exact ⟨by simp [Ren.add], by simp [Ren.add]⟩

def evInsert (P : Program) (m : Mem) (t : TypeId) (x key v : AV) : Option (Option Bool × Mem) :=
  match x, key with
  | .mp id, .it k n => match m.get id, mapOf P t with
    | some (.map l), some (k', _) => if k' = k then (match hasKey k n l with
      | some b => bif noTup v then some (some (!b), m.put id (.map (l ++ [(.it k n, v)]))) else none
      | none => none) else none
    | _, _ => none
  | _, _ => none

def evLookup (P : Program) (m : Mem) (t : TypeId) (x key : AV) : Option AV :=
  match x, key with
  | .mp id, .it k n => match m.get id, mapOf P t with
    | some (.map l), some (k', _, et) => if k' = k then (match hasKey k n l, evZero P et with
      | some _, some z => some (pickKey n z l)
      | _, _ => none) else none
    | _, _ => none
  | _, _ => none

theorem getObj_map {w : World} {r : Nat} {es : Array MapEntry} {clock : Nat} (h : w.heap[r]? = some (.map es clock)) : (getObj r).run P w = .ok (.map es clock) w := by simp [getObj, Sem.run, h]
theorem setObj_map {w : World} {r : Nat} {es : Array MapEntry} {clock : Nat} (o : Obj) (h : w.heap[r]? = some (.map es clock)) : (setObj r o).run P w = .ok () { w with heap := w.heap.setIfInBounds r o } := by simp [setObj, Sem.run, h]

theorem checkKey_at {kt : TypeId} {k : IntKind} (hk : P.underlying kt = some (.int k)) (e : Bool) (k' : IntKind) (n : Int) (w : World) (f : Nat) : (Instr.checkKey e (f + 1) kt (.int k' n)).run P w = .ok () w := by
  unfold Instr.checkKey
  simp only [Sem.run_bind, run_underlying hk, Result.andThen_ok, Sem.run_pure]
theorem checkKey_int {kt : TypeId} {k : IntKind} (hk : P.underlying kt = some (.int k)) (e : Bool) (k' : IntKind) (n : Int) (w : World) : (Instr.checkKey e 10000 kt (.int k' n)).run P w = .ok () w := checkKey_at hk e k' n w 9999

theorem evInsert_ok {A : Nat → Prop} {w : World} {m m' : Mem} (hR : Rep ρ A m w) {t : TypeId} {x key v : AV} {rx rk rv : Value} {c : Option Bool} (h : evInsert P m t x key v = some (c, m')) (hc : c = none ∨ c = some true)
    (hx : VR3 ρ x rx) (hkv : VR3 ρ key rk) (hv : VR3 ρ v rv) : ∃ w', (Instr.mapUpdate t rx rk rv).run P w = .ok () w' ∧ Rep ρ A m' w' ∧ Upd A w w' := by
  unfold evInsert at h
  split at h <;> try (cases h; done)
  rename_i id k n
  split at h <;> try (cases h; done)
  rename_i l k' q hid hmo
  split at h <;> try (cases h; done)
  rename_i hk; subst hk
  split at h <;> try (cases h; done)
  rename_i b hb
  cases hnt : noTup v with
  | false => rw [hnt] at h; cases h
  | true =>
  rw [hnt, cond_true] at h
  cases h
  have hbf : b = false := by
    rcases hc with hc | hc
    · cases hc
    · have := Option.some.inj hc; simpa using this
  obtain ⟨kt, et⟩ := q
  obtain ⟨hm1, hm2⟩ := mapOf_ok hmo
  obtain ⟨h1, hA, es, clock, h3, h4⟩ := hR.blk id _ hid
  obtain ⟨r, g1, g2, _⟩ := find_ok l es.toList 0 b hb h4
  have hr := g2 hbf
  subst hr
  have hx' : rx = .map (some (ρ.bb id)) := hx.2
  have hk' : rk = .int k' n := hkv.1
  subst hx' hk'
  have hput := hR.putMap (l' := l ++ [(.it k' n, v)]) hid (es' := es.push { key := .int k' n, val := rv, born := clock }) (clock' := clock + 1) (by
    rw [Array.toList_push]
    exact h4.append ⟨⟨hkv, hv.noTup hnt⟩, trivial⟩)
  refine ⟨_, ?_, hput.1, hput.2⟩
  have hset := setObj_map (P := P) (.map (es.push { key := .int k' n, val := rv, born := clock }) (clock + 1)) h3
  simp only [Instr.mapUpdate, Instr.findKey, Sem.run_bind, run_underlying hm1, Result.andThen_ok, getObj_map (P := P) h3, checkKey_int hm2, run_underlying hm2, g1, Sem.run_pure]
  exact hset

theorem evLookup_ok {A : Nat → Prop} {w : World} {m : Mem} (hR : Rep ρ A m w) {t : TypeId} {x key v : AV} {rx rk : Value} (h : evLookup P m t x key = some v)
    (hx : VR3 ρ x rx) (hkv : VR3 ρ key rk) : ∃ rv, (Instr.lookup t rx rk false).run P w = .ok rv w ∧ VR3 ρ v rv := by
  unfold evLookup at h
  split at h <;> try (cases h; done)
  rename_i id k n
  split at h <;> try (cases h; done)
  rename_i l k' q1 et hid hmo
  split at h <;> try (cases h; done)
  rename_i hk; subst hk
  split at h <;> try (cases h; done)
  rename_i b z hb hz
  cases h
  obtain ⟨hm1, hm2⟩ := mapOf_ok hmo
  obtain ⟨h1, hA, es, clock, h3, h4⟩ := hR.blk id _ hid
  obtain ⟨i, rz, hi, hz1, _, _, hz2, _⟩ := evZero_ok (ρ := ρ) hz
  obtain ⟨r, g1, _, g3⟩ := find_ok l es.toList 0 b hb h4
  have hx' : rx = .map (some (ρ.bb id)) := hx.2
  have hk' : rk = .int k' n := hkv.1
  subst hx' hk'
  refine ⟨_, ?_, VR3_of_VR2 (g3 z rz hz2)⟩
  simp only [Instr.lookup, Instr.findKey, Sem.run_bind, run_underlying hm1, Result.andThen_ok, getObj_map (P := P) h3, Sem.run_pure, checkKey_int hm2, run_underlying hm2, g1]
  cases r with
  | none => simp only [run_zeroValue hi hz1, Result.andThen_ok, Sem.run_pure, Sem.run_bind]; rfl
  | some x => obtain ⟨j, u⟩ := x; rfl

/-- What an evaluation yields: a condition, and a value. -/
abbrev Out := Bool × AV

def Om.land (c : Bool) (x : Out) : Out := (c && x.1, x.2)
def Om.pick (b : Bool) (x y : Out) : Out := (bif b then x.1 else y.1, mrg b x.2 y.2)
def Om.fine (x : Out) : Prop := x.1 = true
theorem Om.land_ok (c : Bool) (x : Out) (h : Om.fine (Om.land c x)) : c = true ∧ Om.land c x = x := by
  simp only [Om.fine, Om.land, Bool.and_eq_true] at h
  exact ⟨h.1, by simp only [Om.land, h.1, Bool.true_and]⟩
theorem Om.pick_t (a b : Out) : Om.pick true a b = a := by simp only [Om.pick, mrg_eq, cond_true]
theorem Om.pick_f (a b : Out) : Om.pick false a b = b := by simp only [Om.pick, mrg_eq, cond_false]

def bindC (c : Option Bool) (r : Option Out) : Option Out :=
  match c with
  | none => r
  | some c => match r with
    | some x => some (Om.land c x)
    | none => none

theorem bindC_ok {c : Option Bool} {r : Option Out} {x : Out} (h : bindC c r = some x) (hx : Om.fine x) : (c = none ∨ c = some true) ∧ r = some x := by
  cases c with
  | none => exact ⟨.inl rfl, h⟩
  | some c =>
    simp only [bindC] at h
    split at h <;> try (cases h; done)
    rename_i y
    cases h
    obtain ⟨h1, h2⟩ := Om.land_ok _ _ hx
    exact ⟨.inr (by rw [h1]), by rw [h2]⟩

/-- The one or the other; where one fails it must be the other. -/
def brC (x : Bool) (a b : Option Out) : Option Out :=
  match a, b with
  | some a, some b => some (Om.pick x a b)
  | some a, none => some (Om.land x a)
  | none, some b => some (Om.land (!x) b)
  | none, none => none

theorem brC_ok {x : Bool} {a b : Option Out} {r : Out} (h : brC x a b = some r) (hr : Om.fine r) : (x = true → a = some r) ∧ (x = false → b = some r) := by
  unfold brC at h
  split at h
  · cases h
    refine ⟨fun hx => ?_, fun hx => ?_⟩
    · subst hx; rw [Om.pick_t]
    · subst hx; rw [Om.pick_f]
  · cases h
    obtain ⟨h1, h2⟩ := Om.land_ok _ _ hr
    exact ⟨fun _ => by rw [h2], fun hx => by rw [hx] at h1; cases h1⟩
  · cases h
    obtain ⟨h1, h2⟩ := Om.land_ok _ _ hr
    exact ⟨fun hx => by (rw [hx] at h1; cases h1), fun _ => by rw [h2]⟩
  · cases h

/-- A handler of calls: 'h f args m k' goes on by 'k' with what the call yields and leaves. -/
abbrev Hd := FuncId → List AV → Mem → (AV → Mem → Option Out) → Option Out

def HSound (P : Program) (h : Hd) : Prop := ∀ f args m k r, h f args m k = some r → Om.fine r → ∃ v m', k v m' = some r ∧
  ∀ ρ A w vals, Rep ρ A m w → All2 (VR3 ρ) args vals → Done P ρ A w (callFunc f vals.toArray) v m'

/-- Functions that leave all as it is, by what they yield, whatever the memory. -/
abbrev Pcs := FuncId → List AV → Option (Option Bool × AV)

def PSound (P : Program) (pc : Pcs) : Prop := ∀ f args c v, pc f args = some (c, v) → (c = none ∨ c = some true) →
  ∀ ρ A m w vals, Rep ρ A m w → All2 (VR3 ρ) args vals → Done P ρ A w (callFunc f vals.toArray) v m

def evPc (pc : Pcs) (rd : Operand → Option AV) (c : Call) : Option (Option Bool × AV) :=
  match c.callee with
  | .value f => (match rd f, evList rd c.args.toList with
    | some (.fn g caps), some l => pc g (l ++ caps)
    | _, _ => none)
  | _ => none

/-- One operation (no guard, no pick). -/
def evOp (P : Program) (ok : List TypeId) (pc : Pcs) (h : Hd) (rd : Operand → Option AV) (m : Mem) (op : Op) (k : AV → Mem → Option Out) : Option Out :=
  match op with
  | .alloc t => match evZero P t with
    | some a => k (.pt m.n [] a.shape) (m.add (.cells a true))
    | none => none
  | .box _ x => match rd x with
    | some v => bif v.isVal then k (.pt m.n [] v.shape) (m.add (.cells v true)) else none
    | none => none
  | .build t parts => match evPartsOf rd parts.toList with
    | some l => (match evBuild P t l with | some r => k r m | none => none)
    | none => none
  | .buildSlice t len parts => match evPartsOf rd parts.toList with
    | some l => (match evBuildSlice P m t len l with | some (r, m') => k r m' | none => none)
    | none => none
  | .store t x v => match rd x, rd v with
    | some x, some v => (match evStore P m t x v with | some m' => k (.tup []) m' | none => none)
    | _, _ => none
  | .makeSlice t l c => match rd l, rd c with
    | some l, some c => (match evMakeSlice P m t l c with | some (cd, r, m') => bindC cd (k r m') | none => none)
    | _, _ => none
  | .makeMap t none => k (.mp m.n) (m.add (.map []))
  | .insert t x key v => match rd x, rd key, rd v with
    | some x, some key, some v => (match evInsert P m t x key v with | some (cd, m') => bindC cd (k (.tup []) m') | none => none)
    | _, _, _ => none
  | .mapUpdate t x key v => match rd x, rd key, rd v with
    | some x, some key, some v => (match evInsert P m t x key v with | some (cd, m') => bindC cd (k (.tup []) m') | none => none)
    | _, _, _ => none
  | .lookup t x key false => match rd x, rd key with
    | some x, some key => (match evLookup P m t x key with | some v => k v m | none => none)
    | _, _ => none
  | .call c => match c.callee with
    | .builtin .append => match evList rd c.args.toList with
      | some l => (match evAppend P m c.argTypes l with | some (cd, r, m') => bindC cd (k r m') | none => none)
      | none => none
    | .builtin _ => match evPure P ok m rd (.call c) with
      | some (cd, v) => bindC cd (k v m)
      | none => none
    | .value f => match evPc pc rd c with
      | some (cd, v) => bindC cd (k v m)
      | none => match rd f, evList rd c.args.toList with
        | some (.fn g caps), some l => h g (l ++ caps) m k
        | _, _ => none
    | .invoke _ _ => none
  | op => match evPure P ok m rd op with
    | some (cd, v) => bindC cd (k v m)
    | none => none

theorem pure_done {ok : List TypeId} (hok : Fair P ok) {A : Nat → Prop} {w : World} {m : Mem} (hR : Rep ρ A m w) {rd : Operand → Option AV} {ev : Operand → Value}
    (hrd : ∀ x v, rd x = some v → VR3 ρ v (ev x)) {o : Oper} {c : Option Bool} {r : AV} (h : evPure P ok m rd o.op = some (c, r)) (hc : c = none ∨ c = some true) :
    Done P ρ A w (execOp ev o) r m := by
  obtain ⟨rv, h1, h2⟩ := evPure_ok hok hR hrd h hc
  exact .inl ⟨ρ, rv, w, _, h1, .inl rfl, Ren.ext.refl ρ, hR, Upd.refl A w, h2⟩

theorem All2.map_VR1s {l : List AV} {cs : List Value} (h : VR1s ρ l cs) : All2 (VR3 ρ) l cs :=
  ((VR1s_iff l cs).1 h).mono fun a v hv => by cases a <;> first | exact hv | (simp only [VR1] at hv)

/-- A call's function and arguments. -/
theorem exec_call {ρ : Ren} {rd : Operand → Option AV} {ev : Operand → Value} (hrd : ∀ x v, rd x = some v → VR3 ρ v (ev x)) {o : Oper} {c : Call} {f : Operand} {g : FuncId} {caps l : List AV}
    (hop : o.op = .call c) (hcal : c.callee = .value f) (hf : rd f = some (.fn g caps)) (hl : evList rd c.args.toList = some l) :
    ∃ vals : List Value, All2 (VR3 ρ) (l ++ caps) vals ∧ execOp ev o = callFunc g vals.toArray := by
  obtain ⟨cs, hcs, hcaps⟩ := hrd _ _ hf
  have hargs := evList_ok hrd _ _ hl
  refine ⟨_, hargs.append (All2.map_VR1s hcaps), ?_⟩
  simp only [execOp, hop, resolve, hcal, hcs, Deferred.ofValue]
  show Sem.bind (Sem.pure _) _ = _
  simp only [Sem.bind, invoke]
  congr 1
  apply Array.ext'
  simp

theorem evPc_ok {pc : Pcs} (hp : PSound P pc) {ρ : Ren} {A : Nat → Prop} {w : World} {m : Mem} (hR : Rep ρ A m w) {rd : Operand → Option AV} {ev : Operand → Value}
    (hrd : ∀ x v, rd x = some v → VR3 ρ v (ev x)) {o : Oper} {c : Call} (hop : o.op = .call c) {cd : Option Bool} {v : AV} (h : evPc pc rd c = some (cd, v)) (hc : cd = none ∨ cd = some true) :
    Done P ρ A w (execOp ev o) v m := by
  unfold evPc at h
  split at h <;> try (cases h; done)
  rename_i f hcal
  split at h <;> try (cases h; done)
  rename_i g caps l hf hl
  obtain ⟨vals, h1, h2⟩ := exec_call hrd hop hcal hf hl
  rw [h2]
  exact hp _ _ _ _ h hc ρ A m w vals hR h1

theorem evOp_ok {ok : List TypeId} (hok : Fair P ok) {pc : Pcs} (hpc : PSound P pc) {h : Hd} (hh : HSound P h) {rd : Operand → Option AV} {m : Mem} {o : Oper} {k : AV → Mem → Option Out} {r : Out}
    (he : evOp P ok pc h rd m o.op k = some r) (hr : Om.fine r) :
    ∃ v m', k v m' = some r ∧ ∀ ρ A w (ev : Operand → Value), Rep ρ A m w → (∀ x v, rd x = some v → VR3 ρ v (ev x)) → Done P ρ A w (execOp ev o) v m' := by
  unfold evOp at he
  have viaPure : ∀ {op : Op}, o.op = op → (match evPure P ok m rd op with | some (cd, v) => bindC cd (k v m) | none => none) = some r →
      ∃ v m', k v m' = some r ∧ ∀ ρ A w (ev : Operand → Value), Rep ρ A m w → (∀ x v, rd x = some v → VR3 ρ v (ev x)) → Done P ρ A w (execOp ev o) v m' := by
    intro op hop he
    split at he <;> try (cases he; done)
    rename_i cd v hp
    obtain ⟨h1, h2⟩ := bindC_ok he hr
    exact ⟨v, m, h2, fun ρ A w ev hR hrd => pure_done hok hR hrd (by rw [hop]; exact hp) h1⟩
  split at he
  case h_1 t hop =>
    split at he <;> try (cases he; done)
    rename_i a ha
    exact ⟨_, _, he, fun ρ A w ev hR hrd => (did_alloc hR ha).done (by simp [execOp, hop])⟩
  case h_2 t x hop =>
    split at he <;> try (cases he; done)
    rename_i v hv
    cases hvl : v.isVal with
    | false => rw [hvl] at he; cases he
    | true =>
      rw [hvl] at he
      exact ⟨_, _, he, fun ρ A w ev hR hrd => (did_box (t := t) hR hvl (hrd _ _ hv)).done (by simp only [execOp, hop])⟩
  case h_3 t parts hop =>
    split at he <;> try (cases he; done)
    rename_i l hl
    split at he <;> try (cases he; done)
    rename_i v hb
    refine ⟨_, _, he, fun ρ A w ev hR hrd => ?_⟩
    obtain ⟨rv, h1, h2⟩ := evBuild_ok (P := P) (w := w) (vals := parts.map fun (i, x) => (i, ev x)) hb (by rw [Array.toList_map]; exact evPartsOf_ok hrd _ _ hl)
    exact (did_same hR h1 h2).done (by simp only [execOp, hop])
  case h_4 t len parts hop =>
    split at he <;> try (cases he; done)
    rename_i l hl
    split at he <;> try (cases he; done)
    rename_i v m' hb
    refine ⟨_, _, he, fun ρ A w ev hR hrd => ?_⟩
    exact (did_buildSlice (vals := parts.map fun (i, x) => (i, ev x)) hR hb (by rw [Array.toList_map]; exact evPartsOf_ok hrd _ _ hl)).done (by simp only [execOp, hop])
  case h_5 t x v hop =>
    split at he <;> try (cases he; done)
    rename_i x' v' hx hv
    split at he <;> try (cases he; done)
    rename_i m' hs
    refine ⟨_, _, he, fun ρ A w ev hR hrd => ?_⟩
    obtain ⟨w', h1, h2, h3⟩ := evStore_ok (P := P) hR hs (hrd _ _ hx) (hrd _ _ hv)
    exact .inl ⟨ρ, undef, w', .skip, by simp [execOp, hop, h1], .inr ⟨rfl, rfl⟩, Ren.ext.refl ρ, h2, h3, ⟨#[], rfl, trivial⟩⟩
  case h_6 t l c hop =>
    split at he <;> try (cases he; done)
    rename_i l' c' hl hc
    split at he <;> try (cases he; done)
    rename_i cd v m' hs
    obtain ⟨h1, h2⟩ := bindC_ok he hr
    exact ⟨_, _, h2, fun ρ A w ev hR hrd => (did_makeSlice hR hs h1 (hrd _ _ hl) (hrd _ _ hc)).done (by simp only [execOp, hop])⟩
  case h_7 t hop =>
    exact ⟨_, _, he, fun ρ A w ev hR hrd => (did_makeMap (P := P) hR t).done (by simp only [execOp, hop]; rfl)⟩
  case h_8 t x key v hop =>
    split at he <;> try (cases he; done)
    rename_i x' k' v' hx hk hv
    split at he <;> try (cases he; done)
    rename_i cd m' hs
    obtain ⟨h1, h2⟩ := bindC_ok he hr
    refine ⟨_, _, h2, fun ρ A w ev hR hrd => ?_⟩
    obtain ⟨w', g1, g2, g3⟩ := evInsert_ok (P := P) hR hs h1 (hrd _ _ hx) (hrd _ _ hk) (hrd _ _ hv)
    exact .inl ⟨ρ, undef, w', .skip, by simp [execOp, hop, g1], .inr ⟨rfl, rfl⟩, Ren.ext.refl ρ, g2, g3, ⟨#[], rfl, trivial⟩⟩
  case h_9 t x key v hop =>
    split at he <;> try (cases he; done)
    rename_i x' k' v' hx hk hv
    split at he <;> try (cases he; done)
    rename_i cd m' hs
    obtain ⟨h1, h2⟩ := bindC_ok he hr
    refine ⟨_, _, h2, fun ρ A w ev hR hrd => ?_⟩
    obtain ⟨w', g1, g2, g3⟩ := evInsert_ok (P := P) hR hs h1 (hrd _ _ hx) (hrd _ _ hk) (hrd _ _ hv)
    exact .inl ⟨ρ, undef, w', .skip, by simp [execOp, hop, g1], .inr ⟨rfl, rfl⟩, Ren.ext.refl ρ, g2, g3, ⟨#[], rfl, trivial⟩⟩
  case h_10 t x key hop =>
    split at he <;> try (cases he; done)
    rename_i x' k' hx hk
    split at he <;> try (cases he; done)
    rename_i v hs
    refine ⟨_, _, he, fun ρ A w ev hR hrd => ?_⟩
    obtain ⟨rv, g1, g2⟩ := evLookup_ok (P := P) hR hs (hrd _ _ hx) (hrd _ _ hk)
    exact (did_same hR g1 g2).done (by simp only [execOp, hop])
  case h_11 c hop =>
    split at he
    · rename_i hcal
      split at he <;> try (cases he; done)
      rename_i l hl
      split at he <;> try (cases he; done)
      rename_i cd v m' hs
      obtain ⟨h1, h2⟩ := bindC_ok he hr
      refine ⟨_, _, h2, fun ρ A w ev hR hrd => ?_⟩
      have := did_append (P := P) (ty := o.type) hR hs h1 (evList_ok hrd _ _ hl)
      refine this.done ?_
      simp only [execOp, hop, resolve, hcal]
      have e : (c.args.map ev) = (c.args.toList.map ev).toArray := by apply Array.ext'; simp
      rw [e]
      rfl
    · rename_i b hb hcal
      exact viaPure hop he
    · rename_i f hcal
      split at he
      · rename_i cd v hp
        obtain ⟨h1, h2⟩ := bindC_ok he hr
        exact ⟨v, m, h2, fun ρ A w ev hR hrd => evPc_ok hpc hR hrd hop hp h1⟩
      split at he <;> try (cases he; done)
      rename_i g caps l hf hl
      obtain ⟨v, m', h1, h2⟩ := hh _ _ _ _ _ he hr
      refine ⟨v, m', h1, fun ρ A w ev hR hrd => ?_⟩
      obtain ⟨vals, g1, g2⟩ := exec_call hrd hop hcal hf hl
      rw [g2]
      exact h2 ρ A w vals hR g1
    · cases he
  case h_12 => exact viaPure rfl he

end
end Go.Ev
