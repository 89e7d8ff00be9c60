/-
  The evaluator's operations that leave memory alone, and that they do what the model's do. Own text; nothing of a program.
-/
import Derived.Test.YtngaeiceicgalaaDoorEvB
import Derived.Laws.StructEq
namespace Go.Ev

/- Numbers. -/
def iAdd (k : IntKind) (x y : Int) : Int := k.wrap (x + y)
def iSub (k : IntKind) (x y : Int) : Int := k.wrap (x - y)
def iMul (k : IntKind) (x y : Int) : Int := k.wrap (x * y)
def iQuo (k : IntKind) (x y : Int) : Int := k.wrap (x.tdiv y)
def iRem (x y : Int) : Int := x.tmod y
def iAnd (k : IntKind) (x y : Int) : Int := k.wrap (BitVec.ofInt k.bits x &&& BitVec.ofInt k.bits y).toNat
def iOr (k : IntKind) (x y : Int) : Int := k.wrap (BitVec.ofInt k.bits x ||| BitVec.ofInt k.bits y).toNat
def iXor (k : IntKind) (x y : Int) : Int := k.wrap (BitVec.ofInt k.bits x ^^^ BitVec.ofInt k.bits y).toNat
def iAndNot (k : IntKind) (x y : Int) : Int := k.wrap (BitVec.ofInt k.bits x &&& ~~~ BitVec.ofInt k.bits y).toNat
def iShl (k : IntKind) (x y : Int) : Int := k.wrap (x * 2 ^ (min y.toNat k.bits))
def iShr (k : IntKind) (x y : Int) : Int := x.fdiv (2 ^ (min y.toNat k.bits))
def iConv (k : IntKind) (x : Int) : Int := k.wrap x
def iEq (x y : Int) : Bool := x == y
def iNe (x y : Int) : Bool := x != y
def iLt (x y : Int) : Bool := decide (x < y)
def iLe (x y : Int) : Bool := decide (x ≤ y)
def iMax (x y : Int) : Int := bif iLt x y then y else x
def iMin (x y : Int) : Int := bif iLt y x then y else x
/-- 0 ≤ x < n -/
def iIn (x : Int) (n : Nat) : Bool := decide (0 ≤ x ∧ x < (n : Int))
/- Strings. -/
def sLen (l : List UInt8) : Int := l.length
def sAt (l : List UInt8) (i : Int) : Int := (l.getD i.toNat 0).toNat
def sCut (l : List UInt8) (a b : Int) : List UInt8 := (l.take b.toNat).drop a.toNat
def sCat (l m : List UInt8) : List UInt8 := l ++ m
def sEq (l m : List UInt8) : Bool := l == m

def aggT (P : Program) (t : TypeId) : Bool := match P.underlying t with | some (.struct _) => true | some (.array _ _) => true | _ => false
def AV.isAgg : AV → Bool
  | .agg _ => true
  | .arr _ _ _ => true
  | _ => false
/-- It has cells of its own. -/
def AV.isVal : AV → Bool
  | .un => false
  | .tup _ => false
  | .gd _ _ _ => false
  | _ => true

/-- What a constant of the program's text is. -/
def constAV : Value → Option AV
  | .bool b => some (.bl b)
  | .int k n => bif k.signed || decide (0 ≤ n) then some (.it k n) else none
  | .string s => some (.st s.data.toList)
  | .pointer none => some .nl
  | .slice none 0 0 => some .nsl
  | .map none => some .nmp
  | .nilFunc => some .nfn
  | .nilIface => some .nif
  | .tuple vs => match vs.toList with | [] => some (.tup []) | _ => none
  | _ => none

section
variable {P : Program} {ρ : Ren}

theorem constAV_ok {v : Value} {a : AV} (h : constAV v = some a) : VR3 ρ a v := by
  unfold constAV at h
  split at h
  case h_9 vs =>
    split at h
    · rename_i hvs
      cases h
      simp only [VR3]
      exact ⟨vs, rfl, by rw [hvs]; trivial⟩
    · cases h
  case h_2 k n =>
    cases hk : k.signed
    · cases hn : decide (0 ≤ n) <;> rw [hk, hn] at h <;> simp at h hn
      subst h; simp [VR3, VR2, VR1, hn]
    · rw [hk] at h; simp at h; subst h; simp [VR3, VR2, VR1, hk]
  all_goals first
    | (cases h; done)
    | (cases h; simp [VR3, VR2, VR1]; done)

theorem AV.flat_scalar {a : AV} (h : a.isAgg = false) : a.flat = [a] := by cases a <;> simp_all [AV.isAgg, AV.flat]
theorem AV.size_scalar {a : AV} (h : a.isAgg = false) : a.shape.size = 1 := by cases a <;> simp_all [AV.isAgg, AV.shape, Sh.size]
theorem AV.wf_scalar {a : AV} (h : a.isAgg = false) : a.wf := by cases a <;> simp_all [AV.isAgg, AV.wf]
theorem VR2_scalar {a : AV} {v : Value} (h : a.isAgg = false) : VR2 ρ a v = VR1 ρ a v := by cases a <;> simp_all [AV.isAgg, VR2]
theorem VR2_agg {a : AV} {v : Value} (h : a.isAgg = true) : VR2 ρ a v ↔ a.wf ∧ ∃ cs : Array Value, v = .agg cs ∧ All2 (VR1 ρ) a.flat cs.toList := by
  cases a <;> simp_all [AV.isAgg, VR2, AV.wf, AV.flat]
theorem VR3_val {a : AV} {v : Value} (h : ∀ l, a ≠ .tup l) : VR3 ρ a v = VR2 ρ a v := by cases a <;> simp_all [VR3]

theorem VR2.wf {a : AV} {v : Value} (h : VR2 ρ a v) : a.wf := by
  cases hb : a.isAgg with
  | true => exact ((VR2_agg hb).1 h).1
  | false => exact AV.wf_scalar hb

/-- No scalar stands for a row of cells or a tuple (but the unknown). -/
theorem VR1.oneCell {a : AV} {v : Value} (h : VR1 ρ a v) (ha : a.isVal = true) : v.cells = #[v] ∧ v.oneCell' = true := by
  cases a <;> simp [AV.isVal] at ha <;> simp only [VR1] at h <;> try exact h.elim
  all_goals try (subst h; simp [Value.cells, Value.oneCell']; done)
  · obtain ⟨rfl, _⟩ := h; simp [Value.cells, Value.oneCell']
  · obtain ⟨_, _, _, _, _, rfl⟩ := h; simp [Value.cells, Value.oneCell']
  · obtain ⟨_, _, _, _, _, _, _, _, _, rfl, _⟩ := h; simp [Value.cells, Value.oneCell']
  · obtain ⟨_, rfl, _⟩ := h; simp [Value.cells, Value.oneCell']
  · obtain ⟨_, rfl⟩ := h; simp [Value.cells, Value.oneCell']

/-- The cells of what a value stands for. -/
theorem VR2.cells {a : AV} {v : Value} (h : VR2 ρ a v) (ha : a.isVal = true) : All2 (VR1 ρ) a.flat v.cells.toList := by
  cases hb : a.isAgg with
  | true => obtain ⟨_, cs, rfl, hc⟩ := (VR2_agg hb).1 h; exact hc
  | false =>
    rw [VR2_scalar hb] at h
    rw [(h.oneCell ha).1, AV.flat_scalar hb]
    exact ⟨h, trivial⟩

theorem All2.sub {α β : Type} {R : α → β → Prop} {l l' : List α} {cs : List β} (h : All2 R l cs) (o n : Nat) (hn : l'.length = n) (hf : ∀ r, r < n → l'[r]? = l[o + r]?) :
    All2 R l' ((cs.drop o).take n) := by
  have hlen := h.len
  have hle : ∀ r, r < n → o + r < l.length := fun r hr => by
    have h1 := hf r hr
    rw [List.getElem?_eq_getElem (by omega)] at h1
    exact (List.getElem?_eq_some_iff.1 h1.symm).1
  refine All2.of_get ?_ fun i a hi => ?_
  · rcases Nat.eq_zero_or_pos n with h0 | h0
    · subst h0; simp [hn]
    · have := hle (n - 1) (by omega)
      simp [hn]; omega
  · have hin : i < n := by rw [← hn]; exact (List.getElem?_eq_some_iff.1 hi).1
    rw [hf i hin] at hi
    obtain ⟨b, hb, hr⟩ := h.get hi
    exact ⟨b, by rw [List.getElem?_take_of_lt hin, List.getElem?_drop]; exact hb, hr⟩

theorem run_isAgg {t : TypeId} (w : World) (h : P.underlying t ≠ none) : (isAgg t).run P w = .ok (aggT P t) w := by
  cases hu : P.underlying t with
  | none => exact absurd hu h
  | some d => simp [isAgg, aggT, run_underlying hu, hu]; cases d <;> simp

theorem aggT_info {t : TypeId} (h : aggT P t = true) : ∃ i, P.info? t = some i := by
  unfold aggT Program.underlying at h
  cases hi : P.info? t with
  | none => simp [hi] at h
  | some i => exact ⟨i, rfl⟩

/-- A part of a value's cells. -/
theorem run_part {a c : AV} {cs : Array Value} {t : TypeId} {o : Nat} (w : World) (h : All2 (VR1 ρ) a.flat cs.toList) (hu : P.underlying t ≠ none)
    (hc : c.wf) (hs : c.shape.size = P.cellsOf t) (hg : aggT P t = c.isAgg) (hf : ∀ r, r < c.shape.size → c.flat[r]? = a.flat[o + r]?) :
    ∃ v, (part t cs o).run P w = .ok v w ∧ VR2 ρ c v := by
  simp only [part, Sem.run_bind, run_isAgg w hu, Result.andThen_ok]
  cases hb : c.isAgg with
  | true =>
    rw [hg, hb]
    obtain ⟨i, hi⟩ := aggT_info (hg.trans hb)
    simp only [if_true, Sem.run_bind, run_sizeOf w hi, Result.andThen_ok, Sem.run_pure]
    refine ⟨_, rfl, (VR2_agg hb).2 ⟨hc, _, rfl, ?_⟩⟩
    have := All2.sub h o c.shape.size (AV.flat_len c hc) hf
    rw [Array.toList_extract, ← hs]
    simpa [List.extract] using this
  | false =>
    rw [hg, hb]
    have h1 := hf 0 (by rw [AV.size_scalar hb]; omega)
    rw [AV.flat_scalar hb] at h1
    simp only [List.getElem?_cons_zero, Nat.add_zero] at h1
    obtain ⟨v, hv, hr⟩ := h.get h1.symm
    have hv' : cs[o]? = some v := by rw [← Array.getElem?_toList]; exact hv
    refine ⟨v, by simp [hv'], by rw [VR2_scalar hb]; exact hr⟩

/-- What an operation yields that leaves memory alone. -/
def evField (P : Program) (t : TypeId) (x : AV) (f : Nat) : Option AV :=
  match x, P.underlying t with
  | .agg l, some (.struct fs) => match fs[f]?, l[f]? with
    | some fd, some c =>
      if Sh.sizes ((AV.shapes l).take f) = fd.offset ∧ c.shape.size = P.cellsOf fd.type ∧ aggT P fd.type = c.isAgg ∧ (P.underlying fd.type).isSome = true then some c else none
    | _, _ => none
  | _, _ => none

theorem evField_ok {t : TypeId} {x c : AV} {f : Nat} {v : Value} {w : World} (h : evField P t x f = some c) (hx : VR3 ρ x v) :
    ∃ rv, (Instr.field t v f).run P w = .ok rv w ∧ VR3 ρ c rv := by
  unfold evField at h
  split at h <;> try (cases h; done)
  rename_i l fs hu
  split at h <;> try (cases h; done)
  rename_i fd c' hfd hl
  split at h <;> try (cases h; done)
  rename_i hc
  cases h
  obtain ⟨h1, h2, h3, h4⟩ := hc
  simp only [VR3, VR2] at hx
  obtain ⟨hw, cs, rfl, hcs⟩ := hx
  have hcw : c.wf := (AV.wfs_iff l).1 hw c (List.mem_of_getElem? hl)
  obtain ⟨rv, hr, hv⟩ := run_part (P := P) (t := fd.type) (o := fd.offset) w (a := .agg l) (by simpa only [AV.flat] using hcs) (by intro hn; rw [hn] at h4; cases h4) hcw h2 h3 (fun r hr => by
    rw [AV.flat, ← h1, AV.flats_at l hw f c hl r hr])
  refine ⟨rv, ?_, ?_⟩
  · simp [Instr.field, run_underlying hu, hfd, asAgg, hr]
  · cases c <;> first | exact hv | (simp only [VR2, VR1] at hv)


theorem wrap_nonneg {k : IntKind} (h : k.signed = false) (n : Int) : 0 ≤ k.wrap n := by
  unfold IntKind.wrap
  simp only [h, Bool.false_and]
  exact Int.emod_nonneg _ (by cases k <;> simp [IntKind.bits])

theorem VR3_it {k : IntKind} {n : Int} {v : Value} (h : VR3 ρ (.it k n) v) : v = .int k n ∧ (k.signed = false → 0 ≤ n) := h
theorem VR3_bl {x : Bool} {v : Value} (h : VR3 ρ (.bl x) v) : v = .bool x := h
theorem VR3_st {l : List UInt8} {v : Value} (h : VR3 ρ (.st l) v) : v = .string ⟨l.toArray⟩ := h
theorem VR3_mk_it {k : IntKind} {n m : Int} (h : n = m) (h' : k.signed = false → 0 ≤ n) : VR3 ρ (.it k n) (.int k m) := by subst h; exact ⟨rfl, h'⟩

/-- Sums, bits, shifts. -/
def evArith (op : BinOp) (k : IntKind) (a : Int) (k' : IntKind) (b : Int) : Option (Option Bool × AV) :=
  match op with
  | .shl => some (bif k'.signed then some (iLe 0 b) else none, .it k (iShl k a b))
  | .shr => some (bif k'.signed then some (iLe 0 b) else none, .it k (iShr k a b))
  | .add => if k = k' then some (none, .it k (iAdd k a b)) else none
  | .sub => if k = k' then some (none, .it k (iSub k a b)) else none
  | .mul => if k = k' then some (none, .it k (iMul k a b)) else none
  | .quo => if k = k' then some (some (iNe b 0), .it k (iQuo k a b)) else none
  | .rem => if k = k' then some (some (iNe b 0), .it k (iRem a b)) else none
  | .and => if k = k' then some (none, .it k (iAnd k a b)) else none
  | .or => if k = k' then some (none, .it k (iOr k a b)) else none
  | .xor => if k = k' then some (none, .it k (iXor k a b)) else none
  | .andNot => if k = k' then some (none, .it k (iAndNot k a b)) else none
  | .eql => if k = k' then some (none, .bl (iEq a b)) else none
  | .neq => if k = k' then some (none, .bl (iNe a b)) else none
  | .lss => if k = k' then some (none, .bl (iLt a b)) else none
  | .leq => if k = k' then some (none, .bl (iLe a b)) else none
  | .gtr => if k = k' then some (none, .bl (iLt b a)) else none
  | .geq => if k = k' then some (none, .bl (iLe b a)) else none

theorem run_eqGuard_int (op : BinOp) (t : TypeId) (ox oy : Operand) (k k' : IntKind) (a b : Int) (w : World) :
    (eqGuard op t ox oy (.int k a) (.int k' b)).run P w = .ok () w := by
  cases op <;> simp [eqGuard]

theorem evArith_ok {op : BinOp} {t : TypeId} {k k' : IntKind} {a b : Int} {c : Option Bool} {v : AV} {w : World} (h : evArith op k a k' b = some (c, v))
    (hc : c = none ∨ c = some true) (ha : k.signed = false → 0 ≤ a) (hb : k'.signed = false → 0 ≤ b) :
    ∃ rv, (binOp op t (.int k a) (.int k' b)).run P w = .ok rv w ∧ VR3 ρ v rv := by
  unfold evArith at h
  cases op <;> simp only at h
  case shl | shr =>
    simp only [Option.some.injEq, Prod.mk.injEq] at h
    obtain ⟨rfl, rfl⟩ := h
    have hb0 : 0 ≤ b := by
      cases hs : k'.signed
      · exact hb hs
      · simp [hs, iLe] at hc; exact hc
    have : ¬ b < 0 := by omega
    refine ⟨_, by simp [binOp, Op.shift, this]; rfl, VR3_mk_it (by simp [iShl, iShr]) fun hk => ?_⟩
    first
      | exact wrap_nonneg hk _
      | exact Int.fdiv_nonneg (ha hk) (Int.pow_nonneg (by omega))
  case quo | rem =>
    split at h <;> try (cases h; done)
    rename_i hk; subst hk
    simp only [Option.some.injEq, Prod.mk.injEq] at h
    obtain ⟨rfl, rfl⟩ := h
    have hb0 : b ≠ 0 := by simpa [iNe] using hc
    refine ⟨_, by simp [binOp, Op.intDiv, hb0]; rfl, VR3_mk_it (by simp [iQuo, iRem]) fun hk => ?_⟩
    first
      | exact wrap_nonneg hk _
      | exact Int.tmod_nonneg _ (ha hk)
  case add | sub | mul =>
    split at h <;> try (cases h; done)
    rename_i hk; subst hk
    simp only [Option.some.injEq, Prod.mk.injEq] at h
    obtain ⟨rfl, rfl⟩ := h
    exact ⟨_, by simp only [binOp, ne_eq, not_true_eq_false, if_false]; rfl, VR3_mk_it rfl fun hk => wrap_nonneg hk _⟩
  case and | or | xor | andNot =>
    split at h <;> try (cases h; done)
    rename_i hk; subst hk
    simp only [Option.some.injEq, Prod.mk.injEq] at h
    obtain ⟨rfl, rfl⟩ := h
    exact ⟨_, by simp only [binOp, ne_eq, not_true_eq_false, if_false]; rfl, VR3_mk_it rfl fun hk => wrap_nonneg hk _⟩
  all_goals
    split at h <;> try (cases h; done)
    rename_i hk; subst hk
    simp only [Option.some.injEq, Prod.mk.injEq] at h
    obtain ⟨rfl, rfl⟩ := h
    exact ⟨_, by simp only [binOp, ne_eq, not_true_eq_false, if_false]; rfl, rfl⟩

/-- Are two values of a type alike? 'ok': structs that may be held so. -/
def evEqs (P : Program) (eq : TypeId → AV → AV → Option Bool) : List Field → Nat → List AV → List AV → Option Bool
  | [], _, [], [] => some true
  | f :: fs, o, a :: l, b :: m =>
    if f.name ≠ "_" ∧ f.offset = o ∧ a.shape.size = P.cellsOf f.type ∧ b.shape.size = P.cellsOf f.type ∧ aggT P f.type = a.isAgg ∧ aggT P f.type = b.isAgg ∧ (P.underlying f.type).isSome = true then
      match eq f.type a b, evEqs P eq fs (o + a.shape.size) l m with
      | some x, some y => some (x && y)
      | _, _ => none
    else none
  | _, _, _, _ => none

def Sh.isAgg : Sh → Bool
  | .agg _ => true
  | .arr _ _ => true
  | _ => false

def evEq (P : Program) (ok : List TypeId) : Nat → TypeId → AV → AV → Option Bool
  | 0, _, _, _ => none
  | d + 1, t, x, y =>
    match P.underlying t, x, y with
    | some .bool, .bl a, .bl b => some (a == b)
    | some (.int _), .it k a, .it k' b => if k = k' then some (iEq a b) else none
    | some .string, .st a, .st b => some (sEq a b)
    | some (.pointer _), .nl, .nl => some true
    | some (.pointer _), .nl, .pt _ _ _ => some false
    | some (.pointer _), .pt _ _ _, .nl => some false
    | some (.slice _), .nsl, .nsl => some true
    | some (.slice _), .nsl, .sl _ _ _ _ _ => some false
    | some (.slice _), .sl _ _ _ _ _, .nsl => some false
    | some (.func _ _ _), .nfn, .nfn => some true
    | some (.func _ _ _), .nfn, .fn _ _ => some false
    | some (.func _ _ _), .fn _ _, .nfn => some false
    | some (.struct fs), .agg l, .agg m => bif ok.contains t then evEqs P (evEq P ok d) fs.toList 0 l m else none
    | some (.array n e), .arr n' s f, .arr n'' s' g =>
      if n' = n ∧ n'' = n ∧ s.size = P.cellsOf e ∧ s'.size = P.cellsOf e ∧ aggT P e = s.isAgg ∧ aggT P e = s'.isAgg ∧ (P.info? e).isSome = true ∧ (P.underlying e).isSome = true ∧
          ((List.range n).all fun i => (evEq P ok d e (f i) (g i)).isSome) = true then
        some ((List.range n).all fun i => (evEq P ok d e (f i) (g i)).getD false)
      else none
    | _, _, _ => none

theorem AV.isAgg_shape (a : AV) : a.isAgg = a.shape.isAgg := by cases a <;> rfl

theorem toList_mk (l : List UInt8) : (⟨l.toArray⟩ : ByteArray).toList = l := by rw [ByteArray.toList_eq]

/-- The structs of 'ok' may be held against one another. -/
def EqOk (P : Program) (ok : List TypeId) : Prop := ∀ t, ok.contains t = true → P.stoodInHeld t = false

theorem run_part' {a c : AV} {cs : Array Value} {t : TypeId} {o : Nat} (w : World) (h : All2 (VR1 ρ) a.flat cs.toList) (hu : (P.underlying t).isSome = true)
    (hc : c.wf) (hs : c.shape.size = P.cellsOf t) (hg : aggT P t = c.isAgg) (hf : ∀ r, r < c.shape.size → c.flat[r]? = a.flat[o + r]?) :
    ∃ v, (part t cs o).run P w = .ok v w ∧ VR2 ρ c v := run_part w h (by intro hn; rw [hn] at hu; cases hu) hc hs hg hf

theorem evEqs_ok {d : Nat} {w : World} (eq : TypeId → AV → AV → Option Bool)
    (ih : ∀ t x y r v v', eq t x y = some r → VR2 ρ x v → VR2 ρ y v' → (Op.equalIn d t v v').run P w = .ok r w)
    (L M : List AV) (hL : AV.wfs L) (hM : AV.wfs M) (xs ys : Array Value) (hx : All2 (VR1 ρ) (AV.flats L) xs.toList) (hy : All2 (VR1 ρ) (AV.flats M) ys.toList) :
    ∀ (fs : List Field) (k : Nat) (r : Bool), evEqs P eq fs (Sh.sizes ((AV.shapes L).take k)) (L.drop k) (M.drop k) = some r →
      Sh.sizes ((AV.shapes M).take k) = Sh.sizes ((AV.shapes L).take k) → (Op.eqFields d xs ys fs).run P w = .ok r w
  | [], k, r, h, _ => by
    generalize hl : L.drop k = l at h
    generalize hm : M.drop k = m at h
    cases l <;> cases m <;> simp [evEqs] at h
    subst h
    rfl
  | f :: fs, k, r, h, hk => by
    generalize hl : L.drop k = l at h
    generalize hm : M.drop k = m at h
    cases l with
    | nil => simp [evEqs] at h
    | cons a l =>
    cases m with
    | nil => simp [evEqs] at h
    | cons b m =>
    simp only [evEqs] at h
    split at h <;> try (cases h; done)
    rename_i hc
    obtain ⟨h1, h2, h3, h4, h5, h6, h7⟩ := hc
    split at h <;> try (cases h; done)
    rename_i x y he hes
    cases h
    have hLk : L[k]? = some a := by have := congrArg (·[0]?) hl; simpa using this
    have hMk : M[k]? = some b := by have := congrArg (·[0]?) hm; simpa using this
    have hl' : L.drop (k + 1) = l := by rw [← List.drop_drop, hl]; rfl
    have hm' : M.drop (k + 1) = m := by rw [← List.drop_drop, hm]; rfl
    have haw : a.wf := (AV.wfs_iff L).1 hL a (List.mem_of_getElem? hLk)
    have hbw : b.wf := (AV.wfs_iff M).1 hM b (List.mem_of_getElem? hMk)
    obtain ⟨va, ra, hva⟩ := run_part' (P := P) (t := f.type) (o := f.offset) w (a := .agg L) (by simpa only [AV.flat] using hx) h7 haw h3 h5 (fun r hr => by
      rw [AV.flat, h2, AV.flats_at L hL k a hLk r hr])
    obtain ⟨vb, rb, hvb⟩ := run_part' (P := P) (t := f.type) (o := f.offset) w (a := .agg M) (by simpa only [AV.flat] using hy) h7 hbw h4 h6 (fun r hr => by
      rw [AV.flat, h2, ← hk, AV.flats_at M hM k b hMk r hr])
    have hre := ih f.type a b x va vb he hva hvb
    have hsz : Sh.sizes ((AV.shapes L).take (k + 1)) = Sh.sizes ((AV.shapes L).take k) + a.shape.size := by
      have hs : (AV.shapes L)[k]? = some a.shape := by rw [AV.shapes_get, hLk]; rfl
      rw [List.take_add_one, hs, Sh.sizes_append]; simp [Sh.sizes]
    have hsz' : Sh.sizes ((AV.shapes M).take (k + 1)) = Sh.sizes ((AV.shapes M).take k) + b.shape.size := by
      have hs : (AV.shapes M)[k]? = some b.shape := by rw [AV.shapes_get, hMk]; rfl
      rw [List.take_add_one, hs, Sh.sizes_append]; simp [Sh.sizes]
    have hrest := evEqs_ok eq ih L M hL hM xs ys hx hy fs (k + 1) y (by rw [hsz, hl', hm']; exact hes) (by rw [hsz, hsz', hk, h3, h4])
    simp only [Op.eqFields, h1, ne_eq, not_false_eq_true, if_true, Sem.run_bind, ra, rb, hre, Result.andThen_ok]
    cases x
    · simp
    · simpa using hrest

theorem evEq_ok {ok : List TypeId} (hok : EqOk P ok) {w : World} : ∀ (d e : Nat) (t : TypeId) (x y : AV) (r : Bool) (v v' : Value), evEq P ok d t x y = some r → VR2 ρ x v → VR2 ρ y v' → d ≤ e →
    (Op.equalIn e t v v').run P w = .ok r w
  | 0, _, _, _, _, _, _, _, h, _, _, _ => by simp [evEq] at h
  | d + 1, e, t, x, y, r, v, v', h, hx, hy, hde => by
    obtain ⟨e, rfl⟩ : ∃ e', e = e' + 1 := ⟨e - 1, by omega⟩
    simp only [evEq] at h
    split at h <;> try (cases h; done)
    case h_1 hu => cases h; cases hx; cases hy; exact run_equalIn_bool w e t _ _ hu
    case h_2 hu =>
      split at h <;> try (cases h; done)
      rename_i hk; subst hk
      cases h
      obtain ⟨rfl, _⟩ := hx
      obtain ⟨rfl, _⟩ := hy
      exact run_equalIn_int w e t _ _ _ _ hu
    case h_3 hu =>
      cases h; cases hx; cases hy
      rw [run_equalIn_string w e t _ _ hu, toList_mk, toList_mk]; rfl
    case h_4 hu => cases h; cases hx; cases hy; simp [Op.equalIn, run_underlying hu]
    case h_5 hu =>
      cases h; cases hx
      obtain ⟨_, _, _, _, _, rfl⟩ := hy
      simp [Op.equalIn, run_underlying hu]
    case h_6 hu =>
      cases h; cases hy
      obtain ⟨_, _, _, _, _, rfl⟩ := hx
      simp [Op.equalIn, run_underlying hu]
    case h_7 hu => cases h; cases hx; cases hy; simp [Op.equalIn, run_underlying hu]
    case h_8 hu =>
      cases h; cases hx
      obtain ⟨_, _, _, _, _, _, _, _, _, rfl, _⟩ := hy
      simp [Op.equalIn, run_underlying hu]
    case h_9 hu =>
      cases h; cases hy
      obtain ⟨_, _, _, _, _, _, _, _, _, rfl, _⟩ := hx
      simp [Op.equalIn, run_underlying hu]
    case h_10 hu => cases h; cases hx; cases hy; simp [Op.equalIn, run_underlying hu]
    case h_11 hu =>
      cases h; cases hx
      obtain ⟨_, rfl, _⟩ := hy
      simp [Op.equalIn, run_underlying hu]
    case h_12 hu =>
      cases h; cases hy
      obtain ⟨_, rfl, _⟩ := hx
      simp [Op.equalIn, run_underlying hu]
    case h_13 fs l m hu =>
      cases hk : ok.contains t with
      | false => rw [hk] at h; cases h
      | true =>
      rw [hk, cond_true] at h
      obtain ⟨hl, xs, rfl, hxs⟩ := hx
      obtain ⟨hm, ys, rfl, hys⟩ := hy
      have hf : P.fieldsOf t = fs := by simp [Program.fieldsOf, hu]
      rw [run_equalIn_struct w e t xs ys (by rw [hf]; exact hu) (hok t hk), hf]
      exact evEqs_ok (evEq P ok d) (fun t x y r v v' h hx hy => evEq_ok hok d e t x y r v v' h hx hy (by omega)) l m hl hm xs ys hxs hys fs.toList 0 r (by simpa [Sh.sizes] using h) (by simp)
    case h_14 n el n1 s f n2 s' g hu =>
      split at h <;> try (cases h; done)
      rename_i hc
      obtain ⟨rfl, rfl, c3, c4, c5, c6, c7, c8, c9⟩ := hc
      simp only [Option.some.injEq] at h
      subst h
      obtain ⟨hl, xs, rfl, hxs⟩ := hx
      obtain ⟨hm, ys, rfl, hys⟩ := hy
      obtain ⟨i, hi⟩ := Option.isSome_iff_exists.1 c7
      rw [run_equalIn_array w e xs ys hu hi]
      have key : ∀ (is : List Nat), (∀ j ∈ is, j < n2) → (Op.eqItems e el (P.cellsOf el) xs ys is).run P w = .ok (is.all fun i => (evEq P ok d el (f i) (g i)).getD false) w := by
        intro is
        induction is with
        | nil => intro _; rfl
        | cons j is ihj =>
          intro hj
          have hjn := hj j (by simp)
          obtain ⟨b, hb⟩ := Option.isSome_iff_exists.1 (List.all_eq_true.1 c9 j (List.mem_range.2 hjn))
          have wa := hl j
          have wb := hm j
          obtain ⟨va, ra, hva⟩ := run_part' (P := P) (t := el) (o := j * P.cellsOf el) w (a := .arr n2 s f) hxs c8 wa.1 (by rw [wa.2]; exact c3) (by rw [AV.isAgg_shape, wa.2]; exact c5) (fun r hr => by
            rw [AV.flat, ← c3]
            exact (flatMap_at n2 s.size (fun i => (f i).flat) (fun k _ => by rw [AV.flat_len _ (hl k).1, (hl k).2]) j r hjn (by rw [← wa.2]; exact hr)).symm)
          obtain ⟨vb, rb, hvb⟩ := run_part' (P := P) (t := el) (o := j * P.cellsOf el) w (a := .arr n2 s' g) hys c8 wb.1 (by rw [wb.2]; exact c4) (by rw [AV.isAgg_shape, wb.2]; exact c6) (fun r hr => by
            rw [AV.flat, ← c4]
            exact (flatMap_at n2 s'.size (fun i => (g i).flat) (fun k _ => by rw [AV.flat_len _ (hm k).1, (hm k).2]) j r hjn (by rw [← wb.2]; exact hr)).symm)
          have hre := evEq_ok hok (w := w) d e el (f j) (g j) b va vb hb hva hvb (by omega)
          simp only [Op.eqItems, Sem.run_bind, ra, rb, hre, Result.andThen_ok, List.all_cons, hb, Option.getD_some]
          cases b
          · simp
          · simpa using ihj fun k hk => hj k (by simp [hk])
      exact key (List.range n2) fun j hj => List.mem_range.1 hj

end
end Go.Ev
