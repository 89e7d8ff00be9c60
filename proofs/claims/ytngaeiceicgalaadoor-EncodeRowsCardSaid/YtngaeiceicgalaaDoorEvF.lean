/-
  The evaluator's operations that leave memory alone, all under one name; those that write. Own text; nothing of a program.
-/
import Derived.Test.YtngaeiceicgalaaDoorEvE
namespace Go.Ev
section
variable {P : Program} {ρ : Ren}

def evList (rd : Operand → Option AV) : List Operand → Option (List AV)
  | [] => some []
  | x :: r => match rd x, evList rd r with
    | some v, some l => some (v :: l)
    | _, _ => none

theorem evList_ok {rd : Operand → Option AV} {ev : Operand → Value} (hrd : ∀ x v, rd x = some v → VR3 ρ v (ev x)) : ∀ (xs : List Operand) (l : List AV), evList rd xs = some l → All2 (VR3 ρ) l (xs.map ev)
  | [], l, h => by cases h; trivial
  | x :: r, l, h => by
    simp only [evList] at h
    split at h <;> try (cases h; done)
    rename_i v l' hv hl
    cases h
    exact ⟨hrd x v hv, evList_ok hrd r l' hl⟩

/-- Both sides of '==', '!='. -/
def evEqOp (P : Program) (ok : List TypeId) (t : TypeId) (x y : AV) : Option Bool :=
  bif x.isAgg && !ok.contains t then none else evEq P ok 8 t x y

/-- Operations that leave memory alone: the condition under which all goes well, and what is yielded. -/
def evPure (P : Program) (ok : List TypeId) (m : Mem) (rd : Operand → Option AV) : Op → Option (Option Bool × AV)
  | .move x => match rd x with | some v => some (none, v) | none => none
  | .assign x => match rd x with | some v => some (none, v) | none => none
  | .nilCheck x => match rd x with
    | some (.pt id path root) => some (none, .pt id path root)
    | some (.fn f caps) => some (none, .fn f caps)
    | _ => none
  | .binOp op t x y _ => match rd x, rd y with
    | some (.it k a), some (.it k' b) => evArith op k a k' b
    | some (.st a), some (.st b) => match op with
      | .add => some (some (iLe (sLen a + sLen b) 9223372036854775807), .st (sCat a b))
      | .eql => some (none, .bl (sEq a b))
      | .neq => some (none, .bl (!sEq a b))
      | _ => none
    | some x, some y => match op with
      | .eql => match evEqOp P ok t x y with | some r => some (none, .bl r) | none => none
      | .neq => match evEqOp P ok t x y with | some r => some (none, .bl (!r)) | none => none
      | _ => none
    | _, _ => none
  | .unOp op _ x => match rd x with | some v => (match evUn op v with | some r => some (none, r) | none => none) | none => none
  | .convert s d x => match rd x with | some v => (match evConvert P m s d v with | some r => some (none, r) | none => none) | none => none
  | .makeFunc (.func f) first caps => match first.toList, evCaps rd caps.toList with
    | [], some l => some (none, .fn f l)
    | _, _ => none
  | .fieldAddr t x f => match rd x with | some v => (match evFieldAddr P m t v f with | some r => some (none, r) | none => none) | none => none
  | .field t x f => match rd x with | some v => (match evField P t v f with | some r => some (none, r) | none => none) | none => none
  | .indexAddr t x i => match rd x, rd i with | some v, some vi => evIndexAddr P m t v vi | _, _ => none
  | .index t x i => match rd x, rd i with | some v, some vi => evIndex P t v vi | _, _ => none
  | .extract x i => match rd x with | some v => (match evExtract v i with | some r => some (none, r) | none => none) | none => none
  | .load t x => match rd x with | some v => (match evLoad P m t v with | some r => some (none, r) | none => none) | none => none
  | .slice t x lo hi none => match rd x with
    | some v => evSlice P m t v (lo.map rd) (hi.map rd)
    | none => none
  | .call c => match c.callee with
    | .builtin b => match evList rd c.args.toList with
      | some l => (match evBuiltin P b c.argTypes l with | some r => some (none, r) | none => none)
      | none => none
    | _ => none
  | _ => none

theorem beq_bytes (a b : List UInt8) : ((⟨a.toArray⟩ : ByteArray).toList == (⟨b.toArray⟩ : ByteArray).toList) = (a == b) := by rw [toList_mk, toList_mk]

/-- The structs of 'ok' may be held against one another, the test on interfaces says nothing of them. -/
structure Fair (P : Program) (ok : List TypeId) : Prop where
  held : ∀ t, ok.contains t = true → P.stoodInHeld t = false
  guard : ∀ t, ok.contains t = true → P.eqGuardType P.depth t = false

theorem evEqOp_ok {ok : List TypeId} (hok : Fair P ok) {w : World} {t : TypeId} {x y : AV} {r : Bool} {vx vy : Value} {ox oy : Operand}
    (h : evEqOp P ok t x y = some r) (hx : VR3 ρ x vx) (hy : VR3 ρ y vy)
    (hn : ∀ (k : IntKind) (a : Int) (k' : IntKind) (b : Int), x = .it k a → y = .it k' b → False) (hs : ∀ (a b : List UInt8), x = .st a → y = .st b → False) :
    (eqGuard .eql t ox oy vx vy).run P w = .ok () w ∧ (eqGuard .neq t ox oy vx vy).run P w = .ok () w ∧
    (binOp .eql t vx vy).run P w = .ok (.bool r) w ∧ (binOp .neq t vx vy).run P w = .ok (.bool (!r)) w := by
  unfold evEqOp at h
  cases hb : x.isAgg && !ok.contains t with
  | true => rw [hb] at h; cases h
  | false =>
  rw [hb, cond_false] at h
  have key : VR2 ρ x vx → VR2 ρ y vy → (Op.equal t vx vy).run P w = .ok r w := fun hx hy => evEq_ok hok.held (w := w) 8 10000 t x y r vx vy h hx hy (by omega)
  simp only [evEq] at h
  split at h <;> try (cases h; done)
  case h_1 => cases hx; cases hy; have := key rfl rfl; simp [eqGuard, binOp, this]
  case h_2 => exact (hn _ _ _ _ rfl rfl).elim
  case h_3 => exact (hs _ _ rfl rfl).elim
  case h_4 => cases hx; cases hy; have := key rfl rfl; simp [eqGuard, binOp, this]
  case h_5 =>
    cases hx
    have := key rfl hy
    obtain ⟨_, _, _, _, _, rfl⟩ := hy
    simp [eqGuard, binOp, this]
  case h_6 =>
    cases hy
    have := key hx rfl
    obtain ⟨_, _, _, _, _, rfl⟩ := hx
    simp [eqGuard, binOp, this]
  case h_7 => cases hx; cases hy; have := key rfl rfl; simp [eqGuard, binOp, this]
  case h_8 =>
    cases hx
    have := key rfl hy
    obtain ⟨_, _, _, _, _, _, _, _, _, rfl, _⟩ := hy
    simp [eqGuard, binOp, this]
  case h_9 =>
    cases hy
    have := key hx rfl
    obtain ⟨_, _, _, _, _, _, _, _, _, rfl, _⟩ := hx
    simp [eqGuard, binOp, this]
  case h_10 => cases hx; cases hy; have := key rfl rfl; simp [eqGuard, binOp, this]
  case h_11 =>
    cases hx
    have := key rfl hy
    obtain ⟨_, rfl, _⟩ := hy
    simp [eqGuard, binOp, this]
  case h_12 =>
    cases hy
    have := key hx rfl
    obtain ⟨_, rfl, _⟩ := hx
    simp [eqGuard, binOp, this]
  case h_13 =>
    have hg := hok.guard t (by simpa [AV.isAgg] using hb)
    have hk := key hx hy
    obtain ⟨_, cs, rfl, _⟩ := hx
    obtain ⟨_, cs', rfl, _⟩ := hy
    exact ⟨run_eqGuard_agg w .eql t ox oy cs cs' hg, run_eqGuard_agg w .neq t ox oy cs cs' hg, by simp [binOp, hk], by simp [binOp, hk]⟩
  case h_14 =>
    have hg := hok.guard t (by simpa [AV.isAgg] using hb)
    have hk := key hx hy
    obtain ⟨_, cs, rfl, _⟩ := hx
    obtain ⟨_, cs', rfl, _⟩ := hy
    exact ⟨run_eqGuard_agg w .eql t ox oy cs cs' hg, run_eqGuard_agg w .neq t ox oy cs cs' hg, by simp [binOp, hk], by simp [binOp, hk]⟩

theorem cond_of {c : Bool} (h : some c = none ∨ some c = some true) : c = true := by simpa using h

theorem run_strings {w : World} {t : TypeId} {ox oy : Operand} (a b : List UInt8) (op : BinOp) :
    (eqGuard op t ox oy (.string ⟨a.toArray⟩) (.string ⟨b.toArray⟩)).run P w = .ok () w := by cases op <;> simp [eqGuard]

theorem evPure_ok {ok : List TypeId} (hok : Fair P ok) {A : Nat → Prop} {w : World} {m : Mem} (hR : Rep ρ A m w) {rd : Operand → Option AV} {ev : Operand → Value}
    (hrd : ∀ x v, rd x = some v → VR3 ρ v (ev x)) {o : Oper} {c : Option Bool} {r : AV} (h : evPure P ok m rd o.op = some (c, r)) (hc : c = none ∨ c = some true) :
    ∃ rv, (execOp ev o).run P w = .ok (.value rv) w ∧ VR3 ρ r rv := by
  unfold evPure at h
  unfold execOp
  have lift : ∀ {s : Sem Value} {rv : Value}, s.run P w = .ok rv w → (do pure (Next.value (← s)) : Sem Next).run P w = .ok (.value rv) w := fun {s rv} hs => by simp [hs]
  split at h <;> try (cases h; done)
  case h_1 x hop =>
    split at h <;> try (cases h; done)
    rename_i v hv
    cases h
    exact ⟨_, by rw [hop]; rfl, hrd _ _ hv⟩
  case h_2 x hop =>
    split at h <;> try (cases h; done)
    rename_i v hv
    cases h
    exact ⟨_, by rw [hop]; rfl, hrd _ _ hv⟩
  case h_3 x hop =>
    split at h <;> try (cases h; done)
    · rename_i id path root hv
      cases h
      have := hrd _ _ hv
      obtain ⟨h1, hrt, s, o', hp, he⟩ := this
      exact ⟨_, by rw [hop]; simp only [he]; rfl, h1, hrt, s, o', hp, rfl⟩
    · rename_i f caps hv
      cases h
      have := hrd _ _ hv
      obtain ⟨cs, he, hcs⟩ := this
      exact ⟨_, by rw [hop]; simp only [he]; rfl, cs, rfl, hcs⟩
  case h_4 op t x y yt hop =>
    rw [hop]
    dsimp only
    split at h <;> try (cases h; done)
    · rename_i k a k' b hx hy
      obtain ⟨ex, ha⟩ := hrd _ _ hx
      obtain ⟨ey, hb⟩ := hrd _ _ hy
      obtain ⟨rv, hr, hv⟩ := evArith_ok (P := P) (ρ := ρ) (t := t) (w := w) h hc ha hb
      exact ⟨rv, lift (by rw [ex, ey]; simp [run_eqGuard_int, hr]), hv⟩
    · rename_i a b hx hy
      have ex := hrd _ _ hx
      have ey := hrd _ _ hy
      simp only [VR3, VR2, VR1] at ex ey
      split at h <;> try (cases h; done)
      · cases h
        have hlen := cond_of hc
        have hlen := of_decide_eq_true hlen
        simp only [sLen] at hlen
        refine ⟨_, lift (by rw [ex, ey]; simp only [Sem.run_bind, run_strings, Result.andThen_ok, binOp, Op.stringOp]; rw [if_neg (by simp [ByteArray.size, IntKind.max, IntKind.signed, IntKind.bits]; omega)]; rfl), ?_⟩
        show Value.string _ = _
        congr 1
      · cases h
        refine ⟨_, lift (by rw [ex, ey]; simp only [Sem.run_bind, run_strings, Result.andThen_ok, binOp, Op.stringOp, beq_bytes]; rfl), rfl⟩
      · cases h
        refine ⟨_, lift (by rw [ex, ey]; simp only [Sem.run_bind, run_strings, Result.andThen_ok, binOp, Op.stringOp, beq_bytes]; rfl), rfl⟩
    · rename_i x' y' hn hs hx hy
      have ex := hrd _ _ hx
      have ey := hrd _ _ hy
      split at h <;> try (cases h; done)
      · split at h <;> try (cases h; done)
        rename_i r' hr
        cases h
        obtain ⟨g1, _, g3, _⟩ := evEqOp_ok (ox := x) (oy := y) hok (w := w) hr ex ey hn hs
        exact ⟨_, lift (by simp only [Sem.run_bind, g1, Result.andThen_ok, g3]), rfl⟩
      · split at h <;> try (cases h; done)
        rename_i r' hr
        cases h
        obtain ⟨_, g2, _, g4⟩ := evEqOp_ok (ox := x) (oy := y) hok (w := w) hr ex ey hn hs
        exact ⟨_, lift (by simp only [Sem.run_bind, g2, Result.andThen_ok, g4]), rfl⟩
  case h_5 op t x hop =>
    rw [hop]
    split at h <;> try (cases h; done)
    rename_i v hv
    split at h <;> try (cases h; done)
    rename_i r' hr
    cases h
    obtain ⟨rv, g1, g2⟩ := evUn_ok (P := P) (w := w) hr (hrd _ _ hv)
    exact ⟨rv, lift g1, g2⟩
  case h_6 s d x hop =>
    rw [hop]
    split at h <;> try (cases h; done)
    rename_i v hv
    split at h <;> try (cases h; done)
    rename_i r' hr
    cases h
    obtain ⟨rv, g1, g2⟩ := evConvert_ok hR hr (hrd _ _ hv)
    exact ⟨rv, lift g1, g2⟩
  case h_7 f first caps hop =>
    rw [hop]
    split at h <;> try (cases h; done)
    rename_i l hf hl
    cases h
    have hfe : first = #[] := by apply Array.ext'; simpa using hf
    subst hfe
    refine ⟨_, rfl, caps.map ev, by simp, ?_⟩
    rw [Array.toList_map]
    exact evCaps_ok hrd _ _ hl
  case h_8 t x f hop =>
    rw [hop]
    split at h <;> try (cases h; done)
    rename_i v hv
    split at h <;> try (cases h; done)
    rename_i r' hr
    cases h
    obtain ⟨rv, g1, g2⟩ := evFieldAddr_ok hR hr (hrd _ _ hv)
    exact ⟨rv, lift g1, g2⟩
  case h_9 t x f hop =>
    rw [hop]
    split at h <;> try (cases h; done)
    rename_i v hv
    split at h <;> try (cases h; done)
    rename_i r' hr
    cases h
    obtain ⟨rv, g1, g2⟩ := evField_ok (w := w) hr (hrd _ _ hv)
    exact ⟨rv, lift g1, g2⟩
  case h_10 t x i hop =>
    rw [hop]
    split at h <;> try (cases h; done)
    rename_i v vi hv hvi
    obtain ⟨rv, g1, g2⟩ := evIndexAddr_ok hR h hc (hrd _ _ hv) (hrd _ _ hvi)
    exact ⟨rv, lift g1, g2⟩
  case h_11 t x i hop =>
    rw [hop]
    split at h <;> try (cases h; done)
    rename_i v vi hv hvi
    obtain ⟨rv, g1, g2⟩ := evIndex_ok (w := w) h hc (hrd _ _ hv) (hrd _ _ hvi)
    exact ⟨rv, lift g1, g2⟩
  case h_12 x i hop =>
    rw [hop]
    split at h <;> try (cases h; done)
    rename_i v hv
    split at h <;> try (cases h; done)
    rename_i r' hr
    cases h
    obtain ⟨rv, g1, g2⟩ := evExtract_ok (P := P) (w := w) hr (hrd _ _ hv)
    exact ⟨rv, lift g1, g2⟩
  case h_13 t x hop =>
    rw [hop]
    split at h <;> try (cases h; done)
    rename_i v hv
    split at h <;> try (cases h; done)
    rename_i r' hr
    cases h
    obtain ⟨rv, g1, g2⟩ := evLoad_ok hR hr (hrd _ _ hv)
    exact ⟨rv, lift g1, g2⟩
  case h_14 t x lo hi hop =>
    rw [hop]
    split at h <;> try (cases h; done)
    rename_i v hv
    have hb : ∀ (b : Option Operand), BoundR ρ (b.map rd) (b.map ev) := by
      intro b
      cases b with
      | none => trivial
      | some y =>
        simp only [Option.map_some]
        cases hy : rd y with
        | none => trivial
        | some a => exact hrd _ _ hy
    obtain ⟨rv, g1, g2⟩ := evSlice_ok hR h hc (hrd _ _ hv) (hb lo) (hb hi)
    exact ⟨rv, lift g1, g2⟩
  case h_15 c' hop =>
    rw [hop]
    dsimp only
    split at h <;> try (cases h; done)
    rename_i b hcal
    split at h <;> try (cases h; done)
    rename_i l hl
    split at h <;> try (cases h; done)
    rename_i r' hr
    cases h
    have ha := evList_ok hrd _ _ hl
    simp only [resolve, hcal, Sem.run_bind, Sem.run_pure, Result.andThen_ok, invoke]
    obtain ⟨rv, g1, g2⟩ := evBuiltin_ok (P := P) (w := w) (t := o.type) (cs := c'.args.map fun | .const _ => true | _ => false) hr ha
    refine ⟨rv, ?_, g2⟩
    rw [← g1]
    congr 2
    apply Array.ext'; simp

end
end Go.Ev
