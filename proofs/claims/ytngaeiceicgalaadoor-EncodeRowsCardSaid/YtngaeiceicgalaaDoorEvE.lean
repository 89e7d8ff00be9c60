/-
  The evaluator's operations that leave memory alone (third part), all under one name. Own text; nothing of a program.
-/
import Derived.Test.YtngaeiceicgalaaDoorEvD
namespace Go.Ev
section
variable {P : Program} {ρ : Ren}

def evExtract (x : AV) (i : Nat) : Option AV :=
  match x with
  | .tup l => l[i]?
  | _ => none

theorem evExtract_ok {w : World} {x c : AV} {i : Nat} {v : Value} (h : evExtract x i = some c) (hx : VR3 ρ x v) :
    ∃ rv, (Instr.extract v i).run P w = .ok rv w ∧ VR3 ρ c rv := by
  unfold evExtract at h
  split at h <;> try (cases h; done)
  rename_i l
  obtain ⟨vs, rfl, hvs⟩ := hx
  obtain ⟨rv, hr, hv⟩ := hvs.get h
  rw [Array.getElem?_toList] at hr
  exact ⟨rv, by simp [Instr.extract, hr], VR3_of_VR2 hv⟩

def evUn (op : UnOp) (x : AV) : Option AV :=
  match op, x with
  | .neg, .it k n => some (.it k (iSub k 0 n))
  | .xor, .it k n => some (.it k (iXor k (if k.signed then -1 else k.max) n))
  | .not, .bl b => some (.bl (!b))
  | _, _ => none

theorem evUn_ok {w : World} {op : UnOp} {x c : AV} {v : Value} (h : evUn op x = some c) (hx : VR3 ρ x v) :
    ∃ rv, (Op.unary op v).run P w = .ok rv w ∧ VR3 ρ c rv := by
  unfold evUn at h
  split at h <;> try (cases h; done)
  · cases h; obtain ⟨rfl, _⟩ := hx
    exact ⟨_, rfl, VR3_mk_it rfl fun hk => wrap_nonneg hk _⟩
  · cases h; obtain ⟨rfl, _⟩ := hx
    exact ⟨_, rfl, VR3_mk_it rfl fun hk => wrap_nonneg hk _⟩
  · cases h; cases hx
    exact ⟨_, rfl, rfl⟩

/-- The number in a value. -/
def AV.num : AV → Int
  | .it _ n => n
  | _ => 0

def bytesOf (f : Nat → AV) (lo len : Nat) : List UInt8 := (List.range len).map fun j => UInt8.ofNat (f (lo + j)).num.toNat

def evConvert (P : Program) (m : Mem) (src dst : TypeId) (x : AV) : Option AV :=
  match P.underlying src, P.underlying dst, x with
  | some _, some (.int k), .it _ n => some (.it k (iConv k n))
  | some _, some .string, .st l => some (.st l)
  | some (.slice e), some .string, .nsl => match P.underlying e with
    | some (.int .u8) => some (.st [])
    | _ => none
  | some (.slice e), some .string, .sl id path lo len _ => match P.underlying e with
    | some (.int .u8) => match m.get id with
      | some (.cells tr _) => match AV.get path tr with
        | some (.arr _ (.int .u8) f) => some (.st (bytesOf f lo len))
        | _ => none
      | _ => none
    | _ => none
  | _, _, _ => none

theorem loop_bytes {w : World} (g : Value → ByteArray → Sem (ForInStep ByteArray)) (hg : ∀ n r, (g (.int .u8 n) r).run P w = .ok (.yield (r.push (UInt8.ofNat n.toNat))) w)
    (cs : List Value) (ns : List Int) (h : cs = ns.map (Value.int .u8)) (acc : ByteArray) :
    (forIn cs acc g : Sem ByteArray).run P w = .ok ⟨acc.data ++ (ns.map fun n => UInt8.ofNat n.toNat).toArray⟩ w := by
  subst h
  induction ns generalizing acc with
  | nil => simp
  | cons n ns ih =>
    simp only [List.map_cons, List.forIn_cons, Sem.run_bind, hg, Result.andThen_ok]
    rw [ih]
    congr 2
    simp [ByteArray.push]

theorem evConvert_ok {A : Nat → Prop} {w : World} {m : Mem} (hR : Rep ρ A m w) {src dst : TypeId} {x c : AV} {v : Value} (h : evConvert P m src dst x = some c) (hx : VR3 ρ x v) :
    ∃ rv, (convert src dst v).run P w = .ok rv w ∧ VR3 ρ c rv := by
  unfold evConvert at h
  split at h <;> try (cases h; done)
  · rename_i d k k' n hs hd
    cases h; obtain ⟨rfl, _⟩ := hx
    exact ⟨_, by simp [convert, run_underlying hs, run_underlying hd, Conv.intToInt]; rfl, VR3_mk_it rfl fun hk => wrap_nonneg hk _⟩
  · rename_i d l hs hd
    cases h; cases hx
    exact ⟨_, by simp [convert, run_underlying hs, run_underlying hd], rfl⟩
  · rename_i e hs hd
    split at h <;> try (cases h; done)
    rename_i he
    cases h; cases hx
    exact ⟨_, by simp only [convert, Sem.run_bind, run_underlying hs, run_underlying hd, run_underlying he, Conv.bytesToString, Result.andThen_ok]; rfl, rfl⟩
  · rename_i e id path lo len tip hs hd
    split at h <;> try (cases h; done)
    rename_i he
    split at h <;> try (cases h; done)
    rename_i tr wr hid
    split at h <;> try (cases h; done)
    rename_i n f hg
    cases h
    obtain ⟨h1, n', s', o, off, cp, hp, hn, hcp, rfl, hoff, _⟩ := hx
    obtain ⟨hlt, hsh, hwf, _, hcell, _⟩ := hR.blk id _ hid
    rw [hsh] at hp
    obtain ⟨c', hg', hcw, hcs, hcf⟩ := AV.get_ok hwf hp
    rw [hg] at hg'; cases hg'
    cases hcs
    have hnum : ∀ j, j < n → f j = .it .u8 (f j).num := fun j _ => by
      have := (hcw j).2
      cases hfj : f j <;> rw [hfj] at this <;> simp [AV.shape] at this
      subst this; rfl
    have hrow : ∀ j, j < len → w.cell? ((⟨ρ.bb id, off, none⟩ : Addr).add j) = some (.int .u8 (f (lo + j)).num) := fun j hj => by
      have hlo : lo + j < n := by omega
      have h2 := hcf (lo + j) (by simp [Sh.size]; omega)
      have h3 := flatMap_at n 1 (fun i => (f i).flat) (fun k hk => by rw [hnum k hk]; rfl) (lo + j) 0 hlo (by omega)
      simp only [AV.flat, Nat.mul_one, Nat.add_zero] at h2 h3
      rw [h3] at h2
      rw [hnum _ hlo] at h2
      obtain ⟨rv, g1, g2⟩ := hcell _ _ (by rw [← h2]; rfl)
      obtain ⟨rfl, _⟩ := g2
      rw [Addr.add_off, hoff (by omega)]
      simp only [Sh.size, Nat.mul_one]
      rw [← g1]; congr 2; omega
    have hl := run_loadCells (P := P) w ⟨ρ.bb id, off, none⟩ len (fun j => .int .u8 (f (lo + j)).num) hrow
    refine ⟨.string ⟨(bytesOf f lo len).toArray⟩, ?_, rfl⟩
    simp only [convert, Sem.run_bind, run_underlying hs, run_underlying hd, run_underlying he, Result.andThen_ok, Conv.bytesToString, hl]
    simp only [← Array.forIn_toList]
    rw [loop_bytes (P := P) (w := w) _ (fun n r => rfl) ((List.range len).map fun j => Value.int .u8 (f (lo + j)).num) ((List.range len).map fun j => (f (lo + j)).num) (by simp) ByteArray.empty]
    simp [bytesOf]

def evCaps (rd : Operand → Option AV) : List Operand → Option (List AV)
  | [] => some []
  | x :: r => match rd x, evCaps rd r with
    | some v, some l => if v.isAgg = false ∧ v.isVal = true then some (v :: l) else none
    | _, _ => none

theorem evCaps_ok {rd : Operand → Option AV} {ev : Operand → Value} (hrd : ∀ x v, rd x = some v → VR3 ρ v (ev x)) : ∀ (xs : List Operand) (l : List AV), evCaps rd xs = some l → VR1s ρ l (xs.map ev)
  | [], l, h => by cases h; trivial
  | x :: r, l, h => by
    simp only [evCaps] at h
    split at h <;> try (cases h; done)
    rename_i v l' hv hl
    split at h <;> try (cases h; done)
    rename_i hc
    cases h
    refine ⟨?_, evCaps_ok hrd r l' hl⟩
    have := hrd x v hv
    have hnt : ∀ l, v ≠ .tup l := fun l he => by subst he; simp [AV.isVal] at hc
    rw [VR3_val hnt, VR2_scalar hc.1] at this
    exact this

/-- The bounds of a slice expression. -/
def evBound (d : Int) : Option (Option AV) → Option Int
  | none => some d
  | some (some (.it _ n)) => some n
  | _ => none

def evSlice (P : Program) (m : Mem) (t : TypeId) (x : AV) (lo hi : Option (Option AV)) : Option (Option Bool × AV) :=
  match P.underlying t, x with
  | some .string, .st l => match evBound 0 lo, evBound (sLen l) hi with
    | some a, some b => some (some (iLe 0 a && (iLe a b && iLe b (sLen l))), .st (sCut l a b))
    | _, _ => none
  | some (.slice e), .sl id path off len tip => match evBound 0 lo, evBound len hi, shAt m id path with
    | some a, some b, some (.arr _ s) =>
      if s.size = P.cellsOf e ∧ (P.info? e).isSome = true then some (some (iLe 0 a && (iLe a b && iLe b len)), .sl id path (a.toNat + off) (b.toNat - a.toNat) (tip && hi.isNone)) else none
    | _, _, _ => none
  | some (.slice e), .nsl => match evBound 0 lo, evBound 0 hi with
    | some a, some b => if (P.info? e).isSome = true then some (some (iEq a 0 && iEq b 0), .nsl) else none
    | _, _ => none
  | some (.array n e), .pt id path root => match evBound 0 lo, evBound n hi, root.at path with
    | some a, some b, some (.arr n' s) =>
      if n' = n ∧ s.size = P.cellsOf e ∧ (P.info? e).isSome = true then some (some (iLe 0 a && (iLe a b && iLe b n)), .sl id path a.toNat (b.toNat - a.toNat) false) else none
    | _, _, _ => none
  | _, _ => none


/-- What a bound's operand is. -/
def BoundR (ρ : Ren) : Option (Option AV) → Option Value → Prop
  | none, none => True
  | some none, some _ => True
  | some (some a), some v => VR3 ρ a v
  | _, _ => False

theorem run_sliceBound {w : World} {k : IntKind} {i : Int} {y : Nat} {code : BoundsCode} (h0 : 0 ≤ i) (h1 : i ≤ y) :
    (Instr.sliceBound (.int k i) y code).run P w = .ok i.toNat w := by
  simp [Instr.sliceBound, asIntOf, h0, h1]

theorem evBound_ok {d : Int} {x : Option (Option AV)} {v : Option Value} {a : Int} (h : evBound d x = some a) (hr : BoundR ρ x v) :
    (x = none ∧ v = none ∧ a = d) ∨ ∃ k, v = some (.int k a) := by
  cases x with
  | none =>
    cases v with
    | none => simp [evBound] at h; exact .inl ⟨rfl, rfl, h.symm⟩
    | some v => exact hr.elim
  | some x =>
    cases v with
    | none => cases x <;> exact hr.elim
    | some v =>
      cases x with
      | none => simp [evBound] at h
      | some a' =>
        cases a' <;> simp [evBound] at h
        subst h
        exact .inr ⟨_, by rw [hr.1]⟩

theorem run_sliceBounds {w : World} {lo hi : Option (Option AV)} {vlo vhi : Option Value} {a b : Int} {isSlice : Bool} {len cap : Nat}
    (ha : evBound 0 lo = some a) (hb : evBound len hi = some b) (hlo : BoundR ρ lo vlo) (hhi : BoundR ρ hi vhi) (h0 : 0 ≤ a) (h1 : a ≤ b) (h2 : b ≤ len) (hcap : len ≤ cap) :
    (Instr.sliceBounds isSlice len cap vlo vhi none).run P w = .ok (a.toNat, b.toNat, cap) w := by
  have hb0 : 0 ≤ b := by omega
  rcases evBound_ok ha hlo with ⟨_, rfl, rfl⟩ | ⟨k, rfl⟩ <;> rcases evBound_ok hb hhi with ⟨_, rfl, rfl⟩ | ⟨k', rfl⟩
  · simp [Instr.sliceBounds]
  · simp only [Instr.sliceBounds, Sem.run_bind, Sem.run_pure, Result.andThen_ok, run_sliceBound (P := P) (w := w) (k := k') hb0 (show b ≤ (cap : Int) by omega)]
    rfl
  · simp only [Instr.sliceBounds, Sem.run_bind, Sem.run_pure, Result.andThen_ok, Option.isSome_none, Bool.false_eq_true, if_false, run_sliceBound (P := P) (w := w) (k := k) (y := len) h0 h1]
    simp
  · simp only [Instr.sliceBounds, Sem.run_bind, Sem.run_pure, Result.andThen_ok, Option.isSome_none, Bool.false_eq_true, if_false, run_sliceBound (P := P) (w := w) (k := k') hb0 (show b ≤ (cap : Int) by omega),
      run_sliceBound (P := P) (w := w) (k := k) (y := b.toNat) h0 (by omega)]

theorem evSlice_ok {A : Nat → Prop} {w : World} {m : Mem} (hR : Rep ρ A m w) {t : TypeId} {x r : AV} {lo hi : Option (Option AV)} {c : Option Bool} {v : Value} {vlo vhi : Option Value}
    (h : evSlice P m t x lo hi = some (c, r)) (hc : c = none ∨ c = some true) (hx : VR3 ρ x v) (hlo : BoundR ρ lo vlo) (hhi : BoundR ρ hi vhi) :
    ∃ rv, (Instr.sliceAt t v vlo vhi none).run P w = .ok rv w ∧ VR3 ρ r rv := by
  unfold evSlice at h
  split at h <;> try (cases h; done)
  · rename_i l hu
    split at h <;> try (cases h; done)
    rename_i a b ha hb
    simp only [Option.some.injEq, Prod.mk.injEq] at h
    obtain ⟨rfl, rfl⟩ := h
    simp [iLe, sLen] at hc
    cases hx
    have hsz : (⟨l.toArray⟩ : ByteArray).size = l.length := by simp [ByteArray.size]
    have hb' : evBound ((l.length : Nat) : Int) hi = some b := hb
    have := run_sliceBounds (P := P) (w := w) (isSlice := false) (cap := l.length) ha hb' hlo hhi hc.1 hc.2.1 (of_decide_eq_true hc.2.2) (Nat.le_refl _)
    refine ⟨_, by simp only [Instr.sliceAt, Instr.slice, Sem.run_bind, run_underlying hu, Result.andThen_ok, Option.isSome_none, Bool.false_eq_true, if_false, Sem.run_pure, hsz, this]; rfl, ?_⟩
    show Value.string _ = _
    congr 1
    apply ByteArray.ext
    apply Array.ext'
    simp [sCut, List.drop_take]
  · rename_i e id path off len tip hu
    split at h <;> try (cases h; done)
    rename_i a b n s ha hb hsh
    split at h <;> try (cases h; done)
    rename_i hcc
    simp only [Option.some.injEq, Prod.mk.injEq] at h
    obtain ⟨rfl, rfl⟩ := h
    simp [iLe] at hc
    obtain ⟨c1, c2⟩ := hcc
    obtain ⟨inf, hinf⟩ := Option.isSome_iff_exists.1 c2
    obtain ⟨h1, n', s', o, of, cp, hp, hn, hcp, rfl, hoff, htip⟩ := hx
    have := shAt_ok hR hsh hp
    cases this
    have hbd := run_sliceBounds (P := P) (w := w) (isSlice := true) (cap := cp) ha hb hlo hhi hc.1 hc.2.1 hc.2.2 hcp
    refine ⟨_, by simp only [Instr.sliceAt, Instr.slice, Sem.run_bind, run_underlying hu, Result.andThen_ok, hbd, run_sizeOf w hinf, Sem.run_pure]; rfl, ?_⟩
    have hopt : (if cp = a.toNat then some (⟨ρ.bb id, of, none⟩ : Addr) else (some ⟨ρ.bb id, of, none⟩ : Option Addr).map (·.add (a.toNat * P.cellsOf e))) = some ⟨ρ.bb id, if cp = a.toNat then of else of + a.toNat * P.cellsOf e, none⟩ := by
      by_cases hq : cp = a.toNat
      · rw [if_pos hq, if_pos hq]
      · rw [if_neg hq, if_neg hq]; simp [Addr.add_off]
    rw [hopt]
    refine ⟨h1, n, s, o, _, cp - a.toNat, hp, by omega, by omega, rfl, fun hpos => ?_, fun ht => ?_⟩
    · rw [if_neg (by omega), hoff (by omega), ← c1, Nat.add_mul]; omega
    · simp only [Bool.and_eq_true] at ht
      obtain ⟨g1, g2, g3⟩ := htip ht.1
      have hbl : b = len := by
        rcases evBound_ok hb hhi with ⟨_, _, h⟩ | ⟨k, hk⟩
        · exact h
        · cases hi with
          | none => subst hk; exact hhi.elim
          | some _ => simp at ht
      refine ⟨g1, by omega, fun hpos => ?_⟩
      have := g3 (by omega)
      have he : a.toNat + off + (cp - a.toNat) = off + cp := by omega
      rw [he]; exact this
  · rename_i e hu
    split at h <;> try (cases h; done)
    rename_i a b ha hb
    split at h <;> try (cases h; done)
    rename_i hcc
    simp only [Option.some.injEq, Prod.mk.injEq] at h
    obtain ⟨rfl, rfl⟩ := h
    simp [iEq] at hc
    obtain ⟨rfl, rfl⟩ := hc
    obtain ⟨inf, hinf⟩ := Option.isSome_iff_exists.1 hcc
    cases hx
    have hbd := run_sliceBounds (P := P) (w := w) (isSlice := true) (cap := 0) (len := 0) ha hb hlo hhi (Int.le_refl _) (Int.le_refl _) (Int.le_refl _) (Nat.le_refl _)
    exact ⟨_, by simp only [Instr.sliceAt, Instr.slice, Sem.run_bind, run_underlying hu, Result.andThen_ok, hbd, run_sizeOf w hinf, Sem.run_pure]; rfl, rfl⟩
  · rename_i n e id path root hu
    split at h <;> try (cases h; done)
    rename_i a b n' s ha hb hsh
    split at h <;> try (cases h; done)
    rename_i hcc
    simp only [Option.some.injEq, Prod.mk.injEq] at h
    obtain ⟨rfl, rfl⟩ := h
    simp [iLe] at hc
    obtain ⟨rfl, c1, c2⟩ := hcc
    obtain ⟨inf, hinf⟩ := Option.isSome_iff_exists.1 c2
    obtain ⟨h1, hrt, s', o, hp, rfl⟩ := hx
    have : Sh.arr n' s = s' := by
      have := hp.at
      rw [hrt, hsh] at this; exact Option.some.inj this
    subst this
    have hbd := run_sliceBounds (P := P) (w := w) (isSlice := false) (cap := n') ha hb hlo hhi hc.1 hc.2.1 hc.2.2 (Nat.le_refl _)
    refine ⟨_, by simp only [Instr.sliceAt, Instr.sureAddr, Sem.run_bind, run_underlying hu, Result.andThen_ok, hbd, run_sizeOf w hinf, Sem.run_pure]; rfl, ?_⟩
    refine ⟨h1, n', s, o, _, n' - a.toNat, hp, by omega, by omega, by congr 2; rw [show (if n' = a.toNat then (⟨ρ.bb id, ρ.bo id + o, none⟩ : Addr) else Addr.add ⟨ρ.bb id, ρ.bo id + o, none⟩ (a.toNat * P.cellsOf e)) = ⟨ρ.bb id, if n' = a.toNat then ρ.bo id + o else ρ.bo id + o + a.toNat * P.cellsOf e, none⟩ by split <;> simp [Addr.add_off]], fun hpos => ?_, fun ht => by cases ht⟩
    rw [if_neg (by omega), ← c1]

/-- Builtins that leave memory alone. -/
def evBuiltin (P : Program) (b : Builtin) (ts : Array TypeId) (args : List AV) : Option AV :=
  match b, args with
  | .len, [x] => match ts[0]? with
    | some t => match P.underlying t, x with
      | some .string, .st l => some (.it .i64 (sLen l))
      | some (.array n _), _ => some (.it .i64 n)
      | some (.slice _), .sl _ _ _ len _ => some (.it .i64 len)
      | some (.slice _), .nsl => some (.it .i64 0)
      | _, _ => none
    | none => none
  | .max, [.it k x, .it k' y] => if k = k' then some (.it k (iMax x y)) else none
  | .min, [.it k x, .it k' y] => if k = k' then some (.it k (iMin x y)) else none
  | _, _ => none

theorem evBuiltin_ok {w : World} {b : Builtin} {ts : Array TypeId} {t : TypeId} {cs : Array Bool} {args : List AV} {vs : List Value} {r : AV}
    (h : evBuiltin P b ts args = some r) (ha : All2 (VR3 ρ) args vs) :
    ∃ rv, (builtin b ts t cs vs.toArray).run P w = .ok (.value rv) w ∧ VR3 ρ r rv := by
  unfold evBuiltin at h
  split at h <;> try (cases h; done)
  · rename_i x
    obtain ⟨v, rfl, hx⟩ : ∃ v, vs = [v] ∧ VR3 ρ x v := by
      cases vs with
      | nil => exact ha.elim
      | cons v vs => cases vs with
        | nil => exact ⟨v, rfl, ha.1⟩
        | cons => exact ha.2.elim
    split at h <;> try (cases h; done)
    rename_i t ht
    split at h <;> try (cases h; done)
    · rename_i l hu
      cases h; cases hx
      exact ⟨_, by simp [builtin, Builtin.len_, ht, run_underlying hu]; rfl, VR3_mk_it (by simp [sLen, ByteArray.size]) fun hk => by cases hk⟩
    · rename_i n e hu
      cases h
      exact ⟨_, by simp [builtin, Builtin.len_, ht, run_underlying hu]; rfl, VR3_mk_it rfl fun hk => by cases hk⟩
    · rename_i e id path lo len tip hu
      cases h
      obtain ⟨_, _, _, _, _, _, _, _, _, rfl, _⟩ := hx
      exact ⟨_, by simp [builtin, Builtin.len_, ht, run_underlying hu]; rfl, VR3_mk_it rfl fun hk => by cases hk⟩
    · rename_i e hu
      cases h; cases hx
      exact ⟨_, by simp [builtin, Builtin.len_, ht, run_underlying hu]; rfl, VR3_mk_it rfl fun hk => by cases hk⟩
  · rename_i k x k' y
    split at h <;> try (cases h; done)
    rename_i hk; subst hk
    cases h
    obtain ⟨vx, vy, rfl, hx, hy⟩ : ∃ vx vy, vs = [vx, vy] ∧ VR3 ρ (.it k x) vx ∧ VR3 ρ (.it k y) vy := by
      match vs, ha with
      | [a, b], ha => exact ⟨a, b, rfl, ha.1, ha.2.1⟩
    obtain ⟨rfl, hx⟩ := hx
    obtain ⟨rfl, hy⟩ := hy
    refine ⟨_, by simp only [builtin, Sem.run_bind, run_max_int2, Result.andThen_ok]; rfl, VR3_mk_it ?_ fun hk => ?_⟩
    · simp only [iMax, iLt]; by_cases hlt : x < y <;> simp [hlt]
    · have := hx hk; have := hy hk
      simp only [iMax]; cases iLt x y <;> simpa
  · rename_i k x k' y
    split at h <;> try (cases h; done)
    rename_i hk; subst hk
    cases h
    obtain ⟨vx, vy, rfl, hx, hy⟩ : ∃ vx vy, vs = [vx, vy] ∧ VR3 ρ (.it k x) vx ∧ VR3 ρ (.it k y) vy := by
      match vs, ha with
      | [a, b], ha => exact ⟨a, b, rfl, ha.1, ha.2.1⟩
    obtain ⟨rfl, hx⟩ := hx
    obtain ⟨rfl, hy⟩ := hy
    refine ⟨_, by simp only [builtin, Sem.run_bind, run_min_int2, Result.andThen_ok]; rfl, VR3_mk_it ?_ fun hk => ?_⟩
    · simp only [iMin, iLt]; by_cases hlt : y < x <;> simp [hlt]
    · have := hx hk; have := hy hk
      simp only [iMin]; cases iLt y x <;> simpa

end
end Go.Ev
