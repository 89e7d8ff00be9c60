/-
  Loops, round by round: the state is brought back to one form behind each round. Own text; nothing of a program.
-/
import Derived.Test.YtngaeiceicgalaaDoorEvX
namespace Go.Ev
section
variable {P : Program} {ρ : Ren}

def getS (fr : Fr) : List Nat → Option (List AV)
  | [] => some []
  | t :: r => match fr.get t, getS fr r with
    | some v, some l => some (v :: l)
    | _, _ => none
def getM (m : Mem) : List Nat → Option (List AV)
  | [] => some []
  | i :: r => match m.get i, getM m r with
    | some (.cells v true), some l => some (v :: l)
    | _, _ => none
def putS : List Nat → List AV → Tr AV → Tr AV
  | t :: ts, v :: l, x => putS ts l (x.set (some v) t)
  | _, _, x => x
def putM : List Nat → List AV → Tr Blk → Tr Blk
  | i :: ts, v :: l, x => putM ts l (x.set (some (.cells v true)) i)
  | _, _, x => x
def mkF (n : Nat) (ts : List Nat) (l : List AV) : Fr := { n, t := putS ts l (Tr.mk 10) }
def mkM (n : Nat) (ts : List Nat) (l : List AV) : Mem := { n, t := putM ts l (Tr.mk 12) }

def exNo : Exit → Option Int
  | .normal => some 0
  | .ret => some 1
  | .exit id => some ((id : Int) + 2)
  | _ => none

/-- The pointers to whole blocks that stand where they stood. -/
def ptsAt (fr : Fr) : List (Nat × Nat × Sh) → Bool
  | [] => true
  | (t, id, s) :: r => (match fr.get t with | some (.pt i [] s') => Nat.beq i id && s'.beq s | _ => false) && ptsAt fr r
def ptsT (ps : List (Nat × Nat × Sh)) : List Nat := ps.map (·.1)
def ptsV (ps : List (Nat × Nat × Sh)) : List AV := ps.map fun x => .pt x.2.1 [] x.2.2

def grab (n : Nat) (ts : List Nat) (ps : List (Nat × Nat × Sh)) (ids : List Nat) : Kc := fun e fr m =>
  bif Nat.beq fr.n n && ptsAt fr ps then (match exNo e, getS fr ts, getM m ids with
    | some c, some l, some l' => some (true, .tup (.it .i64 c :: (l ++ l')))
    | _, _, _ => none) else none

theorem grab_ok {n : Nat} {ts : List Nat} {ps : List (Nat × Nat × Sh)} {ids : List Nat} {e : Exit} {fr : Fr} {m : Mem} {r : Out} (h : grab n ts ps ids e fr m = some r) :
    fr.n = n ∧ ptsAt fr ps = true ∧ ∃ c l l', exNo e = some c ∧ getS fr ts = some l ∧ getM m ids = some l' ∧ r = (true, .tup (.it .i64 c :: (l ++ l'))) := by
  unfold grab at h
  cases hp : Nat.beq fr.n n && ptsAt fr ps with
  | false => rw [hp] at h; cases h
  | true =>
  rw [hp, cond_true] at h
  simp only [Bool.and_eq_true, Nat.beq_eq] at hp
  split at h <;> try (cases h; done)
  rename_i c l l' h1 h2 h3
  cases h
  exact ⟨hp.1, hp.2, c, l, l', h1, h2, h3, rfl⟩

theorem getS_len {fr : Fr} : ∀ {ts : List Nat} {l : List AV}, getS fr ts = some l → l.length = ts.length
  | [], l, h => by cases h; rfl
  | t :: ts, l, h => by
    simp only [getS] at h
    split at h <;> try (cases h; done)
    rename_i v l' h1 h2
    cases h
    simp [getS_len h2]

theorem exNo_inj {e e' : Exit} {c : Int} (h : exNo e = some c) (h' : exNo e' = some c) : e = e' := by
  cases e <;> cases e' <;> simp only [exNo, Option.some.injEq, reduceCtorEq] at h h' <;> first | rfl | (exfalso; omega) | (congr 1; omega)

theorem putS_get : ∀ (ts : List Nat) (l : List AV) (x : Tr AV) (t : Nat) (v : AV), (putS ts l x).get t = some v → (∃ k : Nat, ts[k]? = some t ∧ l[k]? = some v) ∨ x.get t = some v
  | [], _, x, t, v, h => .inr h
  | _ :: _, [], x, t, v, h => .inr h
  | u :: ts, w :: l, x, t, v, h => by
    simp only [putS] at h
    rcases putS_get ts l _ t v h with ⟨k, h1, h2⟩ | h1
    · exact .inl ⟨k + 1, by simpa using h1, by simpa using h2⟩
    · rcases Tr.get_set _ x u t v h1 with ⟨rfl, h2⟩ | ⟨_, h2⟩
      · exact .inl ⟨0, rfl, by simpa using h2⟩
      · exact .inr h2

theorem putM_get : ∀ (ts : List Nat) (l : List AV) (x : Tr Blk) (t : Nat) (b : Blk), (putM ts l x).get t = some b → (∃ (k : Nat) (v : AV), ts[k]? = some t ∧ l[k]? = some v ∧ b = .cells v true) ∨ x.get t = some b
  | [], _, x, t, v, h => .inr h
  | _ :: _, [], x, t, v, h => .inr h
  | u :: ts, w :: l, x, t, b, h => by
    simp only [putM] at h
    rcases putM_get ts l _ t b h with ⟨k, v, h1, h2, h3⟩ | h1
    · exact .inl ⟨k + 1, v, by simpa using h1, by simpa using h2, h3⟩
    · rcases Tr.get_set _ x u t b h1 with ⟨rfl, h2⟩ | ⟨_, h2⟩
      · exact .inl ⟨0, w, rfl, rfl, (Option.some.inj h2).symm⟩
      · exact .inr h2

theorem getS_at {fr : Fr} : ∀ {ts : List Nat} {l : List AV}, getS fr ts = some l → ∀ (k t : Nat) (v : AV), ts[k]? = some t → l[k]? = some v → fr.get t = some v
  | [], l, h, k, t, v, h1, h2 => by simp at h1
  | u :: ts, l, h, k, t, v, h1, h2 => by
    simp only [getS] at h
    split at h <;> try (cases h; done)
    rename_i w l' g1 g2
    cases h
    cases k with
    | zero => simp at h1 h2; subst h1; subst h2; exact g1
    | succ k => simp at h1 h2; exact getS_at g2 k t v h1 h2

theorem getM_at {m : Mem} : ∀ {ts : List Nat} {l : List AV}, getM m ts = some l → ∀ (k t : Nat) (v : AV), ts[k]? = some t → l[k]? = some v → m.get t = some (.cells v true)
  | [], l, h, k, t, v, h1, h2 => by simp at h1
  | u :: ts, l, h, k, t, v, h1, h2 => by
    simp only [getM] at h
    split at h <;> try (cases h; done)
    rename_i w l' g1 g2
    cases h
    cases k with
    | zero => simp at h1 h2; subst h1; subst h2; exact g1
    | succ k => simp at h1 h2; exact getM_at g2 k t v h1 h2

theorem ptsAt_at {fr : Fr} : ∀ {ps : List (Nat × Nat × Sh)}, ptsAt fr ps = true → ∀ x ∈ ps, fr.get x.1 = some (.pt x.2.1 [] x.2.2)
  | [], _, x, hx => by cases hx
  | (t, id, s) :: ps, h, x, hx => by
    simp only [ptsAt, Bool.and_eq_true] at h
    rcases List.mem_cons.1 hx with rfl | hx
    · have := h.1
      split at this <;> try (cases this; done)
      rename_i i s' hg
      simp only [Bool.and_eq_true, Nat.beq_eq] at this
      rw [hg, this.1, Sh.beq_eq _ _ this.2]
    · exact ptsAt_at h.2 x hx

/- Names anew. -/
def Ren.by (ρ : Ren) (τ : Nat → Nat) (n : Nat) : Ren :=
  { n, dom := fun i => i < n ∧ ρ.dom (τ i), bb := fun i => ρ.bb (τ i), bo := fun i => ρ.bo (τ i), sh := fun i => ρ.sh (τ i), room := fun i => ρ.room (τ i) }

/-- A value under its new names. -/
def Like (n : Nat) (τ : Nat → Nat) (v v' : AV) : Prop :=
  (plain v = true ∧ v = v') ∨ (∃ id p r, v = .pt id p r ∧ v' = .pt (τ id) p r ∧ id < n) ∨ (∃ id p lo len tip, v = .sl id p lo len tip ∧ v' = .sl (τ id) p lo len tip ∧ id < n)

theorem Like.ok {n : Nat} {τ : Nat → Nat} {v v' : AV} (h : Like n τ v v') {rv : Value} (hv : VR3 ρ v' rv) : VR3 (ρ.by τ n) v rv := by
  rcases h with ⟨h1, rfl⟩ | ⟨id, p, r, rfl, rfl, h1⟩ | ⟨id, p, lo, len, tip, rfl, rfl, h1⟩
  · exact VR3_same h1 hv
  · obtain ⟨g1, g2⟩ := hv
    exact ⟨⟨h1, g1⟩, g2⟩
  · obtain ⟨g1, g2⟩ := hv
    exact ⟨⟨h1, g1⟩, g2⟩

theorem Like.noGd {n : Nat} {τ : Nat → Nat} {v v' : AV} (h : Like n τ v v') : (∀ t w u, v ≠ .gd t w u) ∧ ∀ t w u, v' ≠ .gd t w u := by
  rcases h with ⟨h1, rfl⟩ | ⟨id, p, r, rfl, rfl, h1⟩ | ⟨id, p, lo, len, tip, rfl, rfl, h1⟩
  · constructor <;> (intro t w u e; subst e; cases h1)
  · constructor <;> (intro t w u e; cases e)
  · constructor <;> (intro t w u e; cases e)

/-- From one state to another one that says no more. -/
def Back (n0 : Nat) (fr' : Fr) (m' : Mem) (fr : Fr) (m : Mem) : Prop := ∀ ρ A w a, FR ρ fr' a → Rep ρ A m' w →
  ∃ ρ2, (∀ ρ0 : Ren, ρ0.n = n0 → (∀ i, ρ0.dom i → i < ρ0.n) → ρ0.ext ρ → ρ0.ext ρ2) ∧ FR ρ2 fr a ∧ Rep ρ2 A m w

theorem Back.of {n0 n2 : Nat} {τ : Nat → Nat} {fr' fr : Fr} {m' m : Mem} (hτ : ∀ i, i < n0 → τ i = i) (hn : n0 ≤ n2) (hnF : fr.n = fr'.n)
    (hF : ∀ t v, fr.get t = some v → ∃ v', fr'.get t = some v' ∧ Like n2 τ v v')
    (hM : ∀ i b, m.get i = some b → i < n2 ∧ ∃ t, b = .cells t true ∧ t.wf ∧ plain t = true ∧ m'.get (τ i) = some (.cells t true))
    (hinj : ∀ i j b b', m.get i = some b → m.get j = some b' → i ≠ j → τ i ≠ τ j) (hmn : m.n = n2) : Back n0 fr' m' fr m := fun ρ A w a hf hR => by
  refine ⟨ρ.by τ n2, fun ρ0 h0 hlt he => ⟨⟨fun i hi => ?_, fun i hi => ?_, fun i hi => ?_, fun i hi => ?_, fun i hi => ?_⟩, by rw [h0]; exact hn, fun i hi h => ?_⟩, ⟨hf.size.trans hnF.symm, fun t v hv => ?_⟩, ?_⟩
  · have := hlt i hi
    refine ⟨by omega, ?_⟩
    rw [hτ i (by omega)]; exact he.dom i hi
  · have := hlt i hi
    show ρ.bb (τ i) = _
    rw [hτ i (by omega)]; exact he.bb i hi
  · have := hlt i hi
    show ρ.bo (τ i) = _
    rw [hτ i (by omega)]; exact he.bo i hi
  · have := hlt i hi
    show ρ.sh (τ i) = _
    rw [hτ i (by omega)]; exact he.sh i hi
  · have := hlt i hi
    show ρ.room (τ i) = _
    rw [hτ i (by omega)]; exact he.room i hi
  · have h2 := hi.2
    rw [hτ i (by omega)] at h2
    exact he.old i h2 h
  · obtain ⟨v', h1, h2⟩ := hF t v hv
    have h3 := hf.get t v' h1
    have h4 := h2.ok (VRe_plain h2.noGd.2 h3)
    cases v <;> first | exact h4 | exact absurd rfl (h2.noGd.1 _ _ _)
  · refine ⟨hmn.symm, fun i hi => hi.1, fun i b hb => ?_, fun i j bi bj hi hj hij hw => ?_, hR.new, hR.tab⟩
    · obtain ⟨h1, t, rfl, hwf, h2, h3⟩ := hM i b hb
      obtain ⟨g1, g2, g3, g4, g5, g6⟩ := hR.blk _ _ h3
      refine ⟨⟨h1, g1⟩, g2, g3, g4, fun r v hv => ?_, g6⟩
      obtain ⟨rv, k1, k2⟩ := g5 r v hv
      exact ⟨rv, k1, VR1_same (flat_plain t hwf h2 v (List.mem_of_getElem? hv)) k2⟩
    · obtain ⟨_, t, rfl, _, _, h3⟩ := hM i bi hi
      obtain ⟨_, t', rfl, _, _, h3'⟩ := hM j bj hj
      exact hR.sep _ _ _ _ h3 h3' (hinj i j _ _ hi hj hij) rfl

/- A loop. -/
inductive Chain (P : Program) (n0 : Nat) (b : Code) : Nat → Fr → Mem → Exit → Fr → Mem → Prop
  | last {fr m e fr' m' fr2 m2 N} : Runs P b fr m e fr' m' → e ≠ .normal → Back n0 fr' m' fr2 m2 → Chain P n0 b (N + 1) fr m e fr2 m2
  | step {fr m fr' m' fr1 m1 e fr2 m2 N} : Runs P b fr m .normal fr' m' → Back n0 fr' m' fr1 m1 → Chain P n0 b N fr1 m1 e fr2 m2 → Chain P n0 b (N + 1) fr m e fr2 m2

theorem Chain.rounds {n0 : Nat} {b : Code} {N : Nat} {fr : Fr} {m : Mem} {e : Exit} {fr2 : Fr} {m2 : Mem} (h : Chain P n0 b N fr m e fr2 m2) {ρ0 : Ren} (h0 : ρ0.n = n0) (hlt : ∀ i, ρ0.dom i → i < ρ0.n) {A : Nat → Prop} {w0 : World} {a0 : Act} :
    ∀ (ρ : Ren) (w : World) (a : Act), ρ0.ext ρ → FR ρ fr a → Rep ρ A m w → Upd A w0 w → a.defers = a0.defers → Code.rounds P b (Post ρ0 A w0 a0 e fr2 m2) N a w := by
  induction h with
  | last hr hne hb =>
    intro ρ w a he hf hR hU hd
    refine wp_mono (hr ρ A w a hf hR) fun e' a' w' ⟨he', hd', ρ', q1, q2, q3, q4⟩ => ?_
    subst he'
    obtain ⟨ρ2, k1, k2, k3⟩ := hb ρ' A w' a' q2 q3
    exact Exit.then_post hne ⟨rfl, hd'.trans hd, ρ2, k1 ρ0 h0 hlt (he.trans q1), k2, k3, hU.trans q4⟩
  | step hr hb _ ih =>
    intro ρ w a he hf hR hU hd
    refine wp_mono (hr ρ A w a hf hR) fun e' a' w' ⟨he', hd', ρ', q1, q2, q3, q4⟩ => ?_
    subst he'
    obtain ⟨ρ2, k1, k2, k3⟩ := hb ρ' A w' a' q2 q3
    exact ih ρ2 w' a' (k1 ρ0 h0 hlt (he.trans q1)) k2 k3 (hU.trans q4) (hd'.trans hd)

theorem Chain.runs {n0 : Nat} {b : Code} {N : Nat} {fr : Fr} {m : Mem} {e : Exit} {fr2 : Fr} {m2 : Mem} (h : Chain P n0 b N fr m e fr2 m2) {fr0 : Fr} {m0 : Mem} (h0 : m0.n = n0) (hb : Back n0 fr0 m0 fr m) : Runs P (.loop b) fr0 m0 e fr2 m2 :=
  fun ρ A w a hf hR => by
    obtain ⟨ρ1, k1, k2, k3⟩ := hb ρ A w a hf hR
    exact wp_loop_rounds N (h.rounds (hR.n.trans h0) hR.lt ρ1 w a (k1 ρ (hR.n.trans h0) hR.lt (Ren.ext.refl ρ)) k2 k3 (Upd.refl A w) rfl)

def exBlock (id : Nat) : Exit → Exit
  | .exit id' => bif Nat.beq id' id then .normal else .exit id'
  | e => e

theorem Runs.block {id : Nat} {b : Code} {fr : Fr} {m : Mem} {e : Exit} {fr' : Fr} {m' : Mem} (h : Runs P b fr m e fr' m') : Runs P (.block id b) fr m (exBlock id e) fr' m' := fun ρ A w a hf hR => by
  refine wp_block (wp_mono (h ρ A w a hf hR) fun e' a' w' hq => ?_)
  obtain ⟨he, hq⟩ := hq
  subst he
  cases e' with
  | exit id' =>
    cases hid : Nat.beq id' id with
    | true =>
      have := Nat.eq_of_beq_eq_true hid
      subst this
      rw [show exBlock id' (.exit id') = .normal by simp [exBlock]]
      exact inBlock_here (Q := fun e' a' w' => e' = .normal ∧ _) rfl ⟨rfl, hq⟩
    | false =>
      have hne := Nat.ne_of_beq_eq_false hid
      rw [show exBlock id (.exit id') = .exit id' by simp [exBlock, hid]]
      exact inBlock_other (Q := fun e a w => e = .exit id' ∧ _) hne ⟨rfl, hq⟩
  | _ => exact ⟨rfl, hq⟩

/- The blocks of a code. -/
def blks : Code → List (Nat × Code)
  | .seq a b => blks a ++ blks b
  | .cond _ a b => blks a ++ blks b
  | .block id b => (id, b) :: blks b
  | .loop b => blks b
  | .scope b => blks b
  | _ => []

theorem OvOk_blks {ov : Ov} : ∀ (c : Code), (∀ x ∈ blks c, ∀ fr m k r, NoGd fr → ov x.1 fr m k = some (some r) → Om.fine r → ∃ e fr' m', k e fr' m' = some r ∧ NoGd fr' ∧ Runs P (.block x.1 x.2) fr m e fr' m') → OvOk P ov c
  | .seq a b, h => ⟨OvOk_blks a fun x hx => h x (List.mem_append_left _ hx), OvOk_blks b fun x hx => h x (List.mem_append_right _ hx)⟩
  | .cond _ a b, h => ⟨OvOk_blks a fun x hx => h x (List.mem_append_left _ hx), OvOk_blks b fun x hx => h x (List.mem_append_right _ hx)⟩
  | .block id b, h => ⟨fun fr m k r => h (id, b) List.mem_cons_self fr m k r, OvOk_blks b fun x hx => h x (List.mem_cons_of_mem _ hx)⟩
  | .loop b, h => OvOk_blks (ov := ov) b h
  | .scope b, h => OvOk_blks (ov := ov) b h
  | .skip, _ => trivial
  | .region _ _ _, _ => trivial
  | .rangeFunc _ _ _ _, _ => trivial
  | .exit _, _ => trivial
  | .label _, _ => trivial
  | .goto _, _ => trivial
  | .ret, _ => trivial
  | .refuse _, _ => trivial

def blkAt (c : Code) (id : Nat) : Code := match (blks c).find? fun x => Nat.beq x.1 id with | some x => x.2 | none => .skip
def inLoop : Code → Code
  | .loop b => b
  | .seq .skip b => inLoop b
  | c => c

/-- A frame and a memory of some slots. -/
theorem mkF_get {n : Nat} {ts : List Nat} {l : List AV} {t : Nat} {v : AV} (h : (mkF n ts l).get t = some v) : ∃ k : Nat, ts[k]? = some t ∧ l[k]? = some v := by
  rcases putS_get ts l _ t v h with h | h
  · exact h
  · rw [Tr.get_mk] at h; cases h
theorem mkM_get {n : Nat} {ts : List Nat} {l : List AV} {t : Nat} {b : Blk} (h : (mkM n ts l).get t = some b) : ∃ (k : Nat) (v : AV), ts[k]? = some t ∧ l[k]? = some v ∧ b = .cells v true := by
  rcases putM_get ts l _ t b h with h | h
  · exact h
  · rw [Mem.get] at *; rw [Tr.get_mk] at h; cases h

/-- Values without memory, pointers to whole blocks, blocks of values without memory: from a state that has them. -/
theorem Back.plain {n0 : Nat} {fr' : Fr} {m' : Mem} {ts : List Nat} {ps : List (Nat × Nat × Sh)} {ids : List Nat} {l l' : List AV} {n : Nat} (hn : fr'.n = n) (h1 : getS fr' ts = some l) (h2 : ptsAt fr' ps = true) (h3 : getM m' ids = some l')
    (hl : plains l = true) (hl' : plains l' = true) (hw' : AV.wfs l') (hps : ∀ x ∈ ps, x.2.1 < n0) (hids : ∀ i ∈ ids, i < n0) :
    Back n0 fr' m' (mkF n (ts ++ ptsT ps) (l ++ ptsV ps)) (mkM n0 ids l') := by
  have hlen := getS_len h1
  refine Back.of (n2 := n0) (τ := id) (fun _ _ => rfl) (Nat.le_refl _) hn.symm (fun t v hv => ?_) (fun i b hb => ?_) (fun i j b b' _ _ hij => hij) rfl
  · obtain ⟨k, k1, k2⟩ := mkF_get hv
    rcases Nat.lt_or_ge k ts.length with hk | hk
    · rw [List.getElem?_append_left hk] at k1
      rw [List.getElem?_append_left (by omega)] at k2
      exact ⟨v, getS_at h1 k t v k1 k2, .inl ⟨plains_mem hl v (List.mem_of_getElem? k2), rfl⟩⟩
    · rw [List.getElem?_append_right hk] at k1
      rw [List.getElem?_append_right (by omega), hlen] at k2
      simp only [ptsT, ptsV, List.getElem?_map, Option.map_eq_some_iff] at k1 k2
      obtain ⟨x, g1, rfl⟩ := k1
      obtain ⟨y, g2, rfl⟩ := k2
      rw [g1] at g2; cases g2
      have hx := List.mem_of_getElem? g1
      exact ⟨_, ptsAt_at h2 x hx, .inr (.inl ⟨_, _, _, rfl, rfl, hps x hx⟩)⟩
  · obtain ⟨k, v, k1, k2, rfl⟩ := mkM_get hb
    refine ⟨hids i (List.mem_of_getElem? k1), v, rfl, (AV.wfs_iff l').1 hw' v (List.mem_of_getElem? k2), plains_mem hl' v (List.mem_of_getElem? k2), getM_at h3 k i v k1 k2⟩

/-- The state of a loop: slots, pointers, blocks. -/
structure Lp where
  n : Nat
  n0 : Nat
  ts : List Nat
  ps : List (Nat × Nat × Sh)
  ids : List Nat

def Lp.F (L : Lp) (l : List AV) : Fr := mkF L.n (L.ts ++ ptsT L.ps) (l.take L.ts.length ++ ptsV L.ps)
def Lp.M (L : Lp) (l : List AV) : Mem := mkM L.n0 L.ids (l.drop L.ts.length)

/-- One round. -/
def roundOf (P : Program) (ok : List TypeId) (pc : Pcs) (h : Hd) (ro : FuncId → Bool) (ov : Ov) (N : Nat) (st : Bool) (c : Code) (L : Lp) (l : List AV) : Option Out :=
  evC P ok pc h ro ov N st c (L.F l) (L.M l) (grab L.n L.ts L.ps L.ids)

def Lp.wf (L : Lp) : Bool := (L.ps.all fun x => Nat.blt x.2.1 L.n0) && L.ids.all fun i => Nat.blt i L.n0

theorem mkF_NoGd {n : Nat} {ts : List Nat} {ps : List (Nat × Nat × Sh)} {l : List AV} (hl : plains l = true) : NoGd (mkF n (ts ++ ptsT ps) (l ++ ptsV ps)) := fun t t' w v h => by
  obtain ⟨k, _, k2⟩ := mkF_get h
  have hm := List.mem_of_getElem? k2
  rcases List.mem_append.1 hm with hm | hm
  · exact absurd (plains_mem hl _ hm) (by simp [plain])
  · simp only [ptsV, List.mem_map] at hm
    obtain ⟨_, _, h⟩ := hm
    cases h

theorem plains_sub {l m : List AV} (h : plains l = true) (hm : ∀ a ∈ m, a ∈ l) : plains m = true := by
  induction m with
  | nil => rfl
  | cons a m ih =>
    simp only [plains, Bool.and_eq_true]
    exact ⟨plains_mem h a (hm a List.mem_cons_self), ih fun b hb => hm b (List.mem_cons_of_mem _ hb)⟩

def Round (P : Program) (b : Code) (L : Lp) (l : List AV) (c : Int) (r : List AV) : Prop :=
  ∃ e fr' m', exNo e = some c ∧ Runs P b (L.F l) (L.M l) e fr' m' ∧ Back L.n0 fr' m' (L.F r) (L.M r)

theorem Lp.back {L : Lp} (hL : L.wf = true) {fr : Fr} {m : Mem} {l l' : List AV} (hn : fr.n = L.n) (h1 : getS fr L.ts = some l) (h2 : ptsAt fr L.ps = true) (h3 : getM m L.ids = some l')
    (hp : plains (l ++ l') = true) (hw : AV.wfs (l ++ l')) : Back L.n0 fr m (L.F (l ++ l')) (L.M (l ++ l')) := by
  have hlen := getS_len h1
  simp only [Lp.wf, Bool.and_eq_true, List.all_eq_true, Nat.blt_eq] at hL
  unfold Lp.F Lp.M
  rw [← hlen, List.take_left, List.drop_left]
  exact Back.plain hn h1 h2 h3 (plains_sub hp fun a ha => List.mem_append_left _ ha) (plains_sub hp fun a ha => List.mem_append_right _ ha)
    ((AV.wfs_iff _).2 fun a ha => (AV.wfs_iff _).1 hw a (List.mem_append_right _ ha)) (fun x hx => hL.1 x hx) (fun i hi => hL.2 i hi)

theorem round_ok (hmix : P.follows .mixedOrders = true) {ok : List TypeId} (hok : Fair P ok) {pc : Pcs} (hpc : PSound P pc) {h : Hd} (hh : HSound P h) {ro : FuncId → Bool} {ov : Ov} {N : Nat} {st : Bool} {b : Code} (hov : OvOk P ov b)
    {L : Lp} (hL : L.wf = true) {l : List AV} {c : Int} {r : List AV} {g : Bool} (he : roundOf P ok pc h ro ov N st b L l = some (g, .tup (.it .i64 c :: r))) (hg : g = true)
    (hl : plains l = true) (hr : plains r = true) (hw : AV.wfs r) : Round P b L l c r := by
  obtain ⟨e, fr', m', h1, _, h3⟩ := evC_ok hmix hok hpc hh (show Om.fine (g, AV.tup (.it .i64 c :: r)) from hg) b hov _ _ _ he (mkF_NoGd (plains_sub hl fun a ha => List.mem_of_mem_take ha))
  obtain ⟨k1, k2, c', l1, l2, k3, k4, k5, k6⟩ := grab_ok h1
  injection k6 with _ k6
  injection k6 with k6
  injection k6 with k7 k8
  injection k7 with _ k7
  subst k7; subst k8
  exact ⟨e, fr', m', k3, h3, L.back hL k1 k4 k2 k5 hr hw⟩

/-- Round by round. -/
def iterL (nx : List AV → Int × List AV) : Nat → List AV → Option (Int × List AV)
  | 0, _ => none
  | n + 1, l => if (nx l).1 = 0 then iterL nx n (nx l).2 else some (nx l)

theorem exNo_zero {e : Exit} (h : exNo e = some 0) : e = .normal := by
  cases e <;> simp only [exNo, Option.some.injEq, reduceCtorEq] at h <;> first | rfl | (exfalso; omega)
theorem exNo_ne {e : Exit} {c : Int} (h : exNo e = some c) (hc : c ≠ 0) : e ≠ .normal := by
  rintro rfl
  cases h
  exact hc rfl

theorem iter_chain {b : Code} {L : Lp} {nx : List AV → Int × List AV} {inv : List AV → Prop} (hs : ∀ l, inv l → Round P b L l (nx l).1 (nx l).2 ∧ ((nx l).1 = 0 → inv (nx l).2)) :
    ∀ (N : Nat) (l : List AV) (c : Int) (r : List AV), inv l → iterL nx N l = some (c, r) → ∃ e, exNo e = some c ∧ Chain P L.n0 b N (L.F l) (L.M l) e (L.F r) (L.M r)
  | 0, _, _, _, _, h => by cases h
  | N + 1, l, c, r, hi, h => by
    obtain ⟨⟨e, fr', m', k1, k2, k3⟩, k4⟩ := hs l hi
    unfold iterL at h
    by_cases h0 : (nx l).1 = 0
    · rw [if_pos h0] at h
      obtain ⟨e2, g1, g2⟩ := iter_chain hs N _ c r (k4 h0) h
      rw [h0] at k1
      rw [exNo_zero k1] at k2
      exact ⟨e2, g1, .step k2 k3 g2⟩
    · rw [if_neg h0] at h
      have hx := Option.some.inj h
      have hc : (nx l).1 = c := by rw [hx]
      have hr : (nx l).2 = r := by rw [hx]
      subst hc; subst hr
      exact ⟨e, k1, .last k2 (exNo_ne k1 h0) k3⟩

/-- A loop in its block. -/
theorem loop_block {B : Nat} {b : Code} {L : Lp} (hL : L.wf = true) {nx : List AV → Int × List AV} {inv : List AV → Prop} (hs : ∀ l, inv l → Round P b L l (nx l).1 (nx l).2 ∧ ((nx l).1 = 0 → inv (nx l).2))
    {fr : Fr} {m : Mem} {l l' : List AV} (hn : fr.n = L.n) (hm : m.n = L.n0) (h1 : getS fr L.ts = some l) (h2 : ptsAt fr L.ps = true) (h3 : getM m L.ids = some l') (hp : plains (l ++ l') = true) (hw : AV.wfs (l ++ l'))
    (hi : inv (l ++ l')) {N : Nat} {c : Int} {r : List AV} (hit : iterL nx N (l ++ l') = some (c, r)) {e : Exit} (he : exNo e = some c) : Runs P (.block B (.loop b)) fr m (exBlock B e) (L.F r) (L.M r) := by
  obtain ⟨e', k1, k2⟩ := iter_chain hs N _ c r hi hit
  rw [exNo_inj he k1]
  exact Runs.block (k2.runs hm (L.back hL hn h1 h2 h3 hp hw))

theorem Lp.noGd {L : Lp} {r : List AV} (hr : plains r = true) : NoGd (L.F r) := mkF_NoGd (plains_sub hr fun a ha => List.mem_of_mem_take ha)
end
end Go.Ev
