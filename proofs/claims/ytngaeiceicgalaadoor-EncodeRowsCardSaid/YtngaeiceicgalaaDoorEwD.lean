/-
  Contracts of functions in a small memory, by evaluation; loops whose meaning is given from outside. Own text; nothing of a program.
-/
import Derived.Test.YtngaeiceicgalaaDoorEwC
namespace Go.Ev
section
variable {P : Program} {ρ : Ren}

/-- What a function leaves: its value, the blocks that are looked at. -/
def finQ (L : Lq) : AV → Mem → Option Out := fun v m => grabQ L .normal (mkF 1 [0] [v]) m

theorem mkF_one (v : AV) : (mkF 1 [0] [v]).get 0 = some v := rfl

theorem small_ok (hmix : P.follows .mixedOrders = true) {ok : List TypeId} (hok : Fair P ok) {pc : Pcs} (hpc : PSound P pc) {h : Hd} (hh : HSound P h) {ro : FuncId → Bool} {ov : Ov}
    {N : Nat} {st : Bool} {f : FuncId} {fn : Func} (hf : Plain P f fn) (ho : ∀ c, fn.body = some c → OvOk P ov c) {args : List AV} {m : Mem} {L : Lq} {c : Int} {v : AV} {bl : List AV} {g : Bool}
    (he : evFn P ok pc h ro ov N st fn args m (finQ L) = some (g, .tup (.it .i64 c :: v :: bl))) (hg : g = true) (hL : L.wf = true) (hl : L.ts ++ L.mv = [0]) (hm : m.n = L.n0) (hk : L.ok (v :: bl) = true) (hgd : isGd v = false) :
    Small P f args m v (L.M (v :: bl)) := by
  obtain ⟨v', m', h1, h2⟩ := evFn_ok hmix hok hpc hh hf ho he hg
  obtain ⟨k1, c', l, a, b', q, l', k2, k3, k4, k5, k6, k7⟩ := grabQ_ok h1
  injection k7 with _ k7
  injection k7 with k7
  injection k7 with k7 k8
  rw [k8] at hk ⊢
  have hb := L.back hL k1 k3 k4 k5 k6 hk
  have h0 : (L.F (l ++ a ++ (l' ++ b'))).get 0 = some v := by
    rw [← k8]
    unfold Lq.F
    have : L.ts.length + L.mv.length = 1 := by rw [← List.length_append, hl]; rfl
    rw [hl, this]
    rfl
  have ng : ∀ u : AV, isGd u = false → ∀ t w x, u ≠ .gd t w x := fun u h t w x e => by subst e; cases h
  have key : ∀ {ρ ρ' : Ren} {A : Nat → Prop} {w w' : World} {rv : Value}, Rep ρ A m w → ρ.ext ρ' → Rep ρ' A m' w' → VR3 ρ' v' rv →
      ∃ ρ2 : Ren, ρ.ext ρ2 ∧ Rep ρ2 A (L.M (l ++ a ++ (l' ++ b'))) w' ∧ VR3 ρ2 v rv := fun {ρ ρ' A w w' rv} hR hx hR' hv => by
    have hF : FR ρ' (mkF 1 [0] [v']) { tmps := #[rv], defers := [] } := by
      refine ⟨rfl, fun t u ht => ?_⟩
      obtain ⟨k, g1, g2⟩ := mkF_get ht
      match k, g1, g2 with
      | 0, g1, g2 =>
        cases g1; cases g2
        exact hv.e
      | k + 1, g1, _ => simp at g1
    obtain ⟨ρ2, q1, q2, q3⟩ := hb ρ' A w' _ hF hR'
    refine ⟨ρ2, q1 ρ (hR.n.trans hm) hR.lt hx, q3, ?_⟩
    exact VRe_plain (ng v hgd) (q2.get 0 v h0)
  intro ρ A w vals hR ha
  rcases h2 ρ A w vals hR ha with ⟨ρ', rv, w', nx, g1, g2, g3, g4, g5, g6⟩ | ⟨f', args', g1, g2⟩
  · obtain ⟨ρ2, q1, q2, q3⟩ := key hR g3 g4 g6
    exact .inl ⟨ρ2, rv, w', nx, g1, g2, q1, q2, g5, q3⟩
  · refine .inr ⟨f', args', g1, g2.mono fun e w' ⟨ρ', rv, p1, p2, p3, p4, p5⟩ => ?_⟩
    obtain ⟨ρ2, q1, q2, q3⟩ := key hR p2 p3 p5
    exact ⟨ρ2, rv, p1, q1, q2, p4, q3⟩

/-- A loop whose meaning is given: where it stands, what it is entered with, how it goes on. -/
def ovQ (B : Nat) (L : Lq) (go : List AV → Kc → Option Out) : Ov := fun id fr m k =>
  bif Nat.beq id B then
    match grabQ L .normal fr m with
    | some (_, .tup (_ :: l)) => bif Nat.beq m.n L.n0 && L.ok l then some (go l k) else none
    | _ => none
  else none

/-- What is given of one loop. -/
def Goes (P : Program) (B : Nat) (b : Code) (L : Lq) (go : List AV → Kc → Option Out) : Prop :=
  ∀ l k r, go l k = some r → Om.fine r → ∃ e fr' m', k e fr' m' = some r ∧ NoGd fr' ∧ ∀ fr m, m.n = L.n0 → Back L.n0 fr m (L.F l) (L.M l) → Runs P (.block B b) fr m e fr' m'

theorem ovQ_runs {B : Nat} {b : Code} {L : Lq} {go : List AV → Kc → Option Out} (hL : L.wf = true) (hgo : Goes P B b L go) {fr : Fr} {m : Mem} {k : Kc} {r : Out} (h : ovQ B L go B fr m k = some (some r)) (hr : Om.fine r) :
    ∃ e fr' m', k e fr' m' = some r ∧ NoGd fr' ∧ Runs P (.block B b) fr m e fr' m' := by
  unfold ovQ at h
  have hB : Nat.beq B B = true := by simp
  rw [hB, cond_true] at h
  split at h <;> try (cases h; done)
  rename_i g x l hg
  cases hc : Nat.beq m.n L.n0 && L.ok l with
  | false => rw [hc] at h; cases h
  | true =>
  rw [hc, cond_true] at h
  simp only [Bool.and_eq_true, Nat.beq_eq] at hc
  obtain ⟨k1, c', l1, a, b', q, l', k2, k3, k4, k5, k6, k7⟩ := grabQ_ok hg
  injection k7 with _ k7
  injection k7 with k7
  injection k7 with _ k8
  have hk := hc.2
  rw [k8] at hk
  have hb := L.back hL k1 k3 k4 k5 k6 hk
  rw [← k8] at hb
  obtain ⟨e, fr', m', g1, g2, g3⟩ := hgo l k r (Option.some.inj h) hr
  exact ⟨e, fr', m', g1, g2, g3 fr m hc.1 hb⟩

/-- Several such loops. -/
def ovs : List (Nat × Ov) → Ov
  | [], _, _, _, _ => none
  | (B, o) :: r, id, fr, m, k => bif Nat.beq id B then o id fr m k else ovs r id fr m k

theorem ovs_ok {l : List (Nat × Ov)} {c : Code}
    (h : ∀ x ∈ blks c, ∀ o, (x.1, o) ∈ l → ∀ fr m k r, o x.1 fr m k = some (some r) → Om.fine r → ∃ e fr' m', k e fr' m' = some r ∧ NoGd fr' ∧ Runs P (.block x.1 x.2) fr m e fr' m') : OvOk P (ovs l) c := by
  refine OvOk_blks c fun x hx fr m k r _ he hr => ?_
  have : ∀ l' : List (Nat × Ov), (∀ y ∈ l', y ∈ l) → ovs l' x.1 fr m k = some (some r) → ∃ e fr' m', k e fr' m' = some r ∧ NoGd fr' ∧ Runs P (.block x.1 x.2) fr m e fr' m' := by
    intro l'
    induction l' with
    | nil => intro _ he; cases he
    | cons y l' ih =>
      intro hy he
      obtain ⟨B, o⟩ := y
      simp only [ovs] at he
      cases hb : Nat.beq x.1 B with
      | true =>
        rw [hb, cond_true] at he
        have := Nat.eq_of_beq_eq_true hb
        subst this
        exact h x hx o (hy _ List.mem_cons_self) fr m k r he hr
      | false =>
        rw [hb, cond_false] at he
        exact ih (fun z hz => hy z (List.mem_cons_of_mem _ hz)) he
  exact this l (fun y hy => hy) he

/-- .. one loop. -/
theorem ovQ_ok {B : Nat} {b : Code} {L : Lq} {go : List AV → Kc → Option Out} (hL : L.wf = true) (hgo : Goes P B b L go) {c : Code} (hc : ∀ x ∈ blks c, x.1 = B → x.2 = b) : OvOk P (ovQ B L go) c := by
  refine OvOk_blks c fun x hx fr m k r _ he hr => ?_
  by_cases hx1 : x.1 = B
  · have := hc x hx hx1
    obtain ⟨i, d⟩ := x
    simp only at hx1 this
    subst hx1; subst this
    exact ovQ_runs hL hgo he hr
  · unfold ovQ at he
    have : Nat.beq x.1 B = false := by
      rw [← Bool.not_eq_true, Nat.beq_eq]; exact hx1
    rw [this] at he
    cases he

/-- A loop that goes on in one of two ways. -/
theorem goes_of {σ : Type} {B : Nat} {b : Code} {L : Lq} {F : σ → Fr} {M : σ → Mem} {nx : σ → Int × σ} {inv : σ → Prop}
    (hs : ∀ s, inv s → Turn P L.n0 b (F s) (M s) (nx s).1 (F (nx s).2) (M (nx s).2) ∧ ((nx s).1 = 0 → inv (nx s).2)) {l : List AV} {s : σ} (hF : L.F l = F s) (hM : L.M l = M s) (hi : inv s) {N : Nat} {c : Int} {r : σ}
    (hit : iterS nx N s = some (c, r)) {e : Exit} (he : exNo e = some c) : ∀ fr m, m.n = L.n0 → Back L.n0 fr m (L.F l) (L.M l) → Runs P (.block B (.loop b)) fr m (exBlock B e) (F r) (M r) := fun fr m hm hb => by
  rw [hF, hM] at hb
  exact loopS_block hs hm hb hi hit he

/- Values laid out by their shapes. -/
theorem getS_wf {fr : Fr} {a : Act} (hf : FR ρ fr a) (hg : NoGd fr) : ∀ {ts : List Nat} {l : List AV}, getS fr ts = some l → AV.wfs l
  | [], l, h => by cases h; trivial
  | t :: ts, l, h => by
    simp only [getS] at h
    split at h <;> try (cases h; done)
    rename_i v l' h1 h2
    cases h
    exact ⟨VR3.wf (VRe_plain (fun t' w u e => hg t t' w u (by rw [h1, e])) (hf.get t v h1)), getS_wf hf hg h2⟩
theorem getV_wf {A : Nat → Prop} {w : World} {m : Mem} (hR : Rep ρ A m w) {fr : Fr} : ∀ {ts : List Nat} {k : Nat} {a b : List AV} {q : List Nat}, getV fr m ts k = some (a, b, q) → AV.wfs a ∧ AV.wfs b
  | [], _, _, _, _, h => by cases h; exact ⟨trivial, trivial⟩
  | t :: r, k, a, b, q, h => by
    simp only [getV] at h
    split at h <;> try (cases h; done)
    split at h <;> try (cases h; done)
    rename_i hv
    split at h <;> try (cases h; done)
    rename_i u _ _ _ h1 h2
    cases h
    obtain ⟨g1, g2⟩ := getV_wf hR h2
    exact ⟨⟨(mvOf_gd hv).2.2, g1⟩, ⟨(hR.blk _ _ h1).2.2.1, g2⟩⟩
theorem getB_wf {A : Nat → Prop} {w : World} {m : Mem} (hR : Rep ρ A m w) : ∀ {ts : List (Nat × Bool)} {l : List AV}, getB m ts = some l → AV.wfs l
  | [], l, h => by cases h; trivial
  | (i, wr) :: ts, l, h => by
    simp only [getB] at h
    split at h <;> try (cases h; done)
    rename_i v w' l' g1 g2
    cases hw : wr == w' with
    | false => rw [hw] at h; cases h
    | true =>
    rw [hw, cond_true] at h
    cases h
    exact ⟨(hR.blk _ _ g1).2.2.1, getB_wf hR g2⟩
theorem wfs_append : ∀ {l m : List AV}, AV.wfs l → AV.wfs m → AV.wfs (l ++ m)
  | [], _, _, h => h
  | _ :: _, _, h, h' => ⟨h.1, wfs_append h.2 h'⟩

theorem Lq.back_norm {L : Lq} (hL : L.wf = true) {fr : Fr} {m : Mem} {l a b l' : List AV} {q : List Nat} (hg : NoGd fr) (hn : fr.n = L.n) (h1 : getS fr L.ts = some l) (h2 : getV fr m L.mv L.n0 = some (a, b, q)) (h3 : getB m L.ids = some l')
    (hq : (apartB q && (q.all fun j => L.ids.all fun x => !Nat.beq x.1 j)) = true) (hok : L.ok (l ++ a ++ (l' ++ b)) = true) {shs : List Sh} (hs : AV.shapes (l ++ a ++ (l' ++ b)) = shs) :
    Back L.n0 fr m (L.F (norms shs 0 fun i => (l ++ a ++ (l' ++ b)).getD i .un)) (L.M (norms shs 0 fun i => (l ++ a ++ (l' ++ b)).getD i .un)) := fun ρ A w c hf hR => by
  obtain ⟨w1, w2⟩ := getV_wf hR h2
  have hw := wfs_append (wfs_append (getS_wf hf hg h1) w1) (wfs_append (getB_wf hR h3) w2)
  rw [norms_eq shs _ 0 _ hw hs fun j => by simp]
  exact L.back hL hn h1 h2 h3 hq hok ρ A w c hf hR

/-- A loop whose meaning is given, its state laid out. -/
def ovN (B : Nat) (L : Lq) (shs : List Sh) (go : (Nat → AV) → Kc → Option Out) : Ov := fun id fr m k =>
  bif Nat.beq id B then
    match grabQ L .normal fr m with
    | some (_, .tup (_ :: l)) => bif Nat.beq m.n L.n0 && (L.ok l && Sh.beqs (AV.shapes l) shs) then some (go (fun i => l.getD i .un) k) else none
    | _ => none
  else none

def GoesN (P : Program) (B : Nat) (b : Code) (L : Lq) (shs : List Sh) (go : (Nat → AV) → Kc → Option Out) : Prop :=
  ∀ g k r, go g k = some r → Om.fine r → ∃ e fr' m', k e fr' m' = some r ∧ NoGd fr' ∧ ∀ fr m, m.n = L.n0 → Back L.n0 fr m (L.F (norms shs 0 g)) (L.M (norms shs 0 g)) → Runs P (.block B b) fr m e fr' m'

theorem ovN_ok {B : Nat} {b : Code} {L : Lq} {shs : List Sh} {go : (Nat → AV) → Kc → Option Out} (hL : L.wf = true) (hgo : GoesN P B b L shs go) {c : Code} (hc : ∀ x ∈ blks c, x.1 = B → x.2 = b) : OvOk P (ovN B L shs go) c := by
  refine OvOk_blks c fun x hx fr m k r hng h hr => ?_
  by_cases hx1 : x.1 = B
  · have := hc x hx hx1
    obtain ⟨i, d⟩ := x
    simp only at hx1 this
    subst hx1; subst this
    unfold ovN at h
    have hB : Nat.beq i i = true := by simp
    rw [hB, cond_true] at h
    split at h <;> try (cases h; done)
    rename_i g x l hg
    cases hc : Nat.beq m.n L.n0 && (L.ok l && Sh.beqs (AV.shapes l) shs) with
    | false => rw [hc] at h; cases h
    | true =>
    rw [hc, cond_true] at h
    simp only [Bool.and_eq_true, Nat.beq_eq] at hc
    obtain ⟨hc1, hc2, hc3⟩ := hc
    obtain ⟨k1, c', l1, a, b', q, l', k2, k3, k4, k5, k6, k7⟩ := grabQ_ok hg
    injection k7 with _ k7
    injection k7 with k7
    injection k7 with _ k8
    rw [k8] at hc2 hc3
    have hb := L.back_norm hL hng k1 k3 k4 k5 k6 hc2 (Sh.beqs_eq _ _ hc3)
    rw [← k8] at hb
    obtain ⟨e, fr', m', g1, g2, g3⟩ := hgo _ k r (Option.some.inj h) hr
    exact ⟨e, fr', m', g1, g2, g3 fr m hc1 hb⟩
  · unfold ovN at h
    have : Nat.beq x.1 B = false := by
      rw [← Bool.not_eq_true, Nat.beq_eq]; exact hx1
    rw [this] at h
    cases h

mutual
theorem plain_shape : ∀ (a : AV), a.shape.hasRef = false → plain a = true
  | .bl _, _ => rfl
  | .it _ _, _ => rfl
  | .st _, _ => rfl
  | .agg l, h => plains_shape l (by simpa [AV.shape, Sh.hasRef] using h)
  | .arr n s f, h => by simp only [AV.shape, Sh.hasRef] at h; simp [plain, h]
  | .un, h => by simp [AV.shape, Sh.hasRef] at h
  | .nl, h => by simp [AV.shape, Sh.hasRef] at h
  | .pt _ _ _, h => by simp [AV.shape, Sh.hasRef] at h
  | .nsl, h => by simp [AV.shape, Sh.hasRef] at h
  | .sl _ _ _ _ _, h => by simp [AV.shape, Sh.hasRef] at h
  | .nfn, h => by simp [AV.shape, Sh.hasRef] at h
  | .fn _ _, h => by simp [AV.shape, Sh.hasRef] at h
  | .nmp, h => by simp [AV.shape, Sh.hasRef] at h
  | .mp _, h => by simp [AV.shape, Sh.hasRef] at h
  | .nif, h => by simp [AV.shape, Sh.hasRef] at h
  | .tup _, h => by simp [AV.shape, Sh.hasRef] at h
  | .gd _ _ _, h => by simp [AV.shape, Sh.hasRef] at h
theorem plains_shape : ∀ (l : List AV), Sh.hasRef.Sh.hasRefs (AV.shapes l) = false → plains l = true
  | [], _ => rfl
  | a :: l, h => by
    simp only [AV.shapes, Sh.hasRef.Sh.hasRefs, Bool.or_eq_false_iff] at h
    simp [plains, plain_shape a h.1, plains_shape l h.2]
end

/-- A memory of one block. -/
def mem1 (t : AV) : Mem := { n := 1, t := (Tr.mk 12).set (some (.cells t true)) 0 }
theorem mem1_get {t : AV} {i : Nat} {b : Blk} (h : (mem1 t).get i = some b) : i = 0 ∧ b = .cells t true := by
  have h : ((Tr.mk 12).set (some (.cells t true)) 0).get i = some b := h
  rcases Tr.get_set _ _ 0 i b h with ⟨h1, h2⟩ | ⟨_, h2⟩
  · exact ⟨h1, (Option.some.inj h2).symm⟩
  · rw [Tr.get_mk] at h2; cases h2

theorem Small.of_wf {f : FuncId} {args : List AV} {m m' : Mem} {v : AV} (h : AV.wfs args → (∀ i t wr, m.get i = some (.cells t wr) → t.wf) → Small P f args m v m') : Small P f args m v m' :=
  fun ρ A w vals hR ha => h ha.wfs (fun i t wr hi => (hR.blk i _ hi).2.2.1) ρ A w vals hR ha

/-- A method on one block; its other arguments are plain. 'V': what it yields, 'U': what the block holds behind it. -/
def rowB (root : Sh) (shs : List Sh) (V U : (Nat → AV) → AV → AV) : MRow := fun args m => match args with
  | .pt id [] r :: rest => bif r.beq root && Sh.beqs (AV.shapes rest) shs then
      (match m.get id with
      | some (.cells t true) => bif t.shape.beq root then some (none, [id], V (fun i => rest.getD i .un) t, mem1 (U (fun i => rest.getD i .un) t)) else none
      | _ => none) else none
  | _ => none

theorem Fit.one {m : Mem} {id : Nat} {root : Sh} {rest : List AV} {t : AV} (hr : Sh.hasRef.Sh.hasRefs (AV.shapes rest) = false) (ht : t.shape.hasRef = false) (hm : m.get id = some (.cells t true)) :
    Fit m [id] (mem1 t) (.pt 0 [] root :: rest) (.pt id [] root :: rest) := by
  refine ⟨by simp, rfl, ⟨.inr (.inl ⟨0, [], root, rfl, rfl, Nat.one_pos⟩), ?_⟩, fun i hi => ⟨.cells t true, ?_⟩, fun i b hb => ?_⟩
  · have := plains_shape rest hr
    clear hr
    induction rest with
    | nil => trivial
    | cons a l ih =>
      simp only [plains, Bool.and_eq_true] at this
      exact ⟨.inl ⟨this.1, rfl⟩, ih this.2⟩
  · have : i = 0 := by simp at hi; exact hi
    subst this; rfl
  · obtain ⟨rfl, rfl⟩ := mem1_get hb
    exact ⟨by simp, t, true, rfl, plain_shape t ht, hm⟩

theorem rowB_ok {f : FuncId} {root : Sh} {shs : List Sh} {V U : (Nat → AV) → AV → AV} (hroot : root.hasRef = false) (hshs : Sh.hasRef.Sh.hasRefs shs = false) (hV : ∀ g t, okV (V g t) = true) (hU : ∀ g t, plain (U g t) = true)
    (h : ∀ g t, Small P f (.pt 0 [] root :: norms shs 0 g) (mem1 (norm root t)) (V g t) (mem1 (U g t))) : MRowOk P f (rowB root shs V U) := fun args m c τ v m1 he _ => by
  unfold rowB at he
  split at he <;> try (cases he; done)
  rename_i id r rest
  cases hb : r.beq root && Sh.beqs (AV.shapes rest) shs with
  | false => rw [hb] at he; cases he
  | true =>
  rw [hb, cond_true] at he
  simp only [Bool.and_eq_true] at hb
  have hr := Sh.beq_eq _ _ hb.1
  have hs := Sh.beqs_eq _ _ hb.2
  subst hr
  split at he <;> try (cases he; done)
  rename_i t hm
  cases hb2 : t.shape.beq r with
  | false => rw [hb2] at he; cases he
  | true =>
  rw [hb2, cond_true] at he
  cases he
  have ht := Sh.beq_eq _ _ hb2
  refine ⟨_, _, Small.of_wf (args := .pt 0 [] r :: rest) (m := mem1 t) fun w1 w2 => ?_, Fit.one (by rw [hs]; exact hshs) (by rw [ht]; exact hroot) hm, Nat.le_refl _, hV _ _, fun i b hb => ?_⟩
  · have e1 : norms shs 0 (fun i => rest.getD i .un) = rest := norms_eq shs rest 0 _ w1.2 hs fun j => by simp
    have e2 : norm r t = t := norm_eq r t (w2 0 t true rfl) ht
    have := h (fun i => rest.getD i .un) t
    rw [e1, e2] at this
    exact this
  · obtain ⟨rfl, rfl⟩ := mem1_get hb
    exact ⟨Nat.one_pos, _, true, rfl, hU _ _, fun h => by simp at h⟩

/- A state that is asked for in one form alone. -/
def Part (L : Lq) (K : Kc) : Prop := ∀ e fr m r, K e fr m = some r → grabQ L e fr m = some r
theorem Part.refl (L : Lq) : Part L (grabQ L) := fun _ _ _ _ h => h
theorem turnK_ok (hmix : P.follows .mixedOrders = true) {ok : List TypeId} (hok : Fair P ok) {pc : Pcs} (hpc : PSound P pc) {h : Hd} (hh : HSound P h) {ro : FuncId → Bool} {ov : Ov} {N : Nat} {st : Bool} {b : Code} (hov : OvOk P ov b)
    {L : Lq} (hL : L.wf = true) {K : Kc} (hK : Part L K) {fr : Fr} {m : Mem} (hg0 : NoGd fr) {c : Int} {r : List AV} {g : Bool} (he : evC P ok pc h ro ov N st b fr m K = some (g, .tup (.it .i64 c :: r))) (hg : g = true) (hr : L.ok r = true) :
    Turn P L.n0 b fr m c (L.F r) (L.M r) := by
  obtain ⟨e, fr', m', h1, _, h3⟩ := evC_ok hmix hok hpc hh (show Om.fine (g, AV.tup (.it .i64 c :: r)) from hg) b hov _ _ _ he hg0
  obtain ⟨k1, c', l, a, b', q, l', k2, k3, k4, k5, k6, k7⟩ := grabQ_ok (hK _ _ _ _ h1)
  injection k7 with _ k7
  injection k7 with k7
  injection k7 with k7 k8
  injection k7 with _ k7
  subst k7; subst k8
  exact ⟨e, fr', m', k2, h3, L.back hL k1 k3 k4 k5 k6 hr⟩

/-- Slot 't' holds no slice yet. -/
def grabN (t : Nat) (L : Lq) : Kc := fun e fr m => match fr.get t with
  | some .nsl => grabQ L e fr m
  | _ => none
theorem grabN_part (t : Nat) (L : Lq) : Part L (grabN t L) := fun e fr m r h => by
  unfold grabN at h
  split at h <;> try (cases h; done)
  exact h

/-- Slot 't' holds the slice that it held ('old'), or another one. -/
def grabI (t id : Nat) (old : Bool) (L : Lq) : Kc := fun e fr m => match fr.get t with
  | some (.sl i _ _ _ _) => bif Nat.beq i id == old then grabQ L e fr m else none
  | _ => none
theorem grabI_part (t id : Nat) (old : Bool) (L : Lq) : Part L (grabI t id old L) := fun e fr m r h => by
  unfold grabI at h
  split at h <;> try (cases h; done)
  rename_i i _ _ _ _ _
  cases hb : Nat.beq i id == old with
  | false => rw [hb] at h; cases h
  | true => rw [hb] at h; exact h

/-- .. a round that ends so. -/
def grabJ (c : Int) (K : Kc) : Kc := fun e fr m => match exNo e with
  | some c' => bif iEq c' c then K e fr m else none
  | none => none
theorem grabJ_part (c : Int) {L : Lq} {K : Kc} (hK : Part L K) : Part L (grabJ c K) := fun e fr m r h => by
  unfold grabJ at h
  split at h <;> try (cases h; done)
  rename_i c' _
  cases hb : iEq c' c with
  | false => rw [hb] at h; cases h
  | true => rw [hb] at h; exact hK _ _ _ _ h

def finK (K : Kc) : AV → Mem → Option Out := fun v m => K .normal (mkF 1 [0] [v]) m
theorem smallK_ok (hmix : P.follows .mixedOrders = true) {ok : List TypeId} (hok : Fair P ok) {pc : Pcs} (hpc : PSound P pc) {h : Hd} (hh : HSound P h) {ro : FuncId → Bool} {ov : Ov}
    {N : Nat} {st : Bool} {f : FuncId} {fn : Func} (hf : Plain P f fn) (ho : ∀ c, fn.body = some c → OvOk P ov c) {args : List AV} {m : Mem} {L : Lq} {K : Kc} (hK : Part L K) {c : Int} {v : AV} {bl : List AV} {g : Bool}
    (he : evFn P ok pc h ro ov N st fn args m (finK K) = some (g, .tup (.it .i64 c :: v :: bl))) (hg : g = true) (hL : L.wf = true) (hl : L.ts ++ L.mv = [0]) (hm : m.n = L.n0) (hk : L.ok (v :: bl) = true) (hgd : isGd v = false) :
    Small P f args m v (L.M (v :: bl)) := by
  obtain ⟨v', m', h1, h2⟩ := evFn_ok hmix hok hpc hh hf ho he hg
  obtain ⟨k1, c', l, a, b', q, l', k2, k3, k4, k5, k6, k7⟩ := grabQ_ok (hK _ _ _ _ h1)
  injection k7 with _ k7
  injection k7 with k7
  injection k7 with k7 k8
  rw [k8] at hk ⊢
  have hb := L.back hL k1 k3 k4 k5 k6 hk
  have h0 : (L.F (l ++ a ++ (l' ++ b'))).get 0 = some v := by
    rw [← k8]
    unfold Lq.F
    have : L.ts.length + L.mv.length = 1 := by rw [← List.length_append, hl]; rfl
    rw [hl, this]
    rfl
  have ng : ∀ u : AV, isGd u = false → ∀ t w x, u ≠ .gd t w x := fun u h t w x e => by subst e; cases h
  have key : ∀ {ρ ρ' : Ren} {A : Nat → Prop} {w w' : World} {rv : Value}, Rep ρ A m w → ρ.ext ρ' → Rep ρ' A m' w' → VR3 ρ' v' rv →
      ∃ ρ2 : Ren, ρ.ext ρ2 ∧ Rep ρ2 A (L.M (l ++ a ++ (l' ++ b'))) w' ∧ VR3 ρ2 v rv := fun {ρ ρ' A w w' rv} hR hx hR' hv => by
    have hF : FR ρ' (mkF 1 [0] [v']) { tmps := #[rv], defers := [] } := by
      refine ⟨rfl, fun t u ht => ?_⟩
      obtain ⟨k, g1, g2⟩ := mkF_get ht
      match k, g1, g2 with
      | 0, g1, g2 =>
        cases g1; cases g2
        exact hv.e
      | k + 1, g1, _ => simp at g1
    obtain ⟨ρ2, q1, q2, q3⟩ := hb ρ' A w' _ hF hR'
    refine ⟨ρ2, q1 ρ (hR.n.trans hm) hR.lt hx, q3, ?_⟩
    exact VRe_plain (ng v hgd) (q2.get 0 v h0)
  intro ρ A w vals hR ha
  rcases h2 ρ A w vals hR ha with ⟨ρ', rv, w', nx, g1, g2, g3, g4, g5, g6⟩ | ⟨f', args', g1, g2⟩
  · obtain ⟨ρ2, q1, q2, q3⟩ := key hR g3 g4 g6
    exact .inl ⟨ρ2, rv, w', nx, g1, g2, q1, q2, g5, q3⟩
  · refine .inr ⟨f', args', g1, g2.mono fun e w' ⟨ρ', rv, p1, p2, p3, p4, p5⟩ => ?_⟩
    obtain ⟨ρ2, q1, q2, q3⟩ := key hR p2 p3 p5
    exact ⟨ρ2, rv, p1, q1, q2, p4, q3⟩

/- Contracts that end in one of two forms. -/
abbrev MRow2 := List AV → Mem → Option (Bool × (List Nat × AV × Mem) × (List Nat × AV × Mem))
def Way (P : Program) (f : FuncId) (args : List AV) (m : Mem) (x : List Nat × AV × Mem) : Prop := ∃ args0 m0, Small P f args0 m0 x.2.1 x.2.2 ∧ Fit m x.1 m0 args0 args ∧ Left x.1 x.2.2 x.2.1
def MRow2Ok (P : Program) (f : FuncId) (F : MRow2) : Prop := ∀ args m b x y, F args m = some (b, x, y) → (b = true → Way P f args m x) ∧ (b = false → Way P f args m y)
def hMem2 : List (FuncId × MRow2) → Hd → Hd
  | [], h, f, args, m, k => h f args m k
  | (g, F) :: l, h, f, args, m, k => bif Nat.beq f g then (match F args m with
    | some (b, x, y) => brC b (k (renV x.1 m.n x.2.1) (memOut m x.1 x.2.2)) (k (renV y.1 m.n y.2.1) (memOut m y.1 y.2.2))
    | none => none) else hMem2 l h f args m k
def MOk2 (P : Program) : List (FuncId × MRow2) → Prop
  | [] => True
  | (g, F) :: l => MRow2Ok P g F ∧ MOk2 P l
theorem hMem2_ok {h : Hd} (hh : HSound P h) : ∀ {l : List (FuncId × MRow2)}, MOk2 P l → HSound P (hMem2 l h)
  | [], _ => hh
  | (g, F) :: l, hl => fun f args m k r he hr => by
    simp only [hMem2] at he
    cases hb : Nat.beq f g with
    | false => rw [hb, cond_false] at he; exact hMem2_ok hh hl.2 f args m k r he hr
    | true =>
    rw [hb, cond_true] at he
    have := Nat.eq_of_beq_eq_true hb
    subst this
    split at he <;> try (cases he; done)
    rename_i b x y hF
    obtain ⟨h1, h2⟩ := hl.1 args m b x y hF
    obtain ⟨q1, q2⟩ := brC_ok he hr
    cases b with
    | true =>
      obtain ⟨args0, m0, h3, h4, h5⟩ := h1 rfl
      exact ⟨_, _, q1 rfl, h3.great h4 h5⟩
    | false =>
      obtain ⟨args0, m0, h3, h4, h5⟩ := h2 rfl
      exact ⟨_, _, q2 rfl, h3.great h4 h5⟩

/-- A memory of two blocks. -/
def mem2 (t u : AV) : Mem := { n := 2, t := ((Tr.mk 12).set (some (.cells t true)) 0).set (some (.cells u true)) 1 }
theorem mem2_get {t u : AV} {i : Nat} {b : Blk} (h : (mem2 t u).get i = some b) : (i = 0 ∧ b = .cells t true) ∨ (i = 1 ∧ b = .cells u true) := by
  have h : (((Tr.mk 12).set (some (.cells t true)) 0).set (some (.cells u true)) 1).get i = some b := h
  rcases Tr.get_set _ _ 1 i b h with ⟨h1, h2⟩ | ⟨_, h2⟩
  · exact .inr ⟨h1, (Option.some.inj h2).symm⟩
  · rcases Tr.get_set _ _ 0 i b h2 with ⟨h1, h3⟩ | ⟨_, h3⟩
    · exact .inl ⟨h1, (Option.some.inj h3).symm⟩
    · rw [Tr.get_mk] at h3; cases h3

/-- A method on one block that yields a slice of its own, or none: 'Z': whether it is none, 'W': how long it is, 'C': what it holds. -/
def rowZ (root elt : Sh) (Z : AV → Bool) (W : AV → Nat) (C : AV → Nat → AV) (U : AV → AV) : MRow2 := fun args m => match args with
  | [.pt id [] r] => bif r.beq root then
      (match m.get id with
      | some (.cells t true) => bif t.shape.beq root then some (Z t, ([id], .nsl, mem1 (U t)), ([id], .sl 1 [] 0 (W t) true, mem2 (U t) (.arr (W t) elt (C t)))) else none
      | _ => none) else none
  | _ => none
theorem rowZ_ok {f : FuncId} {root elt : Sh} {Z : AV → Bool} {W : AV → Nat} {C : AV → Nat → AV} {U : AV → AV} (hroot : root.hasRef = false) (helt : elt.hasRef = false) (hU : ∀ t, plain (U t) = true)
    (h1 : ∀ t, Z t = true → Small P f [.pt 0 [] root] (mem1 (norm root t)) .nsl (mem1 (U t)))
    (h2 : ∀ t, Z t = false → Small P f [.pt 0 [] root] (mem1 (norm root t)) (.sl 1 [] 0 (W t) true) (mem2 (U t) (.arr (W t) elt (C t)))) : MRow2Ok P f (rowZ root elt Z W C U) := fun args m b x y he => by
  unfold rowZ at he
  split at he <;> try (cases he; done)
  rename_i id r
  cases hb : r.beq root with
  | false => rw [hb] at he; cases he
  | true =>
  rw [hb, cond_true] at he
  have hr := Sh.beq_eq _ _ hb
  subst hr
  split at he <;> try (cases he; done)
  rename_i t hm
  cases hb2 : t.shape.beq r with
  | false => rw [hb2] at he; cases he
  | true =>
  rw [hb2, cond_true] at he
  cases he
  have ht := Sh.beq_eq _ _ hb2
  have hfit : Fit m [id] (mem1 t) [.pt 0 [] r] [.pt id [] r] := Fit.one (rest := []) rfl (by rw [ht]; exact hroot) hm
  have hn : t.wf → norm r t = t := fun hw => norm_eq r t hw ht
  refine ⟨fun hz => ⟨_, _, Small.of_wf (m := mem1 t) fun _ w2 => ?_, hfit, Nat.le_refl _, rfl, fun i b hb => ?_⟩, fun hz => ⟨_, _, Small.of_wf (m := mem1 t) fun _ w2 => ?_, hfit, by simp [mem2], rfl, fun i b hb => ?_⟩⟩
  · have := h1 t hz
    rw [hn (w2 0 t true rfl)] at this
    exact this
  · obtain ⟨rfl, rfl⟩ := mem1_get hb
    exact ⟨Nat.one_pos, _, true, rfl, hU _, fun h => by simp at h⟩
  · have := h2 t hz
    rw [hn (w2 0 t true rfl)] at this
    exact this
  · rcases mem2_get hb with ⟨rfl, rfl⟩ | ⟨rfl, rfl⟩
    · exact ⟨by simp [mem2], _, true, rfl, hU _, fun _ => rfl⟩
    · exact ⟨by simp [mem2], _, true, rfl, by simp [plain, helt], fun _ => rfl⟩
end
end Go.Ev
