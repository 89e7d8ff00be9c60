/-
  The evaluator: one operation with its guard; a region in the order of the text. Own text; nothing of a program.
-/
import Derived.Test.YtngaeiceicgalaaDoorEvK
namespace Go.Ev
section
variable {P : Program} {ρ : Ren}

/-- The one or the other; what was not yielded is not picked. -/
def pickV (x : Bool) (va vb : AV) : Option Bool × AV :=
  match va, vb with
  | .tup [], vb => (some (!x), vb)
  | va, .tup [] => (some x, va)
  | va, vb => (none, mrg x va vb)

theorem bif_ok {x : Bool} {va vb : AV} {ra rb : Value} (ha : x = true → VR3 ρ va ra) (hb : x = false → VR3 ρ vb rb) :
    VR3 ρ (bif x then va else vb) (if x then ra else rb) := by
  cases x
  · simpa using hb rfl
  · simpa using ha rfl

theorem pickV_ok {x : Bool} {va vb v : AV} {c : Option Bool} {ra rb : Value} (h : pickV x va vb = (c, v)) (hc : c = none ∨ c = some true)
    (ha : x = true → VR3 ρ va ra) (hb : x = false → VR3 ρ vb rb) : VR3 ρ v (if x then ra else rb) := by
  unfold pickV at h
  split at h
  · cases h
    have := cond_of hc
    cases x
    · simpa using hb rfl
    · cases this
  · cases h
    have := cond_of hc
    cases x
    · cases this
    · simpa using ha rfl
  · cases h
    rw [mrg_eq]
    exact bif_ok ha hb

/-- 'a && b', 'a || b' and their like. -/
def evPick (fr : Fr) (G : List (Nat × Bool)) (c a b : Operand) : Option (Option Bool × AV) :=
  match c with
  | .tmp tc => match rdOp fr G (.tmp tc) with
    | some (.bl x) => match rdOp fr (chain fr 8 tc true ++ G) a, rdOp fr (chain fr 8 tc false ++ G) b with
      | some va, some vb => some (pickV x va vb)
      | _, _ => none
    | _ => none
  | _ => none

theorem evPick_ok {fr : Fr} {a : Act} (hf : FRw ρ fr a) {G : List (Nat × Bool)} (hG : ∀ x ∈ G, a.tmps.getD x.1 undef = .bool x.2) {c x y : Operand} {cd : Option Bool} {v : AV} {w : World} {o : Oper}
    (hop : o.op = .pick c x y) (h : evPick fr G c x y = some (cd, v)) (hc : cd = none ∨ cd = some true) : ∃ rv, (execOp a.eval o).run P w = .ok (.value rv) w ∧ VR3 ρ v rv := by
  unfold evPick at h
  split at h <;> try (cases h; done)
  rename_i tc
  split at h <;> try (cases h; done)
  rename_i b hb
  split at h <;> try (cases h; done)
  rename_i va vb ha hvb
  simp only [Option.some.injEq] at h
  have hcv : a.eval (.tmp tc) = .bool b := rdOp_ok hf hG _ _ hb
  refine ⟨if b then a.eval x else a.eval y, ?_, ?_⟩
  · simp only [execOp, hop, Sem.run_bind]
    rw [hcv]
    simp [asBool]
  · refine pickV_ok h hc (fun hx => ?_) (fun hx => ?_)
    · subst hx
      refine rdOp_ok hf (fun z hz => ?_) _ _ ha
      rcases List.mem_append.1 hz with hz | hz
      · exact chain_ok hf 8 tc true hcv z hz
      · exact hG z hz
    · subst hx
      refine rdOp_ok hf (fun z hz => ?_) _ _ hvb
      rcases List.mem_append.1 hz with hz | hz
      · exact chain_ok hf 8 tc false hcv z hz
      · exact hG z hz

/-- Nothing of another operation's guard. -/
def noGd (k : AV → Mem → Option Out) (v : AV) (m : Mem) : Option Out :=
  match v with
  | .gd _ _ _ => none
  | v => k v m

theorem noGd_ok {k : AV → Mem → Option Out} {v : AV} {m : Mem} {r : Out} (h : noGd k v m = some r) : k v m = some r ∧ ∀ t w u, v ≠ .gd t w u := by
  unfold noGd at h
  split at h
  · cases h
  · rename_i hn
    exact ⟨h, fun t w u he => hn t w u he⟩

/-- What an operation yields that leaves the memory as it is. -/
def evSrc (P : Program) (ok : List TypeId) (pc : Pcs) (fr : Fr) (G : List (Nat × Bool)) (m : Mem) (op : Op) : Option (Option Bool × AV) :=
  match op with
  | .pick c a b => evPick fr G c a b
  | .call c => (match evPc pc (rdOp fr G) c with
    | some r => some r
    | none => evPure P ok m (rdOp fr G) (.call c))
  | op => evPure P ok m (rdOp fr G) op

/-- An operation with its guard. -/
def evStep (P : Program) (ok : List TypeId) (pc : Pcs) (h : Hd) (ops : Array Oper) (o : Oper) (fr : Fr) (m : Mem) (k : AV → Mem → Option Out) : Option Out :=
  match o.guard with
  | none => match o.op with
    | .pick c a b => match evPick fr [] c a b with
      | some (cd, v) => bindC cd (noGd k v m)
      | none => none
    | op => evOp P ok pc h (rdOp fr []) m op (noGd k)
  | some (j, want) => match (ops[j]?).bind (·.dst) with
    | none => none
    | some t => match gBool fr 8 t want with
      | none => none
      | some g =>
        match evSrc P ok pc fr (chain fr 8 t want) m o.op with
        | some (none, v) => k (.gd t want v) m
        | some (some c, v) => bindC (some (!g || c)) (k (.gd t want v) m)
        | none => match o.op with
          | .pick _ _ _ => none
          | op => brC g (evOp P ok pc h (rdOp fr (chain fr 8 t want)) m op (noGd k)) (k (.tup []) m)

/-- What a step does. -/
def StepOk (P : Program) (ops : Array Oper) (o : Oper) (fr : Fr) (m : Mem) (v : AV) (m' : Mem) : Prop :=
  (∀ t w u, v = .gd t w u → ∃ j, o.guard = some (j, w) ∧ (ops[j]?).bind (·.dst) = some t) ∧
  ∀ ρ A w a, FRw ρ fr a → Rep ρ A m w →
    (Region.wanted o (yielded ops a.tmps) = true → ∀ next Q, (∀ ρ' rv w', ρ.ext ρ' → VRe ρ' a v rv → Rep ρ' A m' w' → Upd A w w' → next (a.put o.dst rv) w') → o.wp P a w next Q) ∧
    (Region.wanted o (yielded ops a.tmps) = false → VRe ρ a v undef ∧ Rep ρ A m' w)

theorem wanted_iff {ops : Array Oper} {o : Oper} {a : Act} {j t : Nat} {want : Bool} (hg : o.guard = some (j, want)) (ht : (ops[j]?).bind (·.dst) = some t) :
    Region.wanted o (yielded ops a.tmps) = true ↔ a.tmps.getD t undef = .bool want := by
  simp only [Region.wanted, hg, yielded, ht, Option.bind_some]
  rcases Nat.lt_or_ge t a.tmps.size with h | h
  · have e : a.tmps.getD t undef = a.tmps[t] := by simp [h]
    rw [Array.getElem?_eq_getElem h, e]
    constructor
    · intro hh
      split at hh
      · rename_i b hb
        simp at hh hb
        rw [hb, hh]
      · cases hh
    · intro hh
      rw [show a.tmps[t] = .bool want from hh]; simp
  · have e : a.tmps.getD t undef = undef := by simp [Nat.not_lt.2 h]
    rw [Array.getElem?_eq_none h, e]
    constructor
    · intro hh; cases hh
    · intro hh; cases hh

theorem VR3.e {a : Act} {v : AV} {rv : Value} (h : VR3 ρ v rv) : VRe ρ a v rv := by
  cases v
  case gd => exact absurd h VR3_no_gd
  all_goals exact h

theorem Done.step {A : Nat → Prop} {w : World} {o : Oper} {a : Act} {v : AV} {m' : Mem} (h : Done P ρ A w (execOp a.eval o) v m') :
    ∀ (next : Act → World → Prop) (Q : Exit → Act → World → Prop), (∀ ρ' rv w', ρ.ext ρ' → VRe ρ' a v rv → Rep ρ' A m' w' → Upd A w w' → next (a.put o.dst rv) w') → o.wp P a w next Q :=
  fun _ _ hn => h.wp fun ρ' rv w' h1 h2 h3 h4 => hn ρ' rv w' h1 h2.e h3 h4

theorem pure_done' {A : Nat → Prop} {w : World} {m : Mem} (hR : Rep ρ A m w) {s : Sem Next} {v : AV} (h : ∃ rv, s.run P w = .ok (.value rv) w ∧ VR3 ρ v rv) : Done P ρ A w s v m := by
  obtain ⟨rv, h1, h2⟩ := h
  exact .inl ⟨ρ, rv, w, _, h1, .inl rfl, Ren.ext.refl ρ, hR, Upd.refl A w, h2⟩

theorem evSrc_ok {ok : List TypeId} (hok : Fair P ok) {pc : Pcs} (hpc : PSound P pc) {A : Nat → Prop} {w : World} {m : Mem} (hR : Rep ρ A m w) {fr : Fr} {a : Act} (hf : FRw ρ fr a)
    {G : List (Nat × Bool)} (hG : ∀ x ∈ G, a.tmps.getD x.1 undef = .bool x.2) {o : Oper} {cd : Option Bool} {v : AV} (h : evSrc P ok pc fr G m o.op = some (cd, v)) (hc : cd = none ∨ cd = some true) :
    Done P ρ A w (execOp a.eval o) v m := by
  unfold evSrc at h
  split at h
  · rename_i c x y hop
    exact pure_done' hR (evPick_ok (P := P) (w := w) hf hG hop h hc)
  · rename_i c hop
    split at h
    · rename_i r hr
      cases h
      exact evPc_ok hpc hR (rdOp_ok hf hG) hop hr hc
    · exact pure_done hok hR (rdOp_ok hf hG) (by rw [hop]; exact h) hc
  · exact pure_done hok hR (rdOp_ok hf hG) h hc

theorem evStep_ok {ok : List TypeId} (hok : Fair P ok) {pc : Pcs} (hpc : PSound P pc) {h : Hd} (hh : HSound P h) {ops : Array Oper} {o : Oper} {fr : Fr} {m : Mem} {k : AV → Mem → Option Out} {r : Out}
    (he : evStep P ok pc h ops o fr m k = some r) (hr : Om.fine r) : ∃ v m', k v m' = some r ∧ StepOk P ops o fr m v m' := by
  unfold evStep at he
  split at he
  · rename_i hg
    have hwant : ∀ a : Act, Region.wanted o (yielded ops a.tmps) = true := fun a => by simp [Region.wanted, hg]
    split at he
    · rename_i c x y hop
      split at he <;> try (cases he; done)
      rename_i cd v hp
      obtain ⟨hc, hk⟩ := bindC_ok he hr
      obtain ⟨hk, hn⟩ := noGd_ok hk
      refine ⟨v, m, hk, fun t w u hv => absurd hv (hn t w u), fun ρ A w a hf hR => ⟨fun _ => ?_, fun hw => by rw [hwant] at hw; cases hw⟩⟩
      exact (pure_done' hR (evPick_ok (P := P) (w := w) hf (fun x hx => by cases hx) hop hp hc)).step
    · obtain ⟨v, m', hk, hd⟩ := evOp_ok hok hpc hh he hr
      obtain ⟨hk, hn⟩ := noGd_ok hk
      refine ⟨v, m', hk, fun t w u hv => absurd hv (hn t w u), fun ρ A w a hf hR => ⟨fun _ => ?_, fun hw => by rw [hwant] at hw; cases hw⟩⟩
      exact (hd ρ A w a.eval hR (rdOp_ok hf (fun x hx => by cases hx))).step
  · rename_i j want hg
    split at he <;> try (cases he; done)
    rename_i t ht
    split at he <;> try (cases he; done)
    rename_i g hgb
    have hwt : ∀ a : Act, Region.wanted o (yielded ops a.tmps) = true ↔ a.tmps.getD t undef = .bool want := fun a => wanted_iff hg ht
    have hG : ∀ {ρ : Ren} {a : Act}, FRw ρ fr a → a.tmps.getD t undef = .bool want → ∀ x ∈ chain fr 8 t want, a.tmps.getD x.1 undef = .bool x.2 := fun hf hw => chain_ok hf 8 t want hw
    have spec : ∀ (cd : Option Bool) (v : AV), evSrc P ok pc fr (chain fr 8 t want) m o.op = some (cd, v) → k (.gd t want v) m = some r → (cd = none ∨ ∃ c, cd = some c ∧ (!g || c) = true) →
        ∃ v m', k v m' = some r ∧ StepOk P ops o fr m v m' := fun cd v hs hk hc => by
      refine ⟨_, m, hk, fun t' w u hv => ?_, fun ρ A w a hf hR => ⟨fun hw => ?_, fun hw => ?_⟩⟩
      · cases hv; exact ⟨j, hg, ht⟩
      · have hwt' := (hwt a).1 hw
        have hd := evSrc_ok hok hpc hR hf (hG hf hwt') hs (by
          rcases hc with hc | ⟨c, rfl, hc⟩
          · exact .inl hc
          · have := (gBool_ok hf 8 t want g hgb).2 hwt'
            subst this
            simp at hc
            exact .inr (by rw [hc]))
        intro next Q hn
        exact hd.wp fun ρ' rv w' h1 h2 h3 h4 => hn ρ' rv w' h1 ⟨fun _ => h2, fun hne => absurd hwt' hne⟩ h3 h4
      · have hne : a.tmps.getD t undef ≠ .bool want := fun h => by rw [(hwt a).2 h] at hw; cases hw
        exact ⟨⟨fun h => absurd h hne, fun _ => rfl⟩, hR⟩
    split at he
    · rename_i v hs
      exact spec none v hs he (.inl rfl)
    · rename_i c v hs
      obtain ⟨hc, hk⟩ := bindC_ok he hr
      refine spec (some c) v hs hk (.inr ⟨c, rfl, ?_⟩)
      rcases hc with hc | hc
      · cases hc
      · exact Option.some.inj hc
    · split at he <;> try (cases he; done)
      obtain ⟨h1, h2⟩ := brC_ok he hr
      cases g with
      | true =>
        obtain ⟨v, m', hk, hd⟩ := evOp_ok hok hpc hh (h1 rfl) hr
        obtain ⟨hk, hn⟩ := noGd_ok hk
        refine ⟨v, m', hk, fun t w u hv => absurd hv (hn t w u), fun ρ A w a hf hR => ⟨fun hw => ?_, fun hw => ?_⟩⟩
        · exact (hd ρ A w a.eval hR (rdOp_ok hf (hG hf ((hwt a).1 hw)))).step
        · rw [(hwt a).2 ((gBool_ok hf 8 t want true hgb).1 rfl)] at hw; cases hw
      | false =>
        refine ⟨.tup [], m, h2 rfl, ?_, ?_⟩
        · intro t' w u hv; cases hv
        intro ρ A w a hf hR
        refine ⟨fun hw => ?_, fun _ => ⟨⟨#[], rfl, trivial⟩, hR⟩⟩
        have := (gBool_ok hf 8 t want false hgb).2 ((hwt a).1 hw)
        cases this

/- A region, one operation behind the other in the order of the text. -/
def memN (d : Nat) : List Nat → Bool
  | [] => false
  | e :: r => Nat.beq d e || memN d r

theorem memN_iff (d : Nat) (l : List Nat) : memN d l = true ↔ d ∈ l := by
  induction l with
  | nil => simp [memN]
  | cons e l ih => simp [memN, ih, Nat.beq_eq]

def fresh (d : Option Nat) (S : List Nat) : Bool := match d with | some d => !memN d S | none => true
def addD (d : Option Nat) (S : List Nat) : List Nat := match d with | some d => d :: S | none => S

/-- Each temporary is written once; a guard's is written before. Where no operation has a guard nothing is asked. -/
def chk (gs : Bool) (ops : Array Oper) (S : List Nat) (o : Oper) : Bool :=
  match o.guard with
  | none => !gs || fresh o.dst S
  | some (j, _) => gs && fresh o.dst S && (match (ops[j]?).bind (·.dst) with | some t => memN t S | none => false)

def evOps (P : Program) (ok : List TypeId) (pc : Pcs) (h : Hd) (ops : Array Oper) (gs : Bool) : List Oper → List Nat → Fr → Mem → (Fr → Mem → Option Out) → Option Out
  | [], _, fr, m, k => k fr m
  | o :: r, S, fr, m, k => bif chk gs ops S o then evStep P ok pc h ops o fr m fun v m' => evOps P ok pc h ops gs r (bif gs then addD o.dst S else S) (fr.put o.dst v) m' k else none

def clearG : List Oper → Fr → Fr
  | [], fr => fr
  | o :: r, fr => match o.guard, o.dst with
    | some _, some d => clearG r (fr.del d)
    | _, _ => clearG r fr

def anyG (ops : List Oper) : Bool := ops.any (·.guard.isSome)

/-- Where entries under a guard stand. -/
def GdIn (fr : Fr) (S D : List Nat) : Prop := ∀ t t' w v, fr.get t = some (.gd t' w v) → t' ∈ S ∧ t ∈ D
def NoGd (fr : Fr) : Prop := ∀ t t' w v, fr.get t ≠ some (.gd t' w v)

theorem Fr.get_put {fr : Fr} {d t : Nat} {v u : AV} (h : (fr.put (some d) v).get t = some u) : (t = d ∧ u = v ∧ d < fr.n) ∨ (t ≠ d ∧ fr.get t = some u) := by
  simp only [Fr.put, Fr.get] at h
  rcases Tr.get_set _ fr.t d t u h with ⟨h1, h2⟩ | ⟨h1, h2⟩
  · cases hb : Nat.blt d fr.n with
    | false => rw [hb] at h2; cases h2
    | true => rw [hb] at h2; exact .inl ⟨h1, (Option.some.inj h2).symm, by simpa using hb⟩
  · exact .inr ⟨h1, h2⟩

theorem Fr.get_del {fr : Fr} {d t : Nat} {u : AV} (h : (fr.del d).get t = some u) : t ≠ d ∧ fr.get t = some u := by
  rcases Tr.get_set none fr.t d t u h with ⟨_, h2⟩ | ⟨h1, h2⟩
  · cases h2
  · exact ⟨h1, h2⟩

theorem getD_set_self {xs : Array Value} {d : Nat} (h : d < xs.size) (v : Value) : (xs.setIfInBounds d v).getD d undef = v := by
  simp [h]
theorem getD_set_other {xs : Array Value} {d t : Nat} (h : t ≠ d) (v : Value) : (xs.setIfInBounds d v).getD t undef = xs.getD t undef := by
  simp [Array.getElem?_setIfInBounds_ne (Ne.symm h)]

theorem VRe.other {a a' : Act} {v : AV} {rv : Value} (hv : VRe ρ a v rv) (h : ∀ t w u, v = .gd t w u → a'.tmps.getD t undef = a.tmps.getD t undef) : VRe ρ a' v rv := by
  cases v
  case gd t w u => rw [VRe, h t w u rfl]; exact hv
  all_goals exact hv

/-- A temporary is written. -/
theorem FR.put {fr : Fr} {a : Act} (hf : FR ρ fr a) {d : Option Nat} {v : AV} {rv : Value} (hv : VRe ρ a v rv)
    (hd : ∀ e, d = some e → (∀ t w u, v = .gd t w u → t ≠ e) ∧ ∀ t t' w u, t ≠ e → fr.get t = some (.gd t' w u) → t' ≠ e) : FR ρ (fr.put d v) (a.put d rv) := by
  cases d with
  | none => exact hf
  | some d =>
    obtain ⟨h1, h2⟩ := hd d rfl
    refine ⟨by simp [Act.put, Fr.put, hf.size], fun t u hu => ?_⟩
    simp only [Act.put]
    rcases Fr.get_put hu with ⟨rfl, rfl, hlt⟩ | ⟨hne, hu'⟩
    · rw [getD_set_self (by rw [hf.size]; exact hlt)]
      exact hv.other fun t' w u' he => getD_set_other (h1 t' w u' he) rv
    · rw [getD_set_other hne]
      exact (hf.get t u hu').other fun t' w u' he => by
        subst he
        exact getD_set_other (h2 t t' w u' hne hu') rv

theorem evOps_ok {ok : List TypeId} (hok : Fair P ok) {pc : Pcs} (hpc : PSound P pc) {h : Hd} (hh : HSound P h) {ops : Array Oper} {gs : Bool} {r : Out} (hr : Om.fine r) :
    ∀ (l : List Oper) (S D : List Nat) (fr : Fr) (m : Mem) (k : Fr → Mem → Option Out), evOps P ok pc h ops gs l S fr m k = some r → GdIn fr S D → (gs = false → NoGd fr) →
      ∃ fr' m', k fr' m' = some r ∧ (GdIn fr' (l.foldl (fun S o => addD o.dst S) S) (l.foldl (fun D o => match o.guard with | some _ => addD o.dst D | none => D) D)) ∧ (gs = false → NoGd fr') ∧
        ∀ (Q : Exit → Act → World → Prop) ρ A w a, FR ρ fr a → Rep ρ A m w → (∀ ρ' a' w', ρ.ext ρ' → FR ρ' fr' a' → Rep ρ' A m' w' → Upd A w w' → a'.defers = a.defers → Q .normal a' w') → wpList P ops Q l a w
  | [], S, D, fr, m, k, he, hg, hng => ⟨fr, m, he, hg, hng, fun Q ρ A w a hf hR hq => hq ρ a w (Ren.ext.refl ρ) hf hR (Upd.refl A w) rfl⟩
  | o :: l, S, D, fr, m, k, he, hg, hng => by
    simp only [evOps] at he
    cases hc : chk gs ops S o with
    | false => rw [hc] at he; cases he
    | true =>
    rw [hc, cond_true] at he
    obtain ⟨v, m1, hk, hgd, hstep⟩ := evStep_ok hok hpc hh he hr
    -- what 'chk' says
    have hfresh : gs = true → fresh o.dst S = true := fun hgs => by
      unfold chk at hc
      split at hc
      · simpa [hgs] using hc
      · simp only [Bool.and_eq_true] at hc; exact hc.1.2
    have hguard : ∀ t w u, v = .gd t w u → gs = true ∧ t ∈ S ∧ o.guard.isSome = true := fun t w u hv => by
      obtain ⟨j, h1, h2⟩ := hgd t w u hv
      unfold chk at hc
      rw [h1] at hc
      simp only [Bool.and_eq_true, h2] at hc
      exact ⟨hc.1.1, (memN_iff _ _).1 hc.2, by simp [h1]⟩
    have hd : ∀ e, o.dst = some e → (∀ t w u, v = .gd t w u → t ≠ e) ∧ ∀ t t' w u, t ≠ e → fr.get t = some (.gd t' w u) → t' ≠ e := fun e hde => by
      have hnot : gs = true → e ∉ S := fun hgs => by
        have := hfresh hgs
        simp only [fresh, hde, Bool.not_eq_true', ← Bool.not_eq_true, memN_iff] at this
        exact this
      refine ⟨fun t w u hv he' => ?_, fun t t' w u _ hget he' => ?_⟩
      · obtain ⟨h1, h2, _⟩ := hguard t w u hv
        subst he'; exact hnot h1 h2
      · cases hgs : gs with
        | true => subst he'; exact hnot hgs (hg t _ w u hget).1
        | false => exact hng hgs t t' w u hget
    -- the frame behind the step
    have hg1 : GdIn (fr.put o.dst v) (addD o.dst S) (match o.guard with | some _ => addD o.dst D | none => D) := fun t t' w u hget => by
      cases hdst : o.dst with
      | none =>
        rw [hdst] at hget
        obtain ⟨q1, q2⟩ := hg t t' w u hget
        refine ⟨by simpa [addD] using q1, ?_⟩
        cases o.guard <;> simpa [addD] using q2
      | some e =>
        rw [hdst] at hget
        rcases Fr.get_put hget with ⟨rfl, h2, _⟩ | ⟨hne, h2⟩
        · obtain ⟨_, p2, p3⟩ := hguard t' w u h2.symm
          refine ⟨by simp [addD, p2], ?_⟩
          cases hgo : o.guard with
          | none => rw [hgo] at p3; cases p3
          | some x => simp [addD]
        · obtain ⟨q1, q2⟩ := hg t t' w u h2
          refine ⟨by simp [addD, q1], ?_⟩
          cases o.guard <;> simp [addD, q2]
    have hng1 : gs = false → NoGd (fr.put o.dst v) := fun hgs t t' w u hget => by
      cases hdst : o.dst with
      | none => rw [hdst] at hget; exact hng hgs t t' w u hget
      | some e =>
        rw [hdst] at hget
        rcases Fr.get_put hget with ⟨_, h2, _⟩ | ⟨_, h2⟩
        · have := (hguard t' w u h2.symm).1
          rw [hgs] at this; cases this
        · exact hng hgs t t' w u h2
    have hg1' : GdIn (fr.put o.dst v) (bif gs then addD o.dst S else S) (match o.guard with | some _ => addD o.dst D | none => D) := by
      cases hgs : gs with
      | true => simpa [hgs] using hg1
      | false => exact fun t t' w u hget => absurd hget (hng1 hgs t t' w u)
    obtain ⟨fr', m', k1, k2, k3, k4⟩ := evOps_ok hok hpc hh hr l _ _ _ _ _ hk hg1' hng1
    refine ⟨fr', m', k1, ?_, k3, fun Q ρ A w a hf hR hq => ?_⟩
    · simp only [List.foldl_cons]
      cases hgs : gs with
      | true => rw [hgs] at k2; simpa using k2
      | false => exact fun t t' w u hget => absurd hget (k3 hgs t t' w u)
    · unfold wpList
      obtain ⟨s1, s2⟩ := hstep ρ A w a hf.get hR
      split
      · rename_i hw
        refine .inl (s1 hw _ _ fun ρ' rv w' h1 h2 h3 h4 => ?_)
        exact k4 Q ρ' A w' _ ((hf.mono h1.tole).put h2 hd) h3 fun ρ'' a' w'' q1 q2 q3 q4 q5 => hq ρ'' a' w'' (h1.trans q1) q2 q3 (h4.trans q4) (q5.trans (by cases o.dst <;> rfl))
      · rename_i hw
        obtain ⟨h2, h3⟩ := s2 (by simpa using hw)
        exact k4 Q ρ A w _ (hf.put h2 hd) h3 fun ρ'' a' w'' q1 q2 q3 q4 q5 => hq ρ'' a' w'' q1 q2 q3 q4 (q5.trans (by cases o.dst <;> rfl))

end
end Go.Ev
