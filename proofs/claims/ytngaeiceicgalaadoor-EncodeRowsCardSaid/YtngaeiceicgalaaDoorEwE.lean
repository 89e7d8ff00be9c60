/-
  Loops whose states are told one by one; several loops of one function. Own text; nothing of a program.
-/
import Derived.Test.YtngaeiceicgalaaDoorEwD
namespace Go.Ev
section
variable {P : Program}

/-- A loop whose states are given one by one. -/
theorem loopJ_block {B : Nat} {b : Code} {n0 : Nat} {F : Nat → Fr} {M : Nat → Mem} {n : Nat} {c : Int} {fr2 : Fr} {m2 : Mem} (ht : ∀ j, j < n → Turn P n0 b (F j) (M j) 0 (F (j + 1)) (M (j + 1)))
    (hx : Turn P n0 b (F n) (M n) c fr2 m2) (hc : c ≠ 0) {fr : Fr} {m : Mem} (hm : m.n = n0) (hb : Back n0 fr m (F 0) (M 0)) {e : Exit} (he : exNo e = some c) : Runs P (.block B (.loop b)) fr m (exBlock B e) fr2 m2 := by
  have key : ∀ k j, j + k = n → Chain P n0 b (k + 1) (F j) (M j) e fr2 m2 := fun k => by
    induction k with
    | zero =>
      intro j hj
      have : j = n := by omega
      subst this
      obtain ⟨e', fr', m', k1, k2, k3⟩ := hx
      rw [exNo_inj he k1]
      exact .last k2 (exNo_ne k1 hc) k3
    | succ k ih =>
      intro j hj
      obtain ⟨e', fr', m', k1, k2, k3⟩ := ht j (by omega)
      rw [exNo_zero k1] at k2
      exact .step k2 k3 (ih (j + 1) (by omega))
  exact Runs.block ((key n 0 (by omega)).runs hm hb)

/-- A loop that goes on in one way where a condition holds. -/
def goJ (chk cond : (Nat → AV) → Bool) (e : Exit) (F : (Nat → AV) → Fr) (M : (Nat → AV) → Mem) : (Nat → AV) → Kc → Option Out := fun g k =>
  bif chk g then bindC (some (cond g)) (k e (F g) (M g)) else none
theorem goJ_ok {chk cond : (Nat → AV) → Bool} {ex : Exit} {F : (Nat → AV) → Fr} {M : (Nat → AV) → Mem} {B : Nat} {b : Code} {L : Lq} {shs : List Sh} (h : ∀ g, chk g = true → cond g = true →
    NoGd (F g) ∧ ∀ fr m, m.n = L.n0 → Back L.n0 fr m (L.F (norms shs 0 g)) (L.M (norms shs 0 g)) → Runs P (.block B b) fr m ex (F g) (M g)) : GoesN P B b L shs (goJ chk cond ex F M) := fun g k r he hr => by
  unfold goJ at he
  cases hp : chk g with
  | false => rw [hp] at he; cases he
  | true =>
  rw [hp, cond_true] at he
  obtain ⟨c1, he⟩ := bindC_ok he hr
  have hs : cond g = true := by
    rcases c1 with c1 | c1
    · cases c1
    · exact Option.some.inj c1
  obtain ⟨h1, h2⟩ := h g hp hs
  exact ⟨_, _, _, he, h1, h2⟩

/-- One of two ways to know a loop. -/
def ovOr (o1 o2 : Ov) : Ov := fun id fr m k => match o1 id fr m k with
  | some r => some r
  | none => o2 id fr m k
theorem ovOr_ok {o1 o2 : Ov} : ∀ {c : Code}, OvOk P o1 c → OvOk P o2 c → OvOk P (ovOr o1 o2) c
  | .seq a b, h1, h2 => ⟨ovOr_ok h1.1 h2.1, ovOr_ok h1.2 h2.2⟩
  | .cond _ a b, h1, h2 => ⟨ovOr_ok h1.1 h2.1, ovOr_ok h1.2 h2.2⟩
  | .block id b, h1, h2 => ⟨fun fr m k r hg h hr => by
      unfold ovOr at h
      split at h
      · rename_i x hx
        rw [h] at hx
        exact h1.1 fr m k r hg hx hr
      · exact h2.1 fr m k r hg h hr, ovOr_ok h1.2 h2.2⟩
  | .loop b, h1, h2 => ovOr_ok (c := b) h1 h2
  | .scope b, h1, h2 => ovOr_ok (c := b) h1 h2
  | .skip, _, _ => trivial
  | .region _ _ _, _, _ => trivial
  | .rangeFunc _ _ _ _, _, _ => trivial
  | .exit _, _, _ => trivial
  | .label _, _, _ => trivial
  | .goto _, _, _ => trivial
  | .ret, _, _ => trivial
  | .refuse _, _, _ => trivial

/-- .. of a piece of a code. -/
theorem ovN_sub {B : Nat} {b : Code} {L : Lq} {shs : List Sh} {go : (Nat → AV) → Kc → Option Out} (hL : L.wf = true) (hgo : GoesN P B b L shs go) {c : Code} (hc : ((blks c).all fun x => !Nat.beq x.1 B) = true ∨ ∀ x ∈ blks c, x.1 = B → x.2 = b) :
    OvOk P (ovN B L shs go) c := ovN_ok hL hgo fun x hx h => by
  rcases hc with hc | hc
  · have := List.all_eq_true.1 hc x hx
    rw [h] at this
    simp at this
  · exact hc x hx h

/- A loop whose state's arrays are of any length. -/
inductive Tm where
  | fx (s : Sh)
  | ar (s : Sh)
def tmB : List AV → List Tm → Bool
  | [], [] => true
  | a :: l, .fx s :: r => a.shape.beq s && tmB l r
  | .arr _ s' _ :: l, .ar s :: r => s'.beq s && tmB l r
  | _, _ => false
def lenA : AV → Nat
  | .arr n _ _ => n
  | _ => 0
def tmS (g : Nat → AV) : List Tm → Nat → List Sh
  | [], _ => []
  | .fx s :: r, k => s :: tmS g r (k + 1)
  | .ar s :: r, k => .arr (lenA (g k)) s :: tmS g r (k + 1)
theorem tmB_ok {g : Nat → AV} : ∀ {l : List AV} {ts : List Tm} {k : Nat}, tmB l ts = true → (∀ i a, l[i]? = some a → g (k + i) = a) → AV.shapes l = tmS g ts k
  | [], [], _, _, _ => rfl
  | a :: l, .fx s :: r, k, h, hg => by
    have h : (a.shape.beq s && tmB l r) = true := by cases a <;> exact h
    simp only [Bool.and_eq_true] at h
    have ih := tmB_ok (g := g) (k := k + 1) h.2 fun i b hb => by rw [show k + 1 + i = k + (i + 1) by omega]; exact hg (i + 1) b (by simpa using hb)
    show a.shape :: AV.shapes l = s :: tmS g r (k + 1)
    rw [Sh.beq_eq _ _ h.1, ih]
  | .arr n s' f :: l, .ar s :: r, k, h, hg => by
    simp only [tmB, Bool.and_eq_true] at h
    have ih := tmB_ok (g := g) (k := k + 1) h.2 fun i b hb => by rw [show k + 1 + i = k + (i + 1) by omega]; exact hg (i + 1) b (by simpa using hb)
    have h0 := hg 0 _ rfl
    show Sh.arr n s' :: AV.shapes l = .arr (lenA (g k)) s :: tmS g r (k + 1)
    rw [Sh.beq_eq _ _ h.1, ih, show g k = .arr n s' f from h0]
    rfl
def ovT (B : Nat) (L : Lq) (ts : List Tm) (go : (Nat → AV) → Kc → Option Out) : Ov := fun id fr m k =>
  bif Nat.beq id B then
    match grabQ L .normal fr m with
    | some (_, .tup (_ :: l)) => bif Nat.beq m.n L.n0 && (L.ok l && tmB l ts) then some (go (fun i => l.getD i .un) k) else none
    | _ => none
  else none
def GoesT (P : Program) (B : Nat) (b : Code) (L : Lq) (ts : List Tm) (go : (Nat → AV) → Kc → Option Out) : Prop :=
  ∀ g k r, go g k = some r → Om.fine r → ∃ e fr' m', k e fr' m' = some r ∧ NoGd fr' ∧ ∀ fr m, m.n = L.n0 → Back L.n0 fr m (L.F (norms (tmS g ts 0) 0 g)) (L.M (norms (tmS g ts 0) 0 g)) → Runs P (.block B b) fr m e fr' m'
theorem ovT_ok {B : Nat} {b : Code} {L : Lq} {ts : List Tm} {go : (Nat → AV) → Kc → Option Out} (hL : L.wf = true) (hgo : GoesT P B b L ts go) {c : Code} (hc : ∀ x ∈ blks c, x.1 = B → x.2 = b) : OvOk P (ovT B L ts go) c := by
  refine OvOk_blks c fun x hx fr m k r hng h hr => ?_
  by_cases hx1 : x.1 = B
  · have := hc x hx hx1
    obtain ⟨i, d⟩ := x
    simp only at hx1 this
    subst hx1; subst this
    unfold ovT at h
    have hB : Nat.beq i i = true := by simp
    rw [hB, cond_true] at h
    split at h <;> try (cases h; done)
    rename_i g x l hg
    cases hc : Nat.beq m.n L.n0 && (L.ok l && tmB l ts) with
    | false => rw [hc] at h; cases h
    | true =>
    rw [hc, cond_true] at h
    simp only [Bool.and_eq_true, Nat.beq_eq] at hc
    obtain ⟨hc1, hc2, hc3⟩ := hc
    obtain ⟨k1, c', l1, a, b', q, l', k2, k3, k4, k5, k6, k7⟩ := grabQ_ok hg
    injection k7 with _ k7
    injection k7 with k7
    injection k7 with _ k8
    rw [k8] at hc2 hc3
    have hb := L.back_norm hL hng k1 k3 k4 k5 k6 hc2 (tmB_ok (g := fun i => (l1 ++ a ++ (l' ++ b')).getD i .un) (k := 0) hc3 fun i a h => by
      rw [Nat.zero_add, List.getD_eq_getElem?_getD, h]; rfl)
    rw [← k8] at hb
    obtain ⟨e, fr', m', g1, g2, g3⟩ := hgo _ k r (Option.some.inj h) hr
    exact ⟨e, fr', m', g1, g2, g3 fr m hc1 hb⟩
  · unfold ovT at h
    have : Nat.beq x.1 B = false := by
      rw [← Bool.not_eq_true, Nat.beq_eq]; exact hx1
    rw [this] at h
    cases h
theorem goT_ok {chk cond : (Nat → AV) → Bool} {ex : Exit} {F : (Nat → AV) → Fr} {M : (Nat → AV) → Mem} {B : Nat} {b : Code} {L : Lq} {ts : List Tm} (h : ∀ g, chk g = true → cond g = true →
    NoGd (F g) ∧ ∀ fr m, m.n = L.n0 → Back L.n0 fr m (L.F (norms (tmS g ts 0) 0 g)) (L.M (norms (tmS g ts 0) 0 g)) → Runs P (.block B b) fr m ex (F g) (M g)) : GoesT P B b L ts (goJ chk cond ex F M) := fun g k r he hr => by
  unfold goJ at he
  cases hp : chk g with
  | false => rw [hp] at he; cases he
  | true =>
  rw [hp, cond_true] at he
  obtain ⟨c1, he⟩ := bindC_ok he hr
  have hs : cond g = true := by
    rcases c1 with c1 | c1
    · cases c1
    · exact Option.some.inj c1
  obtain ⟨h1, h2⟩ := h g hp hs
  exact ⟨_, _, _, he, h1, h2⟩
/-- A block that is no loop, by the evaluation of what it holds. -/
theorem Turn.block {B : Nat} {b : Code} {n0 : Nat} {fr1 : Fr} {m1 : Mem} {c : Int} {fr2 : Fr} {m2 : Mem} (h : Turn P n0 b fr1 m1 c fr2 m2) {fr : Fr} {m : Mem} (hm : m.n = n0) (hb : Back n0 fr m fr1 m1) {e : Exit} (he : exNo e = some c) : Runs P (.block B b) fr m (exBlock B e) fr2 m2 := by
  obtain ⟨e', fr', m', k1, k2, k3⟩ := h
  rw [exNo_inj he k1]
  refine Runs.block fun ρ A w a hf hR => ?_
  obtain ⟨ρ1, p1, p2, p3⟩ := hb ρ A w a hf hR
  have hn : ρ.n = n0 := hR.n.trans hm
  have hx := p1 ρ hn hR.lt (Ren.ext.refl ρ)
  refine wp_mono (k2 ρ1 A w a p2 p3) fun e2 a2 w2 ⟨q0, q1, ρ', q2, q3, q4, q5⟩ => ?_
  obtain ⟨ρ2, r1, r2, r3⟩ := k3 ρ' A w2 a2 q3 q4
  exact ⟨q0, q1, ρ2, r1 ρ hn hR.lt (hx.trans q2), r2, r3, q5⟩
end
end Go.Ev
