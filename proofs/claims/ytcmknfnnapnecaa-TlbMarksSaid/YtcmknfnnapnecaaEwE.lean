/-
  Loops whose states are told one by one; several loops of one function. Own text; nothing of a program.
-/
import Derived.Test.YtcmknfnnapnecaaEwD
namespace Go.Ev
section
variable {P : Program}

/-- A loop whose states are given one by one. -/
theorem loopJ_block {B : Nat} {b : Code} {n0 : Nat} {F : Nat → Fr} {M : Nat → Mem} {n : Nat} {c : Int} {fr2 : Fr} {m2 : Mem} (ht : ∀ j, j < n → Turn P n0 b (F j) (M j) 0 (F (j + 1)) (M (j + 1)))
    (hx : Turn P n0 b (F n) (M n) c fr2 m2) (hc : c ≠ 0) {fr : Fr} {m : Mem} (hm : m.n = n0) (hb : Back n0 fr m (F 0) (M 0)) {e : Exit} (he : exNo e = some c) : Runs P (.block B (.loop b)) fr m (exBlock B e) fr2 m2 := by
  have key : ∀ k j, j + k = n → Chain P n0 b (k + 1) (F j) (M j) e fr2 m2 := fun k => by
    induction k with
    | zero =>
      intro j hj
      have : j = n := by omega
      subst this
      obtain ⟨e', fr', m', k1, k2, k3⟩ := hx
      rw [exNo_inj he k1]
      exact .last k2 (exNo_ne k1 hc) k3
    | succ k ih =>
      intro j hj
      obtain ⟨e', fr', m', k1, k2, k3⟩ := ht j (by omega)
      rw [exNo_zero k1] at k2
      exact .step k2 k3 (ih (j + 1) (by omega))
  exact Runs.block ((key n 0 (by omega)).runs hm hb)

/-- A loop that goes on in one way where a condition holds. -/
def goJ (chk cond : (Nat → AV) → Bool) (e : Exit) (F : (Nat → AV) → Fr) (M : (Nat → AV) → Mem) : (Nat → AV) → Kc → Option Out := fun g k =>
  bif chk g then bindC (some (cond g)) (k e (F g) (M g)) else none
theorem goJ_ok {chk cond : (Nat → AV) → Bool} {ex : Exit} {F : (Nat → AV) → Fr} {M : (Nat → AV) → Mem} {B : Nat} {b : Code} {L : Lq} {shs : List Sh} (h : ∀ g, chk g = true → cond g = true →
    NoGd (F g) ∧ ∀ fr m, m.n = L.n0 → Back L.n0 fr m (L.F (norms shs 0 g)) (L.M (norms shs 0 g)) → Runs P (.block B b) fr m ex (F g) (M g)) : GoesN P B b L shs (goJ chk cond ex F M) := fun g k r he hr => by
  unfold goJ at he
  cases hp : chk g with
  | false => rw [hp] at he; cases he
  | true =>
  rw [hp, cond_true] at he
  obtain ⟨c1, he⟩ := bindC_ok he hr
  have hs : cond g = true := by
    rcases c1 with c1 | c1
    · cases c1
    · exact Option.some.inj c1
  obtain ⟨h1, h2⟩ := h g hp hs
  exact ⟨_, _, _, he, h1, h2⟩

/-- One of two ways to know a loop. -/
def ovOr (o1 o2 : Ov) : Ov := fun id fr m k => match o1 id fr m k with
  | some r => some r
  | none => o2 id fr m k
theorem ovOr_ok {o1 o2 : Ov} : ∀ {c : Code}, OvOk P o1 c → OvOk P o2 c → OvOk P (ovOr o1 o2) c
  | .seq a b, h1, h2 => ⟨ovOr_ok h1.1 h2.1, ovOr_ok h1.2 h2.2⟩
  | .cond _ a b, h1, h2 => ⟨ovOr_ok h1.1 h2.1, ovOr_ok h1.2 h2.2⟩
  | .block id b, h1, h2 => ⟨fun fr m k r hg h hr => by
      unfold ovOr at h
      split at h
      · rename_i x hx
        rw [h] at hx
        exact h1.1 fr m k r hg hx hr
      · exact h2.1 fr m k r hg h hr, ovOr_ok h1.2 h2.2⟩
  | .loop b, h1, h2 => ovOr_ok (c := b) h1 h2
  | .scope b, h1, h2 => ovOr_ok (c := b) h1 h2
  | .skip, _, _ => trivial
  | .region _ _ _, _, _ => trivial
  | .rangeFunc _ _ _ _, _, _ => trivial
  | .exit _, _, _ => trivial
  | .label _, _, _ => trivial
  | .goto _, _, _ => trivial
  | .ret, _, _ => trivial
  | .refuse _, _, _ => trivial

/-- .. of a piece of a code. -/
theorem ovN_sub {B : Nat} {b : Code} {L : Lq} {shs : List Sh} {go : (Nat → AV) → Kc → Option Out} (hL : L.wf = true) (hgo : GoesN P B b L shs go) {c : Code} (hc : ((blks c).all fun x => !Nat.beq x.1 B) = true ∨ ∀ x ∈ blks c, x.1 = B → x.2 = b) :
    OvOk P (ovN B L shs go) c := ovN_ok hL hgo fun x hx h => by
  rcases hc with hc | hc
  · have := List.all_eq_true.1 hc x hx
    rw [h] at this
    simp at this
  · exact hc x hx h
end
end Go.Ev
