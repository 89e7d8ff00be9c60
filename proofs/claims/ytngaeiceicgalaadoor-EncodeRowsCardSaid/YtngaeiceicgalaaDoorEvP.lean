/-
  A region whose order is open, as a whole. Own text; nothing of a program.
-/
import Derived.Test.YtngaeiceicgalaaDoorEvO
import Derived.StillTail
namespace Go.Ev
section
variable {P : Program}

theorem filter_less {p p' : Nat → Bool} {i : Nat} : ∀ (l : List Nat), (∀ x, p' x = true → p x = true) → i ∈ l → p i = true → p' i = false → (l.filter p').length < (l.filter p).length
  | [], _, h, _, _ => by cases h
  | x :: l, hs, hm, h1, h2 => by
    have hle : ∀ l : List Nat, (l.filter p').length ≤ (l.filter p).length := fun l => by
      induction l with
      | nil => simp
      | cons y l ih =>
        cases hy : p' y with
        | true => simp [hy, hs y hy]; exact ih
        | false =>
          cases hy2 : p y with
          | true => simp [hy, hy2]; omega
          | false => simp [hy, hy2]; exact ih
    rcases List.mem_cons.1 hm with rfl | hm
    · simp [h1, h2]
      have := hle l; omega
    · have ih := filter_less l hs hm h1 h2
      cases hx : p' x with
      | true => simp [hx, hs x hx]; exact ih
      | false =>
        cases hx2 : p x with
        | true => simp [hx, hx2]; omega
        | false => simp [hx, hx2]; exact ih

theorem Inv.congr {ρ0 : Ren} {fr0 : Fr} {m0 : Mem} {rs : List Rec} {A : Nat → Prop} {w0 : World} {a0 : Act} {L L' : Nat → Prop} {ρ : Ren} {a : Act} {w : World} (h : Inv ρ0 fr0 m0 rs A w0 a0 L ρ a w)
    (he : ∀ k, L k ↔ L' k) : Inv ρ0 fr0 m0 rs A w0 a0 L' ρ a w := by
  have : L = L' := funext fun k => propext (he k)
  rw [← this]; exact h

def left (ops : Array Oper) (listed : Array Bool) : Nat := ((List.range ops.size).filter fun k => !listed.getD k false).length

theorem any_ok {ops : Array Oper} {fr0 fr : Fr} {m0 m : Mem} {rs : List Rec} {S : List Nat} {A : Nat → Prop} {w0 : World} {a0 : Act} {ρ0 : Ren} {Q : Exit → Act → World → Prop}
    (hb : backs ops.toList 0 = true) (hO : Ordered ops rs) (hK : KnownAll P ops fr0 m0 rs fr m S) (hng : NoGd fr0) (hlen : rs.length = ops.size)
    (hQ : ∀ ρ a w, Inv ρ0 fr0 m0 rs A w0 a0 (· < ops.size) ρ a w → Q .normal a w) :
    ∀ (fuel : Nat) (listed : Array Bool) (ρ : Ren) (a : Act) (w : World), listed.size = ops.size → left ops listed ≤ fuel → Closed ops (fun k => listed.getD k false = true) →
      Inv ρ0 fr0 m0 rs A w0 a0 (fun k => listed.getD k false = true) ρ a w → wpAny P .any ops Q fuel listed a w := by
  have hbacks : ∀ (l : List Oper) (n : Nat), backs l n = true → ∀ (k : Nat) (o : Oper), l[k]? = some o → ∀ e ∈ o.after, Region.binds .any e = true → e.on < n + k := by
    intro l
    induction l with
    | nil => intro n _ k o h; simp at h
    | cons x l ih =>
      intro n h k o hk e he hbe
      simp only [backs, Bool.and_eq_true] at h
      cases k with
      | zero =>
        simp at hk; subst hk
        have := List.all_eq_true.1 h.1 e (by simpa using he)
        simp only [hbe, Bool.not_true, Bool.false_or] at this
        simpa using this
      | succ k =>
        have := ih (n + 1) h.2 k o (by simpa using hk) e he hbe
        omega
  have hdone : ∀ (listed : Array Bool) (ρ : Ren) (a : Act) (w : World), listed.size = ops.size → Closed ops (fun k => listed.getD k false = true) →
      Inv ρ0 fr0 m0 rs A w0 a0 (fun k => listed.getD k false = true) ρ a w → Region.ready .any ops listed = [] → Q .normal a w := fun listed ρ a w hsz hc hI hr => by
    have hall : ∀ (n k : Nat), k < n → k < ops.size → listed.getD k false = true := by
      intro n
      induction n with
      | zero => intro k h; omega
      | succ n ih =>
        intro k hk hks
        rcases Nat.lt_or_ge k n with h | h
        · exact ih k h hks
        · have : k = n := by omega
          subst this
          cases hl : listed.getD k false with
          | true => rfl
          | false =>
            have hmem : k ∈ Region.ready .any ops listed := by
              rw [mem_ready]
              refine ⟨?_, ops[k], Array.getElem?_eq_getElem hks, fun e he hbe => ?_⟩
              · have : k < listed.size := by omega
                simp [this] at hl ⊢
                exact hl
              · have := hbacks ops.toList 0 hb k ops[k] (by simp) e he hbe
                exact ih e.on (by omega) (by omega)
            rw [hr] at hmem; cases hmem
    refine hQ ρ a w (hI.congr fun k => ⟨fun h => ?_, fun h => hall (k + 1) k (by omega) h⟩)
    rcases Nat.lt_or_ge k listed.size with hk | hk
    · omega
    · simp [Nat.not_lt.2 hk] at h
  intro fuel
  induction fuel with
  | zero =>
    intro listed ρ a w hsz hl hc hI
    have hr : Region.ready .any ops listed = [] := by
      rw [List.eq_nil_iff_forall_not_mem]
      intro i hi
      obtain ⟨h1, o, h2, _⟩ := mem_ready.1 hi
      have hlt : i < ops.size := (Array.getElem?_eq_some_iff.1 h2).1
      have : i ∈ (List.range ops.size).filter fun k => !listed.getD k false := by
        rw [List.mem_filter]
        refine ⟨List.mem_range.2 hlt, ?_⟩
        have : i < listed.size := by omega
        simp [this] at h1 ⊢
        exact h1
      have hz : ((List.range ops.size).filter fun k => !listed.getD k false) = [] := List.eq_nil_of_length_eq_zero (by unfold left at hl; omega)
      rw [hz] at this; cases this
    exact ⟨hr, hdone listed ρ a w hsz hc hI hr⟩
  | succ fuel ih =>
    intro listed ρ a w hsz hl hc hI
    refine ⟨fun hr => hdone listed ρ a w hsz hc hI hr, fun i hi => ?_⟩
    obtain ⟨h1, o, h2, h3⟩ := mem_ready.1 hi
    have hlt : i < ops.size := (Array.getElem?_eq_some_iff.1 h2).1
    have hnl : listed.getD i false = false := by
      have : i < listed.size := by omega
      simp [this] at h1 ⊢
      exact h1
    have hset : ∀ k, ((listed.getD k false = true) ∨ k = i) ↔ (listed.setIfInBounds i true).getD k false = true := fun k => by
      by_cases hk : k = i
      · subst hk
        have : k < listed.size := by omega
        simp [this]
      · rw [getD_set_ne false (fun e => hk e.symm)]
        simp [hk]
    have hleft : left ops (listed.setIfInBounds i true) < left ops listed := by
      refine filter_less (i := i) _ (fun x hx => ?_) (List.mem_range.2 hlt) (by simp [hnl]) ?_
      · cases hlx : listed.getD x false with
        | false => rfl
        | true =>
          have := (hset x).1 (.inl hlx)
          rw [this] at hx; cases hx
      · rw [(hset i).1 (.inr rfl)]; rfl
    have hr : ∃ r, rs[i]? = some r := ⟨rs[i]'(by omega), List.getElem?_eq_getElem _⟩
    obtain ⟨r, hr⟩ := hr
    obtain ⟨o', ho', kn⟩ := hK.each i r hr
    rw [h2] at ho'; cases ho'
    have hn : ¬ (listed.getD i false = true) := by rw [hnl]; simp
    have hc' : Closed ops fun k => (listed.setIfInBounds i true).getD k false = true := fun k ok hk hL e he hbe => by
      refine (hset e.on).1 ?_
      rcases (hset k).2 hL with hL | hL
      · exact .inl (hc k ok hk hL e he hbe)
      · rw [hL, h2] at hk; cases hk; exact .inl (h3 e he hbe)
    have hgo : ∀ ρ1 rv w1, (ρ.lim r.n0).ext ρ1 → VRe ρ1 a r.v rv → Rep ρ1 (mayW ρ w r.mO) r.m' w1 → Upd (mayW ρ w r.mO) w w1 →
        wpAny P .any ops Q fuel (listed.setIfInBounds i true) (a.put o.dst rv) w1 := fun ρ1 rv w1 q1 q2 q3 q4 =>
      ih _ _ _ _ (by simpa using hsz) (by omega) hc' ((turn_inv hb hO hK hng hc hI h2 hr hn h3 kn q1 q2 q3 q4).congr hset)
    obtain ⟨s1, s2⟩ := kn.step.2 _ _ w a (turn_fr hb hO hK hc hI h2 hn h3 kn) (turn_rep hb hO hK hc hI h2 hr hn h3 kn)
    unfold wpOp
    rw [h2]
    dsimp only
    split
    · rename_i hw
      exact .inl (s1 hw _ _ fun ρ1 rv w1 q1 q2 q3 q4 => hgo ρ1 rv w1 q1 q2 q3 q4)
    · rename_i hw
      obtain ⟨g1, g2⟩ := s2 (by simpa using hw)
      exact hgo _ _ _ (Ren.ext.refl _) g1 g2 (Upd.refl _ _)

theorem clearG_get : ∀ (l : List Oper) (fr : Fr) (t : Nat) (u : AV), (clearG l fr).get t = some u → fr.get t = some u ∧ ∀ o ∈ l, o.guard.isSome = true → o.dst ≠ some t
  | [], _, _, _, h => ⟨h, fun o ho => by cases ho⟩
  | o :: r, fr, t, u, h => by
    simp only [clearG] at h
    split at h
    · rename_i g d hg hd
      obtain ⟨h1, h2⟩ := clearG_get r _ t u h
      obtain ⟨h3, h4⟩ := Fr.get_del h1
      refine ⟨h4, fun o' ho' hg' => ?_⟩
      rcases List.mem_cons.1 ho' with rfl | ho'
      · rw [hd]; intro he; cases he; exact h3 rfl
      · exact h2 o' ho' hg'
    · rename_i hno
      obtain ⟨h1, h2⟩ := clearG_get r _ t u h
      refine ⟨h1, fun o' ho' hg' => ?_⟩
      rcases List.mem_cons.1 ho' with rfl | ho'
      · intro he
        obtain ⟨g, hg⟩ := Option.isSome_iff_exists.1 hg'
        exact hno g t hg he
      · exact h2 o' ho' hg'

theorem clearG_n : ∀ (l : List Oper) (fr : Fr), (clearG l fr).n = fr.n
  | [], _ => rfl
  | o :: r, fr => by
    simp only [clearG]
    split
    · rw [clearG_n r]; rfl
    · exact clearG_n r fr

/-- What a piece of code does: the frame and the memory behind it, how it was left. -/
def Runs (P : Program) (c : Code) (fr : Fr) (m : Mem) (e : Exit) (fr' : Fr) (m' : Mem) : Prop :=
  ∀ ρ A w a, FR ρ fr a → Rep ρ A m w → c.wp P (fun e' a' w' => e' = e ∧ a'.defers = a.defers ∧ ∃ ρ', ρ.ext ρ' ∧ FR ρ' fr' a' ∧ Rep ρ' A m' w' ∧ Upd A w w') a w

theorem evDraw_ok (hmix : P.follows .mixedOrders = true) {ok : List TypeId} (hok : Fair P ok) {pc : Pcs} (hpc : PSound P pc) {h : Hd} (hh : HSound P h) {ro : FuncId → Bool} {ops : Array Oper} {id : Nat} {fr : Fr} {m : Mem} {k : Fr → Mem → Option Out} {x : Out}
    (hng : NoGd fr) (he : evDraw P ok pc h ro ops fr m k = some x) (hx : Om.fine x) : ∃ fr' m', k fr' m' = some x ∧ NoGd fr' ∧ Runs P (.region id ops true) fr m .normal fr' m' := by
  unfold evDraw at he
  cases hc : backs ops.toList 0 && tmpOk ops with
  | false => rw [hc] at he; cases he
  | true =>
  rw [hc, cond_true] at he
  simp only [Bool.and_eq_true] at hc
  obtain ⟨fr1, m1, rs, S, k1, k2, k3⟩ := evD_ok (fr0 := fr) (m0 := m) hok hpc hh hx ops.toList [] fr m [] _ he (fun q => by simp)
    ⟨fun i r hi => by simp at hi, rfl, fun t u ht => .inr ⟨ht, fun j q _ hq => by simp at hq⟩, fun id b hb => .inr ⟨hb, fun j q _ hq => by simp at hq⟩, Nat.le_refl _, fun i r hi => by simp at hi, fun d => by simp⟩
  cases hm : memOk ops rs with
  | false => rw [hm] at k1; cases k1
  | true =>
  rw [hm, cond_true] at k1
  have hlen : rs.length = ops.size := by simpa using k3
  have hO : Ordered ops rs := ⟨tmpOk_ok hc.2, memOk_ok hm⟩
  refine ⟨_, m1, k1, fun t t' w u hget => ?_, fun ρ A w a hf hR => ?_⟩
  · obtain ⟨h1, h2⟩ := clearG_get _ _ _ _ hget
    rcases k2.fr t _ h1 with ⟨j, q, hj, hq, hd, hu, _⟩ | ⟨h0, _⟩
    · obtain ⟨o, ho, kn⟩ := k2.each j q hq
      obtain ⟨i, hg, _⟩ := kn.step.1 t' w u hu.symm
      exact h2 o (List.mem_of_getElem? (by simpa using ho)) (by simp [hg]) (by rw [← kn.dst]; exact hd)
    · exact hng t t' w u h0
  · refine wp_region_any hmix ?_
    have hRd : Rep ρ A m { w with drawn := w.drawn + 1 } := hR.drew
    refine any_ok (ρ0 := ρ) (A := A) (w0 := w) (a0 := a) hc.1 hO k2 hng hlen (fun ρ' a' w' hI => ?_) ops.size _ ρ a _ (by simp) ?_ ?_ ?_
    · refine ⟨rfl, hI.defers, { ρ' with n := m1.n }, ?_, ?_, ?_, hI.upd⟩
      · exact ⟨⟨hI.base.dom, hI.base.bb, hI.base.bo, hI.base.sh, hI.base.room⟩, by rw [hR.n]; exact k2.n, fun i hi hlt => hI.old i hi (by rw [← hR.n]; exact hlt)⟩
      · refine ⟨by rw [clearG_n, k2.frn]; exact hI.size, fun t u ht => ?_⟩
        obtain ⟨h1, _⟩ := clearG_get _ _ _ _ ht
        have hle : ∀ n, (ρ'.lim n).le { ρ' with n := m1.n } := fun n => ⟨fun _ h => h.1, fun _ _ => rfl, fun _ _ => rfl, fun _ _ => rfl, fun _ _ => rfl⟩
        rcases k2.fr t u h1 with ⟨j, q, hj, hq, hd, rfl, hlt⟩ | ⟨h0, hno⟩
        · exact (hI.tmp j q t (by omega) hq hd hlt).mono (hle _)
        · exact (hI.tmp0 t u h0 fun i r hi hr => hno i r (by omega) hr).mono (hle _)
      · have hle : ρ'.le { ρ' with n := m1.n } := ⟨fun _ h => h, fun _ _ => rfl, fun _ _ => rfl, fun _ _ => rfl, fun _ _ => rfl⟩
        have hmm : ∀ id b, m1.get id = some b → FromM m rs (· < ops.size) id b := fun id b hb => by rw [← hlen]; exact k2.mem id b hb
        refine ⟨rfl, fun id hid => ?_, fun id b hb => ?_, fun i j bi bj hi hj hij hwr => hI.sep i j bi bj (hmm i bi hi) (hmm j bj hj) hij hwr, hI.new, hR.tab.later hI.upd.old⟩
        · rcases hI.dom id hid with h | ⟨i, r, _, hr, _, h⟩
          · exact Nat.lt_of_lt_of_le h k2.n
          · exact Nat.lt_of_lt_of_le h (k2.prev i r hr)
        · obtain ⟨g1, g2⟩ := hI.cur (hmm id b hb)
          exact ⟨g1, g2.mono g1 hle rfl fun _ h _ => h⟩
    · unfold left
      exact Nat.le_trans (List.length_filter_le _ _) (by simp)
    · intro i o _ hL
      rw [getD_replicate_false] at hL; cases hL
    · have hF : ∀ k, ¬ ((Array.replicate ops.size false).getD k false = true) := fun k h => by rw [getD_replicate_false] at h; cases h
      have hle : ρ.le (ρ.lim m.n) := ⟨fun i hi => ⟨hi, by rw [← hR.n]; exact hR.lt i hi⟩, fun _ _ => rfl, fun _ _ => rfl, fun _ _ => rfl, fun _ _ => rfl⟩
      refine ⟨Ren.le.refl ρ, fun _ h _ => h, hf.size, rfl, fun id hid => .inl (by rw [← hR.n]; exact hR.lt id hid), hRd.new, hRd.tab, Upd.drew, fun i r t hi => absurd hi (hF i),
        fun t u ht _ => (hf.get t u ht).mono hle, fun j q id b hj => absurd hj (hF j), fun id b hb _ => ?_, fun id id' b b' hf1 hf2 hne hwr => ?_⟩
      · obtain ⟨g1, g2⟩ := hRd.blk id b hb
        exact ⟨hle.dom id g1, g2.mono g1 hle rfl fun _ h _ => h⟩
      · rcases hf1 with ⟨j, q, hj, _⟩ | ⟨h1, _⟩
        · exact absurd hj (hF j)
        · rcases hf2 with ⟨j, q, hj, _⟩ | ⟨h2, _⟩
          · exact absurd hj (hF j)
          · exact hR.sep id id' b b' h1 h2 hne hwr

end
end Go.Ev
