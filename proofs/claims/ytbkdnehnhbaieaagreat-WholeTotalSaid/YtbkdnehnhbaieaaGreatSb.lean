/-
  Lemmas of the prover's own, joined: EvO EvP EvQ EvR EvS EvT EvU EvV EvW EvX On.
-/
import Derived.StillTail
import Derived.LoopN
import Derived.Scope
import Derived.ProofKit
import Derived.Defers
import Derived.Test.YtbkdnehnhbaieaaGreatRows
import Derived.Tactics
import Derived.Tactics2
import Derived.Laws.Pointers
import Derived.Laws.LoneSync
import Derived.RegionTactic
import Derived.RegionCalls
import Derived.ChangeAlike
import Derived.Test.YtbkdnehnhbaieaaGreatSa
namespace Go.Ev
section
variable {P : Program}
structure Ordered (ops : Array Oper) (rs : List Rec) : Prop where
  tmp : ∀ (i j : Nat) (o p : Oper) (t : Nat), ops[i]? = some o → ops[j]? = some p → i < j → ((o.dst = some t ∧ t ∈ ao8 ops p) ∨ (p.dst = some t ∧ t ∈ ao8 ops o)) →
    ((masks ops.toList []).getD j 0).testBit i = true
  mem : ∀ (i j : Nat) (r q : Rec) (id : Nat), rs[i]? = some r → rs[j]? = some q → i < j →
    ((r.touch id = true ∧ (id ∈ q.fp ∨ q.touch id = true)) ∨ (q.touch id = true ∧ id ∈ r.fp)) → ((masks ops.toList []).getD j 0).testBit i = true
theorem tmpOk_ok {ops : Array Oper} (h : tmpOk ops = true) : ∀ (i j : Nat) (o p : Oper) (t : Nat), ops[i]? = some o → ops[j]? = some p → i < j →
    ((o.dst = some t ∧ t ∈ ao8 ops p) ∨ (p.dst = some t ∧ t ∈ ao8 ops o)) → ((masks ops.toList []).getD j 0).testBit i = true := by
  intro i j o p t ho hp hij hor
  have h1 : (o, i) ∈ ops.toList.zipIdx := by rw [List.mem_zipIdx_iff_getElem?]; simpa using ho
  have h2 : (p, j) ∈ ops.toList.zipIdx := by rw [List.mem_zipIdx_iff_getElem?]; simpa using hp
  have h3 := List.all_eq_true.1 (List.all_eq_true.1 h _ h1) _ h2
  have hlt : Nat.blt i j = true := by simpa using hij
  have hdst : (dV3 o.dst (ao8 ops p) || dV3 p.dst (ao8 ops o)) = true := by
    rcases hor with ⟨e1, e2⟩ | ⟨e1, e2⟩
    · simp only [dV3, e1, (aj8 _ _).2 e2, Bool.true_or]
    · simp only [dV3, e1, (aj8 _ _).2 e2, Bool.or_true]
  simpa [hlt, hdst] using h3
theorem memOk_ok {ops : Array Oper} {rs : List Rec} (h : memOk ops rs = true) : ∀ (i j : Nat) (r q : Rec) (id : Nat), rs[i]? = some r → rs[j]? = some q → i < j →
    ((r.touch id = true ∧ (id ∈ q.fp ∨ q.touch id = true)) ∨ (q.touch id = true ∧ id ∈ r.fp)) → ((masks ops.toList []).getD j 0).testBit i = true := by
  intro i j r q id hr hq hij hor
  have loudT : ∀ (r : Rec), r.touch id = true → loud r = true := fun r ht => by
    simp only [Rec.touch, Bool.or_eq_true, Bool.and_eq_true, aj8, Nat.ble_eq] at ht
    simp only [loud, Bool.or_eq_true, Bool.not_eq_true']
    rcases ht with ht | ⟨h1, h2⟩
    · cases hw : r.W with
      | nil => rw [hw] at ht; cases ht
      | cons => simp
    · have : id < r.m'.n := by simpa using h2
      right; simp; omega
  have loudF : ∀ (r : Rec), id ∈ r.fp → loud r = true := fun r ht => by
    simp only [loud, Bool.or_eq_true, Bool.not_eq_true']
    cases hw : r.fp with
    | nil => rw [hw] at ht; cases ht
    | cons => simp
  have hlr : loud r = true := by rcases hor with ⟨h1, _⟩ | ⟨_, h1⟩; exact loudT r h1; exact loudF r h1
  have hlq : loud q = true := by
    rcases hor with ⟨_, h1 | h1⟩ | ⟨h1, _⟩
    · exact loudF q h1
    · exact loudT q h1
    · exact loudT q h1
  have m1 : (r, i) ∈ rs.zipIdx.filter fun x => loud x.1 := List.mem_filter.2 ⟨by rw [List.mem_zipIdx_iff_getElem?]; exact hr, hlr⟩
  have m2 : (q, j) ∈ rs.zipIdx.filter fun x => loud x.1 := List.mem_filter.2 ⟨by rw [List.mem_zipIdx_iff_getElem?]; exact hq, hlq⟩
  have h3 := List.all_eq_true.1 (List.all_eq_true.1 h _ m1) _ m2
  have hlt : Nat.blt i j = true := by simpa using hij
  have hc : (((cW7 r).any fun id => memN id q.fp || q.touch id) || (cW7 q).any fun id => memN id r.fp) = true := by
    simp only [Bool.or_eq_true, List.any_eq_true, cW7]
    rcases hor with ⟨h1, h2⟩ | ⟨h1, h2⟩
    · exact .inl ⟨id, bk9.1 h1, by rcases h2 with h2 | h2; exact .inl ((aj8 _ _).2 h2); exact .inr h2⟩
    · exact .inr ⟨id, bk9.1 h1, (aj8 _ _).2 h2⟩
  dsimp only at h3
  rw [hlt, hc] at h3
  simpa using h3
structure Inv (ρ0 : Ren) (fr0 : Fr) (m0 : Mem) (rs : List Rec) (A : Nat → Prop) (w0 : World) (a0 : Act) (L : Nat → Prop) (ρ : Ren) (a : Act) (w : World) : Prop where
  base : ρ0.le ρ
  old : ∀ id, ρ.dom id → id < m0.n → ρ0.dom id
  size : a.tmps.size = fr0.n
  defers : a.defers = a0.defers
  dom : ∀ id, ρ.dom id → id < m0.n ∨ ∃ i r, L i ∧ rs[i]? = some r ∧ r.n0 ≤ id ∧ id < r.m'.n
  new : ∀ b, w.heap.size ≤ b → A b
  tab : Held A w
  upd : Upd A w0 w
  tmp : ∀ i r t, L i → rs[i]? = some r → r.dst = some t → t < fr0.n → VRe (ρ.lim r.m'.n) a r.v (a.tmps.getD t undef)
  tmp0 : ∀ t u, fr0.get t = some u → (∀ i r, L i → rs[i]? = some r → r.dst ≠ some t) → VRe (ρ.lim m0.n) a u (a.tmps.getD t undef)
  mem : ∀ j q id b, L j → rs[j]? = some q → q.touch id = true → q.m'.get id = some b → (∀ k q', L k → j < k → rs[k]? = some q' → q'.touch id = false) →
    (ρ.lim q.m'.n).dom id ∧ H5 (ρ.lim q.m'.n) A w id b
  mem0 : ∀ id b, m0.get id = some b → (∀ k q', L k → rs[k]? = some q' → q'.touch id = false) → (ρ.lim m0.n).dom id ∧ H5 (ρ.lim m0.n) A w id b
  sep : ∀ id id' b b', aR1 m0 rs L id b → aR1 m0 rs L id' b' → id ≠ id' → b.wr = true → Apart ρ b id b' id'
theorem Ren.le_unlim (ρ : Ren) (k : Nat) : (ρ.lim k).le ρ := ⟨fun _ h => h.1, fun _ _ => rfl, fun _ _ => rfl, fun _ _ => rfl, fun _ _ => rfl, fun _ _ => rfl⟩
theorem Inv.cur {ρ0 : Ren} {fr0 : Fr} {m0 : Mem} {rs : List Rec} {A : Nat → Prop} {w0 : World} {a0 : Act} {L : Nat → Prop} {ρ : Ren} {a : Act} {w : World} (h : Inv ρ0 fr0 m0 rs A w0 a0 L ρ a w)
    {id : Nat} {b : Blk} (hf : aR1 m0 rs L id b) : ρ.dom id ∧ H5 ρ A w id b := by
  rcases hf with ⟨j, q, h1, h2, h3, h4, h5⟩ | ⟨h1, h2⟩
  · obtain ⟨g1, g2⟩ := h.mem j q id b h1 h2 h3 h4 h5
    exact ⟨g1.1, g2.mono g1 (Ren.le_unlim ρ _) (fun _ _ => rfl) fun _ h _ => h⟩
  · obtain ⟨g1, g2⟩ := h.mem0 id b h1 h2
    exact ⟨g1.1, g2.mono g1 (Ren.le_unlim ρ _) (fun _ _ => rfl) fun _ h _ => h⟩
def Ren.over (ρ ρ1 : Ren) (n0 n1 : Nat) : Ren :=
  { n := n1, dom := fun id => ρ.dom id ∨ (ρ1.dom id ∧ n0 ≤ id ∧ id < n1), bb := fun id => if n0 ≤ id ∧ id < n1 then ρ1.bb id else ρ.bb id,
    bo := fun id => if n0 ≤ id ∧ id < n1 then ρ1.bo id else ρ.bo id, sh := fun id => if n0 ≤ id ∧ id < n1 then ρ1.sh id else ρ.sh id, room := fun id => if n0 ≤ id ∧ id < n1 then ρ1.room id else ρ.room id,
    ft := fun id => if n0 ≤ id ∧ id < n1 then ρ1.ft id else ρ.ft id }
section step
variable {ops : Array Oper} {fr0 fr : Fr} {m0 m : Mem} {rs : List Rec} {S : List Nat} {A : Nat → Prop} {w0 : World} {a0 : Act} {L : Nat → Prop} {ρ0 ρ : Ren} {a : Act} {w : World}
theorem bD3 (hb : bx3 ops.toList 0 = true) (hc : Closed ops L) {i j : Nat} {o : Oper} (hi : ops[i]? = some o) (hr : ∀ e ∈ o.after, Region.binds .any e = true → L e.on)
    (h : ((masks ops.toList []).getD i 0).testBit j = true) (hne : j ≠ i) : L j := by
  have hc' : Closed ops fun k => L k ∨ k = i := fun k o' hk hL e he hbe => by
    rcases hL with hL | rfl
    · exact .inl (hc k o' hk hL e he hbe)
    · rw [hi] at hk; cases hk; exact .inl (hr e he hbe)
  have := cf3 hc' hb (Array.getElem?_eq_some_iff.1 hi).1 h (.inr rfl)
  rcases this with h | h
  · exact h
  · exact absurd h hne
theorem au2 (hb : bx3 ops.toList 0 = true) (hc : Closed ops L) {i j : Nat} {o : Oper} (hj : ops[j]? = some o) (hL : L j)
    (h : ((masks ops.toList []).getD j 0).testBit i = true) : L i := cf3 hc hb (Array.getElem?_eq_some_iff.1 hj).1 h hL
theorem dE3 (hb : bx3 ops.toList 0 = true) (hO : Ordered ops rs) (hK : aF6 P ops fr0 m0 rs fr m S) (hc : Closed ops L) (hI : Inv ρ0 fr0 m0 rs A w0 a0 L ρ a w)
    {i : Nat} {o : Oper} {r : Rec} (hi : ops[i]? = some o) (hr : rs[i]? = some r) (hn : ¬ L i) (hrd : ∀ e ∈ o.after, Region.binds .any e = true → L e.on) (kn : Known P ops fr0 m0 rs i r o)
    {id : Nat} {b0 : Blk} (hfp : id ∈ r.fp) (hf : aR1 m0 rs (· < i) id b0) : aR1 m0 rs L id b0 ∧ (ρ.lim r.n0).dom id ∧ H5 (ρ.lim r.n0) A w id b0 := by
  have later : ∀ k q', L k → i < k → rs[k]? = some q' → q'.touch id = false := fun k q' hk hik hq => by
    cases ht : q'.touch id with
    | false => rfl
    | true =>
      obtain ⟨ok, hok, _⟩ := hK.each k q' hq
      exact absurd (au2 hb hc hok hk (hO.mem i k r q' id hr hq hik (.inr ⟨ht, hfp⟩))) hn
  rcases hf with ⟨j, q, hj, hq, ht, hg, hlast⟩ | ⟨h1, h2⟩
  · have hL : L j := bD3 hb hc hi hrd (hO.mem j i q r id hq hr hj (.inl ⟨ht, .inl hfp⟩)) (by omega)
    have hl : ∀ k q', L k → j < k → rs[k]? = some q' → q'.touch id = false := fun k q' hk hjk hq' => by
      rcases Nat.lt_trichotomy k i with h | h | h
      · exact hlast k q' h hjk hq'
      · subst h; exact absurd hk hn
      · exact later k q' hk h hq'
    obtain ⟨g1, g2⟩ := hI.mem j q id b0 hL hq ht hg hl
    have hle := Ren.lim_le (Ren.le.refl ρ) (kn.prev j q hj hq)
    exact ⟨.inl ⟨j, q, hL, hq, ht, hg, hl⟩, hle.dom id g1, g2.mono g1 hle (fun _ _ => rfl) fun _ h _ => h⟩
  · have hl : ∀ k q', L k → rs[k]? = some q' → q'.touch id = false := fun k q' hk hq' => by
      rcases Nat.lt_trichotomy k i with h | h | h
      · exact h2 k q' h hq'
      · subst h; exact absurd hk hn
      · exact later k q' hk h hq'
    obtain ⟨g1, g2⟩ := hI.mem0 id b0 h1 hl
    have hle := Ren.lim_le (Ren.le.refl ρ) kn.m0n
    exact ⟨.inr ⟨h1, hl⟩, hle.dom id g1, g2.mono g1 hle (fun _ _ => rfl) fun _ h _ => h⟩
theorem turn_fr (hb : bx3 ops.toList 0 = true) (hO : Ordered ops rs) (hK : aF6 P ops fr0 m0 rs fr m S) (hc : Closed ops L) (hI : Inv ρ0 fr0 m0 rs A w0 a0 L ρ a w)
    {i : Nat} {o : Oper} {r : Rec} (hi : ops[i]? = some o) (hn : ¬ L i) (hrd : ∀ e ∈ o.after, Region.binds .any e = true → L e.on) (kn : Known P ops fr0 m0 rs i r o) : FRw (ρ.lim r.n0) r.frO a := by
  intro t u ht
  obtain ⟨hN, hf⟩ := kn.fr t u ht
  rw [kn.names] at hN
  rcases hf with ⟨j, q, hj, hq, hd, rfl, hlt⟩ | ⟨h1, h2⟩
  · obtain ⟨oj, hoj, knj⟩ := hK.each j q hq
    have hL : L j := bD3 hb hc hi hrd (hO.tmp j i oj o t hoj hi hj (.inl ⟨by rw [← knj.dst]; exact hd, hN⟩)) (by omega)
    exact (hI.tmp j q t hL hq hd hlt).mono (Ren.lim_le (Ren.le.refl ρ) (kn.prev j q hj hq))
  · refine (hI.tmp0 t u h1 fun k r' hk hr' hd => ?_).mono (Ren.lim_le (Ren.le.refl ρ) kn.m0n)
    rcases Nat.lt_trichotomy k i with h | h | h
    · exact h2 k r' h hr' hd
    · subst h; exact hn hk
    · obtain ⟨ok, hok, knk⟩ := hK.each k r' hr'
      exact hn (au2 hb hc hok hk (hO.tmp i k o ok t hi hok h (.inr ⟨by rw [← knk.dst]; exact hd, hN⟩)))
def mayW (ρ : Ren) (w : World) (mO : Mem) (bk : Nat) : Prop := w.heap.size ≤ bk ∨ ∃ id b, mO.get id = some b ∧ b.wr = true ∧ b.foot ρ id bk
theorem dE5 (hb : bx3 ops.toList 0 = true) (hO : Ordered ops rs) (hK : aF6 P ops fr0 m0 rs fr m S) (hc : Closed ops L) (hI : Inv ρ0 fr0 m0 rs A w0 a0 L ρ a w)
    {i : Nat} {o : Oper} {r : Rec} (hi : ops[i]? = some o) (hr : rs[i]? = some r) (hn : ¬ L i) (hrd : ∀ e ∈ o.after, Region.binds .any e = true → L e.on) (kn : Known P ops fr0 m0 rs i r o) :
    Rep (ρ.lim r.n0) (mayW ρ w r.mO) r.mO w := by
  have key : ∀ id b, r.mO.get id = some b → ∃ b0, (b = b0 ∨ b0.ro? = some b) ∧ aR1 m0 rs L id b0 ∧ (ρ.lim r.n0).dom id ∧ H5 (ρ.lim r.n0) A w id b0 := fun id b hb' => by
    obtain ⟨h1, _, b0, h3, h4⟩ := kn.mem id b hb'
    obtain ⟨g1, g2, g3⟩ := dE3 hb hO hK hc hI hi hr hn hrd kn h1 h4
    exact ⟨b0, h3, g1, g2, g3⟩
  refine ⟨kn.n0.symm, fun id h => h.2, fun id b hb' => ?_, fun x y bx bY hx hy hxy hwr => ?_, fun b hb' => .inl hb', hI.tab.mono fun b hlt hm => ?_⟩
  · obtain ⟨b0, h3, _, g2, g3⟩ := key id b hb'
    refine ⟨g2, ?_⟩
    rcases h3 with rfl | h3
    · exact g3.free fun hwr x hx => .inr ⟨id, b, hb', hwr, hx⟩
    · exact g3.ro h3
  · obtain ⟨x0, h3, g1, _, _⟩ := key x bx hx
    obtain ⟨y0, h3', g1', _, _⟩ := key y bY hy
    have hx0 : x0.wr = true := by
      rcases h3 with rfl | h3
      · exact hwr
      · rw [dG2 h3] at hwr; cases hwr
    have same : ∀ {b b0 : Blk} {k z : Nat}, (b = b0 ∨ b0.ro? = some b) → b.foot (ρ.lim r.n0) k z → b0.foot ρ k z := fun {b b0 k z} h hz => by
      rcases h with rfl | h
      · cases b <;> exact hz
      · have := (dG5 h).1 hz
        cases b0 <;> exact this
    exact fun z hz hz' => hI.sep x y x0 y0 g1 g1' hxy hx0 z (same h3 hz) (same h3' hz')
  · rcases hm with h | ⟨id, b2, h1, h2, hx2⟩
    · omega
    · obtain ⟨b0, h3, g1, _, _⟩ := key id b2 h1
      have hb0 : b0.wr = true := by
        rcases h3 with rfl | h3
        · exact h2
        · rw [dG2 h3] at h2; cases h2
      refine (hI.cur g1).2.wrA hb0 b ?_
      rcases h3 with rfl | h3
      · exact hx2
      · exact (dG5 h3).1 hx2
theorem over_le {ρ1 : Ren} (hI : Inv ρ0 fr0 m0 rs A w0 a0 L ρ a w) (hK : aF6 P ops fr0 m0 rs fr m S) {i : Nat} {o : Oper} {r : Rec} (hr : rs[i]? = some r) (hn : ¬ L i) (kn : Known P ops fr0 m0 rs i r o) :
    ρ.le (ρ.over ρ1 r.n0 r.m'.n) := by
  have hout : ∀ id, ρ.dom id → ¬ (r.n0 ≤ id ∧ id < r.m'.n) := fun id hid ⟨h1, h2⟩ => by
    rcases hI.dom id hid with h | ⟨k, q, hk, hq, h3, h4⟩
    · have := kn.m0n; omega
    · rcases Nat.lt_trichotomy k i with h | h | h
      · have := kn.prev k q h hq; omega
      · subst h; exact hn hk
      · obtain ⟨ok, hok, knk⟩ := hK.each k q hq
        have := knk.prev i r h hr; omega
  exact ⟨fun id h => .inl h, fun id h => if_neg (hout id h), fun id h => if_neg (hout id h), fun id h => if_neg (hout id h), fun id h => if_neg (hout id h), fun id h => if_neg (hout id h)⟩
theorem le_over {ρ1 : Ren} {n0 n1 : Nat} (hext : (ρ.lim n0).ext ρ1) (hlt : ∀ id, ρ1.dom id → id < n1) : ρ1.le ((ρ.over ρ1 n0 n1).lim n1) := by
  have old : ∀ id, ρ1.dom id → ¬ (n0 ≤ id ∧ id < n1) → (ρ.lim n0).dom id := fun id h hn => hext.old id h (by have := hlt id h; show id < n0; omega)
  refine ⟨fun id h => ⟨?_, hlt id h⟩, fun id h => ?_, fun id h => ?_, fun id h => ?_, fun id h => ?_, fun id h => ?_⟩
  · by_cases hin : n0 ≤ id ∧ id < n1
    · exact .inr ⟨h, hin⟩
    · exact .inl (old id h hin).1
  · show (if n0 ≤ id ∧ id < n1 then ρ1.bb id else ρ.bb id) = ρ1.bb id
    split
    · rfl
    · rename_i hin; exact (hext.bb id (old id h hin)).symm
  · show (if n0 ≤ id ∧ id < n1 then ρ1.bo id else ρ.bo id) = ρ1.bo id
    split
    · rfl
    · rename_i hin; exact (hext.bo id (old id h hin)).symm
  · show (if n0 ≤ id ∧ id < n1 then ρ1.sh id else ρ.sh id) = ρ1.sh id
    split
    · rfl
    · rename_i hin; exact (hext.sh id (old id h hin)).symm
  · show (if n0 ≤ id ∧ id < n1 then ρ1.room id else ρ.room id) = ρ1.room id
    split
    · rfl
    · rename_i hin; exact (hext.room id (old id h hin)).symm
  · show (if n0 ≤ id ∧ id < n1 then ρ1.ft id else ρ.ft id) = ρ1.ft id
    split
    · rfl
    · rename_i hin; exact (hext.ft id (old id h hin)).symm
theorem turn_inv (hb : bx3 ops.toList 0 = true) (hO : Ordered ops rs) (hK : aF6 P ops fr0 m0 rs fr m S) (hng : NoGd fr0) (hc : Closed ops L) (hI : Inv ρ0 fr0 m0 rs A w0 a0 L ρ a w)
    {i : Nat} {o : Oper} {r : Rec} (hi : ops[i]? = some o) (hr : rs[i]? = some r) (hn : ¬ L i) (hrd : ∀ e ∈ o.after, Region.binds .any e = true → L e.on) (kn : Known P ops fr0 m0 rs i r o)
    {ρ1 : Ren} {rv : Value} {w1 : World} (hext : (ρ.lim r.n0).ext ρ1) (hv : VRe ρ1 a r.v rv) (hR : Rep ρ1 (mayW ρ w r.mO) r.m' w1) (hU : Upd (mayW ρ w r.mO) w w1) :
    Inv ρ0 fr0 m0 rs A w0 a0 (fun k => L k ∨ k = i) (ρ.over ρ1 r.n0 r.m'.n) (a.put o.dst rv) w1 := by
  have hle := over_le (ρ1 := ρ1) hI hK hr hn kn
  have hlt1 : ∀ id, ρ1.dom id → id < r.m'.n := fun id h => by rw [← hR.n]; exact hR.lt id h
  have hle1 := le_over (n1 := r.m'.n) hext hlt1
  have hRep := dE5 hb hO hK hc hI hi hr hn hrd kn

  have hnodup : ∀ k q t, L k → rs[k]? = some q → q.dst = some t → r.dst ≠ some t := fun k q t hk hq hd he => by
    rcases Nat.lt_trichotomy k i with h | h | h
    · exact kn.fresh k q t h hq hd he
    · subst h; exact hn hk
    · obtain ⟨ok, _, knk⟩ := hK.each k q hq
      exact knk.fresh i r t h hr he hd
  have hguard : ∀ k q t w' u, L k → rs[k]? = some q → q.v = .gd t w' u → r.dst ≠ some t := fun k q t w' u hk hq hqv he => by
    obtain ⟨ok, hok, knk⟩ := hK.each k q hq
    obtain ⟨h1, j, qj, hj, hqj, hdj⟩ := knk.gd t w' u hqv
    rw [knk.names] at h1

    have hji : j = i := by
      rcases Nat.lt_trichotomy j i with h | h | h
      · exact absurd he (kn.fresh j qj t h hqj hdj)
      · exact h
      · obtain ⟨oj, _, knj⟩ := hK.each j qj hqj
        exact absurd hdj (knj.fresh i r t h hr he)
    subst hji
    exact hn (au2 hb hc hok hk (hO.tmp j k o ok t hi hok hj (.inl ⟨by rw [← kn.dst]; exact he, h1⟩)))
  have hown : ∀ t w' u, r.v = .gd t w' u → r.dst ≠ some t := fun t w' u hrv he => by
    obtain ⟨_, j, qj, hj, hqj, hdj⟩ := kn.gd t w' u hrv
    exact kn.fresh j qj t hj hqj hdj he
  have hput : ∀ t, r.dst ≠ some t → (a.put o.dst rv).tmps.getD t undef = a.tmps.getD t undef := fun t ht => by
    rw [kn.dst] at ht
    cases hd : o.dst with
    | none => rfl
    | some d =>
      rw [hd] at ht
      exact aA7 (fun e => ht (by rw [e])) rv

  have hself : ∀ id b, aR1 m0 rs (fun k => L k ∨ k = i) id b → (r.touch id = true ∧ r.m'.get id = some b) ∨ (r.touch id = false ∧ aR1 m0 rs L id b) := fun id b hf => by
    rcases hf with ⟨j, q, hj, hq, ht, hg, hlast⟩ | ⟨h1, h2⟩
    · rcases hj with hj | rfl
      · have hnt : r.touch id = false := by
          cases hti : r.touch id with
          | false => rfl
          | true =>
            have hne : j ≠ i := fun e => by subst e; exact hn hj
            rcases Nat.lt_or_gt_of_ne hne with h | h
            · have := hlast i r (.inr rfl) h hr
              rw [hti] at this; cases this
            · obtain ⟨oj, hoj, _⟩ := hK.each j q hq
              exact absurd (au2 hb hc hoj hj (hO.mem i j r q id hr hq h (.inl ⟨hti, .inr ht⟩))) hn
        exact .inr ⟨hnt, .inl ⟨j, q, hj, hq, ht, hg, fun k q' hk => hlast k q' (.inl hk)⟩⟩
      · rw [hr] at hq; cases hq
        exact .inl ⟨ht, hg⟩
    · exact .inr ⟨h2 i r (.inr rfl) hr, .inr ⟨h1, fun k q' hk => h2 k q' (.inl hk)⟩⟩
  have hwrId : ∀ id b, r.mO.get id = some b → b.wr = true → r.touch id = true ∧ aR1 m0 rs L id b := fun id b hg hwr => by
    obtain ⟨h1, h2, b0, h3, h4⟩ := kn.mem id b hg
    have hW : id ∈ r.W := Classical.byContradiction fun hnW => by rw [h2 hnW] at hwr; cases hwr
    refine ⟨by simp only [Rec.touch, (aj8 _ _).2 hW, Bool.true_or], ?_⟩
    have hb0 : b = b0 := by
      rcases h3 with rfl | h3
      · rfl
      · rw [dG2 h3] at hwr; cases hwr
    subst hb0
    exact (dE3 hb hO hK hc hI hi hr hn hrd kn h1 h4).1
  have hsafe : ∀ id b, r.touch id = false → aR1 m0 rs L id b → ∀ x, b.foot ρ id x → w1.heap[x]? = w.heap[x]? ∧ x < w.heap.size ∧ ¬ mayW ρ w r.mO x := fun id b hnt hf x hx => by
    obtain ⟨_, hbk⟩ := hI.cur hf
    have hlt := hbk.foot_lt x hx
    have hnot : ¬ mayW ρ w r.mO x := fun hm => by
      rcases hm with h | ⟨id2, b2, h1, h2, h3⟩
      · omega
      · obtain ⟨g1, g2⟩ := hwrId id2 b2 h1 h2
        exact hI.sep id2 id b2 b g2 hf (fun e => by subst e; rw [g1] at hnt; cases hnt) h2 x h3 hx
    exact ⟨hU.old _ hlt hnot, hlt, hnot⟩
  have hAi : ∀ x, mayW ρ w r.mO x → A x := fun x hx => by
    rcases hx with h | ⟨id2, b2, h1, h2, h3⟩
    · exact hI.new x h
    · obtain ⟨_, g2⟩ := hwrId id2 b2 h1 h2
      exact (hI.cur g2).2.wrA h2 x h3
  have hstay : ∀ (n : Nat) id b, (ρ.lim n).dom id → H5 (ρ.lim n) A w id b → r.touch id = false → aR1 m0 rs L id b →
      ((ρ.over ρ1 r.n0 r.m'.n).lim n).dom id ∧ H5 ((ρ.over ρ1 r.n0 r.m'.n).lim n) A w1 id b := fun n id b hd hbk hnt hf =>
    have hll := Ren.lim_le hle (Nat.le_refl n)
    ⟨hll.dom id hd, hbk.mono hd hll (fun x hx => (hsafe id b hnt hf x (by cases b <;> exact hx)).1) fun _ h _ => h⟩
  refine ⟨hI.base.trans hle, fun id hid hlt => ?_, ?_, ?_, fun id hid => ?_, fun b hb' => hI.new b (Nat.le_trans hU.size hb'), hI.tab.later fun x hx hnA => hU.old x hx fun h => hnA (hAi x h), hI.upd.trans (hU.mono fun x _ => hAi x), fun k q t hk hq hd hlt => ?_, fun t u h0 hno => ?_,
    fun j q id b hj hq ht hg hlast => ?_, fun id b h0 hlast => ?_, fun id id' b b' hf hf' hne hwr => ?_⟩
  · rcases hid with hid | ⟨_, hid, _⟩
    · exact hI.old id hid hlt
    · have := kn.m0n; omega
  · rw [← hI.size]; cases o.dst <;> simp [Act.put]
  · rw [← hI.defers]; cases o.dst <;> rfl
  · rcases hid with hid | ⟨_, hid⟩
    · rcases hI.dom id hid with h | ⟨k, q, hk, h⟩
      · exact .inl h
      · exact .inr ⟨k, q, .inl hk, h⟩
    · exact .inr ⟨i, r, .inr rfl, hr, hid⟩
  · rcases hk with hk | rfl
    · rw [hput t (hnodup k q t hk hq hd)]
      exact ((hI.tmp k q t hk hq hd hlt).mono (Ren.lim_le hle (Nat.le_refl _))).other fun t' w' u hqv => hput t' (hguard k q t' w' u hk hq hqv)
    · rw [hr] at hq; cases hq
      have : (a.put o.dst rv).tmps.getD t undef = rv := by
        rw [kn.dst] at hd
        rw [hd]
        exact bE5 (by rw [hI.size]; exact hlt) rv
      rw [this]
      exact (hv.mono hle1).other fun t' w' u hrv => hput t' (hown t' w' u hrv)
  · rw [hput t (hno i r (.inr rfl) hr)]
    exact ((hI.tmp0 t u h0 fun k q hk => hno k q (.inl hk)).mono (Ren.lim_le hle (Nat.le_refl _))).other fun t' w' u' he => by
      subst he; exact absurd h0 (hng t t' w' u')
  · rcases hj with hj | rfl
    · have hf : aR1 m0 rs (fun k => L k ∨ k = i) id b := .inl ⟨j, q, .inl hj, hq, ht, hg, hlast⟩
      have hnt : r.touch id = false := by
        cases hti : r.touch id with
        | false => rfl
        | true =>
          have hne : j ≠ i := fun e => by subst e; exact hn hj
          rcases Nat.lt_or_gt_of_ne hne with h | h
          · have := hlast i r (.inr rfl) h hr
            rw [hti] at this; cases this
          · obtain ⟨oj, hoj, _⟩ := hK.each j q hq
            exact absurd (au2 hb hc hoj hj (hO.mem i j r q id hr hq h (.inl ⟨hti, .inr ht⟩))) hn
      have hl' : ∀ k q', L k → j < k → rs[k]? = some q' → q'.touch id = false := fun k q' hk => hlast k q' (.inl hk)
      obtain ⟨g1, g2⟩ := hI.mem j q id b hj hq ht hg hl'
      exact hstay _ id b g1 g2 hnt (.inl ⟨j, q, hj, hq, ht, hg, hl'⟩)
    · rw [hr] at hq; cases hq
      obtain ⟨g1, g2⟩ := hR.blk id b hg
      exact ⟨hle1.dom id g1, g2.mono g1 hle1 (fun _ _ => rfl) fun x hx _ => hAi x hx⟩
  · have hl' : ∀ k q', L k → rs[k]? = some q' → q'.touch id = false := fun k q' hk => hlast k q' (.inl hk)
    obtain ⟨g1, g2⟩ := hI.mem0 id b h0 hl'
    exact hstay _ id b g1 g2 (hlast i r (.inr rfl) hr) (.inr ⟨h0, hl'⟩)
  · have hbb : ∀ id b, r.touch id = false → aR1 m0 rs L id b → ∀ x, b.foot (ρ.over ρ1 r.n0 r.m'.n) id x → b.foot ρ id x := fun id b _ hf x hx => (Blk.foot_le hle (hI.cur hf)).1 hx
    have hbb1 : ∀ id b, r.m'.get id = some b → ∀ x, b.foot (ρ.over ρ1 r.n0 r.m'.n) id x → b.foot ρ1 id x := fun id b hg x hx => (Blk.foot_le hle1 (hR.blk id b hg)).1 (by cases b <;> exact hx)
    have mixed : ∀ x y bx bY, r.touch x = true → r.m'.get x = some bx → r.touch y = false → aR1 m0 rs L y bY → Apart (ρ.over ρ1 r.n0 r.m'.n) bx x bY y := fun x y bx bY hx hgx hy hfy z hz hz' => by
      have hwx := kn.wr x bx hx hgx
      have hAx := (hR.blk x bx hgx).2.wrA hwx z (hbb1 x bx hgx z hz)
      exact (hsafe y bY hy hfy z (hbb y bY hy hfy z hz')).2.2 hAx
    rcases hself id b hf with ⟨h1, h2⟩ | ⟨h1, h2⟩ <;> rcases hself id' b' hf' with ⟨h3, h4⟩ | ⟨h3, h4⟩
    · exact fun z hz hz' => hR.sep id id' b b' h2 h4 hne hwr z (hbb1 id b h2 z hz) (hbb1 id' b' h4 z hz')
    · exact mixed id id' b b' h1 h2 h3 h4
    · exact (mixed id' id b' b h3 h4 h1 h2).symm
    · exact fun z hz hz' => hI.sep id id' b b' h2 h4 hne hwr z (hbb id b h1 h2 z hz) (hbb id' b' h3 h4 z hz')
end step
end
end Go.Ev
namespace Go.Ev
section
variable {P : Program}
theorem cc1 {p p' : Nat → Bool} {i : Nat} : ∀ (l : List Nat), (∀ x, p' x = true → p x = true) → i ∈ l → p i = true → p' i = false → (l.filter p').length < (l.filter p).length
  | [], _, h, _, _ => by cases h
  | x :: l, hs, hm, h1, h2 => by
    have hle : ∀ l : List Nat, (l.filter p').length ≤ (l.filter p).length := fun l => by
      induction l with
      | nil => simp
      | cons y l ih =>
        cases hy : p' y with
        | true => simp [hy, hs y hy]; exact ih
        | false =>
          cases hy2 : p y with
          | true => simp [hy, hy2]; omega
          | false => simp [hy, hy2]; exact ih
    rcases List.mem_cons.1 hm with rfl | hm
    · simp [h1, h2]
      have := hle l; omega
    · have ih := cc1 l hs hm h1 h2
      cases hx : p' x with
      | true => simp [hx, hs x hx]; exact ih
      | false =>
        cases hx2 : p x with
        | true => simp [hx, hx2]; omega
        | false => simp [hx, hx2]; exact ih
theorem Inv.congr {ρ0 : Ren} {fr0 : Fr} {m0 : Mem} {rs : List Rec} {A : Nat → Prop} {w0 : World} {a0 : Act} {L L' : Nat → Prop} {ρ : Ren} {a : Act} {w : World} (h : Inv ρ0 fr0 m0 rs A w0 a0 L ρ a w)
    (he : ∀ k, L k ↔ L' k) : Inv ρ0 fr0 m0 rs A w0 a0 L' ρ a w := by
  have : L = L' := funext fun k => propext (he k)
  rw [← this]; exact h
def left (ops : Array Oper) (listed : Array Bool) : Nat := ((List.range ops.size).filter fun k => !listed.getD k false).length
theorem any_ok {ops : Array Oper} {fr0 fr : Fr} {m0 m : Mem} {rs : List Rec} {S : List Nat} {A : Nat → Prop} {w0 : World} {a0 : Act} {ρ0 : Ren} {Q : Exit → Act → World → Prop}
    (hb : bx3 ops.toList 0 = true) (hO : Ordered ops rs) (hK : aF6 P ops fr0 m0 rs fr m S) (hng : NoGd fr0) (hlen : rs.length = ops.size)
    (hQ : ∀ ρ a w, Inv ρ0 fr0 m0 rs A w0 a0 (· < ops.size) ρ a w → Q .normal a w) :
    ∀ (fuel : Nat) (listed : Array Bool) (ρ : Ren) (a : Act) (w : World), listed.size = ops.size → left ops listed ≤ fuel → Closed ops (fun k => listed.getD k false = true) →
      Inv ρ0 fr0 m0 rs A w0 a0 (fun k => listed.getD k false = true) ρ a w → wpAny P .any ops Q fuel listed a w := by
  have hbacks : ∀ (l : List Oper) (n : Nat), bx3 l n = true → ∀ (k : Nat) (o : Oper), l[k]? = some o → ∀ e ∈ o.after, Region.binds .any e = true → e.on < n + k := by
    intro l
    induction l with
    | nil => intro n _ k o h; simp at h
    | cons x l ih =>
      intro n h k o hk e he hbe
      simp only [bx3, Bool.and_eq_true] at h
      cases k with
      | zero =>
        simp at hk; subst hk
        have := List.all_eq_true.1 h.1 e (by simpa using he)
        simp only [hbe, Bool.not_true, Bool.false_or] at this
        simpa using this
      | succ k =>
        have := ih (n + 1) h.2 k o (by simpa using hk) e he hbe
        omega
  have hdone : ∀ (listed : Array Bool) (ρ : Ren) (a : Act) (w : World), listed.size = ops.size → Closed ops (fun k => listed.getD k false = true) →
      Inv ρ0 fr0 m0 rs A w0 a0 (fun k => listed.getD k false = true) ρ a w → Region.ready .any ops listed = [] → Q .normal a w := fun listed ρ a w hsz hc hI hr => by
    have hall : ∀ (n k : Nat), k < n → k < ops.size → listed.getD k false = true := by
      intro n
      induction n with
      | zero => intro k h; omega
      | succ n ih =>
        intro k hk hks
        rcases Nat.lt_or_ge k n with h | h
        · exact ih k h hks
        · have : k = n := by omega
          subst this
          cases hl : listed.getD k false with
          | true => rfl
          | false =>
            have hmem : k ∈ Region.ready .any ops listed := by
              rw [mem_ready]
              refine ⟨?_, ops[k], Array.getElem?_eq_getElem hks, fun e he hbe => ?_⟩
              · have : k < listed.size := by omega
                simp [this] at hl ⊢
                exact hl
              · have := hbacks ops.toList 0 hb k ops[k] (by simp) e he hbe
                exact ih e.on (by omega) (by omega)
            rw [hr] at hmem; cases hmem
    refine hQ ρ a w (hI.congr fun k => ⟨fun h => ?_, fun h => hall (k + 1) k (by omega) h⟩)
    rcases Nat.lt_or_ge k listed.size with hk | hk
    · omega
    · simp [Nat.not_lt.2 hk] at h
  intro fuel
  induction fuel with
  | zero =>
    intro listed ρ a w hsz hl hc hI
    have hr : Region.ready .any ops listed = [] := by
      rw [List.eq_nil_iff_forall_not_mem]
      intro i hi
      obtain ⟨h1, o, h2, _⟩ := mem_ready.1 hi
      have hlt : i < ops.size := (Array.getElem?_eq_some_iff.1 h2).1
      have : i ∈ (List.range ops.size).filter fun k => !listed.getD k false := by
        rw [List.mem_filter]
        refine ⟨List.mem_range.2 hlt, ?_⟩
        have : i < listed.size := by omega
        simp [this] at h1 ⊢
        exact h1
      have hz : ((List.range ops.size).filter fun k => !listed.getD k false) = [] := List.eq_nil_of_length_eq_zero (by unfold left at hl; omega)
      rw [hz] at this; cases this
    exact ⟨hr, hdone listed ρ a w hsz hc hI hr⟩
  | succ fuel ih =>
    intro listed ρ a w hsz hl hc hI
    refine ⟨fun hr => hdone listed ρ a w hsz hc hI hr, fun i hi => ?_⟩
    obtain ⟨h1, o, h2, h3⟩ := mem_ready.1 hi
    have hlt : i < ops.size := (Array.getElem?_eq_some_iff.1 h2).1
    have hnl : listed.getD i false = false := by
      have : i < listed.size := by omega
      simp [this] at h1 ⊢
      exact h1
    have hset : ∀ k, ((listed.getD k false = true) ∨ k = i) ↔ (listed.setIfInBounds i true).getD k false = true := fun k => by
      by_cases hk : k = i
      · subst hk
        have : k < listed.size := by omega
        simp [this]
      · rw [getD_set_ne false (fun e => hk e.symm)]
        simp [hk]
    have hleft : left ops (listed.setIfInBounds i true) < left ops listed := by
      refine cc1 (i := i) _ (fun x hx => ?_) (List.mem_range.2 hlt) (by simp [hnl]) ?_
      · cases hlx : listed.getD x false with
        | false => rfl
        | true =>
          have := (hset x).1 (.inl hlx)
          rw [this] at hx; cases hx
      · rw [(hset i).1 (.inr rfl)]; rfl
    have hr : ∃ r, rs[i]? = some r := ⟨rs[i]'(by omega), List.getElem?_eq_getElem _⟩
    obtain ⟨r, hr⟩ := hr
    obtain ⟨o', ho', kn⟩ := hK.each i r hr
    rw [h2] at ho'; cases ho'
    have hn : ¬ (listed.getD i false = true) := by rw [hnl]; simp
    have hc' : Closed ops fun k => (listed.setIfInBounds i true).getD k false = true := fun k ok hk hL e he hbe => by
      refine (hset e.on).1 ?_
      rcases (hset k).2 hL with hL | hL
      · exact .inl (hc k ok hk hL e he hbe)
      · rw [hL, h2] at hk; cases hk; exact .inl (h3 e he hbe)
    have hgo : ∀ ρ1 rv w1, (ρ.lim r.n0).ext ρ1 → VRe ρ1 a r.v rv → Rep ρ1 (mayW ρ w r.mO) r.m' w1 → Upd (mayW ρ w r.mO) w w1 →
        wpAny P .any ops Q fuel (listed.setIfInBounds i true) (a.put o.dst rv) w1 := fun ρ1 rv w1 q1 q2 q3 q4 =>
      ih _ _ _ _ (by simpa using hsz) (by omega) hc' ((turn_inv hb hO hK hng hc hI h2 hr hn h3 kn q1 q2 q3 q4).congr hset)
    obtain ⟨s1, s2⟩ := kn.step.2 _ _ w a (turn_fr hb hO hK hc hI h2 hn h3 kn) (dE5 hb hO hK hc hI h2 hr hn h3 kn)
    unfold wpOp
    rw [h2]
    dsimp only
    split
    · rename_i hw
      exact .inl (s1 hw _ _ fun ρ1 rv w1 q1 q2 q3 q4 => hgo ρ1 rv w1 q1 q2 q3 q4)
    · rename_i hw
      obtain ⟨g1, g2⟩ := s2 (by simpa using hw)
      exact hgo _ _ _ (Ren.ext.refl _) g1 g2 (Upd.refl _ _)
theorem aH0 : ∀ (l : List Oper) (fr : Fr) (t : Nat) (u : AV), (bG1 l fr).get t = some u → fr.get t = some u ∧ ∀ o ∈ l, o.guard.isSome = true → o.dst ≠ some t
  | [], _, _, _, h => ⟨h, fun o ho => by cases ho⟩
  | o :: r, fr, t, u, h => by
    simp only [bG1] at h
    split at h
    · rename_i g d hg hd
      obtain ⟨h1, h2⟩ := aH0 r _ t u h
      obtain ⟨h3, h4⟩ := Fr.get_del h1
      refine ⟨h4, fun o' ho' hg' => ?_⟩
      rcases List.mem_cons.1 ho' with rfl | ho'
      · rw [hd]; intro he; cases he; exact h3 rfl
      · exact h2 o' ho' hg'
    · rename_i hno
      obtain ⟨h1, h2⟩ := aH0 r _ t u h
      refine ⟨h1, fun o' ho' hg' => ?_⟩
      rcases List.mem_cons.1 ho' with rfl | ho'
      · intro he
        obtain ⟨g, hg⟩ := Option.isSome_iff_exists.1 hg'
        exact hno g t hg he
      · exact h2 o' ho' hg'
theorem bY4 : ∀ (l : List Oper) (fr : Fr), (bG1 l fr).n = fr.n
  | [], _ => rfl
  | o :: r, fr => by
    simp only [bG1]
    split
    · rw [bY4 r]; rfl
    · exact bY4 r fr
def Runs (P : Program) (c : Code) (fr : Fr) (m : Mem) (e : Exit) (fr' : Fr) (m' : Mem) : Prop :=
  ∀ ρ A w a, FR ρ fr a → Rep ρ A m w → c.wp P (fun e' a' w' => e' = e ∧ a'.defers = a.defers ∧ ∃ ρ', ρ.ext ρ' ∧ FR ρ' fr' a' ∧ Rep ρ' A m' w' ∧ Upd A w w') a w
theorem evDraw_ok (hmix : P.follows .mixedOrders = true) {ok : List TypeId} (hok : Fair P ok) {pc : Pcs} (hpc : r0 P pc) {h : Hd} (hh : N6 P h) {ro : FuncId → Bool} {ops : Array Oper} {id : Nat} {fr : Fr} {m : Mem} {k : Fr → Mem → Option Out} {x : Out}
    (hng : NoGd fr) (he : evDraw P ok pc h ro ops fr m k = some x) (hx : Om.fine x) : ∃ fr' m', k fr' m' = some x ∧ NoGd fr' ∧ Runs P (.region id ops true) fr m .normal fr' m' := by
  unfold evDraw at he
  cases hc : bx3 ops.toList 0 && tmpOk ops with
  | false => rw [hc] at he; cases he
  | true =>
  rw [hc, cond_true] at he
  simp only [Bool.and_eq_true] at hc
  obtain ⟨fr1, m1, rs, S, k1, k2, k3⟩ := evD_ok (fr0 := fr) (m0 := m) hok hpc hh hx ops.toList [] fr m [] _ he (fun q => by simp)
    ⟨fun i r hi => by simp at hi, rfl, fun t u ht => .inr ⟨ht, fun j q _ hq => by simp at hq⟩, fun id b hb => .inr ⟨hb, fun j q _ hq => by simp at hq⟩, Nat.le_refl _, fun i r hi => by simp at hi, fun d => by simp⟩
  cases hm : memOk ops rs with
  | false => rw [hm] at k1; cases k1
  | true =>
  rw [hm, cond_true] at k1
  have hlen : rs.length = ops.size := by simpa using k3
  have hO : Ordered ops rs := ⟨tmpOk_ok hc.2, memOk_ok hm⟩
  refine ⟨_, m1, k1, fun t t' w u hget => ?_, fun ρ A w a hf hR => ?_⟩
  · obtain ⟨h1, h2⟩ := aH0 _ _ _ _ hget
    rcases k2.fr t _ h1 with ⟨j, q, hj, hq, hd, hu, _⟩ | ⟨h0, _⟩
    · obtain ⟨o, ho, kn⟩ := k2.each j q hq
      obtain ⟨i, hg, _⟩ := kn.step.1 t' w u hu.symm
      exact h2 o (List.mem_of_getElem? (by simpa using ho)) (by simp [hg]) (by rw [← kn.dst]; exact hd)
    · exact hng t t' w u h0
  · refine wp_region_any hmix ?_
    have hRd : Rep ρ A m { w with drawn := w.drawn + 1 } := hR.drew
    refine any_ok (ρ0 := ρ) (A := A) (w0 := w) (a0 := a) hc.1 hO k2 hng hlen (fun ρ' a' w' hI => ?_) ops.size _ ρ a _ (by simp) ?_ ?_ ?_
    · refine ⟨rfl, hI.defers, { ρ' with n := m1.n }, ?_, ?_, ?_, hI.upd⟩
      · exact ⟨⟨hI.base.dom, hI.base.bb, hI.base.bo, hI.base.sh, hI.base.room, hI.base.ft⟩, by rw [hR.n]; exact k2.n, fun i hi hlt => hI.old i hi (by rw [← hR.n]; exact hlt)⟩
      · refine ⟨by rw [bY4, k2.frn]; exact hI.size, fun t u ht => ?_⟩
        obtain ⟨h1, _⟩ := aH0 _ _ _ _ ht
        have hle : ∀ n, (ρ'.lim n).le { ρ' with n := m1.n } := fun n => ⟨fun _ h => h.1, fun _ _ => rfl, fun _ _ => rfl, fun _ _ => rfl, fun _ _ => rfl, fun _ _ => rfl⟩
        rcases k2.fr t u h1 with ⟨j, q, hj, hq, hd, rfl, hlt⟩ | ⟨h0, hno⟩
        · exact (hI.tmp j q t (by omega) hq hd hlt).mono (hle _)
        · exact (hI.tmp0 t u h0 fun i r hi hr => hno i r (by omega) hr).mono (hle _)
      · have hle : ρ'.le { ρ' with n := m1.n } := ⟨fun _ h => h, fun _ _ => rfl, fun _ _ => rfl, fun _ _ => rfl, fun _ _ => rfl, fun _ _ => rfl⟩
        have hmm : ∀ id b, m1.get id = some b → aR1 m rs (· < ops.size) id b := fun id b hb => by rw [← hlen]; exact k2.mem id b hb
        refine ⟨rfl, fun id hid => ?_, fun id b hb => ?_, fun i j bi bj hi hj hij hwr => hI.sep i j bi bj (hmm i bi hi) (hmm j bj hj) hij hwr, hI.new, hR.tab.later hI.upd.old⟩
        · rcases hI.dom id hid with h | ⟨i, r, _, hr, _, h⟩
          · exact Nat.lt_of_lt_of_le h k2.n
          · exact Nat.lt_of_lt_of_le h (k2.prev i r hr)
        · obtain ⟨g1, g2⟩ := hI.cur (hmm id b hb)
          exact ⟨g1, g2.mono g1 hle (fun _ _ => rfl) fun _ h _ => h⟩
    · unfold left
      exact Nat.le_trans (List.length_filter_le _ _) (by simp)
    · intro i o _ hL
      rw [getD_replicate_false] at hL; cases hL
    · have hF : ∀ k, ¬ ((Array.replicate ops.size false).getD k false = true) := fun k h => by rw [getD_replicate_false] at h; cases h
      have hle : ρ.le (ρ.lim m.n) := ⟨fun i hi => ⟨hi, by rw [← hR.n]; exact hR.lt i hi⟩, fun _ _ => rfl, fun _ _ => rfl, fun _ _ => rfl, fun _ _ => rfl, fun _ _ => rfl⟩
      refine ⟨Ren.le.refl ρ, fun _ h _ => h, hf.size, rfl, fun id hid => .inl (by rw [← hR.n]; exact hR.lt id hid), hRd.new, hRd.tab, Upd.drew, fun i r t hi => absurd hi (hF i),
        fun t u ht _ => (hf.get t u ht).mono hle, fun j q id b hj => absurd hj (hF j), fun id b hb _ => ?_, fun id id' b b' hf1 hf2 hne hwr => ?_⟩
      · obtain ⟨g1, g2⟩ := hRd.blk id b hb
        exact ⟨hle.dom id g1, g2.mono g1 hle (fun _ _ => rfl) fun _ h _ => h⟩
      · rcases hf1 with ⟨j, q, hj, _⟩ | ⟨h1, _⟩
        · exact absurd hj (hF j)
        · rcases hf2 with ⟨j, q, hj, _⟩ | ⟨h2, _⟩
          · exact absurd hj (hF j)
          · exact hR.sep id id' b b' h1 h2 hne hwr
end
end Go.Ev
namespace Go.Ev
abbrev Kc := Exit → Fr → Mem → Option Out
abbrev Ov := Nat → Fr → Mem → Kc → Option (Option Out)
def thenK (next k : Kc) : Kc := fun e fr m => match e with
  | .normal => next .normal fr m
  | e => k e fr m
def loopN (step : Fr → Mem → Kc → Option Out) (k : Kc) : Nat → Fr → Mem → Option Out
  | 0, _, _ => none
  | n + 1, fr, m => step fr m (thenK (fun _ fr m => loopN step k n fr m) k)
def isHead : Code → Code → Bool
  | .skip, .exit _ => true
  | _, _ => false
def evC (P : Program) (ok : List TypeId) (pc : Pcs) (h : Hd) (ro : FuncId → Bool) (ov : Ov) (N : Nat) (st : Bool) : Code → Fr → Mem → Kc → Option Out
  | .skip, fr, m, k => k .normal fr m
  | .label _, fr, m, k => k .normal fr m
  | .exit id, fr, m, k => k (.exit id) fr m
  | .ret, fr, m, k => k .ret fr m
  | .seq a b, fr, m, k => evC P ok pc h ro ov N st a fr m (thenK (fun _ fr m => evC P ok pc h ro ov N st b fr m k) k)
  | .cond c a b, fr, m, k => match rdOp fr [] c with
    | some (.bl x) => bif st || (isHead a b && Nat.beq (N % 2) 0) then (bif x then evC P ok pc h ro ov N st a fr m k else evC P ok pc h ro ov N st b fr m k)
      else brC x (evC P ok pc h ro ov N st a fr m k) (evC P ok pc h ro ov N st b fr m k)
    | _ => none
  | .block id b, fr, m, k => match ov id fr m k with
    | some r => r
    | none => evC P ok pc h ro ov N st b fr m fun e fr m => match e with
      | .exit id' => bif Nat.beq id' id then k .normal fr m else k (.exit id') fr m
      | e => k e fr m
  | .loop b, fr, m, k => loopN (evC P ok pc h ro ov N st b) k N fr m
  | .scope b, fr, m, k => evC P ok pc h ro ov N st b fr m fun e fr m => match e with
      | .goto _ => none
      | e => k e fr m
  | .region _ ops draw, fr, m, k => bif draw then evDraw P ok pc h ro ops fr m (k .normal)
      else evOps P ok pc h ops (anyG ops.toList) ops.toList [] fr m fun fr m => k .normal (bG1 ops.toList fr) m
  | _, _, _, _ => none
section
variable {P : Program}
def OvOk (P : Program) (ov : Ov) : Code → Prop
  | .seq a b => OvOk P ov a ∧ OvOk P ov b
  | .cond _ a b => OvOk P ov a ∧ OvOk P ov b
  | .block id b => (∀ fr m k r, NoGd fr → ov id fr m k = some (some r) → Om.fine r → ∃ e fr' m', k e fr' m' = some r ∧ NoGd fr' ∧ Runs P (.block id b) fr m e fr' m') ∧ OvOk P ov b
  | .loop b => OvOk P ov b
  | .scope b => OvOk P ov b
  | _ => True
def Post (ρ : Ren) (A : Nat → Prop) (w : World) (a : Act) (e : Exit) (fr' : Fr) (m' : Mem) : Exit → Act → World → Prop :=
  fun e' a' w' => e' = e ∧ a'.defers = a.defers ∧ ∃ ρ', ρ.ext ρ' ∧ FR ρ' fr' a' ∧ Rep ρ' A m' w' ∧ Upd A w w'
theorem Post.trans {ρ ρ1 : Ren} {A : Nat → Prop} {w w1 : World} {a a1 : Act} {e : Exit} {fr' : Fr} {m' : Mem} (hd : a1.defers = a.defers) (h1 : ρ.ext ρ1) (h2 : Upd A w w1) {e' : Exit} {a' : Act} {w' : World}
    (h : Post ρ1 A w1 a1 e fr' m' e' a' w') : Post ρ A w a e fr' m' e' a' w' := by
  obtain ⟨q1, q2, ρ', q3, q4, q5, q6⟩ := h
  exact ⟨q1, q2.trans hd, ρ', h1.trans q3, q4, q5, h2.trans q6⟩
theorem Runs.here {c : Code} {fr : Fr} {m : Mem} {e : Exit} (h : ∀ (Q : Exit → Act → World → Prop) a w, Q e a w → c.wp P Q a w) : Runs P c fr m e fr m :=
  fun ρ A w a hf hR => h _ a w ⟨rfl, rfl, ρ, Ren.ext.refl ρ, hf, hR, Upd.refl A w⟩
theorem Exit.then_post {next : Act → World → Prop} {Q : Exit → Act → World → Prop} {e : Exit} (he : e ≠ .normal) {a : Act} {w : World} (h : Q e a w) : Exit.then next Q e a w := by
  cases e <;> first | exact absurd rfl he | exact h
theorem dA6 {next k : Kc} {e : Exit} {fr : Fr} {m : Mem} {r : Out} (h : thenK next k e fr m = some r) :
    (e = .normal ∧ next .normal fr m = some r) ∨ (e ≠ .normal ∧ k e fr m = some r) := by
  cases e <;> first | exact .inl ⟨rfl, h⟩ | exact .inr ⟨by simp, h⟩
theorem dB9 {b : Code} {step : Fr → Mem → Kc → Option Out} {k : Kc} {r : Out}
    (hs : ∀ fr m k', step fr m k' = some r → NoGd fr → ∃ e fr' m', k' e fr' m' = some r ∧ NoGd fr' ∧ Runs P b fr m e fr' m') :
    ∀ (n : Nat) (fr : Fr) (m : Mem), loopN step k n fr m = some r → NoGd fr → ∃ e fr' m', k e fr' m' = some r ∧ NoGd fr' ∧
      ∀ ρ A w a, FR ρ fr a → Rep ρ A m w → Code.rounds P b (Post ρ A w a e fr' m') n a w
  | 0, _, _, h, _ => by cases h
  | n + 1, fr, m, h, hg => by
    simp only [loopN] at h
    obtain ⟨e1, fr1, m1, h1, h2, h3⟩ := hs _ _ _ h hg
    rcases dA6 h1 with ⟨rfl, h4⟩ | ⟨hne, h4⟩
    · obtain ⟨e, fr', m', k1, k2, k3⟩ := dB9 hs n fr1 m1 h4 h2
      refine ⟨e, fr', m', k1, k2, fun ρ A w a hf hR => ?_⟩
      refine wp_mono (h3 ρ A w a hf hR) fun e' a' w' ⟨he, hd, ρ', q1, q2, q3, q4⟩ => ?_
      subst he
      show Code.rounds P b _ n a' w'
      have := k3 ρ' A w' a' q2 q3
      exact rounds_mono (fun e'' a'' w'' h => Post.trans hd q1 q4 h) this
    · refine ⟨e1, fr1, m1, h4, h2, fun ρ A w a hf hR => ?_⟩
      refine wp_mono (h3 ρ A w a hf hR) fun e' a' w' h => ?_
      obtain ⟨rfl, _⟩ := id h
      exact Exit.then_post hne h
  where
  rounds_mono {b : Code} {Q Q' : Exit → Act → World → Prop} (hq : ∀ e a w, Q e a w → Q' e a w) : ∀ {n : Nat} {a : Act} {w : World}, Code.rounds P b Q n a w → Code.rounds P b Q' n a w
    | 0, _, _, h => h
    | n + 1, a, w, h => by
      refine wp_mono h fun e a w h => ?_
      cases e
      case normal => exact rounds_mono hq h
      all_goals exact hq _ _ _ h
theorem bR2 {id id' : Nat} {Q : Exit → Act → World → Prop} {a : Act} {w : World} (hid : id' = id) (h : Q .normal a w) : Exit.inBlock id Q (.exit id') a w := by
  show if id' = id then _ else _
  rw [if_pos hid]; exact h
theorem bG3 {id id' : Nat} {Q : Exit → Act → World → Prop} {a : Act} {w : World} (hid : id' ≠ id) (h : Q (.exit id') a w) : Exit.inBlock id Q (.exit id') a w := by
  show if id' = id then _ else _
  rw [if_neg hid]; exact h
theorem dq3 {l : List Oper} {fr : Fr} {S D : List Nat} (hg : GdIn fr S D) (hD : ∀ t ∈ D, ∃ o ∈ l, o.guard.isSome = true ∧ o.dst = some t) : NoGd (bG1 l fr) := fun t t' w v h => by
  obtain ⟨h1, h2⟩ := aH0 l fr t _ h
  obtain ⟨o, h3, h4, h5⟩ := hD t (hg t t' w v h1).2
  exact h2 o h3 h4 h5
theorem foldD (l : List Oper) : ∀ (D : List Nat) (t : Nat), t ∈ l.foldl (fun D o => match o.guard with | some _ => addD o.dst D | none => D) D → t ∈ D ∨ ∃ o ∈ l, o.guard.isSome = true ∧ o.dst = some t := by
  induction l with
  | nil => intro D t h; exact .inl h
  | cons o l ih =>
    intro D t h
    simp only [List.foldl_cons] at h
    rcases ih _ t h with h1 | ⟨o', h1, h2⟩
    · cases hg : o.guard with
      | none => rw [hg] at h1; exact .inl h1
      | some x =>
        rw [hg] at h1
        cases hd : o.dst with
        | none => rw [hd] at h1; exact .inl h1
        | some d =>
          rw [hd] at h1
          simp only [addD, List.mem_cons] at h1
          rcases h1 with rfl | h1
          · exact .inr ⟨o, List.mem_cons_self, by simp [hg], hd⟩
          · exact .inl h1
    · exact .inr ⟨o', List.mem_cons_of_mem _ h1, h2⟩
theorem bE1 (hmix : P.follows .mixedOrders = true) {ok : List TypeId} (hok : Fair P ok) {pc : Pcs} (hpc : r0 P pc) {h : Hd} (hh : N6 P h) {ro : FuncId → Bool} {ov : Ov}
    {N : Nat} {st : Bool} {r : Out} (hr : Om.fine r) :
    ∀ (c : Code), OvOk P ov c → ∀ (fr : Fr) (m : Mem) (k : Kc), evC P ok pc h ro ov N st c fr m k = some r → NoGd fr → ∃ e fr' m', k e fr' m' = some r ∧ NoGd fr' ∧ Runs P c fr m e fr' m'
  | .skip, _, fr, m, k, he, hg => ⟨.normal, fr, m, he, hg, Runs.here fun _ _ _ => wp_skip⟩
  | .label _, _, fr, m, k, he, hg => ⟨.normal, fr, m, he, hg, Runs.here fun _ _ _ => wp_label⟩
  | .exit id, _, fr, m, k, he, hg => ⟨.exit id, fr, m, he, hg, Runs.here fun _ _ _ => wp_exit⟩
  | .ret, _, fr, m, k, he, hg => ⟨.ret, fr, m, he, hg, Runs.here fun _ _ _ => wp_ret⟩
  | .seq x y, ho, fr, m, k, he, hg => by
    simp only [evC] at he
    obtain ⟨e1, fr1, m1, h1, h2, h3⟩ := bE1 hmix hok hpc hh hr x ho.1 fr m _ he hg
    rcases dA6 h1 with ⟨rfl, h4⟩ | ⟨hne, h4⟩
    · obtain ⟨e, fr', m', k1, k2, k3⟩ := bE1 hmix hok hpc hh hr y ho.2 fr1 m1 _ h4 h2
      refine ⟨e, fr', m', k1, k2, fun ρ A w a hf hR => wp_seq (wp_mono (h3 ρ A w a hf hR) fun e' a' w' ⟨he, hd, ρ', q1, q2, q3, q4⟩ => ?_)⟩
      subst he
      exact wp_mono (k3 ρ' A w' a' q2 q3) fun e'' a'' w'' h => Post.trans hd q1 q4 h
    · refine ⟨e1, fr1, m1, h4, h2, fun ρ A w a hf hR => wp_seq (wp_mono (h3 ρ A w a hf hR) fun e' a' w' h => ?_)⟩
      obtain ⟨rfl, _⟩ := id h
      exact Exit.then_post hne h
  | .cond c x y, ho, fr, m, k, he, hg => by
    simp only [evC] at he
    split at he <;> try (cases he; done)
    rename_i b hb
    have key : (b = true → evC P ok pc h ro ov N st x fr m k = some r) ∧ (b = false → evC P ok pc h ro ov N st y fr m k = some r) := by
      cases hs : st || (isHead x y && Nat.beq (N % 2) 0) with
      | true =>
        rw [hs, cond_true] at he
        refine ⟨fun hb => ?_, fun hb => ?_⟩
        · rw [hb] at he; exact he
        · rw [hb] at he; exact he
      | false =>
        rw [hs, cond_false] at he
        exact brC_ok he hr
    have hev : ∀ ρ A w a, FR ρ fr a → Rep ρ A m w → a.eval c = .bool b := fun ρ A w a hf _ => aI2 hf.get (G := []) (fun x hx => by cases hx) _ _ hb
    cases b with
    | true =>
      obtain ⟨e, fr', m', k1, k2, k3⟩ := bE1 hmix hok hpc hh hr x ho.1 fr m k (key.1 rfl) hg
      exact ⟨e, fr', m', k1, k2, fun ρ A w a hf hR => wp_cond_true (hev ρ A w a hf hR) (k3 ρ A w a hf hR)⟩
    | false =>
      obtain ⟨e, fr', m', k1, k2, k3⟩ := bE1 hmix hok hpc hh hr y ho.2 fr m k (key.2 rfl) hg
      exact ⟨e, fr', m', k1, k2, fun ρ A w a hf hR => wp_cond_false (hev ρ A w a hf hR) (k3 ρ A w a hf hR)⟩
  | .block id b, ho, fr, m, k, he, hg => by
    simp only [evC] at he
    split at he
    · rename_i r' hr'
      subst he
      exact ho.1 fr m k r hg hr' hr
    · obtain ⟨e1, fr1, m1, h1, h2, h3⟩ := bE1 hmix hok hpc hh hr b ho.2 fr m _ he hg
      cases e1
      case exit id' =>
        simp only at h1
        cases hid : Nat.beq id' id with
        | true =>
          rw [hid] at h1
          have := Nat.eq_of_beq_eq_true hid
          subst this
          refine ⟨.normal, fr1, m1, h1, h2, fun ρ A w a hf hR => wp_block (wp_mono (h3 ρ A w a hf hR) fun e' a' w' h => ?_)⟩
          obtain ⟨he', hq⟩ := h
          subst he'
          exact bR2 (Q := Post ρ A w a .normal fr1 m1) rfl ⟨rfl, hq⟩
        | false =>
          rw [hid] at h1
          have := Nat.ne_of_beq_eq_false hid
          refine ⟨.exit id', fr1, m1, h1, h2, fun ρ A w a hf hR => wp_block (wp_mono (h3 ρ A w a hf hR) fun e' a' w' h => ?_)⟩
          obtain ⟨he', hq⟩ := h
          subst he'
          exact bG3 (Q := Post ρ A w a (.exit id') fr1 m1) this ⟨rfl, hq⟩
      all_goals
        refine ⟨_, fr1, m1, h1, h2, fun ρ A w a hf hR => wp_block (wp_mono (h3 ρ A w a hf hR) fun e' a' w' h => ?_)⟩
        obtain ⟨he', hq⟩ := h
        subst he'
        exact ⟨rfl, hq⟩
  | .loop b, ho, fr, m, k, he, hg => by
    simp only [evC] at he
    obtain ⟨e, fr', m', k1, k2, k3⟩ := dB9 (P := P) (b := b) (fun fr m k' h' hg' => bE1 hmix hok hpc hh hr b ho fr m k' h' hg') N fr m he hg
    exact ⟨e, fr', m', k1, k2, fun ρ A w a hf hR => wp_loop_rounds N (k3 ρ A w a hf hR)⟩
  | .scope b, ho, fr, m, k, he, hg => by
    simp only [evC] at he
    obtain ⟨e1, fr1, m1, h1, h2, h3⟩ := bE1 hmix hok hpc hh hr b ho fr m _ he hg
    have hne : ∀ l, e1 ≠ .goto l := fun l hl => by subst hl; cases h1
    have h1' : k e1 fr1 m1 = some r := by cases e1 <;> first | exact absurd rfl (hne _) | exact h1
    refine ⟨e1, fr1, m1, h1', h2, fun ρ A w a hf hR => wp_scope_straight (wp_mono (h3 ρ A w a hf hR) fun e' a' w' h => ?_)⟩
    obtain ⟨he', hq⟩ := h
    subst he'
    cases e' <;> first | exact absurd rfl (hne _) | exact ⟨rfl, hq⟩
  | .region id ops draw, _, fr, m, k, he, hg => by
    simp only [evC] at he
    cases draw with
    | true =>
      rw [cond_true] at he
      obtain ⟨fr', m', h1, h2, h3⟩ := evDraw_ok hmix hok hpc hh (id := id) hg he hr
      exact ⟨.normal, fr', m', h1, h2, h3⟩
    | false =>
      rw [cond_false] at he
      obtain ⟨fr', m', h1, h2, _, h4⟩ := dD9 hok hpc hh hr ops.toList [] [] fr m _ he (fun t t' w v h => absurd h (hg t t' w v)) (fun _ => hg)
      refine ⟨.normal, _, m', h1, dq3 h2 fun t ht => ?_, fun ρ A w a hf hR => wp_region_list (h4 _ ρ A w a hf hR fun ρ' a' w' q1 q2 q3 q4 q5 => ?_)⟩
      · rcases foldD _ _ _ ht with h | h
        · cases h
        · exact h
      · exact ⟨rfl, q5, ρ', q1, ⟨by rw [bY4]; exact q2.size, fun t u hu => q2.get t u (aH0 _ _ _ _ hu).1⟩, q3, q4⟩
  | .rangeFunc _ _ _ _, _, fr, m, k, he, hg => by cases he
  | .goto _, _, fr, m, k, he, hg => by cases he
  | .refuse _, _, fr, m, k, he, hg => by cases he
end
end Go.Ev
namespace Go.Ev
section
variable {P : Program} {ρ : Ren}
def cJ7 (P : Program) (fr : Fr) (m : Mem) : List ResultVar → Option (List AV)
  | [] => some []
  | .tmp t :: r => match rdOp fr [] (.tmp t), cJ7 P fr m r with
    | some v, some l => some (v :: l)
    | _, _ => none
  | .cell a t :: r => match rdOp fr [] (.tmp a) with
    | some x => (match aK3 P m t x, cJ7 P fr m r with
      | some v, some l => some (v :: l)
      | _, _ => none)
    | none => none
def evTup : List AV → Option AV
  | [v] => some v
  | l => bif l.all cH7 then some (.tup l) else none
theorem dW5 {id : Nat} {path : List PE} {rv : Value} {root : Sh} (h : VR3 ρ (.pt id path root) rv) (w : World) : ∃ t o, G5 (ρ.sh id) path t o ∧ (asAddr rv).run P w = .ok ⟨ρ.bb id, ρ.bo id + o, none⟩ w := by
  obtain ⟨_, _, t, o, h1, h2⟩ := h
  exact ⟨t, o, h1, by rw [h2]; rfl⟩
theorem cL5 {A : Nat → Prop} {w : World} {m : Mem} (hR : Rep ρ A m w) {fr : Fr} {a : Act} (hf : FRw ρ fr a) : ∀ (rs : List ResultVar) (l : List AV), cJ7 P fr m rs = some l →
    ∃ vs : List Value, (rs.mapM (m := Sem) fun | .tmp t => pure (a.tmps.getD t undef) | .cell c t => do loadVar t (← asAddr (a.tmps.getD c undef))).run P w = .ok vs w ∧ All2 (VR3 ρ) l vs
  | [], l, h => by cases h; exact ⟨[], rfl, trivial⟩
  | .tmp t :: r, l, h => by
    simp only [cJ7] at h
    split at h <;> try (cases h; done)
    rename_i v l' hv hl
    cases h
    obtain ⟨vs, h1, h2⟩ := cL5 hR hf r l' hl
    refine ⟨a.tmps.getD t undef :: vs, ?_, aI2 hf (G := []) (fun x hx => by cases hx) _ _ hv, h2⟩
    rw [List.mapM_cons]
    simp only [Sem.run_bind, Sem.run_pure, Result.andThen_ok, h1]
  | .cell c t :: r, l, h => by
    simp only [cJ7] at h
    split at h <;> try (cases h; done)
    rename_i x hx
    split at h <;> try (cases h; done)
    rename_i v l' hv hl
    cases h
    obtain ⟨vs, h1, h2⟩ := cL5 hR hf r l' hl
    have hxv := aI2 hf (G := []) (fun x hx => by cases hx) _ _ hx
    have hxv' : VR3 ρ x (a.tmps.getD c undef) := hxv
    unfold aK3 at hv
    split at hv <;> try (cases hv; done)
    rename_i id path
    split at hv <;> try (cases hv; done)
    rename_i tr wr hid
    split at hv <;> try (cases hv; done)
    rename_i c' hg
    split at hv <;> try (cases hv; done)
    rename_i hcond
    cases hv
    obtain ⟨s, o, hp, hrun⟩ := dW5 (P := P) hxv' w
    obtain ⟨rv, h3, h4⟩ := cf7 (P := P) hR hid hp hg hcond.1 hcond.2.1 hcond.2.2
    refine ⟨rv :: vs, ?_, aR0 h4, h2⟩
    rw [List.mapM_cons]
    simp only [Sem.run_bind, Sem.run_pure, hrun, Result.andThen_ok, h3, h1]
theorem db5 : ∀ {l : List AV} {vs : List Value}, All2 (VR3 ρ) l vs → l.all cH7 = true → All2 (VR2 ρ) l vs
  | [], [], _, _ => trivial
  | a :: l, b :: m, h, hn => by
    simp only [List.all_cons, Bool.and_eq_true] at hn
    exact ⟨h.1.cH7 hn.1, db5 h.2 hn.2⟩
  | [], _ :: _, h, _ => h.elim
  | _ :: _, [], h, _ => h.elim
theorem evTup_ok {l : List AV} {vs : List Value} {v : AV} (h : All2 (VR3 ρ) l vs) (hv : evTup l = some v) : VR3 ρ v (if h : vs.toArray.size = 1 then vs.toArray[0] else .tuple vs.toArray) := by
  unfold evTup at hv
  split at hv
  · cases hv
    match vs, h with
    | [b], h => exact h.1
  · rename_i hne
    cases ha : l.all cH7 with
    | false => rw [ha] at hv; cases hv
    | true =>
      rw [ha] at hv; cases hv
      have hl := h.len
      rw [dif_neg (by
        simp only [List.size_toArray]
        intro h1
        match l, hl.trans h1 with
        | [x], _ => exact hne x rfl)]
      exact ⟨_, rfl, by simpa using db5 h ha⟩
theorem dO9 {A : Nat → Prop} {w : World} {m : Mem} (hR : Rep ρ A m w) {fr : Fr} {a : Act} (hf : FRw ρ fr a) {fn : Func} {l : List AV} {v : AV} (h : cJ7 P fr m fn.results.toList = some l) (hv : evTup l = some v) :
    ∃ rv, (results fn a.tmps).run P w = .ok rv w ∧ VR3 ρ v rv := by
  obtain ⟨vs, h1, h2⟩ := cL5 hR hf _ _ h
  unfold results
  rw [Array.mapM_eq_mapM_toList]
  simp only [Sem.run_bind]
  refine ⟨_, ?_, evTup_ok h2 hv⟩
  rw [map_eq_pure_bind, Sem.run_bind]
  refine Eq.trans (congrArg (fun r => Result.andThen (Result.andThen r _) _) h1) ?_
  rfl
def dH1 : List AV → Nat → Tr AV → Tr AV
  | [], _, t => t
  | v :: l, i, t => dH1 l (i + 1) (t.set (some v) i)
def mkFr (args : List AV) (n : Nat) : Fr := { n := args.length + (n - args.length), t := dH1 args 0 (Tr.mk 10) }
def isGd : AV → Bool
  | .gd _ _ _ => true
  | _ => false
theorem bL3 : ∀ (l : List AV) (i : Nat) (t : Tr AV) (j : Nat) (u : AV), (dH1 l i t).get j = some u → (i ≤ j ∧ l[j - i]? = some u) ∨ t.get j = some u
  | [], _, _, _, _, h => .inr h
  | v :: l, i, t, j, u, h => by
    simp only [dH1] at h
    rcases bL3 l (i + 1) _ j u h with ⟨h1, h2⟩ | h1
    · refine .inl ⟨by omega, ?_⟩
      rw [show j - i = (j - (i + 1)) + 1 by omega]
      simpa using h2
    · rcases Tr.get_set _ t i j u h1 with ⟨rfl, h2⟩ | ⟨_, h2⟩
      · exact .inl ⟨Nat.le_refl _, by simpa using h2⟩
      · exact .inr h2
theorem mkFr_ok {args : List AV} {vals : List Value} (h : All2 (VR3 ρ) args vals) (n : Nat) :
    FR ρ (mkFr args n) { tmps := vals.toArray ++ Array.replicate (n - vals.toArray.size) undef, defers := [] } := by
  refine ⟨by simp [mkFr, h.len], fun t u ht => ?_⟩
  rcases bL3 args 0 _ t u ht with ⟨_, h1⟩ | h1
  · obtain ⟨b, h2, h3⟩ := h.get (by simpa using h1)
    have : (vals.toArray ++ Array.replicate (n - vals.toArray.size) undef).getD t undef = b := by
      have hlt : t < vals.length := (List.getElem?_eq_some_iff.1 h2).1
      have e := (List.getElem?_eq_some_iff.1 h2).2
      simp [Array.getElem?_append, hlt, e]
    show VRe ρ _ u ((vals.toArray ++ Array.replicate (n - vals.toArray.size) undef).getD t undef)
    rw [this]
    exact h3.e
  · rw [Tr.get_mk] at h1; cases h1
theorem mkFr_NoGd {args : List AV} (h : args.any isGd = false) (n : Nat) : NoGd (mkFr args n) := fun t t' w v ht => by
  rcases bL3 args 0 _ t _ ht with ⟨_, h1⟩ | h1
  · have hm := List.mem_of_getElem? h1
    have := List.any_eq_false.1 h _ hm
    simp [isGd] at this
  · rw [Tr.get_mk] at h1; cases h1
def evFn (P : Program) (ok : List TypeId) (pc : Pcs) (h : Hd) (ro : FuncId → Bool) (ov : Ov) (N : Nat) (st : Bool) (fn : Func) (args : List AV) (m : Mem) (k : AV → Mem → Option Out) : Option Out :=
  match fn.body with
  | none => none
  | some c => bif args.any isGd then none else evC P ok pc h ro ov N st c (mkFr args fn.ntmps) m fun e fr m =>
    match (match e with | .normal => cJ7 P fr m fn.results.toList | .ret => cJ7 P fr m fn.results.toList | _ => none) with
    | some l => (match evTup l with | some v => k v m | none => none)
    | none => none
def Plain (P : Program) (f : FuncId) (fn : Func) : Prop := P.funcs[f]? = some fn ∧ fn.name ≠ "runtime.NumGoroutine"
theorem ap8 {f : FuncId} {fn : Func} {c : Code} (hf : Plain P f fn) (hb : fn.body = some c) (args : Array Value) (w : World) : (callFunc f args).run P w = .ok (.enter f args) w := by
  have hn : (fn.name == "runtime.NumGoroutine") = false := by
    rw [← Bool.not_eq_true, beq_iff_eq]; exact hf.2
  unfold callFunc
  rw [Sem.run_bind]
  show Sem.run P (match P.funcs[f]? with | none => _ | some fn => _) w = _
  rw [hf.1]
  show Sem.run P (if (fn.name == "runtime.NumGoroutine") = true then _ else if fn.body.isNone = true then _ else pure (Next.enter f args)) w = _
  rw [hn, hb]
  rfl
theorem ci9 (hmix : P.follows .mixedOrders = true) {ok : List TypeId} (hok : Fair P ok) {pc : Pcs} (hpc : r0 P pc) {h : Hd} (hh : N6 P h) {ro : FuncId → Bool} {ov : Ov}
    {N : Nat} {st : Bool} {f : FuncId} {fn : Func} (hf : Plain P f fn) (ho : ∀ c, fn.body = some c → OvOk P ov c) {args : List AV} {m : Mem} {k : AV → Mem → Option Out} {r : Out}
    (he : evFn P ok pc h ro ov N st fn args m k = some r) (hr : Om.fine r) :
    ∃ v m', k v m' = some r ∧ ∀ ρ A w vals, Rep ρ A m w → All2 (VR3 ρ) args vals → Done P ρ A w (callFunc f vals.toArray) v m' := by
  unfold evFn at he
  split at he <;> try (cases he; done)
  rename_i c hb
  cases hg : args.any isGd with
  | true => rw [hg] at he; cases he
  | false =>
  rw [hg, cond_false] at he
  obtain ⟨e, fr', m', h1, h2, h3⟩ := bE1 hmix hok hpc hh hr c (ho c hb) _ m _ he (mkFr_NoGd hg _)
  split at h1 <;> try (cases h1; done)
  rename_i l hl
  split at h1 <;> try (cases h1; done)
  rename_i v hv
  refine ⟨v, m', h1, fun ρ A w vals hR hargs => .inr ⟨f, vals.toArray, ap8 hf hb _ w, ?_⟩⟩
  refine calls_of_wp hf.1 hb (wp_mono (h3 ρ A w _ (mkFr_ok hargs _) hR) fun e' a' w' h => ?_)
  obtain ⟨rfl, hd, ρ', q1, q2, q3, q4⟩ := h
  have fin : cJ7 P fr' m' fn.results.toList = some l → a'.defers = [] ∧ ∃ v_1, (results fn a'.tmps).run P w' = .ok v_1 w' ∧
      ∃ ρ' rv, Ending.returned v_1 = .returned rv ∧ ρ.ext ρ' ∧ Rep ρ' A m' w' ∧ Upd A w w' ∧ VR3 ρ' v rv := fun hl => by
    obtain ⟨rv, g1, g2⟩ := dO9 (P := P) q3 q2.get hl hv
    exact ⟨hd, rv, g1, ρ', rv, rfl, q1, q3, q4, g2⟩
  cases e' <;> first | exact fin hl | cases hl
def inl (P : Program) (ok : List TypeId) (pc : Pcs) (ro : FuncId → Bool) (fs : List FuncId) (N : Nat) (st : FuncId → Bool) : Nat → Hd
  | 0, _, _, _, _ => none
  | d + 1, f, args, m, k => bif memN f fs then (match P.funcs[f]? with
    | some fn => evFn P ok pc (inl P ok pc ro fs N st d) ro (fun _ _ _ _ => none) N (st f) fn args m k
    | none => none) else none
def Names (P : Program) (fs : List FuncId) : Prop := ∀ f ∈ fs, ∀ fn, P.funcs[f]? = some fn → fn.name ≠ "runtime.NumGoroutine"
def namesB (P : Program) (fs : List FuncId) : Bool := fs.all fun f => match P.funcs[f]? with | some fn => decide (fn.name ≠ "runtime.NumGoroutine") | none => true
theorem aA8 {fs : List FuncId} (h : namesB P fs = true) : Names P fs := fun f hf fn hfn => by
  have := List.all_eq_true.1 h f hf
  rw [hfn] at this
  exact of_decide_eq_true this
theorem m7 : ∀ (c : Code), OvOk P (fun _ _ _ _ => none : Ov) c
  | .seq a b => ⟨m7 a, m7 b⟩
  | .cond _ a b => ⟨m7 a, m7 b⟩
  | .block _ b => ⟨fun _ _ _ _ _ h => by (cases h), m7 b⟩
  | .loop b => m7 (c := b)
  | .scope b => m7 (c := b)
  | .skip => trivial
  | .region _ _ _ => trivial
  | .rangeFunc _ _ _ _ => trivial
  | .exit _ => trivial
  | .label _ => trivial
  | .goto _ => trivial
  | .ret => trivial
  | .refuse _ => trivial
end
end Go.Ev
namespace Go.Ev
section
variable {P : Program} {ρ : Ren}
mutual

def plain : AV → Bool
  | .bl _ => true
  | .it _ _ => true
  | .st _ => true
  | .nl => true
  | .nsl => true
  | .nfn => true
  | .nmp => true
  | .nif => true
  | .agg l => S4 l
  | .tup l => S4 l
  | .arr _ s _ => !s.hasRef
  | _ => false
def S4 : List AV → Bool
  | [] => true
  | a :: l => plain a && S4 l
end
theorem aG0 {ρ' : Ren} : ∀ {a : AV} {v : Value}, plain a = true → VR1 ρ a v → VR1 ρ' a v := by
  intro a v hp hv
  cases a <;> first | exact hv | exact hv.elim | (cases hp)
mutual
theorem ax7 : ∀ (a : AV), a.wf → plain a = true → ∀ x ∈ a.flat, plain x = true
  | .agg l, hw, h, x, hx => bw9 l hw h x hx
  | .arr n s f, hw, h, x, hx => by
    simp only [AV.flat, List.mem_flatMap, List.mem_range] at hx
    obtain ⟨i, _, hx⟩ := hx
    obtain ⟨h1, h2⟩ := hw i
    simp only [plain, Bool.not_eq_true'] at h
    exact aG7 (f i) h1 (by rw [h2]; exact h) x hx
  | .bl _, _, h, x, hx => by simp [AV.flat] at hx; subst hx; exact h
  | .it _ _, _, h, x, hx => by simp [AV.flat] at hx; subst hx; exact h
  | .st _, _, h, x, hx => by simp [AV.flat] at hx; subst hx; exact h
  | .nl, _, h, x, hx => by simp [AV.flat] at hx; subst hx; exact h
  | .nsl, _, h, x, hx => by simp [AV.flat] at hx; subst hx; exact h
  | .nfn, _, h, x, hx => by simp [AV.flat] at hx; subst hx; exact h
  | .nmp, _, h, x, hx => by simp [AV.flat] at hx; subst hx; exact h
  | .nif, _, h, x, hx => by simp [AV.flat] at hx; subst hx; exact h
  | .tup _, _, h, x, hx => by simp [AV.flat] at hx; subst hx; exact h
theorem bw9 : ∀ (l : List AV), AV.wfs l → S4 l = true → ∀ x ∈ AV.flats l, plain x = true
  | [], _, _, x, hx => by simp [AV.flats] at hx
  | a :: l, hw, h, x, hx => by
    simp only [AV.flats, List.mem_append] at hx
    simp only [S4, Bool.and_eq_true] at h
    rcases hx with hx | hx
    · exact ax7 a hw.1 h.1 x hx
    · exact bw9 l hw.2 h.2 x hx
theorem aG7 : ∀ (a : AV), a.wf → a.shape.hasRef = false → ∀ x ∈ a.flat, plain x = true
  | .agg l, hw, h, x, hx => cd4 l hw (by simpa [AV.shape, Sh.hasRef] using h) x hx
  | .arr n s f, hw, h, x, hx => by
    simp only [AV.flat, List.mem_flatMap, List.mem_range] at hx
    obtain ⟨i, _, hx⟩ := hx
    obtain ⟨h1, h2⟩ := hw i
    simp only [AV.shape, Sh.hasRef] at h
    exact aG7 (f i) h1 (by rw [h2]; exact h) x hx
  | .bl _, _, _, x, hx => by simp [AV.flat] at hx; subst hx; rfl
  | .it _ _, _, _, x, hx => by simp [AV.flat] at hx; subst hx; rfl
  | .st _, _, _, x, hx => by simp [AV.flat] at hx; subst hx; rfl
  | .un, _, h, _, _ => by simp [AV.shape, Sh.hasRef] at h
  | .nl, _, h, _, _ => by simp [AV.shape, Sh.hasRef] at h
  | .pt _ _ _, _, h, _, _ => by simp [AV.shape, Sh.hasRef] at h
  | .nsl, _, h, _, _ => by simp [AV.shape, Sh.hasRef] at h
  | .sl _ _ _ _ _, _, h, _, _ => by simp [AV.shape, Sh.hasRef] at h
  | .nfn, _, h, _, _ => by simp [AV.shape, Sh.hasRef] at h
  | .fn _ _, _, h, _, _ => by simp [AV.shape, Sh.hasRef] at h
  | .nmp, _, h, _, _ => by simp [AV.shape, Sh.hasRef] at h
  | .mp _, _, h, _, _ => by simp [AV.shape, Sh.hasRef] at h
  | .nif, _, h, _, _ => by simp [AV.shape, Sh.hasRef] at h
  | .tup _, _, h, _, _ => by simp [AV.shape, Sh.hasRef] at h
  | .gd _ _ _, _, h, _, _ => by simp [AV.shape, Sh.hasRef] at h
theorem cd4 : ∀ (l : List AV), AV.wfs l → Sh.hasRef.Sh.hasRefs (AV.shapes l) = false → ∀ x ∈ AV.flats l, plain x = true
  | [], _, _, x, hx => by simp [AV.flats] at hx
  | a :: l, hw, h, x, hx => by
    simp only [AV.flats, List.mem_append] at hx
    simp only [AV.shapes, Sh.hasRef.Sh.hasRefs, Bool.or_eq_false_iff] at h
    rcases hx with hx | hx
    · exact aG7 a hw.1 h.1 x hx
    · exact cd4 l hw.2 h.2 x hx
end
theorem All2.mono_mem {α β : Type} {R R' : α → β → Prop} {l : List α} {m : List β} (h : All2 R l m) (hr : ∀ a ∈ l, ∀ b, R a b → R' a b) : All2 R' l m := by
  induction l generalizing m with
  | nil => cases m with
    | nil => exact trivial
    | cons => exact h.elim
  | cons a l ih => cases m with
    | nil => exact h.elim
    | cons b m => exact ⟨hr a List.mem_cons_self b h.1, ih h.2 fun x hx => hr x (List.mem_cons_of_mem _ hx)⟩
theorem bX3 {ρ' : Ren} {a : AV} {v : Value} (hp : plain a = true) (hv : VR2 ρ a v) : VR2 ρ' a v := by
  cases a
  case agg l =>
    obtain ⟨h1, cs, h2, h3⟩ := hv
    exact ⟨h1, cs, h2, h3.mono_mem fun x hx b hb => aG0 (bw9 l h1 hp x hx) hb⟩
  case arr n s f =>
    obtain ⟨h1, cs, h2, h3⟩ := hv
    exact ⟨h1, cs, h2, h3.mono_mem fun x hx b hb => aG0 (ax7 (.arr n s f) h1 hp x hx) hb⟩
  all_goals exact aG0 (ρ := ρ) hp hv
theorem aA3 : ∀ {l : List AV}, S4 l = true → ∀ a ∈ l, plain a = true
  | [], _, _, h => by cases h
  | b :: l, h, a, ha => by
    simp only [S4, Bool.and_eq_true] at h
    rcases List.mem_cons.1 ha with rfl | ha
    · exact h.1
    · exact aA3 h.2 a ha
theorem ao0 {ρ' : Ren} {a : AV} {v : Value} (hp : plain a = true) (hv : VR3 ρ a v) : VR3 ρ' a v := by
  cases a
  case tup l =>
    obtain ⟨vs, h1, h2⟩ := hv
    exact ⟨vs, h1, h2.mono_mem fun x hx b hb => bX3 (aA3 hp x hx) hb⟩
  all_goals exact bX3 (ρ := ρ) (ρ' := ρ') (v := v) hp hv
def pcOf (P : Program) (ok : List TypeId) (pc : Pcs) (h : Hd) (ro : FuncId → Bool) (ov : Ov) (N : Nat) (st : Bool) (fn : Func) (args : List AV) : Option (Bool × AV) :=
  bif S4 args then evFn P ok pc h ro ov N st fn args Mem.empty fun v _ => bif plain v then some (true, v) else none
  else none
def cD0 (P : Program) (f : FuncId) (args : List AV) (v : AV) : Prop :=
  ∀ ρ A m w vals, Rep ρ A m w → All2 (VR3 ρ) args vals → Done P ρ A w (callFunc f vals.toArray) v m
def Ren.nil : Ren := { n := 0, dom := fun _ => False, bb := fun _ => 0, bo := fun _ => 0, sh := fun _ => .ref, room := fun _ => 0, ft := fun _ => [] }
theorem Rep.nil {w : World} (ht : Held (fun b => w.heap.size ≤ b) w) : Rep Ren.nil (fun b => w.heap.size ≤ b) Mem.empty w :=
  ⟨rfl, fun _ h => h.elim, fun id b h => by (simp only [Mem.get, Mem.empty, Tr.get_mk] at h; cases h), fun i j bi bj h => by (simp only [Mem.get, Mem.empty, Tr.get_mk] at h; cases h), fun _ h => h, ht⟩
theorem Done.out {A : Nat → Prop} {m m' : Mem} {w : World} {s : Sem Next} {v : AV} (hR : Rep ρ A m w) (hv : plain v = true) (h : Done P Ren.nil (fun b => w.heap.size ≤ b) w s v m') : Done P ρ A w s v m := by
  have key : ∀ {w' : World}, Upd (fun b => w.heap.size ≤ b) w w' → Rep ρ A m w' ∧ Upd A w w' := fun hu =>
    ⟨hR.later hu.size fun b hb => hu.old b hb (by omega), hu.mono fun i hi hA => by omega⟩
  rcases h with ⟨ρ', rv, w', nx, h1, h2, h3, h4, h5, h6⟩ | ⟨f, args, h1, h2⟩
  · obtain ⟨k1, k2⟩ := key h5
    exact .inl ⟨ρ, rv, w', nx, h1, h2, Ren.ext.refl ρ, k1, k2, ao0 hv h6⟩
  · refine .inr ⟨f, args, h1, h2.mono fun e w' ⟨ρ', rv, g1, g2, g3, g4, g5⟩ => ?_⟩
    obtain ⟨k1, k2⟩ := key g4
    exact ⟨ρ, rv, g1, Ren.ext.refl ρ, k1, k2, ao0 hv g5⟩
theorem p6 (hmix : P.follows .mixedOrders = true) {ok : List TypeId} (hok : Fair P ok) {pc : Pcs} (hpc : r0 P pc) {h : Hd} (hh : N6 P h) {ro : FuncId → Bool} {ov : Ov}
    {N : Nat} {st : Bool} {f : FuncId} {fn : Func} (hf : Plain P f fn) (ho : ∀ c, fn.body = some c → OvOk P ov c) {args : List AV} {g : Bool} {v : AV}
    (he : pcOf P ok pc h ro ov N st fn args = some (g, v)) (hg : g = true) : cD0 P f args v := by
  unfold pcOf at he
  cases hp : S4 args with
  | false => rw [hp] at he; cases he
  | true =>
  rw [hp, cond_true] at he
  obtain ⟨v', m', h1, h2⟩ := ci9 hmix hok hpc hh hf ho he hg
  cases hv : plain v' with
  | false => rw [hv] at h1; cases h1
  | true =>
  rw [hv] at h1; cases h1
  intro ρ A m w vals hR hargs
  exact (h2 Ren.nil _ w vals (Rep.nil (hR.tab.mono fun b hb h => absurd hb (by omega))) (hargs.mono_mem fun a ha b hb => ao0 (aA3 hp a ha) hb)).out hR hv
abbrev Row := FuncId × (List AV → Option (Option Bool × AV))
def m5 : List Row → Pcs
  | [], _, _ => none
  | (g, F) :: r, f, args => bif Nat.beq f g then F args else m5 r f args
def D1 (P : Program) (f : FuncId) (F : List AV → Option (Option Bool × AV)) : Prop := ∀ args c v, F args = some (c, v) → (c = none ∨ c = some true) → cD0 P f args v
theorem lookR_nil : r0 P (m5 []) := fun _ _ _ _ h => by cases h
theorem m8 {f : FuncId} {F : List AV → Option (Option Bool × AV)} {l : List Row} (h : D1 P f F) (hl : r0 P (m5 l)) : r0 P (m5 ((f, F) :: l)) := fun g args c v he hc => by
  simp only [m5] at he
  cases hb : Nat.beq g f with
  | true =>
    rw [hb] at he
    have := Nat.eq_of_beq_eq_true hb
    subst this
    exact h args c v he hc
  | false => rw [hb] at he; exact hl g args c v he hc
theorem E9 : N6 P (fun _ _ _ _ => none : Hd) := fun _ _ _ _ _ h => by cases h
end
end Go.Ev
namespace Go.Ev
section
variable {P : Program} {ρ : Ren}
def AV.bool : AV → Bool
  | .bl x => x
  | _ => false
def AV.str : AV → List UInt8
  | .st l => l
  | _ => []
def AV.fld (i : Nat) : AV → AV
  | .agg l => l.getD i .un
  | _ => .un
def AV.ix (i : Nat) : AV → AV
  | .arr _ _ f => f i
  | _ => .un
mutual

def norm : Sh → AV → AV
  | .int k, a => .it k a.num
  | .bool, a => .bl a.bool
  | .str, a => .st a.str
  | .ref, a => a
  | .agg l, a => .agg (r7 l 0 fun i => a.fld i)
  | .arr n s, a => .arr n s fun i => norm s (a.ix i)
def r7 : List Sh → Nat → (Nat → AV) → List AV
  | [], _, _ => []
  | s :: r, i, g => norm s (g i) :: r7 r (i + 1) g
end
mutual
theorem norm_eq : ∀ (s : Sh) (a : AV), a.wf → a.shape = s → norm s a = a
  | .int k, a, _, h => by
    cases a <;> simp [AV.shape] at h
    subst h; rfl
  | .bool, a, _, h => by
    cases a <;> simp [AV.shape] at h
    rfl
  | .str, a, _, h => by
    cases a <;> simp [AV.shape] at h
    rfl
  | .ref, a, _, _ => rfl
  | .agg l, a, hw, h => by
    cases a <;> simp [AV.shape] at h
    rename_i m
    simp only [norm]
    congr 1
    exact aK5 l m 0 (fun i => (AV.agg m).fld i) hw h (fun i => by simp [AV.fld])
  | .arr n s, a, hw, h => by
    cases a <;> simp [AV.shape] at h
    rename_i n' s' f
    obtain ⟨rfl, rfl⟩ := h
    simp only [norm]
    congr 1
    funext i
    exact norm_eq s' _ (hw i).1 (hw i).2
theorem aK5 : ∀ (l : List Sh) (m : List AV) (i : Nat) (g : Nat → AV), AV.wfs m → AV.shapes m = l → (∀ j, g (i + j) = m.getD j .un) → r7 l i g = m
  | [], m, i, g, _, h, _ => by cases m <;> simp [AV.shapes] at h; rfl
  | s :: l, m, i, g, hw, h, hg => by
    cases m with
    | nil => simp [AV.shapes] at h
    | cons a m =>
      simp only [AV.shapes, List.cons.injEq] at h
      simp only [r7]
      have h0 : g i = a := by simpa using hg 0
      rw [h0, norm_eq s a hw.1 h.1, aK5 l m (i + 1) g hw.2 h.2 fun j => by
        have := hg (j + 1)
        rw [show i + 1 + j = i + (j + 1) by omega, this]; simp]
end
mutual
theorem Sh.beq_refl : ∀ s : Sh, s.beq s = true
  | .int k => by simp [Sh.beq]
  | .bool => rfl
  | .str => rfl
  | .ref => rfl
  | .agg l => Sh.beqs_refl l
  | .arr n s => by simp [Sh.beq, Sh.beq_refl s]
theorem Sh.beqs_refl : ∀ l : List Sh, Sh.beqs l l = true
  | [] => rfl
  | s :: l => by simp [Sh.beqs, Sh.beq_refl s, Sh.beqs_refl l]
end
theorem VR3.wf {a : AV} {v : Value} (h : VR3 ρ a v) : a.wf := by
  cases a <;> first | trivial | exact h.1
theorem All2.wfs {l : List AV} {m : List Value} (h : All2 (VR3 ρ) l m) : AV.wfs l := by
  induction l generalizing m with
  | nil => exact trivial
  | cons a l ih => cases m with
    | nil => exact h.elim
    | cons b m => exact ⟨VR3.wf h.1, ih h.2⟩
def rowF (shs : List Sh) (G : Option ((Nat → AV) → Bool)) (V : (Nat → AV) → AV) : List AV → Option (Option Bool × AV) := fun args =>
  bif Sh.beqs (AV.shapes args) shs then some (match G with | some G => some (G fun i => args.getD i .un) | none => none, V fun i => args.getD i .un) else none
theorem dG6 {f : FuncId} {shs : List Sh} {G : Option ((Nat → AV) → Bool)} {V : (Nat → AV) → AV} (h : ∀ g, (∀ G', G = some G' → G' g = true) → cD0 P f (r7 shs 0 g) (V g)) : D1 P f (rowF shs G V) := fun args c v he hc => by
  unfold rowF at he
  cases hb : Sh.beqs (AV.shapes args) shs with
  | false => rw [hb] at he; cases he
  | true =>
  rw [hb, cond_true] at he
  cases he
  have hs := Sh.beqs_eq _ _ hb
  intro ρ A m w vals hR hargs
  have := h (fun i => args.getD i .un) (fun G' hG => by
    subst hG
    rcases hc with hc | hc
    · cases hc
    · exact Option.some.inj hc)
  rw [aK5 shs args 0 _ hargs.wfs hs fun j => by simp] at this
  exact this ρ A m w vals hR hargs
theorem s3 {f : FuncId} {shs : List Sh} {V : (Nat → AV) → AV} (h : ∀ g, cD0 P f (r7 shs 0 g) (V g)) : D1 P f (rowF shs none V) := dG6 fun g _ => h g
theorem R9 {f : FuncId} {shs : List Sh} {G : (Nat → AV) → Bool} {V : (Nat → AV) → AV} (h : ∀ g, G g = true → cD0 P f (r7 shs 0 g) (V g)) : D1 P f (rowF shs (some G) V) := dG6 fun g hg => h g (hg G rfl)
theorem cS1 {α : Type} (c : Bool) (a : α) : (bif c then a else a) = a := by cases c <;> rfl
theorem cS2 (c : Bool) : (bif c then true else false) = c := by cases c <;> rfl
theorem cS3 {α : Type} (c : Bool) (x y z : α) : (bif c then (bif c then x else y) else z) = bif c then x else z := by cases c <;> rfl
theorem cS4 {α : Type} (c : Bool) (x y z : α) : (bif c then x else (bif c then y else z)) = bif c then x else z := by cases c <;> rfl
theorem cS6 (x : Bool) : (x && true) = x := by cases x <;> rfl
theorem cS7 (x : Bool) : (true && x) = x := rfl
end
end Go.Ev
namespace Go.Ev
section
variable {P : Program} {ρ : Ren}
def shFs (P : Program) (sh : TypeId → Option Sh) : List Field → Nat → Option (List Sh)
  | [], _ => some []
  | f :: r, o => match sh f.type with
    | some s => bif Nat.beq f.offset o && Nat.beq s.size (P.cellsOf f.type) then (match shFs P sh r (o + s.size) with | some l => some (s :: l) | none => none) else none
    | none => none
def shT (P : Program) : Nat → TypeId → Option Sh
  | 0, _ => none
  | d + 1, t => match P.underlying t with
    | some .bool => some .bool
    | some (.int k) => some (.int k)
    | some .string => some .str
    | some (.struct fs) => match shFs P (shT P d) fs.toList 0 with
      | some l => bif Nat.beq (Sh.sizes l) (P.cellsOf t) then some (.agg l) else none
      | none => none
    | some (.array n e) => match shT P d e with
      | some s => bif Nat.beq s.size (P.cellsOf e) && Nat.beq (n * s.size) (P.cellsOf t) then some (.arr n s) else none
      | none => none
    | _ => none
mutual

def inR : AV → Prop
  | .it k n => k.min ≤ n ∧ n ≤ k.max
  | .agg l => inRs l
  | .arr _ _ f => ∀ i, inR (f i)
  | .st l => l.length ≤ maxLen
  | _ => True
def inRs : List AV → Prop
  | [] => True
  | a :: l => inR a ∧ inRs l
end
def Of (s : Sh) (a : AV) : Prop := a.wf ∧ a.shape = s ∧ inR a
def Ofs (l : List Sh) (m : List AV) : Prop := AV.wfs m ∧ AV.shapes m = l ∧ inRs m
theorem Ofs.nil : Ofs [] [] := ⟨trivial, rfl, trivial⟩
theorem Ofs.cons {s : Sh} {l : List Sh} {a : AV} {m : List AV} (h : Of s a) (h' : Ofs l m) : Ofs (s :: l) (a :: m) :=
  ⟨⟨h.1, h'.1⟩, by simp [AV.shapes, h.2.1, h'.2.1], ⟨h.2.2, h'.2.2⟩⟩
mutual

def Sh.flatB : Sh → Bool
  | .ref => false
  | .agg l => Sh.flatBs l
  | .arr _ s => s.flatB
  | _ => true
def Sh.flatBs : List Sh → Bool
  | [] => true
  | s :: l => s.flatB && Sh.flatBs l
end
mutual
theorem dflt : ∀ (s : Sh), s.flatB = true → ∃ a, Of s a
  | .int k, _ => ⟨.it k 0, trivial, rfl, show k.min ≤ 0 ∧ (0 : Int) ≤ k.max by cases k <;> decide⟩
  | .bool, _ => ⟨.bl false, trivial, rfl, trivial⟩
  | .str, _ => ⟨.st [], trivial, rfl, Nat.zero_le _⟩
  | .ref, h => by cases h
  | .agg l, h => by
    obtain ⟨m, h1, h2, h3⟩ := dflts l h
    exact ⟨.agg m, h1, by simp [AV.shape, h2], h3⟩
  | .arr n s, h => by
    obtain ⟨a, h1, h2, h3⟩ := dflt s h
    exact ⟨.arr n s fun _ => a, fun _ => ⟨h1, h2⟩, rfl, fun _ => h3⟩
theorem dflts : ∀ (l : List Sh), Sh.flatBs l = true → ∃ m, Ofs l m
  | [], _ => ⟨[], Ofs.nil⟩
  | s :: l, h => by
    simp only [Sh.flatBs, Bool.and_eq_true] at h
    obtain ⟨a, ha⟩ := dflt s h.1
    obtain ⟨m, hm⟩ := dflts l h.2
    exact ⟨a :: m, Ofs.cons ha hm⟩
end
theorem bD5 {α β : Type} {F : α → Option β} : ∀ {l : List α} {xs : List β}, l.mapM F = some xs → All2 (fun a x => F a = some x) l xs
  | [], xs, h => by simp at h; subst h; trivial
  | a :: l, xs, h => by
    simp only [List.mapM_cons, Option.bind_eq_bind, Option.bind_eq_some_iff, Option.pure_def, Option.some.injEq] at h
    obtain ⟨x, h1, ys, h2, rfl⟩ := h
    exact ⟨h1, bD5 h2⟩
variable {H : Type} {enc : TypeId × Value → H} {w : World} {base : Nat} {spare : Nat → Bool} {held : Bool}
def cM5 (ρ : Ren) (s : Sh) (cs : List Value) (ps : List MemPlace) : Prop := s.flatB = true ∧ ps = [] ∧ ∃ a, Of s a ∧ All2 (VR1 ρ) a.flat cs
theorem shFs_ok {F : TypeId → List Value → Option (DataW H × List MemPlace)} {sh : TypeId → Option Sh} (hF : ∀ t s cs x, sh t = some s → F t cs = some x → cM5 ρ s cs x.2) (cs : List Value) :
    ∀ (fs : List Field) (o : Nat) (l : List Sh) (xs : List (DataW H × List MemPlace)), shFs P sh fs o = some l → All2 (fun f x => F f.type ((cs.drop f.offset).take (P.cellsOf f.type)) = some x) fs xs →
      Sh.flatBs l = true ∧ xs.flatMap (·.2) = [] ∧ ∃ m, Ofs l m ∧ All2 (VR1 ρ) (AV.flats m) ((cs.drop o).take (Sh.sizes l))
  | [], o, l, xs, h, hx => by
    cases h
    cases xs with
    | nil => exact ⟨rfl, rfl, [], Ofs.nil, by simp [AV.flats, Sh.sizes]; trivial⟩
    | cons => exact hx.elim
  | f :: fs, o, l, xs, h, hx => by
    cases xs with
    | nil => exact hx.elim
    | cons x xs =>
    simp only [shFs] at h
    split at h <;> try (cases h; done)
    rename_i s hs
    cases hb : Nat.beq f.offset o && Nat.beq s.size (P.cellsOf f.type) with
    | false => rw [hb] at h; cases h
    | true =>
    rw [hb, cond_true] at h
    simp only [Bool.and_eq_true, Nat.beq_eq] at hb
    split at h <;> try (cases h; done)
    rename_i l' hl
    cases h
    obtain ⟨k1, k2, a, k3, k4⟩ := hF _ _ _ _ hs hx.1
    obtain ⟨g1, g2, m, g3, g4⟩ := shFs_ok hF cs fs _ _ _ hl hx.2
    refine ⟨by simp [Sh.flatBs, k1, g1], by simp [k2, g2], a :: m, Ofs.cons k3 g3, ?_⟩
    simp only [AV.flats, Sh.sizes]
    rw [List.take_add, List.drop_drop]
    rw [hb.1, ← hb.2] at k4
    exact k4.append g4
theorem rowOf (n c : Nat) (cs : List Value) (f : Nat → AV) (h : ∀ i, i < n → All2 (VR1 ρ) (f i).flat ((cs.drop (i * c)).take c)) : All2 (VR1 ρ) ((List.range n).flatMap fun i => (f i).flat) (cs.take (n * c)) := by
  induction n with
  | zero => simp; trivial
  | succ n ih =>
    rw [List.range_succ, List.flatMap_append, Nat.add_mul, Nat.one_mul, List.take_add]
    refine (ih fun i hi => h i (by omega)).append ?_
    simpa using h n (by omega)
theorem az1 : ∀ (d fuel : Nat) (t : TypeId) (s : Sh) (cs : List Value) (x : DataW H × List MemPlace), shT P d t = some s → DataW.trod enc P w base spare held fuel t cs = some x → cM5 ρ s cs x.2
  | 0, _, _, _, _, _, h, _ => by cases h
  | _, 0, _, _, _, _, _, h => by simp [DataW.trod] at h
  | d + 1, fuel + 1, t, s, cs, x, hs, hx => by
    unfold shT at hs
    unfold DataW.trod at hx
    split at hs <;> try (cases hs; done)
    · rename_i hu
      cases hs
      rw [hu] at hx
      match cs, hx with
      | [.bool b], hx =>
        simp only [Option.some.injEq] at hx; subst hx
        exact ⟨rfl, rfl, .bl b, ⟨trivial, rfl, trivial⟩, ⟨rfl, trivial⟩⟩
    · rename_i k hu
      cases hs
      rw [hu] at hx
      match cs, hx with
      | [.int k' n], hx =>
        simp only at hx
        split at hx <;> try (cases hx; done)
        rename_i hc
        obtain ⟨rfl, hwf⟩ := hc
        simp only [Option.some.injEq] at hx; subst hx
        simp only [Lit.wf, Bool.and_eq_true, decide_eq_true_eq] at hwf
        refine ⟨rfl, rfl, .it k' n, ⟨trivial, rfl, hwf⟩, ⟨⟨rfl, fun hsg => ?_⟩, trivial⟩⟩
        have : k'.min = 0 := by cases k' <;> first | rfl | cases hsg
        omega
    · rename_i hu
      cases hs
      rw [hu] at hx
      match cs, hx with
      | [.string b], hx =>
        simp only at hx
        split at hx <;> try (cases hx; done)
        rename_i hc
        simp only [Option.some.injEq] at hx; subst hx
        refine ⟨rfl, rfl, .st b.data.toList, ⟨trivial, rfl, ?_⟩, ⟨by simp [VR1], trivial⟩⟩
        show b.data.toList.length ≤ maxLen
        rw [Array.length_toList]; exact hc
    · rename_i fs hu
      split at hs <;> try (cases hs; done)
      rename_i l hl
      cases hb : Nat.beq (Sh.sizes l) (P.cellsOf t) with
      | false => rw [hb] at hs; cases hs
      | true =>
      rw [hb, cond_true] at hs
      cases hs
      have hb := Nat.eq_of_beq_eq_true hb
      rw [hu] at hx
      have hx' : (if cs.length = P.cellsOf t then (fs.toList.mapM fun f => DataW.trod enc P w base spare held fuel f.type ((cs.drop f.offset).take (P.cellsOf f.type))).map fun xs => ((.agg (xs.map (·.1)) : DataW H), xs.flatMap (·.2)) else none) = some x := by
        match cs, hx with
        | [], hx => exact hx
        | [_], hx => exact hx
        | _ :: _ :: _, hx => exact hx
      split at hx' <;> try (cases hx'; done)
      rename_i hlen
      simp only [Option.map_eq_some_iff] at hx'
      obtain ⟨xs, h1, rfl⟩ := hx'
      obtain ⟨g1, g2, m, g3, g4⟩ := shFs_ok (P := P) (fun t s cs x h1 h2 => az1 d fuel t s cs x h1 h2) cs _ _ _ _ hl (bD5 h1)
      refine ⟨g1, g2, .agg m, ⟨g3.1, by simp [AV.shape, g3.2.1], g3.2.2⟩, ?_⟩
      rw [List.drop_zero, List.take_of_length_le (by omega)] at g4
      exact g4
    · rename_i n e hu
      split at hs <;> try (cases hs; done)
      rename_i s' hs'
      cases hb : Nat.beq s'.size (P.cellsOf e) && Nat.beq (n * s'.size) (P.cellsOf t) with
      | false => rw [hb] at hs; cases hs
      | true =>
      rw [hb, cond_true] at hs
      cases hs
      simp only [Bool.and_eq_true, Nat.beq_eq] at hb
      rw [hu] at hx
      have hx' : (if cs.length = P.cellsOf t then ((List.range n).mapM fun i => DataW.trod enc P w base spare held fuel e ((cs.drop (i * P.cellsOf e)).take (P.cellsOf e))).map fun xs => ((.agg (xs.map (·.1)) : DataW H), xs.flatMap (·.2)) else none) = some x := by
        match cs, hx with
        | [], hx => exact hx
        | [_], hx => exact hx
        | _ :: _ :: _, hx => exact hx
      split at hx' <;> try (cases hx'; done)
      rename_i hlen
      simp only [Option.map_eq_some_iff] at hx'
      obtain ⟨xs, h1, rfl⟩ := hx'
      have hall := bD5 h1
      have each : ∀ i, i < n → cM5 ρ s' ((cs.drop (i * P.cellsOf e)).take (P.cellsOf e)) (xs.getD i (.nil, [])).2 := fun i hi => by
        obtain ⟨y, h2, h3⟩ := hall.get (i := i) (a := i) (by simp [hi])
        have := az1 d fuel e s' _ y hs' h3
        simpa [List.getD, h2] using this
      have hfl : s'.flatB = true := shT_flat hs'
      obtain ⟨a0, ha0⟩ := dflt s' hfl
      have hch : ∀ i, ∃ a, Of s' a ∧ (i < n → All2 (VR1 ρ) a.flat ((cs.drop (i * P.cellsOf e)).take (P.cellsOf e))) := fun i => by
        by_cases hi : i < n
        · obtain ⟨_, _, a, h2, h3⟩ := each i hi
          exact ⟨a, h2, fun _ => h3⟩
        · exact ⟨a0, ha0, fun h => absurd h hi⟩
      refine ⟨hfl, ?_, .arr n s' fun i => (hch i).choose, ⟨fun i => ⟨(hch i).choose_spec.1.1, (hch i).choose_spec.1.2.1⟩, rfl, fun i => (hch i).choose_spec.1.2.2⟩, ?_⟩
      · simp only [List.flatMap_eq_nil_iff]
        intro y hy
        obtain ⟨i, hi⟩ := List.getElem?_of_mem hy
        have hlt : i < n := by
          have := hall.len
          have h4 := (List.getElem?_eq_some_iff.1 hi).1
          simp at this; omega
        have := (each i hlt).2.1
        simpa [List.getD, hi] using this
      · have := rowOf (ρ := ρ) n (P.cellsOf e) cs (fun i => (hch i).choose) fun i hi => (hch i).choose_spec.2 hi
        rw [List.take_of_length_le (by rw [hlen, ← hb.2, hb.1]; omega)] at this
        exact this
  where
  shT_flat : ∀ {d : Nat} {t : TypeId} {s : Sh}, shT P d t = some s → s.flatB = true
    | 0, _, _, h => by cases h
    | d + 1, t, s, h => by
      unfold shT at h
      split at h <;> try (cases h; done)
      · cases h; rfl
      · cases h; rfl
      · cases h; rfl
      · split at h <;> try (cases h; done)
        rename_i l hl
        cases hb : Nat.beq (Sh.sizes l) (P.cellsOf t) with
        | false => rw [hb] at h; cases h
        | true => rw [hb] at h; cases h; exact shFs_flat hl
      · rename_i n e _
        split at h <;> try (cases h; done)
        rename_i s' hs'
        cases hb : Nat.beq s'.size (P.cellsOf e) && Nat.beq (n * s'.size) (P.cellsOf t) with
        | false => rw [hb] at h; cases h
        | true => rw [hb] at h; cases h; show s'.flatB = true; exact shT_flat (d := d) hs'
  shFs_flat {d : Nat} : ∀ {fs : List Field} {o : Nat} {l : List Sh}, shFs P (shT P d) fs o = some l → Sh.flatBs l = true
    | [], _, _, h => by cases h; rfl
    | f :: fs, o, l, h => by
      simp only [shFs] at h
      split at h <;> try (cases h; done)
      rename_i s hs
      cases hb : Nat.beq f.offset o && Nat.beq s.size (P.cellsOf f.type) with
      | false => rw [hb] at h; cases h
      | true =>
      rw [hb, cond_true] at h
      split at h <;> try (cases h; done)
      rename_i l' hl
      cases h
      simp only [Sh.flatBs, shT_flat hs, shFs_flat hl, Bool.and_true]
end
end Go.Ev
namespace Go.Ev
section
variable {P : Program}
variable {H : Type} {enc : TypeId × Value → H}
theorem cM5.val {ρ : Ren} {d : Nat} {t : TypeId} {s : Sh} {v : Value} {W : World} {r : Reach} {b : Nat} (hs : shT P d t = some s) (hok : Value.okWide P W r b t v) {a : AV} (ha : Of s a) (h : All2 (VR1 ρ) a.flat v.cells.toList) : VR3 ρ a v := by
  cases d with
  | zero => cases hs
  | succ d =>
  unfold shT at hs
  split at hs <;> try (cases hs; done)
  · rename_i hu
    cases hs
    obtain ⟨b, rfl⟩ := Go.WideShapes.okWide_bool hu hok
    cases a <;> simp [Of, AV.shape] at ha
    exact h.1
  · rename_i k hu
    cases hs
    obtain ⟨b, rfl⟩ := Go.WideShapes.okWide_int hu hok
    cases a <;> simp [Of, AV.shape] at ha
    exact h.1
  · rename_i hu
    cases hs
    obtain ⟨b, rfl⟩ := Go.WideShapes.okWide_string hu hok
    cases a <;> simp [Of, AV.shape] at ha
    exact h.1
  · rename_i fs hu
    split at hs <;> try (cases hs; done)
    rename_i l hl
    cases hb : Nat.beq (Sh.sizes l) (P.cellsOf t) with
    | false => rw [hb] at hs; cases hs
    | true =>
    rw [hb, cond_true] at hs; cases hs
    obtain ⟨cs, rfl, _⟩ := Go.WideShapes.okWide_struct hu hok
    obtain ⟨h1, h2, _⟩ := ha
    cases a <;> simp [AV.shape] at h2
    exact ⟨h1, cs, rfl, h⟩
  · rename_i n e hu
    split at hs <;> try (cases hs; done)
    rename_i s' hs'
    cases hb : Nat.beq s'.size (P.cellsOf e) && Nat.beq (n * s'.size) (P.cellsOf t) with
    | false => rw [hb] at hs; cases hs
    | true =>
    rw [hb, cond_true] at hs; cases hs
    obtain ⟨cs, rfl⟩ : ∃ cs, v = .agg cs := by
      simp only [Value.okWide, hu] at hok
      obtain ⟨cs, h1, _⟩ := hok
      exact ⟨cs, h1⟩
    obtain ⟨h1, h2, _⟩ := ha
    cases a <;> simp [AV.shape] at h2
    exact ⟨h1, cs, rfl, h⟩
theorem kept_upd {W W' : World} (h : Upd (fun b => W.heap.size ≤ b) W W') (may : MemPlace → Prop) : W.keptBut W' may := by
  refine ⟨h.os, h.out, fun i hi => ?_⟩
  have := h.old i hi (by omega)
  rw [this]
  cases W.heap[i]? with
  | none => rfl
  | some o => cases o <;> first | exact ⟨rfl, rfl, rfl, fun _ _ => rfl⟩ | exact .inr ⟨rfl, rfl⟩ | rfl
theorem cD0.calls {f : FuncId} {fn : Func} {c : Code} (hf : Plain P f fn) (hb : fn.body = some c) {args : List AV} {v : AV} (h : cD0 P f args v) {W : World} {vals : List Value} (ha : All2 (VR3 Ren.nil) args vals) (ht : Held (fun b => W.heap.size ≤ b) W) :
    Calls P f vals.toArray W fun e W' => ∃ ρ' rv, e = .returned rv ∧ Upd (fun b => W.heap.size ≤ b) W W' ∧ VR3 ρ' v rv := by
  have := h Ren.nil _ Mem.empty W vals (Rep.nil ht) ha
  rcases this with ⟨ρ', rv, w', nx, h1, h2, _⟩ | ⟨f', args', h1, h2⟩
  · rw [ap8 hf hb] at h1
    cases h1
    rcases h2 with h2 | ⟨h2, _⟩ <;> cases h2
  · rw [ap8 hf hb] at h1
    cases h1
    exact h2.mono fun e W' ⟨ρ', rv, g1, _, _, g4, g5⟩ => ⟨ρ', rv, g1, g4, g5⟩
theorem t8 {α : Type} {p : α → Prop} {c : Bool} {a b : α} (ha : p a) (hb : p b) : p (bif c then a else b) := by cases c <;> assumption
end
end Go.Ev
namespace Go.Ev
theorem O2 {x y : Int} : iEq x y = true ↔ x = y := by unfold iEq; exact beq_iff_eq
theorem bZ6 {x y : Int} : iNe x y = true ↔ x ≠ y := by unfold iNe; exact bne_iff_ne
theorem ba5 {x y : Int} : iLt x y = true ↔ x < y := by unfold iLt; exact decide_eq_true_iff
theorem J1 {x y : Int} : iLe x y = true ↔ x ≤ y := by unfold iLe; exact decide_eq_true_iff
theorem V8 {x : Int} {n : Nat} : iIn x n = true ↔ 0 ≤ x ∧ x < n := by unfold iIn; exact decide_eq_true_iff
theorem bd2 {x y : Int} : iEq x y = false ↔ x ≠ y := by rw [← Bool.not_eq_true, O2]
theorem O7 {x y : Int} : iNe x y = false ↔ x = y := by rw [← Bool.not_eq_true, bZ6]; omega
theorem Q2 {x y : Int} : iLt x y = false ↔ y ≤ x := by rw [← Bool.not_eq_true, ba5]; omega
theorem aD1 {x y : Int} : iLe x y = false ↔ y < x := by rw [← Bool.not_eq_true, J1]; omega
theorem iEq_self (x : Int) : iEq x x = true := O2.2 rfl
theorem dP9 {n : Int} (h1 : -9223372036854775808 ≤ n) (h2 : n < 9223372036854775808) : IntKind.i64.wrap n = n := by
  show (if (true && decide (n % 18446744073709551616 ≥ 9223372036854775808)) = true then n % 18446744073709551616 - 18446744073709551616 else n % 18446744073709551616) = n
  simp only [Bool.true_and, decide_eq_true_eq]
  split <;> omega
theorem wrapU {n : Int} (h1 : 0 ≤ n) (h2 : n < 18446744073709551616) : IntKind.u64.wrap n = n := by
  show (if (false && decide (n % 18446744073709551616 ≥ 9223372036854775808)) = true then n % 18446744073709551616 - 18446744073709551616 else n % 18446744073709551616) = n
  simp only [Bool.false_and, Bool.false_eq_true, if_false]
  omega
theorem dC9 (n : Int) : IntKind.u64.wrap n = n % 18446744073709551616 := by
  show (if (false && decide (n % 18446744073709551616 ≥ 9223372036854775808)) = true then n % 18446744073709551616 - 18446744073709551616 else n % 18446744073709551616) = _
  simp only [Bool.false_and, Bool.false_eq_true, if_false]
theorem iAdd_i64 {x y : Int} (h1 : -9223372036854775808 ≤ x + y) (h2 : x + y < 9223372036854775808) : iAdd .i64 x y = x + y := dP9 h1 h2
theorem dE2 {x y : Int} (h1 : -9223372036854775808 ≤ x - y) (h2 : x - y < 9223372036854775808) : iSub .i64 x y = x - y := dP9 h1 h2
theorem aD6 (x y : Int) : iMax x y = if x < y then y else x := by unfold iMax iLt; rw [Bool.cond_decide]
theorem aO5 (x y : Int) : iMin x y = if y < x then y else x := by unfold iMin iLt; rw [Bool.cond_decide]
def U (x : Int) : Prop := 0 ≤ x ∧ x < 18446744073709551616
def W (x : Int) : BitVec 64 := BitVec.ofInt 64 x
theorem U_of (v : BitVec 64) : U (v.toNat : Int) := ⟨Int.natCast_nonneg _, by have := v.isLt; omega⟩
theorem W_of (v : BitVec 64) : W (v.toNat : Int) = v := by
  unfold W; rw [BitVec.ofInt_natCast, BitVec.ofNat_toNat, BitVec.setWidth_eq]
theorem of_W {x : Int} (h : U x) : ((W x).toNat : Int) = x := by
  unfold W; rw [BitVec.toNat_ofInt]
  obtain ⟨h1, h2⟩ := h
  omega
theorem W_inj {x y : Int} (hx : U x) (hy : U y) (h : W x = W y) : x = y := by rw [← of_W hx, ← of_W hy, h]
theorem dn7 (v : BitVec 64) : IntKind.u64.wrap (v.toNat : Int) = v.toNat := wrapU (U_of v).1 (U_of v).2
theorem U_wrap (x : Int) : U (IntKind.u64.wrap x) := by rw [dC9]; unfold U; omega
theorem dI7 (x y : Int) : iAnd .u64 x y = ((W x &&& W y).toNat : Int) := dn7 _
theorem iOr_W (x y : Int) : iOr .u64 x y = ((W x ||| W y).toNat : Int) := dn7 _
theorem da0 (x y : Int) : T1 .u64 x y = ((W x &&& ~~~ W y).toNat : Int) := dn7 _
theorem W_and (x y : Int) : W (iAnd .u64 x y) = W x &&& W y := by rw [dI7, W_of]
theorem W_or (x y : Int) : W (iOr .u64 x y) = W x ||| W y := by rw [iOr_W, W_of]
theorem bq0 (x y : Int) : W (T1 .u64 x y) = W x &&& ~~~ W y := by rw [da0, W_of]
theorem U_and (x y : Int) : U (iAnd .u64 x y) := by rw [dI7]; exact U_of _
theorem U_or (x y : Int) : U (iOr .u64 x y) := by rw [iOr_W]; exact U_of _
theorem bY3 (x y : Int) : U (T1 .u64 x y) := by rw [da0]; exact U_of _
theorem cY3 (x y : Int) : U (iAdd .u64 x y) := U_wrap _
theorem iShr_W {x : Int} (hx : U x) (n : Nat) (hn : n ≤ 64) : iShr .u64 x (n : Int) = ((W x >>> n).toNat : Int) := by
  unfold iShr
  have e : min (n : Int).toNat (IntKind.u64.bits) = n := by show min (n : Int).toNat 64 = n; omega
  rw [e, BitVec.toNat_ushiftRight, Nat.shiftRight_eq_div_pow]
  obtain ⟨m, rfl⟩ := Int.eq_ofNat_of_zero_le hx.1
  have hm : (W (m : Int)).toNat = m := by have := of_W hx; exact Int.ofNat_inj.1 this
  rw [hm]
  have h2 : ((2 : Int) ^ n) = ((2 ^ n : Nat) : Int) := by simp
  rw [h2, Int.fdiv_eq_ediv_of_nonneg _ (Int.natCast_nonneg _)]
  exact (Int.natCast_ediv _ _).symm
theorem W_shr {x : Int} (hx : U x) (n : Nat) (hn : n ≤ 64) : W (iShr .u64 x (n : Int)) = W x >>> n := by rw [iShr_W hx n hn, W_of]
theorem bits64 {a b : BitVec 64} (h : ∀ i, i < 64 → a.getLsbD i = b.getLsbD i) : a = b := BitVec.eq_of_getLsbD_eq h
theorem bO5 (v : BitVec 64) (k : Nat) : v.getLsbD k = v.toNat.testBit k := rfl
theorem bit_at {q : Int} (hq : U q) (k : Nat) (hk : k ≤ 64) : iAnd .u64 (iShr .u64 q (k : Int)) 1 = bif (W q).getLsbD k then 1 else 0 := by
  rw [dI7, W_shr hq k hk]
  have h1 : W 1 = 1#64 := rfl
  rw [h1, BitVec.toNat_and, BitVec.toNat_ushiftRight]
  have h2 : (1#64 : BitVec 64).toNat = 1 := rfl
  rw [h2, Nat.and_one_is_mod, bO5, Nat.testBit, Nat.one_and_eq_mod_two]
  have := Nat.mod_two_eq_zero_or_one ((W q).toNat >>> k)
  rcases this with h | h <;> rw [h] <;> rfl
end Go.Ev
namespace Go.Ev
section
variable {P : Program} {ρ : Ren}
def dC8 (P : Program) (b off : Nat) (g : FuncId) (cap : Array Value) (w : World) (R : World → Prop) : Prop :=
  (callFunc g cap).run P (w.setCell ⟨b, off + 1, none⟩ (.int .i32 1)) = .ok (.enter g cap) (w.setCell ⟨b, off + 1, none⟩ (.int .i32 1)) ∧
  Calls P g cap (w.setCell ⟨b, off + 1, none⟩ (.int .i32 1)) fun e w' => e = .returned (.tuple #[]) ∧ R w' ∧
    w'.cell? ⟨b, off, none⟩ = some (.int .u32 0) ∧ w'.cell? ⟨b, off + 1, none⟩ = some (.int .i32 1) ∧ w'.frozen? ⟨b, off, none⟩ = false ∧ w'.frozen? ⟨b, off + 1, none⟩ = false
def dI3 (b off : Nat) (R : World → Prop) (e : Ending) (w' : World) : Prop :=
  e = .returned (.tuple #[]) ∧ ∃ w2, R w2 ∧ w' = (w2.drew.setCell ⟨b, off, none⟩ (.int .u32 1)).setCell ⟨b, off + 1, none⟩ (.int .i32 0)
def OnceOk (P : Program) (DO : FuncId) : Prop := ∀ (b off : Nat) (g : FuncId) (cap : Array Value) (w : World) (R : World → Prop),
  w.cell? ⟨b, off, none⟩ = some (.int .u32 0) → w.cell? ⟨b, off + 1, none⟩ = some (.int .i32 0) → w.frozen? ⟨b, off, none⟩ = false → w.frozen? ⟨b, off + 1, none⟩ = false →
  dC8 P b off g cap w R → Calls P DO #[.pointer (some ⟨b, off, none⟩), .func (.func g) #[] cap] w (dI3 b off R)
theorem ao4 {A : Nat → Prop} {w : World} {m : Mem} (hR : Rep ρ A m w) {t : TypeId} {id : Nat} {path : List PE} {root : Sh} {k : IntKind} {n : Int} (h : aK3 P m t (.pt id path root) = some (.it k n))
    {s : Sh} {o : Nat} (hp : G5 (ρ.sh id) path s o) : w.cell? ⟨ρ.bb id, ρ.bo id + o, none⟩ = some (.int k n) := by
  unfold aK3 at h
  simp only at h
  split at h <;> try (cases h; done)
  rename_i tr wr hid
  split at h <;> try (cases h; done)
  rename_i c hg
  split at h <;> try (cases h; done)
  cases h
  obtain ⟨hlt, hsh, hwf, _, hcell, _⟩ := hR.blk id _ hid
  rw [hsh] at hp
  obtain ⟨c', hg', hcw, hcs, hcf⟩ := AV.ci5 hwf hp
  rw [hg] at hg'; cases hg'
  have h0 := hcf 0 (by rw [← hcs]; exact Nat.one_pos)
  obtain ⟨rv, h1, h2⟩ := hcell (o + 0) (.it k n) (by rw [← h0]; rfl)
  rw [Nat.add_zero] at h1
  rw [h1, h2.1]
theorem ah0 {A : Nat → Prop} {w : World} {m m' : Mem} (hR : Rep ρ A m w) {t : TypeId} {id : Nat} {path : List PE} {root : Sh} {k : IntKind} {n : Int} (h : aD8 P m t (.pt id path root) (.it k n) = some m')
    {s : Sh} {o : Nat} (hp : G5 (ρ.sh id) path s o) (hid : ρ.dom id) (hrt : ρ.sh id = root) (hn : k.signed = false → 0 ≤ n) :
    Rep ρ A m' (w.setCell ⟨ρ.bb id, ρ.bo id + o, none⟩ (.int k n)) ∧ Upd A w (w.setCell ⟨ρ.bb id, ρ.bo id + o, none⟩ (.int k n)) ∧ w.frozen? ⟨ρ.bb id, ρ.bo id + o, none⟩ = false := by
  obtain ⟨w', h1, h2, h3⟩ := cu9 (P := P) hR h (rx := .pointer (some ⟨ρ.bb id, ρ.bo id + o, none⟩)) (rv := .int k n) ⟨hid, hrt, s, o, hp, rfl⟩ ⟨rfl, hn⟩
  unfold aD8 at h
  simp only at h
  split at h <;> try (cases h; done)
  rename_i tr hb
  split at h <;> try (cases h; done)
  rename_i s' tr' hat hset
  split at h <;> try (cases h; done)
  rename_i hc
  obtain ⟨c1, c2, c3, c4⟩ := hc
  obtain ⟨i, hi⟩ := Option.isSome_iff_exists.1 c4
  obtain ⟨b1, b2, b3, b4, b5, b6⟩ := hR.blk id _ hb
  have hp' := hp
  rw [b2] at hp'
  have := hp'.at
  rw [hat] at this; cases this
  have hvs : Sh.int k = s := Sh.beq_eq _ _ c1
  have hfit := hp'.fits
  rw [← hvs] at hfit
  obtain ⟨k1, k2, k3⟩ := b6 rfl
  obtain ⟨⟨u, hu⟩, hf⟩ := k3 o (by have : Sh.size (.int k) = 1 := rfl; omega)
  have hrun : (Instr.storeAt t (.pointer (some ⟨ρ.bb id, ρ.bo id + o, none⟩)) (.int k n)).run P w = .ok () (w.setCell ⟨ρ.bb id, ρ.bo id + o, none⟩ (.int k n)) := by
    have hsz : (Value.int k n).cells.size = P.cellsOf t := by rw [← c3, ← hvs]; rfl
    simp only [Instr.storeAt, Instr.sureAddr, Sem.run_bind, Sem.run_pure, Result.andThen_ok, storeVar, run_sizeOf w hi]
    rw [if_neg (by rw [hsz]; simp)]
    show (storeCells ⟨ρ.bb id, ρ.bo id + o, none⟩ [.int k n] 0).run P w = _
    simp only [storeCells, Sem.run_bind, Addr.add_off, Nat.add_zero, run_store P w _ _ _ (show (Value.int k n).oneCell' = true from rfl), hu, hf]
    rfl
  rw [hrun] at h1
  cases h1
  exact ⟨h2, h3, hf⟩
theorem cZ6 {A : Nat → Prop} {w : World} {m m' : Mem} (hR : Rep ρ A m w) {t : TypeId} {id : Nat} {path : List PE} {root : Sh} {v : AV} (h : aD8 P m t (.pt id path root) v = some m')
    {path' : List PE} {s : Sh} {o : Nat} (hp : G5 (ρ.sh id) path' s o) (hs : 0 < s.size) : w.frozen? ⟨ρ.bb id, ρ.bo id + o, none⟩ = false := by
  unfold aD8 at h
  simp only at h
  split at h <;> try (cases h; done)
  rename_i tr hb
  obtain ⟨b1, b2, b3, b4, b5, b6⟩ := hR.blk id _ hb
  obtain ⟨k1, k2, k3⟩ := b6 rfl
  rw [b2] at hp
  have := hp.fits
  exact (k3 o (by omega)).2
def bS0 (P : Program) (g : FuncId) : Bool := bif Nat.ble 1000000 g then false else match P.funcs[g]? with
  | some fn => fn.body.isSome && decide (fn.name ≠ "runtime.NumGoroutine")
  | none => false
theorem cW0 {P : Program} {g : FuncId} (h : bS0 P g = true) : Nat.ble 1000000 g = false := by
  unfold bS0 at h
  rcases Bool.eq_false_or_eq_true (Nat.ble 1000000 g) with hb | hb
  · rw [hb] at h; cases h
  · exact hb
theorem bm7 {g : FuncId} (h : bS0 P g = true) (args : Array Value) (w : World) : (callFunc g args).run P w = .ok (.enter g args) w := by
  have hlt := cW0 h
  unfold bS0 at h
  rw [hlt, cond_false] at h
  split at h <;> try (cases h; done)
  rename_i fn hfn
  simp only [Bool.and_eq_true, decide_eq_true_eq] at h
  obtain ⟨c, hc⟩ := Option.isSome_iff_exists.1 h.1
  exact ap8 ⟨hfn, h.2⟩ hc args w
def dC2 : Sh := .agg [.agg [], .agg [.agg [], .int .u32], .agg [.agg [], .agg [.int .i32, .int .u32]]]
def u0 (P : Program) (DO : FuncId) (tu ti : TypeId) (h : Hd) : Hd := fun f args m k =>
  bif Nat.beq f DO then
    match args with
    | [.pt id path root, .fn g caps] =>
      bif bS0 P g && bS0 P DO && (match root.at path with | some s => s.beq dC2 | none => false) then
        match aK3 P m tu (.pt id (path ++ [.fld 1] ++ [.fld 1]) root), aK3 P m ti (.pt id (path ++ [.fld 2] ++ [.fld 1] ++ [.fld 0]) root), aD8 P m ti (.pt id (path ++ [.fld 2] ++ [.fld 1] ++ [.fld 0]) root) (.it .i32 1) with
        | some (.it .u32 d), some (.it .i32 s), some m1 =>
          bg0 (some (iEq d 0 && iEq s 0)) (h g caps m1 fun v m2 => match v with
            | .tup [] => match aK3 P m2 tu (.pt id (path ++ [.fld 1] ++ [.fld 1]) root), aK3 P m2 ti (.pt id (path ++ [.fld 2] ++ [.fld 1] ++ [.fld 0]) root), aD8 P m2 tu (.pt id (path ++ [.fld 1] ++ [.fld 1]) root) (.it .u32 1) with
              | some (.it .u32 d2), some (.it .i32 s2), some m3 => match aD8 P m3 ti (.pt id (path ++ [.fld 2] ++ [.fld 1] ++ [.fld 0]) root) (.it .i32 0) with
                | some m4 => bg0 (some (iEq d2 0 && iEq s2 1)) (k (.tup []) m4)
                | none => none
              | _, _, _ => none
            | _ => none)
        | _, _, _ => none
      else none
    | _ => none
  else h f args m k
theorem dX6 {s : Sh} {path : List PE} {o : Nat} (hp : G5 s path dC2 o) : G5 s (path ++ [.fld 1] ++ [.fld 1]) (.int .u32) o ∧ G5 s (path ++ [.fld 2] ++ [.fld 1] ++ [.fld 0]) (.int .i32) (o + 1) := by
  have h1 := hp.snoc_fld (k := 1) rfl
  have h2 := h1.snoc_fld (k := 1) rfl
  have h3 := hp.snoc_fld (k := 2) rfl
  have h4 := h3.snoc_fld (k := 1) rfl
  have h5 := h4.snoc_fld (k := 0) rfl
  exact ⟨h2, h5⟩
theorem o5 {DO : FuncId} {tu ti : TypeId} (ho : OnceOk P DO) {h : Hd} (hh : N6 P h) : N6 P (u0 P DO tu ti h) := fun f args m k r he hr => by
  unfold u0 at he
  cases hb : Nat.beq f DO with
  | false => rw [hb, cond_false] at he; exact hh f args m k r he hr
  | true =>
  rw [hb, cond_true] at he
  have := Nat.eq_of_beq_eq_true hb
  subst this
  split at he <;> try (cases he; done)
  rename_i id path root g caps
  cases hc : bS0 P g && bS0 P f && (match root.at path with | some s => s.beq dC2 | none => false) with
  | false => rw [hc] at he; cases he
  | true =>
  rw [hc, cond_true] at he
  simp only [Bool.and_eq_true] at hc
  obtain ⟨⟨hpg, hpf⟩, hsh⟩ := hc
  split at hsh <;> try (cases hsh; done)
  rename_i s0 hs0
  have hs0' := Sh.beq_eq _ _ hsh
  subst hs0'
  split at he <;> try (cases he; done)
  rename_i d s m1 e1 e2 e3
  obtain ⟨c1, hq⟩ := af6 he hr
  have c1 : d = 0 ∧ s = 0 := by
    rcases c1 with c1 | c1
    · cases c1
    · have := Option.some.inj c1
      simp only [Bool.and_eq_true, O2] at this
      exact this
  obtain ⟨rfl, rfl⟩ := c1
  obtain ⟨v, m2, he2, hrun⟩ := hh _ _ _ _ _ hq hr
  split at he2 <;> try (cases he2; done)
  split at he2 <;> try (cases he2; done)
  rename_i d2 s2 m3 q1 q2 q3
  split at he2 <;> try (cases he2; done)
  rename_i m4 q4
  obtain ⟨c2, hk⟩ := af6 he2 hr
  have c2 : d2 = 0 ∧ s2 = 1 := by
    rcases c2 with c2 | c2
    · cases c2
    · have := Option.some.inj c2
      simp only [Bool.and_eq_true, O2] at this
      exact this
  obtain ⟨rfl, rfl⟩ := c2
  refine ⟨_, _, hk, fun ρ A w vals hR hv => .inr ⟨f, vals.toArray, bm7 hpf _ w, ?_⟩⟩
  match vals, hv with
  | [v1, v2], ⟨hv1, hv2, _⟩ =>
  obtain ⟨hid, hrt, t, o, hp, rfl⟩ := hv1
  obtain ⟨cs, hv2', hcaps⟩ := hv2
  rw [dJ3 (cW0 hpg)] at hv2'
  subst hv2'
  have ht : dC2 = t := by
    have := hp.at
    rw [hrt, hs0] at this; exact Option.some.inj this
  subst ht
  obtain ⟨hp1, hp2⟩ := dX6 hp
  have hcaps' : All2 (VR3 ρ) caps cs.toList := All2.map_VR1s hcaps
  obtain ⟨hR1, hU1, hz1⟩ := ah0 (P := P) hR e3 hp2 hid hrt (by intro h; cases h)

  have hin := hrun ρ A _ cs.toList hR1 hcaps'
  rw [Array.toArray_toList] at hin
  have hz0 := cZ6 (P := P) hR e3 hp1 (by decide)
  have hon := ho (ρ.bb id) (ρ.bo id + o) g cs w (fun w2 => ∃ ρ', ρ.ext ρ' ∧ Rep ρ' A m2 w2 ∧ Upd A (w.setCell ⟨ρ.bb id, ρ.bo id + (o + 1), none⟩ (.int .i32 1)) w2)
    (ao4 hR e1 hp1) (by have := ao4 hR e2 hp2; rw [← Nat.add_assoc] at this; exact this) hz0 (by rw [Nat.add_assoc]; exact hz1) ?_
  · refine Calls.mono hon fun e w' ⟨he', w2, ⟨ρ', g1, g2, g3⟩, hw'⟩ => ?_
    subst hw'
    have hid' := g1.dom id hid
    have hb1 := g1.bb id hid
    have hb2 := g1.bo id hid
    have hb3 := g1.sh id hid
    obtain ⟨k1, k2, _⟩ := ah0 (P := P) (g2.drew) q3 (by rw [hb3]; exact hp1) hid' (hb3.trans hrt) (fun _ => by decide)
    obtain ⟨k3, k4, _⟩ := ah0 (P := P) k1 q4 (by rw [hb3]; exact hp2) hid' (hb3.trans hrt) (fun h => by cases h)
    rw [hb1, hb2] at k1 k2 k3 k4
    rw [← Nat.add_assoc] at k3 k4
    refine ⟨ρ', .tuple #[], he', g1, k3, ?_, ⟨#[], rfl, trivial⟩⟩
    exact (hU1.trans g3).trans ((Upd.drew).trans (k2.trans k4))
  · refine ⟨by rw [Nat.add_assoc]; exact bm7 hpg _ _, ?_⟩
    rw [Nat.add_assoc]
    rcases hin with ⟨ρ', rv, w', nx, h1, h2, _⟩ | ⟨f', args', h1, h2⟩
    · rw [bm7 hpg] at h1
      cases h1
      rcases h2 with h2 | ⟨h2, _⟩ <;> cases h2
    · rw [bm7 hpg] at h1
      cases h1
      refine Calls.mono h2 fun e w' ⟨ρ', rv, k1, k2, k3, k4, k5⟩ => ?_
      have hid' := k2.dom id hid
      have hb1 := k2.bb id hid
      have hb2 := k2.bo id hid
      have hb3 := k2.sh id hid
      have hrv : rv = .tuple #[] := by
        obtain ⟨vs, h3, h4⟩ := k5
        match vs, h4 with
        | ⟨[]⟩, _ => exact h3
      subst hrv
      have a1 := ao4 k3 q1 (by rw [hb3]; exact hp1)
      have a2 := ao4 k3 q2 (by rw [hb3]; exact hp2)
      obtain ⟨b1, _, b2⟩ := ah0 (P := P) k3 q3 (by rw [hb3]; exact hp1) hid' (hb3.trans hrt) (fun _ => by decide)
      obtain ⟨_, _, b3⟩ := ah0 (P := P) b1 q4 (by rw [hb3]; exact hp2) hid' (hb3.trans hrt) (fun h => by cases h)
      rw [World.frozen?_setCell] at b3
      rw [hb1, hb2] at a1 a2 b2 b3
      exact ⟨k1, ⟨ρ', k2, k3, k4⟩, a1, a2, b2, b3⟩
def inlO (P : Program) (ok : List TypeId) (pc : Pcs) (ro : FuncId → Bool) (fs : List FuncId) (N : Nat) (st : FuncId → Bool) (ex : Hd → Hd) : Nat → Hd
  | 0, _, _, _, _ => none
  | d + 1, f, args, m, k => bif memN f fs then (match P.funcs[f]? with
    | some fn => evFn P ok pc (inlO P ok pc ro fs N st ex d) ro (fun _ _ _ _ => none) N (st f) fn args m k
    | none => none) else ex (inlO P ok pc ro fs N st ex d) f args m k
theorem o9 (hmix : P.follows .mixedOrders = true) {ok : List TypeId} (hok : Fair P ok) {pc : Pcs} (hpc : r0 P pc) {ro : FuncId → Bool} {fs : List FuncId} (hfs : Names P fs)
    {N : Nat} {st : FuncId → Bool} {ex : Hd → Hd} (hex : ∀ h : Hd, N6 P h → N6 P (ex h)) : ∀ d, N6 P (inlO P ok pc ro fs N st ex d : Hd)
  | 0 => fun f args m k r h _ => by cases h
  | d + 1 => fun f args m k r h hr => by
    simp only [inlO] at h
    cases hm : memN f fs with
    | false => rw [hm] at h; exact hex _ (o9 hmix hok hpc hfs hex d) f args m k r h hr
    | true =>
    rw [hm, cond_true] at h
    split at h <;> try (cases h; done)
    rename_i fn hfn
    exact ci9 hmix hok hpc (o9 hmix hok hpc hfs hex d) ⟨hfn, hfs f ((aj8 _ _).1 hm) fn hfn⟩ (fun c _ => m7 c) h hr
end
end Go.Ev
set_option maxRecDepth 100000
set_option linter.unusedVariables false
namespace Go.Proofs.YtbkdnehnhbaieaaGreat.PV
open Go Go.Ev
theorem cP5 (w : World) : (callFunc 286 #[]).run Tryz.prog w = .ok (.value (.tuple #[])) w := run_call_mark0 Tryz.func286 (by kernel_rfl) (by kernel_rfl) (by kernel_rfl) .disable (by kernel_rfl) w
theorem dC3 (w : World) : (callFunc 288 #[]).run Tryz.prog w = .ok (.value (.tuple #[])) w := run_call_mark0 Tryz.func288 (by kernel_rfl) (by kernel_rfl) (by kernel_rfl) .enable (by kernel_rfl) w
theorem o_acquire (a : Addr) (w : World) : (callFunc 289 #[.pointer (some a)]).run Tryz.prog w = .ok (.value (.tuple #[])) w := run_call_marked Tryz.func289 (by kernel_rfl) (by kernel_rfl) (by kernel_rfl) .acquire (by kernel_rfl) a w
theorem o_merge (a : Addr) (w : World) : (callFunc 291 #[.pointer (some a)]).run Tryz.prog w = .ok (.value (.tuple #[])) w := run_call_marked Tryz.func291 (by kernel_rfl) (by kernel_rfl) (by kernel_rfl) .releaseMerge (by kernel_rfl) a w
theorem o_store (a : Addr) (x : Value) (u : FrameMode) (w : World) (hc : w.cell? a = some x) (hz : w.frozen? a = false) :
    CallsD Tryz.prog 158 #[.pointer (some a), .bool true] u w fun e u' w' => u' = u ∧ (e = .returned (.tuple #[]) ∧ w' = w.drew.setCell a (.int .u32 1)) := by
  have hc' : w.drew.cell? a = some x := by go_simp
  have hz' : w.drew.frozen? a = false := by go_simp
  have hst := run_call_store (P := Tryz.prog) Tryz.func216 (by kernel_rfl) (by kernel_rfl) (by kernel_rfl) (by kernel_rfl) (k := .u32) (y := 1) hc' hz'
  go_enter_d Tryz.func158, Tryz.ntmps158
  go_wp2
  go_region_calls
  all_goals (go_end0; exact ⟨rfl, rfl⟩)
theorem o_unlock (a : Addr) (u : FrameMode) (w : World) (hc : w.cell? a = some (.int .i32 1)) (hz : w.frozen? a = false) :
    CallsD Tryz.prog 157 #[.pointer (some a)] u w fun e u' w' => u' = u ∧ (e = .returned (.tuple #[]) ∧ w' = w.setCell a (.int .i32 0)) := by
  have hd := cP5
  have he := dC3
  have hr := o_merge
  have hadd := run_call_add (P := Tryz.prog) Tryz.func292 (by kernel_rfl) (by kernel_rfl) (by kernel_rfl) .i32 (by kernel_rfl) (y := -1) (s := 0) hc hz (by simp [go_sem]; rfl)
  have hcv := run_convert_to_unsafe (P := Tryz.prog) (src := 380) (dst := 384) Tryz.underlying380 Tryz.underlying384 (by kernel_rfl) hc
  go_enter_d Tryz.func157, Tryz.ntmps157
  go_wp2
  go_end0
  go_wp2
  go_end0
  exact ⟨rfl, rfl⟩
theorem o_lock (a : Addr) (w : World) (hc : w.cell? a = some (.int .i32 0)) (hz : w.frozen? a = false) :
    Calls Tryz.prog 156 #[.pointer (some a)] w fun e w' => e = .returned (.tuple #[]) ∧ w' = w.setCell a (.int .i32 1) := by
  have hd := cP5
  have he := dC3
  have ha := o_acquire
  have hcas := run_call_cas_hit (P := Tryz.prog) Tryz.func287 (by kernel_rfl) (by kernel_rfl) (by kernel_rfl) .i32 (by kernel_rfl) (y := 1) hc hz
  have hc' : (w.setCell a (.int .i32 1)).cell? a = some (.int .i32 1) := World.cell?_setCell_same w a _ hc
  have hcv := run_convert_to_unsafe (P := Tryz.prog) (src := 380) (dst := 384) Tryz.underlying380 Tryz.underlying384 (by kernel_rfl) hc'
  go_enter Tryz.func156, Tryz.ntmps156
  go_wp2
  first | go_end0 | (simp only [Exit.inBlock, Exit.then]; refine bodyPost_ret (results_none rfl _ _ _) rfl ?_) | refine bodyPost_ret (results_none rfl _ _ _) rfl ?_
  go_wp2
  go_end0
  exact ⟨rfl, rfl⟩
set_option maxRecDepth 100000 in
set_option maxHeartbeats 1600000 in
theorem o_slow (b off : Nat) (g : FuncId) (cap : Array Value) (w : World) (R : World → Prop)
    (h0 : w.cell? ⟨b, off, none⟩ = some (.int .u32 0)) (h1 : w.cell? ⟨b, off + 1, none⟩ = some (.int .i32 0))
    (f0 : w.frozen? ⟨b, off, none⟩ = false) (f1 : w.frozen? ⟨b, off + 1, none⟩ = false) (hg : dC8 Tryz.prog b off g cap w R) :
    Calls Tryz.prog 113 #[.pointer (some ⟨b, off, none⟩), .func (.func g) #[] cap] w (dI3 b off R) := by
  have hl := run_call_load (P := Tryz.prog) Tryz.func155 (by kernel_rfl) (by kernel_rfl) (by kernel_rfl) .u32 (by kernel_rfl) (w := w.setCell ⟨b, off + 1, none⟩ (.int .i32 1)) (a := ⟨b, off, none⟩) (x := 0) ((World.cell?_setCell_other _ ⟨b, off + 1, none⟩ ⟨b, off, none⟩ _ (by simp)).trans h0)
  have hnot : ∀ (x : Bool) (w : World), (Op.unary .not (.bool x)).run Tryz.prog w = .ok (.bool (!x)) w := fun _ _ => rfl
  obtain ⟨hg1, hg2⟩ := hg
  go_enter_defers Tryz.func113, Tryz.ntmps113
  go_wp2_with (go_at_call 156; refine (o_lock ⟨b, off + 1, none⟩ _ (by go_simp) (by go_simp)).mono ?_; rintro e w' ⟨rfl, rfl⟩)
  go_wp2
  rename_i K hK
  refine hg2.mono ?_
  rintro e w2 ⟨rfl, hR, c0, c1, z0, z1⟩
  refine hK _ _ ?_
  go_wp2
  refine leaves_cons (f := 158) (args := #[.pointer (some ⟨b, off, none⟩), .bool true]) (by simp) (by simp [go_sem]) ?_
  refine (o_store ⟨b, off, none⟩ (.int .u32 0) .returning _ c0 z0).mono ?_
  rintro e u' w'' ⟨rfl, rfl, rfl⟩
  refine leaves_cons (f := 157) (args := #[.pointer (some ⟨b, off + 1, none⟩)]) (by simp [settle]) (by simp [go_sem]) ?_
  refine (o_unlock ⟨b, off + 1, none⟩ _ _ ?_ (by simp [z1])).mono ?_
  · refine (World.cell?_setCell_other _ ⟨b, off, none⟩ ⟨b, off + 1, none⟩ _ (by simp)).trans ?_
    rw [World.cell?_drew]
    exact c1
  rintro e u' w'' ⟨rfl, rfl, rfl⟩
  simp only [Leaves, settle]
  exact ⟨.tuple #[], by simp [results, Tryz.results113], rfl, w2, hR, rfl⟩
set_option maxRecDepth 100000 in
set_option maxHeartbeats 1600000 in
theorem p8 : OnceOk Tryz.prog 66 := fun b off g cap w R h0 h1 f0 f1 hg => by
  have hl := run_call_load (P := Tryz.prog) Tryz.func155 (by kernel_rfl) (by kernel_rfl) (by kernel_rfl) .u32 (by kernel_rfl) h0
  have hnot : ∀ (x : Bool) (w : World), (Op.unary .not (.bool x)).run Tryz.prog w = .ok (.bool (!x)) w := fun _ _ => rfl
  go_enter Tryz.func66, Tryz.ntmps66
  go_wp2_with (first | (go_at_call 113; refine (o_slow b off g cap _ R h0 h1 f0 f1 hg).mono ?_; rintro e w' ⟨rfl, w2, hR, rfl⟩) | (go_at_call 112; go_in))
  go_end0
  exact ⟨rfl, w2, hR, rfl⟩
end Go.Proofs.YtbkdnehnhbaieaaGreat.PV
