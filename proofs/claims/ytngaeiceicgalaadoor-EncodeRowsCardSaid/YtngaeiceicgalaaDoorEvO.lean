/-
  A region whose order is open: every order comes to what the evaluation says. Own text; nothing of a program.
-/
import Derived.Test.YtngaeiceicgalaaDoorEvN
namespace Go.Ev
section
variable {P : Program}

/-- What is ordered: temporaries and blocks. -/
structure Ordered (ops : Array Oper) (rs : List Rec) : Prop where
  tmp : ∀ (i j : Nat) (o p : Oper) (t : Nat), ops[i]? = some o → ops[j]? = some p → i < j → ((o.dst = some t ∧ t ∈ namesOf ops p) ∨ (p.dst = some t ∧ t ∈ namesOf ops o)) →
    ((masks ops.toList []).getD j 0).testBit i = true
  mem : ∀ (i j : Nat) (r q : Rec) (id : Nat), rs[i]? = some r → rs[j]? = some q → i < j →
    ((r.touch id = true ∧ (id ∈ q.fp ∨ q.touch id = true)) ∨ (q.touch id = true ∧ id ∈ r.fp)) → ((masks ops.toList []).getD j 0).testBit i = true

theorem tmpOk_ok {ops : Array Oper} (h : tmpOk ops = true) : ∀ (i j : Nat) (o p : Oper) (t : Nat), ops[i]? = some o → ops[j]? = some p → i < j →
    ((o.dst = some t ∧ t ∈ namesOf ops p) ∨ (p.dst = some t ∧ t ∈ namesOf ops o)) → ((masks ops.toList []).getD j 0).testBit i = true := by
  intro i j o p t ho hp hij hor
  have h1 : (o, i) ∈ ops.toList.zipIdx := by rw [List.mem_zipIdx_iff_getElem?]; simpa using ho
  have h2 : (p, j) ∈ ops.toList.zipIdx := by rw [List.mem_zipIdx_iff_getElem?]; simpa using hp
  have h3 := List.all_eq_true.1 (List.all_eq_true.1 h _ h1) _ h2
  have hlt : Nat.blt i j = true := by simpa using hij
  have hdst : (dstIn o.dst (namesOf ops p) || dstIn p.dst (namesOf ops o)) = true := by
    rcases hor with ⟨e1, e2⟩ | ⟨e1, e2⟩
    · simp only [dstIn, e1, (memN_iff _ _).2 e2, Bool.true_or]
    · simp only [dstIn, e1, (memN_iff _ _).2 e2, Bool.or_true]
  simpa [hlt, hdst] using h3

theorem memOk_ok {ops : Array Oper} {rs : List Rec} (h : memOk ops rs = true) : ∀ (i j : Nat) (r q : Rec) (id : Nat), rs[i]? = some r → rs[j]? = some q → i < j →
    ((r.touch id = true ∧ (id ∈ q.fp ∨ q.touch id = true)) ∨ (q.touch id = true ∧ id ∈ r.fp)) → ((masks ops.toList []).getD j 0).testBit i = true := by
  intro i j r q id hr hq hij hor
  have loudT : ∀ (r : Rec), r.touch id = true → loud r = true := fun r ht => by
    simp only [Rec.touch, Bool.or_eq_true, Bool.and_eq_true, memN_iff, Nat.ble_eq] at ht
    simp only [loud, Bool.or_eq_true, Bool.not_eq_true']
    rcases ht with ht | ⟨h1, h2⟩
    · cases hw : r.W with
      | nil => rw [hw] at ht; cases ht
      | cons => simp
    · have : id < r.m'.n := by simpa using h2
      right; simp; omega
  have loudF : ∀ (r : Rec), id ∈ r.fp → loud r = true := fun r ht => by
    simp only [loud, Bool.or_eq_true, Bool.not_eq_true']
    cases hw : r.fp with
    | nil => rw [hw] at ht; cases ht
    | cons => simp
  have hlr : loud r = true := by rcases hor with ⟨h1, _⟩ | ⟨_, h1⟩; exact loudT r h1; exact loudF r h1
  have hlq : loud q = true := by
    rcases hor with ⟨_, h1 | h1⟩ | ⟨h1, _⟩
    · exact loudF q h1
    · exact loudT q h1
    · exact loudT q h1
  have m1 : (r, i) ∈ rs.zipIdx.filter fun x => loud x.1 := List.mem_filter.2 ⟨by rw [List.mem_zipIdx_iff_getElem?]; exact hr, hlr⟩
  have m2 : (q, j) ∈ rs.zipIdx.filter fun x => loud x.1 := List.mem_filter.2 ⟨by rw [List.mem_zipIdx_iff_getElem?]; exact hq, hlq⟩
  have h3 := List.all_eq_true.1 (List.all_eq_true.1 h _ m1) _ m2
  have hlt : Nat.blt i j = true := by simpa using hij
  have hc : (((newIds r).any fun id => memN id q.fp || q.touch id) || (newIds q).any fun id => memN id r.fp) = true := by
    simp only [Bool.or_eq_true, List.any_eq_true, newIds]
    rcases hor with ⟨h1, h2⟩ | ⟨h1, h2⟩
    · exact .inl ⟨id, touch_iff.1 h1, by rcases h2 with h2 | h2; exact .inl ((memN_iff _ _).2 h2); exact .inr h2⟩
    · exact .inr ⟨id, touch_iff.1 h1, (memN_iff _ _).2 h2⟩
  dsimp only at h3
  rw [hlt, hc] at h3
  simpa using h3

/-- Where the run stands, the operations of 'L' having been carried out. -/
structure Inv (ρ0 : Ren) (fr0 : Fr) (m0 : Mem) (rs : List Rec) (A : Nat → Prop) (w0 : World) (a0 : Act) (L : Nat → Prop) (ρ : Ren) (a : Act) (w : World) : Prop where
  base : ρ0.le ρ
  old : ∀ id, ρ.dom id → id < m0.n → ρ0.dom id
  size : a.tmps.size = fr0.n
  defers : a.defers = a0.defers
  dom : ∀ id, ρ.dom id → id < m0.n ∨ ∃ i r, L i ∧ rs[i]? = some r ∧ r.n0 ≤ id ∧ id < r.m'.n
  new : ∀ b, w.heap.size ≤ b → A b
  tab : Held A w
  upd : Upd A w0 w
  tmp : ∀ i r t, L i → rs[i]? = some r → r.dst = some t → t < fr0.n → VRe (ρ.lim r.m'.n) a r.v (a.tmps.getD t undef)
  tmp0 : ∀ t u, fr0.get t = some u → (∀ i r, L i → rs[i]? = some r → r.dst ≠ some t) → VRe (ρ.lim m0.n) a u (a.tmps.getD t undef)
  mem : ∀ j q id b, L j → rs[j]? = some q → q.touch id = true → q.m'.get id = some b → (∀ k q', L k → j < k → rs[k]? = some q' → q'.touch id = false) →
    (ρ.lim q.m'.n).dom id ∧ BlkOk (ρ.lim q.m'.n) A w id b
  mem0 : ∀ id b, m0.get id = some b → (∀ k q', L k → rs[k]? = some q' → q'.touch id = false) → (ρ.lim m0.n).dom id ∧ BlkOk (ρ.lim m0.n) A w id b
  sep : ∀ id id' b b', FromM m0 rs L id b → FromM m0 rs L id' b' → id ≠ id' → b.wr = true → ρ.bb id ≠ ρ.bb id'

theorem Ren.le_unlim (ρ : Ren) (k : Nat) : (ρ.lim k).le ρ := ⟨fun _ h => h.1, fun _ _ => rfl, fun _ _ => rfl, fun _ _ => rfl, fun _ _ => rfl⟩

theorem Inv.cur {ρ0 : Ren} {fr0 : Fr} {m0 : Mem} {rs : List Rec} {A : Nat → Prop} {w0 : World} {a0 : Act} {L : Nat → Prop} {ρ : Ren} {a : Act} {w : World} (h : Inv ρ0 fr0 m0 rs A w0 a0 L ρ a w)
    {id : Nat} {b : Blk} (hf : FromM m0 rs L id b) : ρ.dom id ∧ BlkOk ρ A w id b := by
  rcases hf with ⟨j, q, h1, h2, h3, h4, h5⟩ | ⟨h1, h2⟩
  · obtain ⟨g1, g2⟩ := h.mem j q id b h1 h2 h3 h4 h5
    exact ⟨g1.1, g2.mono g1 (Ren.le_unlim ρ _) rfl fun _ h _ => h⟩
  · obtain ⟨g1, g2⟩ := h.mem0 id b h1 h2
    exact ⟨g1.1, g2.mono g1 (Ren.le_unlim ρ _) rfl fun _ h _ => h⟩

/-- One more operation has been carried out: 'ρ1' is what its own evaluation says of the world. -/
def Ren.over (ρ ρ1 : Ren) (n0 n1 : Nat) : Ren :=
  { n := n1, dom := fun id => ρ.dom id ∨ (ρ1.dom id ∧ n0 ≤ id ∧ id < n1), bb := fun id => if n0 ≤ id ∧ id < n1 then ρ1.bb id else ρ.bb id,
    bo := fun id => if n0 ≤ id ∧ id < n1 then ρ1.bo id else ρ.bo id, sh := fun id => if n0 ≤ id ∧ id < n1 then ρ1.sh id else ρ.sh id, room := fun id => if n0 ≤ id ∧ id < n1 then ρ1.room id else ρ.room id }

section step
variable {ops : Array Oper} {fr0 fr : Fr} {m0 m : Mem} {rs : List Rec} {S : List Nat} {A : Nat → Prop} {w0 : World} {a0 : Act} {L : Nat → Prop} {ρ0 ρ : Ren} {a : Act} {w : World}

/-- What must come before an operation that may come up now has been carried out. -/
theorem before_listed (hb : backs ops.toList 0 = true) (hc : Closed ops L) {i j : Nat} {o : Oper} (hi : ops[i]? = some o) (hr : ∀ e ∈ o.after, Region.binds .any e = true → L e.on)
    (h : ((masks ops.toList []).getD i 0).testBit j = true) (hne : j ≠ i) : L j := by
  have hc' : Closed ops fun k => L k ∨ k = i := fun k o' hk hL e he hbe => by
    rcases hL with hL | rfl
    · exact .inl (hc k o' hk hL e he hbe)
    · rw [hi] at hk; cases hk; exact .inl (hr e he hbe)
  have := mask_listed hc' hb (Array.getElem?_eq_some_iff.1 hi).1 h (.inr rfl)
  rcases this with h | h
  · exact h
  · exact absurd h hne

theorem listed_before (hb : backs ops.toList 0 = true) (hc : Closed ops L) {i j : Nat} {o : Oper} (hj : ops[j]? = some o) (hL : L j)
    (h : ((masks ops.toList []).getD j 0).testBit i = true) : L i := mask_listed hc hb (Array.getElem?_eq_some_iff.1 hj).1 h hL


/-- The operation whose turn it is finds what its evaluation found. -/
theorem turn_mem (hb : backs ops.toList 0 = true) (hO : Ordered ops rs) (hK : KnownAll P ops fr0 m0 rs fr m S) (hc : Closed ops L) (hI : Inv ρ0 fr0 m0 rs A w0 a0 L ρ a w)
    {i : Nat} {o : Oper} {r : Rec} (hi : ops[i]? = some o) (hr : rs[i]? = some r) (hn : ¬ L i) (hrd : ∀ e ∈ o.after, Region.binds .any e = true → L e.on) (kn : Known P ops fr0 m0 rs i r o)
    {id : Nat} {b0 : Blk} (hfp : id ∈ r.fp) (hf : FromM m0 rs (· < i) id b0) : FromM m0 rs L id b0 ∧ (ρ.lim r.n0).dom id ∧ BlkOk (ρ.lim r.n0) A w id b0 := by
  have later : ∀ k q', L k → i < k → rs[k]? = some q' → q'.touch id = false := fun k q' hk hik hq => by
    cases ht : q'.touch id with
    | false => rfl
    | true =>
      obtain ⟨ok, hok, _⟩ := hK.each k q' hq
      exact absurd (listed_before hb hc hok hk (hO.mem i k r q' id hr hq hik (.inr ⟨ht, hfp⟩))) hn
  rcases hf with ⟨j, q, hj, hq, ht, hg, hlast⟩ | ⟨h1, h2⟩
  · have hL : L j := before_listed hb hc hi hrd (hO.mem j i q r id hq hr hj (.inl ⟨ht, .inl hfp⟩)) (by omega)
    have hl : ∀ k q', L k → j < k → rs[k]? = some q' → q'.touch id = false := fun k q' hk hjk hq' => by
      rcases Nat.lt_trichotomy k i with h | h | h
      · exact hlast k q' h hjk hq'
      · subst h; exact absurd hk hn
      · exact later k q' hk h hq'
    obtain ⟨g1, g2⟩ := hI.mem j q id b0 hL hq ht hg hl
    have hle := Ren.lim_le (Ren.le.refl ρ) (kn.prev j q hj hq)
    exact ⟨.inl ⟨j, q, hL, hq, ht, hg, hl⟩, hle.dom id g1, g2.mono g1 hle rfl fun _ h _ => h⟩
  · have hl : ∀ k q', L k → rs[k]? = some q' → q'.touch id = false := fun k q' hk hq' => by
      rcases Nat.lt_trichotomy k i with h | h | h
      · exact h2 k q' h hq'
      · subst h; exact absurd hk hn
      · exact later k q' hk h hq'
    obtain ⟨g1, g2⟩ := hI.mem0 id b0 h1 hl
    have hle := Ren.lim_le (Ren.le.refl ρ) kn.m0n
    exact ⟨.inr ⟨h1, hl⟩, hle.dom id g1, g2.mono g1 hle rfl fun _ h _ => h⟩

theorem turn_fr (hb : backs ops.toList 0 = true) (hO : Ordered ops rs) (hK : KnownAll P ops fr0 m0 rs fr m S) (hc : Closed ops L) (hI : Inv ρ0 fr0 m0 rs A w0 a0 L ρ a w)
    {i : Nat} {o : Oper} {r : Rec} (hi : ops[i]? = some o) (hn : ¬ L i) (hrd : ∀ e ∈ o.after, Region.binds .any e = true → L e.on) (kn : Known P ops fr0 m0 rs i r o) : FRw (ρ.lim r.n0) r.frO a := by
  intro t u ht
  obtain ⟨hN, hf⟩ := kn.fr t u ht
  rw [kn.names] at hN
  rcases hf with ⟨j, q, hj, hq, hd, rfl, hlt⟩ | ⟨h1, h2⟩
  · obtain ⟨oj, hoj, knj⟩ := hK.each j q hq
    have hL : L j := before_listed hb hc hi hrd (hO.tmp j i oj o t hoj hi hj (.inl ⟨by rw [← knj.dst]; exact hd, hN⟩)) (by omega)
    exact (hI.tmp j q t hL hq hd hlt).mono (Ren.lim_le (Ren.le.refl ρ) (kn.prev j q hj hq))
  · refine (hI.tmp0 t u h1 fun k r' hk hr' hd => ?_).mono (Ren.lim_le (Ren.le.refl ρ) kn.m0n)
    rcases Nat.lt_trichotomy k i with h | h | h
    · exact h2 k r' h hr' hd
    · subst h; exact hn hk
    · obtain ⟨ok, hok, knk⟩ := hK.each k r' hr'
      exact hn (listed_before hb hc hok hk (hO.tmp i k o ok t hi hok h (.inr ⟨by rw [← knk.dst]; exact hd, hN⟩)))

/-- The blocks of the world that the operation may write. -/
def mayW (ρ : Ren) (w : World) (mO : Mem) (bk : Nat) : Prop := w.heap.size ≤ bk ∨ ∃ id b, mO.get id = some b ∧ b.wr = true ∧ bk = ρ.bb id

theorem turn_rep (hb : backs ops.toList 0 = true) (hO : Ordered ops rs) (hK : KnownAll P ops fr0 m0 rs fr m S) (hc : Closed ops L) (hI : Inv ρ0 fr0 m0 rs A w0 a0 L ρ a w)
    {i : Nat} {o : Oper} {r : Rec} (hi : ops[i]? = some o) (hr : rs[i]? = some r) (hn : ¬ L i) (hrd : ∀ e ∈ o.after, Region.binds .any e = true → L e.on) (kn : Known P ops fr0 m0 rs i r o) :
    Rep (ρ.lim r.n0) (mayW ρ w r.mO) r.mO w := by
  have key : ∀ id b, r.mO.get id = some b → ∃ b0, (b = b0 ∨ b0.ro? = some b) ∧ FromM m0 rs L id b0 ∧ (ρ.lim r.n0).dom id ∧ BlkOk (ρ.lim r.n0) A w id b0 := fun id b hb' => by
    obtain ⟨h1, _, b0, h3, h4⟩ := kn.mem id b hb'
    obtain ⟨g1, g2, g3⟩ := turn_mem hb hO hK hc hI hi hr hn hrd kn h1 h4
    exact ⟨b0, h3, g1, g2, g3⟩
  refine ⟨kn.n0.symm, fun id h => h.2, fun id b hb' => ?_, fun x y bx bY hx hy hxy hwr => ?_, fun b hb' => .inl hb', hI.tab.mono fun b hlt hm => ?_⟩
  · obtain ⟨b0, h3, _, g2, g3⟩ := key id b hb'
    refine ⟨g2, ?_⟩
    rcases h3 with rfl | h3
    · exact g3.free fun hwr => .inr ⟨id, b, hb', hwr, rfl⟩
    · exact g3.ro h3
  · obtain ⟨x0, h3, g1, _, _⟩ := key x bx hx
    obtain ⟨y0, _, g1', _, _⟩ := key y bY hy
    have hx0 : x0.wr = true := by
      rcases h3 with rfl | h3
      · exact hwr
      · rw [ro?_wr h3] at hwr; cases hwr
    exact hI.sep x y x0 y0 g1 g1' hxy hx0
  · rcases hm with h | ⟨id, b2, h1, h2, rfl⟩
    · omega
    · obtain ⟨b0, h3, g1, _, _⟩ := key id b2 h1
      have hb0 : b0.wr = true := by
        rcases h3 with rfl | h3
        · exact h2
        · rw [ro?_wr h3] at h2; cases h2
      exact (hI.cur g1).2.wrA hb0

theorem over_le {ρ1 : Ren} (hI : Inv ρ0 fr0 m0 rs A w0 a0 L ρ a w) (hK : KnownAll P ops fr0 m0 rs fr m S) {i : Nat} {o : Oper} {r : Rec} (hr : rs[i]? = some r) (hn : ¬ L i) (kn : Known P ops fr0 m0 rs i r o) :
    ρ.le (ρ.over ρ1 r.n0 r.m'.n) := by
  have hout : ∀ id, ρ.dom id → ¬ (r.n0 ≤ id ∧ id < r.m'.n) := fun id hid ⟨h1, h2⟩ => by
    rcases hI.dom id hid with h | ⟨k, q, hk, hq, h3, h4⟩
    · have := kn.m0n; omega
    · rcases Nat.lt_trichotomy k i with h | h | h
      · have := kn.prev k q h hq; omega
      · subst h; exact hn hk
      · obtain ⟨ok, hok, knk⟩ := hK.each k q hq
        have := knk.prev i r h hr; omega
  exact ⟨fun id h => .inl h, fun id h => if_neg (hout id h), fun id h => if_neg (hout id h), fun id h => if_neg (hout id h), fun id h => if_neg (hout id h)⟩

theorem le_over {ρ1 : Ren} {n0 n1 : Nat} (hext : (ρ.lim n0).ext ρ1) (hlt : ∀ id, ρ1.dom id → id < n1) : ρ1.le ((ρ.over ρ1 n0 n1).lim n1) := by
  have old : ∀ id, ρ1.dom id → ¬ (n0 ≤ id ∧ id < n1) → (ρ.lim n0).dom id := fun id h hn => hext.old id h (by have := hlt id h; show id < n0; omega)
  refine ⟨fun id h => ⟨?_, hlt id h⟩, fun id h => ?_, fun id h => ?_, fun id h => ?_, fun id h => ?_⟩
  · by_cases hin : n0 ≤ id ∧ id < n1
    · exact .inr ⟨h, hin⟩
    · exact .inl (old id h hin).1
  · show (if n0 ≤ id ∧ id < n1 then ρ1.bb id else ρ.bb id) = ρ1.bb id
    split
    · rfl
    · rename_i hin; exact (hext.bb id (old id h hin)).symm
  · show (if n0 ≤ id ∧ id < n1 then ρ1.bo id else ρ.bo id) = ρ1.bo id
    split
    · rfl
    · rename_i hin; exact (hext.bo id (old id h hin)).symm
  · show (if n0 ≤ id ∧ id < n1 then ρ1.sh id else ρ.sh id) = ρ1.sh id
    split
    · rfl
    · rename_i hin; exact (hext.sh id (old id h hin)).symm
  · show (if n0 ≤ id ∧ id < n1 then ρ1.room id else ρ.room id) = ρ1.room id
    split
    · rfl
    · rename_i hin; exact (hext.room id (old id h hin)).symm

theorem turn_inv (hb : backs ops.toList 0 = true) (hO : Ordered ops rs) (hK : KnownAll P ops fr0 m0 rs fr m S) (hng : NoGd fr0) (hc : Closed ops L) (hI : Inv ρ0 fr0 m0 rs A w0 a0 L ρ a w)
    {i : Nat} {o : Oper} {r : Rec} (hi : ops[i]? = some o) (hr : rs[i]? = some r) (hn : ¬ L i) (hrd : ∀ e ∈ o.after, Region.binds .any e = true → L e.on) (kn : Known P ops fr0 m0 rs i r o)
    {ρ1 : Ren} {rv : Value} {w1 : World} (hext : (ρ.lim r.n0).ext ρ1) (hv : VRe ρ1 a r.v rv) (hR : Rep ρ1 (mayW ρ w r.mO) r.m' w1) (hU : Upd (mayW ρ w r.mO) w w1) :
    Inv ρ0 fr0 m0 rs A w0 a0 (fun k => L k ∨ k = i) (ρ.over ρ1 r.n0 r.m'.n) (a.put o.dst rv) w1 := by
  have hle := over_le (ρ1 := ρ1) hI hK hr hn kn
  have hlt1 : ∀ id, ρ1.dom id → id < r.m'.n := fun id h => by rw [← hR.n]; exact hR.lt id h
  have hle1 := le_over (n1 := r.m'.n) hext hlt1
  have hRep := turn_rep hb hO hK hc hI hi hr hn hrd kn
  -- who names what
  have hnodup : ∀ k q t, L k → rs[k]? = some q → q.dst = some t → r.dst ≠ some t := fun k q t hk hq hd he => by
    rcases Nat.lt_trichotomy k i with h | h | h
    · exact kn.fresh k q t h hq hd he
    · subst h; exact hn hk
    · obtain ⟨ok, _, knk⟩ := hK.each k q hq
      exact knk.fresh i r t h hr he hd
  have hguard : ∀ k q t w' u, L k → rs[k]? = some q → q.v = .gd t w' u → r.dst ≠ some t := fun k q t w' u hk hq hqv he => by
    obtain ⟨ok, hok, knk⟩ := hK.each k q hq
    obtain ⟨h1, j, qj, hj, hqj, hdj⟩ := knk.gd t w' u hqv
    rw [knk.names] at h1
    -- the one that writes the guard is i
    have hji : j = i := by
      rcases Nat.lt_trichotomy j i with h | h | h
      · exact absurd he (kn.fresh j qj t h hqj hdj)
      · exact h
      · obtain ⟨oj, _, knj⟩ := hK.each j qj hqj
        exact absurd hdj (knj.fresh i r t h hr he)
    subst hji
    exact hn (listed_before hb hc hok hk (hO.tmp j k o ok t hi hok hj (.inl ⟨by rw [← kn.dst]; exact he, h1⟩)))
  have hown : ∀ t w' u, r.v = .gd t w' u → r.dst ≠ some t := fun t w' u hrv he => by
    obtain ⟨_, j, qj, hj, hqj, hdj⟩ := kn.gd t w' u hrv
    exact kn.fresh j qj t hj hqj hdj he
  have hput : ∀ t, r.dst ≠ some t → (a.put o.dst rv).tmps.getD t undef = a.tmps.getD t undef := fun t ht => by
    rw [kn.dst] at ht
    cases hd : o.dst with
    | none => rfl
    | some d =>
      rw [hd] at ht
      exact getD_set_other (fun e => ht (by rw [e])) rv
  -- blocks of others
  have hself : ∀ id b, FromM m0 rs (fun k => L k ∨ k = i) id b → (r.touch id = true ∧ r.m'.get id = some b) ∨ (r.touch id = false ∧ FromM m0 rs L id b) := fun id b hf => by
    rcases hf with ⟨j, q, hj, hq, ht, hg, hlast⟩ | ⟨h1, h2⟩
    · rcases hj with hj | rfl
      · have hnt : r.touch id = false := by
          cases hti : r.touch id with
          | false => rfl
          | true =>
            have hne : j ≠ i := fun e => by subst e; exact hn hj
            rcases Nat.lt_or_gt_of_ne hne with h | h
            · have := hlast i r (.inr rfl) h hr
              rw [hti] at this; cases this
            · obtain ⟨oj, hoj, _⟩ := hK.each j q hq
              exact absurd (listed_before hb hc hoj hj (hO.mem i j r q id hr hq h (.inl ⟨hti, .inr ht⟩))) hn
        exact .inr ⟨hnt, .inl ⟨j, q, hj, hq, ht, hg, fun k q' hk => hlast k q' (.inl hk)⟩⟩
      · rw [hr] at hq; cases hq
        exact .inl ⟨ht, hg⟩
    · exact .inr ⟨h2 i r (.inr rfl) hr, .inr ⟨h1, fun k q' hk => h2 k q' (.inl hk)⟩⟩
  have hwrId : ∀ id b, r.mO.get id = some b → b.wr = true → r.touch id = true ∧ FromM m0 rs L id b := fun id b hg hwr => by
    obtain ⟨h1, h2, b0, h3, h4⟩ := kn.mem id b hg
    have hW : id ∈ r.W := Classical.byContradiction fun hnW => by rw [h2 hnW] at hwr; cases hwr
    refine ⟨by simp only [Rec.touch, (memN_iff _ _).2 hW, Bool.true_or], ?_⟩
    have hb0 : b = b0 := by
      rcases h3 with rfl | h3
      · rfl
      · rw [ro?_wr h3] at hwr; cases hwr
    subst hb0
    exact (turn_mem hb hO hK hc hI hi hr hn hrd kn h1 h4).1
  have hsafe : ∀ id b, r.touch id = false → FromM m0 rs L id b → w1.heap[ρ.bb id]? = w.heap[ρ.bb id]? ∧ ρ.bb id < w.heap.size ∧ ¬ mayW ρ w r.mO (ρ.bb id) := fun id b hnt hf => by
    obtain ⟨_, hbk⟩ := hI.cur hf
    have hlt := hbk.block_lt
    have hnot : ¬ mayW ρ w r.mO (ρ.bb id) := fun hm => by
      rcases hm with h | ⟨id2, b2, h1, h2, h3⟩
      · omega
      · obtain ⟨g1, g2⟩ := hwrId id2 b2 h1 h2
        exact hI.sep id2 id b2 b g2 hf (fun e => by subst e; rw [g1] at hnt; cases hnt) h2 h3.symm
    exact ⟨hU.old _ hlt hnot, hlt, hnot⟩
  have hAi : ∀ x, mayW ρ w r.mO x → A x := fun x hx => by
    rcases hx with h | ⟨id2, b2, h1, h2, h3⟩
    · exact hI.new x h
    · obtain ⟨_, g2⟩ := hwrId id2 b2 h1 h2
      rw [h3]
      exact (hI.cur g2).2.wrA h2
  have hstay : ∀ (n : Nat) id b, (ρ.lim n).dom id → BlkOk (ρ.lim n) A w id b → r.touch id = false → FromM m0 rs L id b →
      ((ρ.over ρ1 r.n0 r.m'.n).lim n).dom id ∧ BlkOk ((ρ.over ρ1 r.n0 r.m'.n).lim n) A w1 id b := fun n id b hd hbk hnt hf =>
    have hll := Ren.lim_le hle (Nat.le_refl n)
    ⟨hll.dom id hd, hbk.mono hd hll (hsafe id b hnt hf).1 fun _ h _ => h⟩
  refine ⟨hI.base.trans hle, fun id hid hlt => ?_, ?_, ?_, fun id hid => ?_, fun b hb' => hI.new b (Nat.le_trans hU.size hb'), hI.tab.later fun x hx hnA => hU.old x hx fun h => hnA (hAi x h), hI.upd.trans (hU.mono fun x _ => hAi x), fun k q t hk hq hd hlt => ?_, fun t u h0 hno => ?_,
    fun j q id b hj hq ht hg hlast => ?_, fun id b h0 hlast => ?_, fun id id' b b' hf hf' hne hwr => ?_⟩
  · rcases hid with hid | ⟨_, hid, _⟩
    · exact hI.old id hid hlt
    · have := kn.m0n; omega
  · rw [← hI.size]; cases o.dst <;> simp [Act.put]
  · rw [← hI.defers]; cases o.dst <;> rfl
  · rcases hid with hid | ⟨_, hid⟩
    · rcases hI.dom id hid with h | ⟨k, q, hk, h⟩
      · exact .inl h
      · exact .inr ⟨k, q, .inl hk, h⟩
    · exact .inr ⟨i, r, .inr rfl, hr, hid⟩
  · rcases hk with hk | rfl
    · rw [hput t (hnodup k q t hk hq hd)]
      exact ((hI.tmp k q t hk hq hd hlt).mono (Ren.lim_le hle (Nat.le_refl _))).other fun t' w' u hqv => hput t' (hguard k q t' w' u hk hq hqv)
    · rw [hr] at hq; cases hq
      have : (a.put o.dst rv).tmps.getD t undef = rv := by
        rw [kn.dst] at hd
        rw [hd]
        exact getD_set_self (by rw [hI.size]; exact hlt) rv
      rw [this]
      exact (hv.mono hle1).other fun t' w' u hrv => hput t' (hown t' w' u hrv)
  · rw [hput t (hno i r (.inr rfl) hr)]
    exact ((hI.tmp0 t u h0 fun k q hk => hno k q (.inl hk)).mono (Ren.lim_le hle (Nat.le_refl _))).other fun t' w' u' he => by
      subst he; exact absurd h0 (hng t t' w' u')
  · rcases hj with hj | rfl
    · have hf : FromM m0 rs (fun k => L k ∨ k = i) id b := .inl ⟨j, q, .inl hj, hq, ht, hg, hlast⟩
      have hnt : r.touch id = false := by
        cases hti : r.touch id with
        | false => rfl
        | true =>
          have hne : j ≠ i := fun e => by subst e; exact hn hj
          rcases Nat.lt_or_gt_of_ne hne with h | h
          · have := hlast i r (.inr rfl) h hr
            rw [hti] at this; cases this
          · obtain ⟨oj, hoj, _⟩ := hK.each j q hq
            exact absurd (listed_before hb hc hoj hj (hO.mem i j r q id hr hq h (.inl ⟨hti, .inr ht⟩))) hn
      have hl' : ∀ k q', L k → j < k → rs[k]? = some q' → q'.touch id = false := fun k q' hk => hlast k q' (.inl hk)
      obtain ⟨g1, g2⟩ := hI.mem j q id b hj hq ht hg hl'
      exact hstay _ id b g1 g2 hnt (.inl ⟨j, q, hj, hq, ht, hg, hl'⟩)
    · rw [hr] at hq; cases hq
      obtain ⟨g1, g2⟩ := hR.blk id b hg
      exact ⟨hle1.dom id g1, g2.mono g1 hle1 rfl fun x hx _ => hAi x hx⟩
  · have hl' : ∀ k q', L k → rs[k]? = some q' → q'.touch id = false := fun k q' hk => hlast k q' (.inl hk)
    obtain ⟨g1, g2⟩ := hI.mem0 id b h0 hl'
    exact hstay _ id b g1 g2 (hlast i r (.inr rfl) hr) (.inr ⟨h0, hl'⟩)
  · have hbb : ∀ id b, r.touch id = false → FromM m0 rs L id b → (ρ.over ρ1 r.n0 r.m'.n).bb id = ρ.bb id := fun id b _ hf => hle.bb id (hI.cur hf).1
    have hbb1 : ∀ id b, r.m'.get id = some b → (ρ.over ρ1 r.n0 r.m'.n).bb id = ρ1.bb id := fun id b hg => hle1.bb id (hR.blk id b hg).1
    have mixed : ∀ x y bx bY, r.touch x = true → r.m'.get x = some bx → r.touch y = false → FromM m0 rs L y bY → (ρ.over ρ1 r.n0 r.m'.n).bb x ≠ (ρ.over ρ1 r.n0 r.m'.n).bb y := fun x y bx bY hx hgx hy hfy => by
      rw [hbb y bY hy hfy, hbb1 x bx hgx]
      have hwx := kn.wr x bx hx hgx
      have hAx := (hR.blk x bx hgx).2.wrA hwx
      obtain ⟨_, s2, s3⟩ := hsafe y bY hy hfy
      intro he
      rw [he] at hAx
      exact s3 hAx
    rcases hself id b hf with ⟨h1, h2⟩ | ⟨h1, h2⟩ <;> rcases hself id' b' hf' with ⟨h3, h4⟩ | ⟨h3, h4⟩
    · rw [hbb1 id b h2, hbb1 id' b' h4]
      exact hR.sep id id' b b' h2 h4 hne hwr
    · exact mixed id id' b b' h1 h2 h3 h4
    · exact (mixed id' id b' b h3 h4 h1 h2).symm
    · rw [hbb id b h1 h2, hbb id' b' h3 h4]
      exact hI.sep id id' b b' h2 h4 hne hwr

end step
end
end Go.Ev
