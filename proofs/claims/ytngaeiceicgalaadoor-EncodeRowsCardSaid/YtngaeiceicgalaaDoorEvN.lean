/-
  A region whose order is open: what its evaluation says. Own text; nothing of a program.
-/
import Derived.Test.YtngaeiceicgalaaDoorEvM
namespace Go.Ev
section
variable {P : Program}

/-- Closed under what must come before. -/
def Closed (ops : Array Oper) (L : Nat → Prop) : Prop := ∀ (i : Nat) (o : Oper), ops[i]? = some o → L i → ∀ e ∈ o.after, Region.binds .any e = true → L e.on

theorem maskOf_bit {acc : List Nat} {i : Nat} : ∀ (es : List Edge) (s : Nat), (maskOf acc es s).testBit i = true →
    s.testBit i = true ∨ ∃ e ∈ es, Region.binds .any e = true ∧ (i = e.on ∨ (acc.getD e.on 0).testBit i = true)
  | [], s, h => .inl h
  | e :: r, s, h => by
    simp only [maskOf] at h
    rcases maskOf_bit r _ h with h1 | ⟨e', h1, h2⟩
    · cases hb : Region.binds .any e with
      | false => rw [hb] at h1; exact .inl h1
      | true =>
        rw [hb, cond_true, Nat.testBit_or, Nat.testBit_or, Bool.or_eq_true, Bool.or_eq_true, Nat.testBit_two_pow] at h1
        rcases h1 with (h1 | h1) | h1
        · exact .inl h1
        · exact .inr ⟨e, List.mem_cons_self, hb, .inl (of_decide_eq_true h1).symm⟩
        · exact .inr ⟨e, List.mem_cons_self, hb, .inr h1⟩
    · exact .inr ⟨e', List.mem_cons_of_mem _ h1, h2⟩

theorem masks_closed {ops : Array Oper} {L : Nat → Prop} (hc : Closed ops L) {i : Nat} : ∀ (l : List Oper) (acc : List Nat), (∀ k, l[k]? = ops[acc.length + k]?) → backs l acc.length = true →
    (∀ k, k < acc.length → (acc.getD k 0).testBit i = true → L k → L i) →
    ∀ k, k < acc.length + l.length → ((masks l acc).getD k 0).testBit i = true → L k → L i
  | [], acc, _, _, h, k, hk, hb, hl => h k (by simpa using hk) hb hl
  | o :: l, acc, hl, hbk, h, k, hk, hb, hL => by
    simp only [masks] at hb
    simp only [backs, Bool.and_eq_true] at hbk
    have ho : ops[acc.length]? = some o := (by have := hl 0; simpa using this.symm)
    refine masks_closed hc l _ (fun q => ?_) (by simpa using hbk.2) (fun q hq hqb hqL => ?_) k (by simpa [Nat.add_assoc, Nat.add_comm 1] using hk) hb hL
    · have := hl (q + 1)
      simpa [Nat.add_assoc, Nat.add_comm 1] using this
    · simp only [List.length_append, List.length_cons, List.length_nil] at hq
      rcases Nat.lt_or_ge q acc.length with h1 | h1
      · refine h q h1 ?_ hqL
        rw [← hqb]; congr 1
        simp [List.getD, List.getElem?_append_left h1]
      · have : q = acc.length := by omega
        subst this
        have e1 : (acc ++ [maskOf acc o.after.toList 0]).getD acc.length 0 = maskOf acc o.after.toList 0 := by simp [List.getD]
        rw [e1] at hqb
        rcases maskOf_bit _ _ hqb with h2 | ⟨e, he, hbe, h2⟩
        · simp at h2
        · have hLe := hc _ o ho hqL e (by simpa using he) hbe
          rcases h2 with h2 | h2
          · rw [h2]; exact hLe
          · have := List.all_eq_true.1 hbk.1 e he
            simp only [hbe, Bool.not_true, Bool.false_or] at this
            exact h e.on (by simpa using this) h2 hLe

/-- What 'masks' says. -/
theorem mask_listed {ops : Array Oper} {L : Nat → Prop} (hc : Closed ops L) (hb : backs ops.toList 0 = true) {i j : Nat} (hj : j < ops.size)
    (h : ((masks ops.toList []).getD j 0).testBit i = true) (hL : L j) : L i :=
  masks_closed hc ops.toList [] (fun k => by simp) hb (fun k hk => by simp at hk) j (by simpa using hj) h hL

/-- The world's side with fewer names. -/
def Ren.lim (ρ : Ren) (k : Nat) : Ren := { ρ with n := k, dom := fun id => ρ.dom id ∧ id < k }

theorem Ren.lim_le {ρ ρ' : Ren} (h : ρ.le ρ') {k k' : Nat} (hk : k ≤ k') : (ρ.lim k).le (ρ'.lim k') :=
  ⟨fun i hi => ⟨h.dom i hi.1, Nat.lt_of_lt_of_le hi.2 hk⟩, fun i hi => h.bb i hi.1, fun i hi => h.bo i hi.1, fun i hi => h.sh i hi.1, fun i hi => h.room i hi.1⟩

theorem BlkOk.mono {ρ ρ' : Ren} {A A' : Nat → Prop} {w w' : World} {id : Nat} {b : Blk} (h : BlkOk ρ A w id b) (hid : ρ.dom id) (hle : ρ.le ρ')
    (hw : w'.heap[ρ.bb id]? = w.heap[ρ.bb id]?) (hA : ∀ x, A x → x < w.heap.size → A' x) : BlkOk ρ' A' w' id b := by
  have hlt := h.block_lt
  have h1 := h.later hid hle hw
  cases b with
  | cells t wr =>
    obtain ⟨g1, g2, g3, g4, g5⟩ := h1
    exact ⟨g1, g2, g3, g4, fun hwr => let ⟨k1, k2, k3⟩ := g5 hwr; ⟨hA _ k1 (by rw [hle.bb id hid]; exact hlt), k2, k3⟩⟩
  | map l =>
    obtain ⟨g1, g2⟩ := h1
    exact ⟨hA _ g1 (by rw [hle.bb id hid]; exact hlt), g2⟩

theorem BlkOk.ro {ρ : Ren} {A A' : Nat → Prop} {w : World} {id : Nat} {b b' : Blk} (h : BlkOk ρ A w id b) (hb : b.ro? = some b') : BlkOk ρ A' w id b' := by
  cases b with
  | cells t wr =>
    simp only [Blk.ro?, Option.some.injEq] at hb; subst hb
    obtain ⟨g1, g2, g3, g4, _⟩ := h
    exact ⟨g1, g2, g3, g4, fun h => by cases h⟩
  | map l => cases hb

theorem BlkOk.free {ρ : Ren} {A A' : Nat → Prop} {w : World} {id : Nat} {b : Blk} (h : BlkOk ρ A w id b) (hA : b.wr = true → A' (ρ.bb id)) : BlkOk ρ A' w id b := by
  cases b with
  | cells t wr =>
    obtain ⟨g1, g2, g3, g4, g5⟩ := h
    exact ⟨g1, g2, g3, g4, fun h => ⟨hA h, (g5 h).2⟩⟩
  | map l => exact ⟨hA rfl, h.2⟩

theorem BlkOk.wrA {ρ : Ren} {A : Nat → Prop} {w : World} {id : Nat} {b : Blk} (h : BlkOk ρ A w id b) (hwr : b.wr = true) : A (ρ.bb id) := by
  cases b with
  | cells t wr => exact (h.2.2.2.2 hwr).1
  | map l => exact h.1

/-- Where an entry, a block comes from, the operations of 'L' having been carried out. -/
def FromF (fr0 : Fr) (rs : List Rec) (L : Nat → Prop) (t : Nat) (u : AV) : Prop :=
  (∃ j q, L j ∧ rs[j]? = some q ∧ q.dst = some t ∧ u = q.v ∧ t < fr0.n) ∨ (fr0.get t = some u ∧ ∀ j q, L j → rs[j]? = some q → q.dst ≠ some t)
def FromM (m0 : Mem) (rs : List Rec) (L : Nat → Prop) (id : Nat) (b : Blk) : Prop :=
  (∃ j q, L j ∧ rs[j]? = some q ∧ q.touch id = true ∧ q.m'.get id = some b ∧ ∀ k q', L k → j < k → rs[k]? = some q' → q'.touch id = false) ∨
  (m0.get id = some b ∧ ∀ k q', L k → rs[k]? = some q' → q'.touch id = false)

/-- What is known of one operation's evaluation. -/
structure Known (P : Program) (ops : Array Oper) (fr0 : Fr) (m0 : Mem) (rs : List Rec) (i : Nat) (r : Rec) (o : Oper) : Prop where
  dst : r.dst = o.dst
  names : r.names = namesOf ops o
  step : StepOk P ops o r.frO r.mO r.v r.m'
  n0 : r.mO.n = r.n0
  n1 : r.n0 ≤ r.m'.n
  m0n : m0.n ≤ r.n0
  prev : ∀ (j : Nat) (q : Rec), j < i → rs[j]? = some q → q.m'.n ≤ r.n0
  fr : ∀ t u, r.frO.get t = some u → t ∈ r.names ∧ FromF fr0 rs (· < i) t u
  mem : ∀ id b, r.mO.get id = some b → id ∈ r.fp ∧ (id ∉ r.W → b.wr = false) ∧ ∃ b0, (b = b0 ∨ b0.ro? = some b) ∧ FromM m0 rs (· < i) id b0
  wr : ∀ id b, r.touch id = true → r.m'.get id = some b → b.wr = true
  fresh : ∀ (j : Nat) (q : Rec) (t : Nat), j < i → rs[j]? = some q → q.dst = some t → r.dst ≠ some t
  gd : ∀ t w u, r.v = .gd t w u → t ∈ r.names ∧ ∃ (j : Nat) (q : Rec), j < i ∧ rs[j]? = some q ∧ q.dst = some t

theorem FromF.congr {fr0 : Fr} {rs rs' : List Rec} {L : Nat → Prop} {t : Nat} {u : AV} (h : FromF fr0 rs L t u) (he : ∀ j, L j → rs'[j]? = rs[j]?) : FromF fr0 rs' L t u := by
  rcases h with ⟨j, q, h1, h2, h3⟩ | ⟨h1, h2⟩
  · exact .inl ⟨j, q, h1, by rw [he j h1]; exact h2, h3⟩
  · exact .inr ⟨h1, fun j q hj hq => h2 j q hj (by rw [← he j hj]; exact hq)⟩

theorem FromM.congr {m0 : Mem} {rs rs' : List Rec} {L : Nat → Prop} {id : Nat} {b : Blk} (h : FromM m0 rs L id b) (he : ∀ j, L j → rs'[j]? = rs[j]?) : FromM m0 rs' L id b := by
  rcases h with ⟨j, q, h1, h2, h3, h4, h5⟩ | ⟨h1, h2⟩
  · exact .inl ⟨j, q, h1, by rw [he j h1]; exact h2, h3, h4, fun k q' hk hjk hq => h5 k q' hk hjk (by rw [← he k hk]; exact hq)⟩
  · exact .inr ⟨h1, fun j q hj hq => h2 j q hj (by rw [← he j hj]; exact hq)⟩

theorem Known.congr {ops : Array Oper} {fr0 : Fr} {m0 : Mem} {rs rs' : List Rec} {i : Nat} {r : Rec} {o : Oper} (h : Known P ops fr0 m0 rs i r o) (he : ∀ j, j < i → rs'[j]? = rs[j]?) :
    Known P ops fr0 m0 rs' i r o :=
  ⟨h.dst, h.names, h.step, h.n0, h.n1, h.m0n, fun j q hj hq => h.prev j q hj (by rw [← he j hj]; exact hq), fun t u ht => ⟨(h.fr t u ht).1, (h.fr t u ht).2.congr he⟩,
    fun id b hb => let ⟨h1, h2, b0, h3, h4⟩ := h.mem id b hb; ⟨h1, h2, b0, h3, h4.congr he⟩, h.wr, fun j q t hj hq => h.fresh j q t hj (by rw [← he j hj]; exact hq),
    fun t w u hv => let ⟨h1, j, q, h2, h3, h4⟩ := h.gd t w u hv; ⟨h1, j, q, h2, by rw [he j h2]; exact h3, h4⟩⟩

/-- What is known of all, and of the frame and the memory behind them. -/
structure KnownAll (P : Program) (ops : Array Oper) (fr0 : Fr) (m0 : Mem) (rs : List Rec) (fr : Fr) (m : Mem) (S : List Nat) : Prop where
  each : ∀ (i : Nat) (r : Rec), rs[i]? = some r → ∃ o, ops[i]? = some o ∧ Known P ops fr0 m0 rs i r o
  frn : fr.n = fr0.n
  fr : ∀ t u, fr.get t = some u → FromF fr0 rs (· < rs.length) t u
  mem : ∀ id b, m.get id = some b → FromM m0 rs (· < rs.length) id b
  n : m0.n ≤ m.n
  prev : ∀ (i : Nat) (r : Rec), rs[i]? = some r → r.m'.n ≤ m.n
  dsts : ∀ d, d ∈ S ↔ ∃ (i : Nat) (r : Rec), rs[i]? = some r ∧ r.dst = some d

theorem touch_iff {r : Rec} {id : Nat} : r.touch id = true ↔ id ∈ touched r.W r.n0 r.m'.n := by
  simp only [Rec.touch, touched, Bool.or_eq_true, memN_iff, Bool.and_eq_true, Nat.ble_eq, List.mem_append, List.mem_range'_1]
  constructor
  · rintro (h | ⟨h1, h2⟩)
    · exact .inl h
    · have : id < r.m'.n := by simpa using h2
      exact .inr ⟨h1, by omega⟩
  · rintro (h | ⟨h1, h2⟩)
    · exact .inl h
    · exact .inr ⟨h1, by simp; omega⟩

theorem allWr_ok {m' : Mem} : ∀ (l : List Nat), allWr m' l = true → ∀ id b, id ∈ l → m'.get id = some b → b.wr = true
  | [], _, _, _, h, _ => by cases h
  | i :: r, h, id, b, hm, hb => by
    simp only [allWr, Bool.and_eq_true] at h
    rcases List.mem_cons.1 hm with rfl | hm
    · rw [hb] at h; exact h.1
    · exact allWr_ok r h.2 id b hm hb

theorem evD_ok {ok : List TypeId} (hok : Fair P ok) {pc : Pcs} (hpc : PSound P pc) {h : Hd} (hh : HSound P h) {ro : FuncId → Bool} {ops : Array Oper} {fr0 : Fr} {m0 : Mem} {x : Out} (hx : Om.fine x) :
    ∀ (l : List Oper) (S : List Nat) (fr : Fr) (m : Mem) (rs : List Rec) (k : Fr → Mem → List Rec → Option Out), evD P ok pc h ro ops l S fr m rs k = some x →
      (∀ q, l[q]? = ops[rs.length + q]?) → KnownAll P ops fr0 m0 rs fr m S →
      ∃ fr' m' rs' S', k fr' m' rs' = some x ∧ KnownAll P ops fr0 m0 rs' fr' m' S' ∧ rs'.length = rs.length + l.length
  | [], S, fr, m, rs, k, he, _, hK => ⟨fr, m, rs, S, he, hK, by simp⟩
  | o :: l, S, fr, m, rs, k, he, hl, hK => by
    simp only [evD] at he
    cases hc : chk true ops S o with
    | false => rw [hc] at he; cases he
    | true =>
    rw [hc, cond_true] at he
    obtain ⟨v, m', hk, hstep⟩ := evStep_ok hok hpc hh he hx
    cases hw : Nat.ble m.n m'.n && allWr m' (touched (footOf ro fr m o).2 m.n m'.n) with
    | false => rw [hw] at hk; cases hk
    | true =>
    rw [hw, cond_true] at hk
    simp only [Bool.and_eq_true, Nat.ble_eq] at hw
    have ho : ops[rs.length]? = some o := by have := hl 0; simpa using this.symm
    generalize hr : ({ dst := o.dst, v, names := namesOf ops o, fp := (footOf ro fr m o).1, W := (footOf ro fr m o).2, n0 := m.n, m', frO := fr.only (namesOf ops o), mO := m.only (footOf ro fr m o).1 (footOf ro fr m o).2 } : Rec) = r at hk
    have hfresh : fresh o.dst S = true ∧ (∀ j want, o.guard = some (j, want) → ∃ t, (ops[j]?).bind (·.dst) = some t ∧ t ∈ S) := by
      unfold chk at hc
      split at hc
      · rename_i hg
        exact ⟨by simpa using hc, fun j want h => by rw [hg] at h; cases h⟩
      · rename_i j want hg
        simp only [Bool.and_eq_true] at hc
        refine ⟨hc.1.2, fun j' want' h' => ?_⟩
        rw [hg] at h'; cases h'
        have h2 := hc.2
        split at h2
        · rename_i t ht
          exact ⟨t, ht, (memN_iff _ _).1 h2⟩
        · cases h2
    have hpre : ∀ j, j < rs.length → (rs ++ [r])[j]? = rs[j]? := fun j hj => List.getElem?_append_left hj
    have hnew : (rs ++ [r])[rs.length]? = some r := by simp
    have hrd : r.dst = o.dst := by subst hr; rfl
    have hnot : ∀ j q t, j < rs.length → rs[j]? = some q → q.dst = some t → r.dst ≠ some t := fun j q t hj hq hd he' => by
      rw [hrd] at he'
      have := hfresh.1
      simp only [fresh, he', Bool.not_eq_true', ← Bool.not_eq_true, memN_iff] at this
      exact this ((hK.dsts t).2 ⟨j, q, hq, hd⟩)
    have hkn : Known P ops fr0 m0 rs rs.length r o := by
      refine ⟨hrd, by subst hr; rfl, by subst hr; exact hstep, by subst hr; rfl, by subst hr; exact hw.1, by subst hr; exact hK.n, fun j q _ hq => by subst hr; exact hK.prev j q hq, fun t u ht => ?_, fun id b hb => ?_, fun id b ht hb => ?_, hnot, fun t w u hv => ?_⟩
      · subst hr
        obtain ⟨h1, h2⟩ := Fr.only_get ht
        exact ⟨h1, hK.fr t u h2⟩
      · subst hr
        obtain ⟨h1, b0, h2, h3, h4⟩ := Mem.only_get hb
        exact ⟨h1, h4, b0, h3, hK.mem id b0 h2⟩
      · subst hr
        exact allWr_ok _ hw.2 id b (touch_iff.1 ht) hb
      · subst hr
        obtain ⟨j, g1, g2⟩ := hstep.1 t w u hv
        obtain ⟨t', g3, g4⟩ := hfresh.2 j w g1
        rw [g2] at g3; cases g3
        refine ⟨?_, ?_⟩
        · simp only [namesOf, List.mem_append]
          right
          simp only [g1, gtemps]
          cases hj : ops[j]? with
          | none => rw [hj] at g2; cases g2
          | some oj =>
            rw [hj] at g2
            simp only [Option.bind_some] at g2
            simp [g2]
        · obtain ⟨i, q, k1, k2⟩ := (hK.dsts t).1 g4
          exact ⟨i, q, (List.getElem?_eq_some_iff.1 k1).1, k1, k2⟩
    have hK' : KnownAll P ops fr0 m0 (rs ++ [r]) (fr.put o.dst v) (m.back (footOf ro fr m o).2 m') (addD o.dst S) := by
      refine ⟨fun i q hq => ?_, ?_, fun t u ht => ?_, fun id b hb => ?_, ?_, fun i q hq => ?_, fun d => ?_⟩
      · rcases Nat.lt_or_ge i rs.length with hi | hi
        · rw [hpre i hi] at hq
          obtain ⟨o', h1, h2⟩ := hK.each i q hq
          exact ⟨o', h1, h2.congr fun j hj => hpre j (by omega)⟩
        · have hi' : i < (rs ++ [r]).length := (List.getElem?_eq_some_iff.1 hq).1
          have : i = rs.length := by simp at hi'; omega
          subst this
          rw [hnew] at hq; cases hq
          exact ⟨o, ho, hkn.congr fun j hj => hpre j hj⟩
      · cases o.dst <;> simp [Fr.put, hK.frn]
      · have old : fr.get t = some u → (∀ e, o.dst = some e → t ≠ e) → FromF fr0 (rs ++ [r]) (· < (rs ++ [r]).length) t u := fun h1 h2 => by
          rcases hK.fr t u h1 with ⟨j, q, k1, k2, k3⟩ | ⟨k1, k2⟩
          · exact .inl ⟨j, q, by simp; omega, by rw [hpre j k1]; exact k2, k3⟩
          · refine .inr ⟨k1, fun j q hj hq => ?_⟩
            rcases Nat.lt_or_ge j rs.length with hj' | hj'
            · rw [hpre j hj'] at hq; exact k2 j q hj' hq
            · have : j = rs.length := by simp at hj; omega
              subst this
              rw [hnew] at hq; cases hq
              rw [hrd]
              intro he'; exact h2 t he' rfl
        cases hd : o.dst with
        | none => rw [hd] at ht; exact old ht fun e he' => by rw [hd] at he'; cases he'
        | some d =>
          rw [hd] at ht
          rcases Fr.get_put ht with ⟨rfl, rfl, h3⟩ | ⟨h1, h2⟩
          · exact .inl ⟨rs.length, r, by simp, hnew, by rw [hrd, hd], by subst hr; rfl, by rw [← hK.frn]; exact h3⟩
          · exact old h2 fun e he' => by rw [hd] at he'; cases he'; exact h1
      · rcases setAll_get _ _ id b hb with ⟨h1, h2⟩ | ⟨h1, h2⟩
        · refine .inl ⟨rs.length, r, by simp, hnew, ?_, by subst hr; exact h2, fun k' q' hk' hlt _ => by simp at hk'; omega⟩
          rw [touch_iff]; subst hr; exact h1
        · have hnt : r.touch id = false := by
            rw [← Bool.not_eq_true, touch_iff]; subst hr; exact h1
          rcases hK.mem id b h2 with ⟨j, q, k1, k2, k3, k4, k5⟩ | ⟨k1, k2⟩
          · refine .inl ⟨j, q, by simp; omega, by rw [hpre j k1]; exact k2, k3, k4, fun k' q' hk' hlt hq' => ?_⟩
            rcases Nat.lt_or_ge k' rs.length with hj' | hj'
            · rw [hpre k' hj'] at hq'; exact k5 k' q' hj' hlt hq'
            · have : k' = rs.length := by simp at hk'; omega
              subst this
              rw [hnew] at hq'; cases hq'; exact hnt
          · refine .inr ⟨k1, fun k' q' hk' hq' => ?_⟩
            rcases Nat.lt_or_ge k' rs.length with hj' | hj'
            · rw [hpre k' hj'] at hq'; exact k2 k' q' hj' hq'
            · have : k' = rs.length := by simp at hk'; omega
              subst this
              rw [hnew] at hq'; cases hq'; exact hnt
      · exact Nat.le_trans hK.n hw.1
      · rcases Nat.lt_or_ge i rs.length with hi | hi
        · rw [hpre i hi] at hq; exact Nat.le_trans (hK.prev i q hq) hw.1
        · have hi' : i < (rs ++ [r]).length := (List.getElem?_eq_some_iff.1 hq).1
          have : i = rs.length := by simp at hi'; omega
          subst this
          rw [hnew] at hq; cases hq
          subst hr; exact Nat.le_refl _
      · have hS : d ∈ addD o.dst S ↔ o.dst = some d ∨ d ∈ S := by
          cases o.dst with
          | none => simp [addD]
          | some e => simp [addD, eq_comm]
        rw [hS]
        constructor
        · rintro (h1 | h1)
          · exact ⟨rs.length, r, hnew, by rw [hrd]; exact h1⟩
          · obtain ⟨i, q, g1, g2⟩ := (hK.dsts d).1 h1
            exact ⟨i, q, by rw [hpre i (List.getElem?_eq_some_iff.1 g1).1]; exact g1, g2⟩
        · rintro ⟨i, q, g1, g2⟩
          rcases Nat.lt_or_ge i rs.length with hi | hi
          · rw [hpre i hi] at g1; exact .inr ((hK.dsts d).2 ⟨i, q, g1, g2⟩)
          · have hi' : i < (rs ++ [r]).length := (List.getElem?_eq_some_iff.1 g1).1
            have : i = rs.length := by simp at hi'; omega
            subst this
            rw [hnew] at g1; cases g1
            exact .inl (by rw [← hrd]; exact g2)
    obtain ⟨fr', m2, rs', S', e1, e2, e3⟩ := evD_ok hok hpc hh hx l _ _ _ _ _ hk (fun q => by
      have := hl (q + 1)
      simpa [Nat.add_assoc, Nat.add_comm 1] using this) hK'
    exact ⟨fr', m2, rs', S', e1, e2, by rw [e3]; simp [Nat.add_assoc, Nat.add_comm 1]⟩

end
end Go.Ev
