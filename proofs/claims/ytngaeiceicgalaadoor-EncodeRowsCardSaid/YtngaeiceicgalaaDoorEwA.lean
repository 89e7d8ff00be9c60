/-
  Functions that read and write memory: their contracts, out of a small memory. Own text; nothing of a program.
-/
import Derived.Test.YtngaeiceicgalaaDoorEvZ
namespace Go.Ev
section
variable {P : Program} {ρ : Ren}

/-- A function's contract in a memory. -/
def Small (P : Program) (f : FuncId) (args : List AV) (m : Mem) (v : AV) (m' : Mem) : Prop :=
  ∀ ρ A w vals, Rep ρ A m w → All2 (VR3 ρ) args vals → Done P ρ A w (callFunc f vals.toArray) v m'

/-- The names of a small memory's blocks in a great one. -/
def emb (τ : List Nat) (N i : Nat) : Nat := bif Nat.blt i τ.length then τ.getD i 0 else N + (i - τ.length)

theorem emb_lt {τ : List Nat} {N i : Nat} (h : i < τ.length) : emb τ N i = τ.getD i 0 := by
  unfold emb
  have : Nat.blt i τ.length = true := by rw [Nat.blt_eq]; exact h
  rw [this, cond_true]
theorem emb_ge {τ : List Nat} {N i : Nat} (h : τ.length ≤ i) : emb τ N i = N + (i - τ.length) := by
  unfold emb
  have : Nat.blt i τ.length = false := by
    rw [← Bool.not_eq_true, Nat.blt_eq]; omega
  rw [this, cond_false]

def ren1 (τ : List Nat) (N : Nat) : AV → AV
  | .pt id p r => .pt (emb τ N id) p r
  | .sl id p lo len tip => .sl (emb τ N id) p lo len tip
  | v => v
def renV (τ : List Nat) (N : Nat) : AV → AV
  | .tup l => .tup (l.map (ren1 τ N))
  | v => ren1 τ N v
def ok1 : AV → Bool
  | .pt _ _ _ => true
  | .sl _ _ _ _ _ => true
  | .tup _ => false
  | v => plain v
def okV : AV → Bool
  | .tup l => l.all ok1
  | v => ok1 v

def putB (m1 : Mem) : List Nat → Nat → Tr Blk → Tr Blk
  | [], _, t => t
  | a :: r, i, t => putB m1 r (i + 1) (t.set (m1.get i) a)
def addB (m1 : Mem) (n N : Nat) : Nat → Tr Blk → Tr Blk
  | 0, t => t
  | c + 1, t => addB m1 n N c (t.set (m1.get (n + c)) (N + c))
/-- The great memory behind a call that was done in a small one. -/
def memOut (m : Mem) (τ : List Nat) (m1 : Mem) : Mem :=
  { n := m.n + (m1.n - τ.length), t := addB m1 τ.length m.n (m1.n - τ.length) (putB m1 τ 0 m.t) }

theorem putB_get {m1 : Mem} : ∀ (τ : List Nat) (i : Nat) (t : Tr Blk) (k : Nat) (b : Blk), τ.Nodup → (putB m1 τ i t).get k = some b →
    (∃ j, τ[j]? = some k ∧ m1.get (i + j) = some b) ∨ (k ∉ τ ∧ t.get k = some b)
  | [], _, t, k, b, _, h => .inr ⟨by simp, h⟩
  | a :: r, i, t, k, b, hn, h => by
    simp only [putB] at h
    have hn' := List.nodup_cons.1 hn
    rcases putB_get r (i + 1) _ k b hn'.2 h with ⟨j, h1, h2⟩ | ⟨h1, h2⟩
    · exact .inl ⟨j + 1, by simpa using h1, by rw [show i + (j + 1) = i + 1 + j by omega]; exact h2⟩
    · rcases Tr.get_set _ t a k b h2 with ⟨rfl, h3⟩ | ⟨h3, h4⟩
      · exact .inl ⟨0, rfl, h3⟩
      · exact .inr ⟨by simp [h1, h3], h4⟩

theorem addB_get {m1 : Mem} {n N : Nat} : ∀ (c : Nat) (t : Tr Blk) (k : Nat) (b : Blk), (addB m1 n N c t).get k = some b →
    (∃ j, j < c ∧ k = N + j ∧ m1.get (n + j) = some b) ∨ t.get k = some b
  | 0, t, k, b, h => .inr h
  | c + 1, t, k, b, h => by
    simp only [addB] at h
    rcases addB_get c _ k b h with ⟨j, h1, h2, h3⟩ | h1
    · exact .inl ⟨j, by omega, h2, h3⟩
    · rcases Tr.get_set _ t (N + c) k b h1 with ⟨rfl, h3⟩ | ⟨_, h4⟩
      · exact .inl ⟨c, by omega, rfl, h3⟩
      · exact .inr h4

/-- The arguments, the blocks of a small memory: as in the great one. -/
structure Fit (m : Mem) (τ : List Nat) (m0 : Mem) (args0 args : List AV) : Prop where
  nd : τ.Nodup
  n0 : m0.n = τ.length
  args : All2 (Like τ.length fun i => τ.getD i 0) args0 args
  all : ∀ i, i < τ.length → ∃ b, m0.get i = some b
  blk : ∀ i b, m0.get i = some b → i < τ.length ∧ ∃ t wr, b = .cells t wr ∧ plain t = true ∧ m.get (τ.getD i 0) = some (.cells t wr)

/-- What is behind the call. -/
structure Left (τ : List Nat) (m1 : Mem) (v : AV) : Prop where
  n : τ.length ≤ m1.n
  v : okV v = true
  blk : ∀ i b, m1.get i = some b → i < m1.n ∧ ∃ t wr, b = .cells t wr ∧ plain t = true ∧ (τ.length ≤ i → wr = true)

theorem All2.swap {α β γ : Type} {R : α → β → Prop} {Q : α → γ → Prop} {S : β → γ → Prop} {l : List α} {m : List β} {k : List γ} (h : All2 R l m) (h' : All2 S m k) (hq : ∀ a b c, R a b → S b c → Q a c) : All2 Q l k := by
  induction l generalizing m k with
  | nil => cases m with
    | nil => cases k with
      | nil => exact trivial
      | cons => exact h'.elim
    | cons => exact h.elim
  | cons a l ih => cases m with
    | nil => exact h.elim
    | cons b m => cases k with
      | nil => exact h'.elim
      | cons c k => exact ⟨hq _ _ _ h.1 h'.1, ih h.2 h'.2⟩

/-- The blocks that may be written in the small memory. -/
def ASmall (ρ : Ren) (τ : List Nat) (m0 : Mem) (w : World) (b : Nat) : Prop := (∃ i t, m0.get i = some (.cells t true) ∧ b = ρ.bb (τ.getD i 0)) ∨ w.heap.size ≤ b

theorem Rep.small {A : Nat → Prop} {m : Mem} {w : World} (hR : Rep ρ A m w) {τ : List Nat} {m0 : Mem} {args0 args : List AV} (hf : Fit m τ m0 args0 args) :
    Rep (ρ.by (fun i => τ.getD i 0) τ.length) (ASmall ρ τ m0 w) m0 w := by
  refine ⟨hf.n0.symm, fun id h => h.1, fun id b hb => ?_, fun i j bi bj hi hj hij hw => ?_, fun b h => .inr h, hR.tab.mono fun b hlt ha => ?_⟩
  · obtain ⟨h1, t, wr, rfl, hp, h2⟩ := hf.blk id b hb
    obtain ⟨g1, g2, g3, g4, g5, g6⟩ := hR.blk _ _ h2
    refine ⟨⟨h1, g1⟩, g2, g3, g4, fun r v hv => ?_, fun hwr => ?_⟩
    · obtain ⟨rv, k1, k2⟩ := g5 r v hv
      exact ⟨rv, k1, VR1_same (flat_plain t g3 hp v (List.mem_of_getElem? hv)) k2⟩
    · subst hwr
      exact ⟨.inl ⟨id, t, hb, rfl⟩, (g6 rfl).2⟩
  · obtain ⟨h1, t, wr, rfl, _, h2⟩ := hf.blk i bi hi
    obtain ⟨h3, t', wr', rfl, _, h4⟩ := hf.blk j bj hj
    refine hR.sep _ _ _ _ h2 h4 (fun he => hij ?_) hw
    have e1 : τ[i]? = τ[j]? := by
      rw [List.getElem?_eq_getElem h1, List.getElem?_eq_getElem h3]
      simp only [List.getD_eq_getElem?_getD, List.getElem?_eq_getElem h1, List.getElem?_eq_getElem h3, Option.getD_some] at he
      rw [he]
    exact (List.getElem?_inj h1 hf.nd).1 e1
  · rcases ha with ⟨i, t, h1, rfl⟩ | ha
    · obtain ⟨_, t', wr, h2, _, h3⟩ := hf.blk i _ h1
      cases h2
      exact ((hR.blk _ _ h3).2.2.2.2.2 rfl).1
    · omega

/-- The names behind the call. -/
def Ren.out (ρ ρs : Ren) (n N n1 : Nat) : Ren :=
  { n := N + (n1 - n), dom := fun k => ρ.dom k ∨ (N ≤ k ∧ ρs.dom (k - N + n)), bb := fun k => if k < N then ρ.bb k else ρs.bb (k - N + n), bo := fun k => if k < N then ρ.bo k else ρs.bo (k - N + n),
    sh := fun k => if k < N then ρ.sh k else ρs.sh (k - N + n), room := fun k => if k < N then ρ.room k else ρs.room (k - N + n) }

theorem Rep.great {A : Nat → Prop} {m : Mem} {w : World} (hR : Rep ρ A m w) {τ : List Nat} {m0 : Mem} {args0 args : List AV} (hf : Fit m τ m0 args0 args) {m1 : Mem} {v : AV} (hl : Left τ m1 v)
    {ρs : Ren} (he : (ρ.by (fun i => τ.getD i 0) τ.length).ext ρs) {w' : World} (hR' : Rep ρs (ASmall ρ τ m0 w) m1 w') (hU : Upd (ASmall ρ τ m0 w) w w') {rv : Value} (hv : VR3 ρs v rv) :
    ρ.ext (ρ.out ρs τ.length m.n m1.n) ∧ Rep (ρ.out ρs τ.length m.n m1.n) A (memOut m τ m1) w' ∧ Upd A w w' ∧ VR3 (ρ.out ρs τ.length m.n m1.n) (renV τ m.n v) rv := by
  have hA : ∀ b, ASmall ρ τ m0 w b → A b := fun b hb => by
    rcases hb with ⟨i, t, h1, rfl⟩ | hb
    · obtain ⟨_, t', wr, h2, _, h3⟩ := hf.blk i _ h1
      cases h2
      exact ((hR.blk _ _ h3).2.2.2.2.2 rfl).1
    · exact hR.new b hb
  have hdom : ∀ k, ρ.dom k → k < m.n := fun k hk => by rw [← hR.n]; exact hR.lt k hk
  -- the names
  have key : ∀ i, ρs.dom i → (ρ.out ρs τ.length m.n m1.n).dom (emb τ m.n i) ∧ (ρ.out ρs τ.length m.n m1.n).bb (emb τ m.n i) = ρs.bb i ∧ (ρ.out ρs τ.length m.n m1.n).bo (emb τ m.n i) = ρs.bo i ∧
      (ρ.out ρs τ.length m.n m1.n).sh (emb τ m.n i) = ρs.sh i ∧ (ρ.out ρs τ.length m.n m1.n).room (emb τ m.n i) = ρs.room i := fun i hi => by
    rcases Nat.lt_or_ge i τ.length with h | h
    · have hd := he.old i hi h
      have hlt := hdom _ hd.2
      rw [emb_lt h]
      simp only [Ren.out, if_pos hlt]
      exact ⟨.inl hd.2, (he.bb i hd).symm, (he.bo i hd).symm, (he.sh i hd).symm, (he.room i hd).symm⟩
    · rw [emb_ge h]
      have e : m.n + (i - τ.length) - m.n + τ.length = i := by omega
      have hn : ¬ (m.n + (i - τ.length) < m.n) := by omega
      simp only [Ren.out, if_neg hn, e]
      exact ⟨.inr ⟨by omega, hi⟩, trivial, trivial, trivial, trivial⟩
  have h1x : ∀ a x, ok1 a = true → VR2 ρs a x → VR2 (ρ.out ρs τ.length m.n m1.n) (ren1 τ m.n a) x := fun a x ha hx => by
    cases a with
    | pt id p r =>
      obtain ⟨g1, g2, t, o, g3, g4⟩ := hx
      obtain ⟨k1, k2, k3, k4, k5⟩ := key id g1
      refine ⟨k1, k4.trans g2, t, o, ?_, ?_⟩
      · show PathTo ((ρ.out ρs τ.length m.n m1.n).sh (emb τ m.n id)) p t o
        rw [k4]; exact g3
      · rw [k2, k3]; exact g4
    | sl id p lo len tip =>
      obtain ⟨g1, n, s, o, off, c, g2, g3, g4, g5, g6, g7⟩ := hx
      obtain ⟨k1, k2, k3, k4, k5⟩ := key id g1
      refine ⟨k1, n, s, o, off, c, ?_, g3, g4, ?_, ?_, ?_⟩
      · rw [k4]; exact g2
      · rw [k2]; exact g5
      · rw [k3]; exact g6
      · rw [k5]; exact g7
    | tup l => cases ha
    | _ => exact VR2_same ha hx
  have hvv : VR3 (ρ.out ρs τ.length m.n m1.n) (renV τ m.n v) rv := by
    have hok := hl.v
    cases v with
    | tup l =>
      obtain ⟨vs, g1, g2⟩ := hv
      refine ⟨vs, g1, ?_⟩
      have hok' : ∀ a ∈ l, ok1 a = true := List.all_eq_true.1 hok
      clear g1 hok hl
      generalize vs.toList = z at g2
      induction l generalizing z with
      | nil => cases z with
        | nil => exact trivial
        | cons => exact g2.elim
      | cons a l ih => cases z with
        | nil => exact g2.elim
        | cons b z => exact ⟨h1x a b (hok' a List.mem_cons_self) g2.1, ih (fun x hx => hok' x (List.mem_cons_of_mem _ hx)) z g2.2⟩
    | pt id p r => exact h1x (.pt id p r) rv rfl hv
    | sl id p lo len tip => exact h1x (.sl id p lo len tip) rv rfl hv
    | _ => exact VR3_same hok hv
  -- the blocks
  have hblk : ∀ i b, m1.get i = some b → BlkOk (ρ.out ρs τ.length m.n m1.n) A w' (emb τ m.n i) b := fun i b hb => by
    obtain ⟨_, t, wr, rfl, hp, _⟩ := hl.blk i b hb
    obtain ⟨g1, g2, g3, g4, g5, g6⟩ := hR'.blk _ _ hb
    obtain ⟨k1, k2, k3, k4, k5⟩ := key i g1
    simp only [BlkOk]
    rw [k2, k3, k4, k5]
    refine ⟨g2, g3, g4, fun r v hv => ?_, fun hwr => ?_⟩
    · obtain ⟨rv, q1, q2⟩ := g5 r v hv
      exact ⟨rv, q1, VR1_same (flat_plain t g3 hp v (List.mem_of_getElem? hv)) q2⟩
    · exact ⟨hA _ (g6 hwr).1, (g6 hwr).2⟩
  have hget : ∀ k b, (memOut m τ m1).get k = some b → (∃ i, k = emb τ m.n i ∧ m1.get i = some b) ∨ (k ∉ τ ∧ m.get k = some b) := fun k b hb => by
    rcases addB_get _ _ k b hb with ⟨j, h1, rfl, h3⟩ | h1
    · refine .inl ⟨τ.length + j, ?_, h3⟩
      rw [emb_ge (by omega)]; omega
    · rcases putB_get τ 0 _ k b hf.nd h1 with ⟨j, h2, h3⟩ | h2
      · rw [Nat.zero_add] at h3
        have hlt : j < τ.length := (List.getElem?_eq_some_iff.1 h2).1
        refine .inl ⟨j, ?_, h3⟩
        rw [emb_lt hlt, List.getD_eq_getElem?_getD, h2]; rfl
      · exact .inr h2
  -- a block that was not touched
  have hfar : ∀ k b, k ∉ τ → m.get k = some b → k < m.n ∧ ρ.bb k < w.heap.size ∧ ¬ ASmall ρ τ m0 w (ρ.bb k) := fun k b hk hb => by
    obtain ⟨g1, g2⟩ := hR.blk _ _ hb
    refine ⟨hdom k g1, g2.block_lt, fun ha => ?_⟩
    rcases ha with ⟨i, t, h1, h2⟩ | ha
    · obtain ⟨hi, t', wr, h3, _, h4⟩ := hf.blk i _ h1
      cases h3
      have hne : τ.getD i 0 ≠ k := fun e => hk (by
        rw [← e, List.getD_eq_getElem?_getD, List.getElem?_eq_getElem hi]; exact List.getElem_mem hi)
      exact hR.sep _ _ _ _ h4 hb hne rfl h2.symm
    · have := g2.block_lt; omega
  have hout : ∀ k, k < m.n → (ρ.out ρs τ.length m.n m1.n).bb k = ρ.bb k := fun k hk => by simp only [Ren.out, if_pos hk]
  have hext : ρ.ext (ρ.out ρs τ.length m.n m1.n) := by
    refine ⟨⟨fun i hi => .inl hi, fun i hi => ?_, fun i hi => ?_, fun i hi => ?_, fun i hi => ?_⟩, by rw [hR.n]; exact Nat.le_add_right _ _, fun i hi hlt => ?_⟩
    · simp only [Ren.out, if_pos (hdom i hi)]
    · simp only [Ren.out, if_pos (hdom i hi)]
    · simp only [Ren.out, if_pos (hdom i hi)]
    · simp only [Ren.out, if_pos (hdom i hi)]
    · rcases hi with hi | ⟨hi, _⟩
      · exact hi
      · rw [hR.n] at hlt; omega
  refine ⟨hext, ⟨rfl, fun id hid => ?_, fun id b hb => ?_, fun i j bi bj hi hj hij hw => ?_, fun b hb => hR.new b (Nat.le_trans hU.size hb), hR.tab.later fun b hb hnA => hU.old b hb fun h => hnA (hA b h)⟩, hU.mono fun i _ hi => hA i hi, hvv⟩
  · rcases hid with hid | ⟨h1, h2⟩
    · have := hdom id hid
      show id < m.n + (m1.n - τ.length)
      omega
    · have := hR'.lt _ h2
      rw [hR'.n] at this
      show id < m.n + (m1.n - τ.length)
      omega
  · rcases hget id b hb with ⟨i, rfl, h1⟩ | ⟨h1, h2⟩
    · exact ⟨(key i (hR'.blk _ _ h1).1).1, hblk i b h1⟩
    · obtain ⟨f1, f2, f3⟩ := hfar id b h1 h2
      obtain ⟨g1, g2⟩ := hR.blk _ _ h2
      exact ⟨.inl g1, g2.later g1 hext.tole (hU.old _ f2 f3)⟩
  · rcases hget i bi hi with ⟨i', rfl, h1⟩ | ⟨h1, h2⟩
    · obtain ⟨a1, a2⟩ := hR'.blk _ _ h1
      rw [(key i' a1).2.1]
      rcases hget j bj hj with ⟨j', rfl, h3⟩ | ⟨h3, h4⟩
      · rw [(key j' (hR'.blk _ _ h3).1).2.1]
        exact hR'.sep _ _ _ _ h1 h3 (fun e => hij (by rw [e])) hw
      · obtain ⟨f1, f2, f3⟩ := hfar j bj h3 h4
        rw [hout j f1]
        intro e
        obtain ⟨_, t, wr, rfl, _, _⟩ := hl.blk _ _ h1
        have hw' : wr = true := hw
        subst hw'
        have := (a2.2.2.2.2 rfl).1
        rw [e] at this
        exact f3 this
    · obtain ⟨f1, f2, f3⟩ := hfar i bi h1 h2
      rw [hout i f1]
      rcases hget j bj hj with ⟨j', rfl, h3⟩ | ⟨h3, h4⟩
      · obtain ⟨a1, a2⟩ := hR'.blk _ _ h3
        rw [(key j' a1).2.1]
        obtain ⟨_, t, wr, rfl, _, hwr⟩ := hl.blk _ _ h3
        intro e
        cases wr with
        | true =>
          have := (a2.2.2.2.2 rfl).1
          rw [← e] at this
          exact f3 this
        | false =>
          have hlt : j' < τ.length := by
            rcases Nat.lt_or_ge j' τ.length with h | h
            · exact h
            · have := hwr h; cases this
          have hd := he.old j' a1 hlt
          rw [he.bb j' hd] at e
          obtain ⟨b0, hb0⟩ := hf.all j' hlt
          obtain ⟨_, t0, wr0, rfl, _, h5⟩ := hf.blk j' b0 hb0
          refine hR.sep _ _ _ _ h2 h5 (fun e2 => h1 ?_) hw e
          rw [e2, List.getD_eq_getElem?_getD, List.getElem?_eq_getElem hlt]; exact List.getElem_mem hlt
      · obtain ⟨f1', f2', f3'⟩ := hfar j bj h3 h4
        rw [hout j f1']
        exact hR.sep _ _ _ _ h2 h4 hij hw

/-- A contract in a small memory is one in a great one. -/
theorem Small.great {f : FuncId} {args0 args : List AV} {m0 m1 m : Mem} {v : AV} {τ : List Nat} (hS : Small P f args0 m0 v m1) (hf : Fit m τ m0 args0 args) (hl : Left τ m1 v) :
    Small P f args m (renV τ m.n v) (memOut m τ m1) := fun ρ A w vals hR ha => by
  have hargs : All2 (VR3 (ρ.by (fun i => τ.getD i 0) τ.length)) args0 vals := hf.args.swap ha fun a b c hab hbc => hab.ok hbc
  rcases hS _ _ w vals (hR.small hf) hargs with ⟨ρ', rv, w', nx, h1, h2, h3, h4, h5, h6⟩ | ⟨g, args', h1, h2⟩
  · obtain ⟨k1, k2, k3, k4⟩ := hR.great hf hl h3 h4 h5 h6
    exact .inl ⟨_, rv, w', nx, h1, h2, k1, k2, k3, k4⟩
  · refine .inr ⟨g, args', h1, h2.mono fun e w' ⟨ρ', rv, g1, g2, g3, g4, g5⟩ => ?_⟩
    obtain ⟨k1, k2, k3, k4⟩ := hR.great hf hl g2 g3 g4 g5
    exact ⟨_, rv, g1, k1, k2, k3, k4⟩

/- Tables of contracts that touch memory. -/
abbrev MRow := List AV → Mem → Option (Option Bool × List Nat × AV × Mem)

def MRowOk (P : Program) (f : FuncId) (F : MRow) : Prop := ∀ args m c τ v m1, F args m = some (c, τ, v, m1) → (c = none ∨ c = some true) →
  ∃ args0 m0, Small P f args0 m0 v m1 ∧ Fit m τ m0 args0 args ∧ Left τ m1 v

def hMem : List (FuncId × MRow) → Hd → Hd
  | [], h, f, args, m, k => h f args m k
  | (g, F) :: l, h, f, args, m, k => bif Nat.beq f g then (match F args m with
    | some (c, τ, v, m1) => bindC c (k (renV τ m.n v) (memOut m τ m1))
    | none => none) else hMem l h f args m k

def MOk (P : Program) : List (FuncId × MRow) → Prop
  | [] => True
  | (g, F) :: l => MRowOk P g F ∧ MOk P l

theorem hMem_ok {h : Hd} (hh : HSound P h) : ∀ {l : List (FuncId × MRow)}, MOk P l → HSound P (hMem l h)
  | [], _ => hh
  | (g, F) :: l, hl => fun f args m k r he hr => by
    simp only [hMem] at he
    cases hb : Nat.beq f g with
    | false => rw [hb, cond_false] at he; exact hMem_ok hh hl.2 f args m k r he hr
    | true =>
    rw [hb, cond_true] at he
    have := Nat.eq_of_beq_eq_true hb
    subst this
    split at he <;> try (cases he; done)
    rename_i c τ v m1 hF
    obtain ⟨h1, h2⟩ := bindC_ok he hr
    obtain ⟨args0, m0, h3, h4, h5⟩ := hl.1 args m c τ v m1 hF h1
    exact ⟨_, _, h2, h3.great h4 h5⟩
end
end Go.Ev
