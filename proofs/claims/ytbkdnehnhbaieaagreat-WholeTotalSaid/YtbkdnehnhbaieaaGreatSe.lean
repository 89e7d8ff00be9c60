/-
  Lemmas of the prover's own, joined: EwG Oa Oc Od Oe Of Og Oh Oi Oj Om Ok Op.
-/
import Derived.Test.YtbkdnehnhbaieaaGreatRows
import Derived.Test.YtbkdnehnhbaieaaGreatSd
namespace Go.Ev
section
variable {P : Program}
abbrev Ext := Nat × AV × List (Nat × Sh)
def bs3 (base : Nat) (l : List (Nat × Sh)) : List AV := l.map fun x => .pt (base + x.1) [] x.2
def extB (base : Nat) : List Ext → Nat → List Blk
  | [], _ => []
  | (k, st, ps) :: r, h => .obj k st (bs3 base ps) h :: extB base r (h + 1)
def setL : List Blk → Nat → Tr Blk → Tr Blk
  | [], _, t => t
  | b :: r, k, t => setL r (k + 1) (t.set (some b) k)
def setT (tl : Nat → Option AV) : Nat → Nat → Tr Blk → Tr Blk
  | _, 0, t => t
  | i, n + 1, t => setT tl (i + 1) n (t.set ((tl i).map fun a => .cells a true) i)
def bU3 (base : Nat) : List Sh → List AV
  | [] => []
  | s :: r => .pt base [] s :: bU3 (base + 1) r
def objM (k : Nat) (st : AV) (X : List Ext) (h0 : Nat) : Mem := { n := h0 + 1 + X.length, t := setL (.obj k st (bU3 1 (objK k).prs) h0 :: extB 1 X (h0 + 1)) 0 (Tr.mk 12) }
def bc1 (L : Nat) (root : AV) (tl : Nat → Option AV) (X : List Ext) : Mem :=
  { n := L + X.length + X.length, t := setL (extB L X (L + X.length)) L (setT tl 1 (L - 1) ((Tr.mk 12).set (some (.cells root true)) 0)) }
theorem cM0 : ∀ (bl : List Blk) (k : Nat) (t : Tr Blk) (i : Nat) (b : Blk), (setL bl k t).get i = some b → (∃ j, bl[j]? = some b ∧ i = k + j) ∨ t.get i = some b
  | [], _, _, _, _, h => .inr h
  | a :: r, k, t, i, b, h => by
    simp only [setL] at h
    rcases cM0 r (k + 1) _ i b h with ⟨j, h1, h2⟩ | h1
    · exact .inl ⟨j + 1, by simpa using h1, by omega⟩
    · rcases Tr.get_set _ t k i b h1 with ⟨rfl, h2⟩ | ⟨_, h2⟩
      · cases h2
        exact .inl ⟨0, rfl, rfl⟩
      · exact .inr h2
theorem bZ7 {tl : Nat → Option AV} : ∀ (n i : Nat) (t : Tr Blk) (k : Nat) (b : Blk), (setT tl i n t).get k = some b → (∃ a, tl k = some a ∧ b = .cells a true ∧ i ≤ k ∧ k < i + n) ∨ t.get k = some b
  | 0, _, _, _, _, h => .inr h
  | n + 1, i, t, k, b, h => by
    simp only [setT] at h
    rcases bZ7 n (i + 1) _ k b h with ⟨a, h1, h2, h3, h4⟩ | h1
    · exact .inl ⟨a, h1, h2, by omega, by omega⟩
    · rcases Tr.get_set _ t i k b h1 with ⟨rfl, h2⟩ | ⟨_, h2⟩
      · cases ht : tl k with
        | none => rw [ht] at h2; cases h2
        | some a =>
          rw [ht] at h2
          exact .inl ⟨a, rfl, (Option.some.inj h2).symm, Nat.le_refl _, by omega⟩
      · exact .inr h2
theorem du9 {base : Nat} : ∀ {X : List Ext} {h j : Nat} {b : Blk}, (extB base X h)[j]? = some b → ∃ k st ps, X[j]? = some (k, st, ps) ∧ b = .obj k st (bs3 base ps) (h + j)
  | [], _, _, _, h => by simp [extB] at h
  | (k, st, ps) :: r, h, j, b, hb => by
    cases j with
    | zero =>
      simp [extB] at hb
      exact ⟨k, st, ps, rfl, by rw [← hb]; rfl⟩
    | succ j =>
      simp only [extB, List.getElem?_cons_succ] at hb
      obtain ⟨k', st', ps', h1, h2⟩ := du9 hb
      exact ⟨k', st', ps', by simpa using h1, by rw [h2]; congr 1; omega⟩
theorem dA7 : ∀ {l : List Sh} {base j : Nat} {a : AV}, (bU3 base l)[j]? = some a → ∃ s, l[j]? = some s ∧ a = .pt (base + j) [] s
  | [], _, _, _, h => by simp [bU3] at h
  | s :: r, base, j, a, h => by
    cases j with
    | zero => simp [bU3] at h; exact ⟨s, rfl, by rw [← h]; rfl⟩
    | succ j =>
      simp only [bU3, List.getElem?_cons_succ] at h
      obtain ⟨s', h1, h2⟩ := dA7 h
      exact ⟨s', by simpa using h1, by rw [h2]; congr 1; omega⟩
theorem cP7 : ∀ (l : List Sh) (base : Nat), (bU3 base l).length = l.length
  | [], _ => rfl
  | _ :: r, b => by simp [bU3, cP7 r]
theorem aB1 {k : Nat} {st : AV} {X : List Ext} {h0 i : Nat} {b : Blk} (h : (objM k st X h0).get i = some b) :
    (i = 0 ∧ b = .obj k st (bU3 1 (objK k).prs) h0) ∨ ∃ j kj sj ps, X[j]? = some (kj, sj, ps) ∧ i = 1 + j ∧ b = .obj kj sj (bs3 1 ps) (h0 + 1 + j) := by
  rcases cM0 _ _ _ i b h with ⟨j, h1, h2⟩ | h1
  · cases j with
    | zero => simp at h1; exact .inl ⟨h2, h1.symm⟩
    | succ j =>
      simp only [List.getElem?_cons_succ] at h1
      obtain ⟨kj, sj, ps, g1, g2⟩ := du9 h1
      exact .inr ⟨j, kj, sj, ps, g1, by omega, g2⟩
  · rw [Tr.get_mk] at h1; cases h1
theorem aP2 {L : Nat} {root : AV} {tl : Nat → Option AV} {X : List Ext} (hL : 0 < L) {i : Nat} {b : Blk} (h : (bc1 L root tl X).get i = some b) :
    (i = 0 ∧ b = .cells root true) ∨ (∃ t, 0 < i ∧ i < L ∧ tl i = some t ∧ b = .cells t true) ∨ ∃ j kj sj ps, X[j]? = some (kj, sj, ps) ∧ i = L + j ∧ b = .obj kj sj (bs3 L ps) (L + X.length + j) := by
  rcases cM0 _ _ _ i b h with ⟨j, h1, h2⟩ | h1
  · obtain ⟨kj, sj, ps, g1, g2⟩ := du9 h1
    exact .inr (.inr ⟨j, kj, sj, ps, g1, h2, g2⟩)
  · rcases bZ7 _ _ _ i b h1 with ⟨a, g1, g2, g3, g4⟩ | h1
    · exact .inr (.inl ⟨a, by omega, by omega, g1, g2⟩)
    · rcases Tr.get_set _ _ 0 i b h1 with ⟨g1, g2⟩ | ⟨_, g2⟩
      · exact .inl ⟨g1, (Option.some.inj g2).symm⟩
      · rw [Tr.get_mk] at g2; cases g2
def openR (ρ ρn : Ren) (L c : Nat) : Ren :=
  { n := L + c + c, dom := fun i => (i < L ∧ ρn.dom i) ∨ (L ≤ i ∧ i < L + c ∧ ρ.dom (1 + (i - L))) ∨ (L + c ≤ i ∧ i < L + c + c ∧ ρ.dom (2 + c + (i - (L + c)))),
    bb := fun i => if i < L then ρn.bb i else ρ.bb (1 + (i - L)), bo := fun i => if i < L then ρn.bo i else ρ.bo (1 + (i - L)),
    sh := fun i => if i < L then ρn.sh i else ρ.sh (1 + (i - L)), room := fun i => if i < L + c then ρn.room i else 0,
    ft := fun i => if i < L + c then ρn.ft i else ρ.ft (2 + c + (i - (L + c))) }
def shutR (ρ ρs : Ren) (c : Nat) (ft0 : List Nat) (hid : Nat → Nat) : Ren :=
  { n := 3 + c + c + c, dom := fun i => ρ.dom i ∨ (2 + c + c ≤ i ∧ i < 3 + c + c + c), bb := ρ.bb, bo := ρ.bo, sh := ρ.sh, room := ρ.room,
    ft := fun i => if i < 2 + c + c then ρ.ft i else if i = 2 + c + c then ft0 else ρs.ft (hid (i - (3 + c + c))) }
mutual
theorem bg2 (g : Nat → Nat) : ∀ (a : AV), (renA g a).wf → a.wf
  | .agg l, h => by
    simp only [renA, AV.wf] at h ⊢
    exact bC8 g l h
  | .arr n s f, h => by
    unfold renA at h
    cases hs : s.hasRef with
    | false => rw [hs] at h; exact h
    | true =>
      rw [hs] at h
      exact fun i => ⟨bg2 g (f i) (h i).1, by rw [← ay3 g]; exact (h i).2⟩
  | .pt _ _ _, _ => trivial
  | .sl _ _ _ _ _, _ => trivial
  | .mp _, _ => trivial
  | .fn _ _, _ => trivial
  | .un, _ => trivial
  | .bl _, _ => trivial
  | .it _ _, _ => trivial
  | .st _, _ => trivial
  | .nl, _ => trivial
  | .nsl, _ => trivial
  | .nfn, _ => trivial
  | .nmp, _ => trivial
  | .nif, _ => trivial
  | .tup _, _ => trivial
  | .gd _ _ _, _ => trivial
theorem bC8 (g : Nat → Nat) : ∀ (l : List AV), AV.wfs (aR5 g l) → AV.wfs l
  | [], _ => trivial
  | a :: l, h => ⟨bg2 g a h.1, bC8 g l h.2⟩
end
structure Shut (K : ag4) (st' : AV) (X' : List Ext) (v v0 : AV) (m1 : Mem) (root : AV) (tl : Nat → Option AV) (τ : Nat → Nat) : Prop where
  lay : K.lay st' root tl
  ids : ∀ x ∈ root.flat, plain x = true ∨ idsB (K.L + K.prs.length) x = true
  t0 : τ 0 = 0
  tx : ∀ j, j < X'.length → τ (K.L + j) = K.L + j
  rootOk : m1.get 0 = some (.cells (renA τ root) true)
  tlOk : ∀ i t, 0 < i → i < K.L → tl i = some t → plain t = true ∧ m1.get (τ i) = some (.cells t true)
  inj : ∀ i j, i < K.L → j < K.L → (i = 0 ∨ tl i ≠ none) → (j = 0 ∨ tl j ≠ none) → τ i = τ j → i = j
  far : ∀ i j, i < K.L → j < X'.length → (i = 0 ∨ tl i ≠ none) → τ i ≠ K.L + j
  ext : ∀ j kj sj ps, X'[j]? = some (kj, sj, ps) → ∃ h, m1.get (K.L + j) = some (.obj kj sj (bs3 K.L ps) h)
  v : (plain v0 = true ∧ v = v0) ∨ ∃ j r, j < X'.length ∧ v0 = .pt (K.L + j) [] r ∧ v = .pt (1 + j) [] r
theorem cm9 (g : Nat → Nat) (a : AV) : (renA g a).wf ↔ a.wf := by
  constructor
  · exact bg2 g a
  · exact cE7 g a
theorem ag7 {n : Nat} {τ : Nat → Nat} : ∀ {l : List AV}, S4 l = true → All2 (Like n τ) l l
  | [], _ => trivial
  | a :: l, h => by
    simp only [S4, Bool.and_eq_true] at h
    exact ⟨.inl ⟨h.1, rfl⟩, ag7 h.2⟩
theorem Small.opened {k : Nat} {st st' : AV} {X X' : List Ext} {f : FuncId} {rest : List AV} {v : AV} (hL : 0 < (objK k).L)
    (hg0 : (objM k st X (1 + X.length)).get 0 = some (.obj k st (bU3 1 (objK k).prs) (1 + X.length)))
    (hgx : ∀ (j kj : Nat) (sj : AV) (ps : List (Nat × Sh)), X[j]? = some (kj, sj, ps) → (objM k st X (1 + X.length)).get (1 + j) = some (.obj kj sj (bs3 1 ps) (2 + X.length + j)))
    (hsame : X'.length = X.length ∧ ∀ (j kj : Nat) (sj : AV) (ps : List (Nat × Sh)), X'[j]? = some (kj, sj, ps) → ∃ sj' : AV, X[j]? = some (kj, sj', ps))
    (hps : ∀ (j kj : Nat) (sj : AV) (ps : List (Nat × Sh)), X[j]? = some (kj, sj, ps) → ∀ x ∈ ps, x.1 < X.length)
    (hprs : ∀ j r, (objK k).prs[j]? = some r → j < X.length)
    (hsh : ∀ {st root tl}, (objK k).lay st root tl → root.shape = (objK k).sh)
    (hrest : S4 rest = true)
    (run : ∀ root tl, (objK k).lay st root tl → root.wf → (∀ i t, 0 < i → i < (objK k).L → tl i = some t → t.wf) → ∃ v0 m1 root' tl' τ, Small P f (.pt 0 [] (objK k).sh :: rest) (bc1 (objK k).L root tl X) v0 m1 ∧ Shut (objK k) st' X' v v0 m1 root' tl' τ) :
    Small P f (.pt 0 [] (objK k).sh :: rest) (objM k st X (1 + X.length)) v (objM k st' X' (2 + X.length + X.length)) := by
  intro ρ A w vals hR ha
  generalize hK : objK k = K at *
  generalize hc : X.length = c at *
  obtain ⟨hd0, hsh0, hbo0, ⟨hdh, vs, hvs, hown⟩, hA0⟩ := hR.blk 0 _ hg0
  rw [hK] at hsh0 hown
  obtain ⟨ρn, root, tl, hlay, ⟨hn1, hn2, hn3⟩, hroot, htl, hdis, hft, hdom, hvl, hpr⟩ := hown
  have hlayK := hlay
  obtain ⟨v0, m1, root', tl', τ, hS, hC⟩ := run root tl hlayK hroot.2.1 fun i t h0 hl ht => (htl i t h0 hl ht).2.1.2.1

  have hext : ∀ j, j < c → ∃ kj sj ps, X[j]? = some (kj, sj, ps) ∧ ρ.dom (1 + j) ∧ H5 ρ A w (1 + j) (.obj kj sj (bs3 1 ps) (2 + c + j)) := fun j hj => by
    have hlt : j < X.length := by omega
    have e := List.getElem?_eq_getElem hlt
    have hg := hgx j (X[j]).1 (X[j]).2.1 (X[j]).2.2 e
    obtain ⟨g1, g2⟩ := hR.blk _ _ hg
    exact ⟨_, _, _, e, g1, g2⟩
  have hp : ∀ j r, K.prs[j]? = some r → j < c ∧ ρn.dom (K.L + j) ∧ ρ.bb (1 + j) = ρn.bb (K.L + j) ∧ ρ.bo (1 + j) = ρn.bo (K.L + j) ∧ ρ.sh (1 + j) = ρn.sh (K.L + j) := fun j r hj => by
    obtain ⟨q1, q2, q3⟩ := hpr j r hj
    have hpp : (bU3 1 K.prs)[j]? = some (.pt (1 + j) [] r) := by
      have hlt : j < (bU3 1 K.prs).length := by rw [cP7]; exact (List.getElem?_eq_some_iff.1 hj).1
      obtain ⟨s, e1, e2⟩ := dA7 (List.getElem?_eq_getElem hlt)
      rw [hj] at e1; cases e1
      rw [List.getElem?_eq_getElem hlt, e2]
    obtain ⟨rv, h1, h2⟩ := hvs.get hpp
    rw [q3] at h1; cases h1
    obtain ⟨z1, z2, t, o, z3, z4⟩ := h2
    obtain ⟨z5, z6⟩ := z3
    subst z6
    injection z4 with z4
    injection z4 with z4
    injection z4 with z4 z7 _
    exact ⟨hprs j r hj, q1, z4.symm, by omega, z2.trans q2.symm⟩
  let ρ0 := openR ρ ρn K.L c
  have b1 : ∀ i, i < K.L → ρ0.bb i = ρn.bb i ∧ ρ0.bo i = ρn.bo i ∧ ρ0.sh i = ρn.sh i ∧ ρ0.room i = ρn.room i := fun i hi => ⟨if_pos hi, if_pos hi, if_pos hi, if_pos (by omega)⟩
  have b2 : ∀ j, ρ0.bb (K.L + j) = ρ.bb (1 + j) ∧ ρ0.bo (K.L + j) = ρ.bo (1 + j) ∧ ρ0.sh (K.L + j) = ρ.sh (1 + j) := fun j => by
    have h : ¬ (K.L + j < K.L) := by omega
    refine ⟨(if_neg h).trans ?_, (if_neg h).trans ?_, (if_neg h).trans ?_⟩ <;> rw [Nat.add_sub_cancel_left]
  have b3 : ∀ j, ρ0.ft (K.L + c + j) = ρ.ft (2 + c + j) := fun j => by
    show (if K.L + c + j < K.L + c then ρn.ft (K.L + c + j) else ρ.ft (2 + c + (K.L + c + j - (K.L + c)))) = _
    rw [if_neg (by omega), Nat.add_sub_cancel_left]
  have d2 : ∀ j, j < c → ρ0.dom (K.L + j) := fun j hj => .inr (.inl ⟨by omega, by omega, by
    rw [Nat.add_sub_cancel_left]
    obtain ⟨_, _, _, _, h, _⟩ := hext j hj
    exact h⟩)
  have hle : ρn.le ρ0 := by
    have split : ∀ i, ρn.dom i → i < K.L ∨ ∃ j r, i = K.L + j ∧ K.prs[j]? = some r := fun i hi => by
      rcases Nat.lt_or_ge i K.L with h | h
      · exact .inl h
      · have := hdom i hi
        have hlt : i - K.L < K.prs.length := by omega
        exact .inr ⟨i - K.L, _, by omega, List.getElem?_eq_getElem hlt⟩
    refine ⟨fun i hi => ?_, fun i hi => ?_, fun i hi => ?_, fun i hi => ?_, fun i hi => ?_, fun i hi => ?_⟩ <;> rcases split i hi with h | ⟨j, r, rfl, h⟩
    · exact .inl ⟨h, hi⟩
    · exact d2 j (hp j r h).1
    · exact (b1 i h).1
    · rw [(b2 j).1, (hp j r h).2.2.1]
    · exact (b1 i h).2.1
    · rw [(b2 j).2.1, (hp j r h).2.2.2.1]
    · exact (b1 i h).2.2.1
    · rw [(b2 j).2.2, (hp j r h).2.2.2.2]
    · exact (b1 i h).2.2.2
    · have hjc := (hp j r h).1
      show (if K.L + j < K.L + c then ρn.room (K.L + j) else 0) = _
      rw [if_pos (by omega)]
    · show (if i < K.L + c then ρn.ft i else _) = _
      rw [if_pos (by omega)]
    · show (if K.L + j < K.L + c then ρn.ft (K.L + j) else _) = _
      have := (hp j r h).1
      rw [if_pos (by omega)]
  let A0 : Nat → Prop := fun x => w.heap.size ≤ x ∨ (x = ρ.bb 0 ∨ x ∈ ρ.ft (1 + c)) ∨ ∃ j, j < c ∧ (x = ρ.bb (1 + j) ∨ x ∈ ρ.ft (2 + c + j))
  have hA0A : ∀ x, A0 x → A x := fun x hx => by
    rcases hx with h | h | ⟨j, hj, h⟩
    · exact hR.new x h
    · exact hA0 x h
    · obtain ⟨_, _, _, _, _, g⟩ := hext j hj
      exact g.2.2.2 x h
  have hsep0 : ∀ j, j < c → ∀ x, (x = ρ.bb 0 ∨ x ∈ ρ.ft (1 + c)) → ¬ (x = ρ.bb (1 + j) ∨ x ∈ ρ.ft (2 + c + j)) := fun j hj x hx => by
    obtain ⟨kj, sj, ps, e, _, _⟩ := hext j hj
    exact hR.sep 0 (1 + j) _ _ hg0 (hgx j kj sj ps e) (by omega) rfl x hx
  have hbn : ρ0.bb 0 = ρ.bb 0 := (b1 0 hL).1.trans hn1
  have extOk : ∀ j kj sj ps, X[j]? = some (kj, sj, ps) → H5 ρ0 A0 w (K.L + j) (.obj kj sj (bs3 K.L ps) (K.L + c + j)) := fun j kj sj ps hj => by
    have hjc : j < c := by rw [← hc]; exact (List.getElem?_eq_some_iff.1 hj).1
    obtain ⟨kj', sj', ps', e, g1, g2, g3, ⟨g4, vj, g5, g6⟩, g7⟩ := hext j hjc
    rw [hj] at e; cases e
    refine ⟨(b2 j).2.2.trans g2, trivial, ⟨.inr (.inr ⟨by omega, by omega, ?_⟩), vj, ?_, ?_⟩, fun x hx => ?_⟩
    · rw [Nat.add_sub_cancel_left]; exact g4
    ·
      have hin := hps j kj sj ps hj
      clear g6 g7 hj
      unfold bs3 at g5 ⊢
      induction ps generalizing vj with
      | nil => cases vj with
        | nil => exact trivial
        | cons => exact g5.elim
      | cons a ps ih => cases vj with
        | nil => exact g5.elim
        | cons u vj =>
          refine ⟨?_, ih vj g5.2 fun x hx => hin x (List.mem_cons_of_mem _ hx)⟩
          obtain ⟨z1, z2, t, o, z3, z4⟩ := g5.1
          have hac := hin a List.mem_cons_self
          refine ⟨d2 _ hac, (b2 a.1).2.2.trans z2, t, o, ?_, ?_⟩
          · show G5 (ρ0.sh (K.L + a.1)) [] t o
            rw [(b2 a.1).2.2]; exact z3
          · rw [(b2 a.1).1, (b2 a.1).2.1]; exact z4
    · rw [(b2 j).1, (b2 j).2.1, b3 j]; exact g6
    · rw [(b2 j).1, b3 j] at hx
      exact .inr (.inr ⟨j, hjc, hx⟩)
  have cellIn : ∀ i t, 0 < i → i < K.L → tl i = some t → ρ0.dom i ∧ H5 ρ0 A0 w i (.cells t true) ∧ (ρ0.bb i ∈ ρ.ft (1 + c)) ∧ ρ0.bb i ≠ ρ.bb 0 := fun i t h0 hl ht => by
    obtain ⟨q1, q2, q3, q4⟩ := htl i t h0 hl ht
    have e := (b1 i hl).1
    obtain ⟨c1, c2, c3, c4, c5, c6⟩ := q2.later (w' := w) q1 hle rfl
    exact ⟨hle.dom i q1, ⟨c1, c2, c3, c4, fun _ => ⟨.inr (.inl (.inr (by rw [e]; exact q4))), c5, c6⟩⟩, by rw [e]; exact q4, by rw [e]; exact q3⟩
  have rootIn : ρ0.dom 0 ∧ H5 ρ0 A0 w 0 (.cells root true) := by
    obtain ⟨c1, c2, c3, c4, c5, c6⟩ := hroot.later (w' := w) hn3 hle rfl
    exact ⟨hle.dom 0 hn3, ⟨c1, c2, c3, c4, fun _ => ⟨.inr (.inl (.inl hbn)), c5, c6⟩⟩⟩
  have hRep0 : Rep ρ0 A0 (bc1 K.L root tl X) w := by
    refine ⟨by show K.L + c + c = K.L + X.length + X.length; omega, fun id hid => ?_, fun id b hb => ?_, fun i j bi bj hi hj hij hw => ?_, fun b hb => .inl hb, hR.tab.mono fun x _ hx => hA0A x hx⟩
    · rcases hid with ⟨h, _⟩ | ⟨_, h, _⟩ | ⟨_, h, _⟩
      · show id < K.L + c + c; omega
      · show id < K.L + c + c; omega
      · exact h
    · rcases aP2 hL hb with ⟨rfl, rfl⟩ | ⟨t, h0, hl, ht, rfl⟩ | ⟨j, kj, sj, ps, hj, rfl, rfl⟩
      · exact rootIn
      · obtain ⟨g1, g2, _⟩ := cellIn id t h0 hl ht
        exact ⟨g1, g2⟩
      · have hjc : j < c := by rw [← hc]; exact (List.getElem?_eq_some_iff.1 hj).1
        rw [hc]
        exact ⟨d2 j hjc, extOk j kj sj ps hj⟩
    ·
      have fc : ∀ i b, (bc1 K.L root tl X).get i = some b → i < K.L → ∀ x, b.foot ρ0 i x → x = ρ0.bb i ∧ (x = ρ.bb 0 ∨ x ∈ ρ.ft (1 + c)) := fun i b hb hi x hx => by
        rcases aP2 hL hb with ⟨rfl, rfl⟩ | ⟨t, h0, hl, ht, rfl⟩ | ⟨j, kj, sj, ps, hj, rfl, rfl⟩
        · exact ⟨hx, .inl ((show x = ρ0.bb 0 from hx).trans hbn)⟩
        · exact ⟨hx, .inr (by rw [show x = ρ0.bb i from hx]; exact (cellIn i t h0 hl ht).2.2.1)⟩
        · omega
      have fe : ∀ i b, (bc1 K.L root tl X).get i = some b → K.L ≤ i → ∃ j, j < c ∧ i = K.L + j ∧ ∀ x, b.foot ρ0 i x → (x = ρ.bb (1 + j) ∨ x ∈ ρ.ft (2 + c + j)) := fun i b hb hi => by
        rcases aP2 hL hb with ⟨rfl, rfl⟩ | ⟨t, h0, hl, ht, rfl⟩ | ⟨j, kj, sj, ps, hj, rfl, rfl⟩
        · omega
        · omega
        · refine ⟨j, by rw [← hc]; exact (List.getElem?_eq_some_iff.1 hj).1, rfl, fun x hx => ?_⟩
          have hx : x = ρ0.bb (K.L + j) ∨ x ∈ ρ0.ft (K.L + X.length + j) := hx
          rw [hc, (b2 j).1, b3 j] at hx
          exact hx
      intro x hx hx'
      rcases Nat.lt_or_ge i K.L with h1 | h1 <;> rcases Nat.lt_or_ge j K.L with h2 | h2
      · obtain ⟨e1, _⟩ := fc i bi hi h1 x hx
        obtain ⟨e2, _⟩ := fc j bj hj h2 x hx'
        rcases aP2 hL hi with ⟨rfl, rfl⟩ | ⟨t, h0, hl, ht, rfl⟩ | ⟨j', kj, sj, ps, hj', rfl, rfl⟩
        · rcases aP2 hL hj with ⟨rfl, rfl⟩ | ⟨t', h0', hl', ht', rfl⟩ | ⟨j', kj, sj, ps, hj', rfl, rfl⟩
          · exact hij rfl
          · exact (cellIn j t' h0' hl' ht').2.2.2 (by rw [← e2, e1]; exact hbn)
          · omega
        · rcases aP2 hL hj with ⟨rfl, rfl⟩ | ⟨t', h0', hl', ht', rfl⟩ | ⟨j', kj, sj, ps, hj', rfl, rfl⟩
          · exact (cellIn i t h0 hl ht).2.2.2 (by rw [← e1, e2]; exact hbn)
          · exact hdis i j t t' h0 hl h0' hl' ht ht' hij (by rw [← (b1 i hl).1, ← (b1 j hl').1, ← e1, ← e2])
          · omega
        · omega
      · obtain ⟨j', hj', _, e2⟩ := fe j bj hj h2
        exact hsep0 j' hj' x (fc i bi hi h1 x hx).2 (e2 x hx')
      · obtain ⟨j', hj', _, e2⟩ := fe i bi hi h1
        exact hsep0 j' hj' x (fc j bj hj h2 x hx').2 (e2 x hx)
      · obtain ⟨j1, hj1, e1, q1⟩ := fe i bi hi h1
        obtain ⟨j2, hj2, e2, q2⟩ := fe j bj hj h2
        obtain ⟨k1, s1, p1, x1, _, _⟩ := hext j1 hj1
        obtain ⟨k2, s2, p2, x2, _, _⟩ := hext j2 hj2
        exact hR.sep (1 + j1) (1 + j2) _ _ (hgx j1 k1 s1 p1 x1) (hgx j2 k2 s2 p2 x2) (by omega) rfl x (q1 x hx) (q2 x hx')
  have hargs : All2 (VR3 ρ0) (.pt 0 [] K.sh :: rest) vals := by
    match vals, ha with
    | rv :: vals, ⟨ha1, ha2⟩ =>
    refine ⟨?_, ?_⟩
    · obtain ⟨z1, z2, t, o, z3, z4⟩ := ha1
      have e0 : ρ0.sh 0 = K.sh := by
        have := rootIn.2.1
        rw [this]; exact hsh hlay
      have z3 : G5 (ρ.sh 0) [] t o := z3
      rw [hsh0] at z3
      refine ⟨rootIn.1, e0, t, o, by show G5 (ρ0.sh 0) [] t o; rw [e0]; exact z3, ?_⟩
      rw [hbn, (b1 0 hL).2.1, hn2, z4]
    · exact (ag7 (n := 0) (τ := id) hrest).swap ha2 fun a b c h hv => by
        rcases h with ⟨h1, rfl⟩ | ⟨_, _, _, _, _, h⟩ | ⟨_, _, _, _, _, _, _, h⟩
        · exact ao0 h1 hv
        · omega
        · omega

  have key : ∀ {ρs : Ren} {w' : World} {rv : Value}, ρ0.ext ρs → Rep ρs A0 m1 w' → Upd A0 w w' → VR3 ρs v0 rv →
      ∃ ρ' : Ren, ρ.ext ρ' ∧ Rep ρ' A (objM k st' X' (2 + c + c)) w' ∧ Upd A w w' ∧ VR3 ρ' v rv := fun {ρs w' rv} he hR1 hU hv => by
    let ft0 : List Nat := (List.range K.L).filterMap fun i => if 0 < i then (tl' i).map fun _ => ρs.bb (τ i) else none
    let hid : Nat → Nat := fun j => match m1.get (K.L + j) with | some b => dS7 b | none => 0
    let ρ' := shutR ρ ρs c ft0 hid
    have hft0 : ∀ x, x ∈ ft0 ↔ ∃ i t, 0 < i ∧ i < K.L ∧ tl' i = some t ∧ x = ρs.bb (τ i) := fun x => by
      constructor
      · intro hx
        obtain ⟨i, hi, he⟩ := List.mem_filterMap.1 hx
        have hi := List.mem_range.1 hi
        by_cases h0 : 0 < i
        · rw [if_pos h0] at he
          cases ht : tl' i with
          | none => rw [ht] at he; cases he
          | some t => rw [ht] at he; exact ⟨i, t, h0, hi, ht, (Option.some.inj he).symm⟩
        · rw [if_neg h0] at he; cases he
      · rintro ⟨i, t, h0, hl, ht, rfl⟩
        exact List.mem_filterMap.2 ⟨i, List.mem_range.2 hl, by rw [if_pos h0, ht]; rfl⟩
    have hlt : ∀ i, ρ.dom i → i < 2 + c + c := fun i hi => by
      have := hR.lt i hi
      have e : ρ.n = 1 + c + 1 + X.length := hR.n
      omega
    have hext' : ρ.ext ρ' := by
      have e : ρ.n = 1 + c + 1 + X.length := hR.n
      refine ⟨⟨fun i hi => .inl hi, fun _ _ => rfl, fun _ _ => rfl, fun _ _ => rfl, fun _ _ => rfl, fun i hi => ?_⟩, by show ρ.n ≤ 3 + c + c + c; omega, fun i hi hn => ?_⟩
      · show (if i < 2 + c + c then ρ.ft i else _) = _
        rw [if_pos (hlt i hi)]
      · rcases hi with hi | ⟨hi, _⟩
        · exact hi
        · omega
    have xs0 : ∀ j, j < c → ρs.dom (K.L + j) ∧ ρs.bb (K.L + j) = ρ.bb (1 + j) ∧ ρs.bo (K.L + j) = ρ.bo (1 + j) ∧ ρs.sh (K.L + j) = ρ.sh (1 + j) := fun j hj => by
      have hd := d2 j hj
      exact ⟨he.dom _ hd, (he.bb _ hd).trans (b2 j).1, (he.bo _ hd).trans (b2 j).2.1, (he.sh _ hd).trans (b2 j).2.2⟩
    have xs00 : ρs.bb 0 = ρ.bb 0 ∧ ρs.bo 0 = ρ.bo 0 ∧ ρs.sh 0 = K.sh := by
      have hd := rootIn.1
      refine ⟨(he.bb _ hd).trans hbn, (he.bo _ hd).trans ((b1 0 hL).2.1.trans hn2), (he.sh _ hd).trans ?_⟩
      have := rootIn.2.1
      rw [this]; exact hsh hlay
    have h1d : ∀ j, j < c → ρ.dom (1 + j) := fun j hj => by
      obtain ⟨_, _, _, _, h, _⟩ := hext j hj
      exact h
    have hvv : VR3 ρ' v rv := by
      rcases hC.v with ⟨h1, rfl⟩ | ⟨j, r, hj, rfl, rfl⟩
      · exact ao0 h1 hv
      · have hj : j < c := by have := hsame.1; omega
        obtain ⟨z1, z2, t, o, z3, z4⟩ := hv
        obtain ⟨y1, y2, y3, y4⟩ := xs0 j hj
        refine ⟨.inl (h1d j hj), (show ρ.sh (1 + j) = r by rw [← y4]; exact z2), t, o, ?_, ?_⟩
        · show G5 (ρ.sh (1 + j)) [] t o
          rw [← y4]; exact z3
        · show rv = .pointer (some ⟨ρ.bb (1 + j), ρ.bo (1 + j) + o, none⟩)
          rw [← y2, ← y3]; exact z4
    have hxl : X'.length = c := hsame.1

    have gRoot := hR1.blk 0 _ hC.rootOk
    have gTl : ∀ i t, 0 < i → i < K.L → tl' i = some t → plain t = true ∧ ρs.dom (τ i) ∧ H5 ρs A0 w' (τ i) (.cells t true) := fun i t h0 hl ht => by
      obtain ⟨q1, q2⟩ := hC.tlOk i t h0 hl ht
      exact ⟨q1, hR1.blk _ _ q2⟩
    have cellNew : ∀ i t, i < K.L → (∀ x ∈ t.flat, plain x = true ∨ idsB (K.L + K.prs.length) x = true) → H5 ρs A0 w' (τ i) (.cells (renA τ t) true) → bf0 (ρs.by τ (K.L + K.prs.length)) w' i t := fun i t hi hids hb => by
      have hwt : t.wf := by
        have := hb.2.1
        exact (cm9 τ t).1 this
      obtain ⟨u1, u2, u3, u4, u5⟩ := H5.unrenC (n := K.L + K.prs.length) (A' := A0) hids hwt hb (fun hwr x hx => by
        rw [hx]; exact (hb.2.2.2.2 rfl).1)
      obtain ⟨_, u6, u7⟩ := u5 rfl
      refine ⟨u1, u2, u3, fun r v hv => ?_, ?_, ?_⟩
      · obtain ⟨rv, q1, q2⟩ := u4 r v hv
        exact ⟨rv, q1, q2⟩
      · exact u6
      · exact u7
    have ownMain : K.own st' vs w' (ρ.bb 0) (ρ.bo 0) ft0 := by
      refine ⟨(ρs.by τ (K.L + K.prs.length)), root', tl', hC.lay, ⟨?_, ?_, ?_⟩, ?_, fun i t h0 hl ht => ?_, fun i j t t' h0 hl h0' hl' ht ht' hij => ?_, fun x hx => ?_, fun i hi => hi.1, hvl, fun j r hj => ?_⟩
      · show ρs.bb (τ 0) = _
        rw [hC.t0]; exact xs00.1
      · show ρs.bo (τ 0) = _
        rw [hC.t0]; exact xs00.2.1
      · refine ⟨by omega, ?_⟩
        rw [hC.t0]; exact gRoot.1
      · refine cellNew 0 root' hL hC.ids ?_
        rw [hC.t0]; exact gRoot.2
      · obtain ⟨q1, q2, q3⟩ := gTl i t h0 hl ht
        refine ⟨⟨by omega, q2⟩, cellNew i t hl (fun x hx => .inl (ax7 t q3.2.1 q1 x hx)) (by rw [Z8 τ t q1]; exact q3), fun e => ?_, (hft0 _).2 ⟨i, t, h0, hl, ht, rfl⟩⟩
        have e : ρs.bb (τ i) = ρ.bb 0 := e
        have hne : τ i ≠ 0 := fun h => by
          have := hC.inj i 0 hl hL (.inr (by rw [ht]; simp)) (.inl rfl) (by rw [h, hC.t0])
          omega
        exact hR1.sep _ _ _ _ (hC.tlOk i t h0 hl ht).2 hC.rootOk hne rfl (ρs.bb (τ i)) rfl (by rw [e, ← xs00.1]; rfl)
      · intro e
        have e : ρs.bb (τ i) = ρs.bb (τ j) := e
        have hne : τ i ≠ τ j := fun h => hij (hC.inj i j hl hl' (.inr (by rw [ht]; simp)) (.inr (by rw [ht']; simp)) h)
        exact hR1.sep _ _ _ _ (hC.tlOk i t h0 hl ht).2 (hC.tlOk j t' h0' hl' ht').2 hne rfl (ρs.bb (τ i)) rfl e
      · obtain ⟨i, t, h0, hl, ht, rfl⟩ := (hft0 x).1 hx
        exact ⟨i, t, h0, hl, ht, rfl⟩
      · obtain ⟨p1, p2, p3, p4, p5⟩ := hp j r hj
        obtain ⟨q1, q2, q3⟩ := hpr j r hj
        obtain ⟨y1, y2, y3, y4⟩ := xs0 j p1
        have tj := hC.tx j (by omega)
        have hjl := (List.getElem?_eq_some_iff.1 hj).1
        refine ⟨⟨by omega, by rw [tj]; exact y1⟩, ?_, ?_⟩
        · show ρs.sh (τ (K.L + j)) = r
          rw [tj, y4, p5]; exact q2
        · show vs[j]? = some (.pointer (some ⟨ρs.bb (τ (K.L + j)), ρs.bo (τ (K.L + j)), none⟩))
          rw [tj, y2, y3, p3, p4]; exact q3
    have hUA : Upd A w w' := hU.mono fun x _ h => hA0A x h
    have xInfo : ∀ j, j < c → ∃ kj sj ps h, X'[j]? = some (kj, sj, ps) ∧ m1.get (K.L + j) = some (.obj kj sj (bs3 K.L ps) h) ∧ ρ'.ft (3 + c + c + j) = ρs.ft h ∧ (∀ x ∈ ps, x.1 < c) := fun j hj => by
      have hlt : j < X'.length := by omega
      have e := List.getElem?_eq_getElem hlt
      obtain ⟨h, hg⟩ := hC.ext j (X'[j]).1 (X'[j]).2.1 (X'[j]).2.2 e
      obtain ⟨sj', e'⟩ := hsame.2 j (X'[j]).1 (X'[j]).2.1 (X'[j]).2.2 e
      refine ⟨_, _, _, h, e, hg, ?_, hps j _ _ _ e'⟩
      show (if 3 + c + c + j < 2 + c + c then _ else if 3 + c + c + j = 2 + c + c then _ else ρs.ft (hid (3 + c + c + j - (3 + c + c)))) = _
      rw [if_neg (by omega), if_neg (by omega), Nat.add_sub_cancel_left]
      show ρs.ft (match m1.get (K.L + j) with | some b => dS7 b | none => 0) = _
      rw [hg]; rfl
    have ftMain : ρ'.ft (2 + c + c) = ft0 := by
      show (if 2 + c + c < 2 + c + c then _ else if 2 + c + c = 2 + c + c then ft0 else _) = _
      rw [if_neg (by omega), if_pos rfl]
    have footMain : ∀ x, (x = ρ.bb 0 ∨ x ∈ ft0) → ∃ i t, i < K.L ∧ m1.get (τ i) = some (.cells t true) ∧ x = ρs.bb (τ i) ∧ (i = 0 ∨ tl' i ≠ none) := fun x hx => by
      rcases hx with rfl | hx
      · exact ⟨0, _, hL, by rw [hC.t0]; exact hC.rootOk, by rw [hC.t0]; exact xs00.1.symm, .inl rfl⟩
      · obtain ⟨i, t, h0, hl, ht, rfl⟩ := (hft0 x).1 hx
        exact ⟨i, t, hl, (hC.tlOk i t h0 hl ht).2, rfl, .inr (by rw [ht]; simp)⟩
    have extNew : ∀ j kj sj ps h, j < c → m1.get (K.L + j) = some (.obj kj sj (bs3 K.L ps) h) → ρ'.ft (3 + c + c + j) = ρs.ft h → (∀ x ∈ ps, x.1 < c) → H5 ρ' A w' (1 + j) (.obj kj sj (bs3 1 ps) (3 + c + c + j)) := fun j kj sj ps h hj hg hf hpx => by
      obtain ⟨g1, g2, g3, ⟨g4, vj, g5, g6⟩, g7⟩ := hR1.blk _ _ hg
      obtain ⟨y1, y2, y3, y4⟩ := xs0 j hj
      refine ⟨(show ρ.sh (1 + j) = _ by rw [← y4]; exact g2), trivial, ⟨.inr ⟨by omega, by omega⟩, vj, ?_, ?_⟩, fun x hx => hA0A x (g7 x ?_)⟩
      · clear g6 g7 hg
        unfold bs3 at g5 ⊢
        induction ps generalizing vj with
        | nil => cases vj with
          | nil => exact trivial
          | cons => exact g5.elim
        | cons a ps ih => cases vj with
          | nil => exact g5.elim
          | cons u vj =>
            refine ⟨?_, ih (fun x hx => hpx x (List.mem_cons_of_mem _ hx)) vj g5.2⟩
            obtain ⟨z1, z2, t, o, z3, z4⟩ := g5.1
            have hac := hpx a List.mem_cons_self
            obtain ⟨w1, w2, w3, w4⟩ := xs0 a.1 hac
            refine ⟨.inl (h1d a.1 hac), (show ρ.sh (1 + a.1) = a.2 by rw [← w4]; exact z2), t, o, ?_, ?_⟩
            · show G5 (ρ.sh (1 + a.1)) [] t o
              rw [← w4]; exact z3
            · show u = .pointer (some ⟨ρ.bb (1 + a.1), ρ.bo (1 + a.1) + o, none⟩)
              rw [← w2, ← w3]; exact z4
      · show (objK kj).own sj vj w' (ρ.bb (1 + j)) (ρ.bo (1 + j)) (ρ'.ft (3 + c + c + j))
        rw [hf, ← y2, ← y3]; exact g6
      · have hx : x = ρ.bb (1 + j) ∨ x ∈ ρ'.ft (3 + c + c + j) := hx
        rw [hf, ← y2] at hx
        exact hx
    have gX : ∀ j kj sj ps, X'[j]? = some (kj, sj, ps) → ∃ h, j < c ∧ m1.get (K.L + j) = some (.obj kj sj (bs3 K.L ps) h) ∧ ρ'.ft (3 + c + c + j) = ρs.ft h ∧ (∀ x ∈ ps, x.1 < c) := fun j kj sj ps hj => by
      have hjc : j < c := by have := (List.getElem?_eq_some_iff.1 hj).1; omega
      obtain ⟨k', s', p', h, e, q1, q2, q3⟩ := xInfo j hjc
      rw [hj] at e; cases e
      exact ⟨h, hjc, q1, q2, q3⟩
    have hRep' : Rep ρ' A (objM k st' X' (2 + c + c)) w' := by
      refine ⟨by show 3 + c + c + c = 2 + c + c + 1 + X'.length; omega, fun id hid => ?_, fun id b hb => ?_, fun i j bi bj hi hj hij hw => ?_, fun b hb => hR.new b (Nat.le_trans hU.size hb), hR.tab.later hUA.old⟩
      · rcases hid with h | ⟨_, h⟩
        · have := hlt id h
          show id < 3 + c + c + c; omega
        · exact h
      · rcases aB1 hb with ⟨rfl, rfl⟩ | ⟨j, kj, sj, ps, hj, rfl, rfl⟩
        · refine ⟨.inl hd0, ?_⟩
          rw [hK]
          refine ⟨(show ρ.sh 0 = _ by rw [hK]; exact hsh0), hbo0, ⟨.inr ⟨by omega, by omega⟩, vs, hvs.mono fun a v h => VR1.mono hext'.tole a v h, ?_⟩, fun x hx => ?_⟩
          · rw [hK]
            show K.own st' vs w' (ρ.bb 0) (ρ.bo 0) (ρ'.ft (2 + c + c))
            rw [ftMain]; exact ownMain
          · have hx : x = ρ.bb 0 ∨ x ∈ ρ'.ft (2 + c + c) := hx
            rw [ftMain] at hx
            obtain ⟨i, t, _, hg, rfl, _⟩ := footMain x hx
            exact hA0A _ ((hR1.blk _ _ hg).2.wrA rfl _ rfl)
        · obtain ⟨h, hjc, q1, q2, q3⟩ := gX j kj sj ps hj
          refine ⟨.inl (h1d j hjc), ?_⟩
          rw [show 2 + c + c + 1 + j = 3 + c + c + j by omega]
          exact extNew j kj sj ps h hjc q1 q2 q3
      · have me : ∀ j kj sj ps x, X'[j]? = some (kj, sj, ps) → (x = ρ.bb 0 ∨ x ∈ ρ'.ft (2 + c + c)) → ¬ (x = ρ.bb (1 + j) ∨ x ∈ ρ'.ft (2 + c + c + 1 + j)) := fun j kj sj ps x hj hx hx' => by
          obtain ⟨h, hjc, q1, q2, q3⟩ := gX j kj sj ps hj
          rw [ftMain] at hx
          rw [show 2 + c + c + 1 + j = 3 + c + c + j by omega, q2, ← (xs0 j hjc).2.1] at hx'
          obtain ⟨i, t, hi, hg, rfl, hn⟩ := footMain x hx
          exact hR1.sep _ _ _ _ hg q1 (hC.far i j hi (by omega) hn) rfl _ rfl hx'
        intro x hx hx'
        rcases aB1 hi with ⟨rfl, rfl⟩ | ⟨j1, k1, s1, p1, hj1, rfl, rfl⟩ <;> rcases aB1 hj with ⟨rfl, rfl⟩ | ⟨j2, k2, s2, p2, hj2, rfl, rfl⟩
        · exact hij rfl
        · exact me j2 k2 s2 p2 x hj2 hx hx'
        · exact me j1 k1 s1 p1 x hj1 hx' hx
        · obtain ⟨h1, hc1, q1, q2, _⟩ := gX j1 k1 s1 p1 hj1
          obtain ⟨h2, hc2, r1, r2, _⟩ := gX j2 k2 s2 p2 hj2
          have hx : x = ρ.bb (1 + j1) ∨ x ∈ ρ'.ft (2 + c + c + 1 + j1) := hx
          have hx' : x = ρ.bb (1 + j2) ∨ x ∈ ρ'.ft (2 + c + c + 1 + j2) := hx'
          rw [show 2 + c + c + 1 + j1 = 3 + c + c + j1 by omega, q2, ← (xs0 j1 hc1).2.1] at hx
          rw [show 2 + c + c + 1 + j2 = 3 + c + c + j2 by omega, r2, ← (xs0 j2 hc2).2.1] at hx'
          exact hR1.sep _ _ _ _ q1 r1 (by omega) rfl x hx hx'
    exact ⟨ρ', hext', hRep', hUA, hvv⟩
  rcases hS ρ0 A0 w vals hRep0 hargs with ⟨ρs, rv, w', nx, h1, h2, h3, h4, h5, h6⟩ | ⟨g, args', h1, h2⟩
  · obtain ⟨ρ', k1, k2, k3, k4⟩ := key h3 h4 h5 h6
    exact .inl ⟨ρ', rv, w', nx, h1, h2, k1, k2, k3, k4⟩
  · refine .inr ⟨g, args', h1, h2.mono fun e w' ⟨ρs, rv, g1, g2, g3, g4, g5⟩ => ?_⟩
    obtain ⟨ρ', k1, k2, k3, k4⟩ := key g2 g3 g4 g5
    exact ⟨ρ', rv, g1, k1, k2, k3, k4⟩
theorem Small.pack {k : Nat} {st : AV} {f : FuncId} {args : List AV} {m m1 m2 : Mem} {a : Nat} {root : AV} {tl : Nat → Option AV} {τ : Nat → Nat} {pe : List (Nat × Sh)} (hS : Small P f args m (.pt a [] (objK k).sh) m1)
    (hL : 0 < (objK k).L) (hlay : (objK k).lay st root tl) (hids : ∀ x ∈ root.flat, plain x = true ∨ idsB ((objK k).L + (objK k).prs.length) x = true) (hsh : root.shape = (objK k).sh)
    (hpe : pe.map (·.2) = (objK k).prs) (hpx : ∀ (j e : Nat) (r : Sh), pe[j]? = some (e, r) → τ ((objK k).L + j) = e ∧ e < m.n ∧ ∃ kj sj pj hj, m1.get e = some (.obj kj sj pj hj) ∧ (objK kj).sh = r)
    (t0 : τ 0 = a) (hroot : m1.get a = some (.cells (renA τ root) true))
    (htl : ∀ i t, 0 < i → i < (objK k).L → tl i = some t → plain t = true ∧ m1.get (τ i) = some (.cells t true))
    (inj : ∀ i j, i < (objK k).L → j < (objK k).L → (i = 0 ∨ tl i ≠ none) → (j = 0 ∨ tl j ≠ none) → τ i = τ j → i = j)
    (hnew : ∀ i, i < (objK k).L → (i = 0 ∨ tl i ≠ none) → m.n ≤ τ i)
    (h2n : m2.n = m.n + 2) (h2 : ∀ i b, m2.get i = some b → (i = m.n ∧ b = .obj k st (bs3 0 pe) (m.n + 1)) ∨ (i < m.n ∧ m1.get i = some b ∧ aa0 m.n b = true)) :
    Small P f args m (.pt m.n [] (objK k).sh) m2 := by
  intro ρ A w vals hR ha
  have key : ∀ {ρs : Ren} {w' : World} {rv : Value}, ρ.ext ρs → Rep ρs A m1 w' → Upd A w w' → VR3 ρs (.pt a [] (objK k).sh) rv →
      ∃ ρ' : Ren, ρ.ext ρ' ∧ Rep ρ' A m2 w' ∧ Upd A w w' ∧ VR3 ρ' (.pt m.n [] (objK k).sh) rv := fun {ρs w' rv} he hR1 hU hv => by
    generalize hK : objK k = K at *
    let ft0 : List Nat := (List.range K.L).filterMap fun i => if 0 < i then (tl i).map fun _ => ρs.bb (τ i) else none
    have hft0 : ∀ x, x ∈ ft0 ↔ ∃ i t, 0 < i ∧ i < K.L ∧ tl i = some t ∧ x = ρs.bb (τ i) := fun x => by
      constructor
      · intro hx
        obtain ⟨i, hi, he⟩ := List.mem_filterMap.1 hx
        have hi := List.mem_range.1 hi
        by_cases h0 : 0 < i
        · rw [if_pos h0] at he
          cases ht : tl i with
          | none => rw [ht] at he; cases he
          | some t => rw [ht] at he; exact ⟨i, t, h0, hi, ht, (Option.some.inj he).symm⟩
        · rw [if_neg h0] at he; cases he
      · rintro ⟨i, t, h0, hl, ht, rfl⟩
        exact List.mem_filterMap.2 ⟨i, List.mem_range.2 hl, by rw [if_pos h0, ht]; rfl⟩
    let ρ' : Ren := { n := m.n + 2, dom := fun i => (i < m.n ∧ ρs.dom i) ∨ i = m.n ∨ i = m.n + 1, bb := fun i => if i < m.n then ρs.bb i else ρs.bb a, bo := fun i => if i < m.n then ρs.bo i else ρs.bo a, sh := fun i => if i < m.n then ρs.sh i else ρs.sh a, room := fun i => if i < m.n then ρs.room i else ρs.room a, ft := fun i => if i < m.n then ρs.ft i else ft0 }
    have hn : ρ.n = m.n := hR.n
    have same : ∀ i, i < m.n → ρs.dom i → bR4 ρs ρ' i i := fun i hi hd => ⟨.inl ⟨hi, hd⟩, if_pos hi, if_pos hi, if_pos hi, if_pos hi, if_pos hi⟩
    have eN : ρ'.bb m.n = ρs.bb a ∧ ρ'.bo m.n = ρs.bo a ∧ ρ'.sh m.n = ρs.sh a ∧ ρ'.ft (m.n + 1) = ft0 := ⟨if_neg (by omega), if_neg (by omega), if_neg (by omega), if_neg (by omega)⟩
    have hext' : ρ.ext ρ' := by
      have hlt : ∀ i, ρ.dom i → i < m.n := fun i hi => by have := hR.lt i hi; omega
      refine ⟨⟨fun i hi => .inl ⟨hlt i hi, he.dom i hi⟩, fun i hi => ?_, fun i hi => ?_, fun i hi => ?_, fun i hi => ?_, fun i hi => ?_⟩, by show ρ.n ≤ m.n + 2; omega, fun i hi h => ?_⟩
      · exact (if_pos (hlt i hi)).trans (he.bb i hi)
      · exact (if_pos (hlt i hi)).trans (he.bo i hi)
      · exact (if_pos (hlt i hi)).trans (he.sh i hi)
      · exact (if_pos (hlt i hi)).trans (he.room i hi)
      · exact (if_pos (hlt i hi)).trans (he.ft i hi)
      · rcases hi with ⟨_, hi⟩ | hi | hi
        · exact he.old i hi h
        · omega
        · omega
    obtain ⟨gd, gR⟩ := hR1.blk _ _ hroot
    have hvv : VR3 ρ' (.pt m.n [] K.sh) rv := by
      obtain ⟨z1, z2, t, o, z3, z4⟩ := hv
      refine ⟨.inr (.inl rfl), eN.2.2.1.trans z2, t, o, ?_, ?_⟩
      · show G5 (ρ'.sh m.n) [] t o
        rw [eN.2.2.1]; exact z3
      · rw [eN.1, eN.2.1]; exact z4

    have ptOk : ∀ (j e : Nat) (r : Sh), pe[j]? = some (e, r) → ρs.dom e ∧ ρs.sh e = r ∧ e < m.n := fun j e r hj => by
      obtain ⟨_, h1, kj, sj, pj, hj', h2, h3⟩ := hpx j e r hj
      obtain ⟨g1, g2⟩ := hR1.blk _ _ h2
      exact ⟨g1, g2.1.trans h3, h1⟩
    have vsOk : ∀ l : List (Nat × Sh), (∀ (j e : Nat) (r : Sh), l[j]? = some (e, r) → ρs.dom e ∧ ρs.sh e = r ∧ e < m.n) → All2 (VR1 ρ') (bs3 0 l) (l.map fun x => Value.pointer (some ⟨ρs.bb x.1, ρs.bo x.1, none⟩)) := fun l => by
      induction l with
      | nil => intro _; exact trivial
      | cons x l ih =>
        intro h
        obtain ⟨e, r⟩ := x
        obtain ⟨h1, h2, h3⟩ := h 0 e r rfl
        refine ⟨?_, ih fun j e' r' hj => h (j + 1) e' r' (by simpa using hj)⟩
        show VR1 ρ' (.pt (0 + e) [] r) _
        rw [Nat.zero_add]
        obtain ⟨q1, q2, q3, q4, _⟩ := same e h3 h1
        exact ⟨q1, q4.trans h2, r, 0, ⟨q4.trans h2, rfl⟩, by rw [q2, q3]; rfl⟩
    have gTl : ∀ i t, 0 < i → i < K.L → tl i = some t → plain t = true ∧ ρs.dom (τ i) ∧ H5 ρs A w' (τ i) (.cells t true) := fun i t h0 hl ht => by
      obtain ⟨q1, q2⟩ := htl i t h0 hl ht
      exact ⟨q1, hR1.blk _ _ q2⟩
    have cellNew : ∀ i t, i < K.L → (∀ x ∈ t.flat, plain x = true ∨ idsB (K.L + K.prs.length) x = true) → H5 ρs A w' (τ i) (.cells (renA τ t) true) → bf0 (ρs.by τ (K.L + K.prs.length)) w' i t := fun i t hi hids hb => by
      have hwt : t.wf := (cm9 τ t).1 hb.2.1
      obtain ⟨u1, u2, u3, u4, u5⟩ := H5.unrenC (n := K.L + K.prs.length) (A' := A) hids hwt hb (fun hwr x hx => by
        rw [hx]; exact (hb.2.2.2.2 rfl).1)
      obtain ⟨_, u6, u7⟩ := u5 rfl
      exact ⟨u1, u2, u3, u4, u6, u7⟩
    have hpl : pe.length = K.prs.length := by rw [← hpe]; simp
    have ownMain : K.own st (pe.map fun x => Value.pointer (some ⟨ρs.bb x.1, ρs.bo x.1, none⟩)) w' (ρs.bb a) (ρs.bo a) ft0 := by
      refine ⟨ρs.by τ (K.L + K.prs.length), root, tl, hlay, ⟨?_, ?_, ?_⟩, ?_, fun i t h0 hl ht => ?_, fun i j t t' h0 hl h0' hl' ht ht' hij => ?_, fun x hx => ?_, fun i hi => hi.1, by simp [hpl], fun j r hj => ?_⟩
      · show ρs.bb (τ 0) = _
        rw [t0]
      · show ρs.bo (τ 0) = _
        rw [t0]
      · refine ⟨by omega, ?_⟩
        rw [t0]; exact gd
      · refine cellNew 0 root hL hids ?_
        rw [t0]; exact gR
      · obtain ⟨q1, q2, q3⟩ := gTl i t h0 hl ht
        refine ⟨⟨by omega, q2⟩, cellNew i t hl (fun x hx => .inl (ax7 t q3.2.1 q1 x hx)) (by rw [Z8 τ t q1]; exact q3), fun e => ?_, (hft0 _).2 ⟨i, t, h0, hl, ht, rfl⟩⟩
        have e : ρs.bb (τ i) = ρs.bb a := e
        have hne : τ i ≠ a := fun h => by
          have := inj i 0 hl hL (.inr (by rw [ht]; simp)) (.inl rfl) (by rw [h, t0])
          omega
        exact hR1.sep _ _ _ _ (htl i t h0 hl ht).2 hroot hne rfl (ρs.bb (τ i)) rfl e
      · intro e
        have e : ρs.bb (τ i) = ρs.bb (τ j) := e
        have hne : τ i ≠ τ j := fun h => hij (inj i j hl hl' (.inr (by rw [ht]; simp)) (.inr (by rw [ht']; simp)) h)
        exact hR1.sep _ _ _ _ (htl i t h0 hl ht).2 (htl j t' h0' hl' ht').2 hne rfl (ρs.bb (τ i)) rfl e
      · obtain ⟨i, t, h0, hl, ht, rfl⟩ := (hft0 x).1 hx
        exact ⟨i, t, h0, hl, ht, rfl⟩
      · have hjl : j < pe.length := by rw [hpl]; exact (List.getElem?_eq_some_iff.1 hj).1
        have ej := List.getElem?_eq_getElem hjl
        have er : (pe[j]).2 = r := by
          rw [← hpe, List.getElem?_map, ej] at hj
          exact Option.some.inj hj
        obtain ⟨p1, p2, p3⟩ := ptOk j (pe[j]).1 (pe[j]).2 ej
        obtain ⟨tj, _⟩ := hpx j (pe[j]).1 (pe[j]).2 ej
        refine ⟨⟨by omega, by rw [tj]; exact p1⟩, ?_, ?_⟩
        · show ρs.sh (τ (K.L + j)) = r
          rw [tj, p2, er]
        · show _ = some (Value.pointer (some ⟨ρs.bb (τ (K.L + j)), ρs.bo (τ (K.L + j)), none⟩))
          rw [tj, List.getElem?_map, ej]; rfl
    have footMain : ∀ x, (x = ρs.bb a ∨ x ∈ ft0) → ∃ i t, i < K.L ∧ m1.get (τ i) = some (.cells t true) ∧ x = ρs.bb (τ i) ∧ m.n ≤ τ i := fun x hx => by
      rcases hx with rfl | hx
      · exact ⟨0, _, hL, by rw [t0]; exact hroot, by rw [t0], hnew 0 hL (.inl rfl)⟩
      · obtain ⟨i, t, h0, hl, ht, rfl⟩ := (hft0 x).1 hx
        exact ⟨i, t, hl, (htl i t h0 hl ht).2, rfl, hnew i hl (.inr (by rw [ht]; simp))⟩
    have hle : ∀ i b, i < m.n → m1.get i = some b → aa0 m.n b = true → ρ'.dom i ∧ H5 ρ' A w' i b := fun i b hi hb hids => by
      obtain ⟨g1, g2⟩ := hR1.blk _ _ hb
      refine ⟨.inl ⟨hi, g1⟩, ?_⟩
      have hwfb : ∀ t wr, b = .cells t wr → t.wf := fun t wr e => by subst e; exact g2.2.1
      have hid : renB id b = b := ca5 (g := id) (fun _ _ => rfl) hids
      have := H5.unren (ρ := ρs) (τ := id) (n := m.n) (A' := A) hids hwfb (by rw [hid]; exact g2) fun hwr x hx => g2.wrA hwr x (by rw [hid] at hx; exact hx)
      have hl2 : (ρs.by id m.n).le ρ' := ⟨fun k hk => .inl ⟨hk.1, hk.2⟩, fun k hk => if_pos hk.1, fun k hk => if_pos hk.1, fun k hk => if_pos hk.1, fun k hk => if_pos hk.1, fun k hk => if_pos hk.1⟩
      exact this.later ⟨hi, g1⟩ hl2 fun _ _ => rfl
    have fOld : ∀ i b x, i < m.n → m1.get i = some b → aa0 m.n b = true → b.foot ρ' i x → b.foot ρs i x := fun i b x hi hb hids hx => by
      cases b with
      | cells t wr => exact (show x = ρ'.bb i from hx).trans (if_pos hi)
      | map l => exact (show x = ρ'.bb i from hx).trans (if_pos hi)
      | obj kk ss pp hh =>
        simp only [aa0, Bool.and_eq_true, Nat.blt_eq] at hids
        have hx : x = ρ'.bb i ∨ x ∈ ρ'.ft hh := hx
        rw [show ρ'.bb i = ρs.bb i from if_pos hi, show ρ'.ft hh = ρs.ft hh from if_pos hids.2] at hx
        exact hx
      | rob kk ss pp hh =>
        simp only [aa0, Bool.and_eq_true, Nat.blt_eq] at hids
        have hx : x = ρ'.bb i ∨ x ∈ ρ'.ft hh := hx
        rw [show ρ'.bb i = ρs.bb i from if_pos hi, show ρ'.ft hh = ρs.ft hh from if_pos hids.2] at hx
        exact hx
    have hRep : Rep ρ' A m2 w' := by
      refine ⟨h2n.symm, fun id hid => ?_, fun id b hb => ?_, fun i j bi bj hi hj hij hw => ?_, fun b hb => hR1.new b hb, hR1.tab⟩
      · rcases hid with ⟨h, _⟩ | h | h
        · show id < m.n + 2; omega
        · show id < m.n + 2; omega
        · show id < m.n + 2; omega
      · rcases h2 id b hb with ⟨rfl, rfl⟩ | ⟨h3, h4, h5⟩
        · refine ⟨.inr (.inl rfl), ?_⟩
          refine ⟨?_, trivial, ⟨.inr (.inr rfl), _, vsOk pe ptOk, ?_⟩, fun x hx => ?_⟩
          · rw [hK]; exact eN.2.2.1.trans (gR.1.trans (by rw [ay3]; exact hsh))
          · rw [hK, eN.1, eN.2.1, eN.2.2.2]; exact ownMain
          · rw [eN.1, eN.2.2.2] at hx
            obtain ⟨i, t, _, hg, rfl, _⟩ := footMain x hx
            exact (hR1.blk _ _ hg).2.wrA rfl _ rfl
        · exact hle id b h3 h4 h5
      · have me : ∀ j bj x, j < m.n → m1.get j = some bj → aa0 m.n bj = true → (x = ρ'.bb m.n ∨ x ∈ ρ'.ft (m.n + 1)) → ¬ bj.foot ρ' j x := fun j bj x hj hb hids hx hx' => by
          rw [eN.1, eN.2.2.2] at hx
          obtain ⟨i, t, hi, hg, rfl, hge⟩ := footMain x hx
          exact hR1.sep _ _ _ _ hg hb (by omega) rfl _ rfl (fOld j bj _ hj hb hids hx')
        intro x hx hx'
        rcases h2 i bi hi with ⟨rfl, rfl⟩ | ⟨h3, h4, h5⟩ <;> rcases h2 j bj hj with ⟨rfl, rfl⟩ | ⟨h3', h4', h5'⟩
        · exact hij rfl
        · exact me j bj x h3' h4' h5' hx hx'
        · exact me i bi x h3 h4 h5 hx' hx
        · exact hR1.sep _ _ _ _ h4 h4' hij hw x (fOld i bi x h3 h4 h5 hx) (fOld j bj x h3' h4' h5' hx')
    exact ⟨ρ', hext', hRep, hU, hvv⟩
  rcases hS ρ A w vals hR ha with ⟨ρs, rv, w', nx, h1, h2, h3, h4, h5, h6⟩ | ⟨g, args', h1, h2⟩
  · obtain ⟨ρ', k1, k2, k3, k4⟩ := key h3 h4 h5 h6
    exact .inl ⟨ρ', rv, w', nx, h1, h2, k1, k2, k3, k4⟩
  · refine .inr ⟨g, args', h1, h2.mono fun e w' ⟨ρs, rv, g1, g2, g3, g4, g5⟩ => ?_⟩
    obtain ⟨ρ', k1, k2, k3, k4⟩ := key g2 g3 g4 g5
    exact ⟨ρ', rv, g1, k1, k2, k3, k4⟩
def getA (m : Mem) : List (Nat × Bk × Nat) → Option (List AV)
  | [] => some []
  | (i, w, h) :: r => match m.get i with
    | some b => (match w.of b, getA m r with
      | some v, some l => bif Nat.beq (dS7 b) h then some (v :: l) else none
      | _, _ => none)
    | none => none
def finA (N : Nat) (ids : List (Nat × Bk × Nat)) : AV → Mem → Option Out := fun v m => bif Nat.beq m.n N then (match getA m ids with
  | some l => some (true, .tup (v :: l))
  | none => none) else none
def putA : List (Nat × Bk × Nat) → List AV → Tr Blk → Tr Blk
  | (i, w, h) :: r, v :: l, t => putA r l (t.set (some (w.mk v h)) i)
  | _, _, t => t
def matA (N : Nat) (ids : List (Nat × Bk × Nat)) (l : List AV) : Mem := { n := N, t := putA ids l (Tr.mk 12) }
theorem dF6 {m : Mem} : ∀ {ids : List (Nat × Bk × Nat)} {l : List AV} {t : Tr Blk}, getA m ids = some l → ∀ {i : Nat} {b : Blk}, (putA ids l t).get i = some b → m.get i = some b ∨ t.get i = some b
  | [], l, t, h, i, b, hb => by cases h; exact .inr hb
  | (j, w, hn) :: r, l, t, h, i, b, hb => by
    simp only [getA] at h
    split at h <;> try (cases h; done)
    rename_i b0 hj
    split at h <;> try (cases h; done)
    rename_i v l' hw hr
    cases hq : Nat.beq (dS7 b0) hn with
    | false => rw [hq] at h; cases h
    | true =>
    rw [hq, cond_true] at h
    cases h
    simp only [putA] at hb
    rcases dF6 hr hb with h1 | h1
    · exact .inl h1
    · rcases Tr.get_set _ t j i b h1 with ⟨rfl, h2⟩ | ⟨_, h2⟩
      · rw [hj, Bk.of_ok hw, Nat.eq_of_beq_eq_true hq]
        exact .inl h2
      · exact .inr h2
theorem aw3 (hmix : P.follows .mixedOrders = true) {ok : List TypeId} (hok : Fair P ok) {pc : Pcs} (hpc : r0 P pc) {h : Hd} (hh : N6 P h) {ro : FuncId → Bool} {ov : Ov}
    {N : Nat} {st : Bool} {f : FuncId} {fn : Func} (hf : Plain P f fn) (ho : ∀ c, fn.body = some c → OvOk P ov c) {args : List AV} {m : Mem} {N' : Nat} {ids : List (Nat × Bk × Nat)} {v : AV} {l : List AV} {g : Bool}
    (he : evFn P ok pc h ro ov N st fn args m (finA N' ids) = some (g, .tup (v :: l))) (hg : g = true) : Small P f args m v (matA N' ids l) := by
  obtain ⟨v', m', h1, h2⟩ := ci9 hmix hok hpc hh hf ho he hg
  unfold finA at h1
  cases hn : Nat.beq m'.n N' with
  | false => rw [hn] at h1; cases h1
  | true =>
  rw [hn, cond_true] at h1
  split at h1 <;> try (cases h1; done)
  rename_i l' hl
  cases h1
  have hweak : ∀ {ρ : Ren} {A : Nat → Prop} {w : World}, Rep ρ A m' w → Rep ρ A (matA N' ids l) w := fun hR => hR.weak (Nat.eq_of_beq_eq_true hn).symm fun i b hb => by
    rcases dF6 hl hb with h | h
    · exact h
    · rw [Tr.get_mk] at h; cases h
  intro ρ A w vals hR ha
  rcases h2 ρ A w vals hR ha with ⟨ρ', rv, w', nx, g1, g2, g3, g4, g5, g6⟩ | ⟨f', args', g1, g2⟩
  · exact .inl ⟨ρ', rv, w', nx, g1, g2, g3, hweak g4, g5, g6⟩
  · exact .inr ⟨f', args', g1, g2.mono fun e w' ⟨ρ', rv, p1, p2, p3, p4, p5⟩ => ⟨ρ', rv, p1, p2, hweak p3, p4, p5⟩⟩
theorem Small.frame {f : FuncId} {args : List AV} {m m1 mE m1E : Mem} {v : AV} {ex : Nat → Blk → Prop} (hS : Small P f args m v m1) (hn : mE.n = m.n) (hn1 : m1E.n = m1.n)
    (hm : ∀ i b, m.get i = some b → mE.get i = some b) (hex : ∀ i b, ex i b → mE.get i = some b ∧ m.get i = none) (h1 : ∀ i b, m1E.get i = some b → m1.get i = some b ∨ ex i b) (hwr : ∀ i b, m1.get i = some b → b.wr = true) :
    Small P f args mE v m1E := by
  intro ρ A w vals hR ha
  let A' : Nat → Prop := fun x => A x ∧ ∀ i b, ex i b → ¬ b.foot ρ i x
  have hA' : ∀ x, A' x → A x := fun x h => h.1
  have hfar : ∀ i b j b', m.get i = some b → b.wr = true → ex j b' → ∀ x, b.foot ρ i x → ¬ b'.foot ρ j x := fun i b j b' hi hw hj x hx hx' => by
    obtain ⟨q1, q2⟩ := hex j b' hj
    exact hR.sep i j b b' (hm i b hi) q1 (fun e => by subst e; rw [hi] at q2; cases q2) hw x hx hx'
  have hR0 : Rep ρ A' m w := by
    refine ⟨hR.n.trans hn, hR.lt, fun id b hb => ?_, fun i j bi bj hi hj hij hw => hR.sep i j bi bj (hm i bi hi) (hm j bj hj) hij hw, fun x hx => ⟨hR.new x hx, fun i b hib hf => ?_⟩, hR.tab.mono fun x _ h => h.1⟩
    · obtain ⟨g1, g2⟩ := hR.blk id b (hm id b hb)
      exact ⟨g1, g2.free fun hw x hx => ⟨g2.wrA hw x hx, fun i b' hib => hfar id b i b' hb hw hib x hx⟩⟩
    · have := (hR.blk i b (hex i b hib).1).2.foot_lt x hf
      omega
  have key : ∀ {ρ' : Ren} {w' : World}, ρ.ext ρ' → Rep ρ' A' m1 w' → Upd A' w w' → Rep ρ' A m1E w' ∧ Upd A w w' := fun {ρ' w'} he hR1 hU => by
    have hexok : ∀ i b, ex i b → ρ'.dom i ∧ H5 ρ' A w' i b ∧ ∀ x, b.foot ρ' i x → ¬ A' x := fun i b hib => by
      have hb := hR.blk i b (hex i b hib).1
      refine ⟨he.dom i hb.1, hb.2.later hb.1 he.tole fun x hx => hU.old x (hb.2.foot_lt x hx) fun h => h.2 i b hib hx, fun x hx h => h.2 i b hib ((Blk.foot_le he.tole hb).1 hx)⟩
    refine ⟨⟨hR1.n.trans hn1.symm, hR1.lt, fun id b hb => ?_, fun i j bi bj hi hj hij hw => ?_, fun x hx => hR.new x (Nat.le_trans hU.size hx), hR.tab.later fun x hx hnA => hU.old x hx fun h => hnA h.1⟩, hU.mono fun x _ => hA' x⟩
    · rcases h1 id b hb with h | h
      · obtain ⟨g1, g2⟩ := hR1.blk id b h
        exact ⟨g1, g2.free fun hw x hx => (g2.wrA hw x hx).1⟩
      · obtain ⟨g1, g2, _⟩ := hexok id b h
        exact ⟨g1, g2⟩
    · intro x hx hx'
      rcases h1 i bi hi with h | h <;> rcases h1 j bj hj with h' | h'
      · exact hR1.sep i j bi bj h h' hij hw x hx hx'
      · exact (hexok j bj h').2.2 x hx' ((hR1.blk i bi h).2.wrA (hwr i bi h) x hx)
      · exact (hexok i bi h).2.2 x hx ((hR1.blk j bj h').2.wrA (hwr j bj h') x hx')
      · have q1 := hR.blk i bi (hex i bi h).1
        have q2 := hR.blk j bj (hex j bj h').1
        exact hR.sep i j bi bj (hex i bi h).1 (hex j bj h').1 hij hw x ((Blk.foot_le he.tole q1).1 hx) ((Blk.foot_le he.tole q2).1 hx')
  rcases hS ρ A' w vals hR0 ha with ⟨ρ', rv, w', nx, g1, g2, g3, g4, g5, g6⟩ | ⟨f', args', g1, g2⟩
  · obtain ⟨k1, k2⟩ := key g3 g4 g5
    exact .inl ⟨ρ', rv, w', nx, g1, g2, g3, k1, k2, g6⟩
  · refine .inr ⟨f', args', g1, g2.mono fun e w' ⟨ρ', rv, p1, p2, p3, p4, p5⟩ => ?_⟩
    obtain ⟨k1, k2⟩ := key p2 p3 p4
    exact ⟨ρ', rv, p1, p2, k1, k2, p5⟩
def roB : Blk → Blk
  | .cells t _ => .cells t false
  | .map l => .map l
  | .obj k st ps h => .rob k st ps h
  | .rob k st ps h => .rob k st ps h
theorem Small.reads {f : FuncId} {args0 args : List AV} {m0 m1 m : Mem} {v v' : AV} {τ : List Nat} (hS : Small P f args0 m0 v m1) (hn : m0.n = τ.length) (hargs : All2 (Like τ.length fun i => τ.getD i 0) args0 args)
    (hblk : ∀ i b, m0.get i = some b → i < τ.length ∧ b.wr = false ∧ aa0 τ.length b = true ∧ (∀ t wr, b = .cells t wr → t.wf ∨ plain t = true) ∧ ∃ b', m.get (τ.getD i 0) = some b' ∧ renB (fun i => τ.getD i 0) b = roB b')
    (hv : (plain v = true ∧ v' = v) ∨ ∃ id p r, v = .pt id p r ∧ id < τ.length ∧ v' = .pt (τ.getD id 0) p r) : ∀ (ρ : Ren) A w vals, Rep ρ A m w → All2 (VR3 ρ) args vals → Done P ρ A w (callFunc f vals.toArray) v' m := by
  intro ρ A w vals hR ha
  have hro : ∀ {id : Nat} {b : Blk}, H5 ρ A w id b → isMap b = false → H5 ρ (fun x => w.heap.size ≤ x) w id (roB b) := fun {id b} h hb => by
    cases b with
    | cells t wr => exact ⟨h.1, h.2.1, h.2.2.1, h.2.2.2.1, fun h => by cases h⟩
    | map l => cases hb
    | obj k st ps hh => exact ⟨h.1, h.2.1, h.2.2.1⟩
    | rob k st ps hh => exact h
  have hR0 : Rep (ρ.by (fun i => τ.getD i 0) τ.length) (fun x => w.heap.size ≤ x) m0 w := by
    refine ⟨hn.symm, fun id h => h.1, fun id b hb => ?_, fun i j bi bj hi hj hij hw => ?_, fun x h => h, hR.tab.mono fun x hlt h => by omega⟩
    · obtain ⟨h0, h1, h2, h3, b', h4, h5⟩ := hblk id b hb
      obtain ⟨g1, g2⟩ := hR.blk _ _ h4
      have hm : isMap b' = false := by
        cases b' with
        | map l =>
          cases b with
          | cells t wr => cases h5
          | map l => cases h2
          | obj k st ps hh => cases h5
          | rob k st ps hh => cases h5
        | _ => rfl
      have g3 := hro g2 hm
      rw [← h5] at g3
      refine ⟨⟨h0, g1⟩, H5.unren h2 (fun t wr e => ?_) g3 fun hwr => by rw [h1] at hwr; cases hwr⟩
      rcases h3 t wr e with h | h
      · exact h
      · subst e
        have := g3.2.1
        rw [Z8 _ t h] at this
        exact this
    · rw [(hblk i bi hi).2.1] at hw; cases hw
  have ha0 : All2 (VR3 (ρ.by (fun i => τ.getD i 0) τ.length)) args0 vals := hargs.swap ha fun a b c hab hbc => hab.ok hbc
  have key : ∀ {ρs : Ren} {w' : World} {rv : Value}, (ρ.by (fun i => τ.getD i 0) τ.length).ext ρs → Upd (fun x => w.heap.size ≤ x) w w' → VR3 ρs v rv → Rep ρ A m w' ∧ Upd A w w' ∧ VR3 ρ v' rv := fun {ρs w' rv} he hU hvr => by
    refine ⟨hR.later hU.size fun b hb => hU.old b hb (by omega), hU.mono fun i hi hA => by omega, ?_⟩
    rcases hv with ⟨h1, rfl⟩ | ⟨id, p, r, rfl, hid, rfl⟩
    · exact ao0 h1 hvr
    · obtain ⟨z1, z2, t, o, z3, z4⟩ := hvr
      have hd := he.old id z1 hid
      have e1 := he.sh id hd
      have e2 := he.bb id hd
      have e3 := he.bo id hd
      refine ⟨hd.2, (show ρ.sh (τ.getD id 0) = r by rw [← z2]; exact e1.symm), t, o, ?_, ?_⟩
      · show G5 (ρ.sh (τ.getD id 0)) p t o
        have : ρs.sh id = ρ.sh (τ.getD id 0) := e1
        rw [← this]; exact z3
      · have q2 : ρs.bb id = ρ.bb (τ.getD id 0) := e2
        have q3 : ρs.bo id = ρ.bo (τ.getD id 0) := e3
        rw [← q2, ← q3]; exact z4
  rcases hS _ _ w vals hR0 ha0 with ⟨ρs, rv, w', nx, h1, h2, h3, h4, h5, h6⟩ | ⟨g, args', h1, h2⟩
  · obtain ⟨k1, k2, k3⟩ := key h3 h5 h6
    exact .inl ⟨ρ, rv, w', nx, h1, h2, Ren.ext.refl ρ, k1, k2, k3⟩
  · refine .inr ⟨g, args', h1, h2.mono fun e w' ⟨ρs, rv, g1, g2, g3, g4, g5⟩ => ?_⟩
    obtain ⟨k1, k2, k3⟩ := key g2 g4 g5
    exact ⟨ρ, rv, g1, Ren.ext.refl ρ, k1, k2, k3⟩
end
end Go.Ev
set_option maxRecDepth 100000
set_option linter.unusedVariables false
namespace Go.Proofs.YtbkdnehnhbaieaaGreat.PV
open Go Go.Ev
noncomputable def dh5 (t : TypeId) (kd : IntKind) : GRow := fun args m => match args with
  | [.pt id path r] => (match aK3 Tryz.prog m t (.pt id path r) with
    | some (.it k n) => if k = kd then some (none, .it k n, m) else none
    | _ => none)
  | _ => none
noncomputable def cz9 (t : TypeId) (kd : IntKind) : GRow := fun args m => match args with
  | [.pt id path r, .it k n] => (match aK3 Tryz.prog m t (.pt id path r), aD8 Tryz.prog m t (.pt id path r) (.it k n) with
    | some (.it k' _), some m' => if k = kd ∧ k' = kd then some (none, .tup [], m') else none
    | _, _ => none)
  | _ => none
noncomputable def bI7 (t : TypeId) (kd : IntKind) : GRow := fun args m => match args with
  | [.pt id path r, .it k n] => (match aK3 Tryz.prog m t (.pt id path r) with
    | some (.it k' x) => if k = kd ∧ k' = kd then (match aD8 Tryz.prog m t (.pt id path r) (.it kd (iAdd kd x n)) with
      | some m' => some (none, .it kd (iAdd kd x n), m')
      | none => none) else none
    | _ => none)
  | _ => none
theorem pt_val {ρ : Ren} {id : Nat} {path : List PE} {r : Sh} {v : Value} (h : VR3 ρ (.pt id path r) v) : ∃ t o, ρ.dom id ∧ ρ.sh id = r ∧ G5 (ρ.sh id) path t o ∧ v = .pointer (some ⟨ρ.bb id, ρ.bo id + o, none⟩) := by
  obtain ⟨h1, h2, t, o, h3, h4⟩ := h
  exact ⟨t, o, h1, h2, h3, h4⟩
theorem dI8 (k : IntKind) (h : k.signed = false) (x : Int) : 0 ≤ k.wrap x := by
  unfold IntKind.wrap
  rw [h]
  simp
  exact Int.emod_nonneg _ (by cases k <;> decide)
theorem load_ok : ax2 Tryz.prog 93 (dh5 30 .u64) := fun args m c v m1 he _ => by
  unfold dh5 at he
  split at he <;> try (cases he; done)
  rename_i id path r
  split at he <;> try (cases he; done)
  rename_i k n hl
  split at he <;> try (cases he; done)
  rename_i hk
  subst hk
  cases he
  intro ρ A w vals hR ha
  match vals, ha with
  | [rv], ⟨ha, _⟩ =>
  obtain ⟨t, o, h1, h2, h3, rfl⟩ := pt_val ha
  have hc := ao4 hR hl h3
  obtain ⟨rv, g1, g2⟩ := cW2 hR hl ha
  refine .inl ⟨ρ, .int .u64 n, w, _, run_call_load (P := Tryz.prog) Tryz.func93 (by kernel_rfl) (by kernel_rfl) (by kernel_rfl) .u64 (by kernel_rfl) hc, .inl rfl, Ren.ext.refl ρ, hR, Upd.refl A w, ⟨rfl, g2.2⟩⟩
theorem store_ok : ax2 Tryz.prog 144 (cz9 30 .u64) := fun args m c v m1 he _ => by
  unfold cz9 at he
  split at he <;> try (cases he; done)
  rename_i id path r k n
  split at he <;> try (cases he; done)
  rename_i k' x m' hl hs
  split at he <;> try (cases he; done)
  rename_i hk
  obtain ⟨rfl, rfl⟩ := hk
  cases he
  intro ρ A w vals hR ha
  match vals, ha with
  | [rv, rn], ⟨ha, hn, _⟩ =>
  obtain ⟨t, o, h1, h2, h3, rfl⟩ := pt_val ha
  have hc := ao4 hR hl h3
  obtain ⟨hn1, hn2⟩ := hn
  subst hn1
  obtain ⟨k1, k2, k3⟩ := ah0 hR hs h3 h1 h2 hn2
  exact .inl ⟨ρ, .tuple #[], _, _, run_call_store (P := Tryz.prog) Tryz.func144 (by kernel_rfl) (by kernel_rfl) (by kernel_rfl) (by kernel_rfl) hc k3, .inl rfl, Ren.ext.refl ρ, k1, k2, ⟨#[], rfl, trivial⟩⟩
theorem add_ok : ax2 Tryz.prog 111 (bI7 2 .i64) := fun args m c v m1 he _ => by
  unfold bI7 at he
  split at he <;> try (cases he; done)
  rename_i id path r k n
  split at he <;> try (cases he; done)
  rename_i k' x hl
  split at he <;> try (cases he; done)
  rename_i hk
  obtain ⟨rfl, rfl⟩ := hk
  split at he <;> try (cases he; done)
  rename_i m' hs
  cases he
  intro ρ A w vals hR ha
  match vals, ha with
  | [rv, rn], ⟨ha, hn, _⟩ =>
  obtain ⟨t, o, h1, h2, h3, rfl⟩ := pt_val ha
  have hc := ao4 hR hl h3
  obtain ⟨hn1, hn2⟩ := hn
  subst hn1
  obtain ⟨k1, k2, k3⟩ := ah0 hR hs h3 h1 h2 (fun h => by cases h)
  exact .inl ⟨ρ, .int .i64 (iAdd .i64 x n), _, _, run_call_add (P := Tryz.prog) Tryz.func111 (by kernel_rfl) (by kernel_rfl) (by kernel_rfl) .i64 (by kernel_rfl) hc k3 (by simp [go_sem]; rfl), .inl rfl, Ren.ext.refl ρ, k1, k2, ⟨rfl, fun h => by cases h⟩⟩
noncomputable def atoms : List (FuncId × GRow) := [(93, dh5 30 .u64), (144, cz9 30 .u64), (111, bI7 2 .i64)]
theorem cI1 : GOk Tryz.prog atoms := ⟨load_ok, store_ok, add_ok, trivial⟩
end Go.Proofs.YtbkdnehnhbaieaaGreat.PV
set_option maxRecDepth 100000
set_option linter.unusedVariables false
namespace Go.Proofs.YtbkdnehnhbaieaaGreat.PV
noncomputable section
open Go Go.Ev
def memO (f : Nat → Int) (tip : Bool) : Mem := bc1 2 (.agg [.sl 1 [] 0 32768 tip]) (fun _ => some (byA 32768 f)) []
def memL : Lq := { n := 1, n0 := 2, ts := [0], mv := [], ids := [(0, .ce true), (1, .ce true)] }
noncomputable def evM (F : Func) (args : List AV) (f : Nat → Int) (tip : Bool) : Option Out := evFn Tryz.prog okT (m5 T80) NOH RO NOV 101 false F (.pt 0 [] E5 :: args) (memO f tip) (finQ memL)
def ak7 (a n : Int) : Bool := iNe (bp6 a n) 0
def memTo (a n : Int) : Int := iAdd .u64 a (g8 .u64 n)
def memCut (f : Nat → Int) (a n : Int) : List UInt8 := bytesOf (fun i => .it .u8 (f i)) (a.toNat + 0) ((memTo a n).toNat - a.toNat)
def cY8 (f : Nat → Int) (a n : Int) : Int := bif ak7 a n then 0 else cN9 (memCut f a n) 0 n
def ba8 (a n : Int) : Int := bif ak7 a n then bp6 a n else 0
def cV4 (f : Nat → Int) (a n : Int) : Bool :=
  ar4 a n && bif ak7 a n then true else (iLe 0 a && (iLe a (memTo a n) && iLe (memTo a n) 32768)) && (aS4 (memCut f a n) 0 n && true)
theorem de8 (f : Nat → Int) (tip : Bool) (a n : Int) : evM Tryz.f53 [.it .u64 a, .it .i64 n] f tip = some (cV4 f a n,
    .tup [.it .i64 0, .tup [.it .u64 (cY8 f a n), .it .i64 (ba8 a n)], .agg [.sl 1 [] 0 32768 tip], byA 32768 f]) := by
  have h : evM Tryz.f53 [.it .u64 a, .it .i64 n] f tip = some (cV4 f a n, .tup [.it .i64 (bif ak7 a n then 0 else 0),
    .tup [.it .u64 (cY8 f a n), .it .i64 (ba8 a n)],
    .agg [.sl 1 [] (bif ak7 a n then 0 else 0) (bif ak7 a n then 32768 else 32768) (bif ak7 a n then tip else tip)], .arr 32768 (.int .u8) fun i => .it .u8 (bif ak7 a n then f i else f i)]) := by kernel_rfl
  rw [h]
  unfold byA
  cases ak7 a n <;> rfl
def memCp (f : Nat → Int) (a : Int) (l : List UInt8) : Nat → Int := fun j => bif Nat.ble (a.toNat + 0) j && Nat.blt j (a.toNat + 0 + Nat.min l.length ((32768 : Int).toNat - a.toNat)) then ((l.getD (j - (a.toNat + 0)) 0).toNat : Int) else f j
def cb8 (f : Nat → Int) (a n v : Int) : Nat → Int := fun j => bif ak7 a n then f j else memCp f a (aW2 v n) j
def dF1 (a n v : Int) : Bool :=
  ar4 a n && bif ak7 a n then true else (iLe 0 a && (iLe a 32768 && iLe 32768 32768)) && (az3 v n && true)
theorem cW9 (f : Nat → Int) (tip : Bool) (a n v : Int) : evM Tryz.f48 [.it .u64 a, .it .i64 n, .it .u64 v] f tip = some (dF1 a n v,
    .tup [.it .i64 0, .it .i64 (ba8 a n), .agg [.sl 1 [] 0 32768 tip], byA 32768 (cb8 f a n v)]) := by
  have h : evM Tryz.f48 [.it .u64 a, .it .i64 n, .it .u64 v] f tip = some (dF1 a n v, .tup [.it .i64 (bif ak7 a n then 0 else 0), .it .i64 (ba8 a n),
    .agg [.sl 1 [] (bif ak7 a n then 0 else 0) (bif ak7 a n then 32768 else 32768) (bif ak7 a n then tip else tip)], .arr 32768 (.int .u8) fun j => .it .u8 (cb8 f a n v j)]) := by kernel_rfl
  rw [h]
  unfold byA
  cases ak7 a n <;> rfl
theorem bP0 {F : FuncId} {fn : Func} (hf : Plain Tryz.prog F fn) {args : List AV} (hargs : S4 args = true) {f f' : Nat → Int} (hf' : isBy f → isBy f') {v : AV} (hv : plain v = true) (hgd : isGd v = false) (hid : idOk 2 v = true) {g : Bool}
    (he : ∀ tip, evM fn args f tip = some (g, .tup [.it .i64 0, v, .agg [.sl 1 [] 0 32768 tip], byA 32768 f'])) (hg : g = true) :
    Small Tryz.prog F (.pt 0 [] E5 :: args) (objM 0 (byA 32768 f) [] 1) v (objM 0 (byA 32768 f') [] 2) := by
  refine Small.opened (k := 0) (X := []) (X' := []) (by decide) rfl (fun j kj sj ps h => by simp at h) ⟨rfl, fun j kj sj ps h => by simp at h⟩ (fun j kj sj ps h => by simp at h) (fun j r h => by (have h : ([] : List Sh)[j]? = some r := h); simp at h)
    (fun {st root tl} h => by obtain ⟨_, _, _, _, rfl, _⟩ := (show memK.lay st root tl from h); rfl) hargs fun root tl hlay hw _ => ?_
  obtain ⟨f0, tip, hby, hst, rfl, htl⟩ := (show memK.lay (byA 32768 f) root tl from hlay)
  have hff : ∀ i, f0 i = f i := fun i => by
    unfold byA at hst
    injection hst with _ _ hst
    have := congrFun hst i
    injection this with _ this
    exact this.symm
  have hff : f0 = f := funext hff
  subst hff
  have hm : bc1 (objK 0).L (.agg [.sl 1 [] 0 32768 tip]) tl [] = memO f0 tip := by
    show bc1 2 _ tl [] = bc1 2 _ _ []
    unfold bc1
    simp only [setT, htl]
  rw [hm]
  have hS := ag0 (P := Tryz.prog) mix A7 aB8 (E9) (ro := RO) (ov := NOV) (L := memL) hf (fun c _ => m7 c) (he tip) hg rfl rfl rfl (by
    show (idOk 2 v && true && okBs 2 _ _) = true
    rw [hid]
    rfl) hgd
  refine ⟨v, _, .agg [.sl 1 [] 0 32768 tip], fun _ => some (byA 32768 f'), id, hS, ⟨f', tip, hf' hby, rfl, rfl, rfl⟩, fun x hx => .inr (by cases List.mem_singleton.1 hx; rfl), rfl, fun j h => rfl, ?_, fun i t h0 hl ht => ?_, fun i j _ _ _ _ h => h, fun i j _ h => by simp at h, fun j kj sj ps h => by simp at h, .inl ⟨hv, rfl⟩⟩
  · rfl
  · have hi : i = 1 := by have : (objK 0).L = 2 := rfl; omega
    subst hi
    cases ht
    exact ⟨rfl, rfl⟩
end
end Go.Proofs.YtbkdnehnhbaieaaGreat.PV
set_option maxRecDepth 100000
set_option linter.unusedVariables false
namespace Go.Proofs.YtbkdnehnhbaieaaGreat.PV
noncomputable section
open Go Go.Ev
theorem cz8 {a n : Int} (ha : 0 ≤ a) (h : ak7 a n = false) : (n = 1 ∨ n = 2 ∨ n = 4 ∨ n = 8) ∧ a < 32768 ∧ a % n = 0 := by
  unfold ak7 at h
  rw [O7] at h
  unfold bp6 at h
  cases hc : P9 a n with
  | true => rw [hc] at h; cases h
  | false =>
  rw [hc, cond_false] at h
  have h2 : a < 32768 := by
    cases hl : iLe 32768 a with
    | true => rw [hl] at h; cases h
    | false => rw [aD1] at hl; exact hl
  unfold P9 at hc
  have h8 : n = 1 ∨ n = 2 ∨ n = 4 ∨ n = 8 := by
    cases h1 : iNe n 1 with
    | false => rw [O7] at h1; exact .inl h1
    | true =>
    cases h2 : iNe n 2 with
    | false => rw [O7] at h2; exact .inr (.inl h2)
    | true =>
    cases h4 : iNe n 4 with
    | false => rw [O7] at h4; exact .inr (.inr (.inl h4))
    | true =>
    cases h8 : iNe n 8 with
    | false => rw [O7] at h8; exact .inr (.inr (.inr h8))
    | true => rw [h1, h2, h4, h8] at hc; cases hc
  refine ⟨h8, h2, ?_⟩
  have e : iNe (iRem a (g8 .u64 n)) 0 = false := by
    rcases h8 with rfl | rfl | rfl | rfl <;> exact hc
  rw [O7] at e
  have ec : g8 .u64 n = n := by rcases h8 with rfl | rfl | rfl | rfl <;> rfl
  rw [ec] at e
  unfold iRem at e
  rw [Int.tmod_eq_emod_of_nonneg ha] at e
  exact e
theorem bk5 (a n : Int) : ar4 a n = true := by
  unfold ar4
  have h2 : (bif P9 a n then true else bif iLe 32768 a then true else true) = true := by
    cases P9 a n <;> cases iLe 32768 a <;> rfl
  rw [h2, Bool.and_true]
  cases h1 : iNe n 1 with
  | false => rw [O7] at h1; subst h1; rfl
  | true =>
  cases h2 : iNe n 2 with
  | false => rw [O7] at h2; subst h2; rfl
  | true =>
  cases h4 : iNe n 4 with
  | false => rw [O7] at h4; subst h4; rfl
  | true =>
  cases h8 : iNe n 8 with
  | false => rw [O7] at h8; subst h8; rfl
  | true => rfl
theorem ci5 (l : List UInt8) (n : Int) : aS4 l 0 n = true := by
  unfold aS4
  have h1 : iLe 0 (iMin (iMax n 0) 8) = true := by
    rw [J1, aO5, aD6]; split <;> split <;> omega
  have h2 : iLe (iMin (iMax n 0) 8) 8 = true := by
    rw [J1, aO5, aD6]; split <;> split <;> omega
  have h3 : iLe 0 (sLen l) = true := by rw [J1]; unfold sLen; omega
  have h4 : iLe (sLen l) (sLen l) = true := by rw [J1]; omega
  rw [h1, h2, h3, h4]
  cases iLt 0 (sLen l) <;> rfl
theorem bytes_ok (v n : Int) : az3 v n = true := by
  unfold az3
  have h1 : iLe 0 (iMin (iMax n 0) 8) = true := by
    rw [J1, aO5, aD6]; split <;> split <;> omega
  have h2 : iLe (iMin (iMax n 0) 8) 8 = true := by
    rw [J1, aO5, aD6]; split <;> split <;> omega
  rw [h1, h2]; rfl
theorem memTo_eq {a n : Int} (ha : 0 ≤ a) (h : ak7 a n = false) : memTo a n = a + n := by
  obtain ⟨h8, hl, _⟩ := cz8 ha h
  have ec : g8 .u64 n = n := by rcases h8 with rfl | rfl | rfl | rfl <;> rfl
  unfold memTo iAdd
  rw [ec]
  simp [IntKind.wrap, IntKind.bits, IntKind.signed]
  omega
theorem dJ1 (f : Nat → Int) {a : Int} (n : Int) (ha : 0 ≤ a) : cV4 f a n = true := by
  unfold cV4
  rw [bk5, ci5, Bool.true_and, Bool.and_true, Bool.and_true]
  cases h : ak7 a n with
  | true => rfl
  | false =>
    obtain ⟨h8, hl, hm⟩ := cz8 ha h
    rw [cond_false, memTo_eq ha h, Bool.and_eq_true, Bool.and_eq_true, J1, J1, J1]
    rcases h8 with rfl | rfl | rfl | rfl <;> omega
theorem memWr_ok {a : Int} (n v : Int) (ha : 0 ≤ a) : dF1 a n v = true := by
  unfold dF1
  rw [bk5, bytes_ok, Bool.true_and, Bool.and_true, Bool.and_true]
  cases h : ak7 a n with
  | true => rfl
  | false =>
    obtain ⟨h8, hl, hm⟩ := cz8 ha h
    rw [cond_false, Bool.and_eq_true, Bool.and_eq_true, J1, J1]
    exact ⟨ha, by omega, rfl⟩
theorem dF7 {f : Nat → Int} (a n v : Int) (h : isBy f) : isBy (cb8 f a n v) := fun j => by
  unfold cb8 memCp
  cases ak7 a n with
  | true => exact h j
  | false =>
    rw [cond_false]
    generalize (Nat.ble (a.toNat + 0) j && Nat.blt j (a.toNat + 0 + Nat.min (aW2 v n).length ((32768 : Int).toNat - a.toNat))) = c
    cases c with
    | true =>
      rw [cond_true]
      have := ((aW2 v n).getD (j - (a.toNat + 0)) 0).toNat_lt
      omega
    | false => exact h j
def ce0 (shs : List Sh) (V : (Nat → AV) → (Nat → Int) → AV) (W : (Nat → AV) → (Nat → Int) → Nat → Int) : MRow := fun args m => match args with
  | .pt id [] r :: rest => bif r.beq E5 && Sh.beqs (AV.shapes rest) shs then
      (match m.get id with
      | some (.obj k st [] h) => bif Nat.beq k 0 && !Nat.beq id h then
          some (none, [id, h], V (fun i => rest.getD i .un) (fun i => (st.ix i).num), objM 0 (byA 32768 (W (fun i => rest.getD i .un) fun i => (st.ix i).num)) [] 2) else none
      | _ => none) else none
  | _ => none
def posA : AV → Prop
  | .it k n => k.signed = false → 0 ≤ n
  | _ => True
theorem pos_of {ρ : Ren} {a : AV} {v : Value} (h : VR3 ρ a v) : posA a := by
  cases a <;> first | trivial | exact h.2
theorem pos_all {ρ : Ren} : ∀ {l : List AV} {vs : List Value}, All2 (VR3 ρ) l vs → ∀ a ∈ l, posA a
  | [], _, _, a, h => by cases h
  | b :: l, [], h, _, _ => h.elim
  | b :: l, v :: vs, h, a, ha => by
    rcases List.mem_cons.1 ha with rfl | ha
    · exact pos_of h.1
    · exact pos_all h.2 a ha
theorem Small.of_args {f : FuncId} {args : List AV} {m m' : Mem} {v : AV} (h : AV.wfs args → (∀ a ∈ args, posA a) → Small Tryz.prog f args m v m') : Small Tryz.prog f args m v m' :=
  fun ρ A w vals hR ha => h ha.wfs (fun a h => pos_all ha a h) ρ A w vals hR ha
theorem Small.of_own {f : FuncId} {args : List AV} {m m' : Mem} {v : AV} {id k h : Nat} {st : AV} {ps : List AV} (hm : m.get id = some (.obj k st ps h)) (hh : (∃ root tl, (objK k).lay st root tl) → Small Tryz.prog f args m v m') : Small Tryz.prog f args m v m' :=
  fun ρ A w vals hR ha => by
    obtain ⟨_, _, _, ⟨_, vs, _, hown⟩, _⟩ := hR.blk id _ hm
    obtain ⟨_, root, tl, hl, _⟩ := hown
    exact hh ⟨root, tl, hl⟩ ρ A w vals hR ha
theorem cf2 {F : FuncId} {shs : List Sh} {V : (Nat → AV) → (Nat → Int) → AV} {W : (Nat → AV) → (Nat → Int) → Nat → Int} (hshs : Sh.hasRef.Sh.hasRefs shs = false) (hV : ∀ g f, plain (V g f) = true ∧ okV (V g f) = true)
    (h : ∀ g f, (∀ a ∈ r7 shs 0 g, posA a) → isBy f → Small Tryz.prog F (.pt 0 [] E5 :: r7 shs 0 g) (objM 0 (byA 32768 f) [] 1) (V g f) (objM 0 (byA 32768 (W g f)) [] 2)) : aa3 Tryz.prog F (ce0 shs V W) := fun args m c τ v m1 he _ => by
  unfold ce0 at he
  split at he <;> try (cases he; done)
  rename_i id r rest
  cases hb : r.beq E5 && Sh.beqs (AV.shapes rest) shs with
  | false => rw [hb] at he; cases he
  | true =>
  rw [hb, cond_true] at he
  simp only [Bool.and_eq_true] at hb
  have hr := Sh.beq_eq _ _ hb.1
  have hs := Sh.beqs_eq _ _ hb.2
  subst hr
  split at he <;> try (cases he; done)
  rename_i k st hh hm
  cases hb2 : Nat.beq k 0 && !Nat.beq id hh with
  | false => rw [hb2] at he; cases he
  | true =>
  rw [hb2, cond_true] at he
  cases he
  simp only [Bool.and_eq_true, Nat.beq_eq, Bool.not_eq_true'] at hb2
  obtain ⟨rfl, hne⟩ := hb2
  have hne : id ≠ hh := fun e => by subst e; simp at hne
  refine ⟨.pt 0 [] E5 :: rest, objM 0 st [] 1, Small.of_args fun w1 w2 => Small.of_own (m := objM 0 st [] 1) (id := 0) (k := 0) rfl fun ⟨root, tl, hl⟩ => ?_, ⟨by simp [hne], rfl, ⟨.inr (.inl ⟨0, [], E5, rfl, rfl, Nat.succ_pos 1⟩), ag7 (aq9 rest (by rw [hs]; exact hshs))⟩, fun i b hb => ?_⟩, by show 2 ≤ 3; omega, (hV _ _).2, fun i b hb => ?_⟩
  · obtain ⟨f, tip, hby, rfl, _, _⟩ := (show memK.lay st root tl from hl)
    have e1 : r7 shs 0 (fun i => rest.getD i .un) = rest := aK5 shs rest 0 _ w1.2 hs fun j => by simp
    have := h (fun i => rest.getD i .un) f (fun a ha => w2 a (List.mem_cons_of_mem _ (by rw [e1] at ha; exact ha))) hby
    rw [e1] at this
    exact this
  · rcases aB1 hb with ⟨rfl, rfl⟩ | ⟨j, kj, sj, ps, hj, _, _⟩
    · exact ⟨Nat.succ_pos 1, rfl, (fun t wr e => by cases e), hm⟩
    · simp at hj
  · rcases aB1 hb with ⟨rfl, rfl⟩ | ⟨j, kj, sj, ps, hj, _, _⟩
    · exact ⟨by show 0 < 3; omega, rfl, fun h => by cases h⟩
    · simp at hj
theorem readP : Plain Tryz.prog 53 Tryz.f53 := ⟨Tryz.func53, of_decide_eq_true (by kernel_rfl)⟩
theorem writeP : Plain Tryz.prog 48 Tryz.f48 := ⟨Tryz.func48, of_decide_eq_true (by kernel_rfl)⟩
def cL1 : MRow := ce0 [.int .u64, .int .i64] (fun g f => .tup [.it .u64 (cY8 f (g 0).num (g 1).num), .it .i64 (ba8 (g 0).num (g 1).num)]) (fun g f => f)
def aX0 : MRow := ce0 [.int .u64, .int .i64, .int .u64] (fun g f => .it .i64 (ba8 (g 0).num (g 1).num)) (fun g f => cb8 f (g 0).num (g 1).num (g 2).num)
theorem dS1 : aa3 Tryz.prog 53 cL1 := cf2 rfl (fun _ _ => ⟨rfl, rfl⟩) fun g f hp hf =>
  bP0 readP rfl (fun h => h) rfl rfl rfl (fun tip => de8 f tip (g 0).num (g 1).num) (dJ1 f _ (hp _ List.mem_cons_self rfl))
theorem bB4 : aa3 Tryz.prog 48 aX0 := cf2 rfl (fun _ _ => ⟨rfl, rfl⟩) fun g f hp hf =>
  bP0 writeP rfl (fun h => dF7 _ _ _ h) rfl rfl rfl (fun tip => cW9 f tip (g 0).num (g 1).num (g 2).num) (memWr_ok _ _ (hp _ List.mem_cons_self rfl))
end
end Go.Proofs.YtbkdnehnhbaieaaGreat.PV
set_option maxRecDepth 100000
set_option linter.unusedVariables false
namespace Go.Proofs.YtbkdnehnhbaieaaGreat.PV
noncomputable section
open Go Go.Ev
theorem Small.bare {f : FuncId} {r : Sh} {rest : List AV} {v : AV} (hS : Small Tryz.prog f (.pt 0 [] r :: rest) { n := 1, t := Tr.mk 12 } v { n := 1, t := Tr.mk 12 }) (hr : S4 rest = true) (hk : okV v = true) (m : Mem) (id : Nat) :
    Small Tryz.prog f (.pt id [] r :: rest) m (renV [id] m.n v) m := by
  have hno : ∀ (i : Nat) (b : Blk), ¬ (Mem.get { n := 1, t := Tr.mk 12 } i = some b) := fun i b h => by
    have h : (Tr.mk 12 : Tr Blk).get i = some b := h
    rw [Tr.get_mk] at h; cases h
  have hno' : ∀ (N i : Nat) (b : Blk), ¬ (Mem.get { n := N, t := Tr.mk 12 } i = some b) := fun N i b h => by
    have h : (Tr.mk 12 : Tr Blk).get i = some b := h
    rw [Tr.get_mk] at h; cases h
  have h1 := hS.great (m := { n := m.n, t := Tr.mk 12 }) (τ := [id]) (args := .pt id [] r :: rest)
    ⟨by simp, rfl, ⟨.inr (.inl ⟨0, [], r, rfl, rfl, Nat.one_pos⟩), ag7 hr⟩, fun i b h => absurd h (hno i b)⟩ ⟨Nat.le_refl _, hk, fun i b h => absurd h (hno i b)⟩
  have hout : ∀ i b, ¬ ((cx2 { n := m.n, t := Tr.mk 12 } [id] { n := 1, t := Tr.mk 12 }).get i = some b) := fun i b h => by
    rcases cC9 _ _ i b h with ⟨j, b0, h1, _⟩ | h2
    · simp at h1
    · rcases cK0 [id] 0 _ i b (by simp) h2 with ⟨j, b0, _, h3, _⟩ | ⟨_, h3⟩
      · exact hno _ _ h3
      · exact hno' _ _ _ h3
  exact Small.frame (ex := fun i b => m.get i = some b) h1 rfl (by show m.n = m.n + (1 - 1); omega) (fun i b h => absurd h (hno' _ i b)) (fun i b h => ⟨h, by show (Tr.mk 12 : Tr Blk).get i = none; rw [Tr.get_mk]⟩) (fun i b h => .inr h) fun i b h => absurd h (hout i b)
def cT7 (a n : Int) : Bool := bif (bif iNe n 1 then true else iLt a 61696) then true else iNe (iRem (iSub .u64 a 61696) 256) 0
def aW6 (a : Int) : Int := iQuo .u64 (iSub .u64 a 61696) 256
def aN5 (a n : Int) : Bool := cT7 a n || iLe 4 (aW6 a)
noncomputable def HC : Hd := inlO Tryz.prog okT (m5 T80) RO [73] 400 ST (fun h => h) 8
theorem HC_ok : N6 Tryz.prog HC := o9 mix A7 aB8 (aA8 (by kernel_rfl)) (fun h hh => hh) 8
def consG (a n : Int) : Bool := ((!!bif iNe n 1 then true else iLt a 61696) || true) && bif cT7 a n then true else bif iLe 4 (aW6 a) then true else iIn (aW6 a) 4 && true
theorem cons_ev (a n : Int) : evFn Tryz.prog okT (m5 T80) HC RO NOV 101 false Tryz.f52 [.pt 0 [] J6, .it .u64 a, .it .i64 n] { n := 1, t := Tr.mk 12 } (finA 1 []) =
    some (consG a n, .tup [mrg (cT7 a n) .nl (mrg (iLe 4 (aW6 a)) .nl (.pt 0 [.fld 3, .idx (aW6 a).toNat] J6))]) := by kernel_rfl
theorem dB7 : Plain Tryz.prog 52 Tryz.f52 := ⟨Tryz.func52, of_decide_eq_true (by kernel_rfl)⟩
theorem cons_not {a n : Int} (h : aN5 a n = true) : Small Tryz.prog 52 [.pt 0 [] J6, .it .u64 a, .it .i64 n] { n := 1, t := Tr.mk 12 } .nl { n := 1, t := Tr.mk 12 } := by
  have he := cons_ev a n
  have hv : mrg (cT7 a n) .nl (mrg (iLe 4 (aW6 a)) .nl (.pt 0 [.fld 3, .idx (aW6 a).toNat] J6)) = .nl := by
    unfold aN5 at h
    rw [aE3, aE3]
    cases hc : cT7 a n with
    | true => rfl
    | false => rw [hc, Bool.false_or] at h; rw [h]; rfl
  rw [hv] at he
  refine aw3 mix A7 aB8 HC_ok dB7 (fun c _ => m7 c) he ?_
  unfold consG
  rw [Bool.or_true, Bool.true_and]
  unfold aN5 at h
  cases hc : cT7 a n with
  | true => rfl
  | false => rw [hc, Bool.false_or] at h; rw [h]; rfl
noncomputable def nilRow : GRow := fun args m => match args with
  | [.pt id [] r, .it .u64 a, .it .i64 n] => bif r.beq J6 then some (some (aN5 a n), .nl, m) else none
  | _ => none
theorem nilRow_ok : ax2 Tryz.prog 52 nilRow := fun args m c v m1 he hc => by
  unfold nilRow at he
  split at he <;> try (cases he; done)
  rename_i id r a n
  cases hb : r.beq J6 with
  | false => rw [hb] at he; cases he
  | true =>
  rw [hb, cond_true] at he
  have := Sh.beq_eq _ _ hb
  subst this
  cases he
  rcases hc with hc | hc
  · cases hc
  · injection hc with hc
    exact Small.bare (cons_not hc) rfl rfl m id
theorem dev_ev (a : Int) : evFn Tryz.prog okT (m5 T80) NOH RO NOV 101 false Tryz.f228 [.pt 0 [] J6, .it .u64 a] { n := 1, t := Tr.mk 12 } (finA 1 []) = some (true, .tup [.bl (bif iLe 61440 a then iLt a 62720 else false)]) := by kernel_rfl
noncomputable def cv5 : GRow := fun args m => match args with
  | [.pt id [] r, .it .u64 a] => bif r.beq J6 then some (none, .bl (bif iLe 61440 a then iLt a 62720 else false), m) else none
  | _ => none
theorem cO2 : ax2 Tryz.prog 228 cv5 := fun args m c v m1 he hc => by
  unfold cv5 at he
  split at he <;> try (cases he; done)
  rename_i id r a
  cases hb : r.beq J6 with
  | false => rw [hb] at he; cases he
  | true =>
  rw [hb, cond_true] at he
  have := Sh.beq_eq _ _ hb
  subst this
  cases he
  exact Small.bare (aw3 mix A7 aB8 E9 ⟨Tryz.func228, of_decide_eq_true (by kernel_rfl)⟩ (fun c _ => m7 c) (dev_ev a) rfl) rfl rfl m id
noncomputable def busRows : List (FuncId × GRow) := (52, nilRow) :: (228, cv5) :: atoms
noncomputable def HB : Hd := inlO Tryz.prog okT (m5 T80) RO [51, 85] 400 ST (fun _ => hGr busRows (hMem [(53, cL1), (48, aX0)] NOH)) 8
def busO (time alarm : Int) (P : Nat → AV) (f : Nat → Int) : Mem := { n := 7, t := ((Tr.mk 12).set (some (.cells (busR time alarm P) true)) 0).set (some (.obj 0 (byA 32768 f) [] 6)) 5 }
def bk : Nat × Bk × Nat := (0, .ce true, 0)
def mk (h : Nat) : Nat × Bk × Nat := (5, .ob 0 [], h)
noncomputable def evB (F : Func) (args : List AV) (m : Mem) (K : AV → Mem → Option Out) : Option Out := evFn Tryz.prog okT (m5 T80) HB RO NOV 101 false F (.pt 0 [] J6 :: args) m K
theorem dH7 (c : Bool) (P : Nat → AV) : (fun i => mrg c (P i) (P i)) = P := by
  funext i
  rw [aE3, Bool.cond_self]
theorem du5 (time alarm : Int) (P : Nat → AV) (f : Nat → Int) : evB Tryz.f17 [.it .u64 61440, .it .i64 8] (busO time alarm P f) (finA 7 [bk, mk 6]) = some (true, .tup [.tup [.it .u64 time, .bl true], busR time alarm P, byA 32768 f]) := by
  have h : evB Tryz.f17 [.it .u64 61440, .it .i64 8] (busO time alarm P f) (finA 7 [bk, mk 6]) = some (true, .tup [.tup [.it .u64 time, .bl true], busR time alarm (fun i => mrg true (P i) (P i)), byA 32768 f]) := by kernel_rfl
  rw [h, dH7]
theorem dp7 (time alarm : Int) (P : Nat → AV) (f : Nat → Int) : evB Tryz.f17 [.it .u64 61448, .it .i64 8] (busO time alarm P f) (finA 7 [bk, mk 6]) = some (true, .tup [.tup [.it .u64 alarm, .bl true], busR time alarm P, byA 32768 f]) := by
  have h : evB Tryz.f17 [.it .u64 61448, .it .i64 8] (busO time alarm P f) (finA 7 [bk, mk 6]) = some (true, .tup [.tup [.it .u64 alarm, .bl true], busR time alarm (fun i => mrg false (P i) (P i)), byA 32768 f]) := by kernel_rfl
  rw [h, dH7]
def isTm (a n : Int) : Bool := bif iEq a 61440 then iEq n 8 else false
def isAl (a n : Int) : Bool := bif iEq a 61448 then iEq n 8 else false
theorem bread_mem (time alarm : Int) (P : Nat → AV) (f : Nat → Int) (a n : Int) : evB Tryz.f17 [.it .u64 a, .it .i64 n] (busO time alarm P f) (finA 8 [bk, mk 7]) =
    some ((!isTm a n) && ((!isAl a n) && (aN5 a n && true)), .tup [.tup [.it .u64 (cY8 f a n), .bl (iEq (ba8 a n) 0)], busR time alarm P, byA 32768 f]) := by kernel_rfl
def O4 (p : Nat) (a n : Int) : Bool := !cT7 a n && iEq (aW6 a) p
theorem cons_at {a n : Int} {p : Nat} (hp : p < 4) (h : O4 p a n = true) : Small Tryz.prog 52 [.pt 0 [] J6, .it .u64 a, .it .i64 n] { n := 1, t := Tr.mk 12 } (.pt 0 [.fld 3, .idx p] J6) { n := 1, t := Tr.mk 12 } := by
  have he := cons_ev a n
  unfold O4 at h
  simp only [Bool.and_eq_true, Bool.not_eq_true', O2] at h
  obtain ⟨h1, h2⟩ := h
  have h3 : iLe 4 (aW6 a) = false := by rw [h2, aD1]; omega
  have hv : mrg (cT7 a n) .nl (mrg (iLe 4 (aW6 a)) .nl (.pt 0 [.fld 3, .idx (aW6 a).toNat] J6)) = .pt 0 [.fld 3, .idx p] J6 := by
    rw [aE3, aE3, h1, h3, h2]
    simp
  rw [hv] at he
  refine aw3 mix A7 aB8 HC_ok dB7 (fun c _ => m7 c) he ?_
  unfold consG
  have h4 : iIn (aW6 a) 4 = true := by rw [h2, V8]; omega
  rw [Bool.or_true, Bool.true_and, h1, h3, h4]
  rfl
noncomputable def cF3 (p : Nat) : GRow := fun args m => match args with
  | [.pt id [] r, .it .u64 a, .it .i64 n] => bif r.beq J6 then some (some (O4 p a n), .pt id [.fld 3, .idx p] J6, m) else none
  | _ => none
theorem dL8 {p : Nat} (hp : p < 4) : ax2 Tryz.prog 52 (cF3 p) := fun args m c v m1 he hc => by
  unfold cF3 at he
  split at he <;> try (cases he; done)
  rename_i id r a n
  cases hb : r.beq J6 with
  | false => rw [hb] at he; cases he
  | true =>
  rw [hb, cond_true] at he
  have := Sh.beq_eq _ _ hb
  subst this
  cases he
  rcases hc with hc | hc
  · cases hc
  · injection hc with hc
    exact Small.bare (cons_at hp hc) rfl rfl m id
noncomputable def HB2 (p : Nat) : Hd := inlO Tryz.prog okT (m5 T80) RO [51, 85] 400 ST (fun _ => hGr ((52, cF3 p) :: atoms) (hMem [(53, cL1), (48, aX0)] NOH)) 8
theorem memM_ok : MOk Tryz.prog [(53, cL1), (48, aX0)] := ⟨dS1, bB4, trivial⟩
theorem consG_ok {p : Nat} (hp : p < 4) : GOk Tryz.prog ((52, cF3 p) :: atoms) := ⟨dL8 hp, cI1⟩
theorem busG_ok : GOk Tryz.prog busRows := ⟨nilRow_ok, cO2, cI1⟩
theorem bQ1 {p : Nat} (hp : p < 4) : N6 Tryz.prog (HB2 p) := o9 mix A7 aB8 (aA8 (by kernel_rfl)) (fun h hh => au3 (ap2 E9 memM_ok) (consG_ok hp)) 8
theorem dX2 : N6 Tryz.prog HB := o9 mix A7 aB8 (aA8 (by kernel_rfl)) (fun h hh => au3 (ap2 E9 memM_ok) busG_ok) 8
noncomputable def evB2 (p : Nat) (F : Func) (args : List AV) (m : Mem) (K : AV → Mem → Option Out) : Option Out := evFn Tryz.prog okT (m5 T80) (HB2 p) RO NOV 101 false F (.pt 0 [] J6 :: args) m K
def Q6 (vo : Nat → AV) : Nat → AV := fun p => .agg [.nsl, vo p, .it .i64 0]
theorem cR0 (time alarm : Int) (P : Nat → AV) (f : Nat → Int) (v : Int) : evB Tryz.f229 [.it .u64 61448, .it .i64 8, .it .u64 v] (busO time alarm P f) (finA 7 [bk, mk 6]) = some (true, .tup [.bl true, busR time v P, byA 32768 f]) := by kernel_rfl
theorem dX1 (time alarm : Int) (P : Nat → AV) (f : Nat → Int) (a n v : Int) : evB Tryz.f229 [.it .u64 a, .it .i64 n, .it .u64 v] (busO time alarm P f) (finA 8 [bk, mk 7]) =
    some ((!isAl a n) && (aN5 a n && true), .tup [.bl (iEq (ba8 a n) 0), busR time alarm P, byA 32768 (cb8 f a n v)]) := by kernel_rfl
end
end Go.Proofs.YtbkdnehnhbaieaaGreat.PV
set_option maxRecDepth 100000
set_option linter.unusedVariables false
namespace Go.Proofs.YtbkdnehnhbaieaaGreat.PV
noncomputable section
open Go Go.Ev
def N2 (vo : Nat → AV) (p : Nat) (x : AV) : Nat → AV := fun q => bif Nat.beq q p then .agg [.nsl, x, .it .i64 0] else Q6 vo q
theorem dI5 (vo : Nat → AV) (p : Nat) : N2 vo p (vo p) = Q6 vo := by
  funext q
  unfold N2
  cases h : Nat.beq q p with
  | false => rfl
  | true =>
    have := Nat.eq_of_beq_eq_true h
    subst this
    rfl
def putP (P : Nat → AV) (p : Nat) (x : AV) : Nat → AV := fun j => sel (j == p) (.agg [.nsl, x, .it .i64 0]) (P j)
def one1 (v : Int) : Nat → AV := fun j => sel (j == 0) (.it .u8 (g8 .u8 v)) (.it .u8 0)
def bytA (g : Nat → Int) : Nat → AV := fun i => .it .u8 (g i)
def br6 (len : Nat) : Nat := (iMax (iSub .i64 ((len + 1 : Nat) : Int) 64) 0).toNat
def app1 (len lo : Nat) (g : Nat → Int) (v : Int) : AV := .arr (len + 1) (.int .u8) (joined len (fun j => bytA g (j + lo)) (fun j => one1 v (j + 0)))
theorem dh9 (time alarm : Int) (vo : Nat → AV) (f : Nat → Int) (a n : Int) : evB2 0 Tryz.f17 [.it .u64 a, .it .i64 n] (busO time alarm (Q6 vo) f) (finA 7 [bk, mk 6]) =
    some (bif isTm a n then true else bif isAl a n then true else O4 0 a n && true, .tup [.tup [.it .u64 (bif isTm a n then time else bif isAl a n then alarm else 0), .bl (bif isTm a n then true else bif isAl a n then true else true)], busR (bif isTm a n then time else bif isAl a n then time else time) (bif isTm a n then alarm else bif isAl a n then alarm else alarm) (fun i => mrg (isTm a n) (Q6 vo i) (mrg (isAl a n) (Q6 vo i) (Q6 vo i))), .arr 32768 (.int .u8) fun i => .it .u8 (bif isTm a n then f i else bif isAl a n then f i else f i)]) := by kernel_rfl
theorem bw_nil0 (time alarm : Int) (vo : Nat → AV) (f : Nat → Int) (a n v : Int) : evB2 0 Tryz.f229 [.it .u64 a, .it .i64 n, .it .u64 v] (busO time alarm (N2 vo 0 .nsl) f) (finA 9 [bk, mk 6, (8, .ce true, 0)]) =
    some (!isAl a n && (O4 0 a n && true), .tup [.bl true, busR time alarm (putP (putP (N2 vo 0 .nsl) 0 (.sl 8 [] 0 1 true)) 0 (.sl 8 [] 0 1 true)), byA 32768 f, .arr 1 (.int .u8) fun j => one1 v (j + 0)]) := by kernel_rfl
theorem bw_sl0 (time alarm : Int) (vo : Nat → AV) (f : Nat → Int) (a n v : Int) (lo len : Nat) (g : Nat → Int) : evB2 0 Tryz.f229 [.it .u64 a, .it .i64 n, .it .u64 v] ((busO time alarm (N2 vo 0 (.sl 1 [] lo len true)) f).put 1 (.cells (byA (lo + len) g) true)) (finA 9 [bk, mk 6, (8, .ce true, 0)]) =
    some (!isAl a n && (O4 0 a n && (Nat.ble (len + 1) 4294967296 && ((iLe 0 (iMax (iSub .i64 ((len + 1 : Nat) : Int) 64) 0) && (iLe (iMax (iSub .i64 ((len + 1 : Nat) : Int) 64) 0) ((len + 1 : Nat) : Int) && iLe ((len + 1 : Nat) : Int) ((len + 1 : Nat) : Int))) && true))), .tup [.bl true, busR time alarm (putP (putP (N2 vo 0 (.sl 1 [] lo len true)) 0 (.sl 8 [] 0 (len + 1) true)) 0 (.sl 8 [] (br6 len + 0) (((len + 1 : Nat) : Int).toNat - br6 len) true)), byA 32768 f, app1 len lo g v]) := by kernel_rfl
theorem du7 (time alarm : Int) (vo : Nat → AV) (f : Nat → Int) (a n : Int) : evB2 1 Tryz.f17 [.it .u64 a, .it .i64 n] (busO time alarm (Q6 vo) f) (finA 7 [bk, mk 6]) =
    some (bif isTm a n then true else bif isAl a n then true else O4 1 a n && true, .tup [.tup [.it .u64 (bif isTm a n then time else bif isAl a n then alarm else 0), .bl (bif isTm a n then true else bif isAl a n then true else true)], busR (bif isTm a n then time else bif isAl a n then time else time) (bif isTm a n then alarm else bif isAl a n then alarm else alarm) (fun i => mrg (isTm a n) (Q6 vo i) (mrg (isAl a n) (Q6 vo i) (Q6 vo i))), .arr 32768 (.int .u8) fun i => .it .u8 (bif isTm a n then f i else bif isAl a n then f i else f i)]) := by kernel_rfl
theorem bw_nil1 (time alarm : Int) (vo : Nat → AV) (f : Nat → Int) (a n v : Int) : evB2 1 Tryz.f229 [.it .u64 a, .it .i64 n, .it .u64 v] (busO time alarm (N2 vo 1 .nsl) f) (finA 9 [bk, mk 6, (8, .ce true, 0)]) =
    some (!isAl a n && (O4 1 a n && true), .tup [.bl true, busR time alarm (putP (putP (N2 vo 1 .nsl) 1 (.sl 8 [] 0 1 true)) 1 (.sl 8 [] 0 1 true)), byA 32768 f, .arr 1 (.int .u8) fun j => one1 v (j + 0)]) := by kernel_rfl
theorem bw_sl1 (time alarm : Int) (vo : Nat → AV) (f : Nat → Int) (a n v : Int) (lo len : Nat) (g : Nat → Int) : evB2 1 Tryz.f229 [.it .u64 a, .it .i64 n, .it .u64 v] ((busO time alarm (N2 vo 1 (.sl 2 [] lo len true)) f).put 2 (.cells (byA (lo + len) g) true)) (finA 9 [bk, mk 6, (8, .ce true, 0)]) =
    some (!isAl a n && (O4 1 a n && (Nat.ble (len + 1) 4294967296 && ((iLe 0 (iMax (iSub .i64 ((len + 1 : Nat) : Int) 64) 0) && (iLe (iMax (iSub .i64 ((len + 1 : Nat) : Int) 64) 0) ((len + 1 : Nat) : Int) && iLe ((len + 1 : Nat) : Int) ((len + 1 : Nat) : Int))) && true))), .tup [.bl true, busR time alarm (putP (putP (N2 vo 1 (.sl 2 [] lo len true)) 1 (.sl 8 [] 0 (len + 1) true)) 1 (.sl 8 [] (br6 len + 0) (((len + 1 : Nat) : Int).toNat - br6 len) true)), byA 32768 f, app1 len lo g v]) := by kernel_rfl
theorem dr1 (time alarm : Int) (vo : Nat → AV) (f : Nat → Int) (a n : Int) : evB2 2 Tryz.f17 [.it .u64 a, .it .i64 n] (busO time alarm (Q6 vo) f) (finA 7 [bk, mk 6]) =
    some (bif isTm a n then true else bif isAl a n then true else O4 2 a n && true, .tup [.tup [.it .u64 (bif isTm a n then time else bif isAl a n then alarm else 0), .bl (bif isTm a n then true else bif isAl a n then true else true)], busR (bif isTm a n then time else bif isAl a n then time else time) (bif isTm a n then alarm else bif isAl a n then alarm else alarm) (fun i => mrg (isTm a n) (Q6 vo i) (mrg (isAl a n) (Q6 vo i) (Q6 vo i))), .arr 32768 (.int .u8) fun i => .it .u8 (bif isTm a n then f i else bif isAl a n then f i else f i)]) := by kernel_rfl
theorem bw_nil2 (time alarm : Int) (vo : Nat → AV) (f : Nat → Int) (a n v : Int) : evB2 2 Tryz.f229 [.it .u64 a, .it .i64 n, .it .u64 v] (busO time alarm (N2 vo 2 .nsl) f) (finA 9 [bk, mk 6, (8, .ce true, 0)]) =
    some (!isAl a n && (O4 2 a n && true), .tup [.bl true, busR time alarm (putP (putP (N2 vo 2 .nsl) 2 (.sl 8 [] 0 1 true)) 2 (.sl 8 [] 0 1 true)), byA 32768 f, .arr 1 (.int .u8) fun j => one1 v (j + 0)]) := by kernel_rfl
theorem bw_sl2 (time alarm : Int) (vo : Nat → AV) (f : Nat → Int) (a n v : Int) (lo len : Nat) (g : Nat → Int) : evB2 2 Tryz.f229 [.it .u64 a, .it .i64 n, .it .u64 v] ((busO time alarm (N2 vo 2 (.sl 3 [] lo len true)) f).put 3 (.cells (byA (lo + len) g) true)) (finA 9 [bk, mk 6, (8, .ce true, 0)]) =
    some (!isAl a n && (O4 2 a n && (Nat.ble (len + 1) 4294967296 && ((iLe 0 (iMax (iSub .i64 ((len + 1 : Nat) : Int) 64) 0) && (iLe (iMax (iSub .i64 ((len + 1 : Nat) : Int) 64) 0) ((len + 1 : Nat) : Int) && iLe ((len + 1 : Nat) : Int) ((len + 1 : Nat) : Int))) && true))), .tup [.bl true, busR time alarm (putP (putP (N2 vo 2 (.sl 3 [] lo len true)) 2 (.sl 8 [] 0 (len + 1) true)) 2 (.sl 8 [] (br6 len + 0) (((len + 1 : Nat) : Int).toNat - br6 len) true)), byA 32768 f, app1 len lo g v]) := by kernel_rfl
theorem de3 (time alarm : Int) (vo : Nat → AV) (f : Nat → Int) (a n : Int) : evB2 3 Tryz.f17 [.it .u64 a, .it .i64 n] (busO time alarm (Q6 vo) f) (finA 7 [bk, mk 6]) =
    some (bif isTm a n then true else bif isAl a n then true else O4 3 a n && true, .tup [.tup [.it .u64 (bif isTm a n then time else bif isAl a n then alarm else 0), .bl (bif isTm a n then true else bif isAl a n then true else true)], busR (bif isTm a n then time else bif isAl a n then time else time) (bif isTm a n then alarm else bif isAl a n then alarm else alarm) (fun i => mrg (isTm a n) (Q6 vo i) (mrg (isAl a n) (Q6 vo i) (Q6 vo i))), .arr 32768 (.int .u8) fun i => .it .u8 (bif isTm a n then f i else bif isAl a n then f i else f i)]) := by kernel_rfl
theorem bw_nil3 (time alarm : Int) (vo : Nat → AV) (f : Nat → Int) (a n v : Int) : evB2 3 Tryz.f229 [.it .u64 a, .it .i64 n, .it .u64 v] (busO time alarm (N2 vo 3 .nsl) f) (finA 9 [bk, mk 6, (8, .ce true, 0)]) =
    some (!isAl a n && (O4 3 a n && true), .tup [.bl true, busR time alarm (putP (putP (N2 vo 3 .nsl) 3 (.sl 8 [] 0 1 true)) 3 (.sl 8 [] 0 1 true)), byA 32768 f, .arr 1 (.int .u8) fun j => one1 v (j + 0)]) := by kernel_rfl
theorem bw_sl3 (time alarm : Int) (vo : Nat → AV) (f : Nat → Int) (a n v : Int) (lo len : Nat) (g : Nat → Int) : evB2 3 Tryz.f229 [.it .u64 a, .it .i64 n, .it .u64 v] ((busO time alarm (N2 vo 3 (.sl 4 [] lo len true)) f).put 4 (.cells (byA (lo + len) g) true)) (finA 9 [bk, mk 6, (8, .ce true, 0)]) =
    some (!isAl a n && (O4 3 a n && (Nat.ble (len + 1) 4294967296 && ((iLe 0 (iMax (iSub .i64 ((len + 1 : Nat) : Int) 64) 0) && (iLe (iMax (iSub .i64 ((len + 1 : Nat) : Int) 64) 0) ((len + 1 : Nat) : Int) && iLe ((len + 1 : Nat) : Int) ((len + 1 : Nat) : Int))) && true))), .tup [.bl true, busR time alarm (putP (putP (N2 vo 3 (.sl 4 [] lo len true)) 3 (.sl 8 [] 0 (len + 1) true)) 3 (.sl 8 [] (br6 len + 0) (((len + 1 : Nat) : Int).toNat - br6 len) true)), byA 32768 f, app1 len lo g v]) := by kernel_rfl
end
end Go.Proofs.YtbkdnehnhbaieaaGreat.PV
set_option maxRecDepth 100000
set_option linter.unusedVariables false
namespace Go.Proofs.YtbkdnehnhbaieaaGreat.PV
noncomputable section
open Go Go.Ev
def busM (time alarm : Int) (o : Nat → List UInt8) (f : Nat → Int) (h : Nat) : Mem := objM 1 (busA time alarm o) [(0, byA 32768 f, [])] h
theorem dG1 {t t' a a' : Int} {o o' : Nat → List UInt8} (h : busA t a o = busA t' a' o') : t = t' ∧ a = a' ∧ o = o' := by
  unfold busA at h
  injection h with h
  injection h with h1 h
  injection h with h2 h
  injection h with h3 _
  injection h1 with _ h1
  injection h2 with _ h2
  injection h3 with _ _ h3
  refine ⟨h1, h2, funext fun p => ?_⟩
  have := congrFun h3 p
  injection this
theorem byA_inj {n : Nat} {f g : Nat → Int} (h : byA n f = byA n g) : f = g := by
  unfold byA at h
  injection h with _ _ h
  funext i
  have := congrFun h i
  injection this
def cg5 (o : Nat → List UInt8) (vo : Nat → AV) (tl : Nat → Option AV) : Prop :=
  ∀ p, (vo p).shape = .ref ∧ (vo p).wf ∧ (4 ≤ p → vo p = .nsl) ∧ (p < 4 → slOk (1 + p) (o p) (vo p) (tl (1 + p)) ∧ (o p).length ≤ 64)
theorem slOk_ids {id : Nat} {l : List UInt8} {v : AV} {o : Option AV} (h : slOk id l v o) (hid : id < 6) : v.flat = [v] ∧ (plain v = true ∨ idsB 6 v = true) := by
  rcases h with ⟨rfl, _⟩ | ⟨lo, len, n, g, rfl, _⟩
  · exact ⟨rfl, .inl rfl⟩
  · exact ⟨rfl, .inr (by show Nat.blt id 6 = true; rw [Nat.blt_eq]; exact hid)⟩
theorem slOk_tl {id : Nat} {l : List UInt8} {v : AV} {o : Option AV} (h : slOk id l v o) {t : AV} (ht : o = some t) : plain t = true := by
  rcases h with ⟨_, _, rfl⟩ | ⟨lo, len, n, g, _, rfl, _⟩
  · cases ht
  · cases ht; rfl
theorem dF8 {time alarm : Int} {o : Nat → List UInt8} {vo : Nat → AV} {tl : Nat → Option AV} (h : cg5 o vo tl) : ∀ x ∈ (busR time alarm (Q6 vo)).flat, plain x = true ∨ idsB 6 x = true := fun x hx => by
  have hx : x ∈ ([.pt 5 [] E5, .it .u64 time, .it .u64 alarm] : List AV) ++ ((List.range 4).flatMap fun i => (Q6 vo i).flat) := by
    have e : (busR time alarm (Q6 vo)).flat = [.pt 5 [] E5, .it .u64 time, .it .u64 alarm] ++ ((List.range 4).flatMap fun i => (Q6 vo i).flat) := by
      simp [busR, AV.flat, AV.flats]
    rw [e] at hx; exact hx
  rcases List.mem_append.1 hx with hx | hx
  · simp only [List.mem_cons, List.not_mem_nil, or_false] at hx
    rcases hx with rfl | rfl | rfl
    · exact .inr rfl
    · exact .inl rfl
    · exact .inl rfl
  · obtain ⟨i, hi, hx⟩ := List.mem_flatMap.1 hx
    have hi := List.mem_range.1 hi
    obtain ⟨q1, q2⟩ := slOk_ids ((h i).2.2.2 hi).1 (by omega)
    have e : (Q6 vo i).flat = [.nsl, vo i, .it .i64 0] := by simp [Q6, AV.flat, AV.flats, q1]
    rw [e] at hx
    simp only [List.mem_cons, List.not_mem_nil, or_false] at hx
    rcases hx with rfl | rfl | rfl
    · exact .inl rfl
    · exact q2
    · exact .inl rfl
theorem bZ3 {time alarm : Int} {P : Nat → AV} {f : Nat → Int} {i : Nat} {b : Blk} (h : (busO time alarm P f).get i = some b) : (i = 0 ∧ b = .cells (busR time alarm P) true) ∨ (i = 5 ∧ b = .obj 0 (byA 32768 f) [] 6) := by
  rcases Tr.get_set _ _ 5 i b h with ⟨rfl, h1⟩ | ⟨_, h1⟩
  · exact .inr ⟨rfl, (Option.some.inj h1).symm⟩
  · rcases Tr.get_set _ _ 0 i b h1 with ⟨rfl, h2⟩ | ⟨_, h2⟩
    · exact .inl ⟨rfl, (Option.some.inj h2).symm⟩
    · rw [Tr.get_mk] at h2; cases h2
theorem ad6 {H : Hd} (hH : N6 Tryz.prog H) {F : FuncId} {fn : Func} (hf : Plain Tryz.prog F fn) {args : List AV} (hargs : S4 args = true) {time alarm time' alarm' : Int} {o : Nat → List UInt8} {f f' : Nat → Int} {v v0 : AV} {N h : Nat} {g : Bool}
    (hby : isBy f') (ht : 0 ≤ time') (ha : 0 ≤ alarm')
    (he : ∀ vo, evFn Tryz.prog okT (m5 T80) H RO NOV 101 false fn (.pt 0 [] J6 :: args) (busO time alarm (Q6 vo) f) (finA N [bk, mk h]) = some (g, .tup [v0, busR time' alarm' (Q6 vo), byA 32768 f'])) (hg : g = true)
    (hv : (plain v0 = true ∧ v = v0) ∨ (v0 = .pt 5 [] E5 ∧ v = .pt 1 [] E5)) :
    Small Tryz.prog F (.pt 0 [] J6 :: args) (busM time alarm o f 2) v (busM time' alarm' o f' 4) := by
  have h1 : ∀ {α : Type} (a x : α) (j : Nat), ([a] : List α)[j]? = some x → j = 0 ∧ x = a := fun a x j hj => by
    cases j with
    | zero => simp at hj; exact ⟨rfl, hj.symm⟩
    | succ j => simp at hj
  refine Small.opened (k := 1) (X := [(0, byA 32768 f, [])]) (X' := [(0, byA 32768 f', [])]) (by decide) rfl (fun j kj sj ps h => ?_) ⟨rfl, fun j kj sj ps h => ?_⟩ (fun j kj sj ps h => ?_) (fun j r h => ?_)
    (fun {st root tl} h => by obtain ⟨_, _, _, _, _, _, _, rfl, _⟩ := (show busK.lay st root tl from h); rfl) hargs fun root tl hlay hw _ => ?_
  · obtain ⟨rfl, e⟩ := h1 _ _ j h; cases e; rfl
  · obtain ⟨rfl, e⟩ := h1 _ _ j h; cases e; exact ⟨_, rfl⟩
  · obtain ⟨rfl, e⟩ := h1 _ _ j h; cases e; intro x hx; cases hx
  · obtain ⟨rfl, e⟩ := h1 E5 r j h; exact Nat.one_pos
  obtain ⟨time2, alarm2, o2, vo, t0, a0, hst, rfl, hp⟩ := (show busK.lay (busA time alarm o) root tl from hlay)
  obtain ⟨rfl, rfl, rfl⟩ := dG1 hst
  have hp : cg5 o vo tl := hp
  have hS := aw3 (P := Tryz.prog) mix A7 aB8 hH (ro := RO) (ov := NOV) hf (fun c _ => m7 c) (he vo) hg
  have hF := Small.frame (mE := bc1 5 (busR time alarm (Q6 vo)) tl [(0, byA 32768 f, [])]) (m1E := { n := N, t := setT tl 1 4 (putA [bk, mk h] [busR time' alarm' (Q6 vo), byA 32768 f'] (Tr.mk 12)) })
    (ex := fun i b => ∃ t, 0 < i ∧ i < 5 ∧ tl i = some t ∧ b = .cells t true) hS rfl rfl (fun i b hb => ?_) (fun i b hb => ?_) (fun i b hb => ?_) fun i b hb => ?_
  · refine ⟨v0, _, busR time' alarm' (Q6 vo), tl, id, hF, ⟨⟨time', alarm', o, vo, ht, ha, rfl, rfl, hp⟩, dF8 hp, rfl, fun j hj => rfl, ?_, fun i t h0 hl ht => ?_, fun i j _ _ _ _ h => h, fun i j hi hj _ => ?_, fun j kj sj ps hj => ?_, ?_⟩⟩
    · rw [dv4]; rfl
    · have hl : i < 5 := hl
      have hq := slOk_tl ((hp (i - 1)).2.2.2 (by omega)).1 (t := t) (by rw [show 1 + (i - 1) = i by omega]; exact ht)
      refine ⟨hq, ?_⟩
      match i, h0, hl with
      | 1, _, _ => show (tl 1).map (fun a => Blk.cells a true) = _; rw [ht]; rfl
      | 2, _, _ => show (tl 2).map (fun a => Blk.cells a true) = _; rw [ht]; rfl
      | 3, _, _ => show (tl 3).map (fun a => Blk.cells a true) = _; rw [ht]; rfl
      | 4, _, _ => show (tl 4).map (fun a => Blk.cells a true) = _; rw [ht]; rfl
    · have hi : i < 5 := hi
      show i ≠ 5 + j
      omega
    · obtain ⟨rfl, e⟩ := h1 _ _ j hj; cases e; exact ⟨h, rfl⟩
    · rcases hv with hv | ⟨rfl, rfl⟩
      · exact .inl hv
      · exact .inr ⟨0, E5, Nat.one_pos, rfl, rfl⟩
  · rcases bZ3 hb with ⟨rfl, rfl⟩ | ⟨rfl, rfl⟩ <;> rfl
  · obtain ⟨t, h0, hl, ht, rfl⟩ := hb
    refine ⟨?_, ?_⟩
    · match i, h0, hl with
      | 1, _, _ => show (tl 1).map (fun a => Blk.cells a true) = _; rw [ht]; rfl
      | 2, _, _ => show (tl 2).map (fun a => Blk.cells a true) = _; rw [ht]; rfl
      | 3, _, _ => show (tl 3).map (fun a => Blk.cells a true) = _; rw [ht]; rfl
      | 4, _, _ => show (tl 4).map (fun a => Blk.cells a true) = _; rw [ht]; rfl
    · match i, h0, hl with
      | 1, _, _ => rfl
      | 2, _, _ => rfl
      | 3, _, _ => rfl
      | 4, _, _ => rfl
  · rcases bZ7 _ _ _ i b hb with ⟨a, g1, g2, g3, g4⟩ | g
    · exact .inr ⟨a, by omega, by omega, g1, g2⟩
    · exact .inl g
  · have hb : (putA [bk, mk h] [busR time' alarm' (Q6 vo), byA 32768 f'] (Tr.mk 12)).get i = some b := hb
    rcases Tr.get_set _ _ 5 i b hb with ⟨rfl, h2⟩ | ⟨_, h2⟩
    · cases h2; rfl
    · rcases Tr.get_set _ _ 0 i b h2 with ⟨rfl, h3⟩ | ⟨_, h3⟩
      · cases h3; rfl
      · rw [Tr.get_mk] at h3; cases h3
end
end Go.Proofs.YtbkdnehnhbaieaaGreat.PV
set_option maxRecDepth 100000
set_option linter.unusedVariables false
namespace Go.Proofs.YtbkdnehnhbaieaaGreat.PV
noncomputable section
open Go Go.Ev
def byt (v : Int) : UInt8 := UInt8.ofNat (g8 .u8 v).toNat
def cx6 (l : List UInt8) (v : Int) : List UInt8 := (l ++ [byt v]).drop (l.length + 1 - 64)
def cr2 (o : Nat → List UInt8) (p : Nat) (v : Int) : Nat → List UInt8 := fun q => bif Nat.beq q p then cx6 (o p) v else o q
def oneN (v : Int) : Nat → Int := fun j => bif j == 0 then g8 .u8 v else 0
def appN (len lo : Nat) (g : Nat → Int) (v : Int) : Nat → Int := fun j => bif decide (j < len) then g (j + lo) else oneN v (j - len)
theorem conv_by (v : Int) : 0 ≤ g8 .u8 v ∧ g8 .u8 v ≤ 255 := by
  unfold g8
  simp [IntKind.wrap, IntKind.bits, IntKind.signed]
  omega
theorem oneN_by (v : Int) : isBy (oneN v) := fun j => by
  unfold oneN
  have := conv_by v
  cases j == 0 with
  | true => exact this
  | false => exact ⟨Int.le_refl 0, (by decide : (0 : Int) ≤ 255)⟩
theorem appN_by {len lo : Nat} {g : Nat → Int} (v : Int) (h : isBy g) : isBy (appN len lo g v) := fun j => by
  unfold appN
  cases decide (j < len) with
  | true => exact h _
  | false => exact oneN_by v _
theorem one1_eq (v : Int) : (AV.arr 1 (.int .u8) fun j => one1 v (j + 0)) = byA 1 (oneN v) := rfl
theorem app1_eq (len lo : Nat) (g : Nat → Int) (v : Int) : app1 len lo g v = byA (len + 1) (appN len lo g v) := rfl
theorem cW1 (g : Nat → Int) (lo len : Nat) : (shows g lo len).length = len := by simp [shows]
theorem dB0 {len : Nat} (h : len ≤ 64) : br6 len = len + 1 - 64 := by
  unfold br6
  have e : iSub .i64 ((len + 1 : Nat) : Int) 64 = ((len + 1 : Nat) : Int) - 64 := dP9 (by omega) (by omega)
  rw [e, aD6]
  split <;> omega
theorem dN1 {g : Nat → Int} {lo len : Nat} (v : Int) (h : len ≤ 64) : shows (appN len lo g v) (br6 len + 0) (((len + 1 : Nat) : Int).toNat - br6 len) = cx6 (shows g lo len) v := by
  rw [dB0 h]
  unfold cx6
  rw [cW1]
  apply List.ext_getElem
  · simp [shows]
  · intro i h1 h2
    simp only [shows, List.length_map, List.length_range] at h1
    rw [List.getElem_drop]
    simp only [shows, List.getElem_map, List.getElem_range]
    rw [List.getElem_append]
    have e : (((len + 1 : Nat) : Int).toNat) = len + 1 := by omega
    split
    · rename_i hlt
      simp only [List.length_map, List.length_range] at hlt
      simp only [List.getElem_map, List.getElem_range]
      unfold appN
      rw [show decide (len + 1 - 64 + 0 + i < len) = true by simp; omega, cond_true]
      congr 3; omega
    · rename_i hlt
      simp only [List.length_map, List.length_range] at hlt
      simp only [List.length_map, List.length_range]
      have ei : len + 1 - 64 + 0 + i = len := by omega
      rw [ei]
      unfold appN
      rw [show decide (len < len) = false by simp, cond_false, Nat.sub_self]
      have : i + (len + 1 - 64) - len = 0 := by omega
      simp [oneN, byt]
theorem dD5 {l : List UInt8} {v : Int} (h : l.length ≤ 64) : (cx6 l v).length ≤ 64 := by
  unfold cx6
  simp
  omega
theorem sel_sl (c : Bool) (id : Nat) (p : List PE) (lo len : Nat) (tip : Bool) (y : AV) : sel c (.sl id p lo len tip) y = bif c then .sl id p lo len tip else y := by cases y <;> rfl
theorem sel_nsl (c : Bool) (y : AV) : sel c .nsl y = bif c then .nsl else y := by cases y <;> rfl
def tauP (p : Nat) : Nat → Nat := fun i => bif Nat.beq i (1 + p) then 8 else i
theorem cP8 (p : Nat) : tauP p (1 + p) = 8 := by unfold tauP; rw [show Nat.beq (1 + p) (1 + p) = true by simp, cond_true]
theorem aH7 {p i : Nat} (h : i ≠ 1 + p) : tauP p i = i := by
  unfold tauP
  rw [show Nat.beq i (1 + p) = false by rw [← Bool.not_eq_true, Nat.beq_eq]; exact h, cond_false]
def setV (vo : Nat → AV) (p : Nat) (x : AV) : Nat → AV := fun q => bif Nat.beq q p then x else vo q
def bT6 (tl : Nat → Option AV) (p : Nat) (x : Option AV) : Nat → Option AV := fun i => bif Nat.beq i (1 + p) then x else tl i
theorem dd7 (tl : Nat → Option AV) (p : Nat) (x : Option AV) : bT6 tl p x (1 + p) = x := by unfold bT6; rw [show Nat.beq (1 + p) (1 + p) = true by simp, cond_true]
theorem ca1 (tl : Nat → Option AV) {p i : Nat} (x : Option AV) (h : i ≠ 1 + p) : bT6 tl p x i = tl i := by
  unfold bT6
  rw [show Nat.beq i (1 + p) = false by rw [← Bool.not_eq_true, Nat.beq_eq]; exact h, cond_false]
theorem root_ren {time alarm : Int} {o : Nat → List UInt8} {vo : Nat → AV} {tl : Nat → Option AV} (hp : cg5 o vo tl) {p lo len : Nat} (hp4 : p < 4) (x : AV) (lo0 len0 : Nat) :
    busR time alarm (putP (putP (N2 vo p x) p (.sl 8 [] lo0 len0 true)) p (.sl 8 [] lo len true)) = renA (tauP p) (busR time alarm (Q6 (setV vo p (.sl (1 + p) [] lo len true)))) := by
  have hr : renA (tauP p) (busR time alarm (Q6 (setV vo p (.sl (1 + p) [] lo len true)))) = busR time alarm (fun i => renA (tauP p) (Q6 (setV vo p (.sl (1 + p) [] lo len true)) i)) := by
    show AV.agg [.pt (tauP p 5) [] E5, _, _, _] = _
    rw [aH7 (show 5 ≠ 1 + p by omega)]
    rfl
  rw [hr]
  congr 1
  funext j
  unfold putP
  show _ = AV.agg [.nsl, renA (tauP p) (setV vo p (.sl (1 + p) [] lo len true) j), .it .i64 0]
  by_cases hj : j = p
  · subst hj
    unfold N2 setV
    simp only [beq_self_eq_true, show Nat.beq j j = true by simp, cond_true]
    simp only [sel, sels, sel_nsl, sel_sl, cond_true, renA, cP8]
  · have e1 : (j == p) = false := by simp [hj]
    have e2 : Nat.beq j p = false := by rw [← Bool.not_eq_true, Nat.beq_eq]; exact hj
    unfold N2 setV Q6
    simp only [e1, e2, cond_false]
    simp only [sel, sels, sel_nsl, sel_sl, cond_false]
    have : renA (tauP p) (vo j) = vo j := by
      rcases Nat.lt_or_ge j 4 with h4 | h4
      · rcases ((hp j).2.2.2 h4).1 with ⟨e, _⟩ | ⟨lo', len', n', g', e, _⟩
        · rw [e]; rfl
        · rw [e]; show AV.sl (tauP p (1 + j)) _ _ _ _ = _; rw [aH7 (by omega)]
      · rw [(hp j).2.2.1 h4]; rfl
    rw [this]
theorem ca0 {H : Hd} (hH : N6 Tryz.prog H) {F : FuncId} {fn : Func} (hf : Plain Tryz.prog F fn) {args : List AV} (hargs : S4 args = true) {time alarm : Int} {o : Nat → List UInt8} {f : Nat → Int} {p : Nat} (hp4 : p < 4) {x : Int} {c1 c2 : Bool} (hc1 : c1 = true) (hc2 : c2 = true)
    (hby : isBy f)
    (hnil : ∀ vo, evFn Tryz.prog okT (m5 T80) H RO NOV 101 false fn (.pt 0 [] J6 :: args) (busO time alarm (N2 vo p .nsl) f) (finA 9 [bk, mk 6, (8, .ce true, 0)]) =
      some (c1 && (c2 && true), .tup [.bl true, busR time alarm (putP (putP (N2 vo p .nsl) p (.sl 8 [] 0 1 true)) p (.sl 8 [] 0 1 true)), byA 32768 f, .arr 1 (.int .u8) fun j => one1 x (j + 0)]))
    (hsl : ∀ vo lo len g, evFn Tryz.prog okT (m5 T80) H RO NOV 101 false fn (.pt 0 [] J6 :: args) ((busO time alarm (N2 vo p (.sl (1 + p) [] lo len true)) f).put (1 + p) (.cells (byA (lo + len) g) true)) (finA 9 [bk, mk 6, (8, .ce true, 0)]) =
      some (c1 && (c2 && (Nat.ble (len + 1) 4294967296 && ((iLe 0 (iMax (iSub .i64 ((len + 1 : Nat) : Int) 64) 0) && (iLe (iMax (iSub .i64 ((len + 1 : Nat) : Int) 64) 0) ((len + 1 : Nat) : Int) && iLe ((len + 1 : Nat) : Int) ((len + 1 : Nat) : Int))) && true))), .tup [.bl true, busR time alarm (putP (putP (N2 vo p (.sl (1 + p) [] lo len true)) p (.sl 8 [] 0 (len + 1) true)) p (.sl 8 [] (br6 len + 0) (((len + 1 : Nat) : Int).toNat - br6 len) true)), byA 32768 f, app1 len lo g x])) :
    Small Tryz.prog F (.pt 0 [] J6 :: args) (busM time alarm o f 2) (.bl true) (busM time alarm (cr2 o p x) f 4) := by
  have h1 : ∀ {α : Type} (a x : α) (j : Nat), ([a] : List α)[j]? = some x → j = 0 ∧ x = a := fun a x j hj => by
    cases j with
    | zero => simp at hj; exact ⟨rfl, hj.symm⟩
    | succ j => simp at hj
  refine Small.opened (k := 1) (X := [(0, byA 32768 f, [])]) (X' := [(0, byA 32768 f, [])]) (by decide) rfl (fun j kj sj ps h => ?_) ⟨rfl, fun j kj sj ps h => ?_⟩ (fun j kj sj ps h => ?_) (fun j r h => ?_)
    (fun {st root tl} h => by obtain ⟨_, _, _, _, _, _, _, rfl, _⟩ := (show busK.lay st root tl from h); rfl) hargs fun root tl hlay hw _ => ?_
  · obtain ⟨rfl, e⟩ := h1 _ _ j h; cases e; rfl
  · obtain ⟨rfl, e⟩ := h1 _ _ j h; cases e; exact ⟨_, rfl⟩
  · obtain ⟨rfl, e⟩ := h1 _ _ j h; cases e; intro x hx; cases hx
  · obtain ⟨rfl, e⟩ := h1 E5 r j h; exact Nat.one_pos
  obtain ⟨time2, alarm2, o2, vo, t0, a0, hst, rfl, hp⟩ := (show busK.lay (busA time alarm o) root tl from hlay)
  obtain ⟨rfl, rfl, rfl⟩ := dG1 hst
  have hp : cg5 o vo tl := hp

  have fin : ∀ (lo len lo0 len0 n : Nat) (y : AV) (g' : Nat → Int) (m : Mem), m.n = 7 → (∀ i b, m.get i = some b → (bc1 5 (busR time alarm (Q6 vo)) tl [(0, byA 32768 f, [])]).get i = some b) → (∀ i, 0 < i → i < 5 → i ≠ 1 + p → m.get i = none) →
      Small Tryz.prog F (.pt 0 [] J6 :: args) m (.bl true) (matA 9 [bk, mk 6, (8, .ce true, 0)] [busR time alarm (putP (putP (N2 vo p y) p (.sl 8 [] lo0 len0 true)) p (.sl 8 [] lo len true)), byA 32768 f, byA n g']) →
      isBy g' → lo + len = n → cr2 o p x p = shows g' lo len → (cr2 o p x p).length ≤ 64 →
      ∃ v0 m1 root' tl' τ, Small Tryz.prog F (.pt 0 [] (objK 1).sh :: args) (bc1 (objK 1).L (busR time alarm (Q6 vo)) tl [(0, byA 32768 f, [])]) v0 m1 ∧ Shut (objK 1) (busA time alarm (cr2 o p x)) [(0, byA 32768 f, [])] (.bl true) v0 m1 root' tl' τ := by
    intro lo len lo0 len0 n y g' m hn hm hno hS hg' hll hsh hlen
    have hp' : cg5 (cr2 o p x) (setV vo p (.sl (1 + p) [] lo len true)) (bT6 tl p (some (byA n g'))) := fun q => by
      by_cases hq : q = p
      · subst hq
        have e : setV vo q (.sl (1 + q) [] lo len true) q = .sl (1 + q) [] lo len true := by unfold setV; rw [show Nat.beq q q = true by simp, cond_true]
        rw [e]
        refine ⟨rfl, trivial, fun h => by omega, fun _ => ⟨.inr ⟨lo, len, n, g', rfl, ?_, hg', hll, hsh⟩, hlen⟩⟩
        exact dd7 _ _ _
      · have e2 : Nat.beq q p = false := by rw [← Bool.not_eq_true, Nat.beq_eq]; exact hq
        have e : setV vo p (.sl (1 + p) [] lo len true) q = vo q := by unfold setV; rw [e2, cond_false]
        have e3 := ca1 tl (p := p) (i := 1 + q) (some (byA n g')) (by omega)
        have e4 : cr2 o p x q = o q := by unfold cr2; rw [e2, cond_false]
        rw [e, e3, e4]
        exact hp q
    have hF := Small.frame (mE := bc1 5 (busR time alarm (Q6 vo)) tl [(0, byA 32768 f, [])])
      (m1E := { n := 9, t := setT (bT6 tl p none) 1 4 (putA [bk, mk 6, (8, .ce true, 0)] [busR time alarm (putP (putP (N2 vo p y) p (.sl 8 [] lo0 len0 true)) p (.sl 8 [] lo len true)), byA 32768 f, byA n g'] (Tr.mk 12)) })
      (ex := fun i b => ∃ t, 0 < i ∧ i < 5 ∧ i ≠ 1 + p ∧ tl i = some t ∧ b = .cells t true) hS hn.symm rfl hm (fun i b hb => ?_) (fun i b hb => ?_) fun i b hb => ?_
    · have tlp : ∀ i t, 0 < i → i < 5 → i ≠ 1 + p → tl i = some t → (Mem.get { n := 9, t := setT (bT6 tl p none) 1 4 (putA [bk, mk 6, (8, .ce true, 0)] [busR time alarm (putP (putP (N2 vo p y) p (.sl 8 [] lo0 len0 true)) p (.sl 8 [] lo len true)), byA 32768 f, byA n g'] (Tr.mk 12)) } i) = some (.cells t true) := fun i t h0 hl hne ht => by
        have hx : bT6 tl p none i = some t := (ca1 tl none hne).trans ht
        match i, h0, hl with
        | 1, _, _ => show (Option.map (fun a => Blk.cells a true) (bT6 tl p none 1)) = _; rw [hx]; rfl
        | 2, _, _ => show (Option.map (fun a => Blk.cells a true) (bT6 tl p none 2)) = _; rw [hx]; rfl
        | 3, _, _ => show (Option.map (fun a => Blk.cells a true) (bT6 tl p none 3)) = _; rw [hx]; rfl
        | 4, _, _ => show (Option.map (fun a => Blk.cells a true) (bT6 tl p none 4)) = _; rw [hx]; rfl
      have used : ∀ i, i < 5 → i ≠ 1 + p → tauP p i = i := fun i _ h => aH7 h
      refine ⟨.bl true, _, busR time alarm (Q6 (setV vo p (.sl (1 + p) [] lo len true))), _, tauP p, hF, ⟨⟨time, alarm, _, _, t0, a0, rfl, rfl, hp'⟩, dF8 hp', ?_, fun j hj => ?_, ?_, fun i t h0 hl ht => ?_, fun i j hi hj _ _ he => ?_, fun i j hi hj _ he => ?_, fun j kj sj ps hj => ?_, .inl ⟨rfl, rfl⟩⟩⟩
      · exact aH7 (by omega)
      · have hj : j < 1 := hj
        exact aH7 (show 5 + j ≠ 1 + p by omega)
      · rw [← root_ren hp hp4 y lo0 len0]; rfl
      · have hl : i < 5 := hl
        by_cases hi : i = 1 + p
        · subst hi
          rw [dd7] at ht
          cases ht
          rw [cP8]
          exact ⟨rfl, rfl⟩
        · rw [ca1 tl _ hi] at ht
          rw [aH7 hi]
          exact ⟨slOk_tl ((hp (i - 1)).2.2.2 (by omega)).1 (t := t) (by rw [show 1 + (i - 1) = i by omega]; exact ht), tlp i t h0 hl hi ht⟩
      · have hi : i < 5 := hi
        have hj : j < 5 := hj
        by_cases h1 : i = 1 + p <;> by_cases h2 : j = 1 + p
        · omega
        · rw [h1, cP8, aH7 h2] at he; omega
        · rw [h2, cP8, aH7 h1] at he; omega
        · rw [aH7 h1, aH7 h2] at he; exact he
      · have hi : i < 5 := hi
        have hj : j < 1 := hj
        have he : tauP p i = 5 + j := he
        by_cases h1 : i = 1 + p
        · rw [h1, cP8] at he; omega
        · rw [aH7 h1] at he; omega
      · obtain ⟨rfl, e⟩ := h1 _ _ j hj; cases e; exact ⟨6, rfl⟩
    · obtain ⟨t, h0, hl, hne, ht, rfl⟩ := hb
      refine ⟨?_, hno i h0 hl hne⟩
      match i, h0, hl with
      | 1, _, _ => show (tl 1).map (fun a => Blk.cells a true) = _; rw [ht]; rfl
      | 2, _, _ => show (tl 2).map (fun a => Blk.cells a true) = _; rw [ht]; rfl
      | 3, _, _ => show (tl 3).map (fun a => Blk.cells a true) = _; rw [ht]; rfl
      | 4, _, _ => show (tl 4).map (fun a => Blk.cells a true) = _; rw [ht]; rfl
    · rcases bZ7 _ _ _ i b hb with ⟨a, g1, g2, g3, g4⟩ | g
      · by_cases hq : i = 1 + p
        · subst hq; rw [dd7] at g1; cases g1
        · rw [ca1 tl _ hq] at g1
          exact .inr ⟨a, by omega, by omega, hq, g1, g2⟩
      · exact .inl g
    · rcases Tr.get_set _ _ 8 i b hb with ⟨rfl, h2⟩ | ⟨_, hb⟩
      · cases h2; rfl
      · rcases Tr.get_set _ _ 5 i b hb with ⟨rfl, h2⟩ | ⟨_, h2⟩
        · cases h2; rfl
        · rcases Tr.get_set _ _ 0 i b h2 with ⟨rfl, h3⟩ | ⟨_, h3⟩
          · cases h3; rfl
          · rw [Tr.get_mk] at h3; cases h3
  have hpp : cr2 o p x p = cx6 (o p) x := by unfold cr2; rw [show Nat.beq p p = true by simp, cond_true]
  obtain ⟨hsp, hl64⟩ := (hp p).2.2.2 hp4
  rcases hsp with ⟨e1, e2, e3⟩ | ⟨lo, len, n, g, e1, e2, e3, e4, e5⟩
  · have hS := aw3 (P := Tryz.prog) mix A7 aB8 hH (ro := RO) (ov := NOV) hf (fun c _ => m7 c) (hnil vo) (by rw [hc1, hc2]; rfl)
    rw [one1_eq] at hS
    refine fin 0 1 0 1 1 .nsl (oneN x) _ rfl (fun i b hb => ?_) (fun i h0 hl hne => ?_) hS (oneN_by x) rfl ?_ ?_
    · rw [← e1, dI5] at hb
      rcases bZ3 hb with ⟨rfl, rfl⟩ | ⟨rfl, rfl⟩ <;> rfl
    · match i, h0, hl with
      | 1, _, _ => rfl
      | 2, _, _ => rfl
      | 3, _, _ => rfl
      | 4, _, _ => rfl
    · rw [hpp, e2]; rfl
    · rw [hpp]; exact dD5 hl64
  · have hlen : len ≤ 64 := by rw [e5, cW1] at hl64; exact hl64
    subst e4
    have hS := aw3 (P := Tryz.prog) mix A7 aB8 hH (ro := RO) (ov := NOV) hf (fun c _ => m7 c) (hsl vo lo len g) (by
      have q1 : Nat.ble (len + 1) 4294967296 = true := by rw [Nat.ble_eq]; omega
      have eS : iSub .i64 ((len + 1 : Nat) : Int) 64 = ((len + 1 : Nat) : Int) - 64 := dP9 (by omega) (by omega)
      rw [hc1, hc2, Bool.true_and, Bool.true_and, q1, Bool.true_and, Bool.and_true, Bool.and_eq_true, Bool.and_eq_true, J1, J1, J1, eS, aD6]
      split <;> omega)
    rw [app1_eq] at hS
    have hcl := dB0 hlen
    refine fin (br6 len + 0) (((len + 1 : Nat) : Int).toNat - br6 len) 0 (len + 1) (len + 1) (.sl (1 + p) [] lo len true) (appN len lo g x) _ rfl (fun i b hb => ?_) (fun i h0 hl hne => ?_) hS (appN_by x e3) (by omega) ?_ ?_
    · rcases Tr.get_set _ _ (1 + p) i b hb with ⟨rfl, h2⟩ | ⟨_, hb⟩
      · cases h2
        match p, hp4, e2 with
        | 0, _, e2 => show (tl 1).map (fun a => Blk.cells a true) = _; rw [e2]; rfl
        | 1, _, e2 => show (tl 2).map (fun a => Blk.cells a true) = _; rw [e2]; rfl
        | 2, _, e2 => show (tl 3).map (fun a => Blk.cells a true) = _; rw [e2]; rfl
        | 3, _, e2 => show (tl 4).map (fun a => Blk.cells a true) = _; rw [e2]; rfl
      · rw [← e1, dI5] at hb
        rcases bZ3 hb with ⟨rfl, rfl⟩ | ⟨rfl, rfl⟩ <;> rfl
    · cases hq : Mem.get ((busO time alarm (N2 vo p (.sl (1 + p) [] lo len true)) f).put (1 + p) (.cells (byA (lo + len) g) true)) i with
      | none => rfl
      | some b =>
        rcases Tr.get_set _ _ (1 + p) i b hq with ⟨h, _⟩ | ⟨_, hb⟩
        · exact absurd h hne
        · rcases bZ3 hb with ⟨rfl, _⟩ | ⟨rfl, _⟩ <;> omega
    · rw [hpp, e5]; exact (dN1 x hlen).symm
    · rw [hpp]; exact dD5 hl64
end
end Go.Proofs.YtbkdnehnhbaieaaGreat.PV
set_option maxRecDepth 100000
set_option linter.unusedVariables false
set_option linter.unusedSimpArgs false
namespace Go.Ev
def tmOf (st : AV) : Int := (st.fld 0).num
def alOf (st : AV) : Int := (st.fld 1).num
def oOf (st : AV) : Nat → List UInt8 := fun p => ((st.fld 2).ix p).str
def fOf (st : AV) : Nat → Int := fun i => (st.ix i).num
structure BusS where
  t : Int
  a : Int
  o : Nat → List UInt8
  f : Nat → Int
structure BusS.Ok (S : BusS) : Prop where
  t : 0 ≤ S.t
  a : 0 ≤ S.a
  f : isBy S.f
def Y1 : AV → Nat → AV := fun v k => match v with | .tup l => l.getD k .un | _ => .un
end Go.Ev
namespace Go.Proofs.YtbkdnehnhbaieaaGreat.PV
noncomputable section
open Go Go.Ev
def bk1 (a n : Int) : Bool := !aN5 a n
def cx0 (time alarm : Int) (f : Nat → Int) (a n : Int) : Int := bif isTm a n then time else bif isAl a n then alarm else bif bk1 a n then 0 else cY8 f a n
def Q5 (a n : Int) : Bool := bif isTm a n then true else bif isAl a n then true else bif bk1 a n then true else iEq (ba8 a n) 0
def busRdV (time alarm : Int) (f : Nat → Int) (a n : Int) : AV := .tup [.it .u64 (cx0 time alarm f a n), .bl (Q5 a n)]
def S1 (a n : Int) : Bool := bif isAl a n then true else bif bk1 a n then true else iEq (ba8 a n) 0
def bC2 (alarm a n v : Int) : Int := bif isAl a n then v else alarm
def bJ2 (o : Nat → List UInt8) (a n v : Int) : Nat → List UInt8 := bif isAl a n then o else bif bk1 a n then cr2 o (aW6 a).toNat v else o
def bG9 (f : Nat → Int) (a n v : Int) : Nat → Int := bif isAl a n then f else bif bk1 a n then f else cb8 f a n v
theorem aY9 : Plain Tryz.prog 17 Tryz.f17 := ⟨Tryz.func17, of_decide_eq_true (by kernel_rfl)⟩
theorem aO8 : Plain Tryz.prog 229 Tryz.f229 := ⟨Tryz.func229, of_decide_eq_true (by kernel_rfl)⟩
theorem isTm_eq {a n : Int} (h : isTm a n = true) : a = 61440 ∧ n = 8 := by
  unfold isTm at h
  cases h1 : iEq a 61440 with
  | false => rw [h1] at h; cases h
  | true => rw [h1, cond_true] at h; exact ⟨O2.1 h1, O2.1 h⟩
theorem isAl_eq {a n : Int} (h : isAl a n = true) : a = 61448 ∧ n = 8 := by
  unfold isAl at h
  cases h1 : iEq a 61448 with
  | false => rw [h1] at h; cases h
  | true => rw [h1, cond_true] at h; exact ⟨O2.1 h1, O2.1 h⟩
theorem cQ7 {a n : Int} (h : bk1 a n = true) : (aW6 a).toNat < 4 ∧ O4 (aW6 a).toNat a n = true := by
  unfold bk1 aN5 at h
  simp only [Bool.not_eq_true', Bool.or_eq_false_iff, aD1] at h
  obtain ⟨h1, h2⟩ := h
  have h0 : 0 ≤ aW6 a := by
    unfold aW6 iQuo
    have hp : 0 ≤ iSub .u64 a 61696 := dI8 .u64 rfl _
    have : 0 ≤ Int.tdiv (iSub .u64 a 61696) 256 := Int.tdiv_nonneg hp (by decide)
    first | exact dI8 .u64 rfl _ | exact this
  refine ⟨by omega, ?_⟩
  unfold O4
  rw [h1, Bool.not_false, Bool.true_and, O2]
  omega
theorem bus_read {time alarm : Int} {o : Nat → List UInt8} {f : Nat → Int} {a n : Int} (hf : isBy f) (ht : 0 ≤ time) (ha : 0 ≤ alarm) :
    Small Tryz.prog 17 [.pt 0 [] J6, .it .u64 a, .it .i64 n] (busM time alarm o f 2) (busRdV time alarm f a n) (busM time alarm o f 4) := by
  unfold busRdV cx0 Q5
  cases h1 : isTm a n with
  | true =>
    obtain ⟨rfl, rfl⟩ := isTm_eq h1
    exact ad6 dX2 aY9 rfl hf ht ha (fun vo => du5 time alarm (Q6 vo) f) rfl (.inl ⟨rfl, rfl⟩)
  | false =>
  cases h2 : isAl a n with
  | true =>
    obtain ⟨rfl, rfl⟩ := isAl_eq h2
    exact ad6 dX2 aY9 rfl hf ht ha (fun vo => dp7 time alarm (Q6 vo) f) rfl (.inl ⟨rfl, rfl⟩)
  | false =>
  cases h3 : bk1 a n with
  | true =>
    obtain ⟨h4, h5⟩ := cQ7 h3
    generalize (aW6 a).toNat = p at h4 h5
    have fin : ∀ vo : Nat → AV, some (bif isTm a n then true else bif isAl a n then true else O4 p a n && true, AV.tup [.tup [.it .u64 (bif isTm a n then time else bif isAl a n then alarm else 0), .bl (bif isTm a n then true else bif isAl a n then true else true)], busR (bif isTm a n then time else bif isAl a n then time else time) (bif isTm a n then alarm else bif isAl a n then alarm else alarm) (fun i => mrg (isTm a n) (Q6 vo i) (mrg (isAl a n) (Q6 vo i) (Q6 vo i))), .arr 32768 (.int .u8) fun i => .it .u8 (bif isTm a n then f i else bif isAl a n then f i else f i)]) =
        some (true, AV.tup [.tup [.it .u64 0, .bl true], busR time alarm (Q6 vo), byA 32768 f]) := fun vo => by
      have e : (fun i => mrg (isTm a n) (Q6 vo i) (mrg (isAl a n) (Q6 vo i) (Q6 vo i))) = Q6 vo := by
        funext i
        rw [aE3, aE3, Bool.cond_self, Bool.cond_self]
      rw [e, h1, h2, h5]
      rfl
    match p, h4, h5, fin with
    | 0, h4, h5, fin => exact ad6 (bQ1 h4) aY9 rfl hf ht ha (fun vo => (dh9 time alarm vo f a n).trans (fin vo)) rfl (.inl ⟨rfl, rfl⟩)
    | 1, h4, h5, fin => exact ad6 (bQ1 h4) aY9 rfl hf ht ha (fun vo => (du7 time alarm vo f a n).trans (fin vo)) rfl (.inl ⟨rfl, rfl⟩)
    | 2, h4, h5, fin => exact ad6 (bQ1 h4) aY9 rfl hf ht ha (fun vo => (dr1 time alarm vo f a n).trans (fin vo)) rfl (.inl ⟨rfl, rfl⟩)
    | 3, h4, h5, fin => exact ad6 (bQ1 h4) aY9 rfl hf ht ha (fun vo => (de3 time alarm vo f a n).trans (fin vo)) rfl (.inl ⟨rfl, rfl⟩)
  | false =>
    have h4 : aN5 a n = true := by unfold bk1 at h3; simpa using h3
    exact ad6 dX2 aY9 rfl hf ht ha (fun vo => bread_mem time alarm (Q6 vo) f a n) (by rw [h1, h2, h4]; rfl) (.inl ⟨rfl, rfl⟩)
theorem bus_write {time alarm : Int} {o : Nat → List UInt8} {f : Nat → Int} {a n v : Int} (hf : isBy f) (ht : 0 ≤ time) (ha : 0 ≤ alarm) (hv : 0 ≤ v) :
    Small Tryz.prog 229 [.pt 0 [] J6, .it .u64 a, .it .i64 n, .it .u64 v] (busM time alarm o f 2) (.bl (S1 a n)) (busM time (bC2 alarm a n v) (bJ2 o a n v) (bG9 f a n v) 4) := by
  unfold S1 bC2 bJ2 bG9
  cases h2 : isAl a n with
  | true =>
    obtain ⟨rfl, rfl⟩ := isAl_eq h2
    exact ad6 dX2 aO8 rfl hf ht hv (fun vo => cR0 time alarm (Q6 vo) f v) rfl (.inl ⟨rfl, rfl⟩)
  | false =>
  cases h3 : bk1 a n with
  | true =>
    obtain ⟨h4, h5⟩ := cQ7 h3
    simp only [cond_false, cond_true]
    generalize (aW6 a).toNat = p at h4 h5
    match p, h4, h5 with
    | 0, h4, h5 => exact ca0 (bQ1 h4) aO8 rfl h4 (c1 := !isAl a n) (c2 := O4 0 a n) (by rw [h2]; rfl) h5 hf (fun vo => bw_nil0 time alarm vo f a n v) (fun vo lo len g => bw_sl0 time alarm vo f a n v lo len g)
    | 1, h4, h5 => exact ca0 (bQ1 h4) aO8 rfl h4 (c1 := !isAl a n) (c2 := O4 1 a n) (by rw [h2]; rfl) h5 hf (fun vo => bw_nil1 time alarm vo f a n v) (fun vo lo len g => bw_sl1 time alarm vo f a n v lo len g)
    | 2, h4, h5 => exact ca0 (bQ1 h4) aO8 rfl h4 (c1 := !isAl a n) (c2 := O4 2 a n) (by rw [h2]; rfl) h5 hf (fun vo => bw_nil2 time alarm vo f a n v) (fun vo lo len g => bw_sl2 time alarm vo f a n v lo len g)
    | 3, h4, h5 => exact ca0 (bQ1 h4) aO8 rfl h4 (c1 := !isAl a n) (c2 := O4 3 a n) (by rw [h2]; rfl) h5 hf (fun vo => bw_nil3 time alarm vo f a n v) (fun vo lo len g => bw_sl3 time alarm vo f a n v lo len g)
  | false =>
    have h4 : aN5 a n = true := by unfold bk1 at h3; simpa using h3
    exact ad6 dX2 aO8 rfl (dF7 a n v hf) ht ha (fun vo => dX1 time alarm (Q6 vo) f a n v) (by rw [h2, h4]; rfl) (.inl ⟨rfl, rfl⟩)
theorem dT6 (time alarm t : Int) (P : Nat → AV) (f : Nat → Int) : evB Tryz.f77 [.it .u64 t] (busO time alarm P f) (finA 7 [bk, mk 6]) = some (true, .tup [.tup [], busR t alarm P, byA 32768 f]) := by kernel_rfl
theorem set_time {time alarm t : Int} {o : Nat → List UInt8} {f : Nat → Int} (hf : isBy f) (ht : 0 ≤ t) (ha : 0 ≤ alarm) : Small Tryz.prog 77 [.pt 0 [] J6, .it .u64 t] (busM time alarm o f 2) (.tup []) (busM t alarm o f 4) :=
  ad6 dX2 ⟨Tryz.func77, of_decide_eq_true (by kernel_rfl)⟩ rfl hf ht ha (fun vo => dT6 time alarm t (Q6 vo) f) rfl (.inl ⟨rfl, rfl⟩)
def bi2 (S : BusS) (h : Nat) : Mem := busM S.t S.a S.o S.f h
def aL0 (shs : List Sh) (C : Option ((Nat → AV) → BusS → Bool)) (V : (Nat → AV) → BusS → AV) (U : (Nat → AV) → BusS → BusS) : MRow := fun args m => match args with
  | .pt b [] r :: rest => bif r.beq J6 && Sh.beqs (AV.shapes rest) shs then
      (match m.get b with
      | some (.obj k st [.pt q [] r'] h) => (match m.get q with
        | some (.obj k' st' [] h') => bif (Nat.beq k 1 && (Nat.beq k' 0 && r'.beq E5)) && aI4 [b, q, h, h'] then
            some (C.map fun c => c (fun i => rest.getD i .un) ⟨tmOf st, alOf st, oOf st, fOf st'⟩, [b, q, h, h'], V (fun i => rest.getD i .un) ⟨tmOf st, alOf st, oOf st, fOf st'⟩, bi2 (U (fun i => rest.getD i .un) ⟨tmOf st, alOf st, oOf st, fOf st'⟩) 4) else none
        | _ => none)
      | _ => none) else none
  | _ => none
theorem bd0 : ∀ {l : List Nat}, aI4 l = true → l.Nodup
  | [], _ => List.nodup_nil
  | a :: r, h => by
    simp only [aI4, Bool.and_eq_true, List.all_eq_true] at h
    refine List.nodup_cons.2 ⟨fun hm => ?_, bd0 h.2⟩
    have := h.1 a hm
    simp at this
theorem bD1 {F : FuncId} {shs : List Sh} {C : Option ((Nat → AV) → BusS → Bool)} {V : (Nat → AV) → BusS → AV} {U : (Nat → AV) → BusS → BusS} (hshs : Sh.hasRef.Sh.hasRefs shs = false) (hV : ∀ g S, okV (V g S) = true)
    (h : ∀ g S, (∀ a ∈ r7 shs 0 g, posA a) → S.Ok → (∀ c, C = some c → c g S = true) → Small Tryz.prog F (.pt 0 [] J6 :: r7 shs 0 g) (bi2 S 2) (V g S) (bi2 (U g S) 4)) : aa3 Tryz.prog F (aL0 shs C V U) := fun args m c τ v m1 he hc => by
  unfold aL0 at he
  split at he <;> try (cases he; done)
  rename_i b r rest
  cases hb : r.beq J6 && Sh.beqs (AV.shapes rest) shs with
  | false => rw [hb] at he; cases he
  | true =>
  rw [hb, cond_true] at he
  simp only [Bool.and_eq_true] at hb
  have hr := Sh.beq_eq _ _ hb.1
  have hs := Sh.beqs_eq _ _ hb.2
  subst hr
  split at he <;> try (cases he; done)
  rename_i k st q r' hh hm
  split at he <;> try (cases he; done)
  rename_i k' st' hh' hm'
  cases hb2 : (Nat.beq k 1 && (Nat.beq k' 0 && r'.beq E5)) && aI4 [b, q, hh, hh'] with
  | false => rw [hb2] at he; cases he
  | true =>
  rw [hb2, cond_true] at he
  cases he
  simp only [Bool.and_eq_true, Nat.beq_eq] at hb2
  obtain ⟨⟨rfl, rfl, hr'⟩, hap⟩ := hb2
  have hr' := Sh.beq_eq _ _ hr'
  subst hr'
  refine ⟨.pt 0 [] J6 :: rest, objM 1 st [(0, st', [])] 2, Small.of_args fun w1 w2 => Small.of_own (m := objM 1 st [(0, st', [])] 2) (id := 0) (k := 1) rfl fun ⟨root, tl, hl⟩ => Small.of_own (m := objM 1 st [(0, st', [])] 2) (id := 1) (k := 0) rfl fun ⟨root', tl', hl'⟩ => ?_,
    ⟨bd0 hap, rfl, ⟨.inr (.inl ⟨0, [], J6, rfl, rfl, Nat.succ_pos 3⟩), ag7 (aq9 rest (by rw [hs]; exact hshs))⟩, fun i b' hb' => ?_⟩, by show 4 ≤ 6; omega, hV _ _, fun i b' hb' => ?_⟩
  · obtain ⟨time, alarm, o, vo, t0, a0, rfl, _⟩ := (show busK.lay st root tl from hl)
    obtain ⟨f, tip, hby, rfl, _⟩ := (show memK.lay st' root' tl' from hl')
    have e1 : r7 shs 0 (fun i => rest.getD i .un) = rest := aK5 shs rest 0 _ w1.2 hs fun j => by simp
    have := h (fun i => rest.getD i .un) ⟨time, alarm, o, f⟩ (fun a ha => w2 a (List.mem_cons_of_mem _ (by rw [e1] at ha; exact ha))) ⟨t0, a0, hby⟩ fun c hcc => by
      subst hcc
      rcases hc with hc | hc
      · cases hc
      · injection hc
    rw [e1] at this
    exact this
  · rcases aB1 hb' with ⟨rfl, rfl⟩ | ⟨j, kj, sj, ps, hj, rfl, rfl⟩
    · exact ⟨Nat.succ_pos 3, rfl, (fun t wr e => by cases e), hm⟩
    · cases j with
      | zero => cases hj; exact ⟨by show 1 < 4; omega, rfl, (fun t wr e => by cases e), hm'⟩
      | succ j => simp at hj
  · rcases aB1 hb' with ⟨rfl, rfl⟩ | ⟨j, kj, sj, ps, hj, rfl, rfl⟩
    · exact ⟨by show 0 < 6; omega, rfl, fun h => by cases h⟩
    · cases j with
      | zero => cases hj; exact ⟨by show 1 < 6; omega, rfl, fun h => by cases h⟩
      | succ j => simp at hj
def bo2 : MRow := aL0 [.int .u64, .int .i64] none (fun g S => busRdV S.t S.a S.f (g 0).num (g 1).num) (fun g S => S)
def aW8 : MRow := aL0 [.int .u64, .int .i64, .int .u64] none (fun g S => .bl (S1 (g 0).num (g 1).num)) (fun g S => ⟨S.t, bC2 S.a (g 0).num (g 1).num (g 2).num, bJ2 S.o (g 0).num (g 1).num (g 2).num, bG9 S.f (g 0).num (g 1).num (g 2).num⟩)
def az2 : MRow := aL0 [.int .u64] none (fun g S => .tup []) (fun g S => { S with t := (g 0).num })
theorem cG6 : aa3 Tryz.prog 17 bo2 := bD1 rfl (fun _ _ => rfl) fun g S hp hS _ => bus_read hS.f hS.t hS.a
theorem ct5 : aa3 Tryz.prog 229 aW8 := bD1 rfl (fun _ _ => rfl) fun g S hp hS _ => bus_write hS.f hS.t hS.a (hp (.it .u64 (g 2).num) (by simp [r7, norm]) rfl)
theorem bF2 : aa3 Tryz.prog 77 az2 := bD1 rfl (fun _ _ => rfl) fun g S hp hS _ => set_time hS.f (hp (.it .u64 (g 0).num) (by simp [r7, norm]) rfl) hS.a
end
end Go.Proofs.YtbkdnehnhbaieaaGreat.PV
set_option maxRecDepth 100000
set_option linter.unusedVariables false
namespace Go.Proofs.YtbkdnehnhbaieaaGreat.PV
noncomputable section
open Go Go.Ev
def memRO (f : Nat → Int) (tip : Bool) : Mem := { n := 2, t := ((Tr.mk 12).set (some (.cells (.agg [.sl 1 [] 0 32768 tip]) false)) 0).set (some (.cells (byA 32768 f) false)) 1 }
theorem cX1 {f : Nat → Int} {tip : Bool} {i : Nat} {b : Blk} (h : (memRO f tip).get i = some b) : (i = 0 ∧ b = .cells (.agg [.sl 1 [] 0 32768 tip]) false) ∨ (i = 1 ∧ b = .cells (byA 32768 f) false) := by
  rcases Tr.get_set _ _ 1 i b h with ⟨rfl, h1⟩ | ⟨_, h1⟩
  · exact .inr ⟨rfl, (Option.some.inj h1).symm⟩
  · rcases Tr.get_set _ _ 0 i b h1 with ⟨rfl, h2⟩ | ⟨_, h2⟩
    · exact .inl ⟨rfl, (Option.some.inj h2).symm⟩
    · rw [Tr.get_mk] at h2; cases h2
def dn9 (m : Mem) (id : Nat) : Option AV := match m.get id with
  | some (.obj k st [] _) => bif Nat.beq k 0 then some st else none
  | some (.rob k st [] _) => bif Nat.beq k 0 then some st else none
  | _ => none
theorem dC0 {ρ : Ren} {A : Nat → Prop} {m : Mem} {w : World} (hR : Rep ρ A m w) {id : Nat} {st : AV} (h : dn9 m id = some st) :
    ρ.dom id ∧ ρ.sh id = E5 ∧ ∃ h, memK.own st [] w (ρ.bb id) (ρ.bo id) (ρ.ft h) := by
  unfold dn9 at h
  split at h <;> try (cases h; done)
  · rename_i k st' hh hm
    cases hk : Nat.beq k 0 with
    | false => rw [hk] at h; cases h
    | true =>
    rw [hk, cond_true] at h; cases h
    have := Nat.eq_of_beq_eq_true hk
    subst this
    obtain ⟨g1, g2, _, ⟨_, vs, g3, g4⟩, _⟩ := hR.blk _ _ hm
    cases vs with
    | nil => exact ⟨g1, g2, hh, g4⟩
    | cons => exact g3.elim
  · rename_i k st' hh hm
    cases hk : Nat.beq k 0 with
    | false => rw [hk] at h; cases h
    | true =>
    rw [hk, cond_true] at h; cases h
    have := Nat.eq_of_beq_eq_true hk
    subst this
    obtain ⟨g1, g2, _, ⟨_, vs, g3, g4⟩⟩ := hR.blk _ _ hm
    cases vs with
    | nil => exact ⟨g1, g2, hh, g4⟩
    | cons => exact g3.elim
theorem mem_reads {F : FuncId} {rest : List AV} {f : Nat → Int} {v : AV} (hrest : S4 rest = true) (hv : plain v = true) (run : ∀ tip, ∃ m1, Small Tryz.prog F (.pt 0 [] E5 :: rest) (memRO f tip) v m1)
    {m : Mem} {id : Nat} (hm : dn9 m id = some (byA 32768 f)) : ∀ (ρ : Ren) A w vals, Rep ρ A m w → All2 (VR3 ρ) (.pt id [] E5 :: rest) vals → Done Tryz.prog ρ A w (callFunc F vals.toArray) v m := by
  intro ρ A w vals hR ha
  obtain ⟨hd, hsh, h, hown⟩ := dC0 hR hm
  obtain ⟨ρn, root, tl, hlay, ⟨n1, n2, n3⟩, hroot, htl, hdis, hft, hdom, _⟩ := hown
  obtain ⟨f0, tip, hby, hst, rfl, ht⟩ := (show memK.lay (byA 32768 f) root tl from hlay)
  obtain rfl := byA_inj hst
  obtain ⟨m1, hS⟩ := run tip
  obtain ⟨t1, t2, t3, t4⟩ := htl 1 _ Nat.one_pos (by decide) ht
  have ro : ∀ i t, bf0 ρn w i t → H5 ρn (fun x => w.heap.size ≤ x) w i (.cells t false) := fun i t h => ⟨h.1, h.2.1, h.2.2.1, h.2.2.2.1, fun h => by cases h⟩
  have hle : ρn.le { ρn with n := 2 } := ⟨fun _ h => h, fun _ _ => rfl, fun _ _ => rfl, fun _ _ => rfl, fun _ _ => rfl, fun _ _ => rfl⟩
  have hR0 : Rep { ρn with n := 2 } (fun x => w.heap.size ≤ x) (memRO f tip) w := by
    refine ⟨rfl, fun i hi => hdom i hi, fun i b hb => ?_, fun i j bi bj hi hj hij hw => ?_, fun x h => h, hR.tab.mono fun x hlt h => by omega⟩
    · rcases cX1 hb with ⟨rfl, rfl⟩ | ⟨rfl, rfl⟩
      · exact ⟨n3, (ro 0 _ hroot).later n3 hle fun _ _ => rfl⟩
      · exact ⟨t1, (ro 1 _ t2).later t1 hle fun _ _ => rfl⟩
    · rcases cX1 hi with ⟨rfl, rfl⟩ | ⟨rfl, rfl⟩ <;> cases hw
  have hargs : All2 (VR3 { ρn with n := 2 }) (.pt 0 [] E5 :: rest) vals := by
    match vals, ha with
    | rv :: vals, ⟨ha1, ha2⟩ =>
    refine ⟨?_, ?_⟩
    · obtain ⟨z1, z2, t, o, z3, z4⟩ := ha1
      have e0 : ρn.sh 0 = E5 := hroot.1
      have z3 : G5 (ρ.sh id) [] t o := z3
      rw [hsh] at z3
      refine ⟨n3, e0, t, o, by show G5 (ρn.sh 0) [] t o; rw [e0]; exact z3, ?_⟩
      show rv = .pointer (some ⟨ρn.bb 0, ρn.bo 0 + o, none⟩)
      rw [n1, n2]; exact z4
    · exact (ag7 (n := 0) (τ := fun i => i) hrest).swap ha2 fun a b c h hv => by
        rcases h with ⟨h1, rfl⟩ | ⟨_, _, _, _, _, h⟩ | ⟨_, _, _, _, _, _, _, h⟩
        · exact ao0 h1 hv
        · omega
        · omega
  have key : ∀ {ρs : Ren} {w' : World} {rv : Value}, Upd (fun x => w.heap.size ≤ x) w w' → VR3 ρs v rv → Rep ρ A m w' ∧ Upd A w w' ∧ VR3 ρ v rv := fun {ρs w' rv} hU hvr =>
    ⟨hR.later hU.size fun b hb => hU.old b hb (by omega), hU.mono fun i hi hA => by omega, ao0 hv hvr⟩
  rcases hS _ _ w vals hR0 hargs with ⟨ρs, rv, w', nx, h1, h2, h3, h4, h5, h6⟩ | ⟨g, args', h1, h2⟩
  · obtain ⟨k1, k2, k3⟩ := key h5 h6
    exact .inl ⟨ρ, rv, w', nx, h1, h2, Ren.ext.refl ρ, k1, k2, k3⟩
  · refine .inr ⟨g, args', h1, h2.mono fun e w' ⟨ρs, rv, g1, g2, g3, g4, g5⟩ => ?_⟩
    obtain ⟨k1, k2, k3⟩ := key g4 g5
    exact ⟨ρ, rv, g1, Ren.ext.refl ρ, k1, k2, k3⟩
noncomputable def cC5 (shs : List Sh) (C : Option ((Nat → AV) → (Nat → Int) → Bool)) (V : (Nat → AV) → (Nat → Int) → AV) : GRow := fun args m => match args with
  | .pt id [] r :: rest => bif r.beq E5 && Sh.beqs (AV.shapes rest) shs then
      (match dn9 m id with
      | some st => some (C.map fun c => c (fun i => rest.getD i .un) (fOf st), V (fun i => rest.getD i .un) (fOf st), m)
      | none => none) else none
  | _ => none
theorem dD3 {F : FuncId} {shs : List Sh} {C : Option ((Nat → AV) → (Nat → Int) → Bool)} {V : (Nat → AV) → (Nat → Int) → AV} (hshs : Sh.hasRef.Sh.hasRefs shs = false)
    (h : ∀ g f (m : Mem) id, (∀ a ∈ r7 shs 0 g, posA a) → isBy f → (∀ c, C = some c → c g f = true) → dn9 m id = some (byA 32768 f) → Small Tryz.prog F (.pt id [] E5 :: r7 shs 0 g) m (V g f) m) : ax2 Tryz.prog F (cC5 shs C V) := fun args m c v m1 he hc => by
  unfold cC5 at he
  split at he <;> try (cases he; done)
  rename_i id r rest
  cases hb : r.beq E5 && Sh.beqs (AV.shapes rest) shs with
  | false => rw [hb] at he; cases he
  | true =>
  rw [hb, cond_true] at he
  simp only [Bool.and_eq_true] at hb
  have hr := Sh.beq_eq _ _ hb.1
  have hs := Sh.beqs_eq _ _ hb.2
  subst hr
  split at he <;> try (cases he; done)
  rename_i st hm
  cases he
  refine Small.of_args fun w1 w2 => ?_
  intro ρ A w vals hR ha
  obtain ⟨_, _, hh, hown⟩ := dC0 hR hm
  obtain ⟨_, root, tl, hlay, _⟩ := hown
  obtain ⟨f, tip, hby, rfl, _, _⟩ := (show memK.lay st root tl from hlay)
  have e1 : r7 shs 0 (fun i => rest.getD i .un) = rest := aK5 shs rest 0 _ w1.2 hs fun j => by simp
  have := h (fun i => rest.getD i .un) f m id (fun a ha => w2 a (List.mem_cons_of_mem _ (by rw [e1] at ha; exact ha))) hby (fun c hcc => by
    subst hcc
    rcases hc with hc | hc
    · cases hc
    · injection hc) hm
  rw [e1] at this
  exact this ρ A w vals hR ha
theorem bJ0 {H : Hd} (hH : N6 Tryz.prog H) {pc : Pcs} (hpc : r0 Tryz.prog pc) {ro : FuncId → Bool} {N : Nat} {st : Bool} {F : FuncId} {fn : Func} (hf : Plain Tryz.prog F fn) {args : List AV} {m : Mem} {g : Bool} {v : AV}
    (he : evFn Tryz.prog okT pc H ro NOV N st fn args m (fun v _ => some (true, v)) = some (g, v)) (hg : g = true) : ∃ m', Small Tryz.prog F args m v m' := by
  obtain ⟨v', m', h1, h2⟩ := ci9 mix A7 hpc hH hf (fun c _ => m7 c) he hg
  cases h1
  exact ⟨m', fun ρ A w vals hR ha => h2 ρ A w vals hR ha⟩
theorem read_ev (f : Nat → Int) (tip : Bool) (a n : Int) : evFn Tryz.prog okT (m5 T80) NOH RO NOV 101 false Tryz.f53 [.pt 0 [] E5, .it .u64 a, .it .i64 n] (memRO f tip) (fun v _ => some (true, v)) =
    some (cV4 f a n, .tup [.it .u64 (cY8 f a n), .it .i64 (ba8 a n)]) := by kernel_rfl
noncomputable def rdRead : GRow := cC5 [.int .u64, .int .i64] none (fun g f => .tup [.it .u64 (cY8 f (g 0).num (g 1).num), .it .i64 (ba8 (g 0).num (g 1).num)])
theorem rdRead_ok : ax2 Tryz.prog 53 rdRead := dD3 rfl fun g f m id hp hf _ hm =>
  mem_reads rfl rfl (fun tip => bJ0 E9 aB8 readP (read_ev f tip (g 0).num (g 1).num) (dJ1 f _ (hp _ List.mem_cons_self rfl))) hm
def memT (f : Nat → Int) : Mem := { n := 2, t := (Tr.mk 12).set (some (.rob 0 (byA 32768 f) [] 1)) 0 }
theorem memT_get {f : Nat → Int} {i : Nat} {b : Blk} (h : (memT f).get i = some b) : i = 0 ∧ b = .rob 0 (byA 32768 f) [] 1 := by
  rcases Tr.get_set _ _ 0 i b h with ⟨rfl, h1⟩ | ⟨_, h1⟩
  · exact ⟨rfl, (Option.some.inj h1).symm⟩
  · rw [Tr.get_mk] at h1; cases h1
theorem reads_of {F : FuncId} {rest : List AV} {f : Nat → Int} {v : AV} (hrest : S4 rest = true) (hv : plain v = true) (hS : ∃ m1, Small Tryz.prog F (.pt 0 [] E5 :: rest) (memT f) v m1) {m : Mem} {id : Nat} (hm : dn9 m id = some (byA 32768 f)) :
    Small Tryz.prog F (.pt id [] E5 :: rest) m v m := by
  obtain ⟨m1, hS⟩ := hS
  have go : ∀ b' h, m.get id = some b' → Blk.rob 0 (byA 32768 f) [] h = roB b' → Small Tryz.prog F (.pt id [] E5 :: rest) m v m := fun b' h hb' hro ρ A w vals hR ha => by
    exact Small.reads (τ := [id, h]) (args := .pt id [] E5 :: rest) hS rfl ⟨.inr (.inl ⟨0, [], E5, rfl, rfl, Nat.succ_pos 1⟩), ag7 hrest⟩ (fun i b hb => by
      obtain ⟨rfl, rfl⟩ := memT_get hb
      exact ⟨Nat.succ_pos 1, rfl, rfl, (fun t wr e => by cases e), b', hb', hro⟩) (.inl ⟨hv, rfl⟩) ρ A w vals hR ha
  unfold dn9 at hm
  split at hm <;> try (cases hm; done)
  · rename_i k st hh hb
    cases hk : Nat.beq k 0 with
    | false => rw [hk] at hm; cases hm
    | true =>
    rw [hk, cond_true] at hm; cases hm
    have := Nat.eq_of_beq_eq_true hk
    subst this
    exact go _ hh hb rfl
  · rename_i k st hh hb
    cases hk : Nat.beq k 0 with
    | false => rw [hk] at hm; cases hm
    | true =>
    rw [hk, cond_true] at hm; cases hm
    have := Nat.eq_of_beq_eq_true hk
    subst this
    exact go _ hh hb rfl
theorem bH2 {F : FuncId} {fn : Func} (hf : Plain Tryz.prog F fn) {H : Hd} (hH : N6 Tryz.prog H) {pc : Pcs} (hpc : r0 Tryz.prog pc) {ro : FuncId → Bool} {N : Nat} {st : Bool} {shs : List Sh} {C : Option ((Nat → AV) → (Nat → Int) → Bool)} {V : (Nat → AV) → (Nat → Int) → AV} {G : (Nat → AV) → (Nat → Int) → Bool}
    (hshs : Sh.hasRef.Sh.hasRefs shs = false) (hpl : ∀ g, S4 (r7 shs 0 g) = true) (hV : ∀ g f, plain (V g f) = true)
    (he : ∀ g f, evFn Tryz.prog okT pc H ro NOV N st fn (.pt 0 [] E5 :: r7 shs 0 g) (memT f) (fun v _ => some (true, v)) = some (G g f, V g f))
    (hG : ∀ g f, (∀ a ∈ r7 shs 0 g, posA a) → isBy f → (∀ c, C = some c → c g f = true) → G g f = true) : ax2 Tryz.prog F (cC5 shs C V) :=
  dD3 hshs fun g f m id hp hf' hc hm => reads_of (hpl g) (hV g f) (bJ0 hH hpc hf (he g f) (hG g f hp hf' hc)) hm
end
end Go.Proofs.YtbkdnehnhbaieaaGreat.PV
set_option maxRecDepth 100000
set_option linter.unusedVariables false
namespace Go.Proofs.YtbkdnehnhbaieaaGreat.PV
noncomputable section
open Go Go.Ev
def busAt (m : Mem) (id : Nat) : Option (Nat × Sh) := match m.get id with
  | some (.obj k st [.pt q [] r] _) => bif Nat.beq k 1 then some (q, r) else none
  | some (.rob k st [.pt q [] r] _) => bif Nat.beq k 1 then some (q, r) else none
  | _ => none
theorem busAt_ok {ρ : Ren} {A : Nat → Prop} {m : Mem} {w : World} (hR : Rep ρ A m w) {id q : Nat} {r : Sh} (h : busAt m id = some (q, r)) :
    ρ.dom id ∧ ρ.sh id = J6 ∧ ∃ st val h, VR1 ρ (.pt q [] r) val ∧ busK.own st [val] w (ρ.bb id) (ρ.bo id) (ρ.ft h) := by
  have fin : ∀ {vs : List Value} {st : AV} {hh : Nat}, All2 (VR1 ρ) [.pt q [] r] vs → busK.own st vs w (ρ.bb id) (ρ.bo id) (ρ.ft hh) → ∃ st val h, VR1 ρ (.pt q [] r) val ∧ busK.own st [val] w (ρ.bb id) (ρ.bo id) (ρ.ft h) := fun {vs st hh} g3 g4 => by
    match vs, g3 with
    | [val], ⟨g3, _⟩ => exact ⟨st, val, hh, g3, g4⟩
  unfold busAt at h
  split at h <;> try (cases h; done)
  · rename_i k st' q' r' hh hm
    cases hk : Nat.beq k 1 with
    | false => rw [hk] at h; cases h
    | true =>
    rw [hk, cond_true] at h; cases h
    have := Nat.eq_of_beq_eq_true hk
    subst this
    obtain ⟨g1, g2, _, ⟨_, vs, g3, g4⟩, _⟩ := hR.blk _ _ hm
    exact ⟨g1, g2, fin g3 g4⟩
  · rename_i k st' q' r' hh hm
    cases hk : Nat.beq k 1 with
    | false => rw [hk] at h; cases h
    | true =>
    rw [hk, cond_true] at h; cases h
    have := Nat.eq_of_beq_eq_true hk
    subst this
    obtain ⟨g1, g2, _, ⟨_, vs, g3, g4⟩⟩ := hR.blk _ _ hm
    exact ⟨g1, g2, fin g3 g4⟩
def dV4 (time alarm : Int) (P : Nat → AV) : Mem := { n := 6, t := (Tr.mk 12).set (some (.cells (busR time alarm P) false)) 0 }
theorem df3 (time alarm : Int) (P : Nat → AV) : evFn Tryz.prog okT (m5 T80) NOH RO NOV 101 false Tryz.f35 [.pt 0 [] J6] (dV4 time alarm P) (fun v _ => some (true, v)) = some (true, .pt 5 [] E5) := by kernel_rfl
noncomputable def aK6 : GRow := fun args m => match args with
  | [.pt id [] r] => bif r.beq J6 then (match busAt m id with
    | some (q, r') => bif r'.beq E5 then some (none, .pt q [] E5, m) else none
    | none => none) else none
  | _ => none
theorem cm1 : ax2 Tryz.prog 35 aK6 := fun args m c v m1 he _ => by
  unfold aK6 at he
  split at he <;> try (cases he; done)
  rename_i id r
  cases hb : r.beq J6 with
  | false => rw [hb] at he; cases he
  | true =>
  rw [hb, cond_true] at he
  have := Sh.beq_eq _ _ hb
  subst this
  split at he <;> try (cases he; done)
  rename_i q r' hq
  cases hb2 : r'.beq E5 with
  | false => rw [hb2] at he; cases he
  | true =>
  rw [hb2, cond_true] at he
  have := Sh.beq_eq _ _ hb2
  subst this
  cases he
  intro ρ A w vals hR ha
  obtain ⟨hd, hsh, st, val, h, hval, hown⟩ := busAt_ok hR hq
  obtain ⟨ρn, root, tl, hlay, ⟨n1, n2, n3⟩, hroot, htl, hdis, hft, hdom, hvl, hpr⟩ := hown
  obtain ⟨time, alarm, o, vo, t0, a0, _, rfl, _⟩ := (show busK.lay st root tl from hlay)
  obtain ⟨m1, hS⟩ := bJ0 E9 aB8 (F := 35) (fn := Tryz.f35) ⟨Tryz.func35, of_decide_eq_true (by kernel_rfl)⟩ (df3 time alarm (fun p => .agg [.nsl, vo p, .it .i64 0])) rfl
  obtain ⟨p1, p2, p3⟩ := hpr 0 E5 rfl
  have hle : ρn.le { ρn with n := 6 } := ⟨fun _ h => h, fun _ _ => rfl, fun _ _ => rfl, fun _ _ => rfl, fun _ _ => rfl, fun _ _ => rfl⟩
  have hR0 : Rep { ρn with n := 6 } (fun x => w.heap.size ≤ x) (dV4 time alarm (fun p => .agg [.nsl, vo p, .it .i64 0])) w := by
    have hg : ∀ i b, (dV4 time alarm (fun p => .agg [.nsl, vo p, .it .i64 0])).get i = some b → i = 0 ∧ b = .cells (busR time alarm (fun p => .agg [.nsl, vo p, .it .i64 0])) false := fun i b hb => by
      rcases Tr.get_set _ _ 0 i b hb with ⟨rfl, h2⟩ | ⟨_, h2⟩
      · exact ⟨rfl, (Option.some.inj h2).symm⟩
      · rw [Tr.get_mk] at h2; cases h2
    refine ⟨rfl, fun i hi => hdom i hi, fun i b hb => ?_, fun i j bi bj hi hj hij hw => ?_, fun x h => h, hR.tab.mono fun x hlt h => by omega⟩
    · obtain ⟨rfl, rfl⟩ := hg i b hb
      have hc : H5 ρn (fun x => w.heap.size ≤ x) w 0 (.cells (busR time alarm (fun p => .agg [.nsl, vo p, .it .i64 0])) false) := ⟨hroot.1, hroot.2.1, hroot.2.2.1, hroot.2.2.2.1, fun h => by cases h⟩
      exact ⟨n3, hc.later n3 hle fun _ _ => rfl⟩
    · obtain ⟨rfl, rfl⟩ := hg i bi hi
      cases hw
  have hargs : All2 (VR3 { ρn with n := 6 }) [.pt 0 [] J6] vals := by
    match vals, ha with
    | [rv], ⟨ha1, _⟩ =>
    refine ⟨?_, trivial⟩
    obtain ⟨z1, z2, t, o', z3, z4⟩ := ha1
    have e0 : ρn.sh 0 = J6 := hroot.1
    have z3 : G5 (ρ.sh id) [] t o' := z3
    rw [hsh] at z3
    refine ⟨n3, e0, t, o', by show G5 (ρn.sh 0) [] t o'; rw [e0]; exact z3, ?_⟩
    show rv = .pointer (some ⟨ρn.bb 0, ρn.bo 0 + o', none⟩)
    rw [n1, n2]; exact z4
  have hvq : ∀ {ρs : Ren} {rv : Value}, ({ ρn with n := 6 } : Ren).ext ρs → VR3 ρs (.pt 5 [] E5) rv → VR3 ρ (.pt q [] E5) rv := fun {ρs rv} he hv => by
    obtain ⟨z1, z2, t, o', z3, z4⟩ := hv
    obtain ⟨y1, y2, t', o2, y3, y4⟩ := hval
    have e1 := he.sh 5 p1
    have e2 := he.bb 5 p1
    have e3 := he.bo 5 p1
    have p3 : some val = some (Value.pointer (some ⟨ρn.bb 5, ρn.bo 5, none⟩)) := p3
    have p3 := Option.some.inj p3
    rw [p3] at y4
    injection y4 with y4
    injection y4 with y4
    injection y4 with y5 y6 _
    obtain ⟨q1, rfl⟩ := z3
    obtain ⟨q2, rfl⟩ := y3
    refine ⟨y1, y2, _, 0, ⟨rfl, rfl⟩, ?_⟩
    rw [z4]
    have e2 : ρs.bb 5 = ρn.bb 5 := e2
    have e3 : ρs.bo 5 = ρn.bo 5 := e3
    rw [e2, e3, y5, y6]
  have key : ∀ {ρs : Ren} {w' : World} {rv : Value}, ({ ρn with n := 6 } : Ren).ext ρs → Upd (fun x => w.heap.size ≤ x) w w' → VR3 ρs (.pt 5 [] E5) rv → Rep ρ A m w' ∧ Upd A w w' ∧ VR3 ρ (.pt q [] E5) rv := fun {ρs w' rv} he hU hvr =>
    ⟨hR.later hU.size fun b hb => hU.old b hb (by omega), hU.mono fun i hi hA => by omega, hvq he hvr⟩
  rcases hS _ _ w vals hR0 hargs with ⟨ρs, rv, w', nx, h1, h2, h3, h4, h5, h6⟩ | ⟨g, args', h1, h2⟩
  · obtain ⟨k1, k2, k3⟩ := key h3 h5 h6
    exact .inl ⟨ρ, rv, w', nx, h1, h2, Ren.ext.refl ρ, k1, k2, k3⟩
  · refine .inr ⟨g, args', h1, h2.mono fun e w' ⟨ρs, rv, g1, g2, g3, g4, g5⟩ => ?_⟩
    obtain ⟨k1, k2, k3⟩ := key g2 g4 g5
    exact ⟨ρ, rv, g1, Ren.ext.refl ρ, k1, k2, k3⟩
def busSt (m : Mem) (id : Nat) : Option AV := match m.get id with
  | some (.obj k st _ _) => bif Nat.beq k 1 then some st else none
  | some (.rob k st _ _) => bif Nat.beq k 1 then some st else none
  | _ => none
theorem busSt_ok {ρ : Ren} {A : Nat → Prop} {m : Mem} {w : World} (hR : Rep ρ A m w) {id : Nat} {st : AV} (h : busSt m id = some st) :
    ρ.dom id ∧ ρ.sh id = J6 ∧ ∃ vs h, busK.own st vs w (ρ.bb id) (ρ.bo id) (ρ.ft h) := by
  unfold busSt at h
  split at h <;> try (cases h; done)
  · rename_i k st' ps hh hm
    cases hk : Nat.beq k 1 with
    | false => rw [hk] at h; cases h
    | true =>
    rw [hk, cond_true] at h; cases h
    have := Nat.eq_of_beq_eq_true hk
    subst this
    obtain ⟨g1, g2, _, ⟨_, vs, g3, g4⟩, _⟩ := hR.blk _ _ hm
    exact ⟨g1, g2, vs, hh, g4⟩
  · rename_i k st' ps hh hm
    cases hk : Nat.beq k 1 with
    | false => rw [hk] at h; cases h
    | true =>
    rw [hk, cond_true] at h; cases h
    have := Nat.eq_of_beq_eq_true hk
    subst this
    obtain ⟨g1, g2, _, ⟨_, vs, g3, g4⟩⟩ := hR.blk _ _ hm
    exact ⟨g1, g2, vs, hh, g4⟩
noncomputable def HT : Hd := inlO Tryz.prog okT (m5 T80) RO [51] 400 ST (fun _ => hGr atoms NOH) 8
theorem HT_ok : N6 Tryz.prog HT := o9 mix A7 aB8 (aA8 (by kernel_rfl)) (fun h hh => au3 E9 cI1) 8
theorem dR5 (time alarm : Int) (P : Nat → AV) : evFn Tryz.prog okT (m5 T80) HT RO NOV 101 false Tryz.f79 [.pt 0 [] J6] (dV4 time alarm P) (fun v _ => some (true, v)) = some (true, .bl (iLe alarm time)) := by kernel_rfl
noncomputable def be8 : GRow := fun args m => match args with
  | [.pt id [] r] => bif r.beq J6 then (match busSt m id with
    | some st => some (none, .bl (iLe (alOf st) (tmOf st)), m)
    | none => none) else none
  | _ => none
theorem cu0 : ax2 Tryz.prog 79 be8 := fun args m c v m1 he _ => by
  unfold be8 at he
  split at he <;> try (cases he; done)
  rename_i id r
  cases hb : r.beq J6 with
  | false => rw [hb] at he; cases he
  | true =>
  rw [hb, cond_true] at he
  have := Sh.beq_eq _ _ hb
  subst this
  split at he <;> try (cases he; done)
  rename_i st hq
  cases he
  intro ρ A w vals hR ha
  obtain ⟨hd, hsh, vs, h, hown⟩ := busSt_ok hR hq
  obtain ⟨ρn, root, tl, hlay, ⟨n1, n2, n3⟩, hroot, htl, hdis, hft, hdom, hvl, hpr⟩ := hown
  obtain ⟨time, alarm, o, vo, t0, a0, rfl, rfl, _⟩ := (show busK.lay st root tl from hlay)
  obtain ⟨m1, hS⟩ := bJ0 HT_ok aB8 (F := 79) (fn := Tryz.f79) ⟨Tryz.func79, of_decide_eq_true (by kernel_rfl)⟩ (dR5 time alarm (fun p => .agg [.nsl, vo p, .it .i64 0])) rfl
  have hle : ρn.le { ρn with n := 6 } := ⟨fun _ h => h, fun _ _ => rfl, fun _ _ => rfl, fun _ _ => rfl, fun _ _ => rfl, fun _ _ => rfl⟩
  have hR0 : Rep { ρn with n := 6 } (fun x => w.heap.size ≤ x) (dV4 time alarm (fun p => .agg [.nsl, vo p, .it .i64 0])) w := by
    have hg : ∀ i b, (dV4 time alarm (fun p => .agg [.nsl, vo p, .it .i64 0])).get i = some b → i = 0 ∧ b = .cells (busR time alarm (fun p => .agg [.nsl, vo p, .it .i64 0])) false := fun i b hb => by
      rcases Tr.get_set _ _ 0 i b hb with ⟨rfl, h2⟩ | ⟨_, h2⟩
      · exact ⟨rfl, (Option.some.inj h2).symm⟩
      · rw [Tr.get_mk] at h2; cases h2
    refine ⟨rfl, fun i hi => hdom i hi, fun i b hb => ?_, fun i j bi bj hi hj hij hw => ?_, fun x h => h, hR.tab.mono fun x hlt h => by omega⟩
    · obtain ⟨rfl, rfl⟩ := hg i b hb
      have hc : H5 ρn (fun x => w.heap.size ≤ x) w 0 (.cells (busR time alarm (fun p => .agg [.nsl, vo p, .it .i64 0])) false) := ⟨hroot.1, hroot.2.1, hroot.2.2.1, hroot.2.2.2.1, fun h => by cases h⟩
      exact ⟨n3, hc.later n3 hle fun _ _ => rfl⟩
    · obtain ⟨rfl, rfl⟩ := hg i bi hi
      cases hw
  have hargs : All2 (VR3 { ρn with n := 6 }) [.pt 0 [] J6] vals := by
    match vals, ha with
    | [rv], ⟨ha1, _⟩ =>
    refine ⟨?_, trivial⟩
    obtain ⟨z1, z2, t, o', z3, z4⟩ := ha1
    have e0 : ρn.sh 0 = J6 := hroot.1
    have z3 : G5 (ρ.sh id) [] t o' := z3
    rw [hsh] at z3
    refine ⟨n3, e0, t, o', by show G5 (ρn.sh 0) [] t o'; rw [e0]; exact z3, ?_⟩
    show rv = .pointer (some ⟨ρn.bb 0, ρn.bo 0 + o', none⟩)
    rw [n1, n2]; exact z4
  have key : ∀ {ρs : Ren} {w' : World} {rv : Value}, Upd (fun x => w.heap.size ≤ x) w w' → VR3 ρs (.bl (iLe alarm time)) rv → Rep ρ A m w' ∧ Upd A w w' ∧ VR3 ρ (.bl (iLe (alOf (busA time alarm o)) (tmOf (busA time alarm o)))) rv := fun {ρs w' rv} hU hvr =>
    ⟨hR.later hU.size fun b hb => hU.old b hb (by omega), hU.mono fun i hi hA => by omega, hvr⟩
  rcases hS _ _ w vals hR0 hargs with ⟨ρs, rv, w', nx, h1, h2, h3, h4, h5, h6⟩ | ⟨g, args', h1, h2⟩
  · obtain ⟨k1, k2, k3⟩ := key h5 h6
    exact .inl ⟨ρ, rv, w', nx, h1, h2, Ren.ext.refl ρ, k1, k2, k3⟩
  · refine .inr ⟨g, args', h1, h2.mono fun e w' ⟨ρs, rv, g1, g2, g3, g4, g5⟩ => ?_⟩
    obtain ⟨k1, k2, k3⟩ := key g4 g5
    exact ⟨ρ, rv, g1, Ren.ext.refl ρ, k1, k2, k3⟩
def busL : Lq := { n := 1, n0 := 4, ts := [0], mv := [], ids := [(0, .ob 1 [(1, E5)]), (1, .ob 0 [])] }
theorem aJ1 {F : FuncId} {fn : Func} (hf : Plain Tryz.prog F fn) {H : Hd} (hH : N6 Tryz.prog H) {pc : Pcs} (hpc : r0 Tryz.prog pc) {ro : FuncId → Bool} {N : Nat} {st : Bool} {shs : List Sh} {C : Option ((Nat → AV) → BusS → Bool)} {V : (Nat → AV) → BusS → AV} {G : (Nat → AV) → BusS → Bool} {U : (Nat → AV) → BusS → BusS}
    (hshs : Sh.hasRef.Sh.hasRefs shs = false) (hV : ∀ g S, okV (V g S) = true ∧ isGd (V g S) = false ∧ idOk 4 (V g S) = true)
    (he : ∀ g S, evFn Tryz.prog okT pc H ro NOV N st fn (.pt 0 [] J6 :: r7 shs 0 g) (bi2 S 2) (finQ busL) = some (G g S, .tup [.it .i64 0, V g S, busA (U g S).t (U g S).a (U g S).o, byA 32768 (U g S).f]))
    (hG : ∀ g S, (∀ a ∈ r7 shs 0 g, posA a) → S.Ok → (∀ c, C = some c → c g S = true) → G g S = true) : aa3 Tryz.prog F (aL0 shs C V U) :=
  bD1 hshs (fun g S => (hV g S).1) fun g S hp hS hc => by
    obtain ⟨_, v2, v3⟩ := hV g S
    exact ag0 (P := Tryz.prog) mix A7 hpc hH (L := busL) hf (fun c _ => m7 c) (he g S) (hG g S hp hS hc) rfl rfl rfl (by
      show (idOk 4 (V g S) && true && okBs 4 _ _) = true
      rw [v3]
      rfl) v2
end
end Go.Proofs.YtbkdnehnhbaieaaGreat.PV
set_option linter.unusedVariables false
set_option linter.unusedSimpArgs false
namespace Go.Proofs.YtbkdnehnhbaieaaGreat.PV
noncomputable section
open Go Go.Ev
def aE6 (f : Nat → Int) (a0 a1 : Int) : Int :=
 bif bif bif bif iLt a0 0 then true else iLe 128 a0 then true else iLt a1 0 then true else iLe 16 a1 then 0
 else cY8 (fOf (byA 32768 f)) (g8 .u64 (iAdd .i64 (iMul .i64 a0 256) (iMul .i64 a1 8))) 8
def ch3 (f : Nat → Int) (a0 a1 : Int) : Bool :=
 bif bif bif bif iLt a0 0 then true else iLe 128 a0 then true else iLt a1 0 then true else iLe 16 a1 then false else true
def dE4 (f : Nat → Int) (a0 a1 : Int) : Bool :=
 bif bif bif bif iLt a0 0 then true else iLe 128 a0 then true else iLt a1 0 then true else iLe 16 a1 then true else true
def entryV (f : Nat → Int) (a0 a1 : Int) : AV := .tup [.it .u64 (aE6 f a0 a1), .bl (ch3 f a0 a1)]
theorem entryE (f : Nat → Int) (a0 a1 : Int) : evFn Tryz.prog okT (m5 bq9) (hGr [(53, rdRead)] NOH) RO NOV 101 false Tryz.f151 [.pt 0 [] E5, .it .i64 a0, .it .i64 a1] (memT f) (fun v _ => some (true, v)) = some (dE4 f a0 a1, entryV f a0 a1) := by kernel_rfl
theorem entryT (f : Nat → Int) (a0 a1 : Int) : dE4 f a0 a1 = true := by
  unfold dE4
  simp only [cS1, cS2, cS3, cS4, cS6, cS7]
noncomputable def cf1 : GRow := cC5 [(.int .i64), (.int .i64)] none (fun g f => entryV f (g 0).num (g 1).num)
theorem cw8 : ax2 Tryz.prog 151 cf1 := bH2 ⟨Tryz.func151, of_decide_eq_true (by kernel_rfl)⟩ (au3 E9 (show GOk Tryz.prog [(53, rdRead)] from ⟨rdRead_ok, trivial⟩)) ac2 rfl (fun _ => rfl) (fun _ _ => rfl) (G := fun g f => dE4 f (g 0).num (g 1).num) (fun g f => entryE f (g 0).num (g 1).num) (fun g f hp hf hc => entryT f (g 0).num (g 1).num)
def cH0 (f : Nat → Int) (a0 a1 : Int) : Bool :=
 !ch3 (fOf (byA 32768 f)) (aA2 (aE6 (fOf (byA 32768 f)) a0 (g8 .i64 (g9 a1 12 4)))) (g8 .i64 (g9 a1 8 4))
def cA7 (f : Nat → Int) (a0 a1 : Int) : Int :=
 aE6 (fOf (byA 32768 f)) (aA2 (aE6 (fOf (byA 32768 f)) a0 (g8 .i64 (g9 a1 12 4)))) (g8 .i64 (g9 a1 8 4))
def cD8 (f : Nat → Int) (a0 a1 : Int) : Bool :=
 !bh5 (cA7 f a0 a1)
def cG2 (f : Nat → Int) (a0 a1 : Int) : Bool :=
 !aI7 (cA7 f a0 a1)
def dn0 (f : Nat → Int) (a0 a1 : Int) : Int :=
 bif iLe 65536 a1 then 0
 else
 bif !ch3 (fOf (byA 32768 f)) a0 (g8 .i64 (g9 a1 12 4)) then 0
 else
 bif !bh5 (aE6 (fOf (byA 32768 f)) a0 (g8 .i64 (g9 a1 12 4))) then 0
 else
 bif !aI7 (aE6 (fOf (byA 32768 f)) a0 (g8 .i64 (g9 a1 12 4))) then
 bif cH0 f a0 a1 then 0 else bif cD8 f a0 a1 then 0 else bif cG2 f a0 a1 then 0 else cA7 f a0 a1
 else
 bif iNe (g9 (aE6 (fOf (byA 32768 f)) a0 (g8 .i64 (g9 a1 12 4))) 8 4) 0 then 0
 else F9 (aE6 (fOf (byA 32768 f)) a0 (g8 .i64 (g9 a1 12 4))) 8 4 (g9 a1 8 4)
def dJ8 (f : Nat → Int) (a0 a1 : Int) : Int :=
 bif iLe 65536 a1 then 1
 else
 bif !ch3 (fOf (byA 32768 f)) a0 (g8 .i64 (g9 a1 12 4)) then 2
 else
 bif !bh5 (aE6 (fOf (byA 32768 f)) a0 (g8 .i64 (g9 a1 12 4))) then 1
 else
 bif !aI7 (aE6 (fOf (byA 32768 f)) a0 (g8 .i64 (g9 a1 12 4))) then bif cH0 f a0 a1 then 2 else bif cD8 f a0 a1 then 1 else bif cG2 f a0 a1 then 1 else 0
 else bif iNe (g9 (aE6 (fOf (byA 32768 f)) a0 (g8 .i64 (g9 a1 12 4))) 8 4) 0 then 1 else 0
def walkG (f : Nat → Int) (a0 a1 : Int) : Bool :=
 bif iLe 65536 a1 then true
 else
 bif !ch3 (fOf (byA 32768 f)) a0 (g8 .i64 (g9 a1 12 4)) then true
 else
 bif !bh5 (aE6 (fOf (byA 32768 f)) a0 (g8 .i64 (g9 a1 12 4))) then true
 else
 bif !aI7 (aE6 (fOf (byA 32768 f)) a0 (g8 .i64 (g9 a1 12 4))) then
 bif cH0 f a0 a1 then true else bif cD8 f a0 a1 then true else bif cG2 f a0 a1 then true else true
 else bif iNe (g9 (aE6 (fOf (byA 32768 f)) a0 (g8 .i64 (g9 a1 12 4))) 8 4) 0 then true else true
def walkV (f : Nat → Int) (a0 a1 : Int) : AV := .tup [.it .u64 (dn0 f a0 a1), .it .i64 (dJ8 f a0 a1)]
theorem walkE (f : Nat → Int) (a0 a1 : Int) : evFn Tryz.prog okT (m5 bq9) (inlO Tryz.prog okT (m5 bq9) RO [103, 154] 400 ST (fun _ => hGr [(151, cf1)] NOH) 8) RO NOV 101 false Tryz.f109 [.pt 0 [] E5, .it .i64 a0, .it .u64 a1] (memT f) (fun v _ => some (true, v)) = some (walkG f a0 a1, walkV f a0 a1) := by kernel_rfl
theorem walkT (f : Nat → Int) (a0 a1 : Int) : walkG f a0 a1 = true := by
  unfold walkG
  simp only [cH0, cA7, cD8, cG2, cS1, cS2, cS3, cS4, cS6, cS7]
noncomputable def dC6 : GRow := cC5 [(.int .i64), (.int .u64)] none (fun g f => walkV f (g 0).num (g 1).num)
theorem rdWalk_ok : ax2 Tryz.prog 109 dC6 := bH2 ⟨Tryz.func109, of_decide_eq_true (by kernel_rfl)⟩ (o9 mix A7 ac2 (aA8 (by kernel_rfl)) (fun h hh => au3 E9 (show GOk Tryz.prog [(151, cf1)] from ⟨cw8, trivial⟩)) 8) ac2 rfl (fun _ => rfl) (fun _ _ => rfl) (G := fun g f => walkG f (g 0).num (g 1).num) (fun g f => walkE f (g 0).num (g 1).num) (fun g f hp hf hc => walkT f (g 0).num (g 1).num)
def bi7 (f : Nat → Int) (d0 e8 d8 d9 : Bool) (e6 e7 B2 B0 a1 a2 : Int) : Int :=
 bif iNe (dJ8 (fOf (byA 32768 f)) B0 a1) 0 then 255
 else bif !O1 (g8 .i64 (I5 (dn0 (fOf (byA 32768 f)) B0 a1) 8)) a2 true false false then 255 else g8 .i64 (I5 (dn0 (fOf (byA 32768 f)) B0 a1) 8)
def ch2 (f : Nat → Int) (d0 e8 d8 d9 : Bool) (e6 e7 B2 B0 a1 a2 : Int) : Int :=
 bif !e8 then bif iLe 65536 a1 then 0 else a1
 else
 bif iNe (dJ8 (fOf (byA 32768 f)) B0 a1) 0 then 0
 else bif !O1 (g8 .i64 (I5 (dn0 (fOf (byA 32768 f)) B0 a1) 8)) a2 true false false then 0 else aD0 (aA2 (dn0 (fOf (byA 32768 f)) B0 a1)) a1
def df2 (f : Nat → Int) (d0 e8 d8 d9 : Bool) (e6 e7 B2 B0 a1 a2 : Int) : Int :=
 bif !e8 then 255 else bi7 f d0 e8 d8 d9 e6 e7 B2 B0 a1 a2
def dF4 (f : Nat → Int) (d0 e8 d8 d9 : Bool) (e6 e7 B2 B0 a1 a2 : Int) : Int :=
 bif !e8 then bif iLe 65536 a1 then 255 else 255 else bi7 f d0 e8 d8 d9 e6 e7 B2 B0 a1 a2
def ck2 (f : Nat → Int) (d0 e8 d8 d9 : Bool) (e6 e7 B2 B0 a1 a2 : Int) : Int :=
 bif !e8 then bif iLe 65536 a1 then 1 else 0
 else
 bif iNe (dJ8 (fOf (byA 32768 f)) B0 a1) 0 then dJ8 (fOf (byA 32768 f)) B0 a1
 else bif !O1 (g8 .i64 (I5 (dn0 (fOf (byA 32768 f)) B0 a1) 8)) a2 true false false then 1 else 0
def ck1 (f : Nat → Int) (d0 e8 d8 d9 : Bool) (e6 e7 B2 B0 a1 a2 : Int) : Bool :=
 bif !e8 then bif iLe 65536 a1 then true else true
 else bif iNe (dJ8 (fOf (byA 32768 f)) B0 a1) 0 then true else bif !O1 (g8 .i64 (I5 (dn0 (fOf (byA 32768 f)) B0 a1) 8)) a2 true false false then true else true
def cA3 (f : Nat → Int) (d0 e8 d8 d9 : Bool) (e6 e7 B2 B0 a1 a2 : Int) : AV := .tup [.it .u64 (ch2 f d0 e8 d8 d9 e6 e7 B2 B0 a1 a2), .it .i64 (df2 f d0 e8 d8 d9 e6 e7 B2 B0 a1 a2), .it .i64 (ck2 f d0 e8 d8 d9 e6 e7 B2 B0 a1 a2)]
def cK7 (f : Nat → Int) (d0 e8 d8 d9 : Bool) (e6 e7 B2 B0 a1 a2 : Int) : AV := .tup [.it .u64 (ch2 f d0 e8 d8 d9 e6 e7 B2 B0 a1 a2), .it .i64 (dF4 f d0 e8 d8 d9 e6 e7 B2 B0 a1 a2), .it .i64 (ck2 f d0 e8 d8 d9 e6 e7 B2 B0 a1 a2)]
theorem dT0 (f : Nat → Int) (d0 e8 d8 d9 : Bool) (e6 e7 B2 B0 a1 a2 : Int) : cK7 f d0 e8 d8 d9 e6 e7 B2 B0 a1 a2 = cA3 f d0 e8 d8 d9 e6 e7 B2 B0 a1 a2 := by
  unfold cK7 cA3 dF4 df2
  first | (simp only [bi7, cS1, cS2, cS3, cS4, cS6, cS7]; done) | (simp only [bi7, cS1, cS2, cS3, cS4, cS6, cS7]; kernel_rfl)
theorem secondE (f : Nat → Int) (d0 e8 d8 d9 : Bool) (e6 e7 B2 B0 a1 a2 : Int) : evFn Tryz.prog okT (m5 bq9) (hGr [(109, dC6)] NOH) RO NOV 101 false Tryz.f63 [.pt 0 [] E5, .agg [.bl d0, .bl e8, .bl d8, .bl d9, .it .i64 e6, .it .i64 e7, .it .i64 B2, .it .i64 B0], .it .u64 a1, .it .i64 a2] (memT f) (fun v _ => some (true, v)) = some (ck1 f d0 e8 d8 d9 e6 e7 B2 B0 a1 a2, cA3 f d0 e8 d8 d9 e6 e7 B2 B0 a1 a2) :=
 (by kernel_rfl : _ = some (ck1 f d0 e8 d8 d9 e6 e7 B2 B0 a1 a2, cK7 f d0 e8 d8 d9 e6 e7 B2 B0 a1 a2)).trans (by rw [dT0])
theorem secondT (f : Nat → Int) (d0 e8 d8 d9 : Bool) (e6 e7 B2 B0 a1 a2 : Int) : ck1 f d0 e8 d8 d9 e6 e7 B2 B0 a1 a2 = true := by
  unfold ck1
  simp only [bi7, cS1, cS2, cS3, cS4, cS6, cS7]
noncomputable def bo4 : GRow := cC5 [(.agg [(.bool), (.bool), (.bool), (.bool), (.int .i64), (.int .i64), (.int .i64), (.int .i64)]), (.int .u64), (.int .i64)] none (fun g f => cA3 f ((g 0).fld 0).bool ((g 0).fld 1).bool ((g 0).fld 2).bool ((g 0).fld 3).bool ((g 0).fld 4).num ((g 0).fld 5).num ((g 0).fld 6).num ((g 0).fld 7).num (g 1).num (g 2).num)
theorem cl8 : ax2 Tryz.prog 63 bo4 := bH2 ⟨Tryz.func63, of_decide_eq_true (by kernel_rfl)⟩ (au3 E9 (show GOk Tryz.prog [(109, dC6)] from ⟨rdWalk_ok, trivial⟩)) ac2 rfl (fun _ => rfl) (fun _ _ => rfl) (G := fun g f => ck1 f ((g 0).fld 0).bool ((g 0).fld 1).bool ((g 0).fld 2).bool ((g 0).fld 3).bool ((g 0).fld 4).num ((g 0).fld 5).num ((g 0).fld 6).num ((g 0).fld 7).num (g 1).num (g 2).num) (fun g f => secondE f ((g 0).fld 0).bool ((g 0).fld 1).bool ((g 0).fld 2).bool ((g 0).fld 3).bool ((g 0).fld 4).num ((g 0).fld 5).num ((g 0).fld 6).num ((g 0).fld 7).num (g 1).num (g 2).num) (fun g f hp hf hc => secondT f ((g 0).fld 0).bool ((g 0).fld 1).bool ((g 0).fld 2).bool ((g 0).fld 3).bool ((g 0).fld 4).num ((g 0).fld 5).num ((g 0).fld 6).num ((g 0).fld 7).num (g 1).num (g 2).num)
def cF1 (f : Nat → Int) (d0 e8 d8 d9 : Bool) (e6 e7 B2 B0 e9 n5 : Int) (l8 a2 : Bool) : Int :=
 ck2 (fOf (byA 32768 f)) d0 e8 d8 d9 e6 e7 B2 B0 (g8 .u64 (iAdd .i64 (iMul .i64 B2 256) (iMul .i64 (g8 .i64 (g9 e9 12 4)) 8))) 1
def aF9 (f : Nat → Int) (d0 e8 d8 d9 : Bool) (e6 e7 B2 B0 e9 n5 : Int) (l8 a2 : Bool) : Bool :=
 iNe (cF1 f d0 e8 d8 d9 e6 e7 B2 B0 e9 n5 l8 a2) 0
def bE9 (f : Nat → Int) (d0 e8 d8 d9 : Bool) (e6 e7 B2 B0 e9 n5 : Int) (l8 a2 : Bool) : Int :=
 iAdd .i64 (cF1 f d0 e8 d8 d9 e6 e7 B2 B0 e9 n5 l8 a2) 2
def aF3 (f : Nat → Int) (d0 e8 d8 d9 : Bool) (e6 e7 B2 B0 e9 n5 : Int) (l8 a2 : Bool) : Bool :=
 iNe (bE9 f d0 e8 d8 d9 e6 e7 B2 B0 e9 n5 l8 a2) 0
def aE9 (f : Nat → Int) (d0 e8 d8 d9 : Bool) (e6 e7 B2 B0 e9 n5 : Int) (l8 a2 : Bool) : Bool :=
 iLt 1 (bE9 f d0 e8 d8 d9 e6 e7 B2 B0 e9 n5 l8 a2)
def aG5 (f : Nat → Int) (d0 e8 d8 d9 : Bool) (e6 e7 B2 B0 e9 n5 : Int) (l8 a2 : Bool) : Bool :=
 bif iEq (bE9 f d0 e8 d8 d9 e6 e7 B2 B0 e9 n5 l8 a2) 1 then true else !O1 0 n5 a2 d8 d9
def cG0 (f : Nat → Int) (d0 e8 d8 d9 : Bool) (e6 e7 B2 B0 e9 n5 : Int) (l8 a2 : Bool) : Int :=
 g8 .i64
 (iQuo .u64
 (ch2 (fOf (byA 32768 f)) d0 e8 d8 d9 e6 e7 B2 B0
 (g8 .u64 (iAdd .i64 (iMul .i64 B2 256) (iMul .i64 (g8 .i64 (g9 e9 12 4)) 8))) 1)
 256)
def aE8 (f : Nat → Int) (d0 e8 d8 d9 : Bool) (e6 e7 B2 B0 e9 n5 : Int) (l8 a2 : Bool) : Bool :=
 !ch3 (fOf (byA 32768 f)) (cG0 f d0 e8 d8 d9 e6 e7 B2 B0 e9 n5 l8 a2) (g8 .i64 (g9 e9 12 4))
def bp2 (f : Nat → Int) (d0 e8 d8 d9 : Bool) (e6 e7 B2 B0 e9 n5 : Int) (l8 a2 : Bool) : Int :=
 aE6 (fOf (byA 32768 f)) (cG0 f d0 e8 d8 d9 e6 e7 B2 B0 e9 n5 l8 a2) (g8 .i64 (g9 e9 12 4))
def aG4 (f : Nat → Int) (d0 e8 d8 d9 : Bool) (e6 e7 B2 B0 e9 n5 : Int) (l8 a2 : Bool) : Bool :=
 !bh5 (bp2 f d0 e8 d8 d9 e6 e7 B2 B0 e9 n5 l8 a2)
def ax0 (f : Nat → Int) (d0 e8 d8 d9 : Bool) (e6 e7 B2 B0 e9 n5 : Int) (l8 a2 : Bool) : Bool :=
 !aI7 (bp2 f d0 e8 d8 d9 e6 e7 B2 B0 e9 n5 l8 a2)
def aH3 (f : Nat → Int) (d0 e8 d8 d9 : Bool) (e6 e7 B2 B0 e9 n5 : Int) (l8 a2 : Bool) : Int :=
 g8 .u64
 (iAdd .i64 (iMul .i64 (aA2 (bp2 f d0 e8 d8 d9 e6 e7 B2 B0 e9 n5 l8 a2)) 256) (iMul .i64 (g8 .i64 (g9 e9 8 4)) 8))
def ce1 (f : Nat → Int) (d0 e8 d8 d9 : Bool) (e6 e7 B2 B0 e9 n5 : Int) (l8 a2 : Bool) : Int :=
 ck2 (fOf (byA 32768 f)) d0 e8 d8 d9 e6 e7 B2 B0 (aH3 f d0 e8 d8 d9 e6 e7 B2 B0 e9 n5 l8 a2) 1
def as2 (f : Nat → Int) (d0 e8 d8 d9 : Bool) (e6 e7 B2 B0 e9 n5 : Int) (l8 a2 : Bool) : Bool :=
 iNe (ce1 f d0 e8 d8 d9 e6 e7 B2 B0 e9 n5 l8 a2) 0
def bf4 (f : Nat → Int) (d0 e8 d8 d9 : Bool) (e6 e7 B2 B0 e9 n5 : Int) (l8 a2 : Bool) : Int :=
 iAdd .i64 (ce1 f d0 e8 d8 d9 e6 e7 B2 B0 e9 n5 l8 a2) 2
def au7 (f : Nat → Int) (d0 e8 d8 d9 : Bool) (e6 e7 B2 B0 e9 n5 : Int) (l8 a2 : Bool) : Bool :=
 iNe (bf4 f d0 e8 d8 d9 e6 e7 B2 B0 e9 n5 l8 a2) 0
def aw2 (f : Nat → Int) (d0 e8 d8 d9 : Bool) (e6 e7 B2 B0 e9 n5 : Int) (l8 a2 : Bool) : Bool :=
 iLt 1 (bf4 f d0 e8 d8 d9 e6 e7 B2 B0 e9 n5 l8 a2)
def aw6 (f : Nat → Int) (d0 e8 d8 d9 : Bool) (e6 e7 B2 B0 e9 n5 : Int) (l8 a2 : Bool) : Bool :=
 bif iEq (bf4 f d0 e8 d8 d9 e6 e7 B2 B0 e9 n5 l8 a2) 1 then true else !O1 0 n5 a2 d8 d9
def cn9 (f : Nat → Int) (d0 e8 d8 d9 : Bool) (e6 e7 B2 B0 e9 n5 : Int) (l8 a2 : Bool) : Int :=
 g8 .i64 (iQuo .u64 (ch2 (fOf (byA 32768 f)) d0 e8 d8 d9 e6 e7 B2 B0 (aH3 f d0 e8 d8 d9 e6 e7 B2 B0 e9 n5 l8 a2) 1) 256)
def as7 (f : Nat → Int) (d0 e8 d8 d9 : Bool) (e6 e7 B2 B0 e9 n5 : Int) (l8 a2 : Bool) : Bool :=
 !ch3 (fOf (byA 32768 f)) (cn9 f d0 e8 d8 d9 e6 e7 B2 B0 e9 n5 l8 a2) (g8 .i64 (g9 e9 8 4))
def bg3 (f : Nat → Int) (d0 e8 d8 d9 : Bool) (e6 e7 B2 B0 e9 n5 : Int) (l8 a2 : Bool) : Int :=
 aE6 (fOf (byA 32768 f)) (cn9 f d0 e8 d8 d9 e6 e7 B2 B0 e9 n5 l8 a2) (g8 .i64 (g9 e9 8 4))
def as6 (f : Nat → Int) (d0 e8 d8 d9 : Bool) (e6 e7 B2 B0 e9 n5 : Int) (l8 a2 : Bool) : Bool :=
 !bh5 (bg3 f d0 e8 d8 d9 e6 e7 B2 B0 e9 n5 l8 a2)
def at4 (f : Nat → Int) (d0 e8 d8 d9 : Bool) (e6 e7 B2 B0 e9 n5 : Int) (l8 a2 : Bool) : Bool :=
 !aI7 (bg3 f d0 e8 d8 d9 e6 e7 B2 B0 e9 n5 l8 a2)
def ch7 (f : Nat → Int) (d0 e8 d8 d9 : Bool) (e6 e7 B2 B0 e9 n5 : Int) (l8 a2 : Bool) : Int :=
 g8 .i64 (I5 (bg3 f d0 e8 d8 d9 e6 e7 B2 B0 e9 n5 l8 a2) 8)
def at8 (f : Nat → Int) (d0 e8 d8 d9 : Bool) (e6 e7 B2 B0 e9 n5 : Int) (l8 a2 : Bool) : Bool :=
 !O1 (ch7 f d0 e8 d8 d9 e6 e7 B2 B0 e9 n5 l8 a2) n5 a2 d8 d9
def at3 (f : Nat → Int) (d0 e8 d8 d9 : Bool) (e6 e7 B2 B0 e9 n5 : Int) (l8 a2 : Bool) : Bool :=
 iNe (g9 (bp2 f d0 e8 d8 d9 e6 e7 B2 B0 e9 n5 l8 a2) 8 4) 0
def cb6 (f : Nat → Int) (d0 e8 d8 d9 : Bool) (e6 e7 B2 B0 e9 n5 : Int) (l8 a2 : Bool) : Int :=
 F9 (bp2 f d0 e8 d8 d9 e6 e7 B2 B0 e9 n5 l8 a2) 8 4 (g9 e9 8 4)
def cb5 (f : Nat → Int) (d0 e8 d8 d9 : Bool) (e6 e7 B2 B0 e9 n5 : Int) (l8 a2 : Bool) : Int :=
 g8 .i64 (I5 (cb6 f d0 e8 d8 d9 e6 e7 B2 B0 e9 n5 l8 a2) 8)
def ar8 (f : Nat → Int) (d0 e8 d8 d9 : Bool) (e6 e7 B2 B0 e9 n5 : Int) (l8 a2 : Bool) : Bool :=
 !O1 (cb5 f d0 e8 d8 d9 e6 e7 B2 B0 e9 n5 l8 a2) n5 a2 d8 d9
def cc0 (f : Nat → Int) (d0 e8 d8 d9 : Bool) (e6 e7 B2 B0 e9 n5 : Int) (l8 a2 : Bool) : Int :=
 iSub .i64 (bE9 f d0 e8 d8 d9 e6 e7 B2 B0 e9 n5 l8 a2) 2
def ce9 (f : Nat → Int) (d0 e8 d8 d9 : Bool) (e6 e7 B2 B0 e9 n5 : Int) (l8 a2 : Bool) : Int :=
 iSub .i64 (bf4 f d0 e8 d8 d9 e6 e7 B2 B0 e9 n5 l8 a2) 2
def first0 (f : Nat → Int) (d0 e8 d8 d9 : Bool) (e6 e7 B2 B0 e9 n5 : Int) (l8 a2 : Bool) : Int :=
 bif !d0 then e9
 else
 bif iLe 65536 e9 then 0
 else
 bif aF9 f d0 e8 d8 d9 e6 e7 B2 B0 e9 n5 l8 a2 then
 bif aF3 f d0 e8 d8 d9 e6 e7 B2 B0 e9 n5 l8 a2 then
 bif aE9 f d0 e8 d8 d9 e6 e7 B2 B0 e9 n5 l8 a2 then 0 else bif aG5 f d0 e8 d8 d9 e6 e7 B2 B0 e9 n5 l8 a2 then 0 else aD0 0 e9
 else 0
 else
 bif aE8 f d0 e8 d8 d9 e6 e7 B2 B0 e9 n5 l8 a2 then 0
 else
 bif aG4 f d0 e8 d8 d9 e6 e7 B2 B0 e9 n5 l8 a2 then 0
 else
 bif ax0 f d0 e8 d8 d9 e6 e7 B2 B0 e9 n5 l8 a2 then
 bif as2 f d0 e8 d8 d9 e6 e7 B2 B0 e9 n5 l8 a2 then
 bif au7 f d0 e8 d8 d9 e6 e7 B2 B0 e9 n5 l8 a2 then
 bif aw2 f d0 e8 d8 d9 e6 e7 B2 B0 e9 n5 l8 a2 then 0
 else bif aw6 f d0 e8 d8 d9 e6 e7 B2 B0 e9 n5 l8 a2 then 0 else aD0 0 e9
 else 0
 else
 bif as7 f d0 e8 d8 d9 e6 e7 B2 B0 e9 n5 l8 a2 then 0
 else
 bif as6 f d0 e8 d8 d9 e6 e7 B2 B0 e9 n5 l8 a2 then 0
 else
 bif at4 f d0 e8 d8 d9 e6 e7 B2 B0 e9 n5 l8 a2 then 0
 else
 bif at8 f d0 e8 d8 d9 e6 e7 B2 B0 e9 n5 l8 a2 then 0
 else aD0 (aA2 (bg3 f d0 e8 d8 d9 e6 e7 B2 B0 e9 n5 l8 a2)) e9
 else
 bif at3 f d0 e8 d8 d9 e6 e7 B2 B0 e9 n5 l8 a2 then 0
 else
 bif ar8 f d0 e8 d8 d9 e6 e7 B2 B0 e9 n5 l8 a2 then 0 else aD0 (aA2 (cb6 f d0 e8 d8 d9 e6 e7 B2 B0 e9 n5 l8 a2)) e9
def first1 (f : Nat → Int) (d0 e8 d8 d9 : Bool) (e6 e7 B2 B0 e9 n5 : Int) (l8 a2 : Bool) : Int :=
 bif !d0 then 255
 else
 bif iLe 65536 e9 then 255
 else
 bif aF9 f d0 e8 d8 d9 e6 e7 B2 B0 e9 n5 l8 a2 then
 bif aF3 f d0 e8 d8 d9 e6 e7 B2 B0 e9 n5 l8 a2 then
 bif aE9 f d0 e8 d8 d9 e6 e7 B2 B0 e9 n5 l8 a2 then 255 else bif aG5 f d0 e8 d8 d9 e6 e7 B2 B0 e9 n5 l8 a2 then 255 else 0
 else 255
 else
 bif aE8 f d0 e8 d8 d9 e6 e7 B2 B0 e9 n5 l8 a2 then 255
 else
 bif aG4 f d0 e8 d8 d9 e6 e7 B2 B0 e9 n5 l8 a2 then 255
 else
 bif ax0 f d0 e8 d8 d9 e6 e7 B2 B0 e9 n5 l8 a2 then
 bif as2 f d0 e8 d8 d9 e6 e7 B2 B0 e9 n5 l8 a2 then
 bif au7 f d0 e8 d8 d9 e6 e7 B2 B0 e9 n5 l8 a2 then
 bif aw2 f d0 e8 d8 d9 e6 e7 B2 B0 e9 n5 l8 a2 then 255 else bif aw6 f d0 e8 d8 d9 e6 e7 B2 B0 e9 n5 l8 a2 then 255 else 0
 else 255
 else
 bif as7 f d0 e8 d8 d9 e6 e7 B2 B0 e9 n5 l8 a2 then 255
 else
 bif as6 f d0 e8 d8 d9 e6 e7 B2 B0 e9 n5 l8 a2 then 255
 else
 bif at4 f d0 e8 d8 d9 e6 e7 B2 B0 e9 n5 l8 a2 then 255
 else bif at8 f d0 e8 d8 d9 e6 e7 B2 B0 e9 n5 l8 a2 then 255 else ch7 f d0 e8 d8 d9 e6 e7 B2 B0 e9 n5 l8 a2
 else
 bif at3 f d0 e8 d8 d9 e6 e7 B2 B0 e9 n5 l8 a2 then 255
 else bif ar8 f d0 e8 d8 d9 e6 e7 B2 B0 e9 n5 l8 a2 then 255 else cb5 f d0 e8 d8 d9 e6 e7 B2 B0 e9 n5 l8 a2
def dG8 (f : Nat → Int) (d0 e8 d8 d9 : Bool) (e6 e7 B2 B0 e9 n5 : Int) (l8 a2 : Bool) : Int :=
 bif !d0 then 0
 else
 bif iLe 65536 e9 then D9 e9 n5 l8
 else
 bif aF9 f d0 e8 d8 d9 e6 e7 B2 B0 e9 n5 l8 a2 then
 bif aF3 f d0 e8 d8 d9 e6 e7 B2 B0 e9 n5 l8 a2 then
 bif aE9 f d0 e8 d8 d9 e6 e7 B2 B0 e9 n5 l8 a2 then
 M5 e9 n5 l8 (cc0 f d0 e8 d8 d9 e6 e7 B2 B0 e9 n5 l8 a2)
 (g8 .u64 (iAdd .i64 (iMul .i64 B2 256) (iMul .i64 (g8 .i64 (g9 e9 12 4)) 8)))
 else bif aG5 f d0 e8 d8 d9 e6 e7 B2 B0 e9 n5 l8 a2 then D9 e9 n5 l8 else 0
 else D9 e9 n5 l8
 else
 bif aE8 f d0 e8 d8 d9 e6 e7 B2 B0 e9 n5 l8 a2 then
 M5 e9 n5 l8 2 (g8 .u64 (iAdd .i64 (iMul .i64 B2 256) (iMul .i64 (g8 .i64 (g9 e9 12 4)) 8)))
 else
 bif aG4 f d0 e8 d8 d9 e6 e7 B2 B0 e9 n5 l8 a2 then D9 e9 n5 l8
 else
 bif ax0 f d0 e8 d8 d9 e6 e7 B2 B0 e9 n5 l8 a2 then
 bif as2 f d0 e8 d8 d9 e6 e7 B2 B0 e9 n5 l8 a2 then
 bif au7 f d0 e8 d8 d9 e6 e7 B2 B0 e9 n5 l8 a2 then
 bif aw2 f d0 e8 d8 d9 e6 e7 B2 B0 e9 n5 l8 a2 then
 M5 e9 n5 l8 (ce9 f d0 e8 d8 d9 e6 e7 B2 B0 e9 n5 l8 a2) (aH3 f d0 e8 d8 d9 e6 e7 B2 B0 e9 n5 l8 a2)
 else bif aw6 f d0 e8 d8 d9 e6 e7 B2 B0 e9 n5 l8 a2 then D9 e9 n5 l8 else 0
 else D9 e9 n5 l8
 else
 bif as7 f d0 e8 d8 d9 e6 e7 B2 B0 e9 n5 l8 a2 then M5 e9 n5 l8 2 (aH3 f d0 e8 d8 d9 e6 e7 B2 B0 e9 n5 l8 a2)
 else
 bif as6 f d0 e8 d8 d9 e6 e7 B2 B0 e9 n5 l8 a2 then D9 e9 n5 l8
 else
 bif at4 f d0 e8 d8 d9 e6 e7 B2 B0 e9 n5 l8 a2 then D9 e9 n5 l8
 else bif at8 f d0 e8 d8 d9 e6 e7 B2 B0 e9 n5 l8 a2 then D9 e9 n5 l8 else 0
 else
 bif at3 f d0 e8 d8 d9 e6 e7 B2 B0 e9 n5 l8 a2 then D9 e9 n5 l8
 else bif ar8 f d0 e8 d8 d9 e6 e7 B2 B0 e9 n5 l8 a2 then D9 e9 n5 l8 else 0
def dJ4 (f : Nat → Int) (d0 e8 d8 d9 : Bool) (e6 e7 B2 B0 e9 n5 : Int) (l8 a2 : Bool) : Int :=
 bif !d0 then 0
 else
 bif iLe 65536 e9 then e9
 else
 bif aF9 f d0 e8 d8 d9 e6 e7 B2 B0 e9 n5 l8 a2 then
 bif aF3 f d0 e8 d8 d9 e6 e7 B2 B0 e9 n5 l8 a2 then
 bif aE9 f d0 e8 d8 d9 e6 e7 B2 B0 e9 n5 l8 a2 then e9 else bif aG5 f d0 e8 d8 d9 e6 e7 B2 B0 e9 n5 l8 a2 then e9 else 0
 else e9
 else
 bif aE8 f d0 e8 d8 d9 e6 e7 B2 B0 e9 n5 l8 a2 then e9
 else
 bif aG4 f d0 e8 d8 d9 e6 e7 B2 B0 e9 n5 l8 a2 then e9
 else
 bif ax0 f d0 e8 d8 d9 e6 e7 B2 B0 e9 n5 l8 a2 then
 bif as2 f d0 e8 d8 d9 e6 e7 B2 B0 e9 n5 l8 a2 then
 bif au7 f d0 e8 d8 d9 e6 e7 B2 B0 e9 n5 l8 a2 then
 bif aw2 f d0 e8 d8 d9 e6 e7 B2 B0 e9 n5 l8 a2 then e9 else bif aw6 f d0 e8 d8 d9 e6 e7 B2 B0 e9 n5 l8 a2 then e9 else 0
 else e9
 else
 bif as7 f d0 e8 d8 d9 e6 e7 B2 B0 e9 n5 l8 a2 then e9
 else
 bif as6 f d0 e8 d8 d9 e6 e7 B2 B0 e9 n5 l8 a2 then e9
 else bif at4 f d0 e8 d8 d9 e6 e7 B2 B0 e9 n5 l8 a2 then e9 else bif at8 f d0 e8 d8 d9 e6 e7 B2 B0 e9 n5 l8 a2 then e9 else 0
 else bif at3 f d0 e8 d8 d9 e6 e7 B2 B0 e9 n5 l8 a2 then e9 else bif ar8 f d0 e8 d8 d9 e6 e7 B2 B0 e9 n5 l8 a2 then e9 else 0
def dF3 (f : Nat → Int) (d0 e8 d8 d9 : Bool) (e6 e7 B2 B0 e9 n5 : Int) (l8 a2 : Bool) : Int :=
 bif !d0 then 0
 else
 bif iLe 65536 e9 then E0 e9 n5 l8
 else
 bif aF9 f d0 e8 d8 d9 e6 e7 B2 B0 e9 n5 l8 a2 then
 bif aF3 f d0 e8 d8 d9 e6 e7 B2 B0 e9 n5 l8 a2 then
 bif aE9 f d0 e8 d8 d9 e6 e7 B2 B0 e9 n5 l8 a2 then
 M7 e9 n5 l8 (cc0 f d0 e8 d8 d9 e6 e7 B2 B0 e9 n5 l8 a2)
 (g8 .u64 (iAdd .i64 (iMul .i64 B2 256) (iMul .i64 (g8 .i64 (g9 e9 12 4)) 8)))
 else bif aG5 f d0 e8 d8 d9 e6 e7 B2 B0 e9 n5 l8 a2 then E0 e9 n5 l8 else 0
 else E0 e9 n5 l8
 else
 bif aE8 f d0 e8 d8 d9 e6 e7 B2 B0 e9 n5 l8 a2 then
 M7 e9 n5 l8 2 (g8 .u64 (iAdd .i64 (iMul .i64 B2 256) (iMul .i64 (g8 .i64 (g9 e9 12 4)) 8)))
 else
 bif aG4 f d0 e8 d8 d9 e6 e7 B2 B0 e9 n5 l8 a2 then E0 e9 n5 l8
 else
 bif ax0 f d0 e8 d8 d9 e6 e7 B2 B0 e9 n5 l8 a2 then
 bif as2 f d0 e8 d8 d9 e6 e7 B2 B0 e9 n5 l8 a2 then
 bif au7 f d0 e8 d8 d9 e6 e7 B2 B0 e9 n5 l8 a2 then
 bif aw2 f d0 e8 d8 d9 e6 e7 B2 B0 e9 n5 l8 a2 then
 M7 e9 n5 l8 (ce9 f d0 e8 d8 d9 e6 e7 B2 B0 e9 n5 l8 a2) (aH3 f d0 e8 d8 d9 e6 e7 B2 B0 e9 n5 l8 a2)
 else bif aw6 f d0 e8 d8 d9 e6 e7 B2 B0 e9 n5 l8 a2 then E0 e9 n5 l8 else 0
 else E0 e9 n5 l8
 else
 bif as7 f d0 e8 d8 d9 e6 e7 B2 B0 e9 n5 l8 a2 then M7 e9 n5 l8 2 (aH3 f d0 e8 d8 d9 e6 e7 B2 B0 e9 n5 l8 a2)
 else
 bif as6 f d0 e8 d8 d9 e6 e7 B2 B0 e9 n5 l8 a2 then E0 e9 n5 l8
 else
 bif at4 f d0 e8 d8 d9 e6 e7 B2 B0 e9 n5 l8 a2 then E0 e9 n5 l8
 else bif at8 f d0 e8 d8 d9 e6 e7 B2 B0 e9 n5 l8 a2 then E0 e9 n5 l8 else 0
 else
 bif at3 f d0 e8 d8 d9 e6 e7 B2 B0 e9 n5 l8 a2 then E0 e9 n5 l8
 else bif ar8 f d0 e8 d8 d9 e6 e7 B2 B0 e9 n5 l8 a2 then E0 e9 n5 l8 else 0
def first5 (f : Nat → Int) (d0 e8 d8 d9 : Bool) (e6 e7 B2 B0 e9 n5 : Int) (l8 a2 : Bool) : Bool :=
 bif !d0 then false
 else
 bif iLe 65536 e9 then l8
 else
 bif aF9 f d0 e8 d8 d9 e6 e7 B2 B0 e9 n5 l8 a2 then
 bif aF3 f d0 e8 d8 d9 e6 e7 B2 B0 e9 n5 l8 a2 then
 bif aE9 f d0 e8 d8 d9 e6 e7 B2 B0 e9 n5 l8 a2 then l8 else bif aG5 f d0 e8 d8 d9 e6 e7 B2 B0 e9 n5 l8 a2 then l8 else false
 else l8
 else
 bif aE8 f d0 e8 d8 d9 e6 e7 B2 B0 e9 n5 l8 a2 then l8
 else
 bif aG4 f d0 e8 d8 d9 e6 e7 B2 B0 e9 n5 l8 a2 then l8
 else
 bif ax0 f d0 e8 d8 d9 e6 e7 B2 B0 e9 n5 l8 a2 then
 bif as2 f d0 e8 d8 d9 e6 e7 B2 B0 e9 n5 l8 a2 then
 bif au7 f d0 e8 d8 d9 e6 e7 B2 B0 e9 n5 l8 a2 then
 bif aw2 f d0 e8 d8 d9 e6 e7 B2 B0 e9 n5 l8 a2 then l8 else bif aw6 f d0 e8 d8 d9 e6 e7 B2 B0 e9 n5 l8 a2 then l8 else false
 else l8
 else
 bif as7 f d0 e8 d8 d9 e6 e7 B2 B0 e9 n5 l8 a2 then l8
 else
 bif as6 f d0 e8 d8 d9 e6 e7 B2 B0 e9 n5 l8 a2 then l8
 else
 bif at4 f d0 e8 d8 d9 e6 e7 B2 B0 e9 n5 l8 a2 then l8
 else bif at8 f d0 e8 d8 d9 e6 e7 B2 B0 e9 n5 l8 a2 then l8 else false
 else bif at3 f d0 e8 d8 d9 e6 e7 B2 B0 e9 n5 l8 a2 then l8 else bif ar8 f d0 e8 d8 d9 e6 e7 B2 B0 e9 n5 l8 a2 then l8 else false
def first6 (f : Nat → Int) (d0 e8 d8 d9 : Bool) (e6 e7 B2 B0 e9 n5 : Int) (l8 a2 : Bool) : Bool :=
 bif !d0 then true
 else
 bif iLe 65536 e9 then false
 else
 bif aF9 f d0 e8 d8 d9 e6 e7 B2 B0 e9 n5 l8 a2 then
 bif aF3 f d0 e8 d8 d9 e6 e7 B2 B0 e9 n5 l8 a2 then
 bif aE9 f d0 e8 d8 d9 e6 e7 B2 B0 e9 n5 l8 a2 then false else bif aG5 f d0 e8 d8 d9 e6 e7 B2 B0 e9 n5 l8 a2 then false else true
 else false
 else
 bif aE8 f d0 e8 d8 d9 e6 e7 B2 B0 e9 n5 l8 a2 then false
 else
 bif aG4 f d0 e8 d8 d9 e6 e7 B2 B0 e9 n5 l8 a2 then false
 else
 bif ax0 f d0 e8 d8 d9 e6 e7 B2 B0 e9 n5 l8 a2 then
 bif as2 f d0 e8 d8 d9 e6 e7 B2 B0 e9 n5 l8 a2 then
 bif au7 f d0 e8 d8 d9 e6 e7 B2 B0 e9 n5 l8 a2 then
 bif aw2 f d0 e8 d8 d9 e6 e7 B2 B0 e9 n5 l8 a2 then false else bif aw6 f d0 e8 d8 d9 e6 e7 B2 B0 e9 n5 l8 a2 then false else true
 else false
 else
 bif as7 f d0 e8 d8 d9 e6 e7 B2 B0 e9 n5 l8 a2 then false
 else
 bif as6 f d0 e8 d8 d9 e6 e7 B2 B0 e9 n5 l8 a2 then false
 else
 bif at4 f d0 e8 d8 d9 e6 e7 B2 B0 e9 n5 l8 a2 then false
 else bif at8 f d0 e8 d8 d9 e6 e7 B2 B0 e9 n5 l8 a2 then false else true
 else bif at3 f d0 e8 d8 d9 e6 e7 B2 B0 e9 n5 l8 a2 then false else bif ar8 f d0 e8 d8 d9 e6 e7 B2 B0 e9 n5 l8 a2 then false else true
def dG7 (f : Nat → Int) (d0 e8 d8 d9 : Bool) (e6 e7 B2 B0 e9 n5 : Int) (l8 a2 : Bool) : Bool :=
 bif !d0 then true
 else
 bif iLe 65536 e9 then true
 else
 bif aF9 f d0 e8 d8 d9 e6 e7 B2 B0 e9 n5 l8 a2 then
 bif aF3 f d0 e8 d8 d9 e6 e7 B2 B0 e9 n5 l8 a2 then
 bif aE9 f d0 e8 d8 d9 e6 e7 B2 B0 e9 n5 l8 a2 then true else bif aG5 f d0 e8 d8 d9 e6 e7 B2 B0 e9 n5 l8 a2 then true else true
 else true
 else
 bif aE8 f d0 e8 d8 d9 e6 e7 B2 B0 e9 n5 l8 a2 then true
 else
 bif aG4 f d0 e8 d8 d9 e6 e7 B2 B0 e9 n5 l8 a2 then true
 else
 bif ax0 f d0 e8 d8 d9 e6 e7 B2 B0 e9 n5 l8 a2 then
 bif as2 f d0 e8 d8 d9 e6 e7 B2 B0 e9 n5 l8 a2 then
 bif au7 f d0 e8 d8 d9 e6 e7 B2 B0 e9 n5 l8 a2 then
 bif aw2 f d0 e8 d8 d9 e6 e7 B2 B0 e9 n5 l8 a2 then true else bif aw6 f d0 e8 d8 d9 e6 e7 B2 B0 e9 n5 l8 a2 then true else true
 else true
 else
 bif as7 f d0 e8 d8 d9 e6 e7 B2 B0 e9 n5 l8 a2 then true
 else
 bif as6 f d0 e8 d8 d9 e6 e7 B2 B0 e9 n5 l8 a2 then true
 else
 bif at4 f d0 e8 d8 d9 e6 e7 B2 B0 e9 n5 l8 a2 then true else bif at8 f d0 e8 d8 d9 e6 e7 B2 B0 e9 n5 l8 a2 then true else true
 else bif at3 f d0 e8 d8 d9 e6 e7 B2 B0 e9 n5 l8 a2 then true else bif ar8 f d0 e8 d8 d9 e6 e7 B2 B0 e9 n5 l8 a2 then true else true
def firstV (f : Nat → Int) (d0 e8 d8 d9 : Bool) (e6 e7 B2 B0 e9 n5 : Int) (l8 a2 : Bool) : AV := .tup [.it .u64 (first0 f d0 e8 d8 d9 e6 e7 B2 B0 e9 n5 l8 a2), .it .i64 (first1 f d0 e8 d8 d9 e6 e7 B2 B0 e9 n5 l8 a2), .agg [.it .u64 (dG8 f d0 e8 d8 d9 e6 e7 B2 B0 e9 n5 l8 a2), .it .u64 (dJ4 f d0 e8 d8 d9 e6 e7 B2 B0 e9 n5 l8 a2), .it .u64 (dF3 f d0 e8 d8 d9 e6 e7 B2 B0 e9 n5 l8 a2), .bl (first5 f d0 e8 d8 d9 e6 e7 B2 B0 e9 n5 l8 a2)], .bl (first6 f d0 e8 d8 d9 e6 e7 B2 B0 e9 n5 l8 a2)]
theorem firstE (f : Nat → Int) (d0 e8 d8 d9 : Bool) (e6 e7 B2 B0 e9 n5 : Int) (l8 a2 : Bool) : evFn Tryz.prog okT (m5 bq9) (inlO Tryz.prog okT (m5 bq9) RO [103, 104] 400 ST (fun _ => hGr [(151, cf1), (63, bo4)] NOH) 8) RO NOV 101 false Tryz.f62 [.pt 0 [] E5, .agg [.bl d0, .bl e8, .bl d8, .bl d9, .it .i64 e6, .it .i64 e7, .it .i64 B2, .it .i64 B0], .agg [.it .u64 e9, .it .i64 n5, .bl l8], .bl a2] (memT f) (fun v _ => some (true, v)) = some (dG7 f d0 e8 d8 d9 e6 e7 B2 B0 e9 n5 l8 a2, firstV f d0 e8 d8 d9 e6 e7 B2 B0 e9 n5 l8 a2) := by kernel_rfl
theorem firstT (f : Nat → Int) (d0 e8 d8 d9 : Bool) (e6 e7 B2 B0 e9 n5 : Int) (l8 a2 : Bool) : dG7 f d0 e8 d8 d9 e6 e7 B2 B0 e9 n5 l8 a2 = true := by
  unfold dG7
  simp only [cF1, aF9, bE9, aF3, aE9, aG5, cG0, aE8, bp2, aG4, ax0, aH3, ce1, as2, bf4, au7, aw2, aw6, cn9, as7, bg3, as6, at4, ch7, at8, at3, cb6, cb5, ar8, cc0, ce9, cS1, cS2, cS3, cS4, cS6, cS7]
noncomputable def cz1 : GRow := cC5 [(.agg [(.bool), (.bool), (.bool), (.bool), (.int .i64), (.int .i64), (.int .i64), (.int .i64)]), (.agg [(.int .u64), (.int .i64), (.bool)]), (.bool)] none (fun g f => firstV f ((g 0).fld 0).bool ((g 0).fld 1).bool ((g 0).fld 2).bool ((g 0).fld 3).bool ((g 0).fld 4).num ((g 0).fld 5).num ((g 0).fld 6).num ((g 0).fld 7).num ((g 1).fld 0).num ((g 1).fld 1).num ((g 1).fld 2).bool (g 2).bool)
theorem dO2 : ax2 Tryz.prog 62 cz1 := bH2 ⟨Tryz.func62, of_decide_eq_true (by kernel_rfl)⟩ (o9 mix A7 ac2 (aA8 (by kernel_rfl)) (fun h hh => au3 E9 (show GOk Tryz.prog [(151, cf1), (63, bo4)] from ⟨cw8, cl8, trivial⟩)) 8) ac2 rfl (fun _ => rfl) (fun _ _ => rfl) (G := fun g f => dG7 f ((g 0).fld 0).bool ((g 0).fld 1).bool ((g 0).fld 2).bool ((g 0).fld 3).bool ((g 0).fld 4).num ((g 0).fld 5).num ((g 0).fld 6).num ((g 0).fld 7).num ((g 1).fld 0).num ((g 1).fld 1).num ((g 1).fld 2).bool (g 2).bool) (fun g f => firstE f ((g 0).fld 0).bool ((g 0).fld 1).bool ((g 0).fld 2).bool ((g 0).fld 3).bool ((g 0).fld 4).num ((g 0).fld 5).num ((g 0).fld 6).num ((g 0).fld 7).num ((g 1).fld 0).num ((g 1).fld 1).num ((g 1).fld 2).bool (g 2).bool) (fun g f hp hf hc => firstT f ((g 0).fld 0).bool ((g 0).fld 1).bool ((g 0).fld 2).bool ((g 0).fld 3).bool ((g 0).fld 4).num ((g 0).fld 5).num ((g 0).fld 6).num ((g 0).fld 7).num ((g 1).fld 0).num ((g 1).fld 1).num ((g 1).fld 2).bool (g 2).bool)
def G1 (f d0 : Nat → Int) (e8 d8 : Int) (d9 : Bool) (e6 : Nat → Int) (e7 a1 a2 a3 : Int) (a4 : Bool) : Bool :=
 J0 d0 e8 d8 d9 e6 e7 a3 a4 == false &&
 (ak2 d0 e8 d8 d9 e6 e7 a3 a4 == false &&
 (P6 d0 e8 d8 d9 e6 e7 a3 a4 == P6 d0 e8 d8 d9 e6 e7 a3 a4 &&
 (P7 d0 e8 d8 d9 e6 e7 a3 a4 == P7 d0 e8 d8 d9 e6 e7 a3 a4 &&
 (iEq (af5 d0 e8 d8 d9 e6 e7 a3 a4) 0 &&
 (iEq (af9 d0 e8 d8 d9 e6 e7 a3 a4) 0 &&
 (iEq (ak3 d0 e8 d8 d9 e6 e7 a3 a4) 0 && (iEq (aj5 d0 e8 d8 d9 e6 e7 a3 a4) 0 && true)))))))
def G2 (f d0 : Nat → Int) (e8 d8 : Int) (d9 : Bool) (e6 : Nat → Int) (e7 a1 a2 a3 : Int) (a4 : Bool) : Bool :=
 !first6 (fOf (byA 32768 f)) (J0 d0 e8 d8 d9 e6 e7 a3 a4) (ak2 d0 e8 d8 d9 e6 e7 a3 a4)
 (P6 d0 e8 d8 d9 e6 e7 a3 a4) (P7 d0 e8 d8 d9 e6 e7 a3 a4)
 (af5 d0 e8 d8 d9 e6 e7 a3 a4) (af9 d0 e8 d8 d9 e6 e7 a3 a4)
 (ak3 d0 e8 d8 d9 e6 e7 a3 a4) (aj5 d0 e8 d8 d9 e6 e7 a3 a4) a1 a2 a4 (iEq a3 0)
def W4 (f d0 : Nat → Int) (e8 d8 : Int) (d9 : Bool) (e6 : Nat → Int) (e7 a1 a2 a3 : Int) (a4 : Bool) : Int :=
 first0 (fOf (byA 32768 f)) (J0 d0 e8 d8 d9 e6 e7 a3 a4) (ak2 d0 e8 d8 d9 e6 e7 a3 a4)
 (P6 d0 e8 d8 d9 e6 e7 a3 a4) (P7 d0 e8 d8 d9 e6 e7 a3 a4)
 (af5 d0 e8 d8 d9 e6 e7 a3 a4) (af9 d0 e8 d8 d9 e6 e7 a3 a4)
 (ak3 d0 e8 d8 d9 e6 e7 a3 a4) (aj5 d0 e8 d8 d9 e6 e7 a3 a4) a1 a2 a4 (iEq a3 0)
def ap6 (f d0 : Nat → Int) (e8 d8 : Int) (d9 : Bool) (e6 : Nat → Int) (e7 a1 a2 a3 : Int) (a4 : Bool) : Int :=
 ck2 (fOf (byA 32768 f)) (J0 d0 e8 d8 d9 e6 e7 a3 a4) (ak2 d0 e8 d8 d9 e6 e7 a3 a4)
 (P6 d0 e8 d8 d9 e6 e7 a3 a4) (P7 d0 e8 d8 d9 e6 e7 a3 a4)
 (af5 d0 e8 d8 d9 e6 e7 a3 a4) (af9 d0 e8 d8 d9 e6 e7 a3 a4)
 (ak3 d0 e8 d8 d9 e6 e7 a3 a4) (aj5 d0 e8 d8 d9 e6 e7 a3 a4)
 (W4 f d0 e8 d8 d9 e6 e7 a1 a2 a3 a4) a2
def G3 (f d0 : Nat → Int) (e8 d8 : Int) (d9 : Bool) (e6 : Nat → Int) (e7 a1 a2 a3 : Int) (a4 : Bool) : Bool :=
 iNe (ap6 f d0 e8 d8 d9 e6 e7 a1 a2 a3 a4) 0
def H1 (f d0 : Nat → Int) (e8 d8 : Int) (d9 : Bool) (e6 : Nat → Int) (e7 a1 a2 a3 : Int) (a4 : Bool) : Bool :=
 J0 d0 e8 d8 d9 e6 e7 a3 a4 == false &&
 (ak2 d0 e8 d8 d9 e6 e7 a3 a4 == false &&
 (P6 d0 e8 d8 d9 e6 e7 a3 a4 == P6 d0 e8 d8 d9 e6 e7 a3 a4 &&
 (P7 d0 e8 d8 d9 e6 e7 a3 a4 == P7 d0 e8 d8 d9 e6 e7 a3 a4 &&
 (iEq (af5 d0 e8 d8 d9 e6 e7 a3 a4) 0 &&
 (iEq (af9 d0 e8 d8 d9 e6 e7 a3 a4) 0 &&
 (iEq (ak3 d0 e8 d8 d9 e6 e7 a3 a4) 0 && iEq (aj5 d0 e8 d8 d9 e6 e7 a3 a4) 0))))))
def aC6 (f d0 : Nat → Int) (e8 d8 : Int) (d9 : Bool) (e6 : Nat → Int) (e7 a1 a2 a3 : Int) (a4 : Bool) : Int :=
 ch2 (fOf (byA 32768 f)) (J0 d0 e8 d8 d9 e6 e7 a3 a4) (ak2 d0 e8 d8 d9 e6 e7 a3 a4)
 (P6 d0 e8 d8 d9 e6 e7 a3 a4) (P7 d0 e8 d8 d9 e6 e7 a3 a4)
 (af5 d0 e8 d8 d9 e6 e7 a3 a4) (af9 d0 e8 d8 d9 e6 e7 a3 a4)
 (ak3 d0 e8 d8 d9 e6 e7 a3 a4) (aj5 d0 e8 d8 d9 e6 e7 a3 a4)
 (W4 f d0 e8 d8 d9 e6 e7 a1 a2 a3 a4) a2
def aC2 (f d0 : Nat → Int) (e8 d8 : Int) (d9 : Bool) (e6 : Nat → Int) (e7 a1 a2 a3 : Int) (a4 : Bool) : Int :=
 bif G2 f d0 e8 d8 d9 e6 e7 a1 a2 a3 a4 then 0
 else bif G3 f d0 e8 d8 d9 e6 e7 a1 a2 a3 a4 then 0 else aC6 f d0 e8 d8 d9 e6 e7 a1 a2 a3 a4
def aC3 (f d0 : Nat → Int) (e8 d8 : Int) (d9 : Bool) (e6 : Nat → Int) (e7 a1 a2 a3 : Int) (a4 : Bool) : Bool :=
 bif G2 f d0 e8 d8 d9 e6 e7 a1 a2 a3 a4 then false else bif G3 f d0 e8 d8 d9 e6 e7 a1 a2 a3 a4 then false else true
def aB5 (f d0 : Nat → Int) (e8 d8 : Int) (d9 : Bool) (e6 : Nat → Int) (e7 a1 a2 a3 : Int) (a4 : Bool) : Bool :=
 bif H1 f d0 e8 d8 d9 e6 e7 a1 a2 a3 a4 then true else bif iLe 65536 a1 then false else aC3 f d0 e8 d8 d9 e6 e7 a1 a2 a3 a4
def au6 (f d0 : Nat → Int) (e8 d8 : Int) (d9 : Bool) (e6 : Nat → Int) (e7 a1 a2 a3 : Int) (a4 : Bool) : Bool :=
 bif G1 f d0 e8 d8 d9 e6 e7 a1 a2 a3 a4 then bif iLt a1 65536 then true else true
 else bif iLe 65536 a1 then bif J0 d0 e8 d8 d9 e6 e7 a3 a4 then false else false else aC3 f d0 e8 d8 d9 e6 e7 a1 a2 a3 a4
def aw9 (f d0 : Nat → Int) (e8 d8 : Int) (d9 : Bool) (e6 : Nat → Int) (e7 a1 a2 a3 : Int) (a4 : Bool) : Bool :=
 bif G2 f d0 e8 d8 d9 e6 e7 a1 a2 a3 a4 then false else bif G3 f d0 e8 d8 d9 e6 e7 a1 a2 a3 a4 then false else a4
def as5 (f d0 : Nat → Int) (e8 d8 : Int) (d9 : Bool) (e6 : Nat → Int) (e7 a1 a2 a3 : Int) (a4 : Bool) : Int :=
 bif G2 f d0 e8 d8 d9 e6 e7 a1 a2 a3 a4 then 0 else bif G3 f d0 e8 d8 d9 e6 e7 a1 a2 a3 a4 then 0 else g8 .i64 (iShr .u64 a1 8)
def av2 (f d0 : Nat → Int) (e8 d8 : Int) (d9 : Bool) (e6 : Nat → Int) (e7 a1 a2 a3 : Int) (a4 : Bool) : Int :=
 bif G2 f d0 e8 d8 d9 e6 e7 a1 a2 a3 a4 then 0
 else bif G3 f d0 e8 d8 d9 e6 e7 a1 a2 a3 a4 then 0 else af5 d0 e8 d8 d9 e6 e7 a3 a4
def at0 (f d0 : Nat → Int) (e8 d8 : Int) (d9 : Bool) (e6 : Nat → Int) (e7 a1 a2 a3 : Int) (a4 : Bool) : Int :=
 bif G2 f d0 e8 d8 d9 e6 e7 a1 a2 a3 a4 then 0
 else bif G3 f d0 e8 d8 d9 e6 e7 a1 a2 a3 a4 then 0 else af9 d0 e8 d8 d9 e6 e7 a3 a4
def at9 (f d0 : Nat → Int) (e8 d8 : Int) (d9 : Bool) (e6 : Nat → Int) (e7 a1 a2 a3 : Int) (a4 : Bool) : Int :=
 bif G2 f d0 e8 d8 d9 e6 e7 a1 a2 a3 a4 then 0
 else bif G3 f d0 e8 d8 d9 e6 e7 a1 a2 a3 a4 then 0 else g8 .i64 (iShr .u64 (aC6 f d0 e8 d8 d9 e6 e7 a1 a2 a3 a4) 8)
def au8 (f d0 : Nat → Int) (e8 d8 : Int) (d9 : Bool) (e6 : Nat → Int) (e7 a1 a2 a3 : Int) (a4 : Bool) : Int :=
 bif G2 f d0 e8 d8 d9 e6 e7 a1 a2 a3 a4 then 0
 else
 bif G3 f d0 e8 d8 d9 e6 e7 a1 a2 a3 a4 then 0
 else
 first1 (fOf (byA 32768 f)) (J0 d0 e8 d8 d9 e6 e7 a3 a4) (ak2 d0 e8 d8 d9 e6 e7 a3 a4)
 (P6 d0 e8 d8 d9 e6 e7 a3 a4) (P7 d0 e8 d8 d9 e6 e7 a3 a4)
 (af5 d0 e8 d8 d9 e6 e7 a3 a4) (af9 d0 e8 d8 d9 e6 e7 a3 a4)
 (ak3 d0 e8 d8 d9 e6 e7 a3 a4) (aj5 d0 e8 d8 d9 e6 e7 a3 a4) a1 a2 a4 (iEq a3 0)
def aw5 (f d0 : Nat → Int) (e8 d8 : Int) (d9 : Bool) (e6 : Nat → Int) (e7 a1 a2 a3 : Int) (a4 : Bool) : Int :=
 bif G2 f d0 e8 d8 d9 e6 e7 a1 a2 a3 a4 then 0
 else
 bif G3 f d0 e8 d8 d9 e6 e7 a1 a2 a3 a4 then 0
 else
 df2 (fOf (byA 32768 f)) (J0 d0 e8 d8 d9 e6 e7 a3 a4) (ak2 d0 e8 d8 d9 e6 e7 a3 a4)
 (P6 d0 e8 d8 d9 e6 e7 a3 a4) (P7 d0 e8 d8 d9 e6 e7 a3 a4)
 (af5 d0 e8 d8 d9 e6 e7 a3 a4) (af9 d0 e8 d8 d9 e6 e7 a3 a4)
 (ak3 d0 e8 d8 d9 e6 e7 a3 a4) (aj5 d0 e8 d8 d9 e6 e7 a3 a4)
 (W4 f d0 e8 d8 d9 e6 e7 a1 a2 a3 a4) a2
def aw4 (f d0 : Nat → Int) (e8 d8 : Int) (d9 : Bool) (e6 : Nat → Int) (e7 a1 a2 a3 : Int) (a4 : Bool) : Int :=
 bif G2 f d0 e8 d8 d9 e6 e7 a1 a2 a3 a4 then 0
 else bif G3 f d0 e8 d8 d9 e6 e7 a1 a2 a3 a4 then 0 else g8 .i64 (iShr .u64 (W4 f d0 e8 d8 d9 e6 e7 a1 a2 a3 a4) 8)
def aj9 (f d0 : Nat → Int) (e8 d8 : Int) (d9 : Bool) (e6 : Nat → Int) (e7 a1 a2 a3 : Int) (a4 : Bool) : Int :=
 bif iLe 65536 a1 then bif J0 d0 e8 d8 d9 e6 e7 a3 a4 then D9 a1 a2 a4 else V5 a1 a2 a4 a1
 else
 bif G2 f d0 e8 d8 d9 e6 e7 a1 a2 a3 a4 then
 dG8 (fOf (byA 32768 f)) (J0 d0 e8 d8 d9 e6 e7 a3 a4) (ak2 d0 e8 d8 d9 e6 e7 a3 a4)
 (P6 d0 e8 d8 d9 e6 e7 a3 a4) (P7 d0 e8 d8 d9 e6 e7 a3 a4)
 (af5 d0 e8 d8 d9 e6 e7 a3 a4) (af9 d0 e8 d8 d9 e6 e7 a3 a4)
 (ak3 d0 e8 d8 d9 e6 e7 a3 a4) (aj5 d0 e8 d8 d9 e6 e7 a3 a4) a1 a2 a4 (iEq a3 0)
 else
 bif G3 f d0 e8 d8 d9 e6 e7 a1 a2 a3 a4 then
 M5 a1 a2 a4 (ap6 f d0 e8 d8 d9 e6 e7 a1 a2 a3 a4) (W4 f d0 e8 d8 d9 e6 e7 a1 a2 a3 a4)
 else 0
def ak0 (f d0 : Nat → Int) (e8 d8 : Int) (d9 : Bool) (e6 : Nat → Int) (e7 a1 a2 a3 : Int) (a4 : Bool) : Int :=
 bif G2 f d0 e8 d8 d9 e6 e7 a1 a2 a3 a4 then
 dJ4 (fOf (byA 32768 f)) (J0 d0 e8 d8 d9 e6 e7 a3 a4) (ak2 d0 e8 d8 d9 e6 e7 a3 a4)
 (P6 d0 e8 d8 d9 e6 e7 a3 a4) (P7 d0 e8 d8 d9 e6 e7 a3 a4)
 (af5 d0 e8 d8 d9 e6 e7 a3 a4) (af9 d0 e8 d8 d9 e6 e7 a3 a4)
 (ak3 d0 e8 d8 d9 e6 e7 a3 a4) (aj5 d0 e8 d8 d9 e6 e7 a3 a4) a1 a2 a4 (iEq a3 0)
 else bif G3 f d0 e8 d8 d9 e6 e7 a1 a2 a3 a4 then a1 else 0
def aj3 (f d0 : Nat → Int) (e8 d8 : Int) (d9 : Bool) (e6 : Nat → Int) (e7 a1 a2 a3 : Int) (a4 : Bool) : Int :=
 bif iLe 65536 a1 then bif J0 d0 e8 d8 d9 e6 e7 a3 a4 then E0 a1 a2 a4 else W1 a1 a2 a4 a1
 else
 bif G2 f d0 e8 d8 d9 e6 e7 a1 a2 a3 a4 then
 dF3 (fOf (byA 32768 f)) (J0 d0 e8 d8 d9 e6 e7 a3 a4) (ak2 d0 e8 d8 d9 e6 e7 a3 a4)
 (P6 d0 e8 d8 d9 e6 e7 a3 a4) (P7 d0 e8 d8 d9 e6 e7 a3 a4)
 (af5 d0 e8 d8 d9 e6 e7 a3 a4) (af9 d0 e8 d8 d9 e6 e7 a3 a4)
 (ak3 d0 e8 d8 d9 e6 e7 a3 a4) (aj5 d0 e8 d8 d9 e6 e7 a3 a4) a1 a2 a4 (iEq a3 0)
 else
 bif G3 f d0 e8 d8 d9 e6 e7 a1 a2 a3 a4 then
 M7 a1 a2 a4 (ap6 f d0 e8 d8 d9 e6 e7 a1 a2 a3 a4) (W4 f d0 e8 d8 d9 e6 e7 a1 a2 a3 a4)
 else 0
def au0 (f d0 : Nat → Int) (e8 d8 : Int) (d9 : Bool) (e6 : Nat → Int) (e7 a1 a2 a3 : Int) (a4 : Bool) : Bool :=
 bif G2 f d0 e8 d8 d9 e6 e7 a1 a2 a3 a4 then
 first5 (fOf (byA 32768 f)) (J0 d0 e8 d8 d9 e6 e7 a3 a4) (ak2 d0 e8 d8 d9 e6 e7 a3 a4)
 (P6 d0 e8 d8 d9 e6 e7 a3 a4) (P7 d0 e8 d8 d9 e6 e7 a3 a4)
 (af5 d0 e8 d8 d9 e6 e7 a3 a4) (af9 d0 e8 d8 d9 e6 e7 a3 a4)
 (ak3 d0 e8 d8 d9 e6 e7 a3 a4) (aj5 d0 e8 d8 d9 e6 e7 a3 a4) a1 a2 a4 (iEq a3 0)
 else bif G3 f d0 e8 d8 d9 e6 e7 a1 a2 a3 a4 then a4 else false
def K4 (f d0 : Nat → Int) (e8 d8 : Int) (d9 : Bool) (e6 : Nat → Int) (e7 a1 a2 a3 : Int) (a4 : Bool) : Int :=
 bif H1 f d0 e8 d8 d9 e6 e7 a1 a2 a3 a4 then a1 else bif iLe 65536 a1 then 0 else aC2 f d0 e8 d8 d9 e6 e7 a1 a2 a3 a4
def cd8 (f d0 : Nat → Int) (e8 d8 : Int) (d9 : Bool) (e6 : Nat → Int) (e7 a1 a2 a3 : Int) (a4 : Bool) : Int :=
 bif G1 f d0 e8 d8 d9 e6 e7 a1 a2 a3 a4 then bif iLt a1 65536 then a1 else a1
 else bif iLe 65536 a1 then bif J0 d0 e8 d8 d9 e6 e7 a3 a4 then 0 else 0 else aC2 f d0 e8 d8 d9 e6 e7 a1 a2 a3 a4
def cw2 (f d0 : Nat → Int) (e8 d8 : Int) (d9 : Bool) (e6 : Nat → Int) (e7 a1 a2 a3 : Int) (a4 : Bool) : Bool :=
 aB5 f d0 e8 d8 d9 e6 e7 a1 a2 a3 a4
def ch5 (f d0 : Nat → Int) (e8 d8 : Int) (d9 : Bool) (e6 : Nat → Int) (e7 a1 a2 a3 : Int) (a4 : Bool) : Bool :=
 au6 f d0 e8 d8 d9 e6 e7 a1 a2 a3 a4
def cv9 (f d0 : Nat → Int) (e8 d8 : Int) (d9 : Bool) (e6 : Nat → Int) (e7 a1 a2 a3 : Int) (a4 : Bool) : Bool :=
 bif H1 f d0 e8 d8 d9 e6 e7 a1 a2 a3 a4 then a4 else bif iLe 65536 a1 then false else aw9 f d0 e8 d8 d9 e6 e7 a1 a2 a3 a4
def cl1 (f d0 : Nat → Int) (e8 d8 : Int) (d9 : Bool) (e6 : Nat → Int) (e7 a1 a2 a3 : Int) (a4 : Bool) : Bool :=
 bif G1 f d0 e8 d8 d9 e6 e7 a1 a2 a3 a4 then bif iLt a1 65536 then a4 else a4
 else bif iLe 65536 a1 then bif J0 d0 e8 d8 d9 e6 e7 a3 a4 then false else false else aw9 f d0 e8 d8 d9 e6 e7 a1 a2 a3 a4
def cw9 (f d0 : Nat → Int) (e8 d8 : Int) (d9 : Bool) (e6 : Nat → Int) (e7 a1 a2 a3 : Int) (a4 : Bool) : Int :=
 bif H1 f d0 e8 d8 d9 e6 e7 a1 a2 a3 a4 then bif iLt a1 65536 then g8 .i64 (iShr .u64 a1 8) else 0
 else bif iLe 65536 a1 then 0 else as5 f d0 e8 d8 d9 e6 e7 a1 a2 a3 a4
def cn1 (f d0 : Nat → Int) (e8 d8 : Int) (d9 : Bool) (e6 : Nat → Int) (e7 a1 a2 a3 : Int) (a4 : Bool) : Int :=
 bif G1 f d0 e8 d8 d9 e6 e7 a1 a2 a3 a4 then bif iLt a1 65536 then g8 .i64 (iShr .u64 a1 8) else 0
 else bif iLe 65536 a1 then bif J0 d0 e8 d8 d9 e6 e7 a3 a4 then 0 else 0 else as5 f d0 e8 d8 d9 e6 e7 a1 a2 a3 a4
def cy0 (f d0 : Nat → Int) (e8 d8 : Int) (d9 : Bool) (e6 : Nat → Int) (e7 a1 a2 a3 : Int) (a4 : Bool) : Int :=
 bif H1 f d0 e8 d8 d9 e6 e7 a1 a2 a3 a4 then 0 else bif iLe 65536 a1 then 0 else av2 f d0 e8 d8 d9 e6 e7 a1 a2 a3 a4
def ce3 (f d0 : Nat → Int) (e8 d8 : Int) (d9 : Bool) (e6 : Nat → Int) (e7 a1 a2 a3 : Int) (a4 : Bool) : Int :=
 bif G1 f d0 e8 d8 d9 e6 e7 a1 a2 a3 a4 then bif iLt a1 65536 then 0 else 0
 else bif iLe 65536 a1 then bif J0 d0 e8 d8 d9 e6 e7 a3 a4 then 0 else 0 else av2 f d0 e8 d8 d9 e6 e7 a1 a2 a3 a4
def cv4 (f d0 : Nat → Int) (e8 d8 : Int) (d9 : Bool) (e6 : Nat → Int) (e7 a1 a2 a3 : Int) (a4 : Bool) : Int :=
 bif H1 f d0 e8 d8 d9 e6 e7 a1 a2 a3 a4 then 0 else bif iLe 65536 a1 then 0 else at0 f d0 e8 d8 d9 e6 e7 a1 a2 a3 a4
def cm5 (f d0 : Nat → Int) (e8 d8 : Int) (d9 : Bool) (e6 : Nat → Int) (e7 a1 a2 a3 : Int) (a4 : Bool) : Int :=
 bif G1 f d0 e8 d8 d9 e6 e7 a1 a2 a3 a4 then bif iLt a1 65536 then 0 else 0
 else bif iLe 65536 a1 then bif J0 d0 e8 d8 d9 e6 e7 a3 a4 then 0 else 0 else at0 f d0 e8 d8 d9 e6 e7 a1 a2 a3 a4
def cw7 (f d0 : Nat → Int) (e8 d8 : Int) (d9 : Bool) (e6 : Nat → Int) (e7 a1 a2 a3 : Int) (a4 : Bool) : Int :=
 bif H1 f d0 e8 d8 d9 e6 e7 a1 a2 a3 a4 then bif iLt a1 65536 then g8 .i64 (iShr .u64 a1 8) else 0
 else bif iLe 65536 a1 then 0 else at9 f d0 e8 d8 d9 e6 e7 a1 a2 a3 a4
def cg2 (f d0 : Nat → Int) (e8 d8 : Int) (d9 : Bool) (e6 : Nat → Int) (e7 a1 a2 a3 : Int) (a4 : Bool) : Int :=
 bif G1 f d0 e8 d8 d9 e6 e7 a1 a2 a3 a4 then bif iLt a1 65536 then g8 .i64 (iShr .u64 a1 8) else 0
 else bif iLe 65536 a1 then bif J0 d0 e8 d8 d9 e6 e7 a3 a4 then 0 else 0 else at9 f d0 e8 d8 d9 e6 e7 a1 a2 a3 a4
def cu5 (f d0 : Nat → Int) (e8 d8 : Int) (d9 : Bool) (e6 : Nat → Int) (e7 a1 a2 a3 : Int) (a4 : Bool) : Int :=
 bif H1 f d0 e8 d8 d9 e6 e7 a1 a2 a3 a4 then 255 else bif iLe 65536 a1 then 0 else au8 f d0 e8 d8 d9 e6 e7 a1 a2 a3 a4
def co1 (f d0 : Nat → Int) (e8 d8 : Int) (d9 : Bool) (e6 : Nat → Int) (e7 a1 a2 a3 : Int) (a4 : Bool) : Int :=
 bif G1 f d0 e8 d8 d9 e6 e7 a1 a2 a3 a4 then bif iLt a1 65536 then 255 else 255
 else bif iLe 65536 a1 then bif J0 d0 e8 d8 d9 e6 e7 a3 a4 then 0 else 0 else au8 f d0 e8 d8 d9 e6 e7 a1 a2 a3 a4
def cx5 (f d0 : Nat → Int) (e8 d8 : Int) (d9 : Bool) (e6 : Nat → Int) (e7 a1 a2 a3 : Int) (a4 : Bool) : Int :=
 bif H1 f d0 e8 d8 d9 e6 e7 a1 a2 a3 a4 then 255 else bif iLe 65536 a1 then 0 else aw5 f d0 e8 d8 d9 e6 e7 a1 a2 a3 a4
def cn5 (f d0 : Nat → Int) (e8 d8 : Int) (d9 : Bool) (e6 : Nat → Int) (e7 a1 a2 a3 : Int) (a4 : Bool) : Int :=
 bif G1 f d0 e8 d8 d9 e6 e7 a1 a2 a3 a4 then bif iLt a1 65536 then 255 else 255
 else bif iLe 65536 a1 then bif J0 d0 e8 d8 d9 e6 e7 a3 a4 then 0 else 0 else aw5 f d0 e8 d8 d9 e6 e7 a1 a2 a3 a4
def cu3 (f d0 : Nat → Int) (e8 d8 : Int) (d9 : Bool) (e6 : Nat → Int) (e7 a1 a2 a3 : Int) (a4 : Bool) : Int :=
 bif H1 f d0 e8 d8 d9 e6 e7 a1 a2 a3 a4 then bif iLt a1 65536 then g8 .i64 (iShr .u64 a1 8) else 0
 else bif iLe 65536 a1 then 0 else aw4 f d0 e8 d8 d9 e6 e7 a1 a2 a3 a4
def ci8 (f d0 : Nat → Int) (e8 d8 : Int) (d9 : Bool) (e6 : Nat → Int) (e7 a1 a2 a3 : Int) (a4 : Bool) : Int :=
 bif G1 f d0 e8 d8 d9 e6 e7 a1 a2 a3 a4 then bif iLt a1 65536 then g8 .i64 (iShr .u64 a1 8) else 0
 else bif iLe 65536 a1 then bif J0 d0 e8 d8 d9 e6 e7 a3 a4 then 0 else 0 else aw4 f d0 e8 d8 d9 e6 e7 a1 a2 a3 a4
def ac6 (f d0 : Nat → Int) (e8 d8 : Int) (d9 : Bool) (e6 : Nat → Int) (e7 a1 a2 a3 : Int) (a4 : Bool) : Int :=
 bif H1 f d0 e8 d8 d9 e6 e7 a1 a2 a3 a4 then 0 else aj9 f d0 e8 d8 d9 e6 e7 a1 a2 a3 a4
def bS2 (f d0 : Nat → Int) (e8 d8 : Int) (d9 : Bool) (e6 : Nat → Int) (e7 a1 a2 a3 : Int) (a4 : Bool) : Int :=
 bif G1 f d0 e8 d8 d9 e6 e7 a1 a2 a3 a4 then bif iLt a1 65536 then 0 else 0 else aj9 f d0 e8 d8 d9 e6 e7 a1 a2 a3 a4
def ax5 (f d0 : Nat → Int) (e8 d8 : Int) (d9 : Bool) (e6 : Nat → Int) (e7 a1 a2 a3 : Int) (a4 : Bool) : Int :=
 bif H1 f d0 e8 d8 d9 e6 e7 a1 a2 a3 a4 then 0 else bif iLe 65536 a1 then a1 else ak0 f d0 e8 d8 d9 e6 e7 a1 a2 a3 a4
def bR9 (f d0 : Nat → Int) (e8 d8 : Int) (d9 : Bool) (e6 : Nat → Int) (e7 a1 a2 a3 : Int) (a4 : Bool) : Int :=
 bif G1 f d0 e8 d8 d9 e6 e7 a1 a2 a3 a4 then bif iLt a1 65536 then 0 else 0
 else bif iLe 65536 a1 then bif J0 d0 e8 d8 d9 e6 e7 a3 a4 then a1 else a1 else ak0 f d0 e8 d8 d9 e6 e7 a1 a2 a3 a4
def az0 (f d0 : Nat → Int) (e8 d8 : Int) (d9 : Bool) (e6 : Nat → Int) (e7 a1 a2 a3 : Int) (a4 : Bool) : Int :=
 bif H1 f d0 e8 d8 d9 e6 e7 a1 a2 a3 a4 then 0 else aj3 f d0 e8 d8 d9 e6 e7 a1 a2 a3 a4
def bQ5 (f d0 : Nat → Int) (e8 d8 : Int) (d9 : Bool) (e6 : Nat → Int) (e7 a1 a2 a3 : Int) (a4 : Bool) : Int :=
 bif G1 f d0 e8 d8 d9 e6 e7 a1 a2 a3 a4 then bif iLt a1 65536 then 0 else 0 else aj3 f d0 e8 d8 d9 e6 e7 a1 a2 a3 a4
def aV4 (f d0 : Nat → Int) (e8 d8 : Int) (d9 : Bool) (e6 : Nat → Int) (e7 a1 a2 a3 : Int) (a4 : Bool) : Bool :=
 bif H1 f d0 e8 d8 d9 e6 e7 a1 a2 a3 a4 then false else bif iLe 65536 a1 then a4 else au0 f d0 e8 d8 d9 e6 e7 a1 a2 a3 a4
def bQ3 (f d0 : Nat → Int) (e8 d8 : Int) (d9 : Bool) (e6 : Nat → Int) (e7 a1 a2 a3 : Int) (a4 : Bool) : Bool :=
 bif G1 f d0 e8 d8 d9 e6 e7 a1 a2 a3 a4 then bif iLt a1 65536 then false else false
 else bif iLe 65536 a1 then bif J0 d0 e8 d8 d9 e6 e7 a3 a4 then a4 else a4 else au0 f d0 e8 d8 d9 e6 e7 a1 a2 a3 a4
def E4 (f d0 : Nat → Int) (e8 d8 : Int) (d9 : Bool) (e6 : Nat → Int) (e7 a1 a2 a3 : Int) (a4 : Bool) : Bool :=
 aB5 f d0 e8 d8 d9 e6 e7 a1 a2 a3 a4
def bR0 (f d0 : Nat → Int) (e8 d8 : Int) (d9 : Bool) (e6 : Nat → Int) (e7 a1 a2 a3 : Int) (a4 : Bool) : Bool :=
 au6 f d0 e8 d8 d9 e6 e7 a1 a2 a3 a4
def aS9 (f d0 : Nat → Int) (e8 d8 : Int) (d9 : Bool) (e6 : Nat → Int) (e7 a1 a2 a3 : Int) (a4 : Bool) : Bool :=
 bif G1 f d0 e8 d8 d9 e6 e7 a1 a2 a3 a4 then bif iLt a1 65536 then true else true
 else
 bif iLe 65536 a1 then bif J0 d0 e8 d8 d9 e6 e7 a3 a4 then true else true
 else bif G2 f d0 e8 d8 d9 e6 e7 a1 a2 a3 a4 then true else bif G3 f d0 e8 d8 d9 e6 e7 a1 a2 a3 a4 then true else true
def bo3 (f d0 : Nat → Int) (e8 d8 : Int) (d9 : Bool) (e6 : Nat → Int) (e7 a1 a2 a3 : Int) (a4 : Bool) : AV := .tup [.it .u64 (K4 f d0 e8 d8 d9 e6 e7 a1 a2 a3 a4), .agg [.bl (cw2 f d0 e8 d8 d9 e6 e7 a1 a2 a3 a4), .bl (cv9 f d0 e8 d8 d9 e6 e7 a1 a2 a3 a4), .it .i64 (cw9 f d0 e8 d8 d9 e6 e7 a1 a2 a3 a4), .it .i64 (cy0 f d0 e8 d8 d9 e6 e7 a1 a2 a3 a4), .it .i64 (cv4 f d0 e8 d8 d9 e6 e7 a1 a2 a3 a4), .it .i64 (cw7 f d0 e8 d8 d9 e6 e7 a1 a2 a3 a4), .it .i64 (cu5 f d0 e8 d8 d9 e6 e7 a1 a2 a3 a4), .it .i64 (cx5 f d0 e8 d8 d9 e6 e7 a1 a2 a3 a4), .it .i64 (cu3 f d0 e8 d8 d9 e6 e7 a1 a2 a3 a4)], .agg [.it .u64 (ac6 f d0 e8 d8 d9 e6 e7 a1 a2 a3 a4), .it .u64 (ax5 f d0 e8 d8 d9 e6 e7 a1 a2 a3 a4), .it .u64 (az0 f d0 e8 d8 d9 e6 e7 a1 a2 a3 a4), .bl (aV4 f d0 e8 d8 d9 e6 e7 a1 a2 a3 a4)], .bl (E4 f d0 e8 d8 d9 e6 e7 a1 a2 a3 a4)]
def bz4 (f d0 : Nat → Int) (e8 d8 : Int) (d9 : Bool) (e6 : Nat → Int) (e7 a1 a2 a3 : Int) (a4 : Bool) : AV := .tup [.it .u64 (cd8 f d0 e8 d8 d9 e6 e7 a1 a2 a3 a4), .agg [.bl (ch5 f d0 e8 d8 d9 e6 e7 a1 a2 a3 a4), .bl (cl1 f d0 e8 d8 d9 e6 e7 a1 a2 a3 a4), .it .i64 (cn1 f d0 e8 d8 d9 e6 e7 a1 a2 a3 a4), .it .i64 (ce3 f d0 e8 d8 d9 e6 e7 a1 a2 a3 a4), .it .i64 (cm5 f d0 e8 d8 d9 e6 e7 a1 a2 a3 a4), .it .i64 (cg2 f d0 e8 d8 d9 e6 e7 a1 a2 a3 a4), .it .i64 (co1 f d0 e8 d8 d9 e6 e7 a1 a2 a3 a4), .it .i64 (cn5 f d0 e8 d8 d9 e6 e7 a1 a2 a3 a4), .it .i64 (ci8 f d0 e8 d8 d9 e6 e7 a1 a2 a3 a4)], .agg [.it .u64 (bS2 f d0 e8 d8 d9 e6 e7 a1 a2 a3 a4), .it .u64 (bR9 f d0 e8 d8 d9 e6 e7 a1 a2 a3 a4), .it .u64 (bQ5 f d0 e8 d8 d9 e6 e7 a1 a2 a3 a4), .bl (bQ3 f d0 e8 d8 d9 e6 e7 a1 a2 a3 a4)], .bl (bR0 f d0 e8 d8 d9 e6 e7 a1 a2 a3 a4)]
theorem cI5 (f d0 : Nat → Int) (e8 d8 : Int) (d9 : Bool) (e6 : Nat → Int) (e7 a1 a2 a3 : Int) (a4 : Bool) : bz4 f d0 e8 d8 d9 e6 e7 a1 a2 a3 a4 = bo3 f d0 e8 d8 d9 e6 e7 a1 a2 a3 a4 := by
  unfold bz4 bo3 cd8 K4 ch5 cw2 cl1 cv9 cn1 cw9 ce3 cy0 cm5 cv4 cg2 cw7 co1 cu5 cn5 cx5 ci8 cu3 bS2 ac6 bR9 ax5 bQ5 az0 bQ3 aV4 bR0 E4
  first | (simp only [G1, G2, W4, ap6, G3, H1, aC6, aC2, aC3, aB5, au6, aw9, as5, av2, at0, at9, au8, aw5, aw4, aj9, ak0, aj3, au0, cS1, cS2, cS3, cS4, cS6, cS7]; done) | (simp only [G1, G2, W4, ap6, G3, H1, aC6, aC2, aC3, aB5, au6, aw9, as5, av2, at0, at9, au8, aw5, aw4, aj9, ak0, aj3, au0, cS1, cS2, cS3, cS4, cS6, cS7]; kernel_rfl)
theorem dR4 (f d0 : Nat → Int) (e8 d8 : Int) (d9 : Bool) (e6 : Nat → Int) (e7 a1 a2 a3 : Int) (a4 : Bool) : evFn Tryz.prog okT (m5 bq9) (hGr [(62, cz1), (63, bo4)] NOH) RO NOV 101 false Tryz.f26 [.pt 0 [] E5, .agg [.arr 32 (.int .u64) fun i => .it .u64 (d0 i), .it .u64 e8, .it .i64 d8, .bl d9, .arr 29 (.int .u64) fun i => .it .u64 (e6 i), .it .u64 e7], .it .u64 a1, .it .i64 a2, .it .i64 a3, .bl a4] (memT f) (fun v _ => some (true, v)) = some (aS9 f d0 e8 d8 d9 e6 e7 a1 a2 a3 a4, bo3 f d0 e8 d8 d9 e6 e7 a1 a2 a3 a4) :=
 (by kernel_rfl : _ = some (aS9 f d0 e8 d8 d9 e6 e7 a1 a2 a3 a4, bz4 f d0 e8 d8 d9 e6 e7 a1 a2 a3 a4)).trans (by rw [cI5])
theorem dQ2 (f d0 : Nat → Int) (e8 d8 : Int) (d9 : Bool) (e6 : Nat → Int) (e7 a1 a2 a3 : Int) (a4 : Bool) : aS9 f d0 e8 d8 d9 e6 e7 a1 a2 a3 a4 = true := by
  unfold aS9
  simp only [G1, G2, W4, ap6, G3, H1, aC6, aC2, aC3, aB5, au6, aw9, as5, av2, at0, at9, au8, aw5, aw4, aj9, ak0, aj3, au0, cS1, cS2, cS3, cS4, cS6, cS7]
noncomputable def ao6 : GRow := cC5 [sh5Q, (.int .u64), (.int .i64), (.int .i64), (.bool)] none (fun g f => bo3 f (fun i => (((g 0).fld 0).ix i).num) ((g 0).fld 1).num ((g 0).fld 2).num ((g 0).fld 3).bool (fun i => (((g 0).fld 4).ix i).num) ((g 0).fld 5).num (g 1).num (g 2).num (g 3).num (g 4).bool)
theorem bt1 : ax2 Tryz.prog 26 ao6 := bH2 ⟨Tryz.func26, of_decide_eq_true (by kernel_rfl)⟩ (au3 E9 (show GOk Tryz.prog [(62, cz1), (63, bo4)] from ⟨dO2, cl8, trivial⟩)) ac2 rfl (fun _ => rfl) (fun _ _ => rfl) (G := fun g f => aS9 f (fun i => (((g 0).fld 0).ix i).num) ((g 0).fld 1).num ((g 0).fld 2).num ((g 0).fld 3).bool (fun i => (((g 0).fld 4).ix i).num) ((g 0).fld 5).num (g 1).num (g 2).num (g 3).num (g 4).bool) (fun g f => dR4 f (fun i => (((g 0).fld 0).ix i).num) ((g 0).fld 1).num ((g 0).fld 2).num ((g 0).fld 3).bool (fun i => (((g 0).fld 4).ix i).num) ((g 0).fld 5).num (g 1).num (g 2).num (g 3).num (g 4).bool) (fun g f hp hf hc => dQ2 f (fun i => (((g 0).fld 0).ix i).num) ((g 0).fld 1).num ((g 0).fld 2).num ((g 0).fld 3).bool (fun i => (((g 0).fld 4).ix i).num) ((g 0).fld 5).num (g 1).num (g 2).num (g 3).num (g 4).bool)
end
end Go.Proofs.YtbkdnehnhbaieaaGreat.PV
set_option linter.unusedVariables false
set_option linter.unusedSimpArgs false
namespace Go.Proofs.YtbkdnehnhbaieaaGreat.PV
noncomputable section
open Go Go.Ev
def ROs : FuncId → Bool := fun f => !(memN f [17, 229, 77, 165, 138, 81, 274, 206, 142, 83])
def bX9 (t al : Int) (o : Nat → List UInt8) (f : Nat → Int) (a0 a1 a2 a3 a4 : Int) (a5 : Bool) : Int :=
 bif iEq a3 0 then bif bif iEq a3 0 then bif iLe 61440 a0 then iLt a0 62720 else false else false then 0 else bif iEq a3 2 then bif !S1 a0 a2 then 0 else 0 else bif !Q5 a0 a2 then 0 else 0
 else bif iEq a3 2 then bif !S1 a0 a2 then 0 else 0 else bif !Q5 a0 a2 then 0 else 0
def accAt0r (t al : Int) (o : Nat → List UInt8) (f : Nat → Int) (a0 a1 a2 a3 a4 : Int) (a5 : Bool) : Int :=
 bX9 t al o f a0 a1 a2 a3 a4 a5
def dG9 (t al : Int) (o : Nat → List UInt8) (f : Nat → Int) (a0 a1 a2 a3 a4 : Int) (a5 : Bool) : Int :=
 bif iEq a3 0 then bif bif iEq a3 0 then bif iLe 61440 a0 then iLt a0 62720 else false else false then 0 else bif iEq a3 2 then 0 else bif !Q5 a0 a2 then 0 else cx0 t al f a0 a2
 else bif iEq a3 2 then 0 else bif !Q5 a0 a2 then 0 else cx0 t al f a0 a2
def accAt1r (t al : Int) (o : Nat → List UInt8) (f : Nat → Int) (a0 a1 a2 a3 a4 : Int) (a5 : Bool) : Int :=
 bif iEq a3 0 then
 bif bif iEq a3 0 then bif iLe 61440 a0 then iLt a0 62720 else false else false then 0 else bif iEq a3 2 then bif !S1 a0 a2 then 0 else 0 else bif !Q5 a0 a2 then 0 else cx0 t al f a0 a2
 else bif iEq a3 2 then bif !S1 a0 a2 then 0 else 0 else bif !Q5 a0 a2 then 0 else cx0 t al f a0 a2
def cv7 (t al : Int) (o : Nat → List UInt8) (f : Nat → Int) (a0 a1 a2 a3 a4 : Int) (a5 : Bool) : Int :=
 bif iEq a3 0 then
 bif bif iEq a3 0 then bif iLe 61440 a0 then iLt a0 62720 else false else false then aa6 a1 a3 a5
 else bif iEq a3 2 then bif !S1 a0 a2 then aa6 a1 a3 a5 else 0 else bif !Q5 a0 a2 then aa6 a1 a3 a5 else 0
 else bif iEq a3 2 then bif !S1 a0 a2 then aa6 a1 a3 a5 else 0 else bif !Q5 a0 a2 then aa6 a1 a3 a5 else 0
def cv0 (t al : Int) (o : Nat → List UInt8) (f : Nat → Int) (a0 a1 a2 a3 a4 : Int) (a5 : Bool) : Int :=
 bif iEq a3 0 then bif bif iEq a3 0 then bif iLe 61440 a0 then iLt a0 62720 else false else false then a1 else bif iEq a3 2 then bif !S1 a0 a2 then a1 else 0 else bif !Q5 a0 a2 then a1 else 0
 else bif iEq a3 2 then bif !S1 a0 a2 then a1 else 0 else bif !Q5 a0 a2 then a1 else 0
def accAt4r (t al : Int) (o : Nat → List UInt8) (f : Nat → Int) (a0 a1 a2 a3 a4 : Int) (a5 : Bool) : Int :=
 bX9 t al o f a0 a1 a2 a3 a4 a5
def dH0 (t al : Int) (o : Nat → List UInt8) (f : Nat → Int) (a0 a1 a2 a3 a4 : Int) (a5 : Bool) : Bool :=
 bif iEq a3 0 then
 bif bif iEq a3 0 then bif iLe 61440 a0 then iLt a0 62720 else false else false then a5 else bif iEq a3 2 then bif !S1 a0 a2 then a5 else false else bif !Q5 a0 a2 then a5 else false
 else bif iEq a3 2 then bif !S1 a0 a2 then a5 else false else bif !Q5 a0 a2 then a5 else false
def dI4 (t al : Int) (o : Nat → List UInt8) (f : Nat → Int) (a0 a1 a2 a3 a4 : Int) (a5 : Bool) : Bool :=
 bif iEq a3 0 then
 bif bif iEq a3 0 then bif iLe 61440 a0 then iLt a0 62720 else false else false then false else bif iEq a3 2 then bif !S1 a0 a2 then false else true else bif !Q5 a0 a2 then false else true
 else bif iEq a3 2 then bif !S1 a0 a2 then false else true else bif !Q5 a0 a2 then false else true
def accAt7r (t al : Int) (o : Nat → List UInt8) (f : Nat → Int) (a0 a1 a2 a3 a4 : Int) (a5 : Bool) : Int :=
 bif iEq a3 0 then bif bif iEq a3 0 then bif iLe 61440 a0 then iLt a0 62720 else false else false then t else bif iEq a3 2 then bif !S1 a0 a2 then t else t else bif !Q5 a0 a2 then t else t
 else bif iEq a3 2 then bif !S1 a0 a2 then t else t else bif !Q5 a0 a2 then t else t
def dF2 (t al : Int) (o : Nat → List UInt8) (f : Nat → Int) (a0 a1 a2 a3 a4 : Int) (a5 : Bool) : Int :=
 bif iEq a3 0 then bif bif iEq a3 0 then bif iLe 61440 a0 then iLt a0 62720 else false else false then al else bif iEq a3 2 then bC2 al a0 a2 a4 else al
 else bif iEq a3 2 then bC2 al a0 a2 a4 else al
def accAt8r (t al : Int) (o : Nat → List UInt8) (f : Nat → Int) (a0 a1 a2 a3 a4 : Int) (a5 : Bool) : Int :=
 bif iEq a3 0 then
 bif bif iEq a3 0 then bif iLe 61440 a0 then iLt a0 62720 else false else false then al
 else bif iEq a3 2 then bif !S1 a0 a2 then bC2 al a0 a2 a4 else bC2 al a0 a2 a4 else bif !Q5 a0 a2 then al else al
 else bif iEq a3 2 then bif !S1 a0 a2 then bC2 al a0 a2 a4 else bC2 al a0 a2 a4 else bif !Q5 a0 a2 then al else al
def dG0 (t al : Int) (o : Nat → List UInt8) (f : Nat → Int) (a0 a1 a2 a3 a4 : Int) (a5 : Bool) : Nat → List UInt8 :=
 fun i0 => bif iEq a3 0 then bif bif iEq a3 0 then bif iLe 61440 a0 then iLt a0 62720 else false else false then o i0 else bif iEq a3 2 then bJ2 o a0 a2 a4 i0 else o i0
 else bif iEq a3 2 then bJ2 o a0 a2 a4 i0 else o i0
def accAt9r (t al : Int) (o : Nat → List UInt8) (f : Nat → Int) (a0 a1 a2 a3 a4 : Int) (a5 : Bool) : Nat → List UInt8 :=
 fun i0 => bif iEq a3 0 then
 bif bif iEq a3 0 then bif iLe 61440 a0 then iLt a0 62720 else false else false then o i0
 else bif iEq a3 2 then bif !S1 a0 a2 then bJ2 o a0 a2 a4 i0 else bJ2 o a0 a2 a4 i0 else bif !Q5 a0 a2 then o i0 else o i0
 else bif iEq a3 2 then bif !S1 a0 a2 then bJ2 o a0 a2 a4 i0 else bJ2 o a0 a2 a4 i0 else bif !Q5 a0 a2 then o i0 else o i0
def cB0 (t al : Int) (o : Nat → List UInt8) (f : Nat → Int) (a0 a1 a2 a3 a4 : Int) (a5 : Bool) : Nat → Int :=
 fun i0 => bif iEq a3 0 then bif bif iEq a3 0 then bif iLe 61440 a0 then iLt a0 62720 else false else false then f i0 else bif iEq a3 2 then bG9 f a0 a2 a4 i0 else f i0
 else bif iEq a3 2 then bG9 f a0 a2 a4 i0 else f i0
def dH9 (t al : Int) (o : Nat → List UInt8) (f : Nat → Int) (a0 a1 a2 a3 a4 : Int) (a5 : Bool) : Nat → Int :=
 fun i0 => bif iEq a3 0 then
 bif bif iEq a3 0 then bif iLe 61440 a0 then iLt a0 62720 else false else false then f i0
 else bif iEq a3 2 then bif !S1 a0 a2 then bG9 f a0 a2 a4 i0 else bG9 f a0 a2 a4 i0 else bif !Q5 a0 a2 then f i0 else f i0
 else bif iEq a3 2 then bif !S1 a0 a2 then bG9 f a0 a2 a4 i0 else bG9 f a0 a2 a4 i0 else bif !Q5 a0 a2 then f i0 else f i0
def ct8 (t al : Int) (o : Nat → List UInt8) (f : Nat → Int) (a0 a1 a2 a3 a4 : Int) (a5 : Bool) : Bool :=
 bif iEq a3 0 then
 bif bif iEq a3 0 then bif iLe 61440 a0 then iLt a0 62720 else false else false then true else bif iEq a3 2 then bif !S1 a0 a2 then true else true else bif !Q5 a0 a2 then true else true
 else !iEq a3 0 && bif iEq a3 2 then bif !S1 a0 a2 then true else true else bif !Q5 a0 a2 then true else true
def bS6 (t al : Int) (o : Nat → List UInt8) (f : Nat → Int) (a0 a1 a2 a3 a4 : Int) (a5 : Bool) : AV := .tup [.it .i64 0, .tup [.it .u64 (dG9 t al o f a0 a1 a2 a3 a4 a5), .agg [.it .u64 (cv7 t al o f a0 a1 a2 a3 a4 a5), .it .u64 (cv0 t al o f a0 a1 a2 a3 a4 a5), .it .u64 0, .bl (dH0 t al o f a0 a1 a2 a3 a4 a5)], .bl (dI4 t al o f a0 a1 a2 a3 a4 a5)], .agg [.it .u64 t, .it .u64 (dF2 t al o f a0 a1 a2 a3 a4 a5), .arr 4 .str fun i0 => .st (dG0 t al o f a0 a1 a2 a3 a4 a5 i0)], .arr 32768 (.int .u8) fun i0 => .it .u8 (cB0 t al o f a0 a1 a2 a3 a4 a5 i0)]
def dz4 (t al : Int) (o : Nat → List UInt8) (f : Nat → Int) (a0 a1 a2 a3 a4 : Int) (a5 : Bool) : AV := .tup [.it .i64 (accAt0r t al o f a0 a1 a2 a3 a4 a5), .tup [.it .u64 (accAt1r t al o f a0 a1 a2 a3 a4 a5), .agg [.it .u64 (cv7 t al o f a0 a1 a2 a3 a4 a5), .it .u64 (cv0 t al o f a0 a1 a2 a3 a4 a5), .it .u64 (accAt4r t al o f a0 a1 a2 a3 a4 a5), .bl (dH0 t al o f a0 a1 a2 a3 a4 a5)], .bl (dI4 t al o f a0 a1 a2 a3 a4 a5)], .agg [.it .u64 (accAt7r t al o f a0 a1 a2 a3 a4 a5), .it .u64 (accAt8r t al o f a0 a1 a2 a3 a4 a5), .arr 4 .str fun i0 => .st (accAt9r t al o f a0 a1 a2 a3 a4 a5 i0)], .arr 32768 (.int .u8) fun i0 => .it .u8 (dH9 t al o f a0 a1 a2 a3 a4 a5 i0)]
theorem accAtV_eq (t al : Int) (o : Nat → List UInt8) (f : Nat → Int) (a0 a1 a2 a3 a4 : Int) (a5 : Bool) : dz4 t al o f a0 a1 a2 a3 a4 a5 = bS6 t al o f a0 a1 a2 a3 a4 a5 := by
  unfold dz4 bS6 accAt0r accAt1r dG9 accAt4r accAt7r accAt8r dF2 accAt9r dG0 dH9 cB0
  first | (simp only [bX9, cS1, cS2, cS3, cS4, cS6, cS7]; done) | (simp only [bX9, cS1, cS2, cS3, cS4, cS6, cS7]; kernel_rfl)
theorem accAtE (t al : Int) (o : Nat → List UInt8) (f : Nat → Int) (a0 a1 a2 a3 a4 : Int) (a5 : Bool) : evFn Tryz.prog okT (m5 bq9) (hGr [(228, cv5)] (hMem [(17, bo2), (229, aW8)] NOH)) ROs NOV 101 false Tryz.f165 [.pt 0 [] J6, .it .u64 a0, .it .u64 a1, .it .i64 a2, .it .i64 a3, .it .u64 a4, .bl a5] (bi2 ⟨t, al, o, f⟩ 2) (finQ busL) = some (ct8 t al o f a0 a1 a2 a3 a4 a5, bS6 t al o f a0 a1 a2 a3 a4 a5) :=
 (by kernel_rfl : _ = some (ct8 t al o f a0 a1 a2 a3 a4 a5, dz4 t al o f a0 a1 a2 a3 a4 a5)).trans (by rw [accAtV_eq])
theorem accAtT (t al : Int) (o : Nat → List UInt8) (f : Nat → Int) (a0 a1 a2 a3 a4 : Int) (a5 : Bool) : ct8 t al o f a0 a1 a2 a3 a4 a5 = true := by first | (simp [ct8]; done) | (simp [ct8, Go.Ev.iEq, Go.Ev.iNe, Go.Ev.iLt, Go.Ev.iLe, Go.Ev.iIn]; omega)
noncomputable def aG3 : MRow := aL0 [(.int .u64), (.int .u64), (.int .i64), (.int .i64), (.int .u64), (.bool)] none (fun g S => Y1 (bS6 S.t S.a S.o S.f (g 0).num (g 1).num (g 2).num (g 3).num (g 4).num (g 5).bool) 1) (fun g S => ⟨tmOf (Y1 (bS6 S.t S.a S.o S.f (g 0).num (g 1).num (g 2).num (g 3).num (g 4).num (g 5).bool) 2), alOf (Y1 (bS6 S.t S.a S.o S.f (g 0).num (g 1).num (g 2).num (g 3).num (g 4).num (g 5).bool) 2), oOf (Y1 (bS6 S.t S.a S.o S.f (g 0).num (g 1).num (g 2).num (g 3).num (g 4).num (g 5).bool) 2), fOf (Y1 (bS6 S.t S.a S.o S.f (g 0).num (g 1).num (g 2).num (g 3).num (g 4).num (g 5).bool) 3)⟩)
theorem bv8 : aa3 Tryz.prog 165 aG3 := aJ1 ⟨Tryz.func165, of_decide_eq_true (by kernel_rfl)⟩ (au3 (ap2 E9 (show MOk Tryz.prog [(17, bo2), (229, aW8)] from ⟨cG6, ct5, trivial⟩)) (show GOk Tryz.prog [(228, cv5)] from ⟨cO2, trivial⟩)) ac2 rfl (fun _ _ => ⟨rfl, rfl, rfl⟩) (G := fun g S => ct8 S.t S.a S.o S.f (g 0).num (g 1).num (g 2).num (g 3).num (g 4).num (g 5).bool) (fun g S => accAtE S.t S.a S.o S.f (g 0).num (g 1).num (g 2).num (g 3).num (g 4).num (g 5).bool) (fun g S hp hS hc => accAtT S.t S.a S.o S.f (g 0).num (g 1).num (g 2).num (g 3).num (g 4).num (g 5).bool)
def accDo0r (t al : Int) (o : Nat → List UInt8) (f d0 : Nat → Int) (e8 d8 : Int) (d9 : Bool) (e6 : Nat → Int) (e7 a1 a2 a3 a4 a5 : Int) (a6 : Bool) : Int :=
 bif !v4 a1 a2 a3 a6 then 0 else bif !E4 f d0 e8 d8 d9 e6 e7 a1 a3 a5 a6 then 0 else 0
def bI3 (t al : Int) (o : Nat → List UInt8) (f d0 : Nat → Int) (e8 d8 : Int) (d9 : Bool) (e6 : Nat → Int) (e7 a1 a2 a3 a4 a5 : Int) (a6 : Bool) : Int :=
 bif !v4 a1 a2 a3 a6 then 0
 else
 bif !E4 f d0 e8 d8 d9 e6 e7 a1 a3 a5 a6 then 0
 else dG9 t al o f (K4 f d0 e8 d8 d9 e6 e7 a1 a3 a5 a6) a1 a2 a3 a4 a6
def af3 (t al : Int) (o : Nat → List UInt8) (f d0 : Nat → Int) (e8 d8 : Int) (d9 : Bool) (e6 : Nat → Int) (e7 a1 a2 a3 a4 a5 : Int) (a6 : Bool) : Int :=
 bif !v4 a1 a2 a3 a6 then Y9 a1 a2 a3 a6
 else
 bif !E4 f d0 e8 d8 d9 e6 e7 a1 a3 a5 a6 then ac6 f d0 e8 d8 d9 e6 e7 a1 a3 a5 a6
 else cv7 t al o f (K4 f d0 e8 d8 d9 e6 e7 a1 a3 a5 a6) a1 a2 a3 a4 a6
def af4 (t al : Int) (o : Nat → List UInt8) (f d0 : Nat → Int) (e8 d8 : Int) (d9 : Bool) (e6 : Nat → Int) (e7 a1 a2 a3 a4 a5 : Int) (a6 : Bool) : Int :=
 bif !v4 a1 a2 a3 a6 then Z6 a1 a2 a3 a6
 else
 bif !E4 f d0 e8 d8 d9 e6 e7 a1 a3 a5 a6 then ax5 f d0 e8 d8 d9 e6 e7 a1 a3 a5 a6
 else cv0 t al o f (K4 f d0 e8 d8 d9 e6 e7 a1 a3 a5 a6) a1 a2 a3 a4 a6
def af7 (t al : Int) (o : Nat → List UInt8) (f d0 : Nat → Int) (e8 d8 : Int) (d9 : Bool) (e6 : Nat → Int) (e7 a1 a2 a3 a4 a5 : Int) (a6 : Bool) : Int :=
 bif !v4 a1 a2 a3 a6 then 0
 else bif !E4 f d0 e8 d8 d9 e6 e7 a1 a3 a5 a6 then az0 f d0 e8 d8 d9 e6 e7 a1 a3 a5 a6 else 0
def am9 (t al : Int) (o : Nat → List UInt8) (f d0 : Nat → Int) (e8 d8 : Int) (d9 : Bool) (e6 : Nat → Int) (e7 a1 a2 a3 a4 a5 : Int) (a6 : Bool) : Bool :=
 bif !v4 a1 a2 a3 a6 then av9 a1 a2 a3 a6
 else
 bif !E4 f d0 e8 d8 d9 e6 e7 a1 a3 a5 a6 then aV4 f d0 e8 d8 d9 e6 e7 a1 a3 a5 a6
 else dH0 t al o f (K4 f d0 e8 d8 d9 e6 e7 a1 a3 a5 a6) a1 a2 a3 a4 a6
def D7 (t al : Int) (o : Nat → List UInt8) (f d0 : Nat → Int) (e8 d8 : Int) (d9 : Bool) (e6 : Nat → Int) (e7 a1 a2 a3 a4 a5 : Int) (a6 : Bool) : Bool :=
 bif !v4 a1 a2 a3 a6 then false
 else
 bif !E4 f d0 e8 d8 d9 e6 e7 a1 a3 a5 a6 then false
 else dI4 t al o f (K4 f d0 e8 d8 d9 e6 e7 a1 a3 a5 a6) a1 a2 a3 a4 a6
def accDo7r (t al : Int) (o : Nat → List UInt8) (f d0 : Nat → Int) (e8 d8 : Int) (d9 : Bool) (e6 : Nat → Int) (e7 a1 a2 a3 a4 a5 : Int) (a6 : Bool) : Int :=
 bif !v4 a1 a2 a3 a6 then t else bif !E4 f d0 e8 d8 d9 e6 e7 a1 a3 a5 a6 then t else t
def an0 (t al : Int) (o : Nat → List UInt8) (f d0 : Nat → Int) (e8 d8 : Int) (d9 : Bool) (e6 : Nat → Int) (e7 a1 a2 a3 a4 a5 : Int) (a6 : Bool) : Int :=
 bif !v4 a1 a2 a3 a6 then al
 else
 bif !E4 f d0 e8 d8 d9 e6 e7 a1 a3 a5 a6 then al
 else dF2 t al o f (K4 f d0 e8 d8 d9 e6 e7 a1 a3 a5 a6) a1 a2 a3 a4 a6
def an2 (t al : Int) (o : Nat → List UInt8) (f d0 : Nat → Int) (e8 d8 : Int) (d9 : Bool) (e6 : Nat → Int) (e7 a1 a2 a3 a4 a5 : Int) (a6 : Bool) : Nat → List UInt8 :=
 fun i0 => bif !v4 a1 a2 a3 a6 then o i0
 else
 bif !E4 f d0 e8 d8 d9 e6 e7 a1 a3 a5 a6 then o i0
 else dG0 t al o f (K4 f d0 e8 d8 d9 e6 e7 a1 a3 a5 a6) a1 a2 a3 a4 a6 i0
def X5 (t al : Int) (o : Nat → List UInt8) (f d0 : Nat → Int) (e8 d8 : Int) (d9 : Bool) (e6 : Nat → Int) (e7 a1 a2 a3 a4 a5 : Int) (a6 : Bool) : Nat → Int :=
 fun i0 => bif !v4 a1 a2 a3 a6 then f i0
 else
 bif !E4 f d0 e8 d8 d9 e6 e7 a1 a3 a5 a6 then f i0
 else cB0 t al o f (K4 f d0 e8 d8 d9 e6 e7 a1 a3 a5 a6) a1 a2 a3 a4 a6 i0
def cO9 (t al : Int) (o : Nat → List UInt8) (f d0 : Nat → Int) (e8 d8 : Int) (d9 : Bool) (e6 : Nat → Int) (e7 a1 a2 a3 a4 a5 : Int) (a6 : Bool) : Bool :=
 bif !v4 a1 a2 a3 a6 then true else bif !E4 f d0 e8 d8 d9 e6 e7 a1 a3 a5 a6 then true else true
def bQ7 (t al : Int) (o : Nat → List UInt8) (f d0 : Nat → Int) (e8 d8 : Int) (d9 : Bool) (e6 : Nat → Int) (e7 a1 a2 a3 a4 a5 : Int) (a6 : Bool) : AV := .tup [.it .i64 0, .tup [.it .u64 (bI3 t al o f d0 e8 d8 d9 e6 e7 a1 a2 a3 a4 a5 a6), .agg [.it .u64 (af3 t al o f d0 e8 d8 d9 e6 e7 a1 a2 a3 a4 a5 a6), .it .u64 (af4 t al o f d0 e8 d8 d9 e6 e7 a1 a2 a3 a4 a5 a6), .it .u64 (af7 t al o f d0 e8 d8 d9 e6 e7 a1 a2 a3 a4 a5 a6), .bl (am9 t al o f d0 e8 d8 d9 e6 e7 a1 a2 a3 a4 a5 a6)], .bl (D7 t al o f d0 e8 d8 d9 e6 e7 a1 a2 a3 a4 a5 a6)], .agg [.it .u64 t, .it .u64 (an0 t al o f d0 e8 d8 d9 e6 e7 a1 a2 a3 a4 a5 a6), .arr 4 .str fun i0 => .st (an2 t al o f d0 e8 d8 d9 e6 e7 a1 a2 a3 a4 a5 a6 i0)], .arr 32768 (.int .u8) fun i0 => .it .u8 (X5 t al o f d0 e8 d8 d9 e6 e7 a1 a2 a3 a4 a5 a6 i0)]
def dq9 (t al : Int) (o : Nat → List UInt8) (f d0 : Nat → Int) (e8 d8 : Int) (d9 : Bool) (e6 : Nat → Int) (e7 a1 a2 a3 a4 a5 : Int) (a6 : Bool) : AV := .tup [.it .i64 (accDo0r t al o f d0 e8 d8 d9 e6 e7 a1 a2 a3 a4 a5 a6), .tup [.it .u64 (bI3 t al o f d0 e8 d8 d9 e6 e7 a1 a2 a3 a4 a5 a6), .agg [.it .u64 (af3 t al o f d0 e8 d8 d9 e6 e7 a1 a2 a3 a4 a5 a6), .it .u64 (af4 t al o f d0 e8 d8 d9 e6 e7 a1 a2 a3 a4 a5 a6), .it .u64 (af7 t al o f d0 e8 d8 d9 e6 e7 a1 a2 a3 a4 a5 a6), .bl (am9 t al o f d0 e8 d8 d9 e6 e7 a1 a2 a3 a4 a5 a6)], .bl (D7 t al o f d0 e8 d8 d9 e6 e7 a1 a2 a3 a4 a5 a6)], .agg [.it .u64 (accDo7r t al o f d0 e8 d8 d9 e6 e7 a1 a2 a3 a4 a5 a6), .it .u64 (an0 t al o f d0 e8 d8 d9 e6 e7 a1 a2 a3 a4 a5 a6), .arr 4 .str fun i0 => .st (an2 t al o f d0 e8 d8 d9 e6 e7 a1 a2 a3 a4 a5 a6 i0)], .arr 32768 (.int .u8) fun i0 => .it .u8 (X5 t al o f d0 e8 d8 d9 e6 e7 a1 a2 a3 a4 a5 a6 i0)]
theorem accDoV_eq (t al : Int) (o : Nat → List UInt8) (f d0 : Nat → Int) (e8 d8 : Int) (d9 : Bool) (e6 : Nat → Int) (e7 a1 a2 a3 a4 a5 : Int) (a6 : Bool) : dq9 t al o f d0 e8 d8 d9 e6 e7 a1 a2 a3 a4 a5 a6 = bQ7 t al o f d0 e8 d8 d9 e6 e7 a1 a2 a3 a4 a5 a6 := by
  unfold dq9 bQ7 accDo0r accDo7r
  first | (simp only [cS1, cS2, cS3, cS4, cS6, cS7]; done) | (simp only [cS1, cS2, cS3, cS4, cS6, cS7]; kernel_rfl)
theorem accDoE (t al : Int) (o : Nat → List UInt8) (f d0 : Nat → Int) (e8 d8 : Int) (d9 : Bool) (e6 : Nat → Int) (e7 a1 a2 a3 a4 a5 : Int) (a6 : Bool) : evFn Tryz.prog okT (m5 bq9) (hGr [(35, aK6), (26, ao6)] (hMem [(165, aG3)] NOH)) ROs NOV 101 false Tryz.f138 [.pt 0 [] J6, .agg [.arr 32 (.int .u64) fun i => .it .u64 (d0 i), .it .u64 e8, .it .i64 d8, .bl d9, .arr 29 (.int .u64) fun i => .it .u64 (e6 i), .it .u64 e7], .it .u64 a1, .it .i64 a2, .it .i64 a3, .it .u64 a4, .it .i64 a5, .bl a6] (bi2 ⟨t, al, o, f⟩ 2) (finQ busL) = some (cO9 t al o f d0 e8 d8 d9 e6 e7 a1 a2 a3 a4 a5 a6, bQ7 t al o f d0 e8 d8 d9 e6 e7 a1 a2 a3 a4 a5 a6) :=
 (by kernel_rfl : _ = some (cO9 t al o f d0 e8 d8 d9 e6 e7 a1 a2 a3 a4 a5 a6, dq9 t al o f d0 e8 d8 d9 e6 e7 a1 a2 a3 a4 a5 a6)).trans (by rw [accDoV_eq])
theorem accDoT (t al : Int) (o : Nat → List UInt8) (f d0 : Nat → Int) (e8 d8 : Int) (d9 : Bool) (e6 : Nat → Int) (e7 a1 a2 a3 a4 a5 : Int) (a6 : Bool) : cO9 t al o f d0 e8 d8 d9 e6 e7 a1 a2 a3 a4 a5 a6 = true := by
  unfold cO9
  simp only [cS1, cS2, cS3, cS4, cS6, cS7]
noncomputable def bq2 : MRow := aL0 [sh5Q, (.int .u64), (.int .i64), (.int .i64), (.int .u64), (.int .i64), (.bool)] none (fun g S => Y1 (bQ7 S.t S.a S.o S.f (fun i => (((g 0).fld 0).ix i).num) ((g 0).fld 1).num ((g 0).fld 2).num ((g 0).fld 3).bool (fun i => (((g 0).fld 4).ix i).num) ((g 0).fld 5).num (g 1).num (g 2).num (g 3).num (g 4).num (g 5).num (g 6).bool) 1) (fun g S => ⟨tmOf (Y1 (bQ7 S.t S.a S.o S.f (fun i => (((g 0).fld 0).ix i).num) ((g 0).fld 1).num ((g 0).fld 2).num ((g 0).fld 3).bool (fun i => (((g 0).fld 4).ix i).num) ((g 0).fld 5).num (g 1).num (g 2).num (g 3).num (g 4).num (g 5).num (g 6).bool) 2), alOf (Y1 (bQ7 S.t S.a S.o S.f (fun i => (((g 0).fld 0).ix i).num) ((g 0).fld 1).num ((g 0).fld 2).num ((g 0).fld 3).bool (fun i => (((g 0).fld 4).ix i).num) ((g 0).fld 5).num (g 1).num (g 2).num (g 3).num (g 4).num (g 5).num (g 6).bool) 2), oOf (Y1 (bQ7 S.t S.a S.o S.f (fun i => (((g 0).fld 0).ix i).num) ((g 0).fld 1).num ((g 0).fld 2).num ((g 0).fld 3).bool (fun i => (((g 0).fld 4).ix i).num) ((g 0).fld 5).num (g 1).num (g 2).num (g 3).num (g 4).num (g 5).num (g 6).bool) 2), fOf (Y1 (bQ7 S.t S.a S.o S.f (fun i => (((g 0).fld 0).ix i).num) ((g 0).fld 1).num ((g 0).fld 2).num ((g 0).fld 3).bool (fun i => (((g 0).fld 4).ix i).num) ((g 0).fld 5).num (g 1).num (g 2).num (g 3).num (g 4).num (g 5).num (g 6).bool) 3)⟩)
theorem cm8 : aa3 Tryz.prog 138 bq2 := aJ1 ⟨Tryz.func138, of_decide_eq_true (by kernel_rfl)⟩ (au3 (ap2 E9 (show MOk Tryz.prog [(165, aG3)] from ⟨bv8, trivial⟩)) (show GOk Tryz.prog [(35, aK6), (26, ao6)] from ⟨cm1, bt1, trivial⟩)) ac2 rfl (fun _ _ => ⟨rfl, rfl, rfl⟩) (G := fun g S => cO9 S.t S.a S.o S.f (fun i => (((g 0).fld 0).ix i).num) ((g 0).fld 1).num ((g 0).fld 2).num ((g 0).fld 3).bool (fun i => (((g 0).fld 4).ix i).num) ((g 0).fld 5).num (g 1).num (g 2).num (g 3).num (g 4).num (g 5).num (g 6).bool) (fun g S => accDoE S.t S.a S.o S.f (fun i => (((g 0).fld 0).ix i).num) ((g 0).fld 1).num ((g 0).fld 2).num ((g 0).fld 3).bool (fun i => (((g 0).fld 4).ix i).num) ((g 0).fld 5).num (g 1).num (g 2).num (g 3).num (g 4).num (g 5).num (g 6).bool) (fun g S hp hS hc => accDoT S.t S.a S.o S.f (fun i => (((g 0).fld 0).ix i).num) ((g 0).fld 1).num ((g 0).fld 2).num ((g 0).fld 3).bool (fun i => (((g 0).fld 4).ix i).num) ((g 0).fld 5).num (g 1).num (g 2).num (g 3).num (g 4).num (g 5).num (g 6).bool)
def O5 (t al : Int) (o : Nat → List UInt8) (f d0 : Nat → Int) (e8 d8 : Int) (d9 : Bool) (e6 : Nat → Int) (e7 : Int) : Int :=
 g8 .u32 (bI3 t al o f d0 e8 d8 d9 e6 e7 e8 4 0 0 d8 d9)
def aF2 (t al : Int) (o : Nat → List UInt8) (f d0 : Nat → Int) (e8 d8 : Int) (d9 : Bool) (e6 : Nat → Int) (e7 : Int) : Int :=
 af3 t al o f d0 e8 d8 d9 e6 e7 e8 4 0 0 d8 d9
def aG1 (t al : Int) (o : Nat → List UInt8) (f d0 : Nat → Int) (e8 d8 : Int) (d9 : Bool) (e6 : Nat → Int) (e7 : Int) : Int :=
 af4 t al o f d0 e8 d8 d9 e6 e7 e8 4 0 0 d8 d9
def aF7 (t al : Int) (o : Nat → List UInt8) (f d0 : Nat → Int) (e8 d8 : Int) (d9 : Bool) (e6 : Nat → Int) (e7 : Int) : Int :=
 af7 t al o f d0 e8 d8 d9 e6 e7 e8 4 0 0 d8 d9
def aG2 (t al : Int) (o : Nat → List UInt8) (f d0 : Nat → Int) (e8 d8 : Int) (d9 : Bool) (e6 : Nat → Int) (e7 : Int) : Bool :=
 am9 t al o f d0 e8 d8 d9 e6 e7 e8 4 0 0 d8 d9
def H6 (t al : Int) (o : Nat → List UInt8) (f d0 : Nat → Int) (e8 d8 : Int) (d9 : Bool) (e6 : Nat → Int) (e7 : Int) : Bool :=
 D7 t al o f d0 e8 d8 d9 e6 e7 e8 4 0 0 d8 d9
def O6 (t al : Int) (o : Nat → List UInt8) (f d0 : Nat → Int) (e8 d8 : Int) (d9 : Bool) (e6 : Nat → Int) (e7 : Int) : Int :=
 an0 t al o f d0 e8 d8 d9 e6 e7 e8 4 0 0 d8 d9
def O0 (t al : Int) (o : Nat → List UInt8) (f d0 : Nat → Int) (e8 d8 : Int) (d9 : Bool) (e6 : Nat → Int) (e7 : Int) : Nat → List UInt8 :=
 fun i0 => an2 t al o f d0 e8 d8 d9 e6 e7 e8 4 0 0 d8 d9 i0
def O3 (t al : Int) (o : Nat → List UInt8) (f d0 : Nat → Int) (e8 d8 : Int) (d9 : Bool) (e6 : Nat → Int) (e7 : Int) : Nat → Int :=
 fun i0 => X5 t al o f d0 e8 d8 d9 e6 e7 e8 4 0 0 d8 d9 i0
def cA4 (t al : Int) (o : Nat → List UInt8) (f d0 : Nat → Int) (e8 d8 : Int) (d9 : Bool) (e6 : Nat → Int) (e7 : Int) : Bool :=
 true
def bm8 (t al : Int) (o : Nat → List UInt8) (f d0 : Nat → Int) (e8 d8 : Int) (d9 : Bool) (e6 : Nat → Int) (e7 : Int) : AV := .tup [.it .i64 0, .tup [.it .u32 (O5 t al o f d0 e8 d8 d9 e6 e7), .agg [.it .u64 (aF2 t al o f d0 e8 d8 d9 e6 e7), .it .u64 (aG1 t al o f d0 e8 d8 d9 e6 e7), .it .u64 (aF7 t al o f d0 e8 d8 d9 e6 e7), .bl (aG2 t al o f d0 e8 d8 d9 e6 e7)], .bl (H6 t al o f d0 e8 d8 d9 e6 e7)], .agg [.it .u64 t, .it .u64 (O6 t al o f d0 e8 d8 d9 e6 e7), .arr 4 .str fun i0 => .st (O0 t al o f d0 e8 d8 d9 e6 e7 i0)], .arr 32768 (.int .u8) fun i0 => .it .u8 (O3 t al o f d0 e8 d8 d9 e6 e7 i0)]
theorem accWordE (t al : Int) (o : Nat → List UInt8) (f d0 : Nat → Int) (e8 d8 : Int) (d9 : Bool) (e6 : Nat → Int) (e7 : Int) : evFn Tryz.prog okT (m5 bq9) (hGr [] (hMem [(138, bq2)] NOH)) ROs NOV 101 false Tryz.f81 [.pt 0 [] J6, .agg [.arr 32 (.int .u64) fun i => .it .u64 (d0 i), .it .u64 e8, .it .i64 d8, .bl d9, .arr 29 (.int .u64) fun i => .it .u64 (e6 i), .it .u64 e7]] (bi2 ⟨t, al, o, f⟩ 2) (finQ busL) = some (cA4 t al o f d0 e8 d8 d9 e6 e7, bm8 t al o f d0 e8 d8 d9 e6 e7) := by kernel_rfl
theorem accWordT (t al : Int) (o : Nat → List UInt8) (f d0 : Nat → Int) (e8 d8 : Int) (d9 : Bool) (e6 : Nat → Int) (e7 : Int) : cA4 t al o f d0 e8 d8 d9 e6 e7 = true := rfl
noncomputable def aU9 : MRow := aL0 [sh5Q] none (fun g S => Y1 (bm8 S.t S.a S.o S.f (fun i => (((g 0).fld 0).ix i).num) ((g 0).fld 1).num ((g 0).fld 2).num ((g 0).fld 3).bool (fun i => (((g 0).fld 4).ix i).num) ((g 0).fld 5).num) 1) (fun g S => ⟨tmOf (Y1 (bm8 S.t S.a S.o S.f (fun i => (((g 0).fld 0).ix i).num) ((g 0).fld 1).num ((g 0).fld 2).num ((g 0).fld 3).bool (fun i => (((g 0).fld 4).ix i).num) ((g 0).fld 5).num) 2), alOf (Y1 (bm8 S.t S.a S.o S.f (fun i => (((g 0).fld 0).ix i).num) ((g 0).fld 1).num ((g 0).fld 2).num ((g 0).fld 3).bool (fun i => (((g 0).fld 4).ix i).num) ((g 0).fld 5).num) 2), oOf (Y1 (bm8 S.t S.a S.o S.f (fun i => (((g 0).fld 0).ix i).num) ((g 0).fld 1).num ((g 0).fld 2).num ((g 0).fld 3).bool (fun i => (((g 0).fld 4).ix i).num) ((g 0).fld 5).num) 2), fOf (Y1 (bm8 S.t S.a S.o S.f (fun i => (((g 0).fld 0).ix i).num) ((g 0).fld 1).num ((g 0).fld 2).num ((g 0).fld 3).bool (fun i => (((g 0).fld 4).ix i).num) ((g 0).fld 5).num) 3)⟩)
theorem cD3 : aa3 Tryz.prog 81 aU9 := aJ1 ⟨Tryz.func81, of_decide_eq_true (by kernel_rfl)⟩ (au3 (ap2 E9 (show MOk Tryz.prog [(138, bq2)] from ⟨cm8, trivial⟩)) (show GOk Tryz.prog [] from trivial)) ac2 rfl (fun _ _ => ⟨rfl, rfl, rfl⟩) (G := fun g S => cA4 S.t S.a S.o S.f (fun i => (((g 0).fld 0).ix i).num) ((g 0).fld 1).num ((g 0).fld 2).num ((g 0).fld 3).bool (fun i => (((g 0).fld 4).ix i).num) ((g 0).fld 5).num) (fun g S => accWordE S.t S.a S.o S.f (fun i => (((g 0).fld 0).ix i).num) ((g 0).fld 1).num ((g 0).fld 2).num ((g 0).fld 3).bool (fun i => (((g 0).fld 4).ix i).num) ((g 0).fld 5).num) (fun g S hp hS hc => accWordT S.t S.a S.o S.f (fun i => (((g 0).fld 0).ix i).num) ((g 0).fld 1).num ((g 0).fld 2).num ((g 0).fld 3).bool (fun i => (((g 0).fld 4).ix i).num) ((g 0).fld 5).num)
def dH2 (t al : Int) (o : Nat → List UInt8) (f d0 : Nat → Int) (e8 d8 : Int) (d9 : Bool) (e6 : Nat → Int) (e7 a1 a2 : Int) : Int :=
 bif !v4 a1 4 1 true then 0 else bif !E4 f d0 e8 d8 d9 e6 e7 a1 0 a2 true then 0 else 0
def bf6 (t al : Int) (o : Nat → List UInt8) (f d0 : Nat → Int) (e8 d8 : Int) (d9 : Bool) (e6 : Nat → Int) (e7 a1 a2 : Int) : Int :=
 bif !v4 a1 4 1 true then 0
 else
 bif !E4 f d0 e8 d8 d9 e6 e7 a1 0 a2 true then 0
 else ab6 68 (dG9 t al o f (K4 f d0 e8 d8 d9 e6 e7 a1 0 a2 true) a1 4 1 0 true)
def am2 (t al : Int) (o : Nat → List UInt8) (f d0 : Nat → Int) (e8 d8 : Int) (d9 : Bool) (e6 : Nat → Int) (e7 a1 a2 : Int) : Int :=
 bif !v4 a1 4 1 true then Y9 a1 4 1 true
 else
 bif !E4 f d0 e8 d8 d9 e6 e7 a1 0 a2 true then
 bif (ai6 (ac6 f d0 e8 d8 d9 e6 e7 a1 0 a2 true)).toNat == 2 then 21
 else
 bif (ai6 (ac6 f d0 e8 d8 d9 e6 e7 a1 0 a2 true)).toNat == 1 then 13
 else bif (ai6 (ac6 f d0 e8 d8 d9 e6 e7 a1 0 a2 true)).toNat == 0 then 5 else 0
 else cv7 t al o f (K4 f d0 e8 d8 d9 e6 e7 a1 0 a2 true) a1 4 1 0 true
def al4 (t al : Int) (o : Nat → List UInt8) (f d0 : Nat → Int) (e8 d8 : Int) (d9 : Bool) (e6 : Nat → Int) (e7 a1 a2 : Int) : Int :=
 bif !v4 a1 4 1 true then Z6 a1 4 1 true
 else
 bif !E4 f d0 e8 d8 d9 e6 e7 a1 0 a2 true then ax5 f d0 e8 d8 d9 e6 e7 a1 0 a2 true
 else cv0 t al o f (K4 f d0 e8 d8 d9 e6 e7 a1 0 a2 true) a1 4 1 0 true
def am7 (t al : Int) (o : Nat → List UInt8) (f d0 : Nat → Int) (e8 d8 : Int) (d9 : Bool) (e6 : Nat → Int) (e7 a1 a2 : Int) : Int :=
 bif !v4 a1 4 1 true then 0
 else bif !E4 f d0 e8 d8 d9 e6 e7 a1 0 a2 true then az0 f d0 e8 d8 d9 e6 e7 a1 0 a2 true else 0
def at5 (t al : Int) (o : Nat → List UInt8) (f d0 : Nat → Int) (e8 d8 : Int) (d9 : Bool) (e6 : Nat → Int) (e7 a1 a2 : Int) : Bool :=
 bif !v4 a1 4 1 true then av9 a1 4 1 true
 else
 bif !E4 f d0 e8 d8 d9 e6 e7 a1 0 a2 true then aV4 f d0 e8 d8 d9 e6 e7 a1 0 a2 true
 else dH0 t al o f (K4 f d0 e8 d8 d9 e6 e7 a1 0 a2 true) a1 4 1 0 true
def bc8 (t al : Int) (o : Nat → List UInt8) (f d0 : Nat → Int) (e8 d8 : Int) (d9 : Bool) (e6 : Nat → Int) (e7 a1 a2 : Int) : Bool :=
 bif !v4 a1 4 1 true then false
 else
 bif !E4 f d0 e8 d8 d9 e6 e7 a1 0 a2 true then false
 else dI4 t al o f (K4 f d0 e8 d8 d9 e6 e7 a1 0 a2 true) a1 4 1 0 true
def dC7 (t al : Int) (o : Nat → List UInt8) (f d0 : Nat → Int) (e8 d8 : Int) (d9 : Bool) (e6 : Nat → Int) (e7 a1 a2 : Int) : Int :=
 bif !v4 a1 4 1 true then t else bif !E4 f d0 e8 d8 d9 e6 e7 a1 0 a2 true then t else t
def au4 (t al : Int) (o : Nat → List UInt8) (f d0 : Nat → Int) (e8 d8 : Int) (d9 : Bool) (e6 : Nat → Int) (e7 a1 a2 : Int) : Int :=
 bif !v4 a1 4 1 true then al
 else
 bif !E4 f d0 e8 d8 d9 e6 e7 a1 0 a2 true then al
 else dF2 t al o f (K4 f d0 e8 d8 d9 e6 e7 a1 0 a2 true) a1 4 1 0 true
def aw0 (t al : Int) (o : Nat → List UInt8) (f d0 : Nat → Int) (e8 d8 : Int) (d9 : Bool) (e6 : Nat → Int) (e7 a1 a2 : Int) : Nat → List UInt8 :=
 fun i0 => bif !v4 a1 4 1 true then o i0
 else
 bif !E4 f d0 e8 d8 d9 e6 e7 a1 0 a2 true then o i0
 else dG0 t al o f (K4 f d0 e8 d8 d9 e6 e7 a1 0 a2 true) a1 4 1 0 true i0
def af8 (t al : Int) (o : Nat → List UInt8) (f d0 : Nat → Int) (e8 d8 : Int) (d9 : Bool) (e6 : Nat → Int) (e7 a1 a2 : Int) : Nat → Int :=
 fun i0 => bif !v4 a1 4 1 true then f i0
 else
 bif !E4 f d0 e8 d8 d9 e6 e7 a1 0 a2 true then f i0
 else cB0 t al o f (K4 f d0 e8 d8 d9 e6 e7 a1 0 a2 true) a1 4 1 0 true i0
def cm7 (t al : Int) (o : Nat → List UInt8) (f d0 : Nat → Int) (e8 d8 : Int) (d9 : Bool) (e6 : Nat → Int) (e7 a1 a2 : Int) : Bool :=
 bif !v4 a1 4 1 true then true
 else
 bif !E4 f d0 e8 d8 d9 e6 e7 a1 0 a2 true then
 iIn (ai6 (ac6 f d0 e8 d8 d9 e6 e7 a1 0 a2 true)) 3 && true
 else true
def bk4 (t al : Int) (o : Nat → List UInt8) (f d0 : Nat → Int) (e8 d8 : Int) (d9 : Bool) (e6 : Nat → Int) (e7 a1 a2 : Int) : AV := .tup [.it .i64 0, .tup [.it .u64 (bf6 t al o f d0 e8 d8 d9 e6 e7 a1 a2), .agg [.it .u64 (am2 t al o f d0 e8 d8 d9 e6 e7 a1 a2), .it .u64 (al4 t al o f d0 e8 d8 d9 e6 e7 a1 a2), .it .u64 (am7 t al o f d0 e8 d8 d9 e6 e7 a1 a2), .bl (at5 t al o f d0 e8 d8 d9 e6 e7 a1 a2)], .bl (bc8 t al o f d0 e8 d8 d9 e6 e7 a1 a2)], .agg [.it .u64 t, .it .u64 (au4 t al o f d0 e8 d8 d9 e6 e7 a1 a2), .arr 4 .str fun i0 => .st (aw0 t al o f d0 e8 d8 d9 e6 e7 a1 a2 i0)], .arr 32768 (.int .u8) fun i0 => .it .u8 (af8 t al o f d0 e8 d8 d9 e6 e7 a1 a2 i0)]
def cC4 (t al : Int) (o : Nat → List UInt8) (f d0 : Nat → Int) (e8 d8 : Int) (d9 : Bool) (e6 : Nat → Int) (e7 a1 a2 : Int) : AV := .tup [.it .i64 (dH2 t al o f d0 e8 d8 d9 e6 e7 a1 a2), .tup [.it .u64 (bf6 t al o f d0 e8 d8 d9 e6 e7 a1 a2), .agg [.it .u64 (am2 t al o f d0 e8 d8 d9 e6 e7 a1 a2), .it .u64 (al4 t al o f d0 e8 d8 d9 e6 e7 a1 a2), .it .u64 (am7 t al o f d0 e8 d8 d9 e6 e7 a1 a2), .bl (at5 t al o f d0 e8 d8 d9 e6 e7 a1 a2)], .bl (bc8 t al o f d0 e8 d8 d9 e6 e7 a1 a2)], .agg [.it .u64 (dC7 t al o f d0 e8 d8 d9 e6 e7 a1 a2), .it .u64 (au4 t al o f d0 e8 d8 d9 e6 e7 a1 a2), .arr 4 .str fun i0 => .st (aw0 t al o f d0 e8 d8 d9 e6 e7 a1 a2 i0)], .arr 32768 (.int .u8) fun i0 => .it .u8 (af8 t al o f d0 e8 d8 d9 e6 e7 a1 a2 i0)]
theorem dP1 (t al : Int) (o : Nat → List UInt8) (f d0 : Nat → Int) (e8 d8 : Int) (d9 : Bool) (e6 : Nat → Int) (e7 a1 a2 : Int) : cC4 t al o f d0 e8 d8 d9 e6 e7 a1 a2 = bk4 t al o f d0 e8 d8 d9 e6 e7 a1 a2 := by
  unfold cC4 bk4 dH2 dC7
  first | (simp only [cS1, cS2, cS3, cS4, cS6, cS7]; done) | (simp only [cS1, cS2, cS3, cS4, cS6, cS7]; kernel_rfl)
theorem accRunE (t al : Int) (o : Nat → List UInt8) (f d0 : Nat → Int) (e8 d8 : Int) (d9 : Bool) (e6 : Nat → Int) (e7 a1 a2 : Int) : evFn Tryz.prog okT (m5 bq9) (hGr [(35, aK6), (26, ao6)] (hMem [(165, aG3)] NOH)) ROs NOV 101 false Tryz.f274 [.pt 0 [] J6, .agg [.arr 32 (.int .u64) fun i => .it .u64 (d0 i), .it .u64 e8, .it .i64 d8, .bl d9, .arr 29 (.int .u64) fun i => .it .u64 (e6 i), .it .u64 e7], .it .u64 a1, .it .i64 a2] (bi2 ⟨t, al, o, f⟩ 2) (finQ busL) = some (cm7 t al o f d0 e8 d8 d9 e6 e7 a1 a2, bk4 t al o f d0 e8 d8 d9 e6 e7 a1 a2) :=
 (by kernel_rfl : _ = some (cm7 t al o f d0 e8 d8 d9 e6 e7 a1 a2, cC4 t al o f d0 e8 d8 d9 e6 e7 a1 a2)).trans (by rw [dP1])
theorem accRunT (t al : Int) (o : Nat → List UInt8) (f d0 : Nat → Int) (e8 d8 : Int) (d9 : Bool) (e6 : Nat → Int) (e7 a1 a2 : Int) : cm7 t al o f d0 e8 d8 d9 e6 e7 a1 a2 = true := by
  have h3 : ∀ x, iIn (ai6 x) 3 = true := fun x => by
    unfold ai6
    cases iEq x 12 <;> cases iEq x 20 <;> rfl
  unfold cm7
  simp [h3]
noncomputable def bC1 : MRow := aL0 [sh5Q, (.int .u64), (.int .i64)] none (fun g S => Y1 (bk4 S.t S.a S.o S.f (fun i => (((g 0).fld 0).ix i).num) ((g 0).fld 1).num ((g 0).fld 2).num ((g 0).fld 3).bool (fun i => (((g 0).fld 4).ix i).num) ((g 0).fld 5).num (g 1).num (g 2).num) 1) (fun g S => ⟨tmOf (Y1 (bk4 S.t S.a S.o S.f (fun i => (((g 0).fld 0).ix i).num) ((g 0).fld 1).num ((g 0).fld 2).num ((g 0).fld 3).bool (fun i => (((g 0).fld 4).ix i).num) ((g 0).fld 5).num (g 1).num (g 2).num) 2), alOf (Y1 (bk4 S.t S.a S.o S.f (fun i => (((g 0).fld 0).ix i).num) ((g 0).fld 1).num ((g 0).fld 2).num ((g 0).fld 3).bool (fun i => (((g 0).fld 4).ix i).num) ((g 0).fld 5).num (g 1).num (g 2).num) 2), oOf (Y1 (bk4 S.t S.a S.o S.f (fun i => (((g 0).fld 0).ix i).num) ((g 0).fld 1).num ((g 0).fld 2).num ((g 0).fld 3).bool (fun i => (((g 0).fld 4).ix i).num) ((g 0).fld 5).num (g 1).num (g 2).num) 2), fOf (Y1 (bk4 S.t S.a S.o S.f (fun i => (((g 0).fld 0).ix i).num) ((g 0).fld 1).num ((g 0).fld 2).num ((g 0).fld 3).bool (fun i => (((g 0).fld 4).ix i).num) ((g 0).fld 5).num (g 1).num (g 2).num) 3)⟩)
theorem da8 : aa3 Tryz.prog 274 bC1 := aJ1 ⟨Tryz.func274, of_decide_eq_true (by kernel_rfl)⟩ (au3 (ap2 E9 (show MOk Tryz.prog [(165, aG3)] from ⟨bv8, trivial⟩)) (show GOk Tryz.prog [(35, aK6), (26, ao6)] from ⟨cm1, bt1, trivial⟩)) ac2 rfl (fun _ _ => ⟨rfl, rfl, rfl⟩) (G := fun g S => cm7 S.t S.a S.o S.f (fun i => (((g 0).fld 0).ix i).num) ((g 0).fld 1).num ((g 0).fld 2).num ((g 0).fld 3).bool (fun i => (((g 0).fld 4).ix i).num) ((g 0).fld 5).num (g 1).num (g 2).num) (fun g S => accRunE S.t S.a S.o S.f (fun i => (((g 0).fld 0).ix i).num) ((g 0).fld 1).num ((g 0).fld 2).num ((g 0).fld 3).bool (fun i => (((g 0).fld 4).ix i).num) ((g 0).fld 5).num (g 1).num (g 2).num) (fun g S hp hS hc => accRunT S.t S.a S.o S.f (fun i => (((g 0).fld 0).ix i).num) ((g 0).fld 1).num ((g 0).fld 2).num ((g 0).fld 3).bool (fun i => (((g 0).fld 4).ix i).num) ((g 0).fld 5).num (g 1).num (g 2).num)
def cQ1 (t al : Int) (o : Nat → List UInt8) (f d0 : Nat → Int) (e8 d8 : Int) (d9 : Bool) (e6 : Nat → Int) (e7 e9 n5 l8 n8 m9 p9 : Int) : Int :=
 bif bif bif bif iNe (a8 e9) 3 then iNe (a8 e9) 4 else false then iNe (a8 e9) 12 else false then true else !E6 e9 n5 l8 n8 m9 p9 then 0
 else
 bif bif iEq (a8 e9) 4 then true else iEq e9 69 then
 bif iEq (a8 e9) 12 then
 bif o7 d0 e8 d8 d9 e6 e7 16 8 then
 bif iEq e9 68 then 0
 else
 bif
 !D7 t al o f d0 e8 d8 d9 e6 e7 (iAdd .u64 (d0 l8.toNat) (g8 .u64 m9)) (f4 e9) 2 (d0 n8.toNat) 1
 true then
 0
 else 0
 else
 bif iEq e9 68 then 0
 else
 bif
 !D7 t al o f d0 e8 d8 d9 e6 e7 (iAdd .u64 (d0 l8.toNat) (g8 .u64 m9)) (f4 e9) 2 (d0 n8.toNat) 0
 true then
 0
 else 0
 else
 bif iEq e9 68 then 0
 else
 bif
 !D7 t al o f d0 e8 d8 d9 e6 e7 (iAdd .u64 (d0 l8.toNat) (g8 .u64 m9)) (f4 e9) 2 (d0 n8.toNat) d8
 d9 then
 0
 else 0
 else
 bif iEq (a8 e9) 12 then
 bif o7 d0 e8 d8 d9 e6 e7 16 8 then
 bif iEq e9 68 then 0
 else
 bif
 !D7 t al o f d0 e8 d8 d9 e6 e7 (iAdd .u64 (d0 l8.toNat) (g8 .u64 m9)) (f4 e9) 1 (d0 n8.toNat) 1
 true then
 0
 else 0
 else
 bif iEq e9 68 then 0
 else
 bif
 !D7 t al o f d0 e8 d8 d9 e6 e7 (iAdd .u64 (d0 l8.toNat) (g8 .u64 m9)) (f4 e9) 1 (d0 n8.toNat) 0
 true then
 0
 else 0
 else
 bif iEq e9 68 then 0
 else
 bif
 !D7 t al o f d0 e8 d8 d9 e6 e7 (iAdd .u64 (d0 l8.toNat) (g8 .u64 m9)) (f4 e9) 1 (d0 n8.toNat) d8
 d9 then
 0
 else 0
def bD9 (t al : Int) (o : Nat → List UInt8) (f d0 : Nat → Int) (e8 d8 : Int) (d9 : Bool) (e6 : Nat → Int) (e7 e9 n5 l8 n8 m9 p9 : Int) : Int :=
 bif bif bif bif iNe (a8 e9) 3 then iNe (a8 e9) 4 else false then iNe (a8 e9) 12 else false then true else !E6 e9 n5 l8 n8 m9 p9 then 0
 else
 bif bif iEq (a8 e9) 4 then true else iEq e9 69 then
 bif iEq (a8 e9) 12 then
 bif o7 d0 e8 d8 d9 e6 e7 16 8 then
 bif iEq e9 68 then bf6 t al o f d0 e8 d8 d9 e6 e7 (iAdd .u64 (d0 l8.toNat) (g8 .u64 m9)) 1
 else
 bif
 !D7 t al o f d0 e8 d8 d9 e6 e7 (iAdd .u64 (d0 l8.toNat) (g8 .u64 m9)) (f4 e9) 2 (d0 n8.toNat) 1
 true then
 0
 else
 ab6 e9
 (bI3 t al o f d0 e8 d8 d9 e6 e7 (iAdd .u64 (d0 l8.toNat) (g8 .u64 m9)) (f4 e9) 2 (d0 n8.toNat) 1 true)
 else
 bif iEq e9 68 then bf6 t al o f d0 e8 d8 d9 e6 e7 (iAdd .u64 (d0 l8.toNat) (g8 .u64 m9)) 0
 else
 bif
 !D7 t al o f d0 e8 d8 d9 e6 e7 (iAdd .u64 (d0 l8.toNat) (g8 .u64 m9)) (f4 e9) 2 (d0 n8.toNat) 0
 true then
 0
 else
 ab6 e9
 (bI3 t al o f d0 e8 d8 d9 e6 e7 (iAdd .u64 (d0 l8.toNat) (g8 .u64 m9)) (f4 e9) 2 (d0 n8.toNat) 0 true)
 else
 bif iEq e9 68 then bf6 t al o f d0 e8 d8 d9 e6 e7 (iAdd .u64 (d0 l8.toNat) (g8 .u64 m9)) d8
 else
 bif
 !D7 t al o f d0 e8 d8 d9 e6 e7 (iAdd .u64 (d0 l8.toNat) (g8 .u64 m9)) (f4 e9) 2 (d0 n8.toNat) d8
 d9 then
 0
 else
 ab6 e9
 (bI3 t al o f d0 e8 d8 d9 e6 e7 (iAdd .u64 (d0 l8.toNat) (g8 .u64 m9)) (f4 e9) 2 (d0 n8.toNat) d8 d9)
 else
 bif iEq (a8 e9) 12 then
 bif o7 d0 e8 d8 d9 e6 e7 16 8 then
 bif iEq e9 68 then bf6 t al o f d0 e8 d8 d9 e6 e7 (iAdd .u64 (d0 l8.toNat) (g8 .u64 m9)) 1
 else
 bif
 !D7 t al o f d0 e8 d8 d9 e6 e7 (iAdd .u64 (d0 l8.toNat) (g8 .u64 m9)) (f4 e9) 1 (d0 n8.toNat) 1
 true then
 0
 else
 ab6 e9
 (bI3 t al o f d0 e8 d8 d9 e6 e7 (iAdd .u64 (d0 l8.toNat) (g8 .u64 m9)) (f4 e9) 1 (d0 n8.toNat) 1 true)
 else
 bif iEq e9 68 then bf6 t al o f d0 e8 d8 d9 e6 e7 (iAdd .u64 (d0 l8.toNat) (g8 .u64 m9)) 0
 else
 bif
 !D7 t al o f d0 e8 d8 d9 e6 e7 (iAdd .u64 (d0 l8.toNat) (g8 .u64 m9)) (f4 e9) 1 (d0 n8.toNat) 0
 true then
 0
 else
 ab6 e9
 (bI3 t al o f d0 e8 d8 d9 e6 e7 (iAdd .u64 (d0 l8.toNat) (g8 .u64 m9)) (f4 e9) 1 (d0 n8.toNat) 0 true)
 else
 bif iEq e9 68 then bf6 t al o f d0 e8 d8 d9 e6 e7 (iAdd .u64 (d0 l8.toNat) (g8 .u64 m9)) d8
 else
 bif
 !D7 t al o f d0 e8 d8 d9 e6 e7 (iAdd .u64 (d0 l8.toNat) (g8 .u64 m9)) (f4 e9) 1 (d0 n8.toNat) d8
 d9 then
 0
 else
 ab6 e9
 (bI3 t al o f d0 e8 d8 d9 e6 e7 (iAdd .u64 (d0 l8.toNat) (g8 .u64 m9)) (f4 e9) 1 (d0 n8.toNat) d8 d9)
def aX7 (t al : Int) (o : Nat → List UInt8) (f d0 : Nat → Int) (e8 d8 : Int) (d9 : Bool) (e6 : Nat → Int) (e7 e9 n5 l8 n8 m9 p9 : Int) : Int :=
 bif bif bif bif iNe (a8 e9) 3 then iNe (a8 e9) 4 else false then iNe (a8 e9) 12 else false then true else !E6 e9 n5 l8 n8 m9 p9 then 0
 else
 bif bif iEq (a8 e9) 4 then true else iEq e9 69 then
 bif iEq (a8 e9) 12 then
 bif o7 d0 e8 d8 d9 e6 e7 16 8 then
 bif iEq e9 68 then am2 t al o f d0 e8 d8 d9 e6 e7 (iAdd .u64 (d0 l8.toNat) (g8 .u64 m9)) 1
 else af3 t al o f d0 e8 d8 d9 e6 e7 (iAdd .u64 (d0 l8.toNat) (g8 .u64 m9)) (f4 e9) 2 (d0 n8.toNat) 1 true
 else
 bif iEq e9 68 then am2 t al o f d0 e8 d8 d9 e6 e7 (iAdd .u64 (d0 l8.toNat) (g8 .u64 m9)) 0
 else af3 t al o f d0 e8 d8 d9 e6 e7 (iAdd .u64 (d0 l8.toNat) (g8 .u64 m9)) (f4 e9) 2 (d0 n8.toNat) 0 true
 else
 bif iEq e9 68 then am2 t al o f d0 e8 d8 d9 e6 e7 (iAdd .u64 (d0 l8.toNat) (g8 .u64 m9)) d8
 else af3 t al o f d0 e8 d8 d9 e6 e7 (iAdd .u64 (d0 l8.toNat) (g8 .u64 m9)) (f4 e9) 2 (d0 n8.toNat) d8 d9
 else
 bif iEq (a8 e9) 12 then
 bif o7 d0 e8 d8 d9 e6 e7 16 8 then
 bif iEq e9 68 then am2 t al o f d0 e8 d8 d9 e6 e7 (iAdd .u64 (d0 l8.toNat) (g8 .u64 m9)) 1
 else af3 t al o f d0 e8 d8 d9 e6 e7 (iAdd .u64 (d0 l8.toNat) (g8 .u64 m9)) (f4 e9) 1 (d0 n8.toNat) 1 true
 else
 bif iEq e9 68 then am2 t al o f d0 e8 d8 d9 e6 e7 (iAdd .u64 (d0 l8.toNat) (g8 .u64 m9)) 0
 else af3 t al o f d0 e8 d8 d9 e6 e7 (iAdd .u64 (d0 l8.toNat) (g8 .u64 m9)) (f4 e9) 1 (d0 n8.toNat) 0 true
 else
 bif iEq e9 68 then am2 t al o f d0 e8 d8 d9 e6 e7 (iAdd .u64 (d0 l8.toNat) (g8 .u64 m9)) d8
 else af3 t al o f d0 e8 d8 d9 e6 e7 (iAdd .u64 (d0 l8.toNat) (g8 .u64 m9)) (f4 e9) 1 (d0 n8.toNat) d8 d9
def cZ8 (t al : Int) (o : Nat → List UInt8) (f d0 : Nat → Int) (e8 d8 : Int) (d9 : Bool) (e6 : Nat → Int) (e7 e9 n5 l8 n8 m9 p9 : Int) : Int :=
 bif bif bif bif iNe (a8 e9) 3 then iNe (a8 e9) 4 else false then iNe (a8 e9) 12 else false then true else !E6 e9 n5 l8 n8 m9 p9 then 0
 else
 bif bif iEq (a8 e9) 4 then true else iEq e9 69 then
 bif iEq (a8 e9) 12 then
 bif o7 d0 e8 d8 d9 e6 e7 16 8 then
 bif iEq e9 68 then am2 t al o f d0 e8 d8 d9 e6 e7 (iAdd .u64 (d0 l8.toNat) (g8 .u64 m9)) 1
 else
 bif
 !D7 t al o f d0 e8 d8 d9 e6 e7 (iAdd .u64 (d0 l8.toNat) (g8 .u64 m9)) (f4 e9) 2 (d0 n8.toNat) 1
 true then
 af3 t al o f d0 e8 d8 d9 e6 e7 (iAdd .u64 (d0 l8.toNat) (g8 .u64 m9)) (f4 e9) 2 (d0 n8.toNat) 1 true
 else af3 t al o f d0 e8 d8 d9 e6 e7 (iAdd .u64 (d0 l8.toNat) (g8 .u64 m9)) (f4 e9) 2 (d0 n8.toNat) 1 true
 else
 bif iEq e9 68 then am2 t al o f d0 e8 d8 d9 e6 e7 (iAdd .u64 (d0 l8.toNat) (g8 .u64 m9)) 0
 else
 bif
 !D7 t al o f d0 e8 d8 d9 e6 e7 (iAdd .u64 (d0 l8.toNat) (g8 .u64 m9)) (f4 e9) 2 (d0 n8.toNat) 0
 true then
 af3 t al o f d0 e8 d8 d9 e6 e7 (iAdd .u64 (d0 l8.toNat) (g8 .u64 m9)) (f4 e9) 2 (d0 n8.toNat) 0 true
 else af3 t al o f d0 e8 d8 d9 e6 e7 (iAdd .u64 (d0 l8.toNat) (g8 .u64 m9)) (f4 e9) 2 (d0 n8.toNat) 0 true
 else
 bif iEq e9 68 then am2 t al o f d0 e8 d8 d9 e6 e7 (iAdd .u64 (d0 l8.toNat) (g8 .u64 m9)) d8
 else
 bif
 !D7 t al o f d0 e8 d8 d9 e6 e7 (iAdd .u64 (d0 l8.toNat) (g8 .u64 m9)) (f4 e9) 2 (d0 n8.toNat) d8
 d9 then
 af3 t al o f d0 e8 d8 d9 e6 e7 (iAdd .u64 (d0 l8.toNat) (g8 .u64 m9)) (f4 e9) 2 (d0 n8.toNat) d8 d9
 else af3 t al o f d0 e8 d8 d9 e6 e7 (iAdd .u64 (d0 l8.toNat) (g8 .u64 m9)) (f4 e9) 2 (d0 n8.toNat) d8 d9
 else
 bif iEq (a8 e9) 12 then
 bif o7 d0 e8 d8 d9 e6 e7 16 8 then
 bif iEq e9 68 then am2 t al o f d0 e8 d8 d9 e6 e7 (iAdd .u64 (d0 l8.toNat) (g8 .u64 m9)) 1
 else
 bif
 !D7 t al o f d0 e8 d8 d9 e6 e7 (iAdd .u64 (d0 l8.toNat) (g8 .u64 m9)) (f4 e9) 1 (d0 n8.toNat) 1
 true then
 af3 t al o f d0 e8 d8 d9 e6 e7 (iAdd .u64 (d0 l8.toNat) (g8 .u64 m9)) (f4 e9) 1 (d0 n8.toNat) 1 true
 else af3 t al o f d0 e8 d8 d9 e6 e7 (iAdd .u64 (d0 l8.toNat) (g8 .u64 m9)) (f4 e9) 1 (d0 n8.toNat) 1 true
 else
 bif iEq e9 68 then am2 t al o f d0 e8 d8 d9 e6 e7 (iAdd .u64 (d0 l8.toNat) (g8 .u64 m9)) 0
 else
 bif
 !D7 t al o f d0 e8 d8 d9 e6 e7 (iAdd .u64 (d0 l8.toNat) (g8 .u64 m9)) (f4 e9) 1 (d0 n8.toNat) 0
 true then
 af3 t al o f d0 e8 d8 d9 e6 e7 (iAdd .u64 (d0 l8.toNat) (g8 .u64 m9)) (f4 e9) 1 (d0 n8.toNat) 0 true
 else af3 t al o f d0 e8 d8 d9 e6 e7 (iAdd .u64 (d0 l8.toNat) (g8 .u64 m9)) (f4 e9) 1 (d0 n8.toNat) 0 true
 else
 bif iEq e9 68 then am2 t al o f d0 e8 d8 d9 e6 e7 (iAdd .u64 (d0 l8.toNat) (g8 .u64 m9)) d8
 else
 bif
 !D7 t al o f d0 e8 d8 d9 e6 e7 (iAdd .u64 (d0 l8.toNat) (g8 .u64 m9)) (f4 e9) 1 (d0 n8.toNat) d8
 d9 then
 af3 t al o f d0 e8 d8 d9 e6 e7 (iAdd .u64 (d0 l8.toNat) (g8 .u64 m9)) (f4 e9) 1 (d0 n8.toNat) d8 d9
 else af3 t al o f d0 e8 d8 d9 e6 e7 (iAdd .u64 (d0 l8.toNat) (g8 .u64 m9)) (f4 e9) 1 (d0 n8.toNat) d8 d9
def ba4 (t al : Int) (o : Nat → List UInt8) (f d0 : Nat → Int) (e8 d8 : Int) (d9 : Bool) (e6 : Nat → Int) (e7 e9 n5 l8 n8 m9 p9 : Int) : Int :=
 bif bif bif bif iNe (a8 e9) 3 then iNe (a8 e9) 4 else false then iNe (a8 e9) 12 else false then true else !E6 e9 n5 l8 n8 m9 p9 then 0
 else
 bif bif iEq (a8 e9) 4 then true else iEq e9 69 then
 bif iEq (a8 e9) 12 then
 bif o7 d0 e8 d8 d9 e6 e7 16 8 then
 bif iEq e9 68 then al4 t al o f d0 e8 d8 d9 e6 e7 (iAdd .u64 (d0 l8.toNat) (g8 .u64 m9)) 1
 else af4 t al o f d0 e8 d8 d9 e6 e7 (iAdd .u64 (d0 l8.toNat) (g8 .u64 m9)) (f4 e9) 2 (d0 n8.toNat) 1 true
 else
 bif iEq e9 68 then al4 t al o f d0 e8 d8 d9 e6 e7 (iAdd .u64 (d0 l8.toNat) (g8 .u64 m9)) 0
 else af4 t al o f d0 e8 d8 d9 e6 e7 (iAdd .u64 (d0 l8.toNat) (g8 .u64 m9)) (f4 e9) 2 (d0 n8.toNat) 0 true
 else
 bif iEq e9 68 then al4 t al o f d0 e8 d8 d9 e6 e7 (iAdd .u64 (d0 l8.toNat) (g8 .u64 m9)) d8
 else af4 t al o f d0 e8 d8 d9 e6 e7 (iAdd .u64 (d0 l8.toNat) (g8 .u64 m9)) (f4 e9) 2 (d0 n8.toNat) d8 d9
 else
 bif iEq (a8 e9) 12 then
 bif o7 d0 e8 d8 d9 e6 e7 16 8 then
 bif iEq e9 68 then al4 t al o f d0 e8 d8 d9 e6 e7 (iAdd .u64 (d0 l8.toNat) (g8 .u64 m9)) 1
 else af4 t al o f d0 e8 d8 d9 e6 e7 (iAdd .u64 (d0 l8.toNat) (g8 .u64 m9)) (f4 e9) 1 (d0 n8.toNat) 1 true
 else
 bif iEq e9 68 then al4 t al o f d0 e8 d8 d9 e6 e7 (iAdd .u64 (d0 l8.toNat) (g8 .u64 m9)) 0
 else af4 t al o f d0 e8 d8 d9 e6 e7 (iAdd .u64 (d0 l8.toNat) (g8 .u64 m9)) (f4 e9) 1 (d0 n8.toNat) 0 true
 else
 bif iEq e9 68 then al4 t al o f d0 e8 d8 d9 e6 e7 (iAdd .u64 (d0 l8.toNat) (g8 .u64 m9)) d8
 else af4 t al o f d0 e8 d8 d9 e6 e7 (iAdd .u64 (d0 l8.toNat) (g8 .u64 m9)) (f4 e9) 1 (d0 n8.toNat) d8 d9
def da9 (t al : Int) (o : Nat → List UInt8) (f d0 : Nat → Int) (e8 d8 : Int) (d9 : Bool) (e6 : Nat → Int) (e7 e9 n5 l8 n8 m9 p9 : Int) : Int :=
 bif bif bif bif iNe (a8 e9) 3 then iNe (a8 e9) 4 else false then iNe (a8 e9) 12 else false then true else !E6 e9 n5 l8 n8 m9 p9 then 0
 else
 bif bif iEq (a8 e9) 4 then true else iEq e9 69 then
 bif iEq (a8 e9) 12 then
 bif o7 d0 e8 d8 d9 e6 e7 16 8 then
 bif iEq e9 68 then al4 t al o f d0 e8 d8 d9 e6 e7 (iAdd .u64 (d0 l8.toNat) (g8 .u64 m9)) 1
 else
 bif
 !D7 t al o f d0 e8 d8 d9 e6 e7 (iAdd .u64 (d0 l8.toNat) (g8 .u64 m9)) (f4 e9) 2 (d0 n8.toNat) 1
 true then
 af4 t al o f d0 e8 d8 d9 e6 e7 (iAdd .u64 (d0 l8.toNat) (g8 .u64 m9)) (f4 e9) 2 (d0 n8.toNat) 1 true
 else af4 t al o f d0 e8 d8 d9 e6 e7 (iAdd .u64 (d0 l8.toNat) (g8 .u64 m9)) (f4 e9) 2 (d0 n8.toNat) 1 true
 else
 bif iEq e9 68 then al4 t al o f d0 e8 d8 d9 e6 e7 (iAdd .u64 (d0 l8.toNat) (g8 .u64 m9)) 0
 else
 bif
 !D7 t al o f d0 e8 d8 d9 e6 e7 (iAdd .u64 (d0 l8.toNat) (g8 .u64 m9)) (f4 e9) 2 (d0 n8.toNat) 0
 true then
 af4 t al o f d0 e8 d8 d9 e6 e7 (iAdd .u64 (d0 l8.toNat) (g8 .u64 m9)) (f4 e9) 2 (d0 n8.toNat) 0 true
 else af4 t al o f d0 e8 d8 d9 e6 e7 (iAdd .u64 (d0 l8.toNat) (g8 .u64 m9)) (f4 e9) 2 (d0 n8.toNat) 0 true
 else
 bif iEq e9 68 then al4 t al o f d0 e8 d8 d9 e6 e7 (iAdd .u64 (d0 l8.toNat) (g8 .u64 m9)) d8
 else
 bif
 !D7 t al o f d0 e8 d8 d9 e6 e7 (iAdd .u64 (d0 l8.toNat) (g8 .u64 m9)) (f4 e9) 2 (d0 n8.toNat) d8
 d9 then
 af4 t al o f d0 e8 d8 d9 e6 e7 (iAdd .u64 (d0 l8.toNat) (g8 .u64 m9)) (f4 e9) 2 (d0 n8.toNat) d8 d9
 else af4 t al o f d0 e8 d8 d9 e6 e7 (iAdd .u64 (d0 l8.toNat) (g8 .u64 m9)) (f4 e9) 2 (d0 n8.toNat) d8 d9
 else
 bif iEq (a8 e9) 12 then
 bif o7 d0 e8 d8 d9 e6 e7 16 8 then
 bif iEq e9 68 then al4 t al o f d0 e8 d8 d9 e6 e7 (iAdd .u64 (d0 l8.toNat) (g8 .u64 m9)) 1
 else
 bif
 !D7 t al o f d0 e8 d8 d9 e6 e7 (iAdd .u64 (d0 l8.toNat) (g8 .u64 m9)) (f4 e9) 1 (d0 n8.toNat) 1
 true then
 af4 t al o f d0 e8 d8 d9 e6 e7 (iAdd .u64 (d0 l8.toNat) (g8 .u64 m9)) (f4 e9) 1 (d0 n8.toNat) 1 true
 else af4 t al o f d0 e8 d8 d9 e6 e7 (iAdd .u64 (d0 l8.toNat) (g8 .u64 m9)) (f4 e9) 1 (d0 n8.toNat) 1 true
 else
 bif iEq e9 68 then al4 t al o f d0 e8 d8 d9 e6 e7 (iAdd .u64 (d0 l8.toNat) (g8 .u64 m9)) 0
 else
 bif
 !D7 t al o f d0 e8 d8 d9 e6 e7 (iAdd .u64 (d0 l8.toNat) (g8 .u64 m9)) (f4 e9) 1 (d0 n8.toNat) 0
 true then
 af4 t al o f d0 e8 d8 d9 e6 e7 (iAdd .u64 (d0 l8.toNat) (g8 .u64 m9)) (f4 e9) 1 (d0 n8.toNat) 0 true
 else af4 t al o f d0 e8 d8 d9 e6 e7 (iAdd .u64 (d0 l8.toNat) (g8 .u64 m9)) (f4 e9) 1 (d0 n8.toNat) 0 true
 else
 bif iEq e9 68 then al4 t al o f d0 e8 d8 d9 e6 e7 (iAdd .u64 (d0 l8.toNat) (g8 .u64 m9)) d8
 else
 bif
 !D7 t al o f d0 e8 d8 d9 e6 e7 (iAdd .u64 (d0 l8.toNat) (g8 .u64 m9)) (f4 e9) 1 (d0 n8.toNat) d8
 d9 then
 af4 t al o f d0 e8 d8 d9 e6 e7 (iAdd .u64 (d0 l8.toNat) (g8 .u64 m9)) (f4 e9) 1 (d0 n8.toNat) d8 d9
 else af4 t al o f d0 e8 d8 d9 e6 e7 (iAdd .u64 (d0 l8.toNat) (g8 .u64 m9)) (f4 e9) 1 (d0 n8.toNat) d8 d9
def aV5 (t al : Int) (o : Nat → List UInt8) (f d0 : Nat → Int) (e8 d8 : Int) (d9 : Bool) (e6 : Nat → Int) (e7 e9 n5 l8 n8 m9 p9 : Int) : Int :=
 bif bif bif bif iNe (a8 e9) 3 then iNe (a8 e9) 4 else false then iNe (a8 e9) 12 else false then true else !E6 e9 n5 l8 n8 m9 p9 then 0
 else
 bif bif iEq (a8 e9) 4 then true else iEq e9 69 then
 bif iEq (a8 e9) 12 then
 bif o7 d0 e8 d8 d9 e6 e7 16 8 then
 bif iEq e9 68 then am7 t al o f d0 e8 d8 d9 e6 e7 (iAdd .u64 (d0 l8.toNat) (g8 .u64 m9)) 1
 else af7 t al o f d0 e8 d8 d9 e6 e7 (iAdd .u64 (d0 l8.toNat) (g8 .u64 m9)) (f4 e9) 2 (d0 n8.toNat) 1 true
 else
 bif iEq e9 68 then am7 t al o f d0 e8 d8 d9 e6 e7 (iAdd .u64 (d0 l8.toNat) (g8 .u64 m9)) 0
 else af7 t al o f d0 e8 d8 d9 e6 e7 (iAdd .u64 (d0 l8.toNat) (g8 .u64 m9)) (f4 e9) 2 (d0 n8.toNat) 0 true
 else
 bif iEq e9 68 then am7 t al o f d0 e8 d8 d9 e6 e7 (iAdd .u64 (d0 l8.toNat) (g8 .u64 m9)) d8
 else af7 t al o f d0 e8 d8 d9 e6 e7 (iAdd .u64 (d0 l8.toNat) (g8 .u64 m9)) (f4 e9) 2 (d0 n8.toNat) d8 d9
 else
 bif iEq (a8 e9) 12 then
 bif o7 d0 e8 d8 d9 e6 e7 16 8 then
 bif iEq e9 68 then am7 t al o f d0 e8 d8 d9 e6 e7 (iAdd .u64 (d0 l8.toNat) (g8 .u64 m9)) 1
 else af7 t al o f d0 e8 d8 d9 e6 e7 (iAdd .u64 (d0 l8.toNat) (g8 .u64 m9)) (f4 e9) 1 (d0 n8.toNat) 1 true
 else
 bif iEq e9 68 then am7 t al o f d0 e8 d8 d9 e6 e7 (iAdd .u64 (d0 l8.toNat) (g8 .u64 m9)) 0
 else af7 t al o f d0 e8 d8 d9 e6 e7 (iAdd .u64 (d0 l8.toNat) (g8 .u64 m9)) (f4 e9) 1 (d0 n8.toNat) 0 true
 else
 bif iEq e9 68 then am7 t al o f d0 e8 d8 d9 e6 e7 (iAdd .u64 (d0 l8.toNat) (g8 .u64 m9)) d8
 else af7 t al o f d0 e8 d8 d9 e6 e7 (iAdd .u64 (d0 l8.toNat) (g8 .u64 m9)) (f4 e9) 1 (d0 n8.toNat) d8 d9
def cX5 (t al : Int) (o : Nat → List UInt8) (f d0 : Nat → Int) (e8 d8 : Int) (d9 : Bool) (e6 : Nat → Int) (e7 e9 n5 l8 n8 m9 p9 : Int) : Int :=
 bif bif bif bif iNe (a8 e9) 3 then iNe (a8 e9) 4 else false then iNe (a8 e9) 12 else false then true else !E6 e9 n5 l8 n8 m9 p9 then 0
 else
 bif bif iEq (a8 e9) 4 then true else iEq e9 69 then
 bif iEq (a8 e9) 12 then
 bif o7 d0 e8 d8 d9 e6 e7 16 8 then
 bif iEq e9 68 then am7 t al o f d0 e8 d8 d9 e6 e7 (iAdd .u64 (d0 l8.toNat) (g8 .u64 m9)) 1
 else
 bif
 !D7 t al o f d0 e8 d8 d9 e6 e7 (iAdd .u64 (d0 l8.toNat) (g8 .u64 m9)) (f4 e9) 2 (d0 n8.toNat) 1
 true then
 af7 t al o f d0 e8 d8 d9 e6 e7 (iAdd .u64 (d0 l8.toNat) (g8 .u64 m9)) (f4 e9) 2 (d0 n8.toNat) 1 true
 else af7 t al o f d0 e8 d8 d9 e6 e7 (iAdd .u64 (d0 l8.toNat) (g8 .u64 m9)) (f4 e9) 2 (d0 n8.toNat) 1 true
 else
 bif iEq e9 68 then am7 t al o f d0 e8 d8 d9 e6 e7 (iAdd .u64 (d0 l8.toNat) (g8 .u64 m9)) 0
 else
 bif
 !D7 t al o f d0 e8 d8 d9 e6 e7 (iAdd .u64 (d0 l8.toNat) (g8 .u64 m9)) (f4 e9) 2 (d0 n8.toNat) 0
 true then
 af7 t al o f d0 e8 d8 d9 e6 e7 (iAdd .u64 (d0 l8.toNat) (g8 .u64 m9)) (f4 e9) 2 (d0 n8.toNat) 0 true
 else af7 t al o f d0 e8 d8 d9 e6 e7 (iAdd .u64 (d0 l8.toNat) (g8 .u64 m9)) (f4 e9) 2 (d0 n8.toNat) 0 true
 else
 bif iEq e9 68 then am7 t al o f d0 e8 d8 d9 e6 e7 (iAdd .u64 (d0 l8.toNat) (g8 .u64 m9)) d8
 else
 bif
 !D7 t al o f d0 e8 d8 d9 e6 e7 (iAdd .u64 (d0 l8.toNat) (g8 .u64 m9)) (f4 e9) 2 (d0 n8.toNat) d8
 d9 then
 af7 t al o f d0 e8 d8 d9 e6 e7 (iAdd .u64 (d0 l8.toNat) (g8 .u64 m9)) (f4 e9) 2 (d0 n8.toNat) d8 d9
 else af7 t al o f d0 e8 d8 d9 e6 e7 (iAdd .u64 (d0 l8.toNat) (g8 .u64 m9)) (f4 e9) 2 (d0 n8.toNat) d8 d9
 else
 bif iEq (a8 e9) 12 then
 bif o7 d0 e8 d8 d9 e6 e7 16 8 then
 bif iEq e9 68 then am7 t al o f d0 e8 d8 d9 e6 e7 (iAdd .u64 (d0 l8.toNat) (g8 .u64 m9)) 1
 else
 bif
 !D7 t al o f d0 e8 d8 d9 e6 e7 (iAdd .u64 (d0 l8.toNat) (g8 .u64 m9)) (f4 e9) 1 (d0 n8.toNat) 1
 true then
 af7 t al o f d0 e8 d8 d9 e6 e7 (iAdd .u64 (d0 l8.toNat) (g8 .u64 m9)) (f4 e9) 1 (d0 n8.toNat) 1 true
 else af7 t al o f d0 e8 d8 d9 e6 e7 (iAdd .u64 (d0 l8.toNat) (g8 .u64 m9)) (f4 e9) 1 (d0 n8.toNat) 1 true
 else
 bif iEq e9 68 then am7 t al o f d0 e8 d8 d9 e6 e7 (iAdd .u64 (d0 l8.toNat) (g8 .u64 m9)) 0
 else
 bif
 !D7 t al o f d0 e8 d8 d9 e6 e7 (iAdd .u64 (d0 l8.toNat) (g8 .u64 m9)) (f4 e9) 1 (d0 n8.toNat) 0
 true then
 af7 t al o f d0 e8 d8 d9 e6 e7 (iAdd .u64 (d0 l8.toNat) (g8 .u64 m9)) (f4 e9) 1 (d0 n8.toNat) 0 true
 else af7 t al o f d0 e8 d8 d9 e6 e7 (iAdd .u64 (d0 l8.toNat) (g8 .u64 m9)) (f4 e9) 1 (d0 n8.toNat) 0 true
 else
 bif iEq e9 68 then am7 t al o f d0 e8 d8 d9 e6 e7 (iAdd .u64 (d0 l8.toNat) (g8 .u64 m9)) d8
 else
 bif
 !D7 t al o f d0 e8 d8 d9 e6 e7 (iAdd .u64 (d0 l8.toNat) (g8 .u64 m9)) (f4 e9) 1 (d0 n8.toNat) d8
 d9 then
 af7 t al o f d0 e8 d8 d9 e6 e7 (iAdd .u64 (d0 l8.toNat) (g8 .u64 m9)) (f4 e9) 1 (d0 n8.toNat) d8 d9
 else af7 t al o f d0 e8 d8 d9 e6 e7 (iAdd .u64 (d0 l8.toNat) (g8 .u64 m9)) (f4 e9) 1 (d0 n8.toNat) d8 d9
def aF4 (t al : Int) (o : Nat → List UInt8) (f d0 : Nat → Int) (e8 d8 : Int) (d9 : Bool) (e6 : Nat → Int) (e7 e9 n5 l8 n8 m9 p9 : Int) : Bool :=
 bif bif bif bif iNe (a8 e9) 3 then iNe (a8 e9) 4 else false then iNe (a8 e9) 12 else false then true else !E6 e9 n5 l8 n8 m9 p9 then false
 else
 bif bif iEq (a8 e9) 4 then true else iEq e9 69 then
 bif iEq (a8 e9) 12 then
 bif o7 d0 e8 d8 d9 e6 e7 16 8 then
 bif iEq e9 68 then at5 t al o f d0 e8 d8 d9 e6 e7 (iAdd .u64 (d0 l8.toNat) (g8 .u64 m9)) 1
 else am9 t al o f d0 e8 d8 d9 e6 e7 (iAdd .u64 (d0 l8.toNat) (g8 .u64 m9)) (f4 e9) 2 (d0 n8.toNat) 1 true
 else
 bif iEq e9 68 then at5 t al o f d0 e8 d8 d9 e6 e7 (iAdd .u64 (d0 l8.toNat) (g8 .u64 m9)) 0
 else am9 t al o f d0 e8 d8 d9 e6 e7 (iAdd .u64 (d0 l8.toNat) (g8 .u64 m9)) (f4 e9) 2 (d0 n8.toNat) 0 true
 else
 bif iEq e9 68 then at5 t al o f d0 e8 d8 d9 e6 e7 (iAdd .u64 (d0 l8.toNat) (g8 .u64 m9)) d8
 else am9 t al o f d0 e8 d8 d9 e6 e7 (iAdd .u64 (d0 l8.toNat) (g8 .u64 m9)) (f4 e9) 2 (d0 n8.toNat) d8 d9
 else
 bif iEq (a8 e9) 12 then
 bif o7 d0 e8 d8 d9 e6 e7 16 8 then
 bif iEq e9 68 then at5 t al o f d0 e8 d8 d9 e6 e7 (iAdd .u64 (d0 l8.toNat) (g8 .u64 m9)) 1
 else am9 t al o f d0 e8 d8 d9 e6 e7 (iAdd .u64 (d0 l8.toNat) (g8 .u64 m9)) (f4 e9) 1 (d0 n8.toNat) 1 true
 else
 bif iEq e9 68 then at5 t al o f d0 e8 d8 d9 e6 e7 (iAdd .u64 (d0 l8.toNat) (g8 .u64 m9)) 0
 else am9 t al o f d0 e8 d8 d9 e6 e7 (iAdd .u64 (d0 l8.toNat) (g8 .u64 m9)) (f4 e9) 1 (d0 n8.toNat) 0 true
 else
 bif iEq e9 68 then at5 t al o f d0 e8 d8 d9 e6 e7 (iAdd .u64 (d0 l8.toNat) (g8 .u64 m9)) d8
 else am9 t al o f d0 e8 d8 d9 e6 e7 (iAdd .u64 (d0 l8.toNat) (g8 .u64 m9)) (f4 e9) 1 (d0 n8.toNat) d8 d9
def cX8 (t al : Int) (o : Nat → List UInt8) (f d0 : Nat → Int) (e8 d8 : Int) (d9 : Bool) (e6 : Nat → Int) (e7 e9 n5 l8 n8 m9 p9 : Int) : Bool :=
 bif bif bif bif iNe (a8 e9) 3 then iNe (a8 e9) 4 else false then iNe (a8 e9) 12 else false then true else !E6 e9 n5 l8 n8 m9 p9 then false
 else
 bif bif iEq (a8 e9) 4 then true else iEq e9 69 then
 bif iEq (a8 e9) 12 then
 bif o7 d0 e8 d8 d9 e6 e7 16 8 then
 bif iEq e9 68 then at5 t al o f d0 e8 d8 d9 e6 e7 (iAdd .u64 (d0 l8.toNat) (g8 .u64 m9)) 1
 else
 bif
 !D7 t al o f d0 e8 d8 d9 e6 e7 (iAdd .u64 (d0 l8.toNat) (g8 .u64 m9)) (f4 e9) 2 (d0 n8.toNat) 1
 true then
 am9 t al o f d0 e8 d8 d9 e6 e7 (iAdd .u64 (d0 l8.toNat) (g8 .u64 m9)) (f4 e9) 2 (d0 n8.toNat) 1 true
 else am9 t al o f d0 e8 d8 d9 e6 e7 (iAdd .u64 (d0 l8.toNat) (g8 .u64 m9)) (f4 e9) 2 (d0 n8.toNat) 1 true
 else
 bif iEq e9 68 then at5 t al o f d0 e8 d8 d9 e6 e7 (iAdd .u64 (d0 l8.toNat) (g8 .u64 m9)) 0
 else
 bif
 !D7 t al o f d0 e8 d8 d9 e6 e7 (iAdd .u64 (d0 l8.toNat) (g8 .u64 m9)) (f4 e9) 2 (d0 n8.toNat) 0
 true then
 am9 t al o f d0 e8 d8 d9 e6 e7 (iAdd .u64 (d0 l8.toNat) (g8 .u64 m9)) (f4 e9) 2 (d0 n8.toNat) 0 true
 else am9 t al o f d0 e8 d8 d9 e6 e7 (iAdd .u64 (d0 l8.toNat) (g8 .u64 m9)) (f4 e9) 2 (d0 n8.toNat) 0 true
 else
 bif iEq e9 68 then at5 t al o f d0 e8 d8 d9 e6 e7 (iAdd .u64 (d0 l8.toNat) (g8 .u64 m9)) d8
 else
 bif
 !D7 t al o f d0 e8 d8 d9 e6 e7 (iAdd .u64 (d0 l8.toNat) (g8 .u64 m9)) (f4 e9) 2 (d0 n8.toNat) d8
 d9 then
 am9 t al o f d0 e8 d8 d9 e6 e7 (iAdd .u64 (d0 l8.toNat) (g8 .u64 m9)) (f4 e9) 2 (d0 n8.toNat) d8 d9
 else am9 t al o f d0 e8 d8 d9 e6 e7 (iAdd .u64 (d0 l8.toNat) (g8 .u64 m9)) (f4 e9) 2 (d0 n8.toNat) d8 d9
 else
 bif iEq (a8 e9) 12 then
 bif o7 d0 e8 d8 d9 e6 e7 16 8 then
 bif iEq e9 68 then at5 t al o f d0 e8 d8 d9 e6 e7 (iAdd .u64 (d0 l8.toNat) (g8 .u64 m9)) 1
 else
 bif
 !D7 t al o f d0 e8 d8 d9 e6 e7 (iAdd .u64 (d0 l8.toNat) (g8 .u64 m9)) (f4 e9) 1 (d0 n8.toNat) 1
 true then
 am9 t al o f d0 e8 d8 d9 e6 e7 (iAdd .u64 (d0 l8.toNat) (g8 .u64 m9)) (f4 e9) 1 (d0 n8.toNat) 1 true
 else am9 t al o f d0 e8 d8 d9 e6 e7 (iAdd .u64 (d0 l8.toNat) (g8 .u64 m9)) (f4 e9) 1 (d0 n8.toNat) 1 true
 else
 bif iEq e9 68 then at5 t al o f d0 e8 d8 d9 e6 e7 (iAdd .u64 (d0 l8.toNat) (g8 .u64 m9)) 0
 else
 bif
 !D7 t al o f d0 e8 d8 d9 e6 e7 (iAdd .u64 (d0 l8.toNat) (g8 .u64 m9)) (f4 e9) 1 (d0 n8.toNat) 0
 true then
 am9 t al o f d0 e8 d8 d9 e6 e7 (iAdd .u64 (d0 l8.toNat) (g8 .u64 m9)) (f4 e9) 1 (d0 n8.toNat) 0 true
 else am9 t al o f d0 e8 d8 d9 e6 e7 (iAdd .u64 (d0 l8.toNat) (g8 .u64 m9)) (f4 e9) 1 (d0 n8.toNat) 0 true
 else
 bif iEq e9 68 then at5 t al o f d0 e8 d8 d9 e6 e7 (iAdd .u64 (d0 l8.toNat) (g8 .u64 m9)) d8
 else
 bif
 !D7 t al o f d0 e8 d8 d9 e6 e7 (iAdd .u64 (d0 l8.toNat) (g8 .u64 m9)) (f4 e9) 1 (d0 n8.toNat) d8
 d9 then
 am9 t al o f d0 e8 d8 d9 e6 e7 (iAdd .u64 (d0 l8.toNat) (g8 .u64 m9)) (f4 e9) 1 (d0 n8.toNat) d8 d9
 else am9 t al o f d0 e8 d8 d9 e6 e7 (iAdd .u64 (d0 l8.toNat) (g8 .u64 m9)) (f4 e9) 1 (d0 n8.toNat) d8 d9
def r8 (t al : Int) (o : Nat → List UInt8) (f d0 : Nat → Int) (e8 d8 : Int) (d9 : Bool) (e6 : Nat → Int) (e7 e9 n5 l8 n8 m9 p9 : Int) : Bool :=
 bif bif bif bif iNe (a8 e9) 3 then iNe (a8 e9) 4 else false then iNe (a8 e9) 12 else false then true else !E6 e9 n5 l8 n8 m9 p9 then true
 else
 bif bif iEq (a8 e9) 4 then true else iEq e9 69 then
 bif iEq (a8 e9) 12 then
 bif o7 d0 e8 d8 d9 e6 e7 16 8 then
 bif iEq e9 68 then bc8 t al o f d0 e8 d8 d9 e6 e7 (iAdd .u64 (d0 l8.toNat) (g8 .u64 m9)) 1
 else
 bif
 !D7 t al o f d0 e8 d8 d9 e6 e7 (iAdd .u64 (d0 l8.toNat) (g8 .u64 m9)) (f4 e9) 2 (d0 n8.toNat) 1
 true then
 false
 else true
 else
 bif iEq e9 68 then bc8 t al o f d0 e8 d8 d9 e6 e7 (iAdd .u64 (d0 l8.toNat) (g8 .u64 m9)) 0
 else
 bif
 !D7 t al o f d0 e8 d8 d9 e6 e7 (iAdd .u64 (d0 l8.toNat) (g8 .u64 m9)) (f4 e9) 2 (d0 n8.toNat) 0
 true then
 false
 else true
 else
 bif iEq e9 68 then bc8 t al o f d0 e8 d8 d9 e6 e7 (iAdd .u64 (d0 l8.toNat) (g8 .u64 m9)) d8
 else
 bif
 !D7 t al o f d0 e8 d8 d9 e6 e7 (iAdd .u64 (d0 l8.toNat) (g8 .u64 m9)) (f4 e9) 2 (d0 n8.toNat) d8
 d9 then
 false
 else true
 else
 bif iEq (a8 e9) 12 then
 bif o7 d0 e8 d8 d9 e6 e7 16 8 then
 bif iEq e9 68 then bc8 t al o f d0 e8 d8 d9 e6 e7 (iAdd .u64 (d0 l8.toNat) (g8 .u64 m9)) 1
 else
 bif
 !D7 t al o f d0 e8 d8 d9 e6 e7 (iAdd .u64 (d0 l8.toNat) (g8 .u64 m9)) (f4 e9) 1 (d0 n8.toNat) 1
 true then
 false
 else true
 else
 bif iEq e9 68 then bc8 t al o f d0 e8 d8 d9 e6 e7 (iAdd .u64 (d0 l8.toNat) (g8 .u64 m9)) 0
 else
 bif
 !D7 t al o f d0 e8 d8 d9 e6 e7 (iAdd .u64 (d0 l8.toNat) (g8 .u64 m9)) (f4 e9) 1 (d0 n8.toNat) 0
 true then
 false
 else true
 else
 bif iEq e9 68 then bc8 t al o f d0 e8 d8 d9 e6 e7 (iAdd .u64 (d0 l8.toNat) (g8 .u64 m9)) d8
 else
 bif
 !D7 t al o f d0 e8 d8 d9 e6 e7 (iAdd .u64 (d0 l8.toNat) (g8 .u64 m9)) (f4 e9) 1 (d0 n8.toNat) d8
 d9 then
 false
 else true
def cR3 (t al : Int) (o : Nat → List UInt8) (f d0 : Nat → Int) (e8 d8 : Int) (d9 : Bool) (e6 : Nat → Int) (e7 e9 n5 l8 n8 m9 p9 : Int) : Int :=
 bif bif bif bif iNe (a8 e9) 3 then iNe (a8 e9) 4 else false then iNe (a8 e9) 12 else false then true else !E6 e9 n5 l8 n8 m9 p9 then t
 else
 bif bif iEq (a8 e9) 4 then true else iEq e9 69 then
 bif iEq (a8 e9) 12 then
 bif o7 d0 e8 d8 d9 e6 e7 16 8 then
 bif iEq e9 68 then t
 else
 bif
 !D7 t al o f d0 e8 d8 d9 e6 e7 (iAdd .u64 (d0 l8.toNat) (g8 .u64 m9)) (f4 e9) 2 (d0 n8.toNat) 1
 true then
 t
 else t
 else
 bif iEq e9 68 then t
 else
 bif
 !D7 t al o f d0 e8 d8 d9 e6 e7 (iAdd .u64 (d0 l8.toNat) (g8 .u64 m9)) (f4 e9) 2 (d0 n8.toNat) 0
 true then
 t
 else t
 else
 bif iEq e9 68 then t
 else
 bif
 !D7 t al o f d0 e8 d8 d9 e6 e7 (iAdd .u64 (d0 l8.toNat) (g8 .u64 m9)) (f4 e9) 2 (d0 n8.toNat) d8
 d9 then
 t
 else t
 else
 bif iEq (a8 e9) 12 then
 bif o7 d0 e8 d8 d9 e6 e7 16 8 then
 bif iEq e9 68 then t
 else
 bif
 !D7 t al o f d0 e8 d8 d9 e6 e7 (iAdd .u64 (d0 l8.toNat) (g8 .u64 m9)) (f4 e9) 1 (d0 n8.toNat) 1
 true then
 t
 else t
 else
 bif iEq e9 68 then t
 else
 bif
 !D7 t al o f d0 e8 d8 d9 e6 e7 (iAdd .u64 (d0 l8.toNat) (g8 .u64 m9)) (f4 e9) 1 (d0 n8.toNat) 0
 true then
 t
 else t
 else
 bif iEq e9 68 then t
 else
 bif
 !D7 t al o f d0 e8 d8 d9 e6 e7 (iAdd .u64 (d0 l8.toNat) (g8 .u64 m9)) (f4 e9) 1 (d0 n8.toNat) d8
 d9 then
 t
 else t
def aX3 (t al : Int) (o : Nat → List UInt8) (f d0 : Nat → Int) (e8 d8 : Int) (d9 : Bool) (e6 : Nat → Int) (e7 e9 n5 l8 n8 m9 p9 : Int) : Int :=
 bif bif bif bif iNe (a8 e9) 3 then iNe (a8 e9) 4 else false then iNe (a8 e9) 12 else false then true else !E6 e9 n5 l8 n8 m9 p9 then al
 else
 bif bif iEq (a8 e9) 4 then true else iEq e9 69 then
 bif iEq (a8 e9) 12 then
 bif o7 d0 e8 d8 d9 e6 e7 16 8 then
 bif iEq e9 68 then au4 t al o f d0 e8 d8 d9 e6 e7 (iAdd .u64 (d0 l8.toNat) (g8 .u64 m9)) 1
 else an0 t al o f d0 e8 d8 d9 e6 e7 (iAdd .u64 (d0 l8.toNat) (g8 .u64 m9)) (f4 e9) 2 (d0 n8.toNat) 1 true
 else
 bif iEq e9 68 then au4 t al o f d0 e8 d8 d9 e6 e7 (iAdd .u64 (d0 l8.toNat) (g8 .u64 m9)) 0
 else an0 t al o f d0 e8 d8 d9 e6 e7 (iAdd .u64 (d0 l8.toNat) (g8 .u64 m9)) (f4 e9) 2 (d0 n8.toNat) 0 true
 else
 bif iEq e9 68 then au4 t al o f d0 e8 d8 d9 e6 e7 (iAdd .u64 (d0 l8.toNat) (g8 .u64 m9)) d8
 else an0 t al o f d0 e8 d8 d9 e6 e7 (iAdd .u64 (d0 l8.toNat) (g8 .u64 m9)) (f4 e9) 2 (d0 n8.toNat) d8 d9
 else
 bif iEq (a8 e9) 12 then
 bif o7 d0 e8 d8 d9 e6 e7 16 8 then
 bif iEq e9 68 then au4 t al o f d0 e8 d8 d9 e6 e7 (iAdd .u64 (d0 l8.toNat) (g8 .u64 m9)) 1
 else an0 t al o f d0 e8 d8 d9 e6 e7 (iAdd .u64 (d0 l8.toNat) (g8 .u64 m9)) (f4 e9) 1 (d0 n8.toNat) 1 true
 else
 bif iEq e9 68 then au4 t al o f d0 e8 d8 d9 e6 e7 (iAdd .u64 (d0 l8.toNat) (g8 .u64 m9)) 0
 else an0 t al o f d0 e8 d8 d9 e6 e7 (iAdd .u64 (d0 l8.toNat) (g8 .u64 m9)) (f4 e9) 1 (d0 n8.toNat) 0 true
 else
 bif iEq e9 68 then au4 t al o f d0 e8 d8 d9 e6 e7 (iAdd .u64 (d0 l8.toNat) (g8 .u64 m9)) d8
 else an0 t al o f d0 e8 d8 d9 e6 e7 (iAdd .u64 (d0 l8.toNat) (g8 .u64 m9)) (f4 e9) 1 (d0 n8.toNat) d8 d9
def cN0 (t al : Int) (o : Nat → List UInt8) (f d0 : Nat → Int) (e8 d8 : Int) (d9 : Bool) (e6 : Nat → Int) (e7 e9 n5 l8 n8 m9 p9 : Int) : Int :=
 bif bif bif bif iNe (a8 e9) 3 then iNe (a8 e9) 4 else false then iNe (a8 e9) 12 else false then true else !E6 e9 n5 l8 n8 m9 p9 then al
 else
 bif bif iEq (a8 e9) 4 then true else iEq e9 69 then
 bif iEq (a8 e9) 12 then
 bif o7 d0 e8 d8 d9 e6 e7 16 8 then
 bif iEq e9 68 then au4 t al o f d0 e8 d8 d9 e6 e7 (iAdd .u64 (d0 l8.toNat) (g8 .u64 m9)) 1
 else
 bif
 !D7 t al o f d0 e8 d8 d9 e6 e7 (iAdd .u64 (d0 l8.toNat) (g8 .u64 m9)) (f4 e9) 2 (d0 n8.toNat) 1
 true then
 an0 t al o f d0 e8 d8 d9 e6 e7 (iAdd .u64 (d0 l8.toNat) (g8 .u64 m9)) (f4 e9) 2 (d0 n8.toNat) 1 true
 else an0 t al o f d0 e8 d8 d9 e6 e7 (iAdd .u64 (d0 l8.toNat) (g8 .u64 m9)) (f4 e9) 2 (d0 n8.toNat) 1 true
 else
 bif iEq e9 68 then au4 t al o f d0 e8 d8 d9 e6 e7 (iAdd .u64 (d0 l8.toNat) (g8 .u64 m9)) 0
 else
 bif
 !D7 t al o f d0 e8 d8 d9 e6 e7 (iAdd .u64 (d0 l8.toNat) (g8 .u64 m9)) (f4 e9) 2 (d0 n8.toNat) 0
 true then
 an0 t al o f d0 e8 d8 d9 e6 e7 (iAdd .u64 (d0 l8.toNat) (g8 .u64 m9)) (f4 e9) 2 (d0 n8.toNat) 0 true
 else an0 t al o f d0 e8 d8 d9 e6 e7 (iAdd .u64 (d0 l8.toNat) (g8 .u64 m9)) (f4 e9) 2 (d0 n8.toNat) 0 true
 else
 bif iEq e9 68 then au4 t al o f d0 e8 d8 d9 e6 e7 (iAdd .u64 (d0 l8.toNat) (g8 .u64 m9)) d8
 else
 bif
 !D7 t al o f d0 e8 d8 d9 e6 e7 (iAdd .u64 (d0 l8.toNat) (g8 .u64 m9)) (f4 e9) 2 (d0 n8.toNat) d8
 d9 then
 an0 t al o f d0 e8 d8 d9 e6 e7 (iAdd .u64 (d0 l8.toNat) (g8 .u64 m9)) (f4 e9) 2 (d0 n8.toNat) d8 d9
 else an0 t al o f d0 e8 d8 d9 e6 e7 (iAdd .u64 (d0 l8.toNat) (g8 .u64 m9)) (f4 e9) 2 (d0 n8.toNat) d8 d9
 else
 bif iEq (a8 e9) 12 then
 bif o7 d0 e8 d8 d9 e6 e7 16 8 then
 bif iEq e9 68 then au4 t al o f d0 e8 d8 d9 e6 e7 (iAdd .u64 (d0 l8.toNat) (g8 .u64 m9)) 1
 else
 bif
 !D7 t al o f d0 e8 d8 d9 e6 e7 (iAdd .u64 (d0 l8.toNat) (g8 .u64 m9)) (f4 e9) 1 (d0 n8.toNat) 1
 true then
 an0 t al o f d0 e8 d8 d9 e6 e7 (iAdd .u64 (d0 l8.toNat) (g8 .u64 m9)) (f4 e9) 1 (d0 n8.toNat) 1 true
 else an0 t al o f d0 e8 d8 d9 e6 e7 (iAdd .u64 (d0 l8.toNat) (g8 .u64 m9)) (f4 e9) 1 (d0 n8.toNat) 1 true
 else
 bif iEq e9 68 then au4 t al o f d0 e8 d8 d9 e6 e7 (iAdd .u64 (d0 l8.toNat) (g8 .u64 m9)) 0
 else
 bif
 !D7 t al o f d0 e8 d8 d9 e6 e7 (iAdd .u64 (d0 l8.toNat) (g8 .u64 m9)) (f4 e9) 1 (d0 n8.toNat) 0
 true then
 an0 t al o f d0 e8 d8 d9 e6 e7 (iAdd .u64 (d0 l8.toNat) (g8 .u64 m9)) (f4 e9) 1 (d0 n8.toNat) 0 true
 else an0 t al o f d0 e8 d8 d9 e6 e7 (iAdd .u64 (d0 l8.toNat) (g8 .u64 m9)) (f4 e9) 1 (d0 n8.toNat) 0 true
 else
 bif iEq e9 68 then au4 t al o f d0 e8 d8 d9 e6 e7 (iAdd .u64 (d0 l8.toNat) (g8 .u64 m9)) d8
 else
 bif
 !D7 t al o f d0 e8 d8 d9 e6 e7 (iAdd .u64 (d0 l8.toNat) (g8 .u64 m9)) (f4 e9) 1 (d0 n8.toNat) d8
 d9 then
 an0 t al o f d0 e8 d8 d9 e6 e7 (iAdd .u64 (d0 l8.toNat) (g8 .u64 m9)) (f4 e9) 1 (d0 n8.toNat) d8 d9
 else an0 t al o f d0 e8 d8 d9 e6 e7 (iAdd .u64 (d0 l8.toNat) (g8 .u64 m9)) (f4 e9) 1 (d0 n8.toNat) d8 d9
def W5 (t al : Int) (o : Nat → List UInt8) (f d0 : Nat → Int) (e8 d8 : Int) (d9 : Bool) (e6 : Nat → Int) (e7 e9 n5 l8 n8 m9 p9 : Int) : Nat → List UInt8 :=
 fun i0 => bif bif bif bif iNe (a8 e9) 3 then iNe (a8 e9) 4 else false then iNe (a8 e9) 12 else false then true else !E6 e9 n5 l8 n8 m9 p9 then o i0
 else
 bif bif iEq (a8 e9) 4 then true else iEq e9 69 then
 bif iEq (a8 e9) 12 then
 bif o7 d0 e8 d8 d9 e6 e7 16 8 then
 bif iEq e9 68 then aw0 t al o f d0 e8 d8 d9 e6 e7 (iAdd .u64 (d0 l8.toNat) (g8 .u64 m9)) 1 i0
 else an2 t al o f d0 e8 d8 d9 e6 e7 (iAdd .u64 (d0 l8.toNat) (g8 .u64 m9)) (f4 e9) 2 (d0 n8.toNat) 1 true i0
 else
 bif iEq e9 68 then aw0 t al o f d0 e8 d8 d9 e6 e7 (iAdd .u64 (d0 l8.toNat) (g8 .u64 m9)) 0 i0
 else an2 t al o f d0 e8 d8 d9 e6 e7 (iAdd .u64 (d0 l8.toNat) (g8 .u64 m9)) (f4 e9) 2 (d0 n8.toNat) 0 true i0
 else
 bif iEq e9 68 then aw0 t al o f d0 e8 d8 d9 e6 e7 (iAdd .u64 (d0 l8.toNat) (g8 .u64 m9)) d8 i0
 else an2 t al o f d0 e8 d8 d9 e6 e7 (iAdd .u64 (d0 l8.toNat) (g8 .u64 m9)) (f4 e9) 2 (d0 n8.toNat) d8 d9 i0
 else
 bif iEq (a8 e9) 12 then
 bif o7 d0 e8 d8 d9 e6 e7 16 8 then
 bif iEq e9 68 then aw0 t al o f d0 e8 d8 d9 e6 e7 (iAdd .u64 (d0 l8.toNat) (g8 .u64 m9)) 1 i0
 else an2 t al o f d0 e8 d8 d9 e6 e7 (iAdd .u64 (d0 l8.toNat) (g8 .u64 m9)) (f4 e9) 1 (d0 n8.toNat) 1 true i0
 else
 bif iEq e9 68 then aw0 t al o f d0 e8 d8 d9 e6 e7 (iAdd .u64 (d0 l8.toNat) (g8 .u64 m9)) 0 i0
 else an2 t al o f d0 e8 d8 d9 e6 e7 (iAdd .u64 (d0 l8.toNat) (g8 .u64 m9)) (f4 e9) 1 (d0 n8.toNat) 0 true i0
 else
 bif iEq e9 68 then aw0 t al o f d0 e8 d8 d9 e6 e7 (iAdd .u64 (d0 l8.toNat) (g8 .u64 m9)) d8 i0
 else an2 t al o f d0 e8 d8 d9 e6 e7 (iAdd .u64 (d0 l8.toNat) (g8 .u64 m9)) (f4 e9) 1 (d0 n8.toNat) d8 d9 i0
def db7 (t al : Int) (o : Nat → List UInt8) (f d0 : Nat → Int) (e8 d8 : Int) (d9 : Bool) (e6 : Nat → Int) (e7 e9 n5 l8 n8 m9 p9 : Int) : Nat → List UInt8 :=
 fun i0 => bif bif bif bif iNe (a8 e9) 3 then iNe (a8 e9) 4 else false then iNe (a8 e9) 12 else false then true else !E6 e9 n5 l8 n8 m9 p9 then o i0
 else
 bif bif iEq (a8 e9) 4 then true else iEq e9 69 then
 bif iEq (a8 e9) 12 then
 bif o7 d0 e8 d8 d9 e6 e7 16 8 then
 bif iEq e9 68 then aw0 t al o f d0 e8 d8 d9 e6 e7 (iAdd .u64 (d0 l8.toNat) (g8 .u64 m9)) 1 i0
 else
 bif
 !D7 t al o f d0 e8 d8 d9 e6 e7 (iAdd .u64 (d0 l8.toNat) (g8 .u64 m9)) (f4 e9) 2 (d0 n8.toNat) 1
 true then
 an2 t al o f d0 e8 d8 d9 e6 e7 (iAdd .u64 (d0 l8.toNat) (g8 .u64 m9)) (f4 e9) 2 (d0 n8.toNat) 1 true i0
 else an2 t al o f d0 e8 d8 d9 e6 e7 (iAdd .u64 (d0 l8.toNat) (g8 .u64 m9)) (f4 e9) 2 (d0 n8.toNat) 1 true i0
 else
 bif iEq e9 68 then aw0 t al o f d0 e8 d8 d9 e6 e7 (iAdd .u64 (d0 l8.toNat) (g8 .u64 m9)) 0 i0
 else
 bif
 !D7 t al o f d0 e8 d8 d9 e6 e7 (iAdd .u64 (d0 l8.toNat) (g8 .u64 m9)) (f4 e9) 2 (d0 n8.toNat) 0
 true then
 an2 t al o f d0 e8 d8 d9 e6 e7 (iAdd .u64 (d0 l8.toNat) (g8 .u64 m9)) (f4 e9) 2 (d0 n8.toNat) 0 true i0
 else an2 t al o f d0 e8 d8 d9 e6 e7 (iAdd .u64 (d0 l8.toNat) (g8 .u64 m9)) (f4 e9) 2 (d0 n8.toNat) 0 true i0
 else
 bif iEq e9 68 then aw0 t al o f d0 e8 d8 d9 e6 e7 (iAdd .u64 (d0 l8.toNat) (g8 .u64 m9)) d8 i0
 else
 bif
 !D7 t al o f d0 e8 d8 d9 e6 e7 (iAdd .u64 (d0 l8.toNat) (g8 .u64 m9)) (f4 e9) 2 (d0 n8.toNat) d8
 d9 then
 an2 t al o f d0 e8 d8 d9 e6 e7 (iAdd .u64 (d0 l8.toNat) (g8 .u64 m9)) (f4 e9) 2 (d0 n8.toNat) d8 d9 i0
 else
 an2 t al o f d0 e8 d8 d9 e6 e7 (iAdd .u64 (d0 l8.toNat) (g8 .u64 m9)) (f4 e9) 2 (d0 n8.toNat) d8 d9 i0
 else
 bif iEq (a8 e9) 12 then
 bif o7 d0 e8 d8 d9 e6 e7 16 8 then
 bif iEq e9 68 then aw0 t al o f d0 e8 d8 d9 e6 e7 (iAdd .u64 (d0 l8.toNat) (g8 .u64 m9)) 1 i0
 else
 bif
 !D7 t al o f d0 e8 d8 d9 e6 e7 (iAdd .u64 (d0 l8.toNat) (g8 .u64 m9)) (f4 e9) 1 (d0 n8.toNat) 1
 true then
 an2 t al o f d0 e8 d8 d9 e6 e7 (iAdd .u64 (d0 l8.toNat) (g8 .u64 m9)) (f4 e9) 1 (d0 n8.toNat) 1 true i0
 else an2 t al o f d0 e8 d8 d9 e6 e7 (iAdd .u64 (d0 l8.toNat) (g8 .u64 m9)) (f4 e9) 1 (d0 n8.toNat) 1 true i0
 else
 bif iEq e9 68 then aw0 t al o f d0 e8 d8 d9 e6 e7 (iAdd .u64 (d0 l8.toNat) (g8 .u64 m9)) 0 i0
 else
 bif
 !D7 t al o f d0 e8 d8 d9 e6 e7 (iAdd .u64 (d0 l8.toNat) (g8 .u64 m9)) (f4 e9) 1 (d0 n8.toNat) 0
 true then
 an2 t al o f d0 e8 d8 d9 e6 e7 (iAdd .u64 (d0 l8.toNat) (g8 .u64 m9)) (f4 e9) 1 (d0 n8.toNat) 0 true i0
 else an2 t al o f d0 e8 d8 d9 e6 e7 (iAdd .u64 (d0 l8.toNat) (g8 .u64 m9)) (f4 e9) 1 (d0 n8.toNat) 0 true i0
 else
 bif iEq e9 68 then aw0 t al o f d0 e8 d8 d9 e6 e7 (iAdd .u64 (d0 l8.toNat) (g8 .u64 m9)) d8 i0
 else
 bif
 !D7 t al o f d0 e8 d8 d9 e6 e7 (iAdd .u64 (d0 l8.toNat) (g8 .u64 m9)) (f4 e9) 1 (d0 n8.toNat) d8
 d9 then
 an2 t al o f d0 e8 d8 d9 e6 e7 (iAdd .u64 (d0 l8.toNat) (g8 .u64 m9)) (f4 e9) 1 (d0 n8.toNat) d8 d9 i0
 else
 an2 t al o f d0 e8 d8 d9 e6 e7 (iAdd .u64 (d0 l8.toNat) (g8 .u64 m9)) (f4 e9) 1 (d0 n8.toNat) d8 d9 i0
def P8 (t al : Int) (o : Nat → List UInt8) (f d0 : Nat → Int) (e8 d8 : Int) (d9 : Bool) (e6 : Nat → Int) (e7 e9 n5 l8 n8 m9 p9 : Int) : Nat → Int :=
 fun i0 => bif bif bif bif iNe (a8 e9) 3 then iNe (a8 e9) 4 else false then iNe (a8 e9) 12 else false then true else !E6 e9 n5 l8 n8 m9 p9 then f i0
 else
 bif bif iEq (a8 e9) 4 then true else iEq e9 69 then
 bif iEq (a8 e9) 12 then
 bif o7 d0 e8 d8 d9 e6 e7 16 8 then
 bif iEq e9 68 then af8 t al o f d0 e8 d8 d9 e6 e7 (iAdd .u64 (d0 l8.toNat) (g8 .u64 m9)) 1 i0
 else X5 t al o f d0 e8 d8 d9 e6 e7 (iAdd .u64 (d0 l8.toNat) (g8 .u64 m9)) (f4 e9) 2 (d0 n8.toNat) 1 true i0
 else
 bif iEq e9 68 then af8 t al o f d0 e8 d8 d9 e6 e7 (iAdd .u64 (d0 l8.toNat) (g8 .u64 m9)) 0 i0
 else X5 t al o f d0 e8 d8 d9 e6 e7 (iAdd .u64 (d0 l8.toNat) (g8 .u64 m9)) (f4 e9) 2 (d0 n8.toNat) 0 true i0
 else
 bif iEq e9 68 then af8 t al o f d0 e8 d8 d9 e6 e7 (iAdd .u64 (d0 l8.toNat) (g8 .u64 m9)) d8 i0
 else X5 t al o f d0 e8 d8 d9 e6 e7 (iAdd .u64 (d0 l8.toNat) (g8 .u64 m9)) (f4 e9) 2 (d0 n8.toNat) d8 d9 i0
 else
 bif iEq (a8 e9) 12 then
 bif o7 d0 e8 d8 d9 e6 e7 16 8 then
 bif iEq e9 68 then af8 t al o f d0 e8 d8 d9 e6 e7 (iAdd .u64 (d0 l8.toNat) (g8 .u64 m9)) 1 i0
 else X5 t al o f d0 e8 d8 d9 e6 e7 (iAdd .u64 (d0 l8.toNat) (g8 .u64 m9)) (f4 e9) 1 (d0 n8.toNat) 1 true i0
 else
 bif iEq e9 68 then af8 t al o f d0 e8 d8 d9 e6 e7 (iAdd .u64 (d0 l8.toNat) (g8 .u64 m9)) 0 i0
 else X5 t al o f d0 e8 d8 d9 e6 e7 (iAdd .u64 (d0 l8.toNat) (g8 .u64 m9)) (f4 e9) 1 (d0 n8.toNat) 0 true i0
 else
 bif iEq e9 68 then af8 t al o f d0 e8 d8 d9 e6 e7 (iAdd .u64 (d0 l8.toNat) (g8 .u64 m9)) d8 i0
 else X5 t al o f d0 e8 d8 d9 e6 e7 (iAdd .u64 (d0 l8.toNat) (g8 .u64 m9)) (f4 e9) 1 (d0 n8.toNat) d8 d9 i0
def ct7 (t al : Int) (o : Nat → List UInt8) (f d0 : Nat → Int) (e8 d8 : Int) (d9 : Bool) (e6 : Nat → Int) (e7 e9 n5 l8 n8 m9 p9 : Int) : Nat → Int :=
 fun i0 => bif bif bif bif iNe (a8 e9) 3 then iNe (a8 e9) 4 else false then iNe (a8 e9) 12 else false then true else !E6 e9 n5 l8 n8 m9 p9 then f i0
 else
 bif bif iEq (a8 e9) 4 then true else iEq e9 69 then
 bif iEq (a8 e9) 12 then
 bif o7 d0 e8 d8 d9 e6 e7 16 8 then
 bif iEq e9 68 then af8 t al o f d0 e8 d8 d9 e6 e7 (iAdd .u64 (d0 l8.toNat) (g8 .u64 m9)) 1 i0
 else
 bif
 !D7 t al o f d0 e8 d8 d9 e6 e7 (iAdd .u64 (d0 l8.toNat) (g8 .u64 m9)) (f4 e9) 2 (d0 n8.toNat) 1
 true then
 X5 t al o f d0 e8 d8 d9 e6 e7 (iAdd .u64 (d0 l8.toNat) (g8 .u64 m9)) (f4 e9) 2 (d0 n8.toNat) 1 true i0
 else
 X5 t al o f d0 e8 d8 d9 e6 e7 (iAdd .u64 (d0 l8.toNat) (g8 .u64 m9)) (f4 e9) 2 (d0 n8.toNat) 1 true i0
 else
 bif iEq e9 68 then af8 t al o f d0 e8 d8 d9 e6 e7 (iAdd .u64 (d0 l8.toNat) (g8 .u64 m9)) 0 i0
 else
 bif
 !D7 t al o f d0 e8 d8 d9 e6 e7 (iAdd .u64 (d0 l8.toNat) (g8 .u64 m9)) (f4 e9) 2 (d0 n8.toNat) 0
 true then
 X5 t al o f d0 e8 d8 d9 e6 e7 (iAdd .u64 (d0 l8.toNat) (g8 .u64 m9)) (f4 e9) 2 (d0 n8.toNat) 0 true i0
 else
 X5 t al o f d0 e8 d8 d9 e6 e7 (iAdd .u64 (d0 l8.toNat) (g8 .u64 m9)) (f4 e9) 2 (d0 n8.toNat) 0 true i0
 else
 bif iEq e9 68 then af8 t al o f d0 e8 d8 d9 e6 e7 (iAdd .u64 (d0 l8.toNat) (g8 .u64 m9)) d8 i0
 else
 bif
 !D7 t al o f d0 e8 d8 d9 e6 e7 (iAdd .u64 (d0 l8.toNat) (g8 .u64 m9)) (f4 e9) 2 (d0 n8.toNat) d8
 d9 then
 X5 t al o f d0 e8 d8 d9 e6 e7 (iAdd .u64 (d0 l8.toNat) (g8 .u64 m9)) (f4 e9) 2 (d0 n8.toNat) d8 d9 i0
 else
 X5 t al o f d0 e8 d8 d9 e6 e7 (iAdd .u64 (d0 l8.toNat) (g8 .u64 m9)) (f4 e9) 2 (d0 n8.toNat) d8 d9 i0
 else
 bif iEq (a8 e9) 12 then
 bif o7 d0 e8 d8 d9 e6 e7 16 8 then
 bif iEq e9 68 then af8 t al o f d0 e8 d8 d9 e6 e7 (iAdd .u64 (d0 l8.toNat) (g8 .u64 m9)) 1 i0
 else
 bif
 !D7 t al o f d0 e8 d8 d9 e6 e7 (iAdd .u64 (d0 l8.toNat) (g8 .u64 m9)) (f4 e9) 1 (d0 n8.toNat) 1
 true then
 X5 t al o f d0 e8 d8 d9 e6 e7 (iAdd .u64 (d0 l8.toNat) (g8 .u64 m9)) (f4 e9) 1 (d0 n8.toNat) 1 true i0
 else
 X5 t al o f d0 e8 d8 d9 e6 e7 (iAdd .u64 (d0 l8.toNat) (g8 .u64 m9)) (f4 e9) 1 (d0 n8.toNat) 1 true i0
 else
 bif iEq e9 68 then af8 t al o f d0 e8 d8 d9 e6 e7 (iAdd .u64 (d0 l8.toNat) (g8 .u64 m9)) 0 i0
 else
 bif
 !D7 t al o f d0 e8 d8 d9 e6 e7 (iAdd .u64 (d0 l8.toNat) (g8 .u64 m9)) (f4 e9) 1 (d0 n8.toNat) 0
 true then
 X5 t al o f d0 e8 d8 d9 e6 e7 (iAdd .u64 (d0 l8.toNat) (g8 .u64 m9)) (f4 e9) 1 (d0 n8.toNat) 0 true i0
 else
 X5 t al o f d0 e8 d8 d9 e6 e7 (iAdd .u64 (d0 l8.toNat) (g8 .u64 m9)) (f4 e9) 1 (d0 n8.toNat) 0 true i0
 else
 bif iEq e9 68 then af8 t al o f d0 e8 d8 d9 e6 e7 (iAdd .u64 (d0 l8.toNat) (g8 .u64 m9)) d8 i0
 else
 bif
 !D7 t al o f d0 e8 d8 d9 e6 e7 (iAdd .u64 (d0 l8.toNat) (g8 .u64 m9)) (f4 e9) 1 (d0 n8.toNat) d8
 d9 then
 X5 t al o f d0 e8 d8 d9 e6 e7 (iAdd .u64 (d0 l8.toNat) (g8 .u64 m9)) (f4 e9) 1 (d0 n8.toNat) d8 d9 i0
 else
 X5 t al o f d0 e8 d8 d9 e6 e7 (iAdd .u64 (d0 l8.toNat) (g8 .u64 m9)) (f4 e9) 1 (d0 n8.toNat) d8 d9 i0
def aY1 (t al : Int) (o : Nat → List UInt8) (f d0 : Nat → Int) (e8 d8 : Int) (d9 : Bool) (e6 : Nat → Int) (e7 e9 n5 l8 n8 m9 p9 : Int) : Bool :=
 bif bif bif bif iNe (a8 e9) 3 then iNe (a8 e9) 4 else false then iNe (a8 e9) 12 else false then true else !E6 e9 n5 l8 n8 m9 p9 then true
 else
 iIn l8 32 &&
 bif bif iEq (a8 e9) 4 then true else iEq e9 69 then
 bif iEq (a8 e9) 12 then
 D3 d0 e8 d8 d9 e6 e7 16 8 &&
 bif o7 d0 e8 d8 d9 e6 e7 16 8 then
 bif iEq e9 68 then true
 else
 iIn n8 32 &&
 bif
 !D7 t al o f d0 e8 d8 d9 e6 e7 (iAdd .u64 (d0 l8.toNat) (g8 .u64 m9)) (f4 e9) 2 (d0 n8.toNat) 1
 true then
 true
 else true
 else
 bif iEq e9 68 then true
 else
 iIn n8 32 &&
 bif
 !D7 t al o f d0 e8 d8 d9 e6 e7 (iAdd .u64 (d0 l8.toNat) (g8 .u64 m9)) (f4 e9) 2 (d0 n8.toNat) 0
 true then
 true
 else true
 else
 bif iEq e9 68 then true
 else
 iIn n8 32 &&
 bif
 !D7 t al o f d0 e8 d8 d9 e6 e7 (iAdd .u64 (d0 l8.toNat) (g8 .u64 m9)) (f4 e9) 2 (d0 n8.toNat) d8
 d9 then
 true
 else true
 else
 bif iEq (a8 e9) 12 then
 D3 d0 e8 d8 d9 e6 e7 16 8 &&
 bif o7 d0 e8 d8 d9 e6 e7 16 8 then
 bif iEq e9 68 then true
 else
 iIn n8 32 &&
 bif
 !D7 t al o f d0 e8 d8 d9 e6 e7 (iAdd .u64 (d0 l8.toNat) (g8 .u64 m9)) (f4 e9) 1 (d0 n8.toNat) 1
 true then
 true
 else true
 else
 bif iEq e9 68 then true
 else
 iIn n8 32 &&
 bif
 !D7 t al o f d0 e8 d8 d9 e6 e7 (iAdd .u64 (d0 l8.toNat) (g8 .u64 m9)) (f4 e9) 1 (d0 n8.toNat) 0
 true then
 true
 else true
 else
 bif iEq e9 68 then true
 else
 iIn n8 32 &&
 bif
 !D7 t al o f d0 e8 d8 d9 e6 e7 (iAdd .u64 (d0 l8.toNat) (g8 .u64 m9)) (f4 e9) 1 (d0 n8.toNat) d8
 d9 then
 true
 else true
def aK9 (t al : Int) (o : Nat → List UInt8) (f d0 : Nat → Int) (e8 d8 : Int) (d9 : Bool) (e6 : Nat → Int) (e7 e9 n5 l8 n8 m9 p9 : Int) : AV := .tup [.it .i64 0, .tup [.it .u64 (bD9 t al o f d0 e8 d8 d9 e6 e7 e9 n5 l8 n8 m9 p9), .agg [.it .u64 (aX7 t al o f d0 e8 d8 d9 e6 e7 e9 n5 l8 n8 m9 p9), .it .u64 (ba4 t al o f d0 e8 d8 d9 e6 e7 e9 n5 l8 n8 m9 p9), .it .u64 (aV5 t al o f d0 e8 d8 d9 e6 e7 e9 n5 l8 n8 m9 p9), .bl (aF4 t al o f d0 e8 d8 d9 e6 e7 e9 n5 l8 n8 m9 p9)], .bl (r8 t al o f d0 e8 d8 d9 e6 e7 e9 n5 l8 n8 m9 p9)], .agg [.it .u64 t, .it .u64 (aX3 t al o f d0 e8 d8 d9 e6 e7 e9 n5 l8 n8 m9 p9), .arr 4 .str fun i0 => .st (W5 t al o f d0 e8 d8 d9 e6 e7 e9 n5 l8 n8 m9 p9 i0)], .arr 32768 (.int .u8) fun i0 => .it .u8 (P8 t al o f d0 e8 d8 d9 e6 e7 e9 n5 l8 n8 m9 p9 i0)]
def ci1 (t al : Int) (o : Nat → List UInt8) (f d0 : Nat → Int) (e8 d8 : Int) (d9 : Bool) (e6 : Nat → Int) (e7 e9 n5 l8 n8 m9 p9 : Int) : AV := .tup [.it .i64 (cQ1 t al o f d0 e8 d8 d9 e6 e7 e9 n5 l8 n8 m9 p9), .tup [.it .u64 (bD9 t al o f d0 e8 d8 d9 e6 e7 e9 n5 l8 n8 m9 p9), .agg [.it .u64 (cZ8 t al o f d0 e8 d8 d9 e6 e7 e9 n5 l8 n8 m9 p9), .it .u64 (da9 t al o f d0 e8 d8 d9 e6 e7 e9 n5 l8 n8 m9 p9), .it .u64 (cX5 t al o f d0 e8 d8 d9 e6 e7 e9 n5 l8 n8 m9 p9), .bl (cX8 t al o f d0 e8 d8 d9 e6 e7 e9 n5 l8 n8 m9 p9)], .bl (r8 t al o f d0 e8 d8 d9 e6 e7 e9 n5 l8 n8 m9 p9)], .agg [.it .u64 (cR3 t al o f d0 e8 d8 d9 e6 e7 e9 n5 l8 n8 m9 p9), .it .u64 (cN0 t al o f d0 e8 d8 d9 e6 e7 e9 n5 l8 n8 m9 p9), .arr 4 .str fun i0 => .st (db7 t al o f d0 e8 d8 d9 e6 e7 e9 n5 l8 n8 m9 p9 i0)], .arr 32768 (.int .u8) fun i0 => .it .u8 (ct7 t al o f d0 e8 d8 d9 e6 e7 e9 n5 l8 n8 m9 p9 i0)]
theorem di1 (t al : Int) (o : Nat → List UInt8) (f d0 : Nat → Int) (e8 d8 : Int) (d9 : Bool) (e6 : Nat → Int) (e7 e9 n5 l8 n8 m9 p9 : Int) : ci1 t al o f d0 e8 d8 d9 e6 e7 e9 n5 l8 n8 m9 p9 = aK9 t al o f d0 e8 d8 d9 e6 e7 e9 n5 l8 n8 m9 p9 := by
  unfold ci1 aK9 cQ1 cZ8 aX7 da9 ba4 cX5 aV5 cX8 aF4 cR3 cN0 aX3 db7 W5 ct7 P8
  first | (simp only [cS1, cS2, cS3, cS4, cS6, cS7]; done) | (simp only [cS1, cS2, cS3, cS4, cS6, cS7]; kernel_rfl)
theorem accInsnE (t al : Int) (o : Nat → List UInt8) (f d0 : Nat → Int) (e8 d8 : Int) (d9 : Bool) (e6 : Nat → Int) (e7 e9 n5 l8 n8 m9 p9 : Int) : evFn Tryz.prog okT (m5 bq9) (hGr [] (hMem [(138, bq2), (274, bC1)] NOH)) ROs NOV 101 false Tryz.f206 [.pt 0 [] J6, .agg [.arr 32 (.int .u64) fun i => .it .u64 (d0 i), .it .u64 e8, .it .i64 d8, .bl d9, .arr 29 (.int .u64) fun i => .it .u64 (e6 i), .it .u64 e7], .agg [.it .i64 e9, .it .i64 n5, .it .i64 l8, .it .i64 n8, .it .i64 m9, .it .i64 p9]] (bi2 ⟨t, al, o, f⟩ 2) (finQ busL) = some (aY1 t al o f d0 e8 d8 d9 e6 e7 e9 n5 l8 n8 m9 p9, aK9 t al o f d0 e8 d8 d9 e6 e7 e9 n5 l8 n8 m9 p9) :=
 (by kernel_rfl : _ = some (aY1 t al o f d0 e8 d8 d9 e6 e7 e9 n5 l8 n8 m9 p9, ci1 t al o f d0 e8 d8 d9 e6 e7 e9 n5 l8 n8 m9 p9)).trans (by rw [di1])
noncomputable def bp0 : MRow := aL0 [sh5Q, sh1Q] (some fun g S => aY1 S.t S.a S.o S.f (fun i => (((g 0).fld 0).ix i).num) ((g 0).fld 1).num ((g 0).fld 2).num ((g 0).fld 3).bool (fun i => (((g 0).fld 4).ix i).num) ((g 0).fld 5).num ((g 1).fld 0).num ((g 1).fld 1).num ((g 1).fld 2).num ((g 1).fld 3).num ((g 1).fld 4).num ((g 1).fld 5).num) (fun g S => Y1 (aK9 S.t S.a S.o S.f (fun i => (((g 0).fld 0).ix i).num) ((g 0).fld 1).num ((g 0).fld 2).num ((g 0).fld 3).bool (fun i => (((g 0).fld 4).ix i).num) ((g 0).fld 5).num ((g 1).fld 0).num ((g 1).fld 1).num ((g 1).fld 2).num ((g 1).fld 3).num ((g 1).fld 4).num ((g 1).fld 5).num) 1) (fun g S => ⟨tmOf (Y1 (aK9 S.t S.a S.o S.f (fun i => (((g 0).fld 0).ix i).num) ((g 0).fld 1).num ((g 0).fld 2).num ((g 0).fld 3).bool (fun i => (((g 0).fld 4).ix i).num) ((g 0).fld 5).num ((g 1).fld 0).num ((g 1).fld 1).num ((g 1).fld 2).num ((g 1).fld 3).num ((g 1).fld 4).num ((g 1).fld 5).num) 2), alOf (Y1 (aK9 S.t S.a S.o S.f (fun i => (((g 0).fld 0).ix i).num) ((g 0).fld 1).num ((g 0).fld 2).num ((g 0).fld 3).bool (fun i => (((g 0).fld 4).ix i).num) ((g 0).fld 5).num ((g 1).fld 0).num ((g 1).fld 1).num ((g 1).fld 2).num ((g 1).fld 3).num ((g 1).fld 4).num ((g 1).fld 5).num) 2), oOf (Y1 (aK9 S.t S.a S.o S.f (fun i => (((g 0).fld 0).ix i).num) ((g 0).fld 1).num ((g 0).fld 2).num ((g 0).fld 3).bool (fun i => (((g 0).fld 4).ix i).num) ((g 0).fld 5).num ((g 1).fld 0).num ((g 1).fld 1).num ((g 1).fld 2).num ((g 1).fld 3).num ((g 1).fld 4).num ((g 1).fld 5).num) 2), fOf (Y1 (aK9 S.t S.a S.o S.f (fun i => (((g 0).fld 0).ix i).num) ((g 0).fld 1).num ((g 0).fld 2).num ((g 0).fld 3).bool (fun i => (((g 0).fld 4).ix i).num) ((g 0).fld 5).num ((g 1).fld 0).num ((g 1).fld 1).num ((g 1).fld 2).num ((g 1).fld 3).num ((g 1).fld 4).num ((g 1).fld 5).num) 3)⟩)
theorem cJ4 : aa3 Tryz.prog 206 bp0 := aJ1 ⟨Tryz.func206, of_decide_eq_true (by kernel_rfl)⟩ (au3 (ap2 E9 (show MOk Tryz.prog [(138, bq2), (274, bC1)] from ⟨cm8, da8, trivial⟩)) (show GOk Tryz.prog [] from trivial)) ac2 rfl (fun _ _ => ⟨rfl, rfl, rfl⟩) (G := fun g S => aY1 S.t S.a S.o S.f (fun i => (((g 0).fld 0).ix i).num) ((g 0).fld 1).num ((g 0).fld 2).num ((g 0).fld 3).bool (fun i => (((g 0).fld 4).ix i).num) ((g 0).fld 5).num ((g 1).fld 0).num ((g 1).fld 1).num ((g 1).fld 2).num ((g 1).fld 3).num ((g 1).fld 4).num ((g 1).fld 5).num) (fun g S => accInsnE S.t S.a S.o S.f (fun i => (((g 0).fld 0).ix i).num) ((g 0).fld 1).num ((g 0).fld 2).num ((g 0).fld 3).bool (fun i => (((g 0).fld 4).ix i).num) ((g 0).fld 5).num ((g 1).fld 0).num ((g 1).fld 1).num ((g 1).fld 2).num ((g 1).fld 3).num ((g 1).fld 4).num ((g 1).fld 5).num) (fun g S hp hS hc => hc _ rfl)
end
end Go.Proofs.YtbkdnehnhbaieaaGreat.PV
