/-
  Loops, round by round, over slots that hold pointers, slices and closures, blocks that are read, slices that move. Own text; nothing of a program.
-/
import Derived.Test.YtngaeiceicgalaaDoorEwB
namespace Go.Ev
section
variable {P : Program} {ρ : Ren}

theorem Back.gen {n0 n2 : Nat} {τ : Nat → Nat} {fr' fr : Fr} {m' m : Mem} (hτ : ∀ i, i < n0 → τ i = i) (hn : n0 ≤ n2) (hnF : fr.n = fr'.n)
    (hF : ∀ t v, fr.get t = some v → ∃ v', fr'.get t = some v' ∧ (∀ (ρ : Ren) rv, VR3 ρ v' rv → VR3 (ρ.by τ n2) v rv) ∧ isGd v = false ∧ isGd v' = false)
    (hM : ∀ i b, m.get i = some b → i < n2 ∧ ∃ t wr, b = .cells t wr ∧ Go.Ev.plain t = true ∧ m'.get (τ i) = some (.cells t wr))
    (hinj : ∀ i j b b', m.get i = some b → m.get j = some b' → i ≠ j → τ i ≠ τ j) (hmn : m.n = n2) : Back n0 fr' m' fr m := fun ρ A w a hf hR => by
  have ng : ∀ v : AV, isGd v = false → ∀ t w u, v ≠ .gd t w u := fun v h t w u e => by subst e; cases h
  refine ⟨ρ.by τ n2, fun ρ0 h0 hlt he => ⟨⟨fun i hi => ?_, fun i hi => ?_, fun i hi => ?_, fun i hi => ?_, fun i hi => ?_⟩, by rw [h0]; exact hn, fun i hi h => ?_⟩, ⟨hf.size.trans hnF.symm, fun t v hv => ?_⟩, ?_⟩
  · have := hlt i hi
    refine ⟨by omega, ?_⟩
    rw [hτ i (by omega)]; exact he.dom i hi
  · have := hlt i hi
    show ρ.bb (τ i) = _
    rw [hτ i (by omega)]; exact he.bb i hi
  · have := hlt i hi
    show ρ.bo (τ i) = _
    rw [hτ i (by omega)]; exact he.bo i hi
  · have := hlt i hi
    show ρ.sh (τ i) = _
    rw [hτ i (by omega)]; exact he.sh i hi
  · have := hlt i hi
    show ρ.room (τ i) = _
    rw [hτ i (by omega)]; exact he.room i hi
  · have h2 := hi.2
    rw [hτ i (by omega)] at h2
    exact he.old i h2 h
  · obtain ⟨v', h1, h2, g1, g2⟩ := hF t v hv
    have h3 := hf.get t v' h1
    have h4 := h2 ρ _ (VRe_plain (ng v' g2) h3)
    cases v <;> first | exact h4 | cases g1
  · refine ⟨hmn.symm, fun i hi => hi.1, fun i b hb => ?_, fun i j bi bj hi hj hij hw => ?_, hR.new, hR.tab⟩
    · obtain ⟨h1, t, wr, rfl, h2, h3⟩ := hM i b hb
      obtain ⟨g1, g2, g3, g4, g5, g6⟩ := hR.blk _ _ h3
      refine ⟨⟨h1, g1⟩, g2, g3, g4, fun r v hv => ?_, g6⟩
      obtain ⟨rv, k1, k2⟩ := g5 r v hv
      exact ⟨rv, k1, VR1_same (flat_plain t g3 h2 v (List.mem_of_getElem? hv)) k2⟩
    · obtain ⟨_, t, wr, rfl, _, h3⟩ := hM i bi hi
      obtain ⟨_, t', wr', rfl, _, h3'⟩ := hM j bj hj
      exact hR.sep _ _ _ _ h3 h3' (hinj i j _ _ hi hj hij) hw

/-- A scalar that names old blocks alone. -/
def idOk1 (n0 : Nat) : AV → Bool
  | .pt id _ _ => Nat.blt id n0
  | .sl id _ _ _ _ => Nat.blt id n0
  | v => plain v
def idOk (n0 : Nat) : AV → Bool
  | .fn _ caps => caps.all (idOk1 n0)
  | v => idOk1 n0 v

theorem blt_lt {a b : Nat} (h : Nat.blt a b = true) : a < b := by rw [Nat.blt_eq] at h; exact h

theorem idOk1_ok {n0 n2 : Nat} {τ : Nat → Nat} (hτ : ∀ i, i < n0 → τ i = i) (hn : n0 ≤ n2) {v : AV} (h : idOk1 n0 v = true) {rv : Value} (hv : VR2 ρ v rv) : VR2 (ρ.by τ n2) v rv := by
  cases v with
  | pt id p r =>
    have hid := blt_lt h
    obtain ⟨g1, g2, t, o, g3, g4⟩ := hv
    have e := hτ id hid
    refine ⟨⟨by omega, by rw [e]; exact g1⟩, ?_, t, o, ?_, ?_⟩
    · show ρ.sh (τ id) = r
      rw [e]; exact g2
    · show PathTo (ρ.sh (τ id)) p t o
      rw [e]; exact g3
    · show rv = .pointer (some ⟨ρ.bb (τ id), ρ.bo (τ id) + o, none⟩)
      rw [e]; exact g4
  | sl id p lo len tip =>
    have hid := blt_lt h
    obtain ⟨g1, n, s, o, off, c, g2, g3, g4, g5, g6, g7⟩ := hv
    have e := hτ id hid
    refine ⟨⟨by omega, by rw [e]; exact g1⟩, n, s, o, off, c, ?_, g3, g4, ?_, ?_, ?_⟩
    · show PathTo (ρ.sh (τ id)) p (.arr n s) o
      rw [e]; exact g2
    · show rv = .slice (some ⟨ρ.bb (τ id), off, none⟩) len c
      rw [e]; exact g5
    · show 0 < c → off = ρ.bo (τ id) + o + lo * s.size
      rw [e]; exact g6
    · show tip = true → p = [] ∧ lo + len = n ∧ (0 < c → (lo + c) * s.size ≤ ρ.room (τ id))
      rw [e]; exact g7
  | _ => exact VR2_same h hv

theorem VR1_of_VR2 {v : AV} {rv : Value} (h : ∀ l, v ≠ .agg l) (h2 : ∀ n s f, v ≠ .arr n s f) (hv : VR2 ρ v rv) : VR1 ρ v rv := by
  cases v <;> first | exact hv | exact absurd rfl (h _) | exact absurd rfl (h2 _ _ _)

theorem VR1_VR2 {v : AV} {rv : Value} (hv : VR1 ρ v rv) : VR2 ρ v rv := by
  cases v <;> first | exact hv | exact hv.elim

theorem idOk_ok {n0 n2 : Nat} {τ : Nat → Nat} (hτ : ∀ i, i < n0 → τ i = i) (hn : n0 ≤ n2) {v : AV} (h : idOk n0 v = true) {rv : Value} (hv : VR3 ρ v rv) : VR3 (ρ.by τ n2) v rv := by
  cases v with
  | fn f caps =>
    obtain ⟨cs, h1, h2⟩ := hv
    refine ⟨cs, h1, ?_⟩
    have hc : ∀ a ∈ caps, idOk1 n0 a = true := List.all_eq_true.1 h
    clear h h1
    generalize cs.toList = z at h2
    induction caps generalizing z with
    | nil => cases z with
      | nil => exact trivial
      | cons => exact h2.elim
    | cons a l ih => cases z with
      | nil => exact h2.elim
      | cons b z =>
        refine ⟨?_, ih (fun x hx => hc x (List.mem_cons_of_mem _ hx)) z h2.2⟩
        have ha := h2.1
        have hk := idOk1_ok hτ hn (hc a List.mem_cons_self) (VR1_VR2 ha)
        refine VR1_of_VR2 (fun l e => ?_) (fun n s f e => ?_) hk
        · subst e; exact ha.elim
        · subst e; exact ha.elim
  | tup l => exact VR3_same h hv
  | pt id p r => exact idOk1_ok (v := .pt id p r) hτ hn h hv
  | sl id p lo len tip => exact idOk1_ok (v := .sl id p lo len tip) hτ hn h hv
  | _ => exact VR3_same h hv

theorem idOk_gd {n0 : Nat} {v : AV} (h : idOk n0 v = true) : isGd v = false := by
  cases v <;> first | rfl | cases h

/-- The state of a loop. 'ts': slots; 'mv': slots of slices that move, their blocks named anew behind all older ones; 'ids': blocks, whether they are written. -/
structure Lq where
  n : Nat
  n0 : Nat
  ts : List Nat
  mv : List Nat
  ids : List (Nat × Bool)

def getB (m : Mem) : List (Nat × Bool) → Option (List AV)
  | [] => some []
  | (i, w) :: r => match m.get i, getB m r with
    | some (.cells v w'), some l => bif w == w' then some (v :: l) else none
    | _, _ => none
/-- What moves: a slice, a pointer to a whole block; under its new name. -/
def mvOf (k : Nat) : AV → Option (Nat × AV)
  | .sl id [] lo len tip => some (id, .sl k [] lo len tip)
  | .pt id [] r => some (id, .pt k [] r)
  | _ => none
/-- Slots that move: their values under new names, what they hold, where they lie. -/
def getV (fr : Fr) (m : Mem) : List Nat → Nat → Option (List AV × List AV × List Nat)
  | [], _ => some ([], [], [])
  | t :: r, k => match fr.get t with
    | some v => match mvOf k v with
      | some (id, v') => match m.get id, getV fr m r (k + 1) with
        | some (.cells u true), some (a, b, c) => some (v' :: a, u :: b, id :: c)
        | _, _ => none
      | none => none
    | none => none
/-- No two are the same. -/
def apartB : List Nat → Bool
  | [] => true
  | a :: r => (r.all fun b => !Nat.beq a b) && apartB r

def putW : List (Nat × Bool) → List AV → Tr Blk → Tr Blk
  | (i, w) :: ts, v :: l, x => putW ts l (x.set (some (.cells v w)) i)
  | _, _, x => x
def mvIds (k : Nat) : List Nat → List (Nat × Bool)
  | [] => []
  | _ :: r => (k, true) :: mvIds (k + 1) r

def Lq.F (L : Lq) (l : List AV) : Fr := mkF L.n (L.ts ++ L.mv) (l.take (L.ts.length + L.mv.length))
def Lq.M (L : Lq) (l : List AV) : Mem := { n := L.n0 + L.mv.length, t := putW (L.ids ++ mvIds L.n0 L.mv) (l.drop (L.ts.length + L.mv.length)) (Tr.mk 12) }

def grabQ (L : Lq) : Kc := fun e fr m =>
  bif Nat.beq fr.n L.n then (match exNo e, getS fr L.ts, getV fr m L.mv L.n0, getB m L.ids with
    | some c, some l, some (a, b, q), some l' => bif apartB q && (q.all fun j => L.ids.all fun x => !Nat.beq x.1 j) then some (true, .tup (.it .i64 c :: (l ++ a ++ (l' ++ b)))) else none
    | _, _, _, _ => none) else none

theorem grabQ_ok {L : Lq} {e : Exit} {fr : Fr} {m : Mem} {r : Out} (h : grabQ L e fr m = some r) :
    fr.n = L.n ∧ ∃ c l a b q l', exNo e = some c ∧ getS fr L.ts = some l ∧ getV fr m L.mv L.n0 = some (a, b, q) ∧ getB m L.ids = some l' ∧ (apartB q && (q.all fun j => L.ids.all fun x => !Nat.beq x.1 j)) = true ∧
      r = (true, .tup (.it .i64 c :: (l ++ a ++ (l' ++ b)))) := by
  unfold grabQ at h
  cases hp : Nat.beq fr.n L.n with
  | false => rw [hp] at h; cases h
  | true =>
  rw [hp, cond_true] at h
  split at h <;> try (cases h; done)
  rename_i c l a b q l' h1 h2 h3 h4
  cases hb : apartB q && (q.all fun j => L.ids.all fun x => !Nat.beq x.1 j) with
  | false => rw [hb] at h; cases h
  | true =>
  rw [hb, cond_true] at h
  cases h
  exact ⟨Nat.eq_of_beq_eq_true hp, c, l, a, b, q, l', h1, h2, h3, h4, hb, rfl⟩

theorem getV_len {fr : Fr} {m : Mem} : ∀ {ts : List Nat} {k : Nat} {a b : List AV} {q : List Nat}, getV fr m ts k = some (a, b, q) → a.length = ts.length ∧ b.length = ts.length ∧ q.length = ts.length
  | [], _, _, _, _, h => by cases h; exact ⟨rfl, rfl, rfl⟩
  | t :: r, k, a, b, q, h => by
    simp only [getV] at h
    split at h <;> try (cases h; done)
    split at h <;> try (cases h; done)
    split at h <;> try (cases h; done)
    rename_i h2
    cases h
    obtain ⟨g1, g2, g3⟩ := getV_len h2
    simp [g1, g2, g3]

theorem getV_at {fr : Fr} {m : Mem} : ∀ {ts : List Nat} {k : Nat} {a b : List AV} {q : List Nat}, getV fr m ts k = some (a, b, q) → ∀ (j : Nat) (t : Nat), ts[j]? = some t →
    ∃ id v0 v' u, fr.get t = some v0 ∧ mvOf (k + j) v0 = some (id, v') ∧ m.get id = some (.cells u true) ∧ a[j]? = some v' ∧ b[j]? = some u ∧ q[j]? = some id
  | [], _, _, _, _, _, j, t, ht => by simp at ht
  | u :: r, k, a, b, q, h, j, t, ht => by
    simp only [getV] at h
    split at h <;> try (cases h; done)
    rename_i v0 hu
    split at h <;> try (cases h; done)
    rename_i id v' hv
    split at h <;> try (cases h; done)
    rename_i w a' b' q' h1 h2
    cases h
    cases j with
    | zero =>
      simp at ht; subst ht
      exact ⟨id, v0, v', w, hu, hv, h1, rfl, rfl, rfl⟩
    | succ j =>
      obtain ⟨id', v0', v1', u', g1, g2, g3, g4, g5, g6⟩ := getV_at h2 j t (by simpa using ht)
      exact ⟨id', v0', v1', u', g1, by rw [show k + (j + 1) = k + 1 + j by omega]; exact g2, g3, by simpa using g4, by simpa using g5, by simpa using g6⟩

theorem mvOf_gd {k : Nat} {v0 v' : AV} {id : Nat} (h : mvOf k v0 = some (id, v')) : isGd v0 = false ∧ isGd v' = false ∧ v'.wf := by
  unfold mvOf at h
  split at h <;> try (cases h; done)
  · cases h; exact ⟨rfl, rfl, trivial⟩
  · cases h; exact ⟨rfl, rfl, trivial⟩

theorem mvOf_ok {τ : Nat → Nat} {n2 k : Nat} {v0 v' : AV} {id : Nat} (h : mvOf k v0 = some (id, v')) (e : τ k = id) (hk : k < n2) {rv : Value} (hv : VR3 ρ v0 rv) : VR3 (ρ.by τ n2) v' rv := by
  unfold mvOf at h
  split at h <;> try (cases h; done)
  · cases h
    obtain ⟨g1, n, s, o, off, c, g2, g3, g4, g5, g6, g7⟩ := hv
    refine ⟨⟨hk, by rw [e]; exact g1⟩, n, s, o, off, c, ?_, g3, g4, ?_, ?_, ?_⟩
    · show PathTo (ρ.sh (τ k)) [] (.arr n s) o
      rw [e]; exact g2
    · show rv = .slice (some ⟨ρ.bb (τ k), off, none⟩) _ c
      rw [e]; exact g5
    · show 0 < c → off = ρ.bo (τ k) + o + _ * s.size
      rw [e]; exact g6
    · show _ = true → [] = [] ∧ _ = n ∧ (0 < c → (_ + c) * s.size ≤ ρ.room (τ k))
      rw [e]; exact g7
  · cases h
    obtain ⟨g1, g2, t, o, g3, g4⟩ := hv
    refine ⟨⟨hk, by rw [e]; exact g1⟩, ?_, t, o, ?_, ?_⟩
    · show ρ.sh (τ k) = _
      rw [e]; exact g2
    · show PathTo (ρ.sh (τ k)) [] t o
      rw [e]; exact g3
    · show rv = .pointer (some ⟨ρ.bb (τ k), ρ.bo (τ k) + o, none⟩)
      rw [e]; exact g4

theorem getB_at {m : Mem} : ∀ {ts : List (Nat × Bool)} {l : List AV}, getB m ts = some l → l.length = ts.length ∧ ∀ (k : Nat) (t : Nat × Bool) (v : AV), ts[k]? = some t → l[k]? = some v → m.get t.1 = some (.cells v t.2)
  | [], l, h => by cases h; exact ⟨rfl, fun k t v h1 => by simp at h1⟩
  | (i, w) :: ts, l, h => by
    simp only [getB] at h
    split at h <;> try (cases h; done)
    rename_i v w' l' g1 g2
    cases hw : w == w' with
    | false => rw [hw] at h; cases h
    | true =>
    rw [hw, cond_true] at h
    cases h
    have hw := beq_iff_eq.1 hw
    subst hw
    obtain ⟨k1, k2⟩ := getB_at g2
    refine ⟨by simp [k1], fun k t u h1 h2 => ?_⟩
    cases k with
    | zero => simp at h1 h2; subst h1; subst h2; exact g1
    | succ k => exact k2 k t u (by simpa using h1) (by simpa using h2)

theorem putW_get : ∀ (ts : List (Nat × Bool)) (l : List AV) (x : Tr Blk) (t : Nat) (b : Blk), (putW ts l x).get t = some b → (∃ (k : Nat) (w : Bool) (v : AV), ts[k]? = some (t, w) ∧ l[k]? = some v ∧ b = .cells v w) ∨ x.get t = some b
  | [], _, x, t, v, h => .inr h
  | _ :: _, [], x, t, v, h => .inr h
  | (u, w) :: ts, a :: l, x, t, b, h => by
    simp only [putW] at h
    rcases putW_get ts l _ t b h with ⟨k, w', v, h1, h2, h3⟩ | h1
    · exact .inl ⟨k + 1, w', v, by simpa using h1, by simpa using h2, h3⟩
    · rcases Tr.get_set _ x u t b h1 with ⟨rfl, h2⟩ | ⟨_, h2⟩
      · exact .inl ⟨0, w, a, rfl, rfl, (Option.some.inj h2).symm⟩
      · exact .inr h2

theorem mvIds_at : ∀ {ts : List Nat} {k j : Nat} {x : Nat × Bool}, (mvIds k ts)[j]? = some x → j < ts.length ∧ x = (k + j, true)
  | [], _, _, _, h => by simp [mvIds] at h
  | t :: r, k, j, x, h => by
    cases j with
    | zero => simp [mvIds] at h; subst h; exact ⟨by simp, rfl⟩
    | succ j =>
      simp only [mvIds, List.getElem?_cons_succ] at h
      obtain ⟨h1, rfl⟩ := mvIds_at h
      exact ⟨by simpa using h1, by rw [show k + 1 + j = k + (j + 1) by omega]⟩

theorem apartB_ne : ∀ {q : List Nat}, apartB q = true → ∀ (i j a b : Nat), q[i]? = some a → q[j]? = some b → i ≠ j → a ≠ b
  | [], _, i, j, a, b, h1, _, _ => by simp at h1
  | c :: r, h, i, j, a, b, h1, h2, hij => by
    simp only [apartB, Bool.and_eq_true, List.all_eq_true] at h
    have hc : ∀ x ∈ r, c ≠ x := fun x hx e => by
      have := h.1 x hx
      subst e
      simp at this
    cases i with
    | zero => cases j with
      | zero => exact absurd rfl hij
      | succ j =>
        simp at h1 h2; subst h1
        exact hc b (List.mem_of_getElem? h2)
    | succ i => cases j with
      | zero =>
        simp at h1 h2; subst h2
        exact fun e => hc a (List.mem_of_getElem? h1) e.symm
      | succ j =>
        exact apartB_ne h.2 i j a b (by simpa using h1) (by simpa using h2) (by omega)

def Lq.wf (L : Lq) : Bool := L.ids.all fun x => Nat.blt x.1 L.n0

/-- What may be a loop's state. -/
def Lq.ok (L : Lq) (l : List AV) : Bool := (l.take L.ts.length).all (idOk L.n0) && (l.drop (L.ts.length + L.mv.length)).all plain

theorem Lq.back {L : Lq} (hL : L.wf = true) {fr : Fr} {m : Mem} {l a b l' : List AV} {q : List Nat} (hn : fr.n = L.n) (h1 : getS fr L.ts = some l) (h2 : getV fr m L.mv L.n0 = some (a, b, q)) (h3 : getB m L.ids = some l')
    (hq : (apartB q && (q.all fun j => L.ids.all fun x => !Nat.beq x.1 j)) = true) (hok : L.ok (l ++ a ++ (l' ++ b)) = true) : Back L.n0 fr m (L.F (l ++ a ++ (l' ++ b))) (L.M (l ++ a ++ (l' ++ b))) := by
  have k1 := getS_len h1
  obtain ⟨k2, k3, k4⟩ := getV_len h2
  obtain ⟨k5, k6⟩ := getB_at h3
  simp only [Bool.and_eq_true] at hq
  obtain ⟨hq1, hq2⟩ := hq
  simp only [Lq.wf, List.all_eq_true, Nat.blt_eq] at hL
  have hlen : (l ++ a).length = L.ts.length + L.mv.length := by simp [k1, k2]
  have htake : (l ++ a ++ (l' ++ b)).take (L.ts.length + L.mv.length) = l ++ a := by rw [← hlen]; exact List.take_left
  have hdrop : (l ++ a ++ (l' ++ b)).drop (L.ts.length + L.mv.length) = l' ++ b := by rw [← hlen]; exact List.drop_left
  simp only [Lq.ok, Bool.and_eq_true, List.all_eq_true] at hok
  obtain ⟨ho1, ho2⟩ := hok
  rw [hdrop] at ho2
  have htk : (l ++ a ++ (l' ++ b)).take L.ts.length = l := by rw [List.append_assoc, ← k1]; exact List.take_left
  rw [htk] at ho1
  -- the names
  let τ : Nat → Nat := fun i => if i < L.n0 then i else q.getD (i - L.n0) 0
  have hτ : ∀ i, i < L.n0 → τ i = i := fun i hi => if_pos hi
  have hτ2 : ∀ j id, q[j]? = some id → τ (L.n0 + j) = id := fun j id hj => by
    show (if L.n0 + j < L.n0 then L.n0 + j else q.getD (L.n0 + j - L.n0) 0) = id
    rw [if_neg (by omega), Nat.add_sub_cancel_left, List.getD_eq_getElem?_getD, hj]; rfl
  -- the blocks
  have hblk : ∀ i bl, (L.M (l ++ a ++ (l' ++ b))).get i = some bl → (∃ w v, (i, w) ∈ L.ids ∧ bl = .cells v w ∧ v ∈ l' ∧ i < L.n0 ∧ m.get i = some (.cells v w)) ∨
      (∃ j v id, i = L.n0 + j ∧ bl = .cells v true ∧ v ∈ b ∧ q[j]? = some id ∧ j < L.mv.length ∧ m.get id = some (.cells v true)) := fun i bl hb => by
    unfold Lq.M at hb
    rw [hdrop] at hb
    rcases putW_get _ _ _ i bl hb with ⟨k, w, v, g1, g2, rfl⟩ | g
    · rcases Nat.lt_or_ge k L.ids.length with hk | hk
      · rw [List.getElem?_append_left hk] at g1
        rw [List.getElem?_append_left (by omega)] at g2
        have hm := List.mem_of_getElem? g1
        exact .inl ⟨w, v, hm, rfl, List.mem_of_getElem? g2, hL _ hm, k6 k (i, w) v g1 g2⟩
      · rw [List.getElem?_append_right hk] at g1
        rw [List.getElem?_append_right (by omega)] at g2
        obtain ⟨hj, e⟩ := mvIds_at g1
        cases e
        rw [k5] at g2
        obtain ⟨id, v0, v', u, q0, q1, q2, q3, q4, q5⟩ := getV_at h2 (k - L.ids.length) _ (List.getElem?_eq_getElem hj)
        rw [g2] at q4; cases q4
        exact .inr ⟨_, _, id, rfl, rfl, List.mem_of_getElem? g2, q5, hj, q2⟩
    · rw [Tr.get_mk] at g; cases g
  refine Back.gen (n2 := L.n0 + L.mv.length) (τ := τ) hτ (Nat.le_add_right _ _) hn.symm (fun t v hv => ?_) (fun i bl hb => ?_) (fun i j bi bj hi hj hij => ?_) rfl
  · unfold Lq.F at hv
    rw [htake] at hv
    obtain ⟨k, g1, g2⟩ := mkF_get hv
    rcases Nat.lt_or_ge k L.ts.length with hk | hk
    · rw [List.getElem?_append_left hk] at g1
      rw [List.getElem?_append_left (by omega)] at g2
      have hi := ho1 v (List.mem_of_getElem? g2)
      exact ⟨v, getS_at h1 k t v g1 g2, fun ρ rv h => idOk_ok hτ (Nat.le_add_right _ _) hi h, idOk_gd hi, idOk_gd hi⟩
    · rw [List.getElem?_append_right hk] at g1
      rw [List.getElem?_append_right (by omega), k1] at g2
      obtain ⟨id, v0, v', u, q0, q1, q2, q3, q4, q5⟩ := getV_at h2 _ _ g1
      rw [g2] at q3; cases q3
      have hj : k - L.ts.length < L.mv.length := (List.getElem?_eq_some_iff.1 g1).1
      exact ⟨v0, q0, fun ρ rv h => mvOf_ok q1 (hτ2 _ _ q5) (by omega) h, (mvOf_gd q1).2.1, (mvOf_gd q1).1⟩
  · rcases hblk i bl hb with ⟨w, v, g1, rfl, g2, g3, g4⟩ | ⟨j, v, id, rfl, rfl, g2, g3, g4, g5⟩
    · exact ⟨by omega, v, w, rfl, ho2 v (List.mem_append_left _ g2), by rw [hτ i g3]; exact g4⟩
    · exact ⟨by omega, v, true, rfl, ho2 v (List.mem_append_right _ g2), by rw [hτ2 j id g3]; exact g5⟩
  · have hids : ∀ i w j id, (i, w) ∈ L.ids → q[j]? = some id → i ≠ id := fun i w j id hi hj e => by
      have := List.all_eq_true.1 (List.all_eq_true.1 hq2 id (List.mem_of_getElem? hj)) (i, w) hi
      subst e
      simp at this
    rcases hblk i bi hi with ⟨w, v, g1, rfl, g2, g3, g4⟩ | ⟨c, v, id, rfl, rfl, g2, g3, g4, g5⟩ <;> rcases hblk j bj hj with ⟨w', v', g1', rfl, g2', g3', g4'⟩ | ⟨c', v', id', rfl, rfl, g2', g3', g4', g5'⟩
    · rw [hτ i g3, hτ j g3']; exact hij
    · rw [hτ i g3, hτ2 _ _ g3']; exact hids i w _ _ g1 g3'
    · rw [hτ j g3', hτ2 _ _ g3]; exact (hids j w' _ _ g1' g3).symm
    · rw [hτ2 _ _ g3, hτ2 _ _ g3']
      exact apartB_ne hq1 c c' _ _ g3 g3' (fun e => hij (by rw [e]))

/-- One round, from one state to another one. -/
def Turn (P : Program) (n0 : Nat) (b : Code) (fr : Fr) (m : Mem) (c : Int) (fr2 : Fr) (m2 : Mem) : Prop :=
  ∃ e fr' m', exNo e = some c ∧ Runs P b fr m e fr' m' ∧ Back n0 fr' m' fr2 m2

theorem turn_ok (hmix : P.follows .mixedOrders = true) {ok : List TypeId} (hok : Fair P ok) {pc : Pcs} (hpc : PSound P pc) {h : Hd} (hh : HSound P h) {ro : FuncId → Bool} {ov : Ov} {N : Nat} {st : Bool} {b : Code} (hov : OvOk P ov b)
    {L : Lq} (hL : L.wf = true) {fr : Fr} {m : Mem} (hg0 : NoGd fr) {c : Int} {r : List AV} {g : Bool} (he : evC P ok pc h ro ov N st b fr m (grabQ L) = some (g, .tup (.it .i64 c :: r))) (hg : g = true) (hr : L.ok r = true) :
    Turn P L.n0 b fr m c (L.F r) (L.M r) := by
  obtain ⟨e, fr', m', h1, _, h3⟩ := evC_ok hmix hok hpc hh (show Om.fine (g, AV.tup (.it .i64 c :: r)) from hg) b hov _ _ _ he hg0
  obtain ⟨k1, c', l, a, b', q, l', k2, k3, k4, k5, k6, k7⟩ := grabQ_ok h1
  injection k7 with _ k7
  injection k7 with k7
  injection k7 with k7 k8
  injection k7 with _ k7
  subst k7; subst k8
  exact ⟨e, fr', m', k2, h3, L.back hL k1 k3 k4 k5 k6 hr⟩

/- The state in a form that the one and the other way can be joined in. -/
inductive Kd where
  | pl
  | pt (id : Nat) (r : Sh)
  | sl (id : Nat)
  | fn (f : FuncId) (caps : List (Nat × Sh))

def encCaps : List (Nat × Sh) → List AV → Bool
  | [], [] => true
  | (id, r) :: k, .pt id' [] r' :: l => Nat.beq id id' && r.beq r' && encCaps k l
  | _, _ => false
def encK : Kd → AV → Option AV
  | .pl, v => some v
  | .pt id r, .pt id' [] r' => bif Nat.beq id id' && r.beq r' then some (.bl true) else none
  | .sl id, .sl id' [] lo len tip => bif Nat.beq id id' then some (.agg [.it .i64 lo, .it .i64 len, .bl tip]) else none
  | .fn f caps, .fn f' caps' => bif Nat.beq f f' && encCaps caps caps' then some (.bl true) else none
  | _, _ => none
def decK : Kd → AV → AV
  | .pl, v => v
  | .pt id r, _ => .pt id [] r
  | .sl id, .agg [.it _ lo, .it _ len, .bl tip] => .sl id [] lo.toNat len.toNat tip
  | .sl id, _ => .sl id [] 0 0 false
  | .fn f caps, _ => .fn f (caps.map fun x => .pt x.1 [] x.2)
def encL : List Kd → List AV → Option (List AV)
  | [], [] => some []
  | k :: ks, v :: l => match encK k v, encL ks l with
    | some e, some r => some (e :: r)
    | _, _ => none
  | _, _ => none
def decL : List Kd → List AV → List AV
  | k :: ks, v :: l => decK k v :: decL ks l
  | _, _ => []

theorem encCaps_ok : ∀ {k : List (Nat × Sh)} {l : List AV}, encCaps k l = true → (k.map fun x => AV.pt x.1 [] x.2) = l
  | [], [], _ => rfl
  | (id, r) :: k, .pt id' [] r' :: l, h => by
    simp only [encCaps, Bool.and_eq_true, Nat.beq_eq] at h
    have := Sh.beq_eq _ _ h.1.2
    simp [h.1.1, this, encCaps_ok h.2]
  | [], _ :: _, h => by cases h
  | _ :: _, [], h => by cases h
  | (id, r) :: k, a :: l, h => by
    unfold encCaps at h
    split at h <;> try (cases h; done)
    · rename_i h1 h2; cases h1
    · rename_i h1 h2
      cases h1; cases h2
      simp only [Bool.and_eq_true, Nat.beq_eq] at h
      have := Sh.beq_eq _ _ h.1.2
      simp [h.1.1, this, encCaps_ok h.2]

theorem encK_ok {k : Kd} {v e : AV} (h : encK k v = some e) : decK k e = v := by
  unfold encK at h
  split at h <;> try (cases h; done)
  · cases h; rfl
  · rename_i id r id' r'
    cases hb : Nat.beq id id' && r.beq r' with
    | false => rw [hb] at h; cases h
    | true =>
      simp only [Bool.and_eq_true, Nat.beq_eq] at hb
      have := Sh.beq_eq _ _ hb.2
      simp [decK, hb.1, this]
  · rename_i id id' lo len tip
    cases hb : Nat.beq id id' with
    | false => rw [hb] at h; cases h
    | true =>
      rw [hb, cond_true] at h
      cases h
      have := Nat.eq_of_beq_eq_true hb
      subst this
      rfl
  · rename_i f caps f' caps'
    cases hb : Nat.beq f f' && encCaps caps caps' with
    | false => rw [hb] at h; cases h
    | true =>
      simp only [Bool.and_eq_true, Nat.beq_eq] at hb
      simp [decK, hb.1, encCaps_ok hb.2]

theorem encL_ok : ∀ {ks : List Kd} {l e : List AV}, encL ks l = some e → decL ks e = l ∧ e.length = l.length
  | [], [], e, h => by cases h; exact ⟨rfl, rfl⟩
  | k :: ks, v :: l, e, h => by
    simp only [encL] at h
    split at h <;> try (cases h; done)
    rename_i a r h1 h2
    cases h
    obtain ⟨g1, g2⟩ := encL_ok h2
    exact ⟨by simp [decL, encK_ok h1, g1], by simp [g2]⟩
  | [], _ :: _, _, h => by cases h
  | _ :: _, [], _, h => by cases h

/-- A state out of its other form. -/
def Lq.dec (L : Lq) (ks : List Kd) (r : List AV) : List AV := decL ks (r.take (L.ts.length + L.mv.length)) ++ r.drop (L.ts.length + L.mv.length)

def grabE (L : Lq) (ks : List Kd) : Kc := fun e fr m => match grabQ L e fr m with
  | some (g, .tup (c :: l)) => match encL ks (l.take (L.ts.length + L.mv.length)) with
    | some x => some (g, .tup (c :: (x ++ l.drop (L.ts.length + L.mv.length))))
    | none => none
  | _ => none

theorem turnE_ok (hmix : P.follows .mixedOrders = true) {ok : List TypeId} (hok : Fair P ok) {pc : Pcs} (hpc : PSound P pc) {h : Hd} (hh : HSound P h) {ro : FuncId → Bool} {ov : Ov} {N : Nat} {st : Bool} {b : Code} (hov : OvOk P ov b)
    {L : Lq} (hL : L.wf = true) {ks : List Kd} {fr : Fr} {m : Mem} (hg0 : NoGd fr) {c : Int} {r : List AV} {g : Bool} (he : evC P ok pc h ro ov N st b fr m (grabE L ks) = some (g, .tup (.it .i64 c :: r))) (hg : g = true) (hr : L.ok (L.dec ks r) = true) :
    Turn P L.n0 b fr m c (L.F (L.dec ks r)) (L.M (L.dec ks r)) := by
  obtain ⟨e, fr', m', h1, _, h3⟩ := evC_ok hmix hok hpc hh (show Om.fine (g, AV.tup (.it .i64 c :: r)) from hg) b hov _ _ _ he hg0
  unfold grabE at h1
  split at h1 <;> try (cases h1; done)
  rename_i g' c0 l0 hq
  split at h1 <;> try (cases h1; done)
  rename_i x hx
  obtain ⟨k1, c', l, a, b', q, l', k2, k3, k4, k5, k6, k7⟩ := grabQ_ok hq
  injection k7 with _ k7
  injection k7 with k7
  injection k7 with k7 k8
  have h1 := Option.some.inj h1
  injection h1 with _ h1
  injection h1 with h1
  injection h1 with h1 h2
  rw [k7] at h1
  injection h1 with _ h1
  subst h1
  obtain ⟨e1, e2⟩ := encL_ok hx
  have hlen : (l0.take (L.ts.length + L.mv.length)).length = L.ts.length + L.mv.length := by
    have p1 := getS_len k3
    obtain ⟨p2, _, _⟩ := getV_len k4
    rw [k8]; simp [p1, p2]
  have hd : L.dec ks r = l0 := by
    unfold Lq.dec
    rw [← h2]
    rw [List.take_left' (e2.trans hlen), List.drop_left' (e2.trans hlen), e1, List.take_append_drop]
  rw [hd, k8] at hr
  have := L.back hL k1 k3 k4 k5 k6 hr
  rw [← k8, ← hd] at this
  exact ⟨e, fr', m', k2, h3, this⟩

/-- One way alone that a round ends. -/
def grabX (L : Lq) (c : Int) : Kc := fun e fr m => match exNo e with
  | some c' => bif iEq c' c then grabQ L e fr m else none
  | none => none

theorem grabX_ok {L : Lq} {c : Int} {e : Exit} {fr : Fr} {m : Mem} {r : Out} (h : grabX L c e fr m = some r) : exNo e = some c ∧ grabQ L e fr m = some r := by
  unfold grabX at h
  split at h <;> try (cases h; done)
  rename_i c' hc
  cases hb : iEq c' c with
  | false => rw [hb] at h; cases h
  | true =>
    rw [hb] at h
    exact ⟨by rw [hc, iEq_true.1 hb], h⟩

theorem turnX_ok (hmix : P.follows .mixedOrders = true) {ok : List TypeId} (hok : Fair P ok) {pc : Pcs} (hpc : PSound P pc) {h : Hd} (hh : HSound P h) {ro : FuncId → Bool} {ov : Ov} {N : Nat} {st : Bool} {b : Code} (hov : OvOk P ov b)
    {L : Lq} (hL : L.wf = true) {fr : Fr} {m : Mem} (hg0 : NoGd fr) {c : Int} {r : List AV} {g : Bool} (he : evC P ok pc h ro ov N st b fr m (grabX L c) = some (g, .tup (.it .i64 c :: r))) (hg : g = true) (hr : L.ok r = true) :
    Turn P L.n0 b fr m c (L.F r) (L.M r) := by
  obtain ⟨e, fr', m', h1, _, h3⟩ := evC_ok hmix hok hpc hh (show Om.fine (g, AV.tup (.it .i64 c :: r)) from hg) b hov _ _ _ he hg0
  obtain ⟨hx, h1⟩ := grabX_ok h1
  obtain ⟨k1, c', l, a, b', q, l', k2, k3, k4, k5, k6, k7⟩ := grabQ_ok h1
  injection k7 with _ k7
  injection k7 with k7
  injection k7 with _ k8
  subst k8
  exact ⟨e, fr', m', hx, h3, L.back hL k1 k3 k4 k5 k6 hr⟩

theorem Lq.noGd {L : Lq} {l : List AV} (h : ∀ a ∈ l.take (L.ts.length + L.mv.length), isGd a = false) : NoGd (L.F l) := fun t t' w v hv => by
  obtain ⟨k, _, k2⟩ := mkF_get hv
  have := h _ (List.mem_of_getElem? k2)
  cases this

/- Round by round, over any kind of state. -/
def iterS {σ : Type} (nx : σ → Int × σ) : Nat → σ → Option (Int × σ)
  | 0, _ => none
  | n + 1, s => if (nx s).1 = 0 then iterS nx n (nx s).2 else some (nx s)

theorem iterS_chain {σ : Type} {b : Code} {n0 : Nat} {F : σ → Fr} {M : σ → Mem} {nx : σ → Int × σ} {inv : σ → Prop} (hs : ∀ s, inv s → Turn P n0 b (F s) (M s) (nx s).1 (F (nx s).2) (M (nx s).2) ∧ ((nx s).1 = 0 → inv (nx s).2)) :
    ∀ (N : Nat) (s : σ) (c : Int) (r : σ), inv s → iterS nx N s = some (c, r) → ∃ e, exNo e = some c ∧ Chain P n0 b N (F s) (M s) e (F r) (M r)
  | 0, _, _, _, _, h => by cases h
  | N + 1, l, c, r, hi, h => by
    obtain ⟨⟨e, fr', m', k1, k2, k3⟩, k4⟩ := hs l hi
    unfold iterS at h
    by_cases h0 : (nx l).1 = 0
    · rw [if_pos h0] at h
      obtain ⟨e2, g1, g2⟩ := iterS_chain hs N _ c r (k4 h0) h
      rw [h0] at k1
      rw [exNo_zero k1] at k2
      exact ⟨e2, g1, .step k2 k3 g2⟩
    · rw [if_neg h0] at h
      have hx := Option.some.inj h
      have hc : (nx l).1 = c := by rw [hx]
      have hr : (nx l).2 = r := by rw [hx]
      subst hc; subst hr
      exact ⟨e, k1, .last k2 (exNo_ne k1 h0) k3⟩

/-- A loop in its block, entered in a state that 'Back' brings into form. -/
theorem loopS_block {σ : Type} {B : Nat} {b : Code} {n0 : Nat} {F : σ → Fr} {M : σ → Mem} {nx : σ → Int × σ} {inv : σ → Prop}
    (hs : ∀ s, inv s → Turn P n0 b (F s) (M s) (nx s).1 (F (nx s).2) (M (nx s).2) ∧ ((nx s).1 = 0 → inv (nx s).2))
    {fr : Fr} {m : Mem} (hm : m.n = n0) {s : σ} (hb : Back n0 fr m (F s) (M s)) (hi : inv s) {N : Nat} {c : Int} {r : σ} (hit : iterS nx N s = some (c, r)) {e : Exit} (he : exNo e = some c) :
    Runs P (.block B (.loop b)) fr m (exBlock B e) (F r) (M r) := by
  obtain ⟨e', k1, k2⟩ := iterS_chain hs N _ c r hi hit
  rw [exNo_inj he k1]
  exact Runs.block (k2.runs hm hb)
end
end Go.Ev
