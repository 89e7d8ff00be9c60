/-
  The evaluator's values: shapes, abstract values, cells of a value, places in it. Own text; nothing of a program.
-/
import Derived.WalkKit
namespace Go.Ev

/-- The shape of a variable: what its cells are. -/
inductive Sh where
  | int (k : IntKind)
  | bool
  | str
  | ref
  | agg (l : List Sh)
  | arr (n : Nat) (s : Sh)

mutual
def Sh.size : Sh → Nat
  | .int _ => 1
  | .bool => 1
  | .str => 1
  | .ref => 1
  | .agg l => Sh.sizes l
  | .arr n s => n * s.size
def Sh.sizes : List Sh → Nat
  | [] => 0
  | s :: r => s.size + Sh.sizes r
end

theorem Sh.sizes_append (a b : List Sh) : Sh.sizes (a ++ b) = Sh.sizes a + Sh.sizes b := by
  induction a with
  | nil => simp [Sh.sizes]
  | cons x a ih => simp [Sh.sizes, ih]; omega

theorem Sh.sizes_split (l : List Sh) (k : Nat) (s : Sh) (h : l[k]? = some s) :
    Sh.sizes l = Sh.sizes (l.take k) + s.size + Sh.sizes (l.drop (k + 1)) := by
  induction l generalizing k with
  | nil => simp at h
  | cons x l ih =>
    cases k with
    | zero => simp at h; subst h; simp [Sh.sizes]
    | succ k => simp at h; simp [Sh.sizes, ih k h]; omega

mutual
def Sh.beq : Sh → Sh → Bool
  | .int k, .int k' => decide (k = k')
  | .bool, .bool => true
  | .str, .str => true
  | .ref, .ref => true
  | .agg l, .agg m => Sh.beqs l m
  | .arr n s, .arr m t => n == m && s.beq t
  | _, _ => false
def Sh.beqs : List Sh → List Sh → Bool
  | [], [] => true
  | a :: l, b :: m => a.beq b && Sh.beqs l m
  | _, _ => false
end

mutual
theorem Sh.beq_eq : ∀ (a b : Sh), a.beq b = true → a = b
  | .int k, b, h => by cases b <;> simp_all [Sh.beq]
  | .bool, b, h => by cases b <;> simp_all [Sh.beq]
  | .str, b, h => by cases b <;> simp_all [Sh.beq]
  | .ref, b, h => by cases b <;> simp_all [Sh.beq]
  | .agg l, b, h => by
    cases b <;> simp [Sh.beq] at h
    rename_i m
    rw [Sh.beqs_eq l m h]
  | .arr n s, b, h => by
    cases b <;> simp [Sh.beq] at h
    rename_i m t
    rw [h.1, Sh.beq_eq s t h.2]
theorem Sh.beqs_eq : ∀ (l m : List Sh), Sh.beqs l m = true → l = m
  | [], m, h => by cases m <;> simp_all [Sh.beqs]
  | a :: l, m, h => by
    cases m with
    | nil => simp [Sh.beqs] at h
    | cons b m =>
      simp [Sh.beqs] at h
      rw [Sh.beq_eq a b h.1, Sh.beqs_eq l m h.2]
end

/-- A step into a variable. -/
inductive PE where
  | fld (k : Nat)
  | idx (i : Nat)

/-- The place of a path in a variable of a shape: the shape there, the cells before it. -/
def PathTo : Sh → List PE → Sh → Nat → Prop
  | s, [], t, o => s = t ∧ o = 0
  | .agg l, .fld k :: r, t, o => ∃ s o', l[k]? = some s ∧ PathTo s r t o' ∧ o = Sh.sizes (l.take k) + o'
  | .arr n s, .idx i :: r, t, o => ∃ o', i < n ∧ PathTo s r t o' ∧ o = i * s.size + o'
  | _, _, _, _ => False

theorem PathTo.fits {s t : Sh} {p : List PE} {o : Nat} (h : PathTo s p t o) : o + t.size ≤ s.size := by
  induction p generalizing s o with
  | nil => obtain ⟨rfl, rfl⟩ := h; simp
  | cons e r ih =>
    cases s <;> cases e <;> try exact h.elim
    · rename_i l k
      obtain ⟨s, o', hs, hp, rfl⟩ := h
      have := ih hp
      have := Sh.sizes_split l k s hs
      simp only [Sh.size]; omega
    · rename_i n s i
      obtain ⟨o', hi, hp, rfl⟩ := h
      have h1 := ih hp
      simp only [Sh.size]
      have : (i + 1) * s.size ≤ n * s.size := Nat.mul_le_mul_right _ hi
      have h2 : (i + 1) * s.size = i * s.size + s.size := by rw [Nat.add_mul]; simp
      omega

theorem PathTo.unique {s : Sh} {p : List PE} {t t' : Sh} {o o' : Nat} (h : PathTo s p t o) (h' : PathTo s p t' o') : t = t' ∧ o = o' := by
  induction p generalizing s o o' with
  | nil => obtain ⟨rfl, rfl⟩ := h; obtain ⟨rfl, rfl⟩ := h'; exact ⟨rfl, rfl⟩
  | cons e r ih =>
    cases s <;> cases e <;> try exact h.elim
    · obtain ⟨s, o1, hs, hp, rfl⟩ := h
      obtain ⟨s', o2, hs', hp', rfl⟩ := h'
      rw [hs] at hs'; cases hs'
      obtain ⟨rfl, rfl⟩ := ih hp hp'
      exact ⟨rfl, rfl⟩
    · obtain ⟨o1, _, hp, rfl⟩ := h
      obtain ⟨o2, _, hp', rfl⟩ := h'
      obtain ⟨rfl, rfl⟩ := ih hp hp'
      exact ⟨rfl, rfl⟩

theorem PathTo.snoc_fld {s : Sh} {p : List PE} {l : List Sh} {o k : Nat} {t : Sh} (h : PathTo s p (.agg l) o) (hk : l[k]? = some t) :
    PathTo s (p ++ [.fld k]) t (o + Sh.sizes (l.take k)) := by
  induction p generalizing s o with
  | nil => obtain ⟨rfl, rfl⟩ := h; exact ⟨t, 0, hk, ⟨rfl, rfl⟩, by omega⟩
  | cons e r ih =>
    cases s <;> cases e <;> try exact h.elim
    · obtain ⟨s, o1, hs, hp, rfl⟩ := h
      exact ⟨s, _, hs, ih hp, by omega⟩
    · obtain ⟨o1, hi, hp, rfl⟩ := h
      exact ⟨_, hi, ih hp, by omega⟩

theorem PathTo.snoc_idx {s : Sh} {p : List PE} {n : Nat} {o i : Nat} {t : Sh} (h : PathTo s p (.arr n t) o) (hi : i < n) :
    PathTo s (p ++ [.idx i]) t (o + i * t.size) := by
  induction p generalizing s o with
  | nil => obtain ⟨rfl, rfl⟩ := h; exact ⟨0, hi, ⟨rfl, rfl⟩, by omega⟩
  | cons e r ih =>
    cases s <;> cases e <;> try exact h.elim
    · obtain ⟨s, o1, hs, hp, rfl⟩ := h
      exact ⟨s, _, hs, ih hp, by omega⟩
    · obtain ⟨o1, hi', hp, rfl⟩ := h
      exact ⟨_, hi', ih hp, by omega⟩

/-- The shape at a path (looked up by computation). -/
def Sh.at : Sh → List PE → Option Sh
  | s, [] => some s
  | .agg l, .fld k :: r => match l[k]? with | some s => s.at r | none => none
  | .arr _ s, .idx _ :: r => s.at r
  | _, _ => none

theorem PathTo.at {s t : Sh} {p : List PE} {o : Nat} (h : PathTo s p t o) : s.at p = some t := by
  induction p generalizing s o with
  | nil => obtain ⟨rfl, rfl⟩ := h; simp [Sh.at]
  | cons e r ih =>
    cases s <;> cases e <;> try exact h.elim
    · obtain ⟨s, o1, hs, hp, rfl⟩ := h
      simp [Sh.at, hs, ih hp]
    · obtain ⟨o1, _, hp, rfl⟩ := h
      simp [Sh.at, ih hp]

/-- An abstract value. -/
inductive AV where
  | un
  | bl (x : Bool)
  | it (k : IntKind) (n : Int)
  | st (l : List UInt8)
  | nl
  | pt (id : Nat) (path : List PE) (root : Sh)
  | nsl
  | sl (id : Nat) (path : List PE) (lo len : Nat) (tip : Bool)
  | nfn
  | fn (f : FuncId) (caps : List AV)
  | nmp
  | mp (id : Nat)
  | nif
  | agg (l : List AV)
  | arr (n : Nat) (s : Sh) (f : Nat → AV)
  | tup (l : List AV)
  | gd (t : Nat) (want : Bool) (v : AV)

instance : Inhabited AV := ⟨.un⟩

mutual
def AV.shape : AV → Sh
  | .bl _ => .bool
  | .it k _ => .int k
  | .st _ => .str
  | .agg l => .agg (AV.shapes l)
  | .arr n s _ => .arr n s
  | .un => .ref
  | .nl => .ref
  | .pt _ _ _ => .ref
  | .nsl => .ref
  | .sl _ _ _ _ _ => .ref
  | .nfn => .ref
  | .fn _ _ => .ref
  | .nmp => .ref
  | .mp _ => .ref
  | .nif => .ref
  | .tup _ => .ref
  | .gd _ _ _ => .ref
def AV.shapes : List AV → List Sh
  | [] => []
  | a :: l => a.shape :: AV.shapes l
end

theorem AV.shapes_eq (l : List AV) : AV.shapes l = l.map AV.shape := by
  induction l with
  | nil => rfl
  | cons a l ih => simp [AV.shapes, ih]

mutual
/-- The cells of a value, each by its scalar. -/
def AV.flat : AV → List AV
  | .agg l => AV.flats l
  | .arr n _ f => (List.range n).flatMap fun i => (f i).flat
  | .un => [.un]
  | .bl x => [.bl x]
  | .it k n => [.it k n]
  | .st l => [.st l]
  | .nl => [.nl]
  | .pt id path root => [.pt id path root]
  | .nsl => [.nsl]
  | .sl id path lo len tip => [.sl id path lo len tip]
  | .nfn => [.nfn]
  | .fn f caps => [.fn f caps]
  | .nmp => [.nmp]
  | .mp id => [.mp id]
  | .nif => [.nif]
  | .tup l => [.tup l]
  | .gd t w v => [.gd t w v]
def AV.flats : List AV → List AV
  | [] => []
  | a :: l => a.flat ++ AV.flats l
end

mutual
/-- The elements of each array are alike. -/
def AV.wf : AV → Prop
  | .agg l => AV.wfs l
  | .arr _ s f => ∀ i, (f i).wf ∧ (f i).shape = s
  | .un => True
  | .bl _ => True
  | .it _ _ => True
  | .st _ => True
  | .nl => True
  | .pt _ _ _ => True
  | .nsl => True
  | .sl _ _ _ _ _ => True
  | .nfn => True
  | .fn _ _ => True
  | .nmp => True
  | .mp _ => True
  | .nif => True
  | .tup _ => True
  | .gd _ _ _ => True
def AV.wfs : List AV → Prop
  | [] => True
  | a :: l => a.wf ∧ AV.wfs l
end

theorem AV.wfs_iff (l : List AV) : AV.wfs l ↔ ∀ a ∈ l, a.wf := by
  induction l with
  | nil => simp [AV.wfs]
  | cons a l ih => simp [AV.wfs, ih]

theorem AV.flats_append (l m : List AV) : AV.flats (l ++ m) = AV.flats l ++ AV.flats m := by
  induction l with
  | nil => rfl
  | cons a l ih => simp [AV.flats, ih]

theorem flatMap_len {α : Type} (n z : Nat) (g : Nat → List α) (h : ∀ i, i < n → (g i).length = z) : ((List.range n).flatMap g).length = n * z := by
  induction n with
  | zero => simp
  | succ n ih =>
    rw [List.range_succ, List.flatMap_append, List.length_append, ih fun i hi => h i (by omega)]
    simp [h n (by omega), Nat.add_mul]

theorem flatMap_at {α : Type} (n z : Nat) (g : Nat → List α) (h : ∀ i, i < n → (g i).length = z) (i r : Nat) (hi : i < n) (hr : r < z) :
    ((List.range n).flatMap g)[i * z + r]? = (g i)[r]? := by
  induction n with
  | zero => omega
  | succ n ih =>
    rw [List.range_succ, List.flatMap_append]
    have hl := flatMap_len n z g fun i hi => h i (by omega)
    rcases Nat.lt_or_ge i n with hin | hin
    · have h1 : i * z + r < n * z := by
        have : (i + 1) * z ≤ n * z := Nat.mul_le_mul_right _ hin
        rw [Nat.add_mul] at this; omega
      rw [List.getElem?_append_left (by omega)]
      exact ih (fun i hi => h i (by omega)) hin
    · have : i = n := by omega
      subst this
      rw [List.getElem?_append_right (by omega), hl]
      simp

mutual
theorem AV.flat_len : ∀ (a : AV), a.wf → a.flat.length = a.shape.size
  | .agg l, h => by
    simp only [AV.flat, AV.shape, Sh.size]
    exact AV.flats_len l h
  | .arr n s f, h => by
    simp only [AV.flat, AV.shape, Sh.size]
    exact flatMap_len n s.size _ fun i _ => by rw [AV.flat_len (f i) (h i).1, (h i).2]
  | .un, _ => rfl
  | .bl _, _ => rfl
  | .it _ _, _ => rfl
  | .st _, _ => rfl
  | .nl, _ => rfl
  | .pt _ _ _, _ => rfl
  | .nsl, _ => rfl
  | .sl _ _ _ _ _, _ => rfl
  | .nfn, _ => rfl
  | .fn _ _, _ => rfl
  | .nmp, _ => rfl
  | .mp _, _ => rfl
  | .nif, _ => rfl
  | .tup _, _ => rfl
  | .gd _ _ _, _ => rfl
theorem AV.flats_len : ∀ (l : List AV), AV.wfs l → (AV.flats l).length = Sh.sizes (AV.shapes l)
  | [], _ => rfl
  | a :: l, h => by
    simp only [AV.flats, AV.shapes, Sh.sizes, List.length_append]
    rw [AV.flat_len a h.1, AV.flats_len l h.2]
end

/-- The cells of a part of a list of values. -/
theorem AV.flats_at (l : List AV) (hw : AV.wfs l) (k : Nat) (a : AV) (h : l[k]? = some a) (r : Nat) (hr : r < a.shape.size) :
    (AV.flats l)[Sh.sizes ((AV.shapes l).take k) + r]? = a.flat[r]? := by
  induction l generalizing k with
  | nil => simp at h
  | cons b l ih =>
    simp only [AV.flats, AV.shapes]
    have hb := AV.flat_len b hw.1
    cases k with
    | zero =>
      simp at h; subst h
      simp only [List.take_zero, Sh.sizes, Nat.zero_add]
      rw [List.getElem?_append_left (by omega)]
    | succ k =>
      simp at h
      simp only [List.take_succ_cons, Sh.sizes]
      rw [List.getElem?_append_right (by omega), ← ih hw.2 k h]
      congr 1; omega

/-- What lies at a path. -/
def AV.get : List PE → AV → Option AV
  | [], a => some a
  | .fld k :: r, .agg l => match l[k]? with | some a => AV.get r a | none => none
  | .idx i :: r, .arr _ _ f => AV.get r (f i)
  | _, _ => none

theorem AV.shapes_get (l : List AV) (k : Nat) : (AV.shapes l)[k]? = (l[k]?).map AV.shape := by
  rw [AV.shapes_eq, List.getElem?_map]

theorem AV.get_ok {a : AV} {p : List PE} {t : Sh} {o : Nat} (hw : a.wf) (h : PathTo a.shape p t o) :
    ∃ b, AV.get p a = some b ∧ b.wf ∧ b.shape = t ∧ ∀ r, r < t.size → b.flat[r]? = a.flat[o + r]? := by
  induction p generalizing a o with
  | nil => obtain ⟨rfl, rfl⟩ := h; exact ⟨a, rfl, hw, rfl, fun r _ => by rw [Nat.zero_add]⟩
  | cons e r ih =>
    cases a <;> cases e <;> try exact h.elim
    · rename_i l k
      simp only [AV.shape] at h
      obtain ⟨s, o', hs, hp, rfl⟩ := h
      rw [AV.shapes_get] at hs
      cases hl : l[k]? with
      | none => simp [hl] at hs
      | some c =>
        simp [hl] at hs; subst hs
        have hwc : c.wf := (AV.wfs_iff l).1 hw c (List.mem_of_getElem? hl)
        obtain ⟨b, hb, hbw, hbs, hbf⟩ := ih hwc hp
        refine ⟨b, by simp [AV.get, hl, hb], hbw, hbs, fun r hr => ?_⟩
        have hfit := hp.fits
        rw [hbf r hr, AV.flat, Nat.add_assoc, AV.flats_at l hw k c hl (o' + r) (by omega)]
    · rename_i n s f i
      simp only [AV.shape] at h
      obtain ⟨o', hi, hp, rfl⟩ := h
      have hwi := hw i
      rw [← hwi.2] at hp
      obtain ⟨b, hb, hbw, hbs, hbf⟩ := ih hwi.1 hp
      refine ⟨b, by simp [AV.get, hb], hbw, hbs, fun r hr => ?_⟩
      have hfit := hp.fits
      rw [hbf r hr, AV.flat, Nat.add_assoc]
      refine (flatMap_at n s.size (fun i => (f i).flat) (fun j _ => ?_) i (o' + r) hi ?_).symm
      · rw [AV.flat_len _ (hw j).1, (hw j).2]
      · rw [hwi.2] at hfit; omega

mutual
/-- One of two values of one shape, part by part. -/
def sel (c : Bool) : AV → AV → AV
  | .it k x, .it _ y => .it k (bif c then x else y)
  | .bl x, .bl y => .bl (bif c then x else y)
  | .st x, .st y => .st (bif c then x else y)
  | .agg l, .agg m => .agg (sels c l m)
  | .arr n s f, .arr _ _ g => .arr n s fun i => sel c (f i) (g i)
  | x, y => bif c then x else y
def sels (c : Bool) : List AV → List AV → List AV
  | a :: l, b :: m => sel c a b :: sels c l m
  | _, _ => []
end

theorem flatMap_same {α : Type} (n : Nat) (g g' : Nat → List α) (h : ∀ i, i < n → g i = g' i) : (List.range n).flatMap g = (List.range n).flatMap g' := by
  induction n with
  | zero => rfl
  | succ n ih => rw [List.range_succ, List.flatMap_append, List.flatMap_append, ih fun i hi => h i (by omega)]; simp [h n (by omega)]

theorem sel_plain (c : Bool) (x y : AV) (hx : x.wf) (hy : y.wf) (h : x.shape = y.shape) (hs : sel c x y = bif c then x else y) :
    (sel c x y).wf ∧ (sel c x y).shape = x.shape ∧ (sel c x y).flat = bif c then x.flat else y.flat := by
  rw [hs]; cases c <;> simp_all

mutual
theorem sel_ok (c : Bool) : ∀ (x y : AV), x.wf → y.wf → x.shape = y.shape →
    (sel c x y).wf ∧ (sel c x y).shape = x.shape ∧ (sel c x y).flat = bif c then x.flat else y.flat
  | .it k x, y, hx, hy, h => by
    cases y <;> simp [AV.shape] at h
    subst h; cases c <;> simp [sel, AV.wf, AV.shape, AV.flat]
  | .bl x, y, hx, hy, h => by cases y <;> simp [AV.shape] at h <;> cases c <;> simp_all [sel, AV.wf, AV.shape, AV.flat]
  | .st x, y, hx, hy, h => by cases y <;> simp [AV.shape] at h <;> cases c <;> simp_all [sel, AV.wf, AV.shape, AV.flat]
  | .agg l, y, hx, hy, h => by
    cases y <;> simp only [AV.shape] at h <;> try (simp at h; done)
    rename_i m
    injection h with h
    obtain ⟨h1, h2, h3⟩ := sels_ok c l m hx hy h
    simp only [sel, AV.wf, AV.shape, AV.flat]
    exact ⟨h1, by rw [h2], h3⟩
  | .arr n s f, y, hx, hy, h => by
    cases y <;> simp only [AV.shape] at h <;> try (simp at h; done)
    rename_i m t g
    injection h with h1 h2
    subst h1; subst h2
    have key : ∀ i, _ := fun i => sel_ok c (f i) (g i) (hx i).1 (hy i).1 ((hx i).2.trans (hy i).2.symm)
    refine ⟨fun i => ⟨(key i).1, (key i).2.1.trans (hx i).2⟩, rfl, ?_⟩
    simp only [sel, AV.flat]
    cases c
    · exact flatMap_same n _ _ fun i _ => by simpa using (key i).2.2
    · exact flatMap_same n _ _ fun i _ => by simpa using (key i).2.2
  | .un, y, hx, hy, h => sel_plain c _ y hx hy h rfl
  | .nl, y, hx, hy, h => sel_plain c _ y hx hy h rfl
  | .pt _ _ _, y, hx, hy, h => sel_plain c _ y hx hy h rfl
  | .nsl, y, hx, hy, h => sel_plain c _ y hx hy h rfl
  | .sl _ _ _ _ _, y, hx, hy, h => sel_plain c _ y hx hy h rfl
  | .nfn, y, hx, hy, h => sel_plain c _ y hx hy h rfl
  | .fn _ _, y, hx, hy, h => sel_plain c _ y hx hy h rfl
  | .nmp, y, hx, hy, h => sel_plain c _ y hx hy h rfl
  | .mp _, y, hx, hy, h => sel_plain c _ y hx hy h rfl
  | .nif, y, hx, hy, h => sel_plain c _ y hx hy h rfl
  | .tup _, y, hx, hy, h => sel_plain c _ y hx hy h rfl
  | .gd _ _ _, y, hx, hy, h => sel_plain c _ y hx hy h rfl
theorem sels_ok (c : Bool) : ∀ (l m : List AV), AV.wfs l → AV.wfs m → AV.shapes l = AV.shapes m →
    AV.wfs (sels c l m) ∧ AV.shapes (sels c l m) = AV.shapes l ∧ AV.flats (sels c l m) = bif c then AV.flats l else AV.flats m
  | [], m, _, _, h => by cases m <;> simp_all [AV.shapes, sels, AV.wfs, AV.flats]
  | a :: l, m, hl, hm, h => by
    cases m with
    | nil => simp [AV.shapes] at h
    | cons b m =>
      simp only [AV.shapes, List.cons.injEq] at h
      obtain ⟨a1, a2, a3⟩ := sel_ok c a b hl.1 hm.1 h.1
      obtain ⟨b1, b2, b3⟩ := sels_ok c l m hl.2 hm.2 h.2
      refine ⟨⟨a1, b1⟩, by simp only [sels, AV.shapes, a2, b2], ?_⟩
      simp only [sels, AV.flats, a3, b3]
      cases c <;> rfl
end

/-- The value with another part at a path. -/
def AV.set : List PE → AV → AV → Option AV
  | [], v, _ => some v
  | .fld k :: r, v, .agg l => match l[k]? with
    | some a => match AV.set r v a with | some a' => some (.agg (l.set k a')) | none => none
    | none => none
  | .idx i :: r, v, .arr n s f => match AV.set r v (f i) with | some a' => some (.arr n s fun j => sel (j == i) a' (f j)) | none => none
  | _, _, _ => none

theorem AV.flats_set (l : List AV) (hw : AV.wfs l) (k : Nat) (a a' : AV) (h : l[k]? = some a) (ha' : a'.wf) (hs : a'.shape = a.shape) (r : Nat) :
    (AV.flats (l.set k a'))[r]? = if Sh.sizes ((AV.shapes l).take k) ≤ r ∧ r < Sh.sizes ((AV.shapes l).take k) + a.shape.size then a'.flat[r - Sh.sizes ((AV.shapes l).take k)]? else (AV.flats l)[r]? := by
  induction l generalizing k r with
  | nil => simp at h
  | cons b l ih =>
    have hb := AV.flat_len b hw.1
    have hl' := AV.flat_len a' ha'
    cases k with
    | zero =>
      simp at h; subst h
      simp only [List.set_cons_zero, AV.flats, List.take_zero, Sh.sizes, Nat.zero_add, Nat.zero_le, true_and, Nat.sub_zero]
      rw [hs] at hl'
      by_cases hr : r < b.shape.size
      · rw [if_pos hr, List.getElem?_append_left (by omega)]
      · rw [if_neg hr, List.getElem?_append_right (by omega), List.getElem?_append_right (by omega), hb, hl']
    | succ k =>
      simp at h
      simp only [List.set_cons_succ, AV.flats, AV.shapes, List.take_succ_cons, Sh.sizes]
      by_cases hr : r < b.shape.size
      · rw [List.getElem?_append_left (by omega), List.getElem?_append_left (by omega), if_neg (by omega)]
      · rw [List.getElem?_append_right (by omega), List.getElem?_append_right (by omega), ih hw.2 k h, hb]
        by_cases h1 : Sh.sizes ((AV.shapes l).take k) ≤ r - b.shape.size ∧ r - b.shape.size < Sh.sizes ((AV.shapes l).take k) + a.shape.size
        · rw [if_pos h1, if_pos (by omega)]; congr 1; omega
        · rw [if_neg h1, if_neg (by omega)]

theorem AV.wfs_set (l : List AV) (hw : AV.wfs l) (k : Nat) (a' : AV) (ha' : a'.wf) : AV.wfs (l.set k a') := by
  rw [AV.wfs_iff] at *
  intro x hx
  rcases List.mem_or_eq_of_mem_set hx with h | h
  · exact hw x h
  · subst h; exact ha'

theorem AV.shapes_set (l : List AV) (k : Nat) (a a' : AV) (h : l[k]? = some a) (hs : a'.shape = a.shape) : AV.shapes (l.set k a') = AV.shapes l := by
  rw [AV.shapes_eq, AV.shapes_eq, List.map_set, hs]
  apply List.ext_getElem?
  intro i
  rw [List.getElem?_set]
  by_cases hik : k = i
  · subst hik
    have := List.getElem?_eq_some_iff.1 h
    obtain ⟨hlt, he⟩ := this
    simp [hlt, he]
  · simp [hik]

theorem AV.set_ok {a v : AV} {p : List PE} {t : Sh} {o : Nat} (hw : a.wf) (h : PathTo a.shape p t o) (hv : v.wf) (hs : v.shape = t) :
    ∃ a', AV.set p v a = some a' ∧ a'.wf ∧ a'.shape = a.shape ∧ ∀ r, a'.flat[r]? = if o ≤ r ∧ r < o + t.size then v.flat[r - o]? else a.flat[r]? := by
  induction p generalizing a o with
  | nil =>
    obtain ⟨rfl, rfl⟩ := h
    refine ⟨v, rfl, hv, hs, fun r => ?_⟩
    have h1 := AV.flat_len v hv
    have h2 := AV.flat_len a hw
    by_cases hr : r < a.shape.size
    · rw [if_pos (by omega)]; rfl
    · rw [if_neg (by omega), List.getElem?_eq_none (by rw [h1, hs]; omega), List.getElem?_eq_none (by omega)]
  | cons e r ih =>
    cases a <;> cases e <;> try exact h.elim
    · rename_i l k
      simp only [AV.shape] at h
      obtain ⟨s, o', hs', hp, rfl⟩ := h
      rw [AV.shapes_get] at hs'
      cases hl : l[k]? with
      | none => simp [hl] at hs'
      | some c =>
        simp [hl] at hs'; subst hs'
        have hwc : c.wf := (AV.wfs_iff l).1 hw c (List.mem_of_getElem? hl)
        obtain ⟨c', hc, hcw, hcs, hcf⟩ := ih hwc hp
        have hfit := hp.fits
        refine ⟨.agg (l.set k c'), by simp [AV.set, hl, hc], AV.wfs_set l hw k c' hcw, by simp only [AV.shape, AV.shapes_set l k c c' hl hcs], fun q => ?_⟩
        simp only [AV.flat]
        rw [AV.flats_set l hw k c c' hl hcw hcs]
        by_cases h1 : Sh.sizes ((AV.shapes l).take k) ≤ q ∧ q < Sh.sizes ((AV.shapes l).take k) + c.shape.size
        · rw [if_pos h1, hcf]
          by_cases h2 : o' ≤ q - Sh.sizes ((AV.shapes l).take k) ∧ q - Sh.sizes ((AV.shapes l).take k) < o' + t.size
          · rw [if_pos h2, if_pos (by omega)]; congr 1; omega
          · rw [if_neg h2, if_neg (by omega)]
            have := AV.flats_at l hw k c hl (q - Sh.sizes ((AV.shapes l).take k)) (by omega)
            rw [← this]; congr 1; omega
        · rw [if_neg h1, if_neg (by omega)]
    · rename_i n s f i
      simp only [AV.shape] at h
      obtain ⟨o', hi, hp, rfl⟩ := h
      have hwi := hw i
      have hfit := hp.fits
      rw [← hwi.2] at hp
      obtain ⟨c', hc, hcw, hcs, hcf⟩ := ih hwi.1 hp
      have key : ∀ j, (sel (j == i) c' (f j)).wf ∧ (sel (j == i) c' (f j)).shape = s ∧ (sel (j == i) c' (f j)).flat = bif j == i then c'.flat else (f j).flat := fun j => by
        obtain ⟨k1, k2, k3⟩ := sel_ok (j == i) c' (f j) hcw (hw j).1 (by rw [hcs, hwi.2, (hw j).2])
        exact ⟨k1, k2.trans (hcs.trans hwi.2), k3⟩
      refine ⟨.arr n s fun j => sel (j == i) c' (f j), by simp [AV.set, hc], fun j => ⟨(key j).1, (key j).2.1⟩, rfl, fun q => ?_⟩
      simp only [AV.flat]
      rcases Nat.lt_or_ge q (n * s.size) with hq | hq
      · have hz : 0 < s.size := by
          rcases Nat.eq_zero_or_pos s.size with h0 | h0
          · rw [h0] at hq; simp at hq
          · exact h0
        have hdm := Nat.div_add_mod q s.size
        have hj : q / s.size < n := Nat.div_lt_of_lt_mul (by rw [Nat.mul_comm]; exact hq)
        have hr : q % s.size < s.size := Nat.mod_lt _ hz
        generalize q / s.size = j at *
        generalize q % s.size = r' at *
        rw [Nat.mul_comm] at hdm
        subst hdm
        rw [flatMap_at n s.size (fun j => (sel (j == i) c' (f j)).flat) (fun j _ => by rw [AV.flat_len _ (key j).1, (key j).2.1]) j r' hj hr,
          flatMap_at n s.size (fun j => (f j).flat) (fun j _ => by rw [AV.flat_len _ (hw j).1, (hw j).2]) j r' hj hr, (key j).2.2]
        by_cases hji : j = i
        · subst hji
          simp only [beq_self_eq_true, cond_true]
          rw [hcf]
          by_cases h2 : o' ≤ r' ∧ r' < o' + t.size
          · rw [if_pos h2, if_pos (by omega)]; congr 1; omega
          · rw [if_neg h2, if_neg (by omega)]
        · have : (j == i) = false := by simpa using hji
          rw [this]
          simp only [cond_false]
          rw [if_neg]
          intro ⟨h1, h2⟩
          rcases Nat.lt_or_gt_of_ne hji with hlt | hgt
          · have : (j + 1) * s.size ≤ i * s.size := Nat.mul_le_mul_right _ hlt
            rw [Nat.add_mul] at this; omega
          · have : (i + 1) * s.size ≤ j * s.size := Nat.mul_le_mul_right _ hgt
            rw [Nat.add_mul] at this; omega
      · have h1 : i * s.size + o' + t.size ≤ n * s.size := by
          have : (i + 1) * s.size ≤ n * s.size := Nat.mul_le_mul_right _ hi
          rw [Nat.add_mul] at this; omega
        rw [if_neg (by omega)]
        rw [List.getElem?_eq_none, List.getElem?_eq_none]
        · rw [flatMap_len n s.size _ fun j _ => by rw [AV.flat_len _ (hw j).1, (hw j).2]]; exact hq
        · rw [flatMap_len n s.size _ fun j _ => by rw [AV.flat_len _ (key j).1, (key j).2.1]]; exact hq
end Go.Ev
