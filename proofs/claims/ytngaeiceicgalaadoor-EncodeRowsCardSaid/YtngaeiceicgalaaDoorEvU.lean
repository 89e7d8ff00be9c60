/-
  Arguments that have come in and hold no memory: what they are. Own text; nothing of a program.
-/
import Derived.Test.YtngaeiceicgalaaDoorEvT
import Derived.ProofKit
namespace Go.Ev
section
variable {P : Program} {ρ : Ren}

/- Shapes by types. -/
def shFs (P : Program) (sh : TypeId → Option Sh) : List Field → Nat → Option (List Sh)
  | [], _ => some []
  | f :: r, o => match sh f.type with
    | some s => bif Nat.beq f.offset o && Nat.beq s.size (P.cellsOf f.type) then (match shFs P sh r (o + s.size) with | some l => some (s :: l) | none => none) else none
    | none => none

def shT (P : Program) : Nat → TypeId → Option Sh
  | 0, _ => none
  | d + 1, t => match P.underlying t with
    | some .bool => some .bool
    | some (.int k) => some (.int k)
    | some .string => some .str
    | some (.struct fs) => match shFs P (shT P d) fs.toList 0 with
      | some l => bif Nat.beq (Sh.sizes l) (P.cellsOf t) then some (.agg l) else none
      | none => none
    | some (.array n e) => match shT P d e with
      | some s => bif Nat.beq s.size (P.cellsOf e) && Nat.beq (n * s.size) (P.cellsOf t) then some (.arr n s) else none
      | none => none
    | _ => none

mutual
/-- Numbers are within their kinds' bounds. -/
def inR : AV → Prop
  | .it k n => k.min ≤ n ∧ n ≤ k.max
  | .agg l => inRs l
  | .arr _ _ f => ∀ i, inR (f i)
  | .st l => l.length ≤ maxLen
  | _ => True
def inRs : List AV → Prop
  | [] => True
  | a :: l => inR a ∧ inRs l
end

/-- A value that is of a shape and in its bounds. -/
def Of (s : Sh) (a : AV) : Prop := a.wf ∧ a.shape = s ∧ inR a
def Ofs (l : List Sh) (m : List AV) : Prop := AV.wfs m ∧ AV.shapes m = l ∧ inRs m

theorem Ofs.nil : Ofs [] [] := ⟨trivial, rfl, trivial⟩
theorem Ofs.cons {s : Sh} {l : List Sh} {a : AV} {m : List AV} (h : Of s a) (h' : Ofs l m) : Ofs (s :: l) (a :: m) :=
  ⟨⟨h.1, h'.1⟩, by simp [AV.shapes, h.2.1, h'.2.1], ⟨h.2.2, h'.2.2⟩⟩

mutual
/-- Shapes without memory. -/
def Sh.flatB : Sh → Bool
  | .ref => false
  | .agg l => Sh.flatBs l
  | .arr _ s => s.flatB
  | _ => true
def Sh.flatBs : List Sh → Bool
  | [] => true
  | s :: l => s.flatB && Sh.flatBs l
end

mutual
theorem dflt : ∀ (s : Sh), s.flatB = true → ∃ a, Of s a
  | .int k, _ => ⟨.it k 0, trivial, rfl, show k.min ≤ 0 ∧ (0 : Int) ≤ k.max by cases k <;> decide⟩
  | .bool, _ => ⟨.bl false, trivial, rfl, trivial⟩
  | .str, _ => ⟨.st [], trivial, rfl, Nat.zero_le _⟩
  | .ref, h => by cases h
  | .agg l, h => by
    obtain ⟨m, h1, h2, h3⟩ := dflts l h
    exact ⟨.agg m, h1, by simp [AV.shape, h2], h3⟩
  | .arr n s, h => by
    obtain ⟨a, h1, h2, h3⟩ := dflt s h
    exact ⟨.arr n s fun _ => a, fun _ => ⟨h1, h2⟩, rfl, fun _ => h3⟩
theorem dflts : ∀ (l : List Sh), Sh.flatBs l = true → ∃ m, Ofs l m
  | [], _ => ⟨[], Ofs.nil⟩
  | s :: l, h => by
    simp only [Sh.flatBs, Bool.and_eq_true] at h
    obtain ⟨a, ha⟩ := dflt s h.1
    obtain ⟨m, hm⟩ := dflts l h.2
    exact ⟨a :: m, Ofs.cons ha hm⟩
end

theorem mapM_all2 {α β : Type} {F : α → Option β} : ∀ {l : List α} {xs : List β}, l.mapM F = some xs → All2 (fun a x => F a = some x) l xs
  | [], xs, h => by simp at h; subst h; trivial
  | a :: l, xs, h => by
    simp only [List.mapM_cons, Option.bind_eq_bind, Option.bind_eq_some_iff, Option.pure_def, Option.some.injEq] at h
    obtain ⟨x, h1, ys, h2, rfl⟩ := h
    exact ⟨h1, mapM_all2 h2⟩

variable {H : Type} {enc : TypeId × Value → H} {w : World} {base : Nat} {spare : Nat → Bool} {held : Bool}

/-- What is read as a value of a type without memory. -/
def Reads1 (ρ : Ren) (s : Sh) (cs : List Value) (ps : List MemPlace) : Prop := s.flatB = true ∧ ps = [] ∧ ∃ a, Of s a ∧ All2 (VR1 ρ) a.flat cs

theorem shFs_ok {F : TypeId → List Value → Option (DataW H × List MemPlace)} {sh : TypeId → Option Sh} (hF : ∀ t s cs x, sh t = some s → F t cs = some x → Reads1 ρ s cs x.2) (cs : List Value) :
    ∀ (fs : List Field) (o : Nat) (l : List Sh) (xs : List (DataW H × List MemPlace)), shFs P sh fs o = some l → All2 (fun f x => F f.type ((cs.drop f.offset).take (P.cellsOf f.type)) = some x) fs xs →
      Sh.flatBs l = true ∧ xs.flatMap (·.2) = [] ∧ ∃ m, Ofs l m ∧ All2 (VR1 ρ) (AV.flats m) ((cs.drop o).take (Sh.sizes l))
  | [], o, l, xs, h, hx => by
    cases h
    cases xs with
    | nil => exact ⟨rfl, rfl, [], Ofs.nil, by simp [AV.flats, Sh.sizes]; trivial⟩
    | cons => exact hx.elim
  | f :: fs, o, l, xs, h, hx => by
    cases xs with
    | nil => exact hx.elim
    | cons x xs =>
    simp only [shFs] at h
    split at h <;> try (cases h; done)
    rename_i s hs
    cases hb : Nat.beq f.offset o && Nat.beq s.size (P.cellsOf f.type) with
    | false => rw [hb] at h; cases h
    | true =>
    rw [hb, cond_true] at h
    simp only [Bool.and_eq_true, Nat.beq_eq] at hb
    split at h <;> try (cases h; done)
    rename_i l' hl
    cases h
    obtain ⟨k1, k2, a, k3, k4⟩ := hF _ _ _ _ hs hx.1
    obtain ⟨g1, g2, m, g3, g4⟩ := shFs_ok hF cs fs _ _ _ hl hx.2
    refine ⟨by simp [Sh.flatBs, k1, g1], by simp [k2, g2], a :: m, Ofs.cons k3 g3, ?_⟩
    simp only [AV.flats, Sh.sizes]
    rw [List.take_add, List.drop_drop]
    rw [hb.1, ← hb.2] at k4
    exact k4.append g4

theorem rowOf (n c : Nat) (cs : List Value) (f : Nat → AV) (h : ∀ i, i < n → All2 (VR1 ρ) (f i).flat ((cs.drop (i * c)).take c)) : All2 (VR1 ρ) ((List.range n).flatMap fun i => (f i).flat) (cs.take (n * c)) := by
  induction n with
  | zero => simp; trivial
  | succ n ih =>
    rw [List.range_succ, List.flatMap_append, Nat.add_mul, Nat.one_mul, List.take_add]
    refine (ih fun i hi => h i (by omega)).append ?_
    simpa using h n (by omega)

theorem trod_plain : ∀ (d fuel : Nat) (t : TypeId) (s : Sh) (cs : List Value) (x : DataW H × List MemPlace), shT P d t = some s → DataW.trod enc P w base spare held fuel t cs = some x → Reads1 ρ s cs x.2
  | 0, _, _, _, _, _, h, _ => by cases h
  | _, 0, _, _, _, _, _, h => by simp [DataW.trod] at h
  | d + 1, fuel + 1, t, s, cs, x, hs, hx => by
    unfold shT at hs
    unfold DataW.trod at hx
    split at hs <;> try (cases hs; done)
    · rename_i hu
      cases hs
      rw [hu] at hx
      match cs, hx with
      | [.bool b], hx =>
        simp only [Option.some.injEq] at hx; subst hx
        exact ⟨rfl, rfl, .bl b, ⟨trivial, rfl, trivial⟩, ⟨rfl, trivial⟩⟩
    · rename_i k hu
      cases hs
      rw [hu] at hx
      match cs, hx with
      | [.int k' n], hx =>
        simp only at hx
        split at hx <;> try (cases hx; done)
        rename_i hc
        obtain ⟨rfl, hwf⟩ := hc
        simp only [Option.some.injEq] at hx; subst hx
        simp only [Lit.wf, Bool.and_eq_true, decide_eq_true_eq] at hwf
        refine ⟨rfl, rfl, .it k' n, ⟨trivial, rfl, hwf⟩, ⟨⟨rfl, fun hsg => ?_⟩, trivial⟩⟩
        have : k'.min = 0 := by cases k' <;> first | rfl | cases hsg
        omega
    · rename_i hu
      cases hs
      rw [hu] at hx
      match cs, hx with
      | [.string b], hx =>
        simp only at hx
        split at hx <;> try (cases hx; done)
        rename_i hc
        simp only [Option.some.injEq] at hx; subst hx
        refine ⟨rfl, rfl, .st b.data.toList, ⟨trivial, rfl, ?_⟩, ⟨by simp [VR1], trivial⟩⟩
        show b.data.toList.length ≤ maxLen
        rw [Array.length_toList]; exact hc
    · rename_i fs hu
      split at hs <;> try (cases hs; done)
      rename_i l hl
      cases hb : Nat.beq (Sh.sizes l) (P.cellsOf t) with
      | false => rw [hb] at hs; cases hs
      | true =>
      rw [hb, cond_true] at hs
      cases hs
      have hb := Nat.eq_of_beq_eq_true hb
      rw [hu] at hx
      have hx' : (if cs.length = P.cellsOf t then (fs.toList.mapM fun f => DataW.trod enc P w base spare held fuel f.type ((cs.drop f.offset).take (P.cellsOf f.type))).map fun xs => ((.agg (xs.map (·.1)) : DataW H), xs.flatMap (·.2)) else none) = some x := by
        match cs, hx with
        | [], hx => exact hx
        | [_], hx => exact hx
        | _ :: _ :: _, hx => exact hx
      split at hx' <;> try (cases hx'; done)
      rename_i hlen
      simp only [Option.map_eq_some_iff] at hx'
      obtain ⟨xs, h1, rfl⟩ := hx'
      obtain ⟨g1, g2, m, g3, g4⟩ := shFs_ok (P := P) (fun t s cs x h1 h2 => trod_plain d fuel t s cs x h1 h2) cs _ _ _ _ hl (mapM_all2 h1)
      refine ⟨g1, g2, .agg m, ⟨g3.1, by simp [AV.shape, g3.2.1], g3.2.2⟩, ?_⟩
      rw [List.drop_zero, List.take_of_length_le (by omega)] at g4
      exact g4
    · rename_i n e hu
      split at hs <;> try (cases hs; done)
      rename_i s' hs'
      cases hb : Nat.beq s'.size (P.cellsOf e) && Nat.beq (n * s'.size) (P.cellsOf t) with
      | false => rw [hb] at hs; cases hs
      | true =>
      rw [hb, cond_true] at hs
      cases hs
      simp only [Bool.and_eq_true, Nat.beq_eq] at hb
      rw [hu] at hx
      have hx' : (if cs.length = P.cellsOf t then ((List.range n).mapM fun i => DataW.trod enc P w base spare held fuel e ((cs.drop (i * P.cellsOf e)).take (P.cellsOf e))).map fun xs => ((.agg (xs.map (·.1)) : DataW H), xs.flatMap (·.2)) else none) = some x := by
        match cs, hx with
        | [], hx => exact hx
        | [_], hx => exact hx
        | _ :: _ :: _, hx => exact hx
      split at hx' <;> try (cases hx'; done)
      rename_i hlen
      simp only [Option.map_eq_some_iff] at hx'
      obtain ⟨xs, h1, rfl⟩ := hx'
      have hall := mapM_all2 h1
      have each : ∀ i, i < n → Reads1 ρ s' ((cs.drop (i * P.cellsOf e)).take (P.cellsOf e)) (xs.getD i (.nil, [])).2 := fun i hi => by
        obtain ⟨y, h2, h3⟩ := hall.get (i := i) (a := i) (by simp [hi])
        have := trod_plain d fuel e s' _ y hs' h3
        simpa [List.getD, h2] using this
      have hfl : s'.flatB = true := shT_flat hs'
      obtain ⟨a0, ha0⟩ := dflt s' hfl
      have hch : ∀ i, ∃ a, Of s' a ∧ (i < n → All2 (VR1 ρ) a.flat ((cs.drop (i * P.cellsOf e)).take (P.cellsOf e))) := fun i => by
        by_cases hi : i < n
        · obtain ⟨_, _, a, h2, h3⟩ := each i hi
          exact ⟨a, h2, fun _ => h3⟩
        · exact ⟨a0, ha0, fun h => absurd h hi⟩
      refine ⟨hfl, ?_, .arr n s' fun i => (hch i).choose, ⟨fun i => ⟨(hch i).choose_spec.1.1, (hch i).choose_spec.1.2.1⟩, rfl, fun i => (hch i).choose_spec.1.2.2⟩, ?_⟩
      · simp only [List.flatMap_eq_nil_iff]
        intro y hy
        obtain ⟨i, hi⟩ := List.getElem?_of_mem hy
        have hlt : i < n := by
          have := hall.len
          have h4 := (List.getElem?_eq_some_iff.1 hi).1
          simp at this; omega
        have := (each i hlt).2.1
        simpa [List.getD, hi] using this
      · have := rowOf (ρ := ρ) n (P.cellsOf e) cs (fun i => (hch i).choose) fun i hi => (hch i).choose_spec.2 hi
        rw [List.take_of_length_le (by rw [hlen, ← hb.2, hb.1]; omega)] at this
        exact this
  where
  shT_flat : ∀ {d : Nat} {t : TypeId} {s : Sh}, shT P d t = some s → s.flatB = true
    | 0, _, _, h => by cases h
    | d + 1, t, s, h => by
      unfold shT at h
      split at h <;> try (cases h; done)
      · cases h; rfl
      · cases h; rfl
      · cases h; rfl
      · split at h <;> try (cases h; done)
        rename_i l hl
        cases hb : Nat.beq (Sh.sizes l) (P.cellsOf t) with
        | false => rw [hb] at h; cases h
        | true => rw [hb] at h; cases h; exact shFs_flat hl
      · rename_i n e _
        split at h <;> try (cases h; done)
        rename_i s' hs'
        cases hb : Nat.beq s'.size (P.cellsOf e) && Nat.beq (n * s'.size) (P.cellsOf t) with
        | false => rw [hb] at h; cases h
        | true => rw [hb] at h; cases h; show s'.flatB = true; exact shT_flat (d := d) hs'
  shFs_flat {d : Nat} : ∀ {fs : List Field} {o : Nat} {l : List Sh}, shFs P (shT P d) fs o = some l → Sh.flatBs l = true
    | [], _, _, h => by cases h; rfl
    | f :: fs, o, l, h => by
      simp only [shFs] at h
      split at h <;> try (cases h; done)
      rename_i s hs
      cases hb : Nat.beq f.offset o && Nat.beq s.size (P.cellsOf f.type) with
      | false => rw [hb] at h; cases h
      | true =>
      rw [hb, cond_true] at h
      split at h <;> try (cases h; done)
      rename_i l' hl
      cases h
      simp only [Sh.flatBs, shT_flat hs, shFs_flat hl, Bool.and_true]

end
end Go.Ev
