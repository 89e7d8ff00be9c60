/-
  A function of plain arguments that answers true: its contract. Own text; nothing of a program.
-/
import Derived.Test.YtngaeiceicgalaaDoorEvU
namespace Go.Ev
section
variable {P : Program}
variable {H : Type} {enc : TypeId × Value → H}

theorem mapM_congr {α β : Type} {F G : α → Option β} : ∀ {l : List α}, (∀ a ∈ l, F a = G a) → l.mapM F = l.mapM G
  | [], _ => rfl
  | a :: l, h => by
    rw [List.mapM_cons, List.mapM_cons, h a List.mem_cons_self, mapM_congr fun b hb => h b (List.mem_cons_of_mem _ hb)]

theorem shFs_each {sh : TypeId → Option Sh} : ∀ {fs : List Field} {o : Nat} {l : List Sh}, shFs P sh fs o = some l → ∀ f ∈ fs, ∃ s, sh f.type = some s
  | [], _, _, _, _, h => by cases h
  | f :: fs, o, l, h, g, hg => by
    simp only [shFs] at h
    split at h <;> try (cases h; done)
    rename_i s hs
    cases hb : Nat.beq f.offset o && Nat.beq s.size (P.cellsOf f.type) with
    | false => rw [hb] at h; cases h
    | true =>
    rw [hb, cond_true] at h
    split at h <;> try (cases h; done)
    rename_i l' hl
    rcases List.mem_cons.1 hg with rfl | hg
    · exact ⟨s, hs⟩
    · exact shFs_each hl g hg

/-- What holds no memory reads alike in every world. -/
theorem trod_same {w w' : World} {base base' : Nat} {spare spare' : Nat → Bool} {held held' : Bool} : ∀ (d fuel : Nat) (t : TypeId) (s : Sh) (cs : List Value), shT P d t = some s →
    DataW.trod enc P w base spare held fuel t cs = DataW.trod enc P w' base' spare' held' fuel t cs
  | 0, _, _, _, _, h => by cases h
  | _, 0, _, _, _, _ => by simp [DataW.trod]
  | d + 1, fuel + 1, t, s, cs, hs => by
    unfold shT at hs
    unfold DataW.trod
    split at hs <;> try (cases hs; done)
    · rename_i hu
      rw [hu]
      rcases cs with _ | ⟨c, _ | ⟨c', cs⟩⟩
      · rfl
      · cases c <;> rfl
      · cases c <;> rfl
    · rename_i k hu
      rw [hu]
      rcases cs with _ | ⟨c, _ | ⟨c', cs⟩⟩
      · rfl
      · cases c <;> rfl
      · cases c <;> rfl
    · rename_i hu
      rw [hu]
      rcases cs with _ | ⟨c, _ | ⟨c', cs⟩⟩
      · rfl
      · cases c <;> rfl
      · cases c <;> rfl
    · rename_i fs hu
      split at hs <;> try (cases hs; done)
      rename_i l hl
      rw [hu]
      have e : (fs.toList.mapM fun f => DataW.trod enc P w base spare held fuel f.type ((cs.drop f.offset).take (P.cellsOf f.type))) =
          (fs.toList.mapM fun f => DataW.trod enc P w' base' spare' held' fuel f.type ((cs.drop f.offset).take (P.cellsOf f.type))) := mapM_congr fun f hf => by
        obtain ⟨s', hs'⟩ := shFs_each hl f hf
        exact trod_same d fuel f.type s' _ hs'
      have key : (if cs.length = P.cellsOf t then (fs.toList.mapM fun f => DataW.trod enc P w base spare held fuel f.type ((cs.drop f.offset).take (P.cellsOf f.type))).map fun xs => ((.agg (xs.map (·.1)) : DataW H), xs.flatMap (·.2)) else none) =
          (if cs.length = P.cellsOf t then (fs.toList.mapM fun f => DataW.trod enc P w' base' spare' held' fuel f.type ((cs.drop f.offset).take (P.cellsOf f.type))).map fun xs => ((.agg (xs.map (·.1)) : DataW H), xs.flatMap (·.2)) else none) := by rw [e]
      match cs, key with
      | [], key => exact key
      | [_], key => exact key
      | _ :: _ :: _, key => exact key
    · rename_i n e hu
      split at hs <;> try (cases hs; done)
      rename_i s' hs'
      rw [hu]
      have he : ((List.range n).mapM fun i => DataW.trod enc P w base spare held fuel e ((cs.drop (i * P.cellsOf e)).take (P.cellsOf e))) =
          ((List.range n).mapM fun i => DataW.trod enc P w' base' spare' held' fuel e ((cs.drop (i * P.cellsOf e)).take (P.cellsOf e))) := mapM_congr fun i _ => trod_same d fuel e s' _ hs'
      have key : (if cs.length = P.cellsOf t then ((List.range n).mapM fun i => DataW.trod enc P w base spare held fuel e ((cs.drop (i * P.cellsOf e)).take (P.cellsOf e))).map fun xs => ((.agg (xs.map (·.1)) : DataW H), xs.flatMap (·.2)) else none) =
          (if cs.length = P.cellsOf t then ((List.range n).mapM fun i => DataW.trod enc P w' base' spare' held' fuel e ((cs.drop (i * P.cellsOf e)).take (P.cellsOf e))).map fun xs => ((.agg (xs.map (·.1)) : DataW H), xs.flatMap (·.2)) else none) := by rw [he]
      match cs, key with
      | [], key => exact key
      | [_], key => exact key
      | _ :: _ :: _, key => exact key

def shTs (P : Program) (d : Nat) : List TypeId → Option (List Sh)
  | [] => some []
  | t :: r => match shT P d t, shTs P d r with
    | some s, some l => some (s :: l)
    | _, _ => none

theorem Reads1.val {ρ : Ren} {d : Nat} {t : TypeId} {s : Sh} {v : Value} {W : World} {r : Reach} {b : Nat} (hs : shT P d t = some s) (hok : Value.okWide P W r b t v) {a : AV} (ha : Of s a) (h : All2 (VR1 ρ) a.flat v.cells.toList) : VR3 ρ a v := by
  cases d with
  | zero => cases hs
  | succ d =>
  unfold shT at hs
  split at hs <;> try (cases hs; done)
  · rename_i hu
    cases hs
    obtain ⟨b, rfl⟩ := Go.WideShapes.okWide_bool hu hok
    cases a <;> simp [Of, AV.shape] at ha
    exact h.1
  · rename_i k hu
    cases hs
    obtain ⟨b, rfl⟩ := Go.WideShapes.okWide_int hu hok
    cases a <;> simp [Of, AV.shape] at ha
    exact h.1
  · rename_i hu
    cases hs
    obtain ⟨b, rfl⟩ := Go.WideShapes.okWide_string hu hok
    cases a <;> simp [Of, AV.shape] at ha
    exact h.1
  · rename_i fs hu
    split at hs <;> try (cases hs; done)
    rename_i l hl
    cases hb : Nat.beq (Sh.sizes l) (P.cellsOf t) with
    | false => rw [hb] at hs; cases hs
    | true =>
    rw [hb, cond_true] at hs; cases hs
    obtain ⟨cs, rfl, _⟩ := Go.WideShapes.okWide_struct hu hok
    obtain ⟨h1, h2, _⟩ := ha
    cases a <;> simp [AV.shape] at h2
    exact ⟨h1, cs, rfl, h⟩
  · rename_i n e hu
    split at hs <;> try (cases hs; done)
    rename_i s' hs'
    cases hb : Nat.beq s'.size (P.cellsOf e) && Nat.beq (n * s'.size) (P.cellsOf t) with
    | false => rw [hb] at hs; cases hs
    | true =>
    rw [hb, cond_true] at hs; cases hs
    obtain ⟨cs, rfl⟩ : ∃ cs, v = .agg cs := by
      simp only [Value.okWide, hu] at hok
      obtain ⟨cs, h1, _⟩ := hok
      exact ⟨cs, h1⟩
    obtain ⟨h1, h2, _⟩ := ha
    cases a <;> simp [AV.shape] at h2
    exact ⟨h1, cs, rfl, h⟩

/-- Plain arguments, opened. -/
theorem open_plain {ρ : Ren} {W : World} {base b0 : Nat} {spare : Nat → Bool} {held : Bool} {r : Reach} {d : Nat} : ∀ {ts : List TypeId} {shs : List Sh} {vs : List Value} {ds : List (DataW H)} {ps : List MemPlace}, shTs P d ts = some shs →
    DataW.TrodAll enc P W base spare held ts vs ds ps → (∀ (j : Nat) t v, ts[j]? = some t → vs[j]? = some v → Value.okWide P W r b0 t v) →
    ps = [] ∧ ds.length = ts.length ∧ (∃ l, Ofs shs l ∧ All2 (VR3 ρ) l vs) ∧ ∀ (W' : World) base' spare' held', DataW.TrodAll enc P W' base' spare' held' ts vs ds []
  | [], shs, vs, ds, ps, hs, h, _ => by
    cases hs
    match vs, ds, h with
    | [], [], h => exact ⟨h, rfl, ⟨[], Ofs.nil, trivial⟩, fun _ _ _ _ => rfl⟩
  | t :: ts, shs, vs, ds, ps, hs, h, hok => by
    simp only [shTs] at hs
    split at hs <;> try (cases hs; done)
    rename_i s l h1 h2
    cases hs
    match vs, ds, h with
    | v :: vs, dd :: ds, ⟨p, q, ⟨fuel, h3⟩, h4, h5⟩ =>
    obtain ⟨k1, k2, ⟨m, k3, k4⟩, k5⟩ := open_plain (ρ := ρ) h2 h4 fun j t v ht hv => hok (j + 1) t v ht hv
    obtain ⟨_, g1, a, g2, g3⟩ := trod_plain (ρ := ρ) d fuel t s _ _ h1 h3
    simp only at g1
    subst g1; subst k1
    refine ⟨by simpa using h5, by simp [k2], ⟨a :: m, Ofs.cons g2 k3, ⟨Reads1.val h1 (hok 0 t v rfl rfl) g2 g3, k4⟩⟩, fun W' base' spare' held' => ⟨[], [], ⟨fuel, ?_⟩, k5 W' base' spare' held', rfl⟩⟩
    rw [← h3]
    exact (trod_same d fuel t s _ h1).symm

theorem kept_upd {W W' : World} (h : Upd (fun b => W.heap.size ≤ b) W W') (may : MemPlace → Prop) : W.keptBut W' may := by
  refine ⟨h.os, h.out, fun i hi => ?_⟩
  have := h.old i hi (by omega)
  rw [this]
  cases W.heap[i]? with
  | none => rfl
  | some o => cases o <;> first | exact ⟨rfl, rfl, rfl, fun _ _ => rfl⟩ | exact .inr ⟨rfl, rfl⟩ | rfl

/-- The call of a function out of 'Gives'. -/
theorem Gives.calls {f : FuncId} {fn : Func} {c : Code} (hf : Plain P f fn) (hb : fn.body = some c) {args : List AV} {v : AV} (h : Gives P f args v) {W : World} {vals : List Value} (ha : All2 (VR3 Ren.nil) args vals) (ht : Held (fun b => W.heap.size ≤ b) W) :
    Calls P f vals.toArray W fun e W' => ∃ ρ' rv, e = .returned rv ∧ Upd (fun b => W.heap.size ≤ b) W W' ∧ VR3 ρ' v rv := by
  have := h Ren.nil _ Mem.empty W vals (Rep.nil ht) ha
  rcases this with ⟨ρ', rv, w', nx, h1, h2, _⟩ | ⟨f', args', h1, h2⟩
  · rw [callFunc_run hf hb] at h1
    cases h1
    rcases h2 with h2 | ⟨h2, _⟩ <;> cases h2
  · rw [callFunc_run hf hb] at h1
    cases h1
    exact h2.mono fun e W' ⟨ρ', rv, g1, _, _, g4, g5⟩ => ⟨ρ', rv, g1, g4, g5⟩

/-- The contract of a function of plain arguments that answers true. -/
theorem plain_contract {f : FuncId} {fn : Func} {c : Code} (hf : Plain P f fn) (hb : fn.body = some c) {d : Nat} {shs : List Sh} (hsh : shTs P d fn.params.toList = some shs) {tb : TypeId} (hres : fn.resultTypes = #[tb])
    (htb : P.underlying tb = some .bool) {s : ChangeSpec} (hv : s.vars = []) (hfn : ∀ ds : List (DataW H), ds.length = fn.params.size → s.fn H ds = { results := [.lit (.bool true)], args := ds })
    (law : ∀ g, Ofs shs (norms shs 0 g) → Gives P f (norms shs 0 g) (.bl true)) {apart fresh handsOn again : Bool} (W : World) (args : Array Value) (ds gs : List (DataW H)) (before : List MemPlace) {base : Nat}
    (hok : ∀ (j : Nat) t v, fn.params[j]? = some t → args[j]? = some v → Value.okWide P W .any base t v) (hW : DataW.Whole enc P fn.params.toList s.vars apart W args.toList ds gs before)
    (ht : Held (fun b => W.heap.size ≤ b) W := by exact held_nil rfl) :
    Calls P f args W fun e W' => ∃ v, e = .returned v ∧ s.post enc P fn apart fresh handsOn again W args v W' := by
  have hW0 := hW
  obtain ⟨p, q, hA, hV, rfl, hz, hn⟩ := hW
  obtain ⟨hp, hlen, ⟨l, hl, hvals⟩, hagain⟩ := open_plain (ρ := Ren.nil) hsh hA (r := .any) (b0 := base) fun j t v ht hv => hok j t v (by simpa using ht) (by simpa using hv)
  have hgs : gs = [] ∧ q = [] := by
    rw [hv] at hV
    match gs, hV with
    | [], hV => exact ⟨rfl, hV⟩
  obtain ⟨rfl, rfl⟩ := hgs
  subst hp
  have hnorm : norms shs 0 (fun i => l.getD i .un) = l := norms_eq shs l 0 _ hl.1 hl.2.1 fun j => by simp
  have hg := law (fun i => l.getD i .un) (by rw [hnorm]; exact hl)
  rw [hnorm] at hg
  have hc := Gives.calls hf hb hg (W := W) hvals ht
  rw [Array.toArray_toList] at hc
  refine hc.mono fun e W' ⟨ρ', rv, he, hu, hrv⟩ => ?_
  have hrv : rv = .bool true := hrv
  subst hrv
  refine ⟨_, he, ds, [], [] ++ [], [], [], [], hW0, ?_, ?_, ?_, kept_upd hu _, fun _ => ⟨fun j t r hj hr => ?_, ?_⟩⟩
  · rw [List.append_nil, hfn ds (by simpa using hlen), hres]
    exact ⟨[], [], ⟨1, by simp [DataW.trod, Value.cells, htb]⟩, rfl, rfl⟩
  · rw [List.append_nil, hfn ds (by simpa using hlen)]
    exact hagain _ _ _ _
  · rw [List.append_nil, hfn ds (by simpa using hlen), hv]
    rfl
  · rw [hres] at hj hr
    have : j = 0 := by
      have := (Array.getElem?_eq_some_iff.1 hj).1
      simp at this; exact this
    subst this
    simp at hj
    subst hj
    have hr : r = .bool true := by simpa [Value.resultList] using hr.symm
    subst hr
    simp [Value.okWide, htb, Cell.okWide, Cell.ok]
  · refine ⟨.lit (.bool true) :: ds, [], [] ++ [], ⟨[], [], ?_, ?_, rfl, fun b off hb => by simp at hb, fun _ => by simp⟩, fun p hp => by simp at hp⟩
    · rw [hres]
      exact ⟨[], [], ⟨1, by simp [DataW.trod, Value.cells, htb]⟩, hagain _ _ _ _, rfl⟩
    · rw [hv]; rfl

/-- What both have, the picked one has. -/
theorem cond_all {α : Type} {p : α → Prop} {c : Bool} {a b : α} (ha : p a) (hb : p b) : p (bif c then a else b) := by cases c <;> assumption

/-- A row's answer, for arguments that have come in. -/
theorem law_row {f : FuncId} {shs : List Sh} {V : (Nat → AV) → AV} (h : RowOk P f (rowF shs none V)) {v : AV} (hv : ∀ g, Ofs shs (norms shs 0 g) → V g = v) (g : Nat → AV) (hg : Ofs shs (norms shs 0 g)) :
    Gives P f (norms shs 0 g) v := by
  have hs : Sh.beqs (AV.shapes (norms shs 0 g)) shs = true := by rw [hg.2.1]; exact Sh.beqs_refl shs
  have hn : norms shs 0 (fun i => (norms shs 0 g).getD i .un) = norms shs 0 g := norms_eq shs _ 0 _ hg.1 hg.2.1 fun j => by simp
  have := h (norms shs 0 g) none (V fun i => (norms shs 0 g).getD i .un) (by unfold rowF; rw [hs]; rfl) (.inl rfl)
  rw [hv _ (by rw [hn]; exact hg)] at this
  exact this

/-- .. where the row has a condition. -/
theorem law_row_if {f : FuncId} {shs : List Sh} {G : (Nat → AV) → Bool} {V : (Nat → AV) → AV} (h : RowOk P f (rowF shs (some G) V)) {v : AV} (hv : ∀ g, Ofs shs (norms shs 0 g) → G g = true ∧ V g = v) (g : Nat → AV) (hg : Ofs shs (norms shs 0 g)) :
    Gives P f (norms shs 0 g) v := by
  have hs : Sh.beqs (AV.shapes (norms shs 0 g)) shs = true := by rw [hg.2.1]; exact Sh.beqs_refl shs
  have hn : norms shs 0 (fun i => (norms shs 0 g).getD i .un) = norms shs 0 g := norms_eq shs _ 0 _ hg.1 hg.2.1 fun j => by simp
  obtain ⟨k1, k2⟩ := hv (fun i => (norms shs 0 g).getD i .un) (by rw [hn]; exact hg)
  have := h (norms shs 0 g) (some (G fun i => (norms shs 0 g).getD i .un)) (V fun i => (norms shs 0 g).getD i .un) (by unfold rowF; rw [hs]; rfl) (.inr (by rw [k1]))
  rw [k2] at this
  exact this

/-- .. by the condition. -/
theorem cond_split {α : Type} {p : α → Prop} {c : Bool} {a b : α} (ha : c = true → p a) (hb : c = false → p b) : p (bif c then a else b) := by
  cases c
  · exact hb rfl
  · exact ha rfl

end
end Go.Ev
