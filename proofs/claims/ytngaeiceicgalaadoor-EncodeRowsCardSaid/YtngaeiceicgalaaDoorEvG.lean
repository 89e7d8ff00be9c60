/-
  The evaluator's operations that make or write memory. Own text; nothing of a program.
-/
import Derived.Test.YtngaeiceicgalaaDoorEvF
namespace Go.Ev
section
variable {P : Program} {ρ : Ren}

/-- What an operation leaves: the value and the memory. -/
def Did (P : Program) (ρ : Ren) (A : Nat → Prop) (w : World) (s : Sem Value) (r : AV) (m' : Mem) : Prop :=
  ∃ ρ' rv w', s.run P w = .ok rv w' ∧ ρ.ext ρ' ∧ Rep ρ' A m' w' ∧ Upd A w w' ∧ VR3 ρ' r rv

/- The zero value of a type. -/
def zeroFs (z : TypeId → Option AV) : List Field → Option (List AV)
  | [] => some []
  | f :: r => match z f.type, zeroFs z r with
    | some a, some l => some (a :: l)
    | _, _ => none

def zeroT (P : Program) : Nat → TypeId → Option AV
  | 0, _ => none
  | d + 1, t =>
    match P.underlying t with
    | some .bool => some (.bl false)
    | some (.int k) => some (.it k 0)
    | some .string => some (.st [])
    | some (.pointer _) => some .nl
    | some (.slice _) => some .nsl
    | some (.map _ _) => some .nmp
    | some (.func _ _ _) => some .nfn
    | some (.interface _) => some .nif
    | some (.struct fs) => match zeroFs (zeroT P d) fs.toList with | some l => some (.agg l) | none => none
    | some (.array n e) => match zeroT P d e with | some z => some (.arr n z.shape fun _ => z) | none => none
    | _ => none

theorem zeroFs_wf {z : TypeId → Option AV} (h : ∀ t a, z t = some a → a.wf) : ∀ (fs : List Field) (l : List AV), zeroFs z fs = some l → AV.wfs l
  | [], l, hl => by cases hl; trivial
  | f :: r, l, hl => by
    simp only [zeroFs] at hl
    split at hl <;> try (cases hl; done)
    rename_i a l' ha hl'
    cases hl
    exact ⟨h _ _ ha, zeroFs_wf h r l' hl'⟩

theorem zeroT_wf : ∀ (d : Nat) (t : TypeId) (a : AV), zeroT P d t = some a → a.wf
  | 0, _, _, h => by cases h
  | d + 1, t, a, h => by
    simp only [zeroT] at h
    split at h <;> try (cases h; done)
    case h_9 =>
      split at h <;> try (cases h; done)
      rename_i l hl
      cases h
      exact zeroFs_wf (fun t a => zeroT_wf d t a) _ _ hl
    case h_10 =>
      split at h <;> try (cases h; done)
      rename_i z hz
      cases h
      exact fun _ => ⟨zeroT_wf d _ z hz, rfl⟩
    all_goals (cases h; trivial)

def matchCell : AV → Value → Bool
  | .bl x, .bool y => x == y
  | .it k n, .int k' n' => decide (k = k') && (n == n') && (k.signed || decide (0 ≤ n))
  | .st l, .string s => l.isEmpty && s.data.toList.isEmpty
  | .nl, .pointer none => true
  | .nsl, .slice none 0 0 => true
  | .nfn, .nilFunc => true
  | .nmp, .map none => true
  | .nif, .nilIface => true
  | _, _ => false

def matchCells : List AV → List Value → Bool
  | [], [] => true
  | a :: l, v :: m => matchCell a v && matchCells l m
  | _, _ => false

theorem matchCell_ok {a : AV} {v : Value} (h : matchCell a v = true) : VR1 ρ a v := by
  unfold matchCell at h
  split at h <;> try (cases h; done)
  all_goals try (simp only [VR1]; done)
  · simp at h; subst h; rfl
  · simp at h
    obtain ⟨⟨rfl, rfl⟩, h2⟩ := h
    exact ⟨rfl, fun hk => by simpa [hk] using h2⟩
  · rename_i l s
    simp at h
    obtain ⟨rfl, h2⟩ := h
    simp only [VR1]
    congr 1
    apply ByteArray.ext
    simpa using h2

theorem matchCells_ok : ∀ (l : List AV) (m : List Value), matchCells l m = true → All2 (VR1 ρ) l m
  | [], [], _ => trivial
  | a :: l, v :: m, h => by
    simp only [matchCells, Bool.and_eq_true] at h
    exact ⟨matchCell_ok h.1, matchCells_ok l m h.2⟩
  | [], _ :: _, h => by cases h
  | _ :: _, [], h => by cases h

def isAggV : Value → Bool
  | .agg _ => true
  | _ => false

/-- The zero value of a type, held against the program's table. -/
def evZero (P : Program) (t : TypeId) : Option AV :=
  match P.info? t with
  | some i => match i.zero, zeroT P 8 t with
    | some z, some a => if matchCells a.flat z.cells.toList = true ∧ a.isAgg = isAggV z ∧ a.isVal = true then some a else none
    | _, _ => none
  | none => none

theorem evZero_ok {t : TypeId} {a : AV} (h : evZero P t = some a) : ∃ i z, P.info? t = some i ∧ i.zero = some z ∧ a.wf ∧ a.isVal = true ∧ VR2 ρ a z ∧ All2 (VR1 ρ) a.flat z.cells.toList := by
  unfold evZero at h
  split at h <;> try (cases h; done)
  rename_i i hi
  split at h <;> try (cases h; done)
  rename_i z a' hz ha
  split at h <;> try (cases h; done)
  rename_i hc
  cases h
  have hm := matchCells_ok (ρ := ρ) _ _ hc.1
  have hw := zeroT_wf _ _ _ ha
  refine ⟨i, z, hi, hz, hw, hc.2.2, ?_, hm⟩
  cases hb : a.isAgg with
  | true =>
    rw [hb] at hc
    cases z <;> simp [isAggV] at hc
    exact (VR2_agg hb).2 ⟨hw, _, rfl, hm⟩
  | false =>
    rw [hb] at hc
    rw [AV.flat_scalar hb] at hm
    rw [VR2_scalar hb]
    have : z.cells = #[z] := by cases z <;> simp [isAggV] at hc <;> rfl
    rw [this] at hm
    exact hm.1

theorem run_zeroValue {w : World} {t : TypeId} {i : TypeInfo} {z : Value} (hi : P.info? t = some i) (hz : i.zero = some z) : (zeroValue t).run P w = .ok z w := by
  simp [zeroValue, run_typeInfo w hi, hz]

/-- A block is made. -/
theorem Rep.alloc {A : Nat → Prop} {w : World} {m : Mem} (hR : Rep ρ A m w) {a : AV} {cs : Array Value} {e : TypeId} (hw : a.wf) (hc : All2 (VR1 ρ) a.flat cs.toList) :
    Rep (ρ.add w.heap.size 0 a.shape a.shape.size) A (m.add (.cells a true)) (w.alloc (.cells cs e)) ∧ Upd A w (w.alloc (.cells cs e)) := by
  have hle := Ren.le_add hR.lt w.heap.size 0 a.shape a.shape.size
  have hold : ∀ b, b < w.heap.size → (w.alloc (.cells cs e)).heap[b]? = w.heap[b]? := fun b hb => by
    show (w.heap.push _)[b]? = _
    rw [Array.getElem?_push, if_neg (by omega)]
  have hlen := AV.flat_len a hw
  have hl2 := hc.len
  refine ⟨hR.add (by simp) (fun id b hb => hold _ (hR.blk id b hb).2.block_lt) (fun id b hb => Nat.ne_of_lt (hR.blk id b hb).2.block_lt) (fun b hb _ => hold b hb) ?_, by simp, fun b hb _ => hold b hb, rfl, rfl, rfl⟩
  have e1 : (ρ.add w.heap.size 0 a.shape a.shape.size).bb ρ.n = w.heap.size := by simp [Ren.add]
  have e2 : (ρ.add w.heap.size 0 a.shape a.shape.size).bo ρ.n = 0 := by simp [Ren.add]
  have e3 : (ρ.add w.heap.size 0 a.shape a.shape.size).sh ρ.n = a.shape := by simp [Ren.add]
  have e4 : (ρ.add w.heap.size 0 a.shape a.shape.size).room ρ.n = a.shape.size := by simp [Ren.add]
  simp only [BlkOk]
  rw [e1, e2, e3, e4]
  have hcell : ∀ r, (w.alloc (.cells cs e)).cell? ⟨w.heap.size, 0 + r, none⟩ = cs[r]? := fun r => by rw [Nat.zero_add]; exact World.cell?_alloc_new w cs e r
  refine ⟨rfl, hw, ⟨cs, e, (0, 0), heap_alloc_new w _⟩, fun r v hv => ?_, fun _ => ⟨hR.new _ (Nat.le_refl _), Nat.le_refl _, fun r hr => ⟨?_, ?_⟩⟩⟩
  · obtain ⟨rv, h1, h2⟩ := hc.get hv
    exact ⟨rv, by rw [hcell, ← Array.getElem?_toList]; exact h1, h2.le hle⟩
  · have : r < cs.size := by rw [← Array.length_toList, ← hl2, hlen]; exact hr
    exact ⟨cs[r], by rw [hcell]; exact Array.getElem?_eq_getElem this⟩
  · rw [Nat.zero_add]; exact World.frozen?_alloc_new w cs e r

theorem run_newRow {w : World} (e : TypeId) (cs : Array Value) : (newRow e cs).run P w = .ok ⟨w.heap.size, 0, none⟩ (w.alloc (.cells cs e)) := by
  simp [newRow]

/-- The pointer to a block just made. -/
theorem VR3_new (bb bo room : Nat) (s : Sh) : VR3 (ρ.add bb bo s room) (.pt ρ.n [] s) (.pointer (some ⟨bb, bo, none⟩)) := by
  refine ⟨by simp [Ren.add], by simp [Ren.add], s, 0, ?_, by simp [Ren.add]⟩
  simp only [Ren.add, if_true]
  exact ⟨rfl, rfl⟩

theorem did_alloc {A : Nat → Prop} {w : World} {m : Mem} (hR : Rep ρ A m w) {t : TypeId} {a : AV} (h : evZero P t = some a) :
    Did P ρ A w (Instr.alloc t true (.tuple #[])) (.pt m.n [] a.shape) (m.add (.cells a true)) := by
  obtain ⟨i, z, hi, hz, hw, _, _, hm⟩ := evZero_ok (ρ := ρ) h
  obtain ⟨g1, g2⟩ := hR.alloc (e := t) hw hm
  refine ⟨_, .pointer (some ⟨w.heap.size, 0, none⟩), _, ?_, Ren.ext_add hR.lt _ _ _ _, g1, g2, ?_⟩
  · simp only [Instr.alloc, Sem.run_bind, run_zeroValue hi hz, Result.andThen_ok, newVar, run_newRow]; rfl
  · rw [← hR.n]; exact VR3_new _ _ _ _

theorem did_box {A : Nat → Prop} {w : World} {m : Mem} (hR : Rep ρ A m w) {t : TypeId} {a : AV} {v : Value} (ha : a.isVal = true) (hv : VR3 ρ a v) :
    Did P ρ A w (Instr.box t v) (.pt m.n [] a.shape) (m.add (.cells a true)) := by
  have hnt : ∀ l, a ≠ .tup l := fun l he => by subst he; simp [AV.isVal] at ha
  rw [VR3_val hnt] at hv
  obtain ⟨g1, g2⟩ := hR.alloc (e := t) hv.wf (hv.cells ha)
  refine ⟨_, .pointer (some ⟨w.heap.size, 0, none⟩), _, ?_, Ren.ext_add hR.lt _ _ _ _, g1, g2, ?_⟩
  · simp only [Instr.box, Sem.run_bind, newVar, run_newRow, Result.andThen_ok]; rfl
  · rw [← hR.n]; exact VR3_new _ _ _ _

/- Composite values. -/
def inLim : Option Nat → Nat → Bool
  | some n, i => decide (i < n)
  | none, _ => true

def evParts (pe : Nat → PE) (lim : Option Nat) : List (Nat × AV) → AV → Option AV
  | [], a => some a
  | (i, v) :: r, a =>
    match a.shape.at [pe i] with
    | some s =>
      if v.shape.beq s = true ∧ v.isVal = true ∧ inLim lim i = true then
        match AV.set [pe i] v a with
        | some a' => evParts pe lim r a'
        | none => none
      else none
    | none => none

def splice {α : Type} (l : List α) (o : Nat) (vs : List α) : List α := l.take o ++ vs ++ l.drop (o + vs.length)

theorem foldl_set (vs : List Value) : ∀ (k o : Nat) (cells : Array Value), o + k + vs.length ≤ cells.size →
    ((vs.zipIdx k).foldl (fun cs (x : Value × Nat) => cs.setIfInBounds (o + x.2) x.1) cells).toList = splice cells.toList (o + k) vs := by
  induction vs with
  | nil => intro k o cells _; simp [splice]
  | cons v vs ih =>
    intro k o cells h
    simp only [List.length_cons] at h
    simp only [List.zipIdx_cons, List.foldl_cons]
    rw [ih (k + 1) o _ (by simp; omega)]
    apply List.ext_getElem?
    intro r
    simp only [splice, Array.toList_setIfInBounds, List.length_cons]
    rcases Nat.lt_or_ge r (o + k) with h1 | h1
    · rw [List.append_assoc, List.append_assoc, List.getElem?_append_left (by simp; omega), List.getElem?_append_left (by simp; omega), List.getElem?_take_of_lt (by omega), List.getElem?_take_of_lt (by omega),
        List.getElem?_set_ne (by omega)]
    · have hsz : cells.toList.length = cells.size := by simp
      rw [List.append_assoc, List.append_assoc, List.getElem?_append_right (by simp; omega) (l₁ := cells.toList.take (o + k))]
      rcases Nat.eq_or_lt_of_le h1 with h2 | h2
      · subst h2
        rw [List.getElem?_append_left (by simp; omega), List.getElem?_take_of_lt (by omega), List.getElem?_set_self (by simp; omega)]
        simp
        rw [Nat.min_eq_left (by omega)]; simp
      · rw [List.getElem?_append_right (by simp; omega)]
        simp only [List.length_take, List.length_set, hsz]
        rw [Nat.min_eq_left (by omega), Nat.min_eq_left (by omega)]
        rw [show r - (o + k) = (r - (o + (k + 1))) + 1 by omega, List.cons_append, List.getElem?_cons_succ]
        rcases Nat.lt_or_ge (r - (o + (k + 1))) vs.length with h3 | h3
        · rw [List.getElem?_append_left h3, List.getElem?_append_left h3]
        · rw [List.getElem?_append_right h3, List.getElem?_append_right h3, List.getElem?_drop, List.getElem?_drop, List.getElem?_set_ne (by omega)]
          congr 1; omega


/-- One part laid into a composite value's cells. -/
theorem fill_step {a v a' : AV} {s : Sh} {pe : PE} {off : Nat} {cells : Array Value} {val : Value} (hw : a.wf) (hp : PathTo a.shape [pe] s off) (hs : v.shape = s) (hv : VR2 ρ v val) (hval : v.isVal = true)
    (hc : All2 (VR1 ρ) a.flat cells.toList) (hset : AV.set [pe] v a = some a') :
    val.cells.size = s.size ∧ off + val.cells.size ≤ cells.size ∧ a'.wf ∧ a'.shape = a.shape ∧
      All2 (VR1 ρ) a'.flat (val.cells.zipIdx.foldl (fun cs (x : Value × Nat) => cs.setIfInBounds (off + x.2) x.1) cells).toList := by
  have hvc := hv.cells hval
  have hvl := AV.flat_len v hv.wf
  have hal := AV.flat_len a hw
  have h1 : val.cells.size = s.size := by rw [← Array.length_toList, ← hvc.len, hvl, hs]
  have h2 : cells.size = a.shape.size := by rw [← Array.length_toList, ← hc.len, hal]
  have h3 := hp.fits
  obtain ⟨a'', ha, haw, has, haf⟩ := AV.set_ok hw hp hv.wf hs
  rw [hset] at ha; cases ha
  refine ⟨h1, by omega, haw, has, ?_⟩
  have hf : (val.cells.zipIdx.foldl (fun cs (x : Value × Nat) => cs.setIfInBounds (off + x.2) x.1) cells).toList = splice cells.toList off val.cells.toList := by
    have := foldl_set val.cells.toList 0 off cells (by simp; omega)
    rw [Nat.add_zero] at this
    rw [← this, ← Array.foldl_toList, Array.toList_zipIdx]
  rw [hf]
  have hal' := AV.flat_len a' haw
  refine All2.of_get (by simp [splice, hal', has]; omega) fun r b hb => ?_
  rw [haf r] at hb
  have hvs : val.cells.toList.length = s.size := by simp [h1]
  have hcs : cells.toList.length = a.shape.size := by simp [h2]
  simp only [splice]
  by_cases hr : off ≤ r ∧ r < off + s.size
  · rw [if_pos hr] at hb
    obtain ⟨rv, g1, g2⟩ := hvc.get hb
    exact ⟨rv, by rw [List.append_assoc, List.getElem?_append_right (by simp; omega), List.getElem?_append_left (by simp; omega)]; simp only [List.length_take, hcs]; rw [Nat.min_eq_left (by omega)]; exact g1, g2⟩
  · rw [if_neg hr] at hb
    obtain ⟨rv, g1, g2⟩ := hc.get hb
    refine ⟨rv, ?_, g2⟩
    rcases Nat.lt_or_ge r off with h | h
    · rw [List.append_assoc, List.getElem?_append_left (by simp; omega), List.getElem?_take_of_lt h]; exact g1
    · rw [List.getElem?_append_right (by simp; omega), List.getElem?_drop]
      simp only [List.length_append, List.length_take, hcs, hvs]
      rw [← g1]; congr 1; omega

/-- The parts of a composite value, one behind the other. 'pl': the model's own places. -/
theorem fill_ok {pe : Nat → PE} {lim : Option Nat} {pl : Nat → Option (Nat × Nat)} {S : Sh}
    (hpl : ∀ i s, S.at [pe i] = some s → inLim lim i = true → ∃ off, pl i = some (off, s.size) ∧ PathTo S [pe i] s off) :
    ∀ (parts : List (Nat × AV)) (vals : List (Nat × Value)) (a r : AV) (cells : Array Value), evParts pe lim parts a = some r → All2 (fun (x : Nat × AV) (y : Nat × Value) => x.1 = y.1 ∧ VR3 ρ x.2 y.2) parts vals →
      a.wf → a.shape = S → All2 (VR1 ρ) a.flat cells.toList → ∃ cs, Instr.fill pl cells vals = some cs ∧ r.wf ∧ r.shape = S ∧ All2 (VR1 ρ) r.flat cs.toList
  | [], [], a, r, cells, h, _, hw, hs, hc => by
    simp only [evParts, Option.some.injEq] at h; subst h
    exact ⟨cells, rfl, hw, hs, hc⟩
  | [], _ :: _, _, _, _, _, h, _, _, _ => h.elim
  | _ :: _, [], _, _, _, _, h, _, _, _ => h.elim
  | (i, v) :: ps, (j, val) :: vs, a, r, cells, h, hall, hw, hs, hc => by
    obtain ⟨⟨hij, hv⟩, hall⟩ := hall
    simp only at hij hv
    subst hij
    simp only [evParts] at h
    split at h <;> try (cases h; done)
    rename_i s hat
    split at h <;> try (cases h; done)
    rename_i hcc
    split at h <;> try (cases h; done)
    rename_i a' hset
    obtain ⟨c1, c2, c3⟩ := hcc
    rw [hs] at hat
    obtain ⟨off, hpl', hp⟩ := hpl i s hat c3
    have hvs := Sh.beq_eq _ _ c1
    have hnt : ∀ l, v ≠ .tup l := fun l he => by subst he; simp [AV.isVal] at c2
    rw [VR3_val hnt] at hv
    obtain ⟨g1, g2, g3, g4, g5⟩ := fill_step (ρ := ρ) hw (by rw [hs]; exact hp) hvs hv c2 hc hset
    obtain ⟨cs, k1, k2⟩ := fill_ok hpl ps vs a' r _ h hall g3 (g4.trans hs) g5
    refine ⟨cs, ?_, k2⟩
    simp only [Instr.fill, hpl']
    rw [if_neg]
    · exact k1
    · simp only [Bool.or_eq_true, decide_eq_true_eq, not_or]
      exact ⟨by simpa using g1, by omega⟩

/-- A struct's fields lie as its shape says. -/
def layout (P : Program) : List Field → Nat → List Sh → Bool
  | [], _, [] => true
  | f :: fs, o, s :: l => f.offset == o && s.size == P.cellsOf f.type && (P.info? f.type).isSome && layout P fs (o + s.size) l
  | _, _, _ => false

theorem layout_ok : ∀ (fs : List Field) (L : List Sh) (k : Nat), layout P fs (Sh.sizes (L.take k)) (L.drop k) = true →
    ∀ i s, L[k + i]? = some s → ∃ f, fs[i]? = some f ∧ f.offset = Sh.sizes (L.take (k + i)) ∧ P.cellsOf f.type = s.size ∧ (P.info? f.type).isSome = true
  | fs, L, k, h, i, s, hi => by
    have hk : k + i < L.length := (List.getElem?_eq_some_iff.1 hi).1
    generalize hl : L.drop k = l at h
    cases l with
    | nil => have := congrArg List.length hl; simp at this; omega
    | cons x l =>
      cases fs with
      | nil => simp [layout] at h
      | cons f fs =>
        simp only [layout, Bool.and_eq_true, beq_iff_eq] at h
        obtain ⟨⟨⟨h1, h2⟩, h3⟩, h4⟩ := h
        have hLk : L[k]? = some x := by have := congrArg (·[0]?) hl; simpa using this
        cases i with
        | zero =>
          rw [Nat.add_zero, hLk] at hi; cases hi
          exact ⟨f, rfl, h1, h2.symm, h3⟩
        | succ i =>
          have hsz : Sh.sizes (L.take (k + 1)) = Sh.sizes (L.take k) + x.size := by
            rw [List.take_add_one, hLk, Sh.sizes_append]; simp [Sh.sizes]
          have hd : L.drop (k + 1) = l := by rw [← List.drop_drop, hl]; rfl
          obtain ⟨g, g1, g2⟩ := layout_ok fs L (k + 1) (by rw [hsz, hd]; exact h4) i s (by rw [← hi]; congr 1; omega)
          exact ⟨g, by simpa using g1, by rw [show k + (i + 1) = k + 1 + i by omega]; exact g2⟩
  termination_by fs => fs.length

def evBuild (P : Program) (t : TypeId) (parts : List (Nat × AV)) : Option AV :=
  match evZero P t with
  | some z => match P.underlying t, z with
    | some (.struct fs), .agg l => bif layout P fs.toList 0 (AV.shapes l) then evParts .fld none parts (.agg l) else none
    | some (.array n e), .arr n' s f => if n' = n ∧ s.size = P.cellsOf e ∧ (P.info? e).isSome = true then evParts .idx (some n) parts (.arr n' s f) else none
    | _, _ => none
  | none => none

theorem mapM_places {w : World} (fs : List Field) (h : ∀ f ∈ fs, (P.info? f.type).isSome = true) :
    (fs.mapM fun f => (do pure (f.offset, ← sizeOf f.type) : Sem (Nat × Nat))).run P w = .ok (fs.map fun f => (f.offset, P.cellsOf f.type)) w := by
  induction fs with
  | nil => simp
  | cons f fs ih =>
    obtain ⟨i, hi⟩ := Option.isSome_iff_exists.1 (h f (by simp))
    rw [List.mapM_cons]
    simp only [Sem.run_bind, run_sizeOf w hi, Result.andThen_ok, Sem.run_pure, ih fun g hg => h g (by simp [hg]), List.map_cons]

theorem layout_infos : ∀ (fs : List Field) (o : Nat) (l : List Sh), layout P fs o l = true → ∀ f ∈ fs, (P.info? f.type).isSome = true
  | [], _, _, _, f, hf => by cases hf
  | g :: fs, o, l, h, f, hf => by
    cases l with
    | nil => simp [layout] at h
    | cons s l =>
      simp only [layout, Bool.and_eq_true] at h
      rcases List.mem_cons.1 hf with rfl | hf
      · exact h.1.2
      · exact layout_infos fs _ l h.2 f hf

theorem evBuild_ok {w : World} {t : TypeId} {parts : List (Nat × AV)} {vals : Array (Nat × Value)} {r : AV} (h : evBuild P t parts = some r)
    (hall : All2 (fun (x : Nat × AV) (y : Nat × Value) => x.1 = y.1 ∧ VR3 ρ x.2 y.2) parts vals.toList) :
    ∃ rv, (Instr.build t vals).run P w = .ok rv w ∧ VR3 ρ r rv := by
  unfold evBuild at h
  split at h <;> try (cases h; done)
  rename_i z hz
  obtain ⟨i, zv, hi, hzv, hw, hval0, hvr0, hm⟩ := evZero_ok (ρ := ρ) hz
  clear hval0 hvr0
  split at h <;> try (cases h; done)
  · rename_i fs l hu
    cases hl : layout P fs.toList 0 (AV.shapes l) with
    | false => rw [hl] at h; cases h
    | true =>
    rw [hl, cond_true] at h
    have hlay := layout_ok (P := P) fs.toList (AV.shapes l) 0 (by simpa [Sh.sizes] using hl)
    obtain ⟨cs, g1, g2, g3, g4⟩ := fill_ok (ρ := ρ) (pe := .fld) (lim := none) (S := .agg (AV.shapes l)) (pl := fun i => (fs.toList.map fun f => (f.offset, P.cellsOf f.type))[i]?) (fun i s hat _ => by
      simp only [Sh.at] at hat
      split at hat <;> try (cases hat; done)
      rename_i s' hs'
      simp at hat; subst hat
      obtain ⟨f, k1, k2, k3, _⟩ := hlay i s' (by rw [Nat.zero_add]; exact hs')
      rw [Nat.zero_add] at k2
      exact ⟨f.offset, by simp only [List.getElem?_map, k1, Option.map_some, k3], ⟨s', 0, hs', ⟨rfl, rfl⟩, by rw [k2]; omega⟩⟩) parts vals.toList (.agg l) r zv.cells h hall hw rfl hm
    refine ⟨.agg cs, ?_, ?_⟩
    · simp only [Instr.build, Sem.run_bind, run_zeroValue hi hzv, run_underlying hu, Result.andThen_ok]
      rw [← Array.toArray_toList (xs := fs), List.mapM_toArray]
      simp only [Sem.run_map, mapM_places fs.toList (layout_infos _ _ _ hl), Result.andThen_ok, List.getElem?_toArray]
      rw [g1]; rfl
    · cases r <;> simp only [AV.shape] at g3 <;> try (cases g3; done)
      exact ⟨g2, cs, rfl, g4⟩
  · rename_i n e n' s f hu
    split at h <;> try (cases h; done)
    rename_i hcc
    obtain ⟨rfl, c2, c3⟩ := hcc
    obtain ⟨inf, hinf⟩ := Option.isSome_iff_exists.1 c3
    obtain ⟨cs, g1, g2, g3, g4⟩ := fill_ok (ρ := ρ) (pe := .idx) (lim := some n') (S := .arr n' s) (pl := fun i => some (i * P.cellsOf e, P.cellsOf e)) (fun i s' hat hlt => by
      simp only [Sh.at, Option.some.injEq] at hat
      subst hat
      exact ⟨i * P.cellsOf e, by rw [c2], ⟨0, by simpa [inLim] using hlt, ⟨rfl, rfl⟩, by rw [c2]; omega⟩⟩) parts vals.toList (.arr n' s f) r zv.cells h hall hw rfl hm
    refine ⟨.agg cs, ?_, ?_⟩
    · simp only [Instr.build, Sem.run_bind, run_zeroValue hi hzv, run_underlying hu, Result.andThen_ok, run_sizeOf w hinf]
      rw [g1]; rfl
    · cases r <;> simp only [AV.shape] at g3 <;> try (cases g3; done)
      exact ⟨g2, cs, rfl, g4⟩

end
end Go.Ev
