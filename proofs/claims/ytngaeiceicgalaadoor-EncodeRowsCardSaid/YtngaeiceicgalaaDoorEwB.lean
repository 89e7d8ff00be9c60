/-
  Arguments that have come in, slices among them: what they are; the contract of a function that only reads them and answers true. Own text; nothing of a program.
-/
import Derived.Test.YtngaeiceicgalaaDoorEwA
import Derived.Carry
import Derived.ChangeOld
import Derived.ChangeArms
namespace Go.Ev
open Go.RowKit
section
variable {P : Program}
variable {H : Type} {enc : TypeId × Value → H}

/-- What a parameter is: a value without memory, a slice of such ones. -/
inductive Prm where
  | pl (s : Sh)
  | sli (s : Sh)
/-- What came. -/
inductive Dat where
  | pl (a : AV)
  | no
  | sl (n : Nat) (f : Nat → AV)

def Dat.Is : Prm → Dat → Prop
  | .pl s, .pl a => Of s a
  | .sli _, .no => True
  | .sli s, .sl n f => n ≤ maxLen ∧ ∀ i, Of s (f i)
  | _, _ => False

/-- The arguments, slices by their blocks' numbers from one on. -/
def opA : List Dat → Nat → List AV
  | [], _ => []
  | .pl a :: r, k => a :: opA r k
  | .no :: r, k => .nsl :: opA r k
  | .sl n _ :: r, k => .sl k [] 0 n false :: opA r (k + 1)
def opM : List Prm → List Dat → Mem → Mem
  | .sli s :: ps, .sl n f :: ds, m => opM ps ds (m.add (.cells (.arr n s f) false))
  | _ :: ps, _ :: ds, m => opM ps ds m
  | _, _, m => m

def prmT (P : Program) (d : Nat) (t : TypeId) : Option Prm := match P.underlying t with
  | some (.slice e) => match shT P d e with
    | some s => bif Nat.beq s.size (P.cellsOf e) && !s.hasRef then some (.sli s) else none
    | none => none
  | _ => match shT P d t with
    | some s => some (.pl s)
    | none => none
def prmTs (P : Program) (d : Nat) : List TypeId → Option (List Prm)
  | [] => some []
  | t :: r => match prmT P d t, prmTs P d r with
    | some p, some l => some (p :: l)
    | _, _ => none

theorem Addr_add {a : Addr} (h : a.spot = none) (n : Nat) : a.add n = ⟨a.block, a.off + n, none⟩ := by
  cases a
  simp only at h
  subst h
  unfold Addr.add
  split
  · subst_vars; rfl
  · rfl

theorem Rep.addR {ρ : Ren} {A : Nat → Prop} {m : Mem} {w : World} (h : Rep ρ A m w) (hro : ∀ i b, m.get i = some b → b.wr = false) {bb bo room : Nat} {sh : Sh} {b : Blk} (hb0 : b.wr = false)
    (hb : BlkOk (ρ.add bb bo sh room) A w ρ.n b) : Rep (ρ.add bb bo sh room) A (m.add b) w := by
  have hle := Ren.le_add h.lt bb bo sh room
  have hget : ∀ id b', (m.add b).get id = some b' → (id = m.n ∧ b' = b) ∨ (id ≠ m.n ∧ m.get id = some b') := fun id b' hb' => by
    rcases Tr.get_set (some b) m.t m.n id b' hb' with ⟨h1, h2⟩ | ⟨h1, h2⟩
    · exact .inl ⟨h1, (Option.some.inj h2).symm⟩
    · exact .inr ⟨h1, h2⟩
  refine ⟨by simp [Ren.add, Mem.add, h.n], fun id hid => ?_, fun id b' hb' => ?_, fun i j bi bj hi hj hij hwr => ?_, h.new, h.tab⟩
  · rcases hid with h1 | h1
    · subst h1; exact Nat.lt_succ_self _
    · exact Nat.lt_succ_of_lt (h.lt id h1)
  · rcases hget id b' hb' with ⟨rfl, rfl⟩ | ⟨h1, h2⟩
    · rw [← h.n]
      exact ⟨.inl rfl, hb⟩
    · obtain ⟨g1, g2⟩ := h.blk id b' h2
      exact ⟨.inr g1, g2.later g1 hle rfl⟩
  · exfalso
    rcases hget i bi hi with ⟨_, rfl⟩ | ⟨_, h2⟩
    · rw [hb0] at hwr; cases hwr
    · rw [hro i bi h2] at hwr; cases hwr

theorem cells?_at {w : World} {a : Addr} {n : Nat} {cs : List Value} (h : w.cells? 0 a n = some cs) (r : Nat) (v : Value) (hv : cs[r]? = some v) : w.cell? (a.add r) = some v := by
  unfold World.cells? at h
  rw [if_pos (Nat.zero_le _)] at h
  have := mapM_all2 h
  have hl := this.len
  simp at hl
  have hr : r < n := by
    rw [hl]; exact (List.getElem?_eq_some_iff.1 hv).1
  obtain ⟨b, h1, h2⟩ := this.get (i := r) (a := r) (by simp [hr])
  rw [hv] at h1; cases h1
  exact h2

/-- A slice's elements, as values. -/
theorem slice_elems {W : World} {d : Nat} {e : TypeId} {s : Sh} (hs : shT P d e = some s) (hsz : s.size = P.cellsOf e) {a : Addr} (hspot : a.spot = none) {n len : Nat} {elems : List (DataW H × List MemPlace)} (hlen : elems.length = len)
    (hel : ∀ i, i < len → (W.cells? 0 (a.add (i * P.cellsOf e)) (P.cellsOf e)).bind (DataW.trod enc P W 0 (fun _ => true) true n e) = elems[i]?) :
    ∃ f : Nat → AV, (∀ i, Of s (f i)) ∧ ∀ i r v, i < len → (f i).flat[r]? = some v → ∃ rv, W.cell? ⟨a.block, a.off + (i * s.size + r), none⟩ = some rv ∧ VR1 Ren.nil v rv := by
  have each : ∀ i, ∃ x : AV, Of s x ∧ (i < len → ∀ r v, x.flat[r]? = some v → ∃ rv, W.cell? ⟨a.block, a.off + (i * s.size + r), none⟩ = some rv ∧ VR1 Ren.nil v rv) := fun i => by
    by_cases hi : i < len
    · obtain ⟨y, hy⟩ : ∃ y, elems[i]? = some y := ⟨_, List.getElem?_eq_getElem (by omega)⟩
      have := hel i hi
      rw [hy, Option.bind_eq_some_iff] at this
      obtain ⟨cs, h1, h2⟩ := this
      obtain ⟨_, _, x, h3, h4⟩ := trod_plain (ρ := Ren.nil) d n e s cs y hs h2
      refine ⟨x, h3, fun _ r v hv => ?_⟩
      obtain ⟨rv, h5, h6⟩ := h4.get hv
      refine ⟨rv, ?_, h6⟩
      have := cells?_at h1 r rv h5
      rw [Addr_add hspot, Addr_add rfl, ← hsz] at this
      rw [← this]
      simp [Nat.add_assoc]
    · obtain ⟨x, hx⟩ := dflt s (trod_plain.shT_flat (P := P) hs)
      exact ⟨x, hx, fun h => absurd h hi⟩
  exact ⟨fun i => Classical.choose (each i), fun i => (Classical.choose_spec (each i)).1, fun i r v hi hv => (Classical.choose_spec (each i)).2 hi r v hv⟩

theorem open_mem {W : World} {b0 d : Nat} {A : Nat → Prop} : ∀ {ts : List TypeId} {prms : List Prm} {vs : List Value} {ds : List (DataW H)} {ps : List MemPlace}, prmTs P d ts = some prms →
    DataW.TrodAll enc P W 0 (fun _ => true) true ts vs ds ps → (∀ (j : Nat) t v, ts[j]? = some t → vs[j]? = some v → Value.okWide P W .any b0 t v) →
    ds.length = ts.length ∧ ∃ es, All2 Dat.Is prms es ∧ ∀ (ρ : Ren) (m : Mem), Rep ρ A m W → (∀ i b, m.get i = some b → b.wr = false) → ∃ ρ' : Ren, ρ.ext ρ' ∧ Rep ρ' A (opM prms es m) W ∧ All2 (VR3 ρ') (opA es m.n) vs
  | [], prms, vs, ds, ps, hs, h, _ => by
    cases hs
    match vs, ds, h with
    | [], [], h => exact ⟨rfl, [], trivial, fun ρ m hR _ => ⟨ρ, Ren.ext.refl ρ, hR, trivial⟩⟩
  | t :: ts, prms, vs, ds, ps, hs, h, hok => by
    simp only [prmTs] at hs
    split at hs <;> try (cases hs; done)
    rename_i p l h1 h2
    cases hs
    match vs, ds, h with
    | v :: vs, dd :: ds, ⟨p1, q, ⟨fuel, h3⟩, h4, h5⟩ =>
    obtain ⟨k1, es, k2, k3⟩ := open_mem h2 h4 fun j t v ht hv => hok (j + 1) t v ht hv
    refine ⟨by simp [k1], ?_⟩
    have hok0 := hok 0 t v rfl rfl
    unfold prmT at h1
    split at h1
    · rename_i e hu
      split at h1 <;> try (cases h1; done)
      rename_i s hsh
      cases hb : Nat.beq s.size (P.cellsOf e) && !s.hasRef with
      | false => rw [hb] at h1; cases h1
      | true =>
      rw [hb, cond_true] at h1; cases h1
      simp only [Bool.and_eq_true, Nat.beq_eq, Bool.not_eq_true'] at hb
      obtain ⟨oa, len, cap, rfl⟩ := Go.WideShapes.okWide_slice hu hok0
      have hcs : (Value.slice oa len cap).cells.toList = [.slice oa len cap] := rfl
      rw [hcs] at h3
      rcases DataW.trod_slice hu h3 with ⟨h0, _⟩ | ⟨a, len', cap', elems, rest, n, _, h0, _, hb0, hl, hm, hlen, hel, _, _⟩
      · cases h0
        refine ⟨.no :: es, ⟨trivial, k2⟩, fun ρ m hR hro => ?_⟩
        obtain ⟨ρ', g1, g2, g3⟩ := k3 ρ m hR hro
        exact ⟨ρ', g1, g2, ⟨rfl, g3⟩⟩
      · cases h0
        have hhas : W.has P .any b0 a e cap := by
          simp only [Value.okWide, hu, Cell.okWide, Cell.ok] at hok0
          exact hok0.2.2
        obtain ⟨_, hspot, row, cells, hshape, _⟩ := hhas
        obtain ⟨f, hf1, hf2⟩ := slice_elems hsh hb.1 hspot hlen hel
        refine ⟨.sl len f :: es, ⟨⟨by omega, hf1⟩, k2⟩, fun ρ m hR hro => ?_⟩
        have hwf : (AV.arr len s f).wf := fun i => ⟨(hf1 i).1, (hf1 i).2.1⟩
        have hpl : plain (.arr len s f) = true := by simp [plain, hb.2]
        have hflen : ∀ i, i < len → (f i).flat.length = s.size := fun i _ => by rw [AV.flat_len _ (hf1 i).1, (hf1 i).2.1]
        have hbo : BlkOk (ρ.add a.block a.off (.arr len s) 0) A W ρ.n (.cells (.arr len s f) false) := by
          have e1 : (ρ.add a.block a.off (.arr len s) 0).bb ρ.n = a.block := by simp [Ren.add]
          have e2 : (ρ.add a.block a.off (.arr len s) 0).bo ρ.n = a.off := by simp [Ren.add]
          have e3 : (ρ.add a.block a.off (.arr len s) 0).sh ρ.n = .arr len s := by simp [Ren.add]
          simp only [BlkOk]
          rw [e1, e2, e3]
          refine ⟨rfl, hwf, ?_, fun r v hv => ?_, fun h => by cases h⟩
          · unfold World.shape? at hshape
            split at hshape <;> try (cases hshape; done)
            rename_i hc
            exact ⟨_, _, _, hc⟩
          · have hfl := AV.flat_len (.arr len s f) hwf
            have hr := (List.getElem?_eq_some_iff.1 hv).1
            rw [hfl] at hr
            have hr : r < len * s.size := hr
            have hz : 0 < s.size := by
              rcases Nat.eq_zero_or_pos s.size with h | h
              · rw [h, Nat.mul_zero] at hr; omega
              · exact h
            have hi : r / s.size < len := (Nat.div_lt_iff_lt_mul hz).2 hr
            have hdm : r / s.size * s.size + r % s.size = r := by rw [Nat.mul_comm]; exact Nat.div_add_mod r s.size
            have hv' : (f (r / s.size)).flat[r % s.size]? = some v := by
              have := flatMap_at len s.size (fun i => (f i).flat) hflen (r / s.size) (r % s.size) hi (Nat.mod_lt _ hz)
              rw [hdm] at this
              rw [← this]; exact hv
            obtain ⟨rv, q1, q2⟩ := hf2 _ _ _ hi hv'
            refine ⟨rv, ?_, VR1_same (flat_plain (.arr len s f) hwf hpl v (List.mem_of_getElem? hv)) q2⟩
            rw [hdm] at q1
            exact q1
        have hR1 := hR.addR hro (b := .cells (.arr len s f) false) rfl hbo
        obtain ⟨ρ', g1, g2, g3⟩ := k3 _ _ hR1 fun i b hi => by
          have hi' : (m.t.set (some (.cells (.arr len s f) false)) m.n).get i = some b := hi
          rcases Tr.get_set (some (.cells (.arr len s f) false)) m.t m.n i b hi' with ⟨_, h2⟩ | ⟨_, h2⟩
          · cases h2; rfl
          · exact hro i b h2
        refine ⟨ρ', (Ren.ext_add hR.lt _ _ _ _).trans g1, g2, ⟨?_, g3⟩⟩
        have hn : m.n = ρ.n := hR.n.symm
        have hd : (ρ.add a.block a.off (.arr len s) 0).dom m.n := .inl hn
        refine VR3.mono g1.tole (.sl m.n [] 0 len false) _ ?_
        refine ⟨hd, len, s, 0, a.off, cap, ?_, by omega, hl, ?_, fun _ => ?_, fun h => by cases h⟩
        · show PathTo ((ρ.add a.block a.off (.arr len s) 0).sh m.n) [] (.arr len s) 0
          rw [hn]; simp [Ren.add, PathTo]
        · rw [hn]
          cases a
          simp only at hspot
          subst hspot
          simp [Ren.add]
        · rw [hn]; simp [Ren.add]
    · split at h1 <;> try (cases h1; done)
      rename_i s hsh
      cases h1
      obtain ⟨_, g1, a, g2, g3⟩ := trod_plain (ρ := Ren.nil) d fuel t s _ _ hsh h3
      refine ⟨.pl a :: es, ⟨g2, k2⟩, fun ρ m hR hro => ?_⟩
      obtain ⟨ρ', q1, q2, q3⟩ := k3 ρ m hR hro
      obtain ⟨_, _, a', g2', g3'⟩ := trod_plain (ρ := ρ') d fuel t s _ _ hsh h3
      refine ⟨ρ', q1, q2, ⟨?_, q3⟩⟩
      have hflat : All2 (VR1 ρ') a.flat v.cells.toList := g3.mono_mem fun x hx b hb => VR1_flat (trod_plain.shT_flat (P := P) hsh) g2 hx hb
      exact Reads1.val hsh hok0 g2 hflat
  where
  VR1_flat {ρ : Ren} {s : Sh} {a : AV} (hs : s.flatB = true) (ha : Of s a) {x : AV} (hx : x ∈ a.flat) {b : Value} (hb : VR1 Ren.nil x b) : VR1 ρ x b := by
    have hr : s.hasRef = false := flatB_ref s hs
    exact VR1_same (flat_shape a ha.1 (by rw [ha.2.1]; exact hr) x hx) hb
  flatB_ref : ∀ (s : Sh), s.flatB = true → s.hasRef = false
    | .int _, _ => rfl
    | .bool, _ => rfl
    | .str, _ => rfl
    | .ref, h => by cases h
    | .agg l, h => flatBs_ref l h
    | .arr _ s, h => flatB_ref s h
  flatBs_ref : ∀ (l : List Sh), Sh.flatBs l = true → Sh.hasRef.Sh.hasRefs l = false
    | [], _ => rfl
    | s :: l, h => by
      simp only [Sh.flatBs, Bool.and_eq_true] at h
      simp [Sh.hasRef.Sh.hasRefs, flatB_ref s h.1, flatBs_ref l h.2]

theorem Below.trodAll (hl : laidOutB P = true) {W W' : World} (hb : Below W.heap.size W W') : ∀ {ts : List TypeId} {vs : List Value} {ds : List (DataW H)} {ps : List MemPlace},
    (∀ t ∈ ts, P.readableRec t = true ∧ t < P.types.size) → DataW.TrodAll enc P W 0 (fun _ => true) true ts vs ds ps → DataW.TrodAll enc P W' 0 (fun b => decide (b < W.heap.size)) true ts vs ds ps
  | [], [], [], _, _, h => h
  | t :: ts, v :: vs, d :: ds, ps, hT, ⟨p, q, h1, h2, e⟩ => by
    have ht := hT t List.mem_cons_self
    refine ⟨p, q, hb.trod hl ht.1 ht.2 h1 fun x hx => ?_, Below.trodAll hl hb (fun t ht => hT t (List.mem_cons_of_mem _ ht)) h2, e⟩
    obtain ⟨n, hn⟩ := h1
    exact DataW.trod_lt n _ _ _ hn x hx

theorem Small.calls {f : FuncId} {fn : Func} {c : Code} (hf : Plain P f fn) (hb : fn.body = some c) {args : List AV} {m m' : Mem} {v : AV} (h : Small P f args m v m') {ρ : Ren} {A : Nat → Prop} {W : World} (hR : Rep ρ A m W) {vals : List Value} (ha : All2 (VR3 ρ) args vals) :
    Calls P f vals.toArray W fun e W' => ∃ ρ' rv, e = .returned rv ∧ Upd A W W' ∧ VR3 ρ' v rv := by
  rcases h ρ A W vals hR ha with ⟨ρ', rv, w', nx, h1, h2, _⟩ | ⟨f', args', h1, h2⟩
  · rw [callFunc_run hf hb] at h1
    cases h1
    rcases h2 with h2 | ⟨h2, _⟩ <;> cases h2
  · rw [callFunc_run hf hb] at h1
    cases h1
    exact h2.mono fun e W' ⟨ρ', rv, g1, _, _, g4, g5⟩ => ⟨ρ', rv, g1, g4, g5⟩

/-- The contract of a function that reads its arguments and answers true. -/
theorem mem_contract {f : FuncId} {fn : Func} {c : Code} (hf : Plain P f fn) (hb : fn.body = some c) {d : Nat} {prms : List Prm} (hsh : prmTs P d fn.params.toList = some prms) {tb : TypeId} (hres : fn.resultTypes = #[tb])
    (htb : P.underlying tb = some .bool) {s : ChangeSpec} (hv : s.vars = []) (hfn : ∀ ds : List (DataW H), ds.length = fn.params.size → s.fn H ds = { results := [.lit (.bool true)], args := ds })
    (hlay : laidOutB P = true) (hread : ∀ t ∈ fn.params.toList, P.readableRec t = true ∧ t < P.types.size)
    (law : ∀ es, All2 Dat.Is prms es → ∃ m', Small P f (opA es 0) (opM prms es Mem.empty) (.bl true) m') {apart fresh handsOn : Bool} (W : World) (args : Array Value) (ds gs : List (DataW H)) (before : List MemPlace) {base : Nat}
    (hok : ∀ (j : Nat) t v, fn.params[j]? = some t → args[j]? = some v → Value.okWide P W .any base t v) (hW : DataW.Whole enc P fn.params.toList s.vars apart W args.toList ds gs before)
    (ht : Held (fun b => W.heap.size ≤ b) W := by exact held_nil rfl) :
    Calls P f args W fun e W' => ∃ v, e = .returned v ∧ s.post enc P fn apart fresh handsOn false W args v W' := by
  have hW0 := hW
  obtain ⟨p, q, hA, hV, rfl, hz, hn⟩ := hW
  obtain ⟨hlen, es, h1, h2⟩ := open_mem (A := fun b => W.heap.size ≤ b) hsh hA (b0 := base) fun j t v ht hv => hok j t v (by simpa using ht) (by simpa using hv)
  obtain ⟨ρ', _, g2, g3⟩ := h2 Ren.nil Mem.empty (Rep.nil ht) fun i b h => by (simp only [Mem.get, Mem.empty, Tr.get_mk] at h; cases h)
  obtain ⟨m', hS⟩ := law es h1
  have hgs : gs = [] ∧ q = [] := by
    rw [hv] at hV
    match gs, hV with
    | [], hV => exact ⟨rfl, hV⟩
  obtain ⟨rfl, rfl⟩ := hgs
  have hc := hS.calls hf hb g2 g3
  rw [Array.toArray_toList] at hc
  refine hc.mono fun e W' ⟨ρ', rv, he, hu, hrv⟩ => ?_
  have hrv : rv = .bool true := hrv
  subst hrv
  have hbel : Below W.heap.size W W' := ⟨hu.os, hu.tape, hu.out, hu.size, fun k hk => hu.old k hk (by omega)⟩
  refine ⟨_, he, ds, [], p ++ [], [], p, [], hW0, ?_, ?_, ?_, kept_upd hu _, fun h => by cases h⟩
  · rw [List.append_nil, hfn ds (by simpa using hlen), hres]
    exact ⟨[], [], ⟨1, by simp [DataW.trod, Value.cells, htb]⟩, rfl, rfl⟩
  · rw [List.append_nil, hfn ds (by simpa using hlen)]
    exact Below.trodAll hlay hbel hread hA
  · rw [List.append_nil, hfn ds (by simpa using hlen), hv]
    rfl
end
end Go.Ev
