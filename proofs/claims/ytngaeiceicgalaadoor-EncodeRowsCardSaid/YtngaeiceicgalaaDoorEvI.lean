/-
  The evaluator's operations that make or write memory (third part): rows. Own text; nothing of a program.
-/
import Derived.Test.YtngaeiceicgalaaDoorEvH
namespace Go.Ev
section
variable {P : Program} {ρ : Ren}

/-- A row of alike cells. -/
theorem const_row {z : AV} {zv : Array Value} (hw : z.wf) (hm : All2 (VR1 ρ) z.flat zv.toList) (n : Nat) :
    All2 (VR1 ρ) (AV.arr n z.shape fun _ => z).flat ((Array.range (n * z.shape.size)).map (zv[· % zv.size]!)).toList := by
  have hl := AV.flat_len z hw
  have hs : zv.size = z.shape.size := by rw [← Array.length_toList, ← hm.len, hl]
  have hfl : (AV.arr n z.shape fun _ => z).flat.length = n * z.shape.size := flatMap_len n z.shape.size _ fun i _ => hl
  refine All2.of_get (by simp [hfl]) fun r a ha => ?_
  have hr : r < n * z.shape.size := by rw [← hfl]; exact (List.getElem?_eq_some_iff.1 ha).1
  have hz : 0 < z.shape.size := by
    rcases Nat.eq_zero_or_pos z.shape.size with h | h
    · rw [h] at hr; simp at hr
    · exact h
  have hdm := Nat.div_add_mod r z.shape.size
  have hj : r / z.shape.size < n := Nat.div_lt_of_lt_mul (by rw [Nat.mul_comm]; exact hr)
  have hq : r % z.shape.size < z.shape.size := Nat.mod_lt _ hz
  have := flatMap_at n z.shape.size (fun _ => z.flat) (fun _ _ => hl) (r / z.shape.size) (r % z.shape.size) hj hq
  rw [Nat.mul_comm, hdm] at this
  simp only [AV.flat] at ha
  rw [this] at ha
  obtain ⟨b, hb, hr'⟩ := hm.get ha
  refine ⟨b, ?_, hr'⟩
  simp only [Array.toList_map, List.getElem?_map, Array.getElem?_toList, Array.getElem?_range, hr, if_true, Option.map_some, hs]
  rw [Array.getElem?_toList] at hb
  rw [getElem!_def, hb]

def evBuildSlice (P : Program) (m : Mem) (t : TypeId) (len : Nat) (parts : List (Nat × AV)) : Option (AV × Mem) :=
  match P.underlying t with
  | some (.slice e) => match evZero P e with
    | some z =>
      if z.shape.size = P.cellsOf e ∧ 0 < z.shape.size ∧ len * z.shape.size ≤ 16777216 then
        match evParts .idx (some len) parts (.arr len z.shape fun _ => z) with
        | some r => some (.sl m.n [] 0 len true, m.add (.cells r true))
        | none => none
      else none
    | none => none
  | _ => none

theorem did_buildSlice {A : Nat → Prop} {w : World} {m m' : Mem} (hR : Rep ρ A m w) {t : TypeId} {len : Nat} {parts : List (Nat × AV)} {vals : Array (Nat × Value)} {r : AV}
    (h : evBuildSlice P m t len parts = some (r, m')) (hall : All2 (fun (x : Nat × AV) (y : Nat × Value) => x.1 = y.1 ∧ VR3 ρ x.2 y.2) parts vals.toList) :
    Did P ρ A w (Instr.buildSlice t len vals) r m' := by
  unfold evBuildSlice at h
  split at h <;> try (cases h; done)
  rename_i e hu
  split at h <;> try (cases h; done)
  rename_i z hz
  split at h <;> try (cases h; done)
  rename_i hc
  split at h <;> try (cases h; done)
  rename_i r' hp
  cases h
  obtain ⟨c1, c2, c3⟩ := hc
  obtain ⟨i, zv, hi, hzv, hw, hval0, hvr0, hm⟩ := evZero_ok (ρ := ρ) hz
  have hrow := const_row (ρ := ρ) hw hm len
  obtain ⟨cs, g1, g2, g3, g4⟩ := fill_ok (ρ := ρ) (pe := .idx) (lim := some len) (S := .arr len z.shape) (pl := fun i => some (i * P.cellsOf e, P.cellsOf e)) (fun i s' hat hlt => by
    simp only [Sh.at, Option.some.injEq] at hat
    subst hat
    exact ⟨i * P.cellsOf e, by rw [c1], ⟨0, by simpa [inLim] using hlt, ⟨rfl, rfl⟩, by rw [c1]; omega⟩⟩) parts vals.toList _ r' _ hp hall (fun _ => ⟨hw, rfl⟩) rfl hrow
  obtain ⟨k1, k2⟩ := hR.alloc (e := e) g2 g4
  refine ⟨_, .slice (some ⟨w.heap.size, 0, none⟩) len len, _, ?_, Ren.ext_add hR.lt _ _ _ _, k1, k2, ?_⟩
  · simp only [Instr.buildSlice, Sem.run_bind, run_underlying hu, run_sizeOf w hi, Result.andThen_ok]
    rw [← c1]
    rw [if_neg (by omega)]
    by_cases h0 : len * z.shape.size = 0
    · have hlen : len = 0 := by
        rcases Nat.mul_eq_zero.1 h0 with h | h
        · exact h
        · omega
      subst hlen
      rw [if_pos h0]
      have e0 : ∀ (f : Nat → Value), Array.map f (Array.range 0) = #[] := fun f => by simp
      simp only [Nat.zero_mul, e0] at g1
      simp only [Nat.zero_mul, e0, Sem.run_bind, Sem.run_pure, Result.andThen_ok]
      rw [c1, g1]
      simp only [Sem.run_bind, run_newRow, Result.andThen_ok]; rfl
    · rw [if_neg h0]
      simp only [Sem.run_bind, run_zeroValue hi hzv, Result.andThen_ok, Sem.run_pure]
      rw [c1] at g1 ⊢
      rw [g1]
      simp only [Sem.run_bind, run_newRow, Result.andThen_ok]; rfl
  · rw [← hR.n]
    refine ⟨by simp [Ren.add], len, z.shape, 0, 0, len, ?_, by omega, Nat.le_refl _, ?_, fun _ => ?_, fun _ => ⟨rfl, by omega, fun _ => ?_⟩⟩
    · simp only [Ren.add, if_true]; rw [g3]; exact ⟨rfl, rfl⟩
    · simp [Ren.add]
    · simp [Ren.add]
    · simp only [Ren.add, if_true]; rw [g3]; simp [Sh.size]

def evMakeSlice (P : Program) (m : Mem) (t : TypeId) (l c : AV) : Option (Option Bool × AV × Mem) :=
  match P.underlying t, l, c with
  | some (.slice e), .it .i64 l, .it .i64 c => match evZero P e with
    | some z =>
      if z.shape.size = P.cellsOf e ∧ 0 < z.shape.size ∧ P.bytesOf e ≤ 1024 then
        some (some (iLe 0 l && (iLe l c && iLe c 4294967296)), .sl m.n [] 0 l.toNat true, m.add (.cells (.arr l.toNat z.shape fun _ => z) true))
      else none
    | none => none
  | _, _, _ => none

theorem wrap_i64 {x : Int} (h0 : 0 ≤ x) (h1 : x ≤ 4294967296) : IntKind.i64.wrap x = x := by
  simp [IntKind.wrap, IntKind.bits, IntKind.signed]; omega

/-- A row is made with room. -/
theorem Rep.allocRoom {A : Nat → Prop} {w : World} {m : Mem} (hR : Rep ρ A m w) {a : AV} {cs : Array Value} {e : TypeId} (hw : a.wf)
    (hc : ∀ (r : Nat) (v : AV), a.flat[r]? = some v → ∃ rv : Value, cs[r]? = some rv ∧ VR1 ρ v rv) (hsz : a.shape.size ≤ cs.size) :
    Rep (ρ.add w.heap.size 0 a.shape cs.size) A (m.add (.cells a true)) (w.alloc (.cells cs e)) ∧ Upd A w (w.alloc (.cells cs e)) := by
  have hle := Ren.le_add hR.lt w.heap.size 0 a.shape cs.size
  have hold : ∀ b, b < w.heap.size → (w.alloc (.cells cs e)).heap[b]? = w.heap[b]? := fun b hb => by
    show (w.heap.push _)[b]? = _
    rw [Array.getElem?_push, if_neg (by omega)]
  refine ⟨hR.add (by simp) (fun id b hb => hold _ (hR.blk id b hb).2.block_lt) (fun id b hb => Nat.ne_of_lt (hR.blk id b hb).2.block_lt) (fun b hb _ => hold b hb) ?_, by simp, fun b hb _ => hold b hb, rfl, rfl, rfl⟩
  have e1 : (ρ.add w.heap.size 0 a.shape cs.size).bb ρ.n = w.heap.size := by simp [Ren.add]
  have e2 : (ρ.add w.heap.size 0 a.shape cs.size).bo ρ.n = 0 := by simp [Ren.add]
  have e3 : (ρ.add w.heap.size 0 a.shape cs.size).sh ρ.n = a.shape := by simp [Ren.add]
  have e4 : (ρ.add w.heap.size 0 a.shape cs.size).room ρ.n = cs.size := by simp [Ren.add]
  simp only [BlkOk]
  rw [e1, e2, e3, e4]
  have hcell : ∀ r, (w.alloc (.cells cs e)).cell? ⟨w.heap.size, 0 + r, none⟩ = cs[r]? := fun r => by rw [Nat.zero_add]; exact World.cell?_alloc_new w cs e r
  refine ⟨rfl, hw, ⟨cs, e, (0, 0), heap_alloc_new w _⟩, fun r v hv => ?_, fun _ => ⟨hR.new _ (Nat.le_refl _), hsz, fun r hr => ⟨?_, ?_⟩⟩⟩
  · obtain ⟨rv, h1, h2⟩ := hc r v hv
    exact ⟨rv, by rw [hcell]; exact h1, h2.le hle⟩
  · exact ⟨cs[r], by rw [hcell]; exact Array.getElem?_eq_getElem hr⟩
  · rw [Nat.zero_add]; exact World.frozen?_alloc_new w cs e r

theorem VR3_newSlice (bb : Nat) (s : Sh) (room len c : Nat) (hl : len ≤ c) (hr : c * s.size ≤ room) :
    VR3 (ρ.add bb 0 (.arr len s) room) (.sl ρ.n [] 0 len true) (.slice (some ⟨bb, 0, none⟩) len c) := by
  refine ⟨by simp [Ren.add], len, s, 0, 0, c, ?_, by omega, hl, ?_, fun _ => ?_, fun _ => ⟨rfl, by omega, fun _ => ?_⟩⟩
  · simp only [Ren.add, if_true]; exact ⟨rfl, rfl⟩
  · simp [Ren.add]
  · simp [Ren.add]
  · simp only [Ren.add, if_true]; rw [Nat.zero_add]; exact hr

theorem did_makeSlice {A : Nat → Prop} {w : World} {m m' : Mem} (hR : Rep ρ A m w) {t : TypeId} {l c r : AV} {cd : Option Bool} {vl vc : Value}
    (h : evMakeSlice P m t l c = some (cd, r, m')) (hcd : cd = none ∨ cd = some true) (hl : VR3 ρ l vl) (hcv : VR3 ρ c vc) :
    Did P ρ A w (Instr.makeSlice t vl vc) r m' := by
  unfold evMakeSlice at h
  split at h <;> try (cases h; done)
  rename_i e l c hu
  split at h <;> try (cases h; done)
  rename_i z hz
  split at h <;> try (cases h; done)
  rename_i hc
  simp only [Option.some.injEq, Prod.mk.injEq] at h
  obtain ⟨rfl, rfl, rfl⟩ := h
  have hb := cond_of hcd
  simp only [iLe, Bool.and_eq_true] at hb
  have b1 := of_decide_eq_true hb.1
  have b2 := of_decide_eq_true hb.2.1
  have b3 := of_decide_eq_true hb.2.2
  obtain ⟨c1, c2, c3⟩ := hc
  obtain ⟨rfl, _⟩ := hl
  obtain ⟨rfl, _⟩ := hcv
  obtain ⟨i, zv, hi, hzv, hw, hval0, hvr0, hm⟩ := evZero_ok (ρ := ρ) hz
  have hwl := wrap_i64 (show 0 ≤ l by omega) (by omega)
  have hwc := wrap_i64 (show 0 ≤ c by omega) b3
  have hrow := const_row (ρ := ρ) hw hm c.toNat
  have hbytes : P.bytesOf e = i.bytes := by simp [Program.bytesOf, hi]
  have hbc : ((i.bytes : Int) * c) ≤ 1024 * 4294967296 := by
    rw [hbytes] at c3
    exact Int.mul_le_mul (by omega) b3 (by omega) (by omega)
  obtain ⟨k1, k2⟩ := hR.allocRoom (e := e) (a := .arr l.toNat z.shape fun _ => z) (cs := (Array.range (c.toNat * z.shape.size)).map (zv.cells[· % zv.cells.size]!)) (fun _ => ⟨hw, rfl⟩) (fun r v hv => by
    have hfl : ∀ n, (AV.arr n z.shape fun _ => z).flat.length = n * z.shape.size := fun n => flatMap_len n z.shape.size _ fun i _ => AV.flat_len z hw
    have hr : r < l.toNat * z.shape.size := by rw [← hfl]; exact (List.getElem?_eq_some_iff.1 hv).1
    have hdm := Nat.div_add_mod r z.shape.size
    have hq : r % z.shape.size < z.shape.size := Nat.mod_lt _ c2
    have hj : r / z.shape.size < l.toNat := Nat.div_lt_of_lt_mul (by rw [Nat.mul_comm]; exact hr)
    have q1 := flatMap_at l.toNat z.shape.size (fun _ => z.flat) (fun _ _ => AV.flat_len z hw) (r / z.shape.size) (r % z.shape.size) hj hq
    have q2 := flatMap_at c.toNat z.shape.size (fun _ => z.flat) (fun _ _ => AV.flat_len z hw) (r / z.shape.size) (r % z.shape.size) (by omega) hq
    rw [Nat.mul_comm, hdm] at q1 q2
    simp only [AV.flat] at hv hrow
    rw [q1, ← q2] at hv
    obtain ⟨rv, p1, p2⟩ := hrow.get hv
    exact ⟨rv, by rw [← Array.getElem?_toList]; exact p1, p2⟩) (by
    simp only [AV.shape, Sh.size, Array.size_map, Array.size_range]
    exact Nat.mul_le_mul_right _ (by omega))
  refine ⟨_, .slice (some ⟨w.heap.size, 0, none⟩) l.toNat c.toNat, _, ?_, Ren.ext_add hR.lt _ _ _ _, k1, k2, ?_⟩
  · have hcl : ¬ c < 0 := by omega
    have hcb : ¬ (2 ^ 48 : Int) < i.bytes * c := by omega
    have hll : ¬ l < 0 := by omega
    have hlc : ¬ l > c := by omega
    have hsz : z.shape.size = i.size := by rw [c1]; simp [Program.cellsOf, hi]
    have := run_make (P := P) w t e i zv hu hi hzv .i64 .i64 l c (by omega) (by omega) (by omega) (by omega)
    rw [hsz]
    exact this
  · rw [← hR.n]
    exact VR3_newSlice _ _ _ _ _ (by omega) (by simp)

end
end Go.Ev
