/-
  The evaluator's operations that make or write memory (second part). Own text; nothing of a program.
-/
import Derived.Test.YtngaeiceicgalaaDoorEvG
namespace Go.Ev
section
variable {P : Program} {ρ : Ren}

/-- A row of cells has been written. -/
structure Stored (w w' : World) (b o : Nat) (vs : List Value) : Prop where
  size : w'.heap.size = w.heap.size
  other : ∀ i, i ≠ b → w'.heap[i]? = w.heap[i]?
  same : ∀ c e fz, w.heap[b]? = some (.cells c e fz) → ∃ c', w'.heap[b]? = some (.cells c' e fz)
  cell : ∀ r, w'.cell? ⟨b, r, none⟩ = if o ≤ r ∧ r < o + vs.length then vs[r - o]? else w.cell? ⟨b, r, none⟩
  froz : ∀ a, w'.frozen? a = w.frozen? a
  os : w'.os = w.os
  out : w'.output = w.output
  tape : w'.tape = w.tape

theorem setCell_other_block (w : World) (a : Addr) (v : Value) (i : Nat) (h : i ≠ a.block) : (w.setCell a v).heap[i]? = w.heap[i]? := by
  simp only [World.setCell]
  rw [Array.getElem?_modify, if_neg (by omega)]

theorem run_storeCells {b : Nat} : ∀ (vs : List Value) (w : World) (o k : Nat), (∀ v ∈ vs, v.oneCell' = true) →
    (∀ r, r < vs.length → (∃ u, w.cell? ⟨b, o + k + r, none⟩ = some u) ∧ w.frozen? ⟨b, o + k + r, none⟩ = false) →
    ∃ w', (storeCells ⟨b, o, none⟩ vs k).run P w = .ok () w' ∧ Stored w w' b (o + k) vs
  | [], w, o, k, _, _ => ⟨w, rfl, rfl, fun _ _ => rfl, fun c e fz h => ⟨c, h⟩, fun r => by rw [if_neg (by simp only [List.length_nil]; omega)], fun _ => rfl, rfl, rfl, rfl⟩
  | v :: vs, w, o, k, hv, hc => by
    obtain ⟨⟨u, hu⟩, hf⟩ := hc 0 (by simp)
    rw [Nat.add_zero] at hu hf
    have hcell : ∀ r, (w.setCell ⟨b, o + k, none⟩ v).cell? ⟨b, r, none⟩ = if r = o + k then some v else w.cell? ⟨b, r, none⟩ := fun r => by
      by_cases hr : r = o + k
      · subst hr; rw [if_pos rfl]; exact World.cell?_setCell_same _ _ _ hu
      · rw [if_neg hr]; exact World.cell?_setCell_other _ _ _ _ (by intro he; apply hr; injection he with _ h2 _; exact h2.symm)
    obtain ⟨w', h1, h2⟩ := run_storeCells vs (w.setCell ⟨b, o + k, none⟩ v) o (k + 1) (fun x hx => hv x (List.mem_cons_of_mem _ hx)) (fun r hr => by
      obtain ⟨⟨u', hu'⟩, hf'⟩ := hc (r + 1) (by simp; omega)
      refine ⟨?_, ?_⟩
      · rw [hcell]
        by_cases hq : o + (k + 1) + r = o + k
        · omega
        · rw [if_neg hq]; exact ⟨u', by rw [← hu']; congr 2; omega⟩
      · rw [World.frozen?_setCell, ← hf']; congr 2; omega)
    refine ⟨w', ?_, ?_⟩
    · simp only [storeCells, Sem.run_bind, Addr.add_off, run_store P w _ _ _ (hv v (by simp)), hu, hf]
      exact h1
    · refine ⟨h2.size.trans (by simp), fun i hi => (h2.other i hi).trans (setCell_other_block w _ v i hi), fun c e fz hh => ?_, fun r => ?_, fun a => (h2.froz a).trans (by simp), h2.os.trans rfl, h2.out.trans rfl, h2.tape.trans rfl⟩
      · have : (w.setCell ⟨b, o + k, none⟩ v).heap[b]? = some (.cells (c.setIfInBounds (o + k) v) e fz) := by
          simp only [World.setCell]
          rw [Array.getElem?_modify, if_pos rfl, hh]; rfl
        exact h2.same _ _ _ this
      · rw [h2.cell, hcell]
        by_cases h3 : r = o + k
        · subst h3
          rw [if_neg (by omega), if_pos rfl, if_pos (by simp)]; simp
        · rw [if_neg h3]
          by_cases h4 : o + (k + 1) ≤ r ∧ r < o + (k + 1) + vs.length
          · rw [if_pos h4, if_pos (by simp; omega)]
            rw [show r - (o + k) = (r - (o + (k + 1))) + 1 by omega]; rfl
          · rw [if_neg h4, if_neg (by simp; omega)]

theorem Stored.upd {w w' : World} {b o : Nat} {vs : List Value} {A : Nat → Prop} (h : Stored w w' b o vs) (hA : A b) : Upd A w w' :=
  ⟨by rw [h.size]; exact Nat.le_refl _, fun i _ ha => h.other i fun he => ha (by rw [he]; exact hA), h.os, h.out, h.tape⟩

/-- A block's contents have been written. -/
theorem Rep.stored {A : Nat → Prop} {w w' : World} {m : Mem} (hR : Rep ρ A m w) {id : Nat} {tr tr' : AV} {o : Nat} {vs : List Value}
    (hid : m.get id = some (.cells tr true)) (hs : Stored w w' (ρ.bb id) (ρ.bo id + o) vs)
    (hw' : tr'.wf) (hsh : tr'.shape = tr.shape)
    (hf : ∀ r v, tr'.flat[r]? = some v → (o ≤ r ∧ r < o + vs.length ∧ ∃ rv, vs[r - o]? = some rv ∧ VR1 ρ v rv) ∨ ((r < o ∨ o + vs.length ≤ r) ∧ tr.flat[r]? = some v)) :
    Rep ρ A (m.put id (.cells tr' true)) w' := by
  obtain ⟨h1, h2, h3, ⟨c, e, fz, hc⟩, h5, h6⟩ := hR.blk id _ hid
  have hget : ∀ j b, (m.put id (.cells tr' true)).get j = some b → (j = id ∧ b = .cells tr' true) ∨ (j ≠ id ∧ m.get j = some b) := fun j b hb => by
    rcases Tr.get_set _ m.t id j b hb with ⟨g1, g2⟩ | ⟨g1, g2⟩
    · exact .inl ⟨g1, (Option.some.inj g2).symm⟩
    · exact .inr ⟨g1, g2⟩
  refine ⟨hR.n, hR.lt, fun j b hb => ?_, fun i j bi bj hi hj hij hwr => ?_, fun b hb => hR.new b (by rw [hs.size] at hb; exact hb), hR.tab.later fun b _ ha => hs.other b fun he => ha (by rw [he]; exact (h6 rfl).1)⟩
  · rcases hget j b hb with ⟨rfl, rfl⟩ | ⟨g1, g2⟩
    · refine ⟨h1, by rw [hsh]; exact h2, hw', ?_, fun r v hv => ?_, fun _ => ?_⟩
      · obtain ⟨c', hc'⟩ := hs.same c e fz hc
        exact ⟨c', e, fz, hc'⟩
      · rw [hs.cell]
        rcases hf r v hv with ⟨k1, k2, rv, k3, k4⟩ | ⟨k1, k2⟩
        · rw [if_pos (by omega)]
          exact ⟨rv, by rw [← k3]; congr 1; omega, k4⟩
        · rw [if_neg (by omega)]
          exact h5 r v k2
      · obtain ⟨k1, k2, k3⟩ := h6 rfl
        refine ⟨k1, by rw [hsh]; exact k2, fun r hr => ⟨?_, by rw [hs.froz]; exact (k3 r hr).2⟩⟩
        rw [hs.cell]
        split
        · rename_i hin
          have : ρ.bo j + r - (ρ.bo j + o) < vs.length := by omega
          exact ⟨_, List.getElem?_eq_getElem this⟩
        · exact (k3 r hr).1
    · obtain ⟨k1, k2⟩ := hR.blk j b g2
      refine ⟨k1, k2.later k1 (Ren.le.refl ρ) (hs.other _ ?_)⟩
      exact (hR.sep id j _ _ hid g2 (fun he => g1 he.symm) rfl).symm
  · rcases hget i bi hi with ⟨rfl, rfl⟩ | ⟨hi1, hi2⟩ <;> rcases hget j bj hj with ⟨rfl, rfl⟩ | ⟨hj1, hj2⟩
    · exact absurd rfl hij
    · exact hR.sep i j _ bj hid hj2 hij rfl
    · exact hR.sep i j bi _ hi2 hid hij hwr
    · exact hR.sep i j bi bj hi2 hj2 hij hwr

/-- Writing a variable. -/
def evStore (P : Program) (m : Mem) (t : TypeId) (x v : AV) : Option Mem :=
  match x with
  | .pt id path _ => match m.get id with
    | some (.cells tr true) => match tr.shape.at path, AV.set path v tr with
      | some s, some tr' => if v.shape.beq s = true ∧ v.isVal = true ∧ s.size = P.cellsOf t ∧ (P.info? t).isSome = true then some (m.put id (.cells tr' true)) else none
      | _, _ => none
    | _ => none
  | _ => none

theorem VR1.one {a : AV} {v : Value} (h : VR1 ρ a v) : v.oneCell' = true := by
  cases hb : a.isVal with
  | true => exact (h.oneCell hb).2
  | false => cases a <;> simp_all [AV.isVal, VR1]

theorem All2.right {α β : Type} {R : α → β → Prop} {l : List α} {m : List β} (h : All2 R l m) : ∀ b ∈ m, ∃ a, R a b := by
  induction l generalizing m with
  | nil => cases m with
    | nil => intro b hb; cases hb
    | cons => exact h.elim
  | cons a l ih => cases m with
    | nil => exact h.elim
    | cons c m =>
      intro b hb
      rcases List.mem_cons.1 hb with rfl | hb
      · exact ⟨a, h.1⟩
      · exact ih h.2 b hb

theorem evStore_ok {A : Nat → Prop} {w : World} {m m' : Mem} (hR : Rep ρ A m w) {t : TypeId} {x v : AV} {rx rv : Value} (h : evStore P m t x v = some m')
    (hx : VR3 ρ x rx) (hv : VR3 ρ v rv) :
    ∃ w', (Instr.storeAt t rx rv).run P w = .ok () w' ∧ Rep ρ A m' w' ∧ Upd A w w' := by
  unfold evStore at h
  split at h <;> try (cases h; done)
  rename_i id path root
  split at h <;> try (cases h; done)
  rename_i tr hid
  split at h <;> try (cases h; done)
  rename_i s tr' hat hset
  split at h <;> try (cases h; done)
  rename_i hc
  cases h
  obtain ⟨c1, c2, c3, c4⟩ := hc
  obtain ⟨i, hi⟩ := Option.isSome_iff_exists.1 c4
  obtain ⟨h1, _, s', o, hp, rfl⟩ := hx
  obtain ⟨b1, b2, b3, b4, b5, b6⟩ := hR.blk id _ hid
  rw [b2] at hp
  have := hp.at
  rw [hat] at this; cases this
  have hvs := Sh.beq_eq _ _ c1
  have hnt : ∀ l, v ≠ .tup l := fun l he => by subst he; simp [AV.isVal] at c2
  rw [VR3_val hnt] at hv
  have hvc := hv.cells c2
  have hone : ∀ c ∈ rv.cells.toList, c.oneCell' = true := fun c hc => let ⟨_, h⟩ := hvc.right c hc; h.one
  have hvl := AV.flat_len v hv.wf
  have hsz : rv.cells.toList.length = s.size := by rw [← hvc.len, hvl, hvs]
  have hfit := hp.fits
  obtain ⟨k1, k2, k3⟩ := b6 rfl
  obtain ⟨w', g1, g2⟩ := run_storeCells (P := P) (b := ρ.bb id) rv.cells.toList w (ρ.bo id + o) 0 hone (fun r hr => by
    have := k3 (o + r) (by omega)
    rw [show ρ.bo id + o + 0 + r = ρ.bo id + (o + r) by omega]
    exact this)
  rw [Nat.add_zero] at g2
  obtain ⟨tr'', a1, a2, a3, a4⟩ := AV.set_ok b3 hp hv.wf hvs
  rw [hset] at a1; cases a1
  refine ⟨w', ?_, hR.stored hid g2 a2 a3 fun r u hu => ?_, g2.upd k1⟩
  · simp only [Instr.storeAt, Instr.sureAddr, Sem.run_bind, Sem.run_pure, Result.andThen_ok, storeVar, run_sizeOf w hi]
    rw [if_neg (by rw [← Array.length_toList, hsz, c3]; simp)]
    exact g1
  · rw [a4] at hu
    by_cases hr : o ≤ r ∧ r < o + s.size
    · rw [if_pos hr] at hu
      obtain ⟨q, q1, q2⟩ := hvc.get hu
      exact .inl ⟨hr.1, by omega, q, q1, q2⟩
    · rw [if_neg hr] at hu
      exact .inr ⟨by omega, hu⟩

end
end Go.Ev
