/-
  The evaluator's operations that leave memory alone (second part): reading, addresses, slices, conversions. Own text; nothing of a program.
-/
import Derived.Test.YtngaeiceicgalaaDoorEvC
namespace Go.Ev
section
variable {P : Program} {ρ : Ren}

theorem exists_row {α β : Type} {R : α → β → Prop} {Q : Nat → β → Prop} : ∀ (l : List α), (∀ (r : Nat) (a : α), l[r]? = some a → ∃ b, Q r b ∧ R a b) →
    ∃ m : List β, All2 R l m ∧ ∀ (r : Nat) (b : β), m[r]? = some b → Q r b := by
  intro l
  induction l generalizing Q with
  | nil => intro _; exact ⟨[], trivial, fun r b h => by simp at h⟩
  | cons a l ih =>
    intro h
    obtain ⟨b, hb, hr⟩ := h 0 a rfl
    obtain ⟨m, hm, hq⟩ := ih (Q := fun r => Q (r + 1)) fun r a' ha' => h (r + 1) a' (by simpa using ha')
    refine ⟨b :: m, ⟨hr, hm⟩, fun r c hc => ?_⟩
    cases r with
    | zero => simp at hc; subst hc; exact hb
    | succ r => exact hq r c (by simpa using hc)

/-- Reading a variable. -/
def evLoad (P : Program) (m : Mem) (t : TypeId) (x : AV) : Option AV :=
  match x with
  | .pt id path _ => match m.get id with
    | some (.cells tr _) => match AV.get path tr with
      | some c => if c.shape.size = P.cellsOf t ∧ aggT P t = c.isAgg ∧ (P.underlying t).isSome = true then some c else none
      | none => none
    | _ => none
  | _ => none

theorem Addr.add_off (b o n : Nat) : (⟨b, o, none⟩ : Addr).add n = ⟨b, o + n, none⟩ := by
  unfold Addr.add; split
  · rename_i h; subst h; rfl
  · rfl

theorem run_loadVar {A : Nat → Prop} {w : World} {m : Mem} (hR : Rep ρ A m w) {id : Nat} {tr c : AV} {wr : Bool} {path : List PE} {s : Sh} {o : Nat} {t : TypeId}
    (hid : m.get id = some (.cells tr wr)) (hp : PathTo (ρ.sh id) path s o) (hg : AV.get path tr = some c)
    (hs : c.shape.size = P.cellsOf t) (ha : aggT P t = c.isAgg) (hu : (P.underlying t).isSome = true) :
    ∃ rv, (loadVar t ⟨ρ.bb id, ρ.bo id + o, none⟩).run P w = .ok rv w ∧ VR2 ρ c rv := by
  obtain ⟨hlt, hsh, hwf, _, hcell, _⟩ := hR.blk id _ hid
  rw [hsh] at hp
  obtain ⟨c', hg', hcw, hcs, hcf⟩ := AV.get_ok hwf hp
  rw [hg] at hg'; cases hg'
  have hu' : P.underlying t ≠ none := by intro hn; rw [hn] at hu; cases hu
  have hrow : ∀ (r : Nat) (v : AV), c.flat[r]? = some v → ∃ rv, w.cell? ⟨ρ.bb id, ρ.bo id + o + r, none⟩ = some rv ∧ VR1 ρ v rv := fun r v hv => by
    have hr : r < c.shape.size := by rw [← AV.flat_len c hcw]; exact (List.getElem?_eq_some_iff.1 hv).1
    rw [hcs] at hr
    rw [hcf r hr] at hv
    obtain ⟨rv, h1, h2⟩ := hcell _ _ hv
    exact ⟨rv, by rw [Nat.add_assoc]; exact h1, h2⟩
  simp only [loadVar, Sem.run_bind, run_isAgg w hu', Result.andThen_ok]
  cases hb : c.isAgg with
  | true =>
    rw [ha, hb]
    obtain ⟨i, hi⟩ := aggT_info (ha.trans hb)
    obtain ⟨cs, hall, hq⟩ := exists_row (Q := fun r v => w.cell? ⟨ρ.bb id, ρ.bo id + o + r, none⟩ = some v) c.flat hrow
    have hlen : cs.length = P.cellsOf t := by rw [← hall.len, AV.flat_len c hcw, hs]
    simp only [if_true, Sem.run_bind, run_sizeOf w hi, Result.andThen_ok]
    rw [← hlen, run_loadCells_list (P := P) w ⟨ρ.bb id, ρ.bo id + o, none⟩ cs fun j v hj => by rw [Addr.add_off]; exact hq j v hj]
    exact ⟨_, rfl, (VR2_agg hb).2 ⟨hcw, _, rfl, hall⟩⟩
  | false =>
    rw [ha, hb]
    obtain ⟨rv, h1, h2⟩ := hrow 0 c (by rw [AV.flat_scalar hb]; rfl)
    rw [Nat.add_zero] at h1
    simp only [Bool.false_eq_true, if_false, run_load, h1]
    exact ⟨rv, rfl, by rw [VR2_scalar hb]; exact h2⟩

theorem VR3_of_VR2 {a : AV} {v : Value} (h : VR2 ρ a v) : VR3 ρ a v := by
  cases a <;> first | exact h | (simp only [VR2, VR1] at h)

theorem evLoad_ok {A : Nat → Prop} {w : World} {m : Mem} (hR : Rep ρ A m w) {t : TypeId} {x c : AV} {v : Value} (h : evLoad P m t x = some c) (hx : VR3 ρ x v) :
    ∃ rv, (Instr.loadAt t v).run P w = .ok rv w ∧ VR3 ρ c rv := by
  unfold evLoad at h
  split at h <;> try (cases h; done)
  rename_i id path root
  split at h <;> try (cases h; done)
  rename_i tr wr hid
  split at h <;> try (cases h; done)
  rename_i c' hg
  split at h <;> try (cases h; done)
  rename_i hc
  cases h
  obtain ⟨h1, _, s, o, hp, rfl⟩ := hx
  obtain ⟨rv, hr, hv⟩ := run_loadVar (P := P) hR hid hp hg hc.1 hc.2.1 hc.2.2
  exact ⟨rv, by simp [Instr.loadAt, Instr.sureAddr, hr], VR3_of_VR2 hv⟩

/-- The shape at a pointer. -/
def shAt (m : Mem) (id : Nat) (path : List PE) : Option Sh :=
  match m.get id with
  | some (.cells tr _) => tr.shape.at path
  | _ => none

theorem shAt_ok {A : Nat → Prop} {w : World} {m : Mem} (hR : Rep ρ A m w) {id : Nat} {path : List PE} {s t : Sh} {o : Nat} (h : shAt m id path = some s) (hp : PathTo (ρ.sh id) path t o) : s = t := by
  unfold shAt at h
  split at h <;> try (cases h; done)
  rename_i tr wr hid
  obtain ⟨_, hsh, _⟩ := hR.blk id _ hid
  rw [hsh] at hp
  rw [hp.at] at h; exact (Option.some.inj h).symm

/-- The shape of a block. -/
def rootAt (m : Mem) (id : Nat) : Option Sh :=
  match m.get id with
  | some (.cells tr _) => some tr.shape
  | _ => none

theorem rootAt_ok {A : Nat → Prop} {w : World} {m : Mem} (hR : Rep ρ A m w) {id : Nat} {s : Sh} (h : rootAt m id = some s) : ρ.sh id = s := by
  unfold rootAt at h
  split at h <;> try (cases h; done)
  rename_i tr wr hid
  obtain ⟨_, hsh, _⟩ := hR.blk id _ hid
  cases h
  exact hsh

def evFieldAddr (P : Program) (m : Mem) (t : TypeId) (x : AV) (f : Nat) : Option AV :=
  match x, P.underlying t with
  | .pt id path root, some (.struct fs) => match fs[f]?, root.at path with
    | some fd, some (.agg l) =>
      if Sh.sizes (l.take f) = fd.offset ∧ f < l.length ∧ (P.info? fd.type).isSome = true ∧ P.cellsOf fd.type ≠ 0 then some (.pt id (path ++ [.fld f]) root) else none
    | _, _ => none
  | _, _ => none

theorem evFieldAddr_ok {A : Nat → Prop} {w : World} {m : Mem} (hR : Rep ρ A m w) {t : TypeId} {x c : AV} {f : Nat} {v : Value} (h : evFieldAddr P m t x f = some c) (hx : VR3 ρ x v) :
    ∃ rv, (Instr.fieldAt t v f).run P w = .ok rv w ∧ VR3 ρ c rv := by
  unfold evFieldAddr at h
  split at h <;> try (cases h; done)
  rename_i id path root fs hu
  split at h <;> try (cases h; done)
  rename_i fd l hfd hsh
  split at h <;> try (cases h; done)
  rename_i hc
  cases h
  obtain ⟨c1, c2, c3, c4⟩ := hc
  obtain ⟨h1, hrt, s, o, hp, rfl⟩ := hx
  have : Sh.agg l = s := by
    have := hp.at
    rw [hrt, hsh] at this; exact Option.some.inj this
  subst this
  obtain ⟨i, hi⟩ := Option.isSome_iff_exists.1 c3
  refine ⟨_, by simp [Instr.fieldAt, run_underlying hu, hfd, Instr.sureAddr, fieldPlace, run_sizeOf w hi, c4]; rfl, ?_⟩
  refine ⟨h1, hrt, l[f], _, hp.snoc_fld (List.getElem?_eq_getElem c2), ?_⟩
  rw [Addr.add_off, c1, Nat.add_assoc]

/-- The place of an element. -/
def evIndexAddr (P : Program) (m : Mem) (t : TypeId) (x : AV) (ix : AV) : Option (Option Bool × AV) :=
  match ix with
  | .it _ i => match P.underlying t, x with
    | some (.array n e), .pt id path root => match root.at path with
      | some (.arr n' s) => if n' = n ∧ s.size = P.cellsOf e ∧ (P.info? e).isSome = true then some (some (iIn i n), .pt id (path ++ [.idx i.toNat]) root) else none
      | _ => none
    | some (.slice e), .sl id path lo len _ => match rootAt m id with
      | some root => (match root.at path with
        | some (.arr _ s) => if s.size = P.cellsOf e ∧ (P.info? e).isSome = true then some (some (iIn i len), .pt id (path ++ [.idx (i.toNat + lo)]) root) else none
        | _ => none)
      | none => none
    | _, _ => none
  | _ => none

theorem evIndexAddr_ok {A : Nat → Prop} {w : World} {m : Mem} (hR : Rep ρ A m w) {t : TypeId} {x ix r : AV} {c : Option Bool} {v vi : Value} (h : evIndexAddr P m t x ix = some (c, r))
    (hc : c = none ∨ c = some true) (hx : VR3 ρ x v) (hi : VR3 ρ ix vi) :
    ∃ rv, (Instr.indexAt t v vi).run P w = .ok rv w ∧ VR3 ρ r rv := by
  unfold evIndexAddr at h
  split at h <;> try (cases h; done)
  rename_i k i
  obtain ⟨rfl, _⟩ := hi
  split at h <;> try (cases h; done)
  · rename_i n e id path root hu
    split at h <;> try (cases h; done)
    rename_i n' s hsh
    split at h <;> try (cases h; done)
    rename_i hcc
    simp only [Option.some.injEq, Prod.mk.injEq] at h
    obtain ⟨rfl, rfl⟩ := h
    obtain ⟨rfl, c2, c3⟩ := hcc
    obtain ⟨inf, hinf⟩ := Option.isSome_iff_exists.1 c3
    have hi2 : 0 ≤ i ∧ i < (n' : Int) := by simpa [iIn] using hc
    obtain ⟨h1, hrt, s', o, hp, rfl⟩ := hx
    have : Sh.arr n' s = s' := by
      have := hp.at
      rw [hrt, hsh] at this; exact Option.some.inj this
    subst this
    refine ⟨_, by simp [Instr.indexAt, asIntOf, run_underlying hu, Instr.sureAddr, hi2.1, hi2.2, run_sizeOf w hinf]; rfl, h1, hrt, s, _, hp.snoc_idx (by omega), ?_⟩
    rw [Addr.add_off, c2, Nat.add_assoc]
  · rename_i e id path lo len tip hu
    split at h <;> try (cases h; done)
    rename_i root hrt
    split at h <;> try (cases h; done)
    rename_i n' s hsh
    split at h <;> try (cases h; done)
    rename_i hcc
    simp only [Option.some.injEq, Prod.mk.injEq] at h
    obtain ⟨rfl, rfl⟩ := h
    obtain ⟨c2, c3⟩ := hcc
    obtain ⟨inf, hinf⟩ := Option.isSome_iff_exists.1 c3
    have hi2 : 0 ≤ i ∧ i < (len : Int) := by simpa [iIn] using hc
    obtain ⟨h1, n, s', o, off, cp, hp, hn, hcp, rfl, hoff, _⟩ := hx
    have hrt := rootAt_ok hR hrt
    have : Sh.arr n' s = Sh.arr n s' := by
      have := hp.at
      rw [hrt, hsh] at this; exact Option.some.inj this
    cases this
    have hoff' := hoff (by omega)
    subst hoff'
    refine ⟨_, by simp [Instr.indexAt, asIntOf, run_underlying hu, hi2.1, hi2.2, run_sizeOf w hinf]; rfl, h1, hrt, s, _, hp.snoc_idx (i := i.toNat + lo) (by omega), ?_⟩
    rw [Addr.add_off, c2, Nat.add_mul]
    congr 3; omega

/-- An element of an array, a byte of a string. -/
def evIndex (P : Program) (t : TypeId) (x ix : AV) : Option (Option Bool × AV) :=
  match ix with
  | .it _ i => match P.underlying t, x with
    | some (.array n e), .arr n' s f =>
      if n' = n ∧ s.size = P.cellsOf e ∧ aggT P e = s.isAgg ∧ (P.info? e).isSome = true ∧ (P.underlying e).isSome = true then some (some (iIn i n), f i.toNat) else none
    | some .string, .st l => some (some (iIn i l.length), .it .u8 (sAt l i))
    | _, _ => none
  | _ => none

theorem evIndex_ok {w : World} {t : TypeId} {x ix r : AV} {c : Option Bool} {v vi : Value} (h : evIndex P t x ix = some (c, r))
    (hc : c = none ∨ c = some true) (hx : VR3 ρ x v) (hi : VR3 ρ ix vi) :
    ∃ rv, (Instr.index t v vi).run P w = .ok rv w ∧ VR3 ρ r rv := by
  unfold evIndex at h
  split at h <;> try (cases h; done)
  rename_i k i
  obtain ⟨rfl, _⟩ := hi
  split at h <;> try (cases h; done)
  · rename_i n e n' s f hu
    split at h <;> try (cases h; done)
    rename_i hcc
    simp only [Option.some.injEq, Prod.mk.injEq] at h
    obtain ⟨rfl, rfl⟩ := h
    obtain ⟨rfl, c2, c3, c4, c5⟩ := hcc
    obtain ⟨inf, hinf⟩ := Option.isSome_iff_exists.1 c4
    have hi2 : 0 ≤ i ∧ i < (n' : Int) := by simpa [iIn] using hc
    obtain ⟨hw, cs, rfl, hcs⟩ := hx
    have hwi := hw i.toNat
    obtain ⟨rv, hr, hv⟩ := run_part' (P := P) (t := e) (o := i.toNat * P.cellsOf e) w (a := .arr n' s f) hcs c5 hwi.1 (by rw [hwi.2]; exact c2) (by rw [AV.isAgg_shape, hwi.2]; exact c3) (fun r hr => by
      rw [AV.flat, ← c2]
      exact (flatMap_at n' s.size (fun i => (f i).flat) (fun k _ => by rw [AV.flat_len _ (hw k).1, (hw k).2]) i.toNat r (by omega) (by rw [← hwi.2]; exact hr)).symm)
    exact ⟨rv, by simp [Instr.index, asIntOf, run_underlying hu, hi2.1, hi2.2, run_sizeOf w hinf, hr], VR3_of_VR2 hv⟩
  · rename_i l hu
    simp only [Option.some.injEq, Prod.mk.injEq] at h
    obtain ⟨rfl, rfl⟩ := h
    have hi2 : 0 ≤ i ∧ i < (l.length : Int) := by simpa [iIn] using hc
    cases hx
    have hlt : i.toNat < l.length := by omega
    have hget : (⟨l.toArray⟩ : ByteArray)[i.toNat]? = some l[i.toNat] := by
      have : i.toNat < (⟨l.toArray⟩ : ByteArray).size := by simpa [ByteArray.size] using hlt
      rw [getElem?_pos (⟨l.toArray⟩ : ByteArray) i.toNat this]
      rfl
    refine ⟨.int .u8 (l[i.toNat].toNat), by simp [Instr.index, asIntOf, run_underlying hu, hi2.1, hget], VR3_mk_it ?_ fun _ => ?_⟩
    · simp [sAt, List.getD, List.getElem?_eq_getElem hlt]
    · simp [sAt]

end
end Go.Ev
