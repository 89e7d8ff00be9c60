/-
  Handlers of calls put together; a function that is called once (sync.Once). Own text; nothing of a program.
-/
import Derived.Test.YtngaeiceicgalaaDoorEvW
import Derived.Defers
namespace Go.Ev
section
variable {P : Program} {ρ : Ren}

/-- What the function that is called once does, with the lock held. -/
def OnceRuns (P : Program) (b off : Nat) (g : FuncId) (cap : Array Value) (w : World) (R : World → Prop) : Prop :=
  (callFunc g cap).run P (w.setCell ⟨b, off + 1, none⟩ (.int .i32 1)) = .ok (.enter g cap) (w.setCell ⟨b, off + 1, none⟩ (.int .i32 1)) ∧
  Calls P g cap (w.setCell ⟨b, off + 1, none⟩ (.int .i32 1)) fun e w' => e = .returned (.tuple #[]) ∧ R w' ∧
    w'.cell? ⟨b, off, none⟩ = some (.int .u32 0) ∧ w'.cell? ⟨b, off + 1, none⟩ = some (.int .i32 1) ∧ w'.frozen? ⟨b, off, none⟩ = false ∧ w'.frozen? ⟨b, off + 1, none⟩ = false

def OnceEnds (b off : Nat) (R : World → Prop) (e : Ending) (w' : World) : Prop :=
  e = .returned (.tuple #[]) ∧ ∃ w2, R w2 ∧ w' = (w2.drew.setCell ⟨b, off, none⟩ (.int .u32 1)).setCell ⟨b, off + 1, none⟩ (.int .i32 0)

/-- The Once's own function does so. -/
def OnceOk (P : Program) (DO : FuncId) : Prop := ∀ (b off : Nat) (g : FuncId) (cap : Array Value) (w : World) (R : World → Prop),
  w.cell? ⟨b, off, none⟩ = some (.int .u32 0) → w.cell? ⟨b, off + 1, none⟩ = some (.int .i32 0) → w.frozen? ⟨b, off, none⟩ = false → w.frozen? ⟨b, off + 1, none⟩ = false →
  OnceRuns P b off g cap w R → Calls P DO #[.pointer (some ⟨b, off, none⟩), .func (.func g) #[] cap] w (OnceEnds b off R)

theorem evLoad_cell {A : Nat → Prop} {w : World} {m : Mem} (hR : Rep ρ A m w) {t : TypeId} {id : Nat} {path : List PE} {root : Sh} {k : IntKind} {n : Int} (h : evLoad P m t (.pt id path root) = some (.it k n))
    {s : Sh} {o : Nat} (hp : PathTo (ρ.sh id) path s o) : w.cell? ⟨ρ.bb id, ρ.bo id + o, none⟩ = some (.int k n) := by
  unfold evLoad at h
  simp only at h
  split at h <;> try (cases h; done)
  rename_i tr wr hid
  split at h <;> try (cases h; done)
  rename_i c hg
  split at h <;> try (cases h; done)
  cases h
  obtain ⟨hlt, hsh, hwf, _, hcell, _⟩ := hR.blk id _ hid
  rw [hsh] at hp
  obtain ⟨c', hg', hcw, hcs, hcf⟩ := AV.get_ok hwf hp
  rw [hg] at hg'; cases hg'
  have h0 := hcf 0 (by rw [← hcs]; exact Nat.one_pos)
  obtain ⟨rv, h1, h2⟩ := hcell (o + 0) (.it k n) (by rw [← h0]; rfl)
  rw [Nat.add_zero] at h1
  rw [h1, h2.1]

theorem evStore_cell {A : Nat → Prop} {w : World} {m m' : Mem} (hR : Rep ρ A m w) {t : TypeId} {id : Nat} {path : List PE} {root : Sh} {k : IntKind} {n : Int} (h : evStore P m t (.pt id path root) (.it k n) = some m')
    {s : Sh} {o : Nat} (hp : PathTo (ρ.sh id) path s o) (hid : ρ.dom id) (hrt : ρ.sh id = root) (hn : k.signed = false → 0 ≤ n) :
    Rep ρ A m' (w.setCell ⟨ρ.bb id, ρ.bo id + o, none⟩ (.int k n)) ∧ Upd A w (w.setCell ⟨ρ.bb id, ρ.bo id + o, none⟩ (.int k n)) ∧ w.frozen? ⟨ρ.bb id, ρ.bo id + o, none⟩ = false := by
  obtain ⟨w', h1, h2, h3⟩ := evStore_ok (P := P) hR h (rx := .pointer (some ⟨ρ.bb id, ρ.bo id + o, none⟩)) (rv := .int k n) ⟨hid, hrt, s, o, hp, rfl⟩ ⟨rfl, hn⟩
  unfold evStore at h
  simp only at h
  split at h <;> try (cases h; done)
  rename_i tr hb
  split at h <;> try (cases h; done)
  rename_i s' tr' hat hset
  split at h <;> try (cases h; done)
  rename_i hc
  obtain ⟨c1, c2, c3, c4⟩ := hc
  obtain ⟨i, hi⟩ := Option.isSome_iff_exists.1 c4
  obtain ⟨b1, b2, b3, b4, b5, b6⟩ := hR.blk id _ hb
  have hp' := hp
  rw [b2] at hp'
  have := hp'.at
  rw [hat] at this; cases this
  have hvs : Sh.int k = s := Sh.beq_eq _ _ c1
  have hfit := hp'.fits
  rw [← hvs] at hfit
  obtain ⟨k1, k2, k3⟩ := b6 rfl
  obtain ⟨⟨u, hu⟩, hf⟩ := k3 o (by have : Sh.size (.int k) = 1 := rfl; omega)
  have hrun : (Instr.storeAt t (.pointer (some ⟨ρ.bb id, ρ.bo id + o, none⟩)) (.int k n)).run P w = .ok () (w.setCell ⟨ρ.bb id, ρ.bo id + o, none⟩ (.int k n)) := by
    have hsz : (Value.int k n).cells.size = P.cellsOf t := by rw [← c3, ← hvs]; rfl
    simp only [Instr.storeAt, Instr.sureAddr, Sem.run_bind, Sem.run_pure, Result.andThen_ok, storeVar, run_sizeOf w hi]
    rw [if_neg (by rw [hsz]; simp)]
    show (storeCells ⟨ρ.bb id, ρ.bo id + o, none⟩ [.int k n] 0).run P w = _
    simp only [storeCells, Sem.run_bind, Addr.add_off, Nat.add_zero, run_store P w _ _ _ (show (Value.int k n).oneCell' = true from rfl), hu, hf]
    rfl
  rw [hrun] at h1
  cases h1
  exact ⟨h2, h3, hf⟩

theorem evStore_free {A : Nat → Prop} {w : World} {m m' : Mem} (hR : Rep ρ A m w) {t : TypeId} {id : Nat} {path : List PE} {root : Sh} {v : AV} (h : evStore P m t (.pt id path root) v = some m')
    {path' : List PE} {s : Sh} {o : Nat} (hp : PathTo (ρ.sh id) path' s o) (hs : 0 < s.size) : w.frozen? ⟨ρ.bb id, ρ.bo id + o, none⟩ = false := by
  unfold evStore at h
  simp only at h
  split at h <;> try (cases h; done)
  rename_i tr hb
  obtain ⟨b1, b2, b3, b4, b5, b6⟩ := hR.blk id _ hb
  obtain ⟨k1, k2, k3⟩ := b6 rfl
  rw [b2] at hp
  have := hp.fits
  exact (k3 o (by omega)).2

/-- A function with a text of its own. -/
def plainB (P : Program) (g : FuncId) : Bool := match P.funcs[g]? with
  | some fn => fn.body.isSome && decide (fn.name ≠ "runtime.NumGoroutine")
  | none => false

theorem plainB_run {g : FuncId} (h : plainB P g = true) (args : Array Value) (w : World) : (callFunc g args).run P w = .ok (.enter g args) w := by
  unfold plainB at h
  split at h <;> try (cases h; done)
  rename_i fn hfn
  simp only [Bool.and_eq_true, decide_eq_true_eq] at h
  obtain ⟨c, hc⟩ := Option.isSome_iff_exists.1 h.1
  exact callFunc_run ⟨hfn, h.2⟩ hc args w

def onceSh : Sh := .agg [.agg [], .agg [.agg [], .int .u32], .agg [.agg [], .agg [.int .i32, .int .u32]]]

def hOnce (P : Program) (DO : FuncId) (tu ti : TypeId) (h : Hd) : Hd := fun f args m k =>
  bif Nat.beq f DO then
    match args with
    | [.pt id path root, .fn g caps] =>
      bif plainB P g && plainB P DO && (match root.at path with | some s => s.beq onceSh | none => false) then
        match evLoad P m tu (.pt id (path ++ [.fld 1] ++ [.fld 1]) root), evLoad P m ti (.pt id (path ++ [.fld 2] ++ [.fld 1] ++ [.fld 0]) root), evStore P m ti (.pt id (path ++ [.fld 2] ++ [.fld 1] ++ [.fld 0]) root) (.it .i32 1) with
        | some (.it .u32 d), some (.it .i32 s), some m1 =>
          bindC (some (iEq d 0 && iEq s 0)) (h g caps m1 fun v m2 => match v with
            | .tup [] => match evLoad P m2 tu (.pt id (path ++ [.fld 1] ++ [.fld 1]) root), evLoad P m2 ti (.pt id (path ++ [.fld 2] ++ [.fld 1] ++ [.fld 0]) root), evStore P m2 tu (.pt id (path ++ [.fld 1] ++ [.fld 1]) root) (.it .u32 1) with
              | some (.it .u32 d2), some (.it .i32 s2), some m3 => match evStore P m3 ti (.pt id (path ++ [.fld 2] ++ [.fld 1] ++ [.fld 0]) root) (.it .i32 0) with
                | some m4 => bindC (some (iEq d2 0 && iEq s2 1)) (k (.tup []) m4)
                | none => none
              | _, _, _ => none
            | _ => none)
        | _, _, _ => none
      else none
    | _ => none
  else h f args m k

theorem once_paths {s : Sh} {path : List PE} {o : Nat} (hp : PathTo s path onceSh o) : PathTo s (path ++ [.fld 1] ++ [.fld 1]) (.int .u32) o ∧ PathTo s (path ++ [.fld 2] ++ [.fld 1] ++ [.fld 0]) (.int .i32) (o + 1) := by
  have h1 := hp.snoc_fld (k := 1) rfl
  have h2 := h1.snoc_fld (k := 1) rfl
  have h3 := hp.snoc_fld (k := 2) rfl
  have h4 := h3.snoc_fld (k := 1) rfl
  have h5 := h4.snoc_fld (k := 0) rfl
  exact ⟨h2, h5⟩

theorem hOnce_ok {DO : FuncId} {tu ti : TypeId} (ho : OnceOk P DO) {h : Hd} (hh : HSound P h) : HSound P (hOnce P DO tu ti h) := fun f args m k r he hr => by
  unfold hOnce at he
  cases hb : Nat.beq f DO with
  | false => rw [hb, cond_false] at he; exact hh f args m k r he hr
  | true =>
  rw [hb, cond_true] at he
  have := Nat.eq_of_beq_eq_true hb
  subst this
  split at he <;> try (cases he; done)
  rename_i id path root g caps
  cases hc : plainB P g && plainB P f && (match root.at path with | some s => s.beq onceSh | none => false) with
  | false => rw [hc] at he; cases he
  | true =>
  rw [hc, cond_true] at he
  simp only [Bool.and_eq_true] at hc
  obtain ⟨⟨hpg, hpf⟩, hsh⟩ := hc
  split at hsh <;> try (cases hsh; done)
  rename_i s0 hs0
  have hs0' := Sh.beq_eq _ _ hsh
  subst hs0'
  split at he <;> try (cases he; done)
  rename_i d s m1 e1 e2 e3
  obtain ⟨c1, hq⟩ := bindC_ok he hr
  have c1 : d = 0 ∧ s = 0 := by
    rcases c1 with c1 | c1
    · cases c1
    · have := Option.some.inj c1
      simp only [Bool.and_eq_true, iEq_true] at this
      exact this
  obtain ⟨rfl, rfl⟩ := c1
  obtain ⟨v, m2, he2, hrun⟩ := hh _ _ _ _ _ hq hr
  split at he2 <;> try (cases he2; done)
  split at he2 <;> try (cases he2; done)
  rename_i d2 s2 m3 q1 q2 q3
  split at he2 <;> try (cases he2; done)
  rename_i m4 q4
  obtain ⟨c2, hk⟩ := bindC_ok he2 hr
  have c2 : d2 = 0 ∧ s2 = 1 := by
    rcases c2 with c2 | c2
    · cases c2
    · have := Option.some.inj c2
      simp only [Bool.and_eq_true, iEq_true] at this
      exact this
  obtain ⟨rfl, rfl⟩ := c2
  refine ⟨_, _, hk, fun ρ A w vals hR hv => .inr ⟨f, vals.toArray, plainB_run hpf _ w, ?_⟩⟩
  match vals, hv with
  | [v1, v2], ⟨hv1, hv2, _⟩ =>
  obtain ⟨hid, hrt, t, o, hp, rfl⟩ := hv1
  obtain ⟨cs, rfl, hcaps⟩ := hv2
  have ht : onceSh = t := by
    have := hp.at
    rw [hrt, hs0] at this; exact Option.some.inj this
  subst ht
  obtain ⟨hp1, hp2⟩ := once_paths hp
  have hcaps' : All2 (VR3 ρ) caps cs.toList := All2.map_VR1s hcaps
  obtain ⟨hR1, hU1, hz1⟩ := evStore_cell (P := P) hR e3 hp2 hid hrt (by intro h; cases h)
  -- the cell that tells whether it is done is not frozen
  have hin := hrun ρ A _ cs.toList hR1 hcaps'
  rw [Array.toArray_toList] at hin
  have hz0 := evStore_free (P := P) hR e3 hp1 (by decide)
  have hon := ho (ρ.bb id) (ρ.bo id + o) g cs w (fun w2 => ∃ ρ', ρ.ext ρ' ∧ Rep ρ' A m2 w2 ∧ Upd A (w.setCell ⟨ρ.bb id, ρ.bo id + (o + 1), none⟩ (.int .i32 1)) w2)
    (evLoad_cell hR e1 hp1) (by have := evLoad_cell hR e2 hp2; rw [← Nat.add_assoc] at this; exact this) hz0 (by rw [Nat.add_assoc]; exact hz1) ?_
  · refine Calls.mono hon fun e w' ⟨he', w2, ⟨ρ', g1, g2, g3⟩, hw'⟩ => ?_
    subst hw'
    have hid' := g1.dom id hid
    have hb1 := g1.bb id hid
    have hb2 := g1.bo id hid
    have hb3 := g1.sh id hid
    obtain ⟨k1, k2, _⟩ := evStore_cell (P := P) (g2.drew) q3 (by rw [hb3]; exact hp1) hid' (hb3.trans hrt) (fun _ => by decide)
    obtain ⟨k3, k4, _⟩ := evStore_cell (P := P) k1 q4 (by rw [hb3]; exact hp2) hid' (hb3.trans hrt) (fun h => by cases h)
    rw [hb1, hb2] at k1 k2 k3 k4
    rw [← Nat.add_assoc] at k3 k4
    refine ⟨ρ', .tuple #[], he', g1, k3, ?_, ⟨#[], rfl, trivial⟩⟩
    exact (hU1.trans g3).trans ((Upd.drew).trans (k2.trans k4))
  · refine ⟨by rw [Nat.add_assoc]; exact plainB_run hpg _ _, ?_⟩
    rw [Nat.add_assoc]
    rcases hin with ⟨ρ', rv, w', nx, h1, h2, _⟩ | ⟨f', args', h1, h2⟩
    · rw [plainB_run hpg] at h1
      cases h1
      rcases h2 with h2 | ⟨h2, _⟩ <;> cases h2
    · rw [plainB_run hpg] at h1
      cases h1
      refine Calls.mono h2 fun e w' ⟨ρ', rv, k1, k2, k3, k4, k5⟩ => ?_
      have hid' := k2.dom id hid
      have hb1 := k2.bb id hid
      have hb2 := k2.bo id hid
      have hb3 := k2.sh id hid
      have hrv : rv = .tuple #[] := by
        obtain ⟨vs, h3, h4⟩ := k5
        match vs, h4 with
        | ⟨[]⟩, _ => exact h3
      subst hrv
      have a1 := evLoad_cell k3 q1 (by rw [hb3]; exact hp1)
      have a2 := evLoad_cell k3 q2 (by rw [hb3]; exact hp2)
      obtain ⟨b1, _, b2⟩ := evStore_cell (P := P) k3 q3 (by rw [hb3]; exact hp1) hid' (hb3.trans hrt) (fun _ => by decide)
      obtain ⟨_, _, b3⟩ := evStore_cell (P := P) b1 q4 (by rw [hb3]; exact hp2) hid' (hb3.trans hrt) (fun h => by cases h)
      rw [World.frozen?_setCell] at b3
      rw [hb1, hb2] at a1 a2 b2 b3
      exact ⟨k1, ⟨ρ', k2, k3, k4⟩, a1, a2, b2, b3⟩

/-- The functions that are entered, one inside the other, so deep; all others by 'ex'. -/
def inlO (P : Program) (ok : List TypeId) (pc : Pcs) (ro : FuncId → Bool) (fs : List FuncId) (N : Nat) (st : FuncId → Bool) (ex : Hd → Hd) : Nat → Hd
  | 0, _, _, _, _ => none
  | d + 1, f, args, m, k => bif memN f fs then (match P.funcs[f]? with
    | some fn => evFn P ok pc (inlO P ok pc ro fs N st ex d) ro (fun _ _ _ _ => none) N (st f) fn args m k
    | none => none) else ex (inlO P ok pc ro fs N st ex d) f args m k

theorem inlO_ok (hmix : P.follows .mixedOrders = true) {ok : List TypeId} (hok : Fair P ok) {pc : Pcs} (hpc : PSound P pc) {ro : FuncId → Bool} {fs : List FuncId} (hfs : Names P fs)
    {N : Nat} {st : FuncId → Bool} {ex : Hd → Hd} (hex : ∀ h : Hd, HSound P h → HSound P (ex h)) : ∀ d, HSound P (inlO P ok pc ro fs N st ex d : Hd)
  | 0 => fun f args m k r h _ => by cases h
  | d + 1 => fun f args m k r h hr => by
    simp only [inlO] at h
    cases hm : memN f fs with
    | false => rw [hm] at h; exact hex _ (inlO_ok hmix hok hpc hfs hex d) f args m k r h hr
    | true =>
    rw [hm, cond_true] at h
    split at h <;> try (cases h; done)
    rename_i fn hfn
    exact evFn_ok hmix hok hpc (inlO_ok hmix hok hpc hfs hex d) ⟨hfn, hfs f ((memN_iff _ _).1 hm) fn hfn⟩ (fun c _ => OvOk_none c) h hr

end
end Go.Ev
