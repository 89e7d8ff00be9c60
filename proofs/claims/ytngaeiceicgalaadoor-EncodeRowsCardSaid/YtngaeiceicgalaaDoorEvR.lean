/-
  The evaluator: functions. Own text; nothing of a program.
-/
import Derived.Test.YtngaeiceicgalaaDoorEvQ
namespace Go.Ev
section
variable {P : Program} {ρ : Ren}

def evRes (P : Program) (fr : Fr) (m : Mem) : List ResultVar → Option (List AV)
  | [] => some []
  | .tmp t :: r => match rdOp fr [] (.tmp t), evRes P fr m r with
    | some v, some l => some (v :: l)
    | _, _ => none
  | .cell a t :: r => match rdOp fr [] (.tmp a) with
    | some x => (match evLoad P m t x, evRes P fr m r with
      | some v, some l => some (v :: l)
      | _, _ => none)
    | none => none

/-- What comes of several results. -/
def evTup : List AV → Option AV
  | [v] => some v
  | l => bif l.all noTup then some (.tup l) else none

theorem asAddr_run {id : Nat} {path : List PE} {rv : Value} {root : Sh} (h : VR3 ρ (.pt id path root) rv) (w : World) : ∃ t o, PathTo (ρ.sh id) path t o ∧ (asAddr rv).run P w = .ok ⟨ρ.bb id, ρ.bo id + o, none⟩ w := by
  obtain ⟨_, _, t, o, h1, h2⟩ := h
  exact ⟨t, o, h1, by rw [h2]; rfl⟩

theorem evRes_ok {A : Nat → Prop} {w : World} {m : Mem} (hR : Rep ρ A m w) {fr : Fr} {a : Act} (hf : FRw ρ fr a) : ∀ (rs : List ResultVar) (l : List AV), evRes P fr m rs = some l →
    ∃ vs : List Value, (rs.mapM (m := Sem) fun | .tmp t => pure (a.tmps.getD t undef) | .cell c t => do loadVar t (← asAddr (a.tmps.getD c undef))).run P w = .ok vs w ∧ All2 (VR3 ρ) l vs
  | [], l, h => by cases h; exact ⟨[], rfl, trivial⟩
  | .tmp t :: r, l, h => by
    simp only [evRes] at h
    split at h <;> try (cases h; done)
    rename_i v l' hv hl
    cases h
    obtain ⟨vs, h1, h2⟩ := evRes_ok hR hf r l' hl
    refine ⟨a.tmps.getD t undef :: vs, ?_, rdOp_ok hf (G := []) (fun x hx => by cases hx) _ _ hv, h2⟩
    rw [List.mapM_cons]
    simp only [Sem.run_bind, Sem.run_pure, Result.andThen_ok, h1]
  | .cell c t :: r, l, h => by
    simp only [evRes] at h
    split at h <;> try (cases h; done)
    rename_i x hx
    split at h <;> try (cases h; done)
    rename_i v l' hv hl
    cases h
    obtain ⟨vs, h1, h2⟩ := evRes_ok hR hf r l' hl
    have hxv := rdOp_ok hf (G := []) (fun x hx => by cases hx) _ _ hx
    have hxv' : VR3 ρ x (a.tmps.getD c undef) := hxv
    unfold evLoad at hv
    split at hv <;> try (cases hv; done)
    rename_i id path
    split at hv <;> try (cases hv; done)
    rename_i tr wr hid
    split at hv <;> try (cases hv; done)
    rename_i c' hg
    split at hv <;> try (cases hv; done)
    rename_i hcond
    cases hv
    obtain ⟨s, o, hp, hrun⟩ := asAddr_run (P := P) hxv' w
    obtain ⟨rv, h3, h4⟩ := run_loadVar (P := P) hR hid hp hg hcond.1 hcond.2.1 hcond.2.2
    refine ⟨rv :: vs, ?_, VR3_of_VR2 h4, h2⟩
    rw [List.mapM_cons]
    simp only [Sem.run_bind, Sem.run_pure, hrun, Result.andThen_ok, h3, h1]

theorem all_noTup : ∀ {l : List AV} {vs : List Value}, All2 (VR3 ρ) l vs → l.all noTup = true → All2 (VR2 ρ) l vs
  | [], [], _, _ => trivial
  | a :: l, b :: m, h, hn => by
    simp only [List.all_cons, Bool.and_eq_true] at hn
    exact ⟨h.1.noTup hn.1, all_noTup h.2 hn.2⟩
  | [], _ :: _, h, _ => h.elim
  | _ :: _, [], h, _ => h.elim

theorem evTup_ok {l : List AV} {vs : List Value} {v : AV} (h : All2 (VR3 ρ) l vs) (hv : evTup l = some v) : VR3 ρ v (if h : vs.toArray.size = 1 then vs.toArray[0] else .tuple vs.toArray) := by
  unfold evTup at hv
  split at hv
  · cases hv
    match vs, h with
    | [b], h => exact h.1
  · rename_i hne
    cases ha : l.all noTup with
    | false => rw [ha] at hv; cases hv
    | true =>
      rw [ha] at hv; cases hv
      have hl := h.len
      rw [dif_neg (by
        simp only [List.size_toArray]
        intro h1
        match l, hl.trans h1 with
        | [x], _ => exact hne x rfl)]
      exact ⟨_, rfl, by simpa using all_noTup h ha⟩

theorem results_ok {A : Nat → Prop} {w : World} {m : Mem} (hR : Rep ρ A m w) {fr : Fr} {a : Act} (hf : FRw ρ fr a) {fn : Func} {l : List AV} {v : AV} (h : evRes P fr m fn.results.toList = some l) (hv : evTup l = some v) :
    ∃ rv, (results fn a.tmps).run P w = .ok rv w ∧ VR3 ρ v rv := by
  obtain ⟨vs, h1, h2⟩ := evRes_ok hR hf _ _ h
  unfold results
  rw [Array.mapM_eq_mapM_toList]
  simp only [Sem.run_bind]
  refine ⟨_, ?_, evTup_ok h2 hv⟩
  rw [map_eq_pure_bind, Sem.run_bind]
  refine Eq.trans (congrArg (fun r => Result.andThen (Result.andThen r _) _) h1) ?_
  rfl

/- A frame from the arguments. -/
def putAll : List AV → Nat → Tr AV → Tr AV
  | [], _, t => t
  | v :: l, i, t => putAll l (i + 1) (t.set (some v) i)
def mkFr (args : List AV) (n : Nat) : Fr := { n := args.length + (n - args.length), t := putAll args 0 (Tr.mk 10) }
def isGd : AV → Bool
  | .gd _ _ _ => true
  | _ => false

theorem putAll_get : ∀ (l : List AV) (i : Nat) (t : Tr AV) (j : Nat) (u : AV), (putAll l i t).get j = some u → (i ≤ j ∧ l[j - i]? = some u) ∨ t.get j = some u
  | [], _, _, _, _, h => .inr h
  | v :: l, i, t, j, u, h => by
    simp only [putAll] at h
    rcases putAll_get l (i + 1) _ j u h with ⟨h1, h2⟩ | h1
    · refine .inl ⟨by omega, ?_⟩
      rw [show j - i = (j - (i + 1)) + 1 by omega]
      simpa using h2
    · rcases Tr.get_set _ t i j u h1 with ⟨rfl, h2⟩ | ⟨_, h2⟩
      · exact .inl ⟨Nat.le_refl _, by simpa using h2⟩
      · exact .inr h2

theorem mkFr_ok {args : List AV} {vals : List Value} (h : All2 (VR3 ρ) args vals) (n : Nat) :
    FR ρ (mkFr args n) { tmps := vals.toArray ++ Array.replicate (n - vals.toArray.size) undef, defers := [] } := by
  refine ⟨by simp [mkFr, h.len], fun t u ht => ?_⟩
  rcases putAll_get args 0 _ t u ht with ⟨_, h1⟩ | h1
  · obtain ⟨b, h2, h3⟩ := h.get (by simpa using h1)
    have : (vals.toArray ++ Array.replicate (n - vals.toArray.size) undef).getD t undef = b := by
      have hlt : t < vals.length := (List.getElem?_eq_some_iff.1 h2).1
      have e := (List.getElem?_eq_some_iff.1 h2).2
      simp [Array.getElem?_append, hlt, e]
    show VRe ρ _ u ((vals.toArray ++ Array.replicate (n - vals.toArray.size) undef).getD t undef)
    rw [this]
    exact h3.e
  · rw [Tr.get_mk] at h1; cases h1

theorem mkFr_NoGd {args : List AV} (h : args.any isGd = false) (n : Nat) : NoGd (mkFr args n) := fun t t' w v ht => by
  rcases putAll_get args 0 _ t _ ht with ⟨_, h1⟩ | h1
  · have hm := List.mem_of_getElem? h1
    have := List.any_eq_false.1 h _ hm
    simp [isGd] at this
  · rw [Tr.get_mk] at h1; cases h1

/-- A function. -/
def evFn (P : Program) (ok : List TypeId) (pc : Pcs) (h : Hd) (ro : FuncId → Bool) (ov : Ov) (N : Nat) (st : Bool) (fn : Func) (args : List AV) (m : Mem) (k : AV → Mem → Option Out) : Option Out :=
  match fn.body with
  | none => none
  | some c => bif args.any isGd then none else evC P ok pc h ro ov N st c (mkFr args fn.ntmps) m fun e fr m =>
    match (match e with | .normal => evRes P fr m fn.results.toList | .ret => evRes P fr m fn.results.toList | _ => none) with
    | some l => (match evTup l with | some v => k v m | none => none)
    | none => none

/-- A function that may be entered. -/
def Plain (P : Program) (f : FuncId) (fn : Func) : Prop := P.funcs[f]? = some fn ∧ fn.name ≠ "runtime.NumGoroutine"

theorem callFunc_run {f : FuncId} {fn : Func} {c : Code} (hf : Plain P f fn) (hb : fn.body = some c) (args : Array Value) (w : World) : (callFunc f args).run P w = .ok (.enter f args) w := by
  have hn : (fn.name == "runtime.NumGoroutine") = false := by
    rw [← Bool.not_eq_true, beq_iff_eq]; exact hf.2
  unfold callFunc
  rw [Sem.run_bind]
  show Sem.run P (match P.funcs[f]? with | none => _ | some fn => _) w = _
  rw [hf.1]
  show Sem.run P (if (fn.name == "runtime.NumGoroutine") = true then _ else if fn.body.isNone = true then _ else pure (Next.enter f args)) w = _
  rw [hn, hb]
  rfl

theorem evFn_ok (hmix : P.follows .mixedOrders = true) {ok : List TypeId} (hok : Fair P ok) {pc : Pcs} (hpc : PSound P pc) {h : Hd} (hh : HSound P h) {ro : FuncId → Bool} {ov : Ov}
    {N : Nat} {st : Bool} {f : FuncId} {fn : Func} (hf : Plain P f fn) (ho : ∀ c, fn.body = some c → OvOk P ov c) {args : List AV} {m : Mem} {k : AV → Mem → Option Out} {r : Out}
    (he : evFn P ok pc h ro ov N st fn args m k = some r) (hr : Om.fine r) :
    ∃ v m', k v m' = some r ∧ ∀ ρ A w vals, Rep ρ A m w → All2 (VR3 ρ) args vals → Done P ρ A w (callFunc f vals.toArray) v m' := by
  unfold evFn at he
  split at he <;> try (cases he; done)
  rename_i c hb
  cases hg : args.any isGd with
  | true => rw [hg] at he; cases he
  | false =>
  rw [hg, cond_false] at he
  obtain ⟨e, fr', m', h1, h2, h3⟩ := evC_ok hmix hok hpc hh hr c (ho c hb) _ m _ he (mkFr_NoGd hg _)
  split at h1 <;> try (cases h1; done)
  rename_i l hl
  split at h1 <;> try (cases h1; done)
  rename_i v hv
  refine ⟨v, m', h1, fun ρ A w vals hR hargs => .inr ⟨f, vals.toArray, callFunc_run hf hb _ w, ?_⟩⟩
  refine calls_of_wp hf.1 hb (wp_mono (h3 ρ A w _ (mkFr_ok hargs _) hR) fun e' a' w' h => ?_)
  obtain ⟨rfl, hd, ρ', q1, q2, q3, q4⟩ := h
  have fin : evRes P fr' m' fn.results.toList = some l → a'.defers = [] ∧ ∃ v_1, (results fn a'.tmps).run P w' = .ok v_1 w' ∧
      ∃ ρ' rv, Ending.returned v_1 = .returned rv ∧ ρ.ext ρ' ∧ Rep ρ' A m' w' ∧ Upd A w w' ∧ VR3 ρ' v rv := fun hl => by
    obtain ⟨rv, g1, g2⟩ := results_ok (P := P) q3 q2.get hl hv
    exact ⟨hd, rv, g1, ρ', rv, rfl, q1, q3, q4, g2⟩
  cases e' <;> first | exact fin hl | cases hl

/-- The functions that are entered, one inside the other, so deep. -/
def inl (P : Program) (ok : List TypeId) (pc : Pcs) (ro : FuncId → Bool) (fs : List FuncId) (N : Nat) (st : FuncId → Bool) : Nat → Hd
  | 0, _, _, _, _ => none
  | d + 1, f, args, m, k => bif memN f fs then (match P.funcs[f]? with
    | some fn => evFn P ok pc (inl P ok pc ro fs N st d) ro (fun _ _ _ _ => none) N (st f) fn args m k
    | none => none) else none

/-- None of these functions is the one that has no frame. -/
def Names (P : Program) (fs : List FuncId) : Prop := ∀ f ∈ fs, ∀ fn, P.funcs[f]? = some fn → fn.name ≠ "runtime.NumGoroutine"

def namesB (P : Program) (fs : List FuncId) : Bool := fs.all fun f => match P.funcs[f]? with | some fn => decide (fn.name ≠ "runtime.NumGoroutine") | none => true
theorem names_of {fs : List FuncId} (h : namesB P fs = true) : Names P fs := fun f hf fn hfn => by
  have := List.all_eq_true.1 h f hf
  rw [hfn] at this
  exact of_decide_eq_true this

theorem OvOk_none : ∀ (c : Code), OvOk P (fun _ _ _ _ => none : Ov) c
  | .seq a b => ⟨OvOk_none a, OvOk_none b⟩
  | .cond _ a b => ⟨OvOk_none a, OvOk_none b⟩
  | .block _ b => ⟨fun _ _ _ _ _ h => by (cases h), OvOk_none b⟩
  | .loop b => OvOk_none (c := b)
  | .scope b => OvOk_none (c := b)
  | .skip => trivial
  | .region _ _ _ => trivial
  | .rangeFunc _ _ _ _ => trivial
  | .exit _ => trivial
  | .label _ => trivial
  | .goto _ => trivial
  | .ret => trivial
  | .refuse _ => trivial

theorem inl_ok (hmix : P.follows .mixedOrders = true) {ok : List TypeId} (hok : Fair P ok) {pc : Pcs} (hpc : PSound P pc) {ro : FuncId → Bool} {fs : List FuncId} (hfs : Names P fs)
    {N : Nat} {st : FuncId → Bool} : ∀ d, HSound P (inl P ok pc ro fs N st d : Hd)
  | 0 => fun f args m k r h _ => by cases h
  | d + 1 => fun f args m k r h hr => by
    simp only [inl] at h
    cases hm : memN f fs with
    | false => rw [hm] at h; cases h
    | true =>
    rw [hm, cond_true] at h
    split at h <;> try (cases h; done)
    rename_i fn hfn
    exact evFn_ok hmix hok hpc (inl_ok hmix hok hpc hfs d) ⟨hfn, hfs f ((memN_iff _ _).1 hm) fn hfn⟩ (fun c _ => OvOk_none c) h hr

end
end Go.Ev
