/-
  The evaluator: code. Own text; nothing of a program.
-/
import Derived.Test.YtngaeiceicgalaaDoorEvP
import Derived.LoopN
import Derived.Scope
namespace Go.Ev

/-- How an evaluation goes on behind a piece of code. -/
abbrev Kc := Exit → Fr → Mem → Option Out

/-- Pieces of code (by their blocks' numbers) whose meaning is given from outside. -/
abbrev Ov := Nat → Fr → Mem → Kc → Option (Option Out)

def thenK (next k : Kc) : Kc := fun e fr m => match e with
  | .normal => next .normal fr m
  | e => k e fr m

def loopN (step : Fr → Mem → Kc → Option Out) (k : Kc) : Nat → Fr → Mem → Option Out
  | 0, _, _ => none
  | n + 1, fr, m => step fr m (thenK (fun _ fr m => loopN step k n fr m) k)

/-- A loop's head: it goes on or leaves. Where N is even, it is known which. -/
def isHead : Code → Code → Bool
  | .skip, .exit _ => true
  | _, _ => false

def evC (P : Program) (ok : List TypeId) (pc : Pcs) (h : Hd) (ro : FuncId → Bool) (ov : Ov) (N : Nat) (st : Bool) : Code → Fr → Mem → Kc → Option Out
  | .skip, fr, m, k => k .normal fr m
  | .label _, fr, m, k => k .normal fr m
  | .exit id, fr, m, k => k (.exit id) fr m
  | .ret, fr, m, k => k .ret fr m
  | .seq a b, fr, m, k => evC P ok pc h ro ov N st a fr m (thenK (fun _ fr m => evC P ok pc h ro ov N st b fr m k) k)
  | .cond c a b, fr, m, k => match rdOp fr [] c with
    | some (.bl x) => bif st || (isHead a b && Nat.beq (N % 2) 0) then (bif x then evC P ok pc h ro ov N st a fr m k else evC P ok pc h ro ov N st b fr m k)
      else brC x (evC P ok pc h ro ov N st a fr m k) (evC P ok pc h ro ov N st b fr m k)
    | _ => none
  | .block id b, fr, m, k => match ov id fr m k with
    | some r => r
    | none => evC P ok pc h ro ov N st b fr m fun e fr m => match e with
      | .exit id' => bif Nat.beq id' id then k .normal fr m else k (.exit id') fr m
      | e => k e fr m
  | .loop b, fr, m, k => loopN (evC P ok pc h ro ov N st b) k N fr m
  | .scope b, fr, m, k => evC P ok pc h ro ov N st b fr m fun e fr m => match e with
      | .goto _ => none
      | e => k e fr m
  | .region _ ops draw, fr, m, k => bif draw then evDraw P ok pc h ro ops fr m (k .normal)
      else evOps P ok pc h ops (anyG ops.toList) ops.toList [] fr m fun fr m => k .normal (clearG ops.toList fr) m
  | _, _, _, _ => none

section
variable {P : Program}

/-- What is given from outside is so. -/
def OvOk (P : Program) (ov : Ov) : Code → Prop
  | .seq a b => OvOk P ov a ∧ OvOk P ov b
  | .cond _ a b => OvOk P ov a ∧ OvOk P ov b
  | .block id b => (∀ fr m k r, NoGd fr → ov id fr m k = some (some r) → Om.fine r → ∃ e fr' m', k e fr' m' = some r ∧ NoGd fr' ∧ Runs P (.block id b) fr m e fr' m') ∧ OvOk P ov b
  | .loop b => OvOk P ov b
  | .scope b => OvOk P ov b
  | _ => True

/-- What is asked of the end of a piece of code. -/
def Post (ρ : Ren) (A : Nat → Prop) (w : World) (a : Act) (e : Exit) (fr' : Fr) (m' : Mem) : Exit → Act → World → Prop :=
  fun e' a' w' => e' = e ∧ a'.defers = a.defers ∧ ∃ ρ', ρ.ext ρ' ∧ FR ρ' fr' a' ∧ Rep ρ' A m' w' ∧ Upd A w w'

theorem Post.trans {ρ ρ1 : Ren} {A : Nat → Prop} {w w1 : World} {a a1 : Act} {e : Exit} {fr' : Fr} {m' : Mem} (hd : a1.defers = a.defers) (h1 : ρ.ext ρ1) (h2 : Upd A w w1) {e' : Exit} {a' : Act} {w' : World}
    (h : Post ρ1 A w1 a1 e fr' m' e' a' w') : Post ρ A w a e fr' m' e' a' w' := by
  obtain ⟨q1, q2, ρ', q3, q4, q5, q6⟩ := h
  exact ⟨q1, q2.trans hd, ρ', h1.trans q3, q4, q5, h2.trans q6⟩

theorem Runs.here {c : Code} {fr : Fr} {m : Mem} {e : Exit} (h : ∀ (Q : Exit → Act → World → Prop) a w, Q e a w → c.wp P Q a w) : Runs P c fr m e fr m :=
  fun ρ A w a hf hR => h _ a w ⟨rfl, rfl, ρ, Ren.ext.refl ρ, hf, hR, Upd.refl A w⟩

theorem Exit.then_post {next : Act → World → Prop} {Q : Exit → Act → World → Prop} {e : Exit} (he : e ≠ .normal) {a : Act} {w : World} (h : Q e a w) : Exit.then next Q e a w := by
  cases e <;> first | exact absurd rfl he | exact h

theorem thenK_ok {next k : Kc} {e : Exit} {fr : Fr} {m : Mem} {r : Out} (h : thenK next k e fr m = some r) :
    (e = .normal ∧ next .normal fr m = some r) ∨ (e ≠ .normal ∧ k e fr m = some r) := by
  cases e <;> first | exact .inl ⟨rfl, h⟩ | exact .inr ⟨by simp, h⟩

theorem loopN_ok {b : Code} {step : Fr → Mem → Kc → Option Out} {k : Kc} {r : Out}
    (hs : ∀ fr m k', step fr m k' = some r → NoGd fr → ∃ e fr' m', k' e fr' m' = some r ∧ NoGd fr' ∧ Runs P b fr m e fr' m') :
    ∀ (n : Nat) (fr : Fr) (m : Mem), loopN step k n fr m = some r → NoGd fr → ∃ e fr' m', k e fr' m' = some r ∧ NoGd fr' ∧
      ∀ ρ A w a, FR ρ fr a → Rep ρ A m w → Code.rounds P b (Post ρ A w a e fr' m') n a w
  | 0, _, _, h, _ => by cases h
  | n + 1, fr, m, h, hg => by
    simp only [loopN] at h
    obtain ⟨e1, fr1, m1, h1, h2, h3⟩ := hs _ _ _ h hg
    rcases thenK_ok h1 with ⟨rfl, h4⟩ | ⟨hne, h4⟩
    · obtain ⟨e, fr', m', k1, k2, k3⟩ := loopN_ok hs n fr1 m1 h4 h2
      refine ⟨e, fr', m', k1, k2, fun ρ A w a hf hR => ?_⟩
      refine wp_mono (h3 ρ A w a hf hR) fun e' a' w' ⟨he, hd, ρ', q1, q2, q3, q4⟩ => ?_
      subst he
      show Code.rounds P b _ n a' w'
      have := k3 ρ' A w' a' q2 q3
      exact rounds_mono (fun e'' a'' w'' h => Post.trans hd q1 q4 h) this
    · refine ⟨e1, fr1, m1, h4, h2, fun ρ A w a hf hR => ?_⟩
      refine wp_mono (h3 ρ A w a hf hR) fun e' a' w' h => ?_
      obtain ⟨rfl, _⟩ := id h
      exact Exit.then_post hne h
  where
  rounds_mono {b : Code} {Q Q' : Exit → Act → World → Prop} (hq : ∀ e a w, Q e a w → Q' e a w) : ∀ {n : Nat} {a : Act} {w : World}, Code.rounds P b Q n a w → Code.rounds P b Q' n a w
    | 0, _, _, h => h
    | n + 1, a, w, h => by
      refine wp_mono h fun e a w h => ?_
      cases e
      case normal => exact rounds_mono hq h
      all_goals exact hq _ _ _ h

theorem inBlock_here {id id' : Nat} {Q : Exit → Act → World → Prop} {a : Act} {w : World} (hid : id' = id) (h : Q .normal a w) : Exit.inBlock id Q (.exit id') a w := by
  show if id' = id then _ else _
  rw [if_pos hid]; exact h
theorem inBlock_other {id id' : Nat} {Q : Exit → Act → World → Prop} {a : Act} {w : World} (hid : id' ≠ id) (h : Q (.exit id') a w) : Exit.inBlock id Q (.exit id') a w := by
  show if id' = id then _ else _
  rw [if_neg hid]; exact h

theorem clearG_NoGd {l : List Oper} {fr : Fr} {S D : List Nat} (hg : GdIn fr S D) (hD : ∀ t ∈ D, ∃ o ∈ l, o.guard.isSome = true ∧ o.dst = some t) : NoGd (clearG l fr) := fun t t' w v h => by
  obtain ⟨h1, h2⟩ := clearG_get l fr t _ h
  obtain ⟨o, h3, h4, h5⟩ := hD t (hg t t' w v h1).2
  exact h2 o h3 h4 h5

theorem foldD (l : List Oper) : ∀ (D : List Nat) (t : Nat), t ∈ l.foldl (fun D o => match o.guard with | some _ => addD o.dst D | none => D) D → t ∈ D ∨ ∃ o ∈ l, o.guard.isSome = true ∧ o.dst = some t := by
  induction l with
  | nil => intro D t h; exact .inl h
  | cons o l ih =>
    intro D t h
    simp only [List.foldl_cons] at h
    rcases ih _ t h with h1 | ⟨o', h1, h2⟩
    · cases hg : o.guard with
      | none => rw [hg] at h1; exact .inl h1
      | some x =>
        rw [hg] at h1
        cases hd : o.dst with
        | none => rw [hd] at h1; exact .inl h1
        | some d =>
          rw [hd] at h1
          simp only [addD, List.mem_cons] at h1
          rcases h1 with rfl | h1
          · exact .inr ⟨o, List.mem_cons_self, by simp [hg], hd⟩
          · exact .inl h1
    · exact .inr ⟨o', List.mem_cons_of_mem _ h1, h2⟩

theorem evC_ok (hmix : P.follows .mixedOrders = true) {ok : List TypeId} (hok : Fair P ok) {pc : Pcs} (hpc : PSound P pc) {h : Hd} (hh : HSound P h) {ro : FuncId → Bool} {ov : Ov}
    {N : Nat} {st : Bool} {r : Out} (hr : Om.fine r) :
    ∀ (c : Code), OvOk P ov c → ∀ (fr : Fr) (m : Mem) (k : Kc), evC P ok pc h ro ov N st c fr m k = some r → NoGd fr → ∃ e fr' m', k e fr' m' = some r ∧ NoGd fr' ∧ Runs P c fr m e fr' m'
  | .skip, _, fr, m, k, he, hg => ⟨.normal, fr, m, he, hg, Runs.here fun _ _ _ => wp_skip⟩
  | .label _, _, fr, m, k, he, hg => ⟨.normal, fr, m, he, hg, Runs.here fun _ _ _ => wp_label⟩
  | .exit id, _, fr, m, k, he, hg => ⟨.exit id, fr, m, he, hg, Runs.here fun _ _ _ => wp_exit⟩
  | .ret, _, fr, m, k, he, hg => ⟨.ret, fr, m, he, hg, Runs.here fun _ _ _ => wp_ret⟩
  | .seq x y, ho, fr, m, k, he, hg => by
    simp only [evC] at he
    obtain ⟨e1, fr1, m1, h1, h2, h3⟩ := evC_ok hmix hok hpc hh hr x ho.1 fr m _ he hg
    rcases thenK_ok h1 with ⟨rfl, h4⟩ | ⟨hne, h4⟩
    · obtain ⟨e, fr', m', k1, k2, k3⟩ := evC_ok hmix hok hpc hh hr y ho.2 fr1 m1 _ h4 h2
      refine ⟨e, fr', m', k1, k2, fun ρ A w a hf hR => wp_seq (wp_mono (h3 ρ A w a hf hR) fun e' a' w' ⟨he, hd, ρ', q1, q2, q3, q4⟩ => ?_)⟩
      subst he
      exact wp_mono (k3 ρ' A w' a' q2 q3) fun e'' a'' w'' h => Post.trans hd q1 q4 h
    · refine ⟨e1, fr1, m1, h4, h2, fun ρ A w a hf hR => wp_seq (wp_mono (h3 ρ A w a hf hR) fun e' a' w' h => ?_)⟩
      obtain ⟨rfl, _⟩ := id h
      exact Exit.then_post hne h
  | .cond c x y, ho, fr, m, k, he, hg => by
    simp only [evC] at he
    split at he <;> try (cases he; done)
    rename_i b hb
    have key : (b = true → evC P ok pc h ro ov N st x fr m k = some r) ∧ (b = false → evC P ok pc h ro ov N st y fr m k = some r) := by
      cases hs : st || (isHead x y && Nat.beq (N % 2) 0) with
      | true =>
        rw [hs, cond_true] at he
        refine ⟨fun hb => ?_, fun hb => ?_⟩
        · rw [hb] at he; exact he
        · rw [hb] at he; exact he
      | false =>
        rw [hs, cond_false] at he
        exact brC_ok he hr
    have hev : ∀ ρ A w a, FR ρ fr a → Rep ρ A m w → a.eval c = .bool b := fun ρ A w a hf _ => rdOp_ok hf.get (G := []) (fun x hx => by cases hx) _ _ hb
    cases b with
    | true =>
      obtain ⟨e, fr', m', k1, k2, k3⟩ := evC_ok hmix hok hpc hh hr x ho.1 fr m k (key.1 rfl) hg
      exact ⟨e, fr', m', k1, k2, fun ρ A w a hf hR => wp_cond_true (hev ρ A w a hf hR) (k3 ρ A w a hf hR)⟩
    | false =>
      obtain ⟨e, fr', m', k1, k2, k3⟩ := evC_ok hmix hok hpc hh hr y ho.2 fr m k (key.2 rfl) hg
      exact ⟨e, fr', m', k1, k2, fun ρ A w a hf hR => wp_cond_false (hev ρ A w a hf hR) (k3 ρ A w a hf hR)⟩
  | .block id b, ho, fr, m, k, he, hg => by
    simp only [evC] at he
    split at he
    · rename_i r' hr'
      subst he
      exact ho.1 fr m k r hg hr' hr
    · obtain ⟨e1, fr1, m1, h1, h2, h3⟩ := evC_ok hmix hok hpc hh hr b ho.2 fr m _ he hg
      cases e1
      case exit id' =>
        simp only at h1
        cases hid : Nat.beq id' id with
        | true =>
          rw [hid] at h1
          have := Nat.eq_of_beq_eq_true hid
          subst this
          refine ⟨.normal, fr1, m1, h1, h2, fun ρ A w a hf hR => wp_block (wp_mono (h3 ρ A w a hf hR) fun e' a' w' h => ?_)⟩
          obtain ⟨he', hq⟩ := h
          subst he'
          exact inBlock_here (Q := Post ρ A w a .normal fr1 m1) rfl ⟨rfl, hq⟩
        | false =>
          rw [hid] at h1
          have := Nat.ne_of_beq_eq_false hid
          refine ⟨.exit id', fr1, m1, h1, h2, fun ρ A w a hf hR => wp_block (wp_mono (h3 ρ A w a hf hR) fun e' a' w' h => ?_)⟩
          obtain ⟨he', hq⟩ := h
          subst he'
          exact inBlock_other (Q := Post ρ A w a (.exit id') fr1 m1) this ⟨rfl, hq⟩
      all_goals
        refine ⟨_, fr1, m1, h1, h2, fun ρ A w a hf hR => wp_block (wp_mono (h3 ρ A w a hf hR) fun e' a' w' h => ?_)⟩
        obtain ⟨he', hq⟩ := h
        subst he'
        exact ⟨rfl, hq⟩
  | .loop b, ho, fr, m, k, he, hg => by
    simp only [evC] at he
    obtain ⟨e, fr', m', k1, k2, k3⟩ := loopN_ok (P := P) (b := b) (fun fr m k' h' hg' => evC_ok hmix hok hpc hh hr b ho fr m k' h' hg') N fr m he hg
    exact ⟨e, fr', m', k1, k2, fun ρ A w a hf hR => wp_loop_rounds N (k3 ρ A w a hf hR)⟩
  | .scope b, ho, fr, m, k, he, hg => by
    simp only [evC] at he
    obtain ⟨e1, fr1, m1, h1, h2, h3⟩ := evC_ok hmix hok hpc hh hr b ho fr m _ he hg
    have hne : ∀ l, e1 ≠ .goto l := fun l hl => by subst hl; cases h1
    have h1' : k e1 fr1 m1 = some r := by cases e1 <;> first | exact absurd rfl (hne _) | exact h1
    refine ⟨e1, fr1, m1, h1', h2, fun ρ A w a hf hR => wp_scope_straight (wp_mono (h3 ρ A w a hf hR) fun e' a' w' h => ?_)⟩
    obtain ⟨he', hq⟩ := h
    subst he'
    cases e' <;> first | exact absurd rfl (hne _) | exact ⟨rfl, hq⟩
  | .region id ops draw, _, fr, m, k, he, hg => by
    simp only [evC] at he
    cases draw with
    | true =>
      rw [cond_true] at he
      obtain ⟨fr', m', h1, h2, h3⟩ := evDraw_ok hmix hok hpc hh (id := id) hg he hr
      exact ⟨.normal, fr', m', h1, h2, h3⟩
    | false =>
      rw [cond_false] at he
      obtain ⟨fr', m', h1, h2, _, h4⟩ := evOps_ok hok hpc hh hr ops.toList [] [] fr m _ he (fun t t' w v h => absurd h (hg t t' w v)) (fun _ => hg)
      refine ⟨.normal, _, m', h1, clearG_NoGd h2 fun t ht => ?_, fun ρ A w a hf hR => wp_region_list (h4 _ ρ A w a hf hR fun ρ' a' w' q1 q2 q3 q4 q5 => ?_)⟩
      · rcases foldD _ _ _ ht with h | h
        · cases h
        · exact h
      · exact ⟨rfl, q5, ρ', q1, ⟨by rw [clearG_n]; exact q2.size, fun t u hu => q2.get t u (clearG_get _ _ _ _ hu).1⟩, q3, q4⟩
  | .rangeFunc _ _ _ _, _, fr, m, k, he, hg => by cases he
  | .goto _, _, fr, m, k, he, hg => by cases he
  | .refuse _, _, fr, m, k, he, hg => by cases he

end
end Go.Ev
