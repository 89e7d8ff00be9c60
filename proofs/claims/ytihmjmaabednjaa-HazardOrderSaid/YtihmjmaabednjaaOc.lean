/-
  HazardOrder: the row of Order; one round of the law, evaluated.
-/
import Derived.Test.YtihmjmaabednjaaOb
set_option linter.unusedVariables false
set_option linter.unusedSimpArgs false
set_option maxRecDepth 100000
namespace Go.Proofs.Ytihmjmaabednjaa.PV
noncomputable section
open Go Go.Ev
theorem p19 : Plain Try.prog 19 Try.f19 := ⟨Try.func19, of_decide_eq_true (by kernel_rfl)⟩
def orF (n : Nat) (E : Nat → In6) : Nat → Int := orOs E (iniL 32) (fun _ => 0) n
def outM (n n' : Nat) (E : Nat → In6) (O : Nat → Int) : Mem := L1s.M [.sl 1 [] 0 n true, inA n' E, ouA n O]
theorem or_small (n n' : Nat) (E : Nat → In6) (h : n < 1000000) : Small Try.prog 19 [.sl 0 [] 0 n false] (inM n' E) (.sl 1 [] 0 n true) (outM n n' E (orF n E)) := by
  have hE := or_fn orw n n' E
  rw [show iLe 0 0 = true from rfl, iLe_true.2 (show (0 : Int) ≤ (n : Nat) by omega), iLe_true.2 (show ((n : Nat) : Int) ≤ 4294967296 by omega), iEq_true.2 (show ((n : Nat) : Int) = n from rfl), show iEq 0 0 = true from rfl, iLt_true.2 (show ((n : Nat) : Int) < 1000000 by omega)] at hE
  exact small_ok mix fair T13_ok HSound_none p19 or_ov hE rfl rfl rfl rfl rfl rfl
/-- A row of instructions that are only read. -/
def orRow (W : Nat → (Nat → In6) → Nat → Int) : MRow := fun args m => match args with
  | [.sl id [] lo n false] => bif Nat.beq lo 0 then
      (match m.get id with
      | some (.cells (.arr n' s f) false) => bif s.beq inSh then some (some (iLt n 1000000), [id], .sl 1 [] 0 n true, outM n n' (fun j => de6 (f j)) (W n fun j => de6 (f j))) else none
      | _ => none) else none
  | _ => none
theorem inM_get {n : Nat} {E : Nat → In6} {i : Nat} {b : Blk} (h : (inM n E).get i = some b) : i = 0 ∧ b = .cells (inA n E) false := by
  rcases Tr.get_set _ _ _ _ _ h with ⟨h1, h2⟩ | ⟨_, h⟩
  · cases h2; exact ⟨h1, rfl⟩
  · simp only [Mem.empty, Tr.get_mk] at h; cases h
theorem outM_get {n n' : Nat} {E : Nat → In6} {O : Nat → Int} {i : Nat} {b : Blk} (h : (outM n n' E O).get i = some b) : (i = 0 ∧ b = .cells (inA n' E) false) ∨ (i = 1 ∧ b = .cells (ouA n O) true) := by
  rcases Tr.get_set _ _ _ _ _ h with ⟨h1, h2⟩ | ⟨_, h⟩
  · cases h2; exact .inr ⟨h1, rfl⟩
  · rcases Tr.get_set _ _ _ _ _ h with ⟨h1, h2⟩ | ⟨_, h⟩
    · cases h2; exact .inl ⟨h1, rfl⟩
    · simp only [Tr.get_mk] at h; cases h
theorem orRow_ok : MRowOk Try.prog 19 (orRow orF) := fun args m c τ v m1 he hc => by
  unfold orRow at he
  split at he <;> try (cases he; done)
  rename_i id lo n
  cases hb : Nat.beq lo 0 with
  | false => rw [hb] at he; cases he
  | true =>
  rw [hb, cond_true] at he
  have hb := Nat.eq_of_beq_eq_true hb
  subst hb
  split at he <;> try (cases he; done)
  rename_i n' s f hm
  cases hs : s.beq inSh with
  | false => rw [hs] at he; cases he
  | true =>
  rw [hs, cond_true] at he
  have hs := Sh.beq_eq _ _ hs
  subst hs
  cases he
  have hn : n < 1000000 := by
    have : iLt (n : Int) 1000000 = true := by
      rcases hc with hc | hc
      · cases hc
      · exact Option.some.inj hc
    have := iLt_true.1 this
    omega
  have g0 : (Mem.empty.add (.cells (.arr n' inSh f) false)).get 0 = some (.cells (.arr n' inSh f) false) := rfl
  refine ⟨[.sl 0 [] 0 n false], Mem.empty.add (.cells (.arr n' inSh f) false), Small.of_wf fun _ w2 => ?_,
    ⟨by simp, rfl, ⟨.inr (.inr ⟨0, [], 0, n, false, rfl, rfl, by simp⟩), trivial⟩, fun k hk => ?_, fun k b hb => ?_⟩, Nat.le_succ _, rfl, fun k b hb => ?_⟩
  · have hw := w2 0 _ _ g0
    have hf : f = fun j => in6 (de6 (f j)) := by
      funext j
      have := hw j
      rw [← norm6, norm_eq _ _ this.1 this.2]
    have := or_small n n' (fun j => de6 (f j)) hn
    unfold inM inA at this
    rw [← hf] at this
    exact this
  · simp at hk; subst hk; exact ⟨_, g0⟩
  · have hk : k = 0 ∧ b = .cells (.arr n' inSh f) false := by
      rcases Tr.get_set _ _ _ _ _ hb with ⟨h1, h2⟩ | ⟨_, h⟩
      · cases h2; exact ⟨h1, rfl⟩
      · simp only [Mem.empty, Tr.get_mk] at h; cases h
    obtain ⟨rfl, rfl⟩ := hk
    exact ⟨by simp, _, _, rfl, rfl, hm⟩
  · rcases outM_get hb with ⟨rfl, rfl⟩ | ⟨rfl, rfl⟩
    · exact ⟨(show 0 < 2 by decide), _, _, rfl, rfl, fun h => absurd (show 1 ≤ 0 from h) (by decide)⟩
    · exact ⟨(show 1 < 2 by decide), _, _, rfl, rfl, fun _ => rfl⟩
/- The law's round. -/
def qA (e : In6) : Int := sallyportref3_Reads0 e.op e.rd e.r1 e.r2 e.im e.cs
def qB (e : In6) : Int := sallyportref3_Reads1 e.op e.rd e.r1 e.r2 e.im e.cs
def qW (e : In6) : Int := sallyportref3_Writes0 e.op e.rd e.r1 e.r2 e.im e.cs
def pas (a b : In6) : Bool := hazard_Passes0 a.op a.rd a.r1 a.r2 a.im a.cs b.op b.rd b.r1 b.r2 b.im b.cs
def hoL : Lq := { n := 87, n0 := 3, ts := [0, 3, 4, 6], mv := [], ids := [(0, false), (1, true), (2, true)] }
def hoS (n n' : Nat) (E : Nat → In6) (m m' : Nat) (O L : Nat → Int) (i : Int) : List AV := [.sl 0 [] 0 n false, .sl 1 [] 0 m true, .pt 2 [] orSh, .it .i64 i, inA n' E, ouA m' O, lsA L]
def hoC (n n' : Nat) (E : Nat → In6) (m m' : Nat) (O L : Nat → Int) (i : Int) (e : In6) (o v : Int) : Option Out :=
  let x := iNe o v
  let y := iLe 0 v
  let g := !(!x && y)
  bindC (some (iIn i m)) (bindC (some (g || iIn v n)) (bindC (some (g || iIn i n)) (bif (bif x then true else bif y then !pas (E (v.toNat + 0)) e else false) then none else
    bindC (some (iIn i n)) (bif iNe (qW e) 0 then bindC (some (iIn (qW e) 32)) (some (true, .tup (.it .i64 0 :: hoS n n' E m m' O (setN L (qW e).toNat i) (iAdd .i64 i 1)))) else some (true, .tup (.it .i64 0 :: hoS n n' E m m' O L (iAdd .i64 i 1)))))))
def hoB (n n' : Nat) (E : Nat → In6) (m m' : Nat) (O L : Nat → Int) (i : Int) (e : In6) (o v : Int) : Option Out :=
  bif iNe (qB e) 0 then bindC (some (iIn (qB e) 32)) (hoC n n' E m m' O L i e o (iMax v (L (qB e).toNat))) else hoC n n' E m m' O L i e o v
def hoR (n n' : Nat) (E : Nat → In6) (m m' : Nat) (O L : Nat → Int) (i : Int) (e : In6) (o : Int) : Option Out :=
  bif iLt i n then bindC (some (iIn i n)) (bif iNe (qA e) 0 then bindC (some (iIn (qA e) 32)) (hoB n n' E m m' O L i e o (L (qA e).toNat)) else hoB n n' E m m' O L i e o (-1)) else none
theorem hoA (n n' : Nat) (E : Nat → In6) (m m' : Nat) (O L : Nat → Int) (i : Int) : evC Try.prog okT PC NOH RO NOV 100 true (bodyAt Try.f4.body 2) (hoL.F (hoS n n' E m m' O L i)) (hoL.M (hoS n n' E m m' O L i)) (grabJ 0 (grabQ hoL)) =
    hoR n n' E m m' O L i (E (i.toNat + 0)) (O (i.toNat + 0)) := by kernel_rfl
theorem hoX (n n' : Nat) (E : Nat → In6) (m m' : Nat) (O L : Nat → Int) (i : Int) : evC Try.prog okT PC NOH RO (ovNot 3) 100 true (bodyAt Try.f4.body 2) (hoL.F (hoS n n' E m m' O L i)) (hoL.M (hoS n n' E m m' O L i)) (grabJ 4 (grabQ hoL)) =
    bif iLt i n then none else some (true, .tup (.it .i64 4 :: hoS n n' E m m' O L i)) := by kernel_rfl
end
end Go.Proofs.Ytihmjmaabednjaa.PV
