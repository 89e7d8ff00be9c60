/-
  The comparison of two rows of entries that are the same.
-/
import Derived.Test.YtcmknfnnapnecaaUw
set_option linter.unusedVariables false
set_option linter.unusedSimpArgs false
set_option maxRecDepth 100000
namespace Go.Proofs.Ytcmknfnnapnecaa.PV
noncomputable section
open Go Go.Ev

def saS (n n' m m' : Nat) (E G : Tab) (b : Bool) (i : Int) : List AV := [.sl 0 [] 0 n true, .sl 1 [] 0 m true, .bl b, .it .i64 i, elA n' E, elA m' G]
def smW := Nat → Nat → Tab → Tab → Bool
def saTs : List Tm := [.fx .ref, .fx .ref, .fx .bool, .fx (.int .i64), .ar entSh, .ar entSh]
def saGo (W : Nat → Nat → Tab → Tab → Bool) : (Nat → AV) → Kc → Option Out := goJ (fun g => isSlq 0 true (g 0) && isSlq 1 true (g 1)) (fun g => iEq (g 3).num 0 && W (lenS (g 0)) (lenS (g 1)) (arT (g 4)) (arT (g 5))) .normal
  (fun g => sameL.F (saS (lenS (g 0)) (lenA (g 4)) (lenS (g 1)) (lenA (g 5)) (arT (g 4)) (arT (g 5)) (g 2).bool (lenS (g 0) : Nat)))
  (fun g => sameL.M (saS (lenS (g 0)) (lenA (g 4)) (lenS (g 1)) (lenA (g 5)) (arT (g 4)) (arT (g 5)) (g 2).bool (lenS (g 0) : Nat)))
/-- So many entries, no more than fit, the same ones. -/
def smF (n m : Nat) (E G : Tab) : Bool := Nat.blt n 1000000 && (Nat.beq n m && upTo (fun i => eqX (E i) (G i)) n)

def sa_rounds (f : FuncId) (body : Code) : Prop := ∀ (n n' m m' : Nat) (E G : Tab) (b : Bool) (i : Int),
  evC Try.prog okT NPC (HH []) RW NOV 101 false body (sameL.F (saS n n' m m' E G b i)) (sameL.M (saS n n' m m' E G b i)) (grabJ 0 (grabQ sameL)) = some (iLt i n && (iIn i n && (iIn i m && (!!eqX (E (i.toNat + 0)) (G (i.toNat + 0)) && true))), .tup (.it .i64 0 :: saS n n' m m' E G b (iAdd .i64 i 1))) ∧
  evC Try.prog okT NPC (HH []) RW NOV 101 false body (sameL.F (saS n n' m m' E G b i)) (sameL.M (saS n n' m m' E G b i)) (grabJ 2 (grabQ sameL)) = some (!iLt i n && true, .tup (.it .i64 2 :: saS n n' m m' E G b i))
theorem sa13 : sa_rounds 22 (bodyOf Try.f22.body 0) := fun n n' m m' E G b i => ⟨by kernel_rfl, by kernel_rfl⟩
theorem sa14 : sa_rounds 27 (bodyOf Try.f27.body 0) := fun n n' m m' E G b i => ⟨by kernel_rfl, by kernel_rfl⟩
theorem saGo_ok {f : FuncId} {body : Code} (hr : sa_rounds f body) : GoesT Try.prog 0 (.loop body) sameL saTs (saGo smF) := goT_ok fun g h1 h2 => by
  simp only [Bool.and_eq_true] at h1 h2
  obtain ⟨c0, c1⟩ := h1
  obtain ⟨hi, hW⟩ := h2
  refine ⟨noGd_all (L := sameL) rfl, fun fr m hm hb => ?_⟩
  have hst : norms (tmS g saTs 0) 0 g = saS (lenS (g 0)) (lenA (g 4)) (lenS (g 1)) (lenA (g 5)) (arT (g 4)) (arT (g 5)) (g 2).bool 0 := by
    have : norms (tmS g saTs 0) 0 g = [g 0, g 1, .bl (g 2).bool, .it .i64 (g 3).num, elA (lenA (g 4)) (arT (g 4)), elA (lenA (g 5)) (arT (g 5))] := rfl
    rw [this, iEq_true.1 hi]
    unfold saS
    rw [← isSlq_ok c0, ← isSlq_ok c1]
  rw [hst] at hb
  unfold smF at hW
  simp only [Bool.and_eq_true, Nat.blt_eq, Nat.beq_eq] at hW
  obtain ⟨hn, hnm, hup⟩ := hW
  refine loopJ_block (F := fun j => sameL.F (saS (lenS (g 0)) (lenA (g 4)) (lenS (g 1)) (lenA (g 5)) (arT (g 4)) (arT (g 5)) (g 2).bool (j : Nat))) (M := fun j => sameL.M (saS (lenS (g 0)) (lenA (g 4)) (lenS (g 1)) (lenA (g 5)) (arT (g 4)) (arT (g 5)) (g 2).bool (j : Nat))) (n := lenS (g 0)) (c := 2)
    (fun j hj => ?_) ?_ (by decide) hm hb (e := .exit 0) rfl
  · have hE := (hr (lenS (g 0)) (lenA (g 4)) (lenS (g 1)) (lenA (g 5)) (arT (g 4)) (arT (g 5)) (g 2).bool ((j : Nat) : Int)).1
    have he := upTo_at (f := fun i => eqX (arT (g 4) i) (arT (g 5) i)) hup j hj
    rw [iAdd_b j (by omega)] at hE
    refine turn0 (L := sameL) rfl (grabJ_part 0 (Part.refl _)) (noGd_all (L := sameL) rfl) hE ?_ rfl
    rw [iLt_true.2 (show (j : Int) < (lenS (g 0) : Nat) by omega), iIn_true.2 (show 0 ≤ (j : Int) ∧ (j : Int) < (lenS (g 0) : Nat) by omega), iIn_true.2 (show 0 ≤ (j : Int) ∧ (j : Int) < (lenS (g 1) : Nat) by omega), Nat.add_zero, Int.toNat_natCast, he]
    rfl
  · have hE := (hr (lenS (g 0)) (lenA (g 4)) (lenS (g 1)) (lenA (g 5)) (arT (g 4)) (arT (g 5)) (g 2).bool ((lenS (g 0) : Nat) : Int)).2
    exact turn0 (L := sameL) rfl (grabJ_part 2 (Part.refl _)) (noGd_all (L := sameL) rfl) hE (by rw [iLt_false.2 (Int.le_refl _)]; rfl) rfl
def L2s : Lq := { n := 1, n0 := 2, ts := [0], mv := [], ids := [(0, true), (1, true)] }
def sa_law (fn : Func) : Prop := ∀ (W : Nat → Nat → Tab → Tab → Bool) (n n' m m' : Nat) (E G : Tab), evFn Try.prog okT NPC (HH []) RW (ovT 0 sameL saTs (saGo W)) 101 false fn [.sl 0 [] 0 n true, .sl 1 [] 0 m true] (mem2 (elA n' E) (elA m' G)) (finQ L2s) =
    some (Om.pick (iNe n m) (true, .tup [.it .i64 0, .bl false, elA n' E, elA m' G]) ((iEq 0 0 && W n m E G) && true, .tup [.it .i64 0, .bl true, elA n' E, elA m' G]))
theorem sa_law13 : sa_law Try.f22 := fun W n n' m m' E G => by kernel_rfl
theorem sa_law14 : sa_law Try.f27 := fun W n n' m m' E G => by kernel_rfl
theorem sa_nil13 : evFn Try.prog okT NPC (HH []) RW NOV 101 false Try.f22 [.nsl, .nsl] Mem.empty (finQ L0) = some (true, .tup [.it .i64 0, .bl true]) := by kernel_rfl
theorem sa_nil14 : evFn Try.prog okT NPC (HH []) RW NOV 101 false Try.f27 [.nsl, .nsl] Mem.empty (finQ L0) = some (true, .tup [.it .i64 0, .bl true]) := by kernel_rfl
theorem sa_small {f : FuncId} {fn : Func} (hp : Plain Try.prog f fn) (hov : ∀ c, fn.body = some c → OvOk Try.prog (ovT 0 sameL saTs (saGo smF)) c) (hl : sa_law fn) {n n' m m' : Nat} {E G : Tab} (h : smF n m E G = true) :
    Small Try.prog f [.sl 0 [] 0 n true, .sl 1 [] 0 m true] (mem2 (elA n' E) (elA m' G)) (.bl true) (mem2 (elA n' E) (elA m' G)) := by
  have hE := hl smF n n' m m' E G
  have hnm : n = m := by
    unfold smF at h
    simp only [Bool.and_eq_true, Nat.beq_eq] at h
    exact h.2.1
  rw [show iNe (n : Int) m = false by unfold iNe; rw [hnm]; simp, Om.pick_f] at hE
  exact small_ok mix fair NPC_ok okH0 hp hov hE (by rw [h]; rfl) rfl rfl rfl rfl rfl
/-- Two rows that are the same, or both none. -/
def samRow (W : Nat → Nat → Tab → Tab → Bool) : MRow := fun args mm => match args with
  | [.nsl, .nsl] => some (none, [], .bl true, Mem.empty)
  | [.sl i [] lo n t, .sl j [] lo' m t'] => bif Nat.beq lo 0 && (Nat.beq lo' 0 && (t && (t' && !Nat.beq i j))) then
      (match mm.get i, mm.get j with
      | some (.cells (.arr n' s f) true), some (.cells (.arr m' s' f') true) => bif s.beq entSh && s'.beq entSh then
          some (some (W n m (fun k => deA (f k)) fun k => deA (f' k)), [i, j], .bl true, mem2 (.arr n' entSh f) (.arr m' entSh f')) else none
      | _, _ => none) else none
  | _ => none
theorem samRow_ok {f : FuncId} (h0 : Small Try.prog f [] Mem.empty (.bl true) Mem.empty ∨ True) (hn : Small Try.prog f [.nsl, .nsl] Mem.empty (.bl true) Mem.empty)
    (hs : ∀ {n n' m m' : Nat} {E G : Tab}, smF n m E G = true → Small Try.prog f [.sl 0 [] 0 n true, .sl 1 [] 0 m true] (mem2 (elA n' E) (elA m' G)) (.bl true) (mem2 (elA n' E) (elA m' G))) : MRowOk Try.prog f (samRow smF) := fun args mm c τ v m1 he hc => by
  unfold samRow at he
  split at he <;> try (cases he; done)
  · cases he
    refine ⟨_, _, hn, ⟨List.nodup_nil, rfl, ⟨.inl ⟨rfl, rfl⟩, .inl ⟨rfl, rfl⟩, trivial⟩, fun i hi => ?_, fun i b hb => ?_⟩, Nat.le_refl _, rfl, fun i b hb => ?_⟩
    · simp at hi
    · simp only [Mem.get, Mem.empty, Tr.get_mk] at hb; cases hb
    · simp only [Mem.get, Mem.empty, Tr.get_mk] at hb; cases hb
  · rename_i i lo n t j lo' m t'
    cases hb : Nat.beq lo 0 && (Nat.beq lo' 0 && (t && (t' && !Nat.beq i j))) with
    | false => rw [hb] at he; cases he
    | true =>
    rw [hb, cond_true] at he
    simp only [Bool.and_eq_true, Nat.beq_eq] at hb
    obtain ⟨rfl, rfl, rfl, rfl, hij⟩ := hb
    have hij : i ≠ j := fun e => by subst e; simp at hij
    split at he <;> try (cases he; done)
    rename_i n' s f1 m' s' f2 hm1 hm2
    cases hb2 : s.beq entSh && s'.beq entSh with
    | false => rw [hb2] at he; cases he
    | true =>
    rw [hb2, cond_true] at he
    cases he
    simp only [Bool.and_eq_true] at hb2
    have e1 := Sh.beq_eq _ _ hb2.1
    have e2 := Sh.beq_eq _ _ hb2.2
    subst e1; subst e2
    have hW : smF n m (fun k => deA (f1 k)) (fun k => deA (f2 k)) = true := by
      rcases hc with hc | hc
      · cases hc
      · exact Option.some.inj hc
    have g1 : (mem2 (.arr n' entSh f1) (.arr m' entSh f2)).get 0 = some (.cells (.arr n' entSh f1) true) := rfl
    have g2 : (mem2 (.arr n' entSh f1) (.arr m' entSh f2)).get 1 = some (.cells (.arr m' entSh f2) true) := rfl
    refine ⟨[.sl 0 [] 0 n true, .sl 1 [] 0 m true], mem2 (.arr n' entSh f1) (.arr m' entSh f2), Small.of_wf fun _ w2 => ?_,
      ⟨by simpa using hij, rfl, ⟨.inr (.inr ⟨0, [], 0, n, true, rfl, rfl, by simp⟩), .inr (.inr ⟨1, [], 0, m, true, rfl, rfl, by simp⟩), trivial⟩, fun k hk => ?_, fun k b hb => ?_⟩, Nat.le_refl _, rfl, fun k b hb => ?_⟩
    · have a1 : (AV.arr n' entSh f1) = elA n' fun k => deA (f1 k) := by
        unfold elA
        congr 1
        funext k
        have hw := w2 0 _ true g1 k
        rw [← norm_en, norm_eq _ _ hw.1 hw.2]
      have a2 : (AV.arr m' entSh f2) = elA m' fun k => deA (f2 k) := by
        unfold elA
        congr 1
        funext k
        have hw := w2 1 _ true g2 k
        rw [← norm_en, norm_eq _ _ hw.1 hw.2]
      rw [a1, a2]
      exact hs hW
    · have : k = 0 ∨ k = 1 := by simp at hk; omega
      rcases this with rfl | rfl
      · exact ⟨_, g1⟩
      · exact ⟨_, g2⟩
    · rcases mem2_get hb with ⟨rfl, rfl⟩ | ⟨rfl, rfl⟩
      · exact ⟨by simp, _, true, rfl, rfl, hm1⟩
      · exact ⟨by simp, _, true, rfl, rfl, hm2⟩
    · rcases mem2_get hb with ⟨rfl, rfl⟩ | ⟨rfl, rfl⟩
      · exact ⟨by simp [mem2], _, true, rfl, rfl, fun h => by simp at h⟩
      · exact ⟨by simp [mem2], _, true, rfl, rfl, fun h => by simp at h⟩
theorem sa_b22 (c : Code) (hc : Try.f22.body = some c) : blks c = [(0, .loop (bodyOf Try.f22.body 0)), (1, blkAt ((Try.f22.body).getD .skip) 1)] := by
  rw [show c = (Try.f22.body).getD .skip by rw [hc]; rfl]
  kernel_rfl
theorem sa_ov22 : ∀ c, Try.f22.body = some c → OvOk Try.prog (ovT 0 sameL saTs (saGo smF)) c := fun c hc => ovT_ok rfl (saGo_ok sa13) fun x hx h => by
  rw [sa_b22 c hc] at hx
  simp only [List.mem_cons, List.not_mem_nil, or_false] at hx
  rcases hx with rfl | rfl <;> first | rfl | (cases h; done)
theorem sam13_ok : MRowOk Try.prog 22 (samRow smF) :=
  samRow_ok (.inr trivial) (small_ok mix fair NPC_ok okH0 (f := 22) ⟨Try.func22, of_decide_eq_true (by kernel_rfl)⟩ (fun c _ => OvOk_none c) sa_nil13 rfl rfl rfl rfl rfl rfl)
    fun h => sa_small ⟨Try.func22, of_decide_eq_true (by kernel_rfl)⟩ sa_ov22 sa_law13 h
end
end Go.Proofs.Ytcmknfnnapnecaa.PV
