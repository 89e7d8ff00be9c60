/-
  hazard.Order: its contract.
-/
import Derived.Test.YtihmjmaabednjaaOa
set_option linter.unusedVariables false
set_option linter.unusedSimpArgs false
set_option maxRecDepth 100000
namespace Go.Proofs.Ytihmjmaabednjaa.PV
noncomputable section
open Go Go.Ev
/-- The last one ahead that writes what is read. -/
def orV (L : Nat → Int) (e : In6) : Int :=
  let v := bif iNe (rA e) 0 then iMax (-1) (L (rA e).toNat) else -1
  bif iNe (rB e) 0 then iMax v (L (rB e).toNat) else v
/-- The row of registers, ahead of each. -/
def orLs (E : Nat → In6) (L : Nat → Int) : Nat → Nat → Int
  | 0 => L
  | j + 1 => bif iNe (wR (E j)) 0 then setN (orLs E L j) (wR (E j)).toNat (j : Nat) else orLs E L j
def orOs (E : Nat → In6) (L O : Nat → Int) : Nat → Nat → Int
  | 0 => O
  | j + 1 => addO j (orOs E L O j) (orV (orLs E L j) (E j))
theorem addO_at (k : Nat) (O : Nat → Int) (v : Int) : addO k O v k = v := by unfold addO; simp
theorem addO_lt (O : Nat → Int) (v : Int) {k j : Nat} (h : j < k) : addO k O v j = O j := by unfold addO; simp [h]
theorem orOs_at (E : Nat → In6) (L O : Nat → Int) : ∀ (n j : Nat), j < n → orOs E L O n j = orV (orLs E L j) (E j)
  | n + 1, j, h => by
    unfold orOs
    by_cases e : j = n
    · subst e; exact addO_at _ _ _
    · rw [addO_lt _ _ (by omega)]; exact orOs_at E L O n j (by omega)
theorem reg_in {b : Bool} {r : Int} (h : insn_field0 b r 32 = true) : 0 ≤ r ∧ r < 32 := by
  unfold insn_field0 at h
  cases h0 : iEq r 0 with
  | true => have := iEq_true.1 h0; omega
  | false =>
    rw [h0] at h
    cases h1 : iLt 0 r with
    | true =>
      have := iLt_true.1 h1
      cases h2 : iLt r 32 with
      | true => have := iLt_true.1 h2; omega
      | false => rw [h1, h2] at h; cases b <;> cases h
    | false => rw [h1] at h; cases b <;> cases h
theorem is_in (e : In6) (h : insn_Is0 e.op e.rd e.r1 e.r2 e.im e.cs = true) : (0 ≤ e.rd ∧ e.rd < 32) ∧ (0 ≤ e.r1 ∧ e.r1 < 32) ∧ (0 ≤ e.r2 ∧ e.r2 < 32) := by
  unfold insn_Is0 at h
  have h1 : insn_field0 (insn_Of0 e.op) e.rd 32 = true := by
    cases hh : insn_field0 (insn_Of0 e.op) e.rd 32 with
    | true => rfl
    | false => rw [hh] at h; simp at h
  have h2 : insn_field0 (insn_Of2 e.op) e.r1 32 = true := by
    cases hh : insn_field0 (insn_Of2 e.op) e.r1 32 with
    | true => rfl
    | false => rw [hh] at h; simp at h
  have h3 : insn_field0 (insn_Of3 e.op) e.r2 32 = true := by
    cases hh : insn_field0 (insn_Of3 e.op) e.r2 32 with
    | true => rfl
    | false => rw [hh] at h; simp at h
  exact ⟨reg_in h1, reg_in h2, reg_in h3⟩
theorem rw_in (e : In6) : (0 ≤ rA e ∧ rA e < 32) ∧ (0 ≤ rB e ∧ rB e < 32) ∧ (0 ≤ wR e ∧ wR e < 32) := by
  unfold rA rB wR insn_Reads0 insn_Reads1 insn_Writes0
  cases h : insn_Is0 e.op e.rd e.r1 e.r2 e.im e.cs with
  | true =>
    obtain ⟨a, b, c⟩ := is_in e h
    exact ⟨b, c, a⟩
  | false => exact ⟨⟨Int.le_refl 0, (show (0 : Int) < 32 by decide)⟩, ⟨Int.le_refl 0, (show (0 : Int) < 32 by decide)⟩, ⟨Int.le_refl 0, (show (0 : Int) < 32 by decide)⟩⟩
/-- One round, its conditions met. -/
theorem or_round (n n' : Nat) (E : Nat → In6) (L O : Nat → Int) (j : Nat) (hj : j < n) (hn : n < 1000000) : orR n n' (fun i => E i) (orLs E L j) (j : Nat) j (orOs E L O j) (E j) =
    some (true, .tup (.it .i64 0 :: orS n n' E (orLs E L (j + 1)) ((j + 1 : Nat) : Int) (j + 1) (orOs E L O (j + 1)))) := by
  obtain ⟨ha, hb, hw⟩ := rw_in (E j)
  have key : ∀ v, orW n n' E (orLs E L j) (j : Nat) j (orOs E L O j) (wR (E j)) v = some (true, .tup (.it .i64 0 :: orS n n' E (orLs E L (j + 1)) ((j + 1 : Nat) : Int) (j + 1) (addO j (orOs E L O j) v))) := fun v => by
    unfold orW
    rw [show Nat.ble (j + 1) 4294967296 = true from Nat.ble_eq_true_of_le (by omega), iAdd_one j (by omega), iIn_true.2 hw]
    rw [show orLs E L (j + 1) = (bif iNe (wR (E j)) 0 then setN (orLs E L j) (wR (E j)).toNat (j : Nat) else orLs E L j) from rfl]
    cases iNe (wR (E j)) 0 <;> rfl
  unfold orR orB
  rw [iLt_true.2 (show (j : Int) < (n : Int) by omega), iIn_true.2 (show 0 ≤ (j : Int) ∧ (j : Int) < (n : Int) by omega), iIn_true.2 ha, iIn_true.2 hb]
  rw [show orOs E L O (j + 1) = addO j (orOs E L O j) (orV (orLs E L j) (E j)) from rfl]
  unfold orV
  cases h1 : iNe (rA (E j)) 0 <;> cases h2 : iNe (rB (E j)) 0 <;> simp only [cond_true, cond_false, key, h1, h2] <;> rfl
def orTs : List Tm := [.fx .ref, .fx .ref, .fx (.int .i64), .fx (.int .i64), .fx .ref, .ar inSh, .fx orSh, .ar (.int .i64)]
structure OrW where
  l : Nat → (Nat → In6) → (Nat → Int) → Nat → Int
  o : Nat → (Nat → In6) → (Nat → Int) → (Nat → Int) → Nat → Int
def orE (W : OrW) (g : Nat → AV) : List AV := orS (lenSl (g 1)) (lenA (g 5)) (deI (g 5)) (W.l (lenSl (g 1)) (deI (g 5)) (numA (g 6))) (lenSl (g 1) : Nat) (lenSl (g 1)) (W.o (lenSl (g 1)) (deI (g 5)) (numA (g 6)) (numA (g 7)))
def orGo (W : OrW) : (Nat → AV) → Kc → Option Out := goJ (fun g => isPtr 1 orSh (g 0) && (isSl 0 false (g 1) && (isSl 3 true (g 4) && (Nat.beq (lenSl (g 4)) 0 && Nat.beq (lenA (g 7)) 0))))
  (fun g => iEq (g 2).num (lenSl (g 1)) && (iEq (g 3).num 0 && iLt (lenSl (g 1)) 1000000)) .normal (fun g => orL.F (orE W g)) (fun g => orL.M (orE W g))
def orw : OrW := ⟨fun n E L => orLs E L n, fun n E L O => orOs E L O n⟩
theorem orGo_ok : GoesT Try.prog 2 (.loop (bodyAt Try.f19.body 2)) orL orTs (orGo orw) := goT_ok fun g h1 h2 => by
  simp only [Bool.and_eq_true, Nat.beq_eq] at h1 h2
  obtain ⟨c0, c1, c2, c3, c4⟩ := h1
  obtain ⟨d1, d2, d3⟩ := h2
  have hN := iLt_true.1 d3
  refine ⟨noGdL (L := orL) rfl, fun fr m hm hb => ?_⟩
  have hst : norms (tmS g orTs 0) 0 g = orS (lenSl (g 1)) (lenA (g 5)) (deI (g 5)) (numA (g 6)) 0 0 (numA (g 7)) := by
    have : norms (tmS g orTs 0) 0 g = [g 0, g 1, .it .i64 (g 2).num, .it .i64 (g 3).num, g 4, inA (lenA (g 5)) (deI (g 5)), lsA (numA (g 6)), ouA (lenA (g 7)) (numA (g 7))] := rfl
    rw [this, iEq_true.1 d1, iEq_true.1 d2, isPtr_ok c0, c4]
    unfold orS
    rw [← isSl_ok c1]
    have e4 := isSl_ok c2
    rw [c3] at e4
    rw [e4]
  rw [hst] at hb
  refine loopJ_block (F := fun j => orL.F (orS (lenSl (g 1)) (lenA (g 5)) (deI (g 5)) (orLs (deI (g 5)) (numA (g 6)) j) (j : Nat) j (orOs (deI (g 5)) (numA (g 6)) (numA (g 7)) j))) (M := fun j => orL.M (orS (lenSl (g 1)) (lenA (g 5)) (deI (g 5)) (orLs (deI (g 5)) (numA (g 6)) j) (j : Nat) j (orOs (deI (g 5)) (numA (g 6)) (numA (g 7)) j))) (n := lenSl (g 1)) (c := 4)
    (fun j hj => ?_) ?_ (by decide) hm hb (e := .exit 2) rfl
  · have hE := orA (lenSl (g 1)) (lenA (g 5)) (deI (g 5)) (orLs (deI (g 5)) (numA (g 6)) j) (j : Nat) j (orOs (deI (g 5)) (numA (g 6)) (numA (g 7)) j)
    rw [Nat.add_zero, Int.toNat_natCast] at hE
    have hE := hE.trans (or_round (lenSl (g 1)) (lenA (g 5)) (deI (g 5)) (numA (g 6)) (numA (g 7)) j hj (by omega))
    exact turnK_ok mix fair T13_ok HSound_none (OvOk_none _) (L := orL) rfl (grabJ_part 0 (Part.refl _)) (noGdL (L := orL) rfl) hE rfl rfl
  · have hE := orX (lenSl (g 1)) (lenA (g 5)) (deI (g 5)) (orLs (deI (g 5)) (numA (g 6)) (lenSl (g 1))) (lenSl (g 1) : Nat) (lenSl (g 1)) (orOs (deI (g 5)) (numA (g 6)) (numA (g 7)) (lenSl (g 1)))
    rw [iLt_false.2 (Int.le_refl _), cond_false] at hE
    exact turnK_ok mix fair T13_ok HSound_none (ovNot_ok _) (L := orL) rfl (grabJ_part 4 (Part.refl _)) (noGdL (L := orL) rfl) hE rfl rfl
theorem or_blk : ∀ c, Try.f19.body = some c → ∀ x ∈ blks c, x.1 = 2 → x.2 = .loop (bodyAt Try.f19.body 2) := fun c hc x hx h => by
  have e : blks c = [(0, .loop (bodyAt Try.f19.body 0)), (1, blkAt ((Try.f19.body).getD .skip) 1), (2, .loop (bodyAt Try.f19.body 2)), (3, blkAt ((Try.f19.body).getD .skip) 3), (4, .loop (bodyAt Try.f19.body 4)), (5, blkAt ((Try.f19.body).getD .skip) 5)] := by
    rw [show c = (Try.f19.body).getD .skip by rw [hc]; rfl]
    kernel_rfl
  rw [e] at hx
  simp only [List.mem_cons, List.not_mem_nil, or_false] at hx
  rcases hx with rfl | rfl | rfl | rfl | rfl | rfl <;> first | rfl | (cases h; done)
theorem or_ov : ∀ c, Try.f19.body = some c → OvOk Try.prog (ovT 2 orL orTs (orGo orw)) c := fun c hc => ovT_ok rfl orGo_ok (or_blk c hc)
def iniL : Nat → Nat → Int
  | 0 => fun _ => 0
  | k + 1 => setN (iniL k) k (-1)
theorem iniL_at : ∀ k r, r < k → iniL k r = -1
  | k + 1, r, h => by
    unfold iniL
    by_cases e : r = k
    · subst e; exact setN_at _ _ _
    · rw [setN_ne _ _ e]; exact iniL_at k r (by omega)
def inM (n : Nat) (E : Nat → In6) : Mem := Mem.empty.add (.cells (inA n E) false)
def L1s : Lq := { n := 1, n0 := 1, ts := [], mv := [0], ids := [(0, false)] }
theorem or_fn (W : OrW) (n n' : Nat) (E : Nat → In6) : evFn Try.prog okT PC NOH RO (ovT 2 orL orTs (orGo W)) 100 false Try.f19 [.sl 0 [] 0 n false] (inM n' E) (finQ L1s) =
    some (iLe 0 0 && (iLe 0 n && iLe n 4294967296) && (iEq n n && (iEq 0 0 && iLt n 1000000) && true), .tup [.it .i64 0, .sl 1 [] 0 n true, inA n' E, ouA n (W.o n E (iniL 32) fun _ => 0)]) := by kernel_rfl
end
end Go.Proofs.Ytihmjmaabednjaa.PV
