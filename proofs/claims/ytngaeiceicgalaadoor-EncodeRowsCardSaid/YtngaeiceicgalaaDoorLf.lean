/-
  EncodeRows: the plain law.
-/
import Derived.Test.YtngaeiceicgalaaDoorLb
import Derived.Test.YtngaeiceicgalaaDoorEwF
set_option linter.unusedVariables false
set_option linter.unusedSimpArgs false
set_option maxRecDepth 100000
namespace Go.Proofs.YtngaeiceicgalaaDoor.PV
noncomputable section
open Go Go.Ev
theorem rb4E (v : Int) : pcOf Tryd.prog okT (lookR T0) NOH RO NOV 100 false Tryd.f15 [.it .u64 v, .it .i64 4] = some (true, .st (by4 v)) := by kernel_rfl
theorem bytes_row : RowOk Tryd.prog 15 (rowF [.int .u64, .int .i64] (some fun g => iEq (g 1).num 4) fun g => .st (by4 (g 0).num)) := rowF_ok fun g hg => by
  have h : (g 1).num = 4 := iEq_true.1 hg
  show Gives Tryd.prog 15 [.it .u64 (g 0).num, .it .i64 (g 1).num] _
  rw [h]
  exact pcOf_ok mix fair T0_ok HSound_none ⟨Tryd.func15, of_decide_eq_true (by kernel_rfl)⟩ (fun c _ => OvOk_none c) (rb4E (g 0).num) rfl
def TF : List Row := (15, rowF [.int .u64, .int .i64] (some fun g => iEq (g 1).num 4) fun g => .st (by4 (g 0).num)) :: TE
theorem TF_ok : PSound Tryd.prog (lookR TF) := lookR_cons bytes_row TE_ok
def roL : Lq := { n := 54, n0 := 1, ts := [0, 2, 3, 4, 5, 6], mv := [], ids := [(0, false)] }
def roS (n n' : Nat) (E : Nat → In6) (r : Bool) (p : List UInt8) (e : Int) (s : List UInt8) (i : Int) : List AV := [.sl 0 [] 0 n false, .bl r, .st p, .it .i64 e, .st s, .it .i64 i, inA n' E]
def wB (x : In6) : List UInt8 := by4 (iConv .u64 (enW x))
def roR (n n' : Nat) (E : Nat → In6) (r : Bool) (p : List UInt8) (e : Int) (s : List UInt8) (i : Int) (x : In6) : Option Out :=
  bif iLt i n then bindC (some (iIn i n)) (bif iNe (enE x) 0 then none else bindC (some (iEq 4 4)) (bindC (some (ccG s (wB x))) (some (true, .tup (.it .i64 0 :: roS n n' E r p e (sCat s (wB x)) (iAdd .i64 i 1)))))) else none
def roT (n n' : Nat) (E : Nat → In6) (r : Bool) (p : List UInt8) (e : Int) (s : List UInt8) (i : Int) (x : In6) : Option Out :=
  bif iLt i n then bindC (some (iIn i n)) (bif iNe (enE x) 0 then some (true, .tup (.it .i64 1 :: roS n n' E (anB (iEq e (enE x)) (sEq p [])) p e s i)) else none) else none
theorem roA (n n' : Nat) (E : Nat → In6) (r : Bool) (p : List UInt8) (e : Int) (s : List UInt8) (i : Int) : evC Tryd.prog okT (lookR TF) NOH RO NOV 100 true (bodyAt Tryd.f4.body 0) (roL.F (roS n n' E r p e s i)) (roL.M (roS n n' E r p e s i)) (grabJ 0 (grabQ roL)) =
    roR n n' E r p e s i (E (i.toNat + 0)) := by kernel_rfl
theorem roB (n n' : Nat) (E : Nat → In6) (r : Bool) (p : List UInt8) (e : Int) (s : List UInt8) (i : Int) : evC Tryd.prog okT (lookR TF) NOH RO NOV 100 true (bodyAt Tryd.f4.body 0) (roL.F (roS n n' E r p e s i)) (roL.M (roS n n' E r p e s i)) (grabJ 1 (grabQ roL)) =
    roT n n' E r p e s i (E (i.toNat + 0)) := by kernel_rfl
theorem roX (n n' : Nat) (E : Nat → In6) (r : Bool) (p : List UInt8) (e : Int) (s : List UInt8) (i : Int) : evC Tryd.prog okT (lookR TF) NOH RO (ovNot 1) 100 true (bodyAt Tryd.f4.body 0) (roL.F (roS n n' E r p e s i)) (roL.M (roS n n' E r p e s i)) (grabJ 2 (grabQ roL)) =
    bif iLt i n then none else some (true, .tup (.it .i64 2 :: roS n n' E r p e s i)) := by kernel_rfl
structure RoW where
  all : Nat → (Nat → In6) → Bool
  ok : Nat → Bool
  first : Nat → (Nat → In6) → Nat
  s : Nat → (Nat → In6) → List UInt8
def arI (a : AV) : Nat → In6 := fun j => de6 (a.ix j)
def roTs : List Tm := [.fx .ref, .fx .bool, .fx .str, .fx (.int .i64), .fx .str, .fx (.int .i64), .ar inSh]
def roE1 (W : RoW) (g : Nat → AV) : List AV := roS (lenSl (g 0)) (lenA (g 6)) (arI (g 6)) (g 1).bool (g 2).str (g 3).num (W.s (lenSl (g 0)) (arI (g 6))) (lenSl (g 0) : Nat)
def roE2 (W : RoW) (g : Nat → AV) : List AV := roS (lenSl (g 0)) (lenA (g 6)) (arI (g 6)) (anB (iEq (g 3).num 40) (sEq (g 2).str [])) (g 2).str (g 3).num (W.s (W.first (lenSl (g 0)) (arI (g 6))) (arI (g 6))) (W.first (lenSl (g 0)) (arI (g 6)) : Nat)
def roG1 (W : RoW) : (Nat → AV) → Kc → Option Out := goJ (fun g => isSl 0 false (g 0)) (fun g => W.all (lenSl (g 0)) (arI (g 6)) && (sEq (g 4).str [] && (iEq (g 5).num 0 && W.ok (lenSl (g 0))))) .normal (fun g => roL.F (roE1 W g)) (fun g => roL.M (roE1 W g))
def roG2 (W : RoW) : (Nat → AV) → Kc → Option Out := goJ (fun g => isSl 0 false (g 0)) (fun g => !W.all (lenSl (g 0)) (arI (g 6)) && (sEq (g 4).str [] && (iEq (g 5).num 0 && W.ok (lenSl (g 0))))) .ret (fun g => roL.F (roE2 W g)) (fun g => roL.M (roE2 W g))
def roGo (W : RoW) : (Nat → AV) → Kc → Option Out := fun g k => bif W.all (lenSl (g 0)) (arI (g 6)) then roG1 W g k else roG2 W g k
def L1o : Lq := { n := 1, n0 := 1, ts := [0], mv := [], ids := [] }
def L0o : Lq := { n := 1, n0 := 0, ts := [0], mv := [], ids := [] }
def inM (n : Nat) (E : Nat → In6) : Mem := Mem.empty.add (.cells (inA n E) false)
def roP (W : RoW) (n : Nat) (E : Nat → In6) : RRow := fun args m => match args with
  | [.sl id path lo len _] => (match slArr m id path with
    | some (_, s, f) => bif s.beq inSh then some (some (iLe len 1000000), .tup [.st (bif W.all len (fun j => de6 (f (lo + j))) then W.s len (fun j => de6 (f (lo + j))) else []), .it .i64 (bif W.all len (fun j => de6 (f (lo + j))) then 0 else 40)]) else none
    | none => none)
  | _ => none
theorem roLaw (W : RoW) (n : Nat) (E : Nat → In6) : evFn Tryd.prog okT (lookR TF) (hRead [(14, roP W n E)] NOH) RO (ovT 0 roL roTs (roGo W)) 100 false Tryd.f4 [.sl 0 [] 0 n false] (inM n E) (finQ L1o) =
    brC (!true) (some (true, .tup [.it .i64 0, .bl false])) (brC (iLt 40 n) (some (true, .tup [.it .i64 0, .bl true])) (bindC (some (iLe n 1000000))
      (bif W.all n E then bindC (some (W.all n E && (sEq [] [] && (iEq 0 0 && W.ok n)))) (some (true, .tup [.it .i64 0, .bl (anB (iEq (bif W.all n (fun j => E (0 + j)) then 0 else 40) 0) (sEq (bif W.all n (fun j => E (0 + j)) then W.s n (fun j => E (0 + j)) else []) (W.s n E)))]))
        else bindC (some (!W.all n E && (sEq [] [] && (iEq 0 0 && W.ok n)))) (some (true, .tup [.it .i64 0, .bl (anB (iEq (bif W.all n (fun j => E (0 + j)) then 0 else 40) 40) (sEq (bif W.all n (fun j => E (0 + j)) then W.s n (fun j => E (0 + j)) else []) []))]))))) := by kernel_rfl
theorem roLaw0 : evFn Tryd.prog okT (lookR TF) HR RO NOV 100 true Tryd.f4 [.nsl] Mem.empty (finQ L0o) = some (true, .tup [.it .i64 0, .bl true]) := by kernel_rfl
/-- The first that is none. -/
def frF (E : Nat → In6) : Nat → Nat → Nat
  | j, 0 => j
  | j, k + 1 => bif isI (E j) then frF E (j + 1) k else j
theorem frF_ok (E : Nat → In6) : ∀ (k j : Nat), (∀ i, i < j → isI (E i) = true) → (∃ i, j ≤ i ∧ i < j + k ∧ isI (E i) = false) → frF E j k < j + k ∧ isI (E (frF E j k)) = false ∧ ∀ i, i < frF E j k → isI (E i) = true
  | 0, j, _, ⟨i, h1, h2, _⟩ => by omega
  | k + 1, j, h, ⟨i, h1, h2, h3⟩ => by
    unfold frF
    cases hj : isI (E j) with
    | false => exact ⟨by show j < _; omega, hj, h⟩
    | true =>
      have hne : i ≠ j := fun e => by subst e; rw [hj] at h3; cases h3
      obtain ⟨q1, q2, q3⟩ := frF_ok E k (j + 1) (fun i hi => by
        rcases Nat.lt_or_ge i j with hh | hh
        · exact h i hh
        · rwa [(by omega : i = j)]) ⟨i, by omega, by omega, h3⟩
      exact ⟨by show frF E (j + 1) k < _; omega, q2, q3⟩
def rww : RoW := ⟨fun n E => allTo (fun j => isI (E j)) n, fun n => Nat.ble n 40, fun n E => frF E 0 n, fun n E => prB E n⟩
theorem not_all {E : Nat → In6} {n : Nat} (h : allTo (fun j => isI (E j)) n = false) : frF E 0 n < n ∧ isI (E (frF E 0 n)) = false ∧ ∀ i, i < frF E 0 n → isI (E i) = true := by
  have : ∃ i, 0 ≤ i ∧ i < 0 + n ∧ isI (E i) = false := Classical.byContradiction fun hc => by
    have : allTo (fun j => isI (E j)) n = true := allTo_all fun j hj => by
      cases hi : isI (E j) with
      | true => rfl
      | false => exact absurd ⟨j, Nat.zero_le _, by omega, hi⟩ hc
    rw [this] at h; cases h
  have := frF_ok E n 0 (fun i hi => by omega) this
  rwa [Nat.zero_add] at this
theorem ro_round {n n' : Nat} {E : Nat → In6} {r : Bool} {p : List UInt8} {e : Int} {j : Nat} (hj : j < n) (hn : n ≤ 40) (hi : isI (E j) = true) : roR n n' E r p e (prB E j) (j : Nat) (E j) = some (true, .tup (.it .i64 0 :: roS n n' E r p e (prB E (j + 1)) ((j + 1 : Nat) : Int))) := by
  unfold roR
  rw [iLt_true.2 (show ((j : Nat) : Int) < (n : Int) by omega), iIn_true.2 (show 0 ≤ ((j : Nat) : Int) ∧ ((j : Nat) : Int) < (n : Int) by omega), enE_is, hi, iAdd_one j (by omega),
    cc_ok (by rw [prB_len]; show 4 * j + 4 < _; omega)]
  rfl
theorem ro_ret {n n' : Nat} {E : Nat → In6} {r : Bool} {p : List UInt8} {e : Int} {s : List UInt8} {j : Nat} (hj : j < n) (hi : isI (E j) = false) : roT n n' E r p e s (j : Nat) (E j) = some (true, .tup (.it .i64 1 :: roS n n' E (anB (iEq e 40) (sEq p [])) p e s (j : Nat))) := by
  unfold roT
  rw [iLt_true.2 (show ((j : Nat) : Int) < (n : Int) by omega), iIn_true.2 (show 0 ≤ ((j : Nat) : Int) ∧ ((j : Nat) : Int) < (n : Int) by omega), enE_is, hi]
  rfl
theorem ro_hst {g : Nat → AV} (c0 : isSl 0 false (g 0) = true) (d2 : sEq (g 4).str [] = true) (d3 : iEq (g 5).num 0 = true) : norms (tmS g roTs 0) 0 g = roS (lenSl (g 0)) (lenA (g 6)) (arI (g 6)) (g 1).bool (g 2).str (g 3).num [] 0 := by
  have : norms (tmS g roTs 0) 0 g = [g 0, .bl (g 1).bool, .st (g 2).str, .it .i64 (g 3).num, .st (g 4).str, .it .i64 (g 5).num, inA (lenA (g 6)) (arI (g 6))] := rfl
  have h4 : (g 4).str = [] := by unfold sEq at d2; simpa using d2
  rw [this, h4, iEq_true.1 d3]
  unfold roS
  rw [← isSl_ok c0]
theorem roG1_ok : GoesT Tryd.prog 0 (.loop (bodyAt Tryd.f4.body 0)) roL roTs (roG1 rww) := goT_ok fun g h1 h2 => by
  simp only [Bool.and_eq_true] at h2
  obtain ⟨d1, d2, d3, d4⟩ := h2
  have hN : lenSl (g 0) ≤ 40 := Nat.le_of_ble_eq_true d4
  refine ⟨noGdL (L := roL) rfl, fun fr m hmn hb => ?_⟩
  rw [ro_hst h1 d2 d3] at hb
  refine loopJ_block (F := fun j => roL.F (roS (lenSl (g 0)) (lenA (g 6)) (arI (g 6)) (g 1).bool (g 2).str (g 3).num (prB (arI (g 6)) j) (j : Nat))) (M := fun j => roL.M (roS (lenSl (g 0)) (lenA (g 6)) (arI (g 6)) (g 1).bool (g 2).str (g 3).num (prB (arI (g 6)) j) (j : Nat))) (n := lenSl (g 0)) (c := 2)
    (fun j hj => ?_) ?_ (by decide) hmn hb (e := .exit 0) rfl
  · have hE := roA (lenSl (g 0)) (lenA (g 6)) (arI (g 6)) (g 1).bool (g 2).str (g 3).num (prB (arI (g 6)) j) (j : Nat)
    rw [Nat.add_zero, Int.toNat_natCast] at hE
    have hE := hE.trans (ro_round hj hN (allTo_at d1 j hj))
    exact turnK_ok mix fair TF_ok HSound_none (OvOk_none _) (L := roL) rfl (grabJ_part 0 (Part.refl _)) (noGdL (L := roL) rfl) hE rfl rfl
  · have hE := roX (lenSl (g 0)) (lenA (g 6)) (arI (g 6)) (g 1).bool (g 2).str (g 3).num (prB (arI (g 6)) (lenSl (g 0))) (lenSl (g 0) : Nat)
    rw [iLt_false.2 (Int.le_refl _), cond_false] at hE
    exact turnK_ok mix fair TF_ok HSound_none (ovNot_ok _) (L := roL) rfl (grabJ_part 2 (Part.refl _)) (noGdL (L := roL) rfl) hE rfl rfl
theorem roG2_ok : GoesT Tryd.prog 0 (.loop (bodyAt Tryd.f4.body 0)) roL roTs (roG2 rww) := goT_ok fun g h1 h2 => by
  simp only [Bool.and_eq_true, Bool.not_eq_true'] at h2
  obtain ⟨d1, d2, d3, d4⟩ := h2
  have hN : lenSl (g 0) ≤ 40 := Nat.le_of_ble_eq_true d4
  obtain ⟨q1, q2, q3⟩ := not_all d1
  refine ⟨noGdL (L := roL) rfl, fun fr m hmn hb => ?_⟩
  rw [ro_hst h1 d2 d3] at hb
  refine loopJ_block (F := fun j => roL.F (roS (lenSl (g 0)) (lenA (g 6)) (arI (g 6)) (g 1).bool (g 2).str (g 3).num (prB (arI (g 6)) j) (j : Nat))) (M := fun j => roL.M (roS (lenSl (g 0)) (lenA (g 6)) (arI (g 6)) (g 1).bool (g 2).str (g 3).num (prB (arI (g 6)) j) (j : Nat))) (n := frF (arI (g 6)) 0 (lenSl (g 0))) (c := 1)
    (fun j hj => ?_) ?_ (by decide) hmn hb (e := .ret) rfl
  · have hE := roA (lenSl (g 0)) (lenA (g 6)) (arI (g 6)) (g 1).bool (g 2).str (g 3).num (prB (arI (g 6)) j) (j : Nat)
    rw [Nat.add_zero, Int.toNat_natCast] at hE
    have hE := hE.trans (ro_round (by omega) hN (q3 j hj))
    exact turnK_ok mix fair TF_ok HSound_none (OvOk_none _) (L := roL) rfl (grabJ_part 0 (Part.refl _)) (noGdL (L := roL) rfl) hE rfl rfl
  · have hE := roB (lenSl (g 0)) (lenA (g 6)) (arI (g 6)) (g 1).bool (g 2).str (g 3).num (prB (arI (g 6)) (frF (arI (g 6)) 0 (lenSl (g 0)))) (frF (arI (g 6)) 0 (lenSl (g 0)) : Nat)
    rw [Nat.add_zero, Int.toNat_natCast] at hE
    have hE := hE.trans (ro_ret q1 q2)
    exact turnK_ok mix fair TF_ok HSound_none (OvOk_none _) (L := roL) rfl (grabJ_part 1 (Part.refl _)) (noGdL (L := roL) rfl) hE rfl rfl
theorem roGo_ok : GoesT Tryd.prog 0 (.loop (bodyAt Tryd.f4.body 0)) roL roTs (roGo rww) := fun g k r he hr => by
  unfold roGo at he
  cases h : rww.all (lenSl (g 0)) (arI (g 6)) with
  | true => rw [h, cond_true] at he; exact roG1_ok g k r he hr
  | false => rw [h, cond_false] at he; exact roG2_ok g k r he hr
theorem ro_blk : ∀ c, Tryd.f4.body = some c → ∀ x ∈ blks c, x.1 = 0 → x.2 = .loop (bodyAt Tryd.f4.body 0) := fun c hc x hx h => by
  have e : blks c = [(0, .loop (bodyAt Tryd.f4.body 0)), (1, blkAt ((Tryd.f4.body).getD .skip) 1)] := by
    rw [show c = (Tryd.f4.body).getD .skip by rw [hc]; rfl]
    kernel_rfl
  rw [e] at hx
  simp only [List.mem_cons, List.not_mem_nil, _root_.or_false] at hx
  rcases hx with rfl | rfl <;> first | rfl | (cases h; done)
theorem ro_ov : ∀ c, Tryd.f4.body = some c → OvOk Tryd.prog (ovT 0 roL roTs (roGo rww)) c := fun c hc => ovT_ok rfl roGo_ok (ro_blk c hc)
theorem roP_ok (n : Nat) (E : Nat → In6) : RRowOk Tryd.prog 14 (roP rww n E) := fun args m c v hF => prog_row args m c v (by
  unfold roP at hF
  split at hF <;> try (cases hF; done)
  exact hF)
theorem rows_P : Plain Tryd.prog 4 Tryd.f4 := ⟨Tryd.func4, of_decide_eq_true (by kernel_rfl)⟩
theorem ro_small (n : Nat) (E : Nat → In6) : ∃ m', Small Tryd.prog 4 [.sl 0 [] 0 n false] (inM n E) (.bl true) m' := by
  have hE := roLaw rww n E
  have e0 : (fun j => E (0 + j)) = E := by funext j; rw [Nat.zero_add]
  rw [e0] at hE
  have hH : HSound Tryd.prog (hRead [(14, roP rww n E)] NOH) := hRead_ok HSound_none ⟨roP_ok n E, trivial⟩
  have hv : evFn Tryd.prog okT (lookR TF) (hRead [(14, roP rww n E)] NOH) RO (ovT 0 roL roTs (roGo rww)) 100 false Tryd.f4 [.sl 0 [] 0 n false] (inM n E) (finQ L1o) = some (true, .tup [.it .i64 0, .bl true]) := by
    rw [hE]
    cases h40 : iLt 40 (n : Int) with
    | true =>
      cases hall : rww.all n E <;> exact (congrArg _ brC_t).trans brC_f
    | false =>
      have h40' := iLt_false.1 h40
      have hok : rww.ok n = true := Nat.ble_eq_true_of_le (by omega)
      rw [hok, iLe_true.2 (show ((n : Nat) : Int) ≤ 1000000 by omega)]
      cases hall : rww.all n E with
      | true =>
        simp only [cond_true]
        have hs : sEq (rww.s n E) (rww.s n E) = true := by unfold sEq; simp
        rw [hs]
        exact (congrArg _ brC_f).trans brC_f
      | false =>
        simp only [cond_false]
        exact (congrArg _ brC_f).trans brC_f
  exact ⟨_, small_ok mix fair TF_ok hH rows_P ro_ov hv rfl rfl rfl rfl rfl rfl⟩
theorem rows_law (es : List Dat) (h : All2 Dat.Is [.sli inSh] es) : ∃ m', Small Tryd.prog 4 (opA es 0) (opM [.sli inSh] es Mem.empty) (.bl true) m' := by
  match es, h with
  | [.no], _ => exact ⟨_, small_ok mix fair TF_ok HR_ok rows_P (fun c _ => OvOk_none c) roLaw0 rfl rfl rfl rfl rfl rfl⟩
  | [.sl n f], ⟨⟨_, hf⟩, _⟩ =>
    have e : f = fun j => in6 (de6 (f j)) := by
      funext j
      rw [← norm6, norm_eq _ _ (hf j).1 (hf j).2.1]
    have := ro_small n (fun j => de6 (f j))
    unfold inM inA at this
    rw [← e] at this
    exact this
end
end Go.Proofs.YtngaeiceicgalaaDoor.PV
