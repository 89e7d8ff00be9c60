/-
  HazardOrder: the law, for all arguments.
-/
import Derived.Test.YtihmjmaabednjaaOc
set_option linter.unusedVariables false
set_option linter.unusedSimpArgs false
set_option maxRecDepth 100000
namespace Go.Proofs.Ytihmjmaabednjaa.PV
noncomputable section
open Go Go.Ev
theorem iMax_max (x y : Int) : iMax x y = max x y := by
  unfold iMax
  cases h : iLt x y with
  | true => have := iLt_true.1 h; rw [cond_true]; omega
  | false => have := iLt_false.1 h; rw [cond_false]; omega
theorem qA_eq (e : In6) : qA e = rA e := reads0_eq _ _ _ _ _ _
theorem qB_eq (e : In6) : qB e = rB e := reads1_eq _ _ _ _ _ _
theorem qW_eq (e : In6) : qW e = wR e := writes_eq _ _ _ _ _ _
theorem pas_eq (a b : In6) : pas a b = bif iNe (wR a) 0 then bif iEq (wR a) (rA b) then true else iEq (wR a) (rB b) else false := rfl
/-- What the row of registers tells. -/
theorem ls_inv (E : Nat → In6) {L : Nat → Int} (h0 : ∀ r, r < 32 → L r = -1) : ∀ j r, r < 32 → -1 ≤ orLs E L j r ∧ orLs E L j r < (j : Nat) ∧ (0 ≤ orLs E L j r → wR (E (orLs E L j r).toNat) = (r : Nat) ∧ r ≠ 0)
  | 0, r, hr => by
    show -1 ≤ L r ∧ L r < _ ∧ (0 ≤ L r → _)
    rw [h0 r hr]
    exact ⟨by omega, by omega, fun h => by omega⟩
  | j + 1, r, hr => by
    obtain ⟨i1, i2, i3⟩ := ls_inv E h0 j r hr
    unfold orLs
    cases hw : iNe (wR (E j)) 0 with
    | false => rw [cond_false]; exact ⟨i1, by omega, i3⟩
    | true =>
      rw [cond_true]
      have hne : wR (E j) ≠ 0 := iNe_true.1 hw
      have hb := (rw_in (E j)).2.2
      by_cases hr2 : r = (wR (E j)).toNat
      · subst hr2
        rw [setN_at, Int.toNat_natCast]
        exact ⟨by omega, by omega, fun _ => ⟨by omega, by omega⟩⟩
      · rw [setN_ne _ _ hr2]
        exact ⟨i1, by omega, i3⟩
/-- .. is the same, whatever stood beyond the registers. -/
theorem ls_same (E : Nat → In6) {L M : Nat → Int} (h : ∀ r, r < 32 → L r = M r) : ∀ j r, r < 32 → orLs E L j r = orLs E M j r
  | 0, r, hr => h r hr
  | j + 1, r, hr => by
    unfold orLs
    have ih := ls_same E h j
    cases iNe (wR (E j)) 0 with
    | false => exact ih r hr
    | true =>
      rw [cond_true, cond_true]
      by_cases hr2 : r = (wR (E j)).toNat
      · subst hr2; rw [setN_at, setN_at]
      · rw [setN_ne _ _ hr2, setN_ne _ _ hr2]; exact ih r hr
theorem orV_same {L M : Nat → Int} (h : ∀ r, r < 32 → L r = M r) (e : In6) : orV L e = orV M e := by
  obtain ⟨ha, hb, _⟩ := rw_in e
  unfold orV
  rw [h (rA e).toNat (by omega), h (rB e).toNat (by omega)]
/-- The law's rounds. -/
theorem ho_round (n n' : Nat) (E : Nat → In6) (m m' : Nat) (O L : Nat → Int) (h0 : ∀ r, r < 32 → L r = -1) (j : Nat) (hj : j < n) (hn : n < 1000000) (hm : m = n) (hO : O j = orV (orLs E L j) (E j)) :
    hoR n n' E m m' O (orLs E L j) (j : Nat) (E j) (O j) = some (true, .tup (.it .i64 0 :: hoS n n' E m m' O (orLs E L (j + 1)) ((j + 1 : Nat) : Int))) := by
  obtain ⟨ha, hb, hw⟩ := rw_in (E j)
  have hlA := ls_inv E h0 j (rA (E j)).toNat (by omega)
  have hlB := ls_inv E h0 j (rB (E j)).toNat (by omega)
  have key : ∀ v, O j = v → -1 ≤ v → v < (j : Nat) → (0 ≤ v → pas (E v.toNat) (E j) = true) → hoC n n' E m m' O (orLs E L j) (j : Nat) (E j) (O j) v = some (true, .tup (.it .i64 0 :: hoS n n' E m m' O (orLs E L (j + 1)) ((j + 1 : Nat) : Int))) := fun v hv h1 h2 h3 => by
    unfold hoC
    rw [show iNe (O j) v = false by rw [hv]; exact iNe_false.2 rfl, iIn_true.2 (show 0 ≤ ((j : Nat) : Int) ∧ ((j : Nat) : Int) < (m : Int) by omega), iIn_true.2 (show 0 ≤ ((j : Nat) : Int) ∧ ((j : Nat) : Int) < (n : Int) by omega), iAdd_one j (by omega), qW_eq, iIn_true.2 hw]
    rw [show orLs E L (j + 1) = (bif iNe (wR (E j)) 0 then setN (orLs E L j) (wR (E j)).toNat (j : Nat) else orLs E L j) from rfl]
    cases hy : iLe 0 v with
    | false => cases iNe (wR (E j)) 0 <;> rfl
    | true =>
      have hy := iLe_true.1 hy
      rw [iIn_true.2 (show 0 ≤ v ∧ v < (n : Int) by omega), Nat.add_zero, h3 hy]
      cases iNe (wR (E j)) 0 <;> rfl
  have pA : iNe (rA (E j)) 0 = true → 0 ≤ orLs E L j (rA (E j)).toNat → pas (E (orLs E L j (rA (E j)).toNat).toNat) (E j) = true := fun h1 h2 => by
    obtain ⟨h3, h4⟩ := hlA.2.2 h2
    rw [pas_eq, h3, iNe_true.2 (show (((rA (E j)).toNat : Nat) : Int) ≠ 0 by omega), iEq_true.2 (show (((rA (E j)).toNat : Nat) : Int) = rA (E j) by omega)]
    rfl
  have pB : iNe (rB (E j)) 0 = true → 0 ≤ orLs E L j (rB (E j)).toNat → pas (E (orLs E L j (rB (E j)).toNat).toNat) (E j) = true := fun h1 h2 => by
    obtain ⟨h3, h4⟩ := hlB.2.2 h2
    rw [pas_eq, h3, iNe_true.2 (show (((rB (E j)).toNat : Nat) : Int) ≠ 0 by omega), iEq_true.2 (show (((rB (E j)).toNat : Nat) : Int) = rB (E j) by omega)]
    cases iEq (((rB (E j)).toNat : Nat) : Int) (rA (E j)) <;> rfl
  unfold orV at hO
  simp only [iMax_max] at hO
  unfold hoR hoB
  rw [iLt_true.2 (show (j : Int) < (n : Int) by omega), iIn_true.2 (show 0 ≤ ((j : Nat) : Int) ∧ ((j : Nat) : Int) < (n : Int) by omega), qA_eq, qB_eq, iIn_true.2 ha, iIn_true.2 hb]
  simp only [iMax_max]
  have bc : ∀ o : Option Out, bindC (some true) o = o := fun o => by cases o <;> rfl
  cases h1 : iNe (rA (E j)) 0 with
  | false =>
    cases h2 : iNe (rB (E j)) 0 with
    | false =>
      rw [h1, h2] at hO
      simp only [cond_true, cond_false, bc]
      exact key (-1) hO (by omega) (by omega) (fun h => by omega)
    | true =>
      rw [h1, h2] at hO
      simp only [cond_true, cond_false, bc]
      refine key _ hO (by omega) (by omega) (fun h => ?_)
      rw [show max (-1) (orLs E L j (rB (E j)).toNat) = orLs E L j (rB (E j)).toNat by omega] at h ⊢
      exact pB h2 h
  | true =>
    cases h2 : iNe (rB (E j)) 0 with
    | false =>
      rw [h1, h2] at hO
      simp only [cond_true, cond_false, bc] at hO ⊢
      refine key _ (by omega) (by omega) (by omega) (fun h => pA h1 h)
    | true =>
      rw [h1, h2] at hO
      simp only [cond_true, cond_false, bc] at hO ⊢
      refine key _ (by omega) (by omega) (by omega) (fun h => ?_)
      by_cases hc : orLs E L j (rB (E j)).toNat ≤ orLs E L j (rA (E j)).toNat
      · rw [show max (orLs E L j (rA (E j)).toNat) (orLs E L j (rB (E j)).toNat) = orLs E L j (rA (E j)).toNat by omega] at h ⊢
        exact pA h1 h
      · rw [show max (orLs E L j (rA (E j)).toNat) (orLs E L j (rB (E j)).toNat) = orLs E L j (rB (E j)).toNat by omega] at h ⊢
        exact pB h2 h
structure HoW where
  ok : Nat → Nat → (Nat → In6) → (Nat → Int) → Bool
  l : Nat → (Nat → In6) → (Nat → Int) → Nat → Int
def hoTs : List Tm := [.fx .ref, .fx .ref, .fx .ref, .fx (.int .i64), .ar inSh, .ar (.int .i64), .fx orSh]
noncomputable def hoE (W : HoW) (g : Nat → AV) : List AV := hoS (lenSl (g 0)) (lenA (g 4)) (deI (g 4)) (lenSl (g 1)) (lenA (g 5)) (numA (g 5)) (W.l (lenSl (g 0)) (deI (g 4)) (numA (g 6))) (lenSl (g 0) : Nat)
noncomputable def hoGo (W : HoW) : (Nat → AV) → Kc → Option Out := goJ (fun g => isSl 0 false (g 0) && (isSl 1 true (g 1) && isPtr 2 orSh (g 2)))
  (fun g => allTo (fun r => iEq (numA (g 6) r) (-1)) 32 && (iEq (g 3).num 0 && W.ok (lenSl (g 0)) (lenSl (g 1)) (deI (g 4)) (numA (g 5)))) .normal (fun g => hoL.F (hoE W g)) (fun g => hoL.M (hoE W g))
noncomputable def hoOk (n m : Nat) (E : Nat → In6) (O : Nat → Int) : Bool := Nat.blt n 1000000 && (Nat.beq m n && allTo (fun j => iEq (O j) (orV (orLs E (fun _ => -1) j) (E j))) n)
noncomputable def how : HoW := ⟨hoOk, fun n E L => orLs E L n⟩
theorem hoGo_ok : GoesT Try.prog 2 (.loop (bodyAt Try.f4.body 2)) hoL hoTs (hoGo how) := goT_ok fun g h1 h2 => by
  simp only [Bool.and_eq_true] at h1 h2
  obtain ⟨c0, c1, c2⟩ := h1
  obtain ⟨d0, d1, d2⟩ := h2
  have d2 : hoOk (lenSl (g 0)) (lenSl (g 1)) (deI (g 4)) (numA (g 5)) = true := d2
  unfold hoOk at d2
  simp only [Bool.and_eq_true, Nat.blt_eq, Nat.beq_eq] at d2
  obtain ⟨hN, hm, hall⟩ := d2
  have h0 : ∀ r, r < 32 → numA (g 6) r = -1 := fun r hr => iEq_true.1 (allTo_at d0 r hr)
  refine ⟨noGdL (L := hoL) rfl, fun fr m hmn hb => ?_⟩
  have hst : norms (tmS g hoTs 0) 0 g = hoS (lenSl (g 0)) (lenA (g 4)) (deI (g 4)) (lenSl (g 1)) (lenA (g 5)) (numA (g 5)) (numA (g 6)) 0 := by
    have : norms (tmS g hoTs 0) 0 g = [g 0, g 1, g 2, .it .i64 (g 3).num, inA (lenA (g 4)) (deI (g 4)), ouA (lenA (g 5)) (numA (g 5)), lsA (numA (g 6))] := rfl
    rw [this, iEq_true.1 d1, isPtr_ok c2]
    unfold hoS
    rw [← isSl_ok c0, ← isSl_ok c1]
  rw [hst] at hb
  refine loopJ_block (F := fun j => hoL.F (hoS (lenSl (g 0)) (lenA (g 4)) (deI (g 4)) (lenSl (g 1)) (lenA (g 5)) (numA (g 5)) (orLs (deI (g 4)) (numA (g 6)) j) (j : Nat))) (M := fun j => hoL.M (hoS (lenSl (g 0)) (lenA (g 4)) (deI (g 4)) (lenSl (g 1)) (lenA (g 5)) (numA (g 5)) (orLs (deI (g 4)) (numA (g 6)) j) (j : Nat))) (n := lenSl (g 0)) (c := 4)
    (fun j hj => ?_) ?_ (by decide) hmn hb (e := .exit 2) rfl
  · have hE := hoA (lenSl (g 0)) (lenA (g 4)) (deI (g 4)) (lenSl (g 1)) (lenA (g 5)) (numA (g 5)) (orLs (deI (g 4)) (numA (g 6)) j) (j : Nat)
    rw [Nat.add_zero, Int.toNat_natCast] at hE
    have hO : numA (g 5) j = orV (orLs (deI (g 4)) (numA (g 6)) j) (deI (g 4) j) := by
      rw [iEq_true.1 (allTo_at hall j hj)]
      exact orV_same (ls_same (deI (g 4)) (fun r hr => (h0 r hr).symm) j) _
    have hE := hE.trans (ho_round (lenSl (g 0)) (lenA (g 4)) (deI (g 4)) (lenSl (g 1)) (lenA (g 5)) (numA (g 5)) (numA (g 6)) h0 j hj (by omega) hm hO)
    exact turnK_ok mix fair T13_ok HSound_none (OvOk_none _) (L := hoL) rfl (grabJ_part 0 (Part.refl _)) (noGdL (L := hoL) rfl) hE rfl rfl
  · have hE := hoX (lenSl (g 0)) (lenA (g 4)) (deI (g 4)) (lenSl (g 1)) (lenA (g 5)) (numA (g 5)) (orLs (deI (g 4)) (numA (g 6)) (lenSl (g 0))) (lenSl (g 0) : Nat)
    rw [iLt_false.2 (Int.le_refl _), cond_false] at hE
    exact turnK_ok mix fair T13_ok HSound_none (ovNot_ok _) (L := hoL) rfl (grabJ_part 4 (Part.refl _)) (noGdL (L := hoL) rfl) hE rfl rfl
theorem ho_blk : ∀ c, Try.f4.body = some c → ∀ x ∈ blks c, x.1 = 2 → x.2 = .loop (bodyAt Try.f4.body 2) := fun c hc x hx h => by
  have e : blks c = [(0, .loop (bodyAt Try.f4.body 0)), (1, blkAt ((Try.f4.body).getD .skip) 1), (2, .loop (bodyAt Try.f4.body 2)), (3, blkAt ((Try.f4.body).getD .skip) 3)] := by
    rw [show c = (Try.f4.body).getD .skip by rw [hc]; rfl]
    kernel_rfl
  rw [e] at hx
  simp only [List.mem_cons, List.not_mem_nil, or_false] at hx
  rcases hx with rfl | rfl | rfl | rfl <;> first | rfl | (cases h; done)
theorem ho_ov : ∀ c, Try.f4.body = some c → OvOk Try.prog (ovT 2 hoL hoTs (hoGo how)) c := fun c hc => ovT_ok rfl hoGo_ok (ho_blk c hc)
def L1o : Lq := { n := 1, n0 := 1, ts := [0], mv := [], ids := [] }
def L0o : Lq := { n := 1, n0 := 0, ts := [0], mv := [], ids := [] }
noncomputable def hoH (W : Nat → (Nat → In6) → Nat → Int) : Hd := hMem [(19, orRow W)] NOH
theorem hoLaw (W : Nat → (Nat → In6) → Nat → Int) (V : HoW) (n : Nat) (E : Nat → In6) : evFn Try.prog okT PC (hoH W) RO (ovT 2 hoL hoTs (hoGo V)) 100 false Try.f4 [.sl 0 [] 0 n false] (inM n E) (finQ L1o) =
    some (Om.pick (!true) (true, .tup [.it .i64 0, .bl false]) (Om.pick (iLt 60 n) (true, .tup [.it .i64 0, .bl true]) (Om.land (iLt n 1000000) (Om.pick (iNe n n) (true, .tup [.it .i64 0, .bl false])
      (Om.land (iEq 0 0 && V.ok n n E (W n E)) (true, .tup [.it .i64 0, .bl true])))))) := by kernel_rfl
noncomputable def hoH0 : Hd := inl Try.prog okT PC RO [19] 100 (fun _ => true) 3
theorem hoLaw0 : evFn Try.prog okT PC hoH0 RO NOV 100 true Try.f4 [.nsl] Mem.empty (finQ L0o) = some (true, .tup [.it .i64 0, .bl true]) := by kernel_rfl
theorem p4 : Plain Try.prog 4 Try.f4 := ⟨Try.func4, of_decide_eq_true (by kernel_rfl)⟩
theorem hoH_ok : HSound Try.prog (hoH orF) := hMem_ok HSound_none ⟨orRow_ok, trivial⟩
theorem ho_small (n : Nat) (E : Nat → In6) : ∃ m', Small Try.prog 4 [.sl 0 [] 0 n false] (inM n E) (.bl true) m' := by
  have hE := hoLaw orF how n E
  rw [show (!true) = false from rfl, Om.pick_f] at hE
  cases h60 : iLt 60 (n : Int) with
  | true =>
    rw [h60, Om.pick_t] at hE
    exact ⟨_, small_ok mix fair T13_ok hoH_ok p4 ho_ov hE rfl rfl rfl rfl rfl rfl⟩
  | false =>
    have h60' := iLt_false.1 h60
    have hok : how.ok n n E (orF n E) = true := by
      show hoOk n n E (orF n E) = true
      unfold hoOk
      simp only [Bool.and_eq_true, Nat.blt_eq, Nat.beq_eq]
      refine ⟨by omega, trivial, allTo_all fun j hj => ?_⟩
      unfold orF
      rw [orOs_at _ _ _ n j hj, iEq_true]
      exact orV_same (ls_same E (fun r hr => iniL_at 32 r hr) j) _
    rw [h60, Om.pick_f, iLt_true.2 (show ((n : Nat) : Int) < 1000000 by omega), iNe_false.2 (show ((n : Nat) : Int) = n from rfl), Om.pick_f, hok] at hE
    exact ⟨_, small_ok mix fair T13_ok hoH_ok p4 ho_ov hE rfl rfl rfl rfl rfl rfl⟩
theorem hoH0_ok : HSound Try.prog hoH0 := inl_ok mix fair T13_ok (names_of (by kernel_rfl)) 3
theorem ho_law (es : List Dat) (h : All2 Dat.Is [.sli inSh] es) : ∃ m', Small Try.prog 4 (opA es 0) (opM [.sli inSh] es Mem.empty) (.bl true) m' := by
  match es, h with
  | [.no], _ => exact ⟨_, small_ok mix fair T13_ok hoH0_ok p4 (fun c _ => OvOk_none c) hoLaw0 rfl rfl rfl rfl rfl rfl⟩
  | [.sl n f], ⟨⟨_, hf⟩, _⟩ =>
    have e : f = fun j => in6 (de6 (f j)) := by
      funext j
      rw [← norm6, norm_eq _ _ (hf j).1 (hf j).2.1]
    have := ho_small n (fun j => de6 (f j))
    unfold inM inA at this
    rw [← e] at this
    exact this
end
end Go.Proofs.Ytihmjmaabednjaa.PV
