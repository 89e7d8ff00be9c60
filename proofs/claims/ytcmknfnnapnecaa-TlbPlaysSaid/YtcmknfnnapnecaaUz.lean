/-
  TlbPlays: the law.
-/
import Derived.Test.YtcmknfnnapnecaaUy
set_option linter.unusedVariables false
set_option linter.unusedSimpArgs false
set_option maxRecDepth 100000
namespace Go.Proofs.Ytcmknfnnapnecaa.PV
noncomputable section
open Go Go.Ev

/- What a step does to the program's table and to the document's. -/
def plT (s : St) (T : Tab) : Tab := bif iLe s.what 2 then fillF T s.e s.pick else bif iEq s.what 3 then dropF T s.e else fun _ => noEn
def plR (s : St) (R : Tab) : Tab := bif iLe s.what 2 then fillF R s.e s.pick else bif iEq s.what 3 then rdT R s.e else fun _ => noEn
def plOk (s : St) (T R : Tab) : Bool := bif iLe s.what 2 then true else bif iEq s.what 3 then dropB T s.e == iLe 0 (rdF R s.e) else bif Nat.beq (allN R) 0 then !iNe (allN T) 0 else !iNe (allN T) (allN R)
def plTs (st : Nat → St) (T : Tab) : Nat → Tab
  | 0 => T
  | i + 1 => plT (st i) (plTs st T i)
def plRs (st : Nat → St) (T : Tab) : Nat → Tab
  | 0 => T
  | i + 1 => plR (st i) (plRs st T i)
def plHit (p asi vm : Int) (v : Bool) (T R : Tab) : Bool := bif Nat.beq (allN T) 0 then Nat.beq (allN R) 0 && plGd ops p asi vm v T R else !Nat.beq (allN R) 0 && (smF (allN T) (allN R) (allE T) (allE R) && plGd ops p asi vm v T R)
def plAll (n : Nat) (st : Nat → St) (p asi vm : Int) (v : Bool) (T R : Tab) : Bool := Nat.blt n 1000000 && upTo (fun i => plOk (st i) (plTs st T i) (plRs st R i) && plHit p asi vm v (plTs st T (i + 1)) (plRs st R (i + 1))) n
def plW : PlY := ⟨fun T e => iLe 0 (rdF T e), rdT, smF, plOk, plT, plR, plAll, fun n st T => plTs st T n, fun n st T => plRs st T n⟩
theorem okHp : HSound Try.prog (HH2 (MTp ops plW) (MTq2 ops)) := HH2_ok (tb := MTp ops plW) ⟨rdropRow_ok, sam13_ok, MTq_ok⟩ MTq2_ok
theorem turnP {ov : Ov} {b : Code} (hov : OvOk Try.prog ov b) {L : Lq} (hL : L.wf = true) {K : Kc} (hK : Part L K) {fr : Fr} {m : Mem} (hg0 : NoGd fr) {c : Int} {r : List AV} {g : Bool}
    (he : evC Try.prog okT NPC (HH2 (MTp ops plW) (MTq2 ops)) RW ov 101 false b fr m K = some (g, .tup (.it .i64 c :: r))) (hg : g = true) (hr : L.ok r = true) : Turn Try.prog L.n0 b fr m c (L.F r) (L.M r) :=
  turnK_ok mix fair NPC_ok okHp hov hL hK hg0 he hg hr

theorem pl5Go_ok : GoesT Try.prog 2 (blkAt ((Try.f6.body).getD .skip) 2) pl5L pl5Ts (pl5Go plW) := goT_ok fun g h1 h2 => by
  simp only [Bool.and_eq_true] at h1
  obtain ⟨c0, c1, c2, c3, c4⟩ := h1
  refine ⟨noGd_all (L := pl5L) rfl, fun fr m hm hb => ?_⟩
  have hst : norms (tmS g pl5Ts 0) 0 g = pl5S (lenS (g 0)) (lenA (g 10)) (arSt (g 10)) (g 1).num (g 2).num (g 3).num (g 4).bool (deT (g 11)) (deT (g 14)) (g 6).num (deSt (g 12)) (deT (g 13)) := by
    have : norms (tmS g pl5Ts 0) 0 g = [g 0, .it .i64 (g 1).num, .it .i64 (g 2).num, .it .i64 (g 3).num, .bl (g 4).bool, g 5, .it .i64 (g 6).num, g 7, g 8, g 9, stR (lenA (g 10)) (arSt (g 10)), tlbA (deT (g 11)), stA (deSt (g 12)), tlbA (deT (g 13)), tlbA (deT (g 14))] := rfl
    rw [this, isPt_ok c1, isPt_ok c2, isPt_ok c3, isPt_ok c4]
    unfold pl5S
    rw [← isSlq_ok c0]
  rw [hst] at hb
  have hE := plB ops plW (lenS (g 0)) (lenA (g 10)) (arSt (g 10)) (g 1).num (g 2).num (g 3).num (g 4).bool (deT (g 11)) (deT (g 14)) (g 6).num (deSt (g 12)) (deT (g 13))
  refine Turn.block (c := 0) ?_ hm hb (e := .normal) rfl
  have h2 : plOk (deSt (g 12)) (deT (g 11)) (deT (g 14)) = true := h2
  unfold plOk at h2
  unfold pl5E
  show Turn _ _ _ _ _ _ (pl5L.F (pl5S (lenS (g 0)) (lenA (g 10)) (arSt (g 10)) (g 1).num (g 2).num (g 3).num (g 4).bool (plT (deSt (g 12)) (deT (g 11))) (plR (deSt (g 12)) (deT (g 14))) (g 6).num (deSt (g 12)) (deT (g 13)))) (pl5L.M (pl5S (lenS (g 0)) (lenA (g 10)) (arSt (g 10)) (g 1).num (g 2).num (g 3).num (g 4).bool (plT (deSt (g 12)) (deT (g 11))) (plR (deSt (g 12)) (deT (g 14))) (g 6).num (deSt (g 12)) (deT (g 13))))
  unfold plT plR
  cases hw : iLe (deSt (g 12)).what 2 with
  | true =>
    rw [hw, Om.pick_t] at hE
    exact turnP (OvOk_none _) (L := pl5L) rfl (grabJ_part 0 (Part.refl _)) (noGd_all (L := pl5L) rfl) hE rfl rfl
  | false =>
    rw [hw, Om.pick_f] at hE
    rw [hw, cond_false] at h2
    cases hw3 : iEq (deSt (g 12)).what 3 with
    | true =>
      rw [hw3, Om.pick_t] at hE
      rw [hw3, cond_true] at h2
      exact turnP (OvOk_none _) (L := pl5L) rfl (grabJ_part 0 (Part.refl _)) (noGd_all (L := pl5L) rfl) hE (by
        show (!!(dropB (deT (g 11)) (deSt (g 12)).e == iLe 0 (rdF (deT (g 14)) (deSt (g 12)).e)) && true) = true
        rw [h2]; rfl) rfl
    | false =>
      rw [hw3, Om.pick_f] at hE
      rw [hw3, cond_false] at h2
      cases hn : Nat.beq (allN (deT (g 14))) 0 with
      | true =>
        rw [show ops.n (deT (g 14)) = allN (deT (g 14)) from rfl, hn, Om.pick_t] at hE
        rw [hn, cond_true] at h2
        exact turnP (OvOk_none _) (L := pl5L) rfl (grabJ_part 0 (Part.refl _)) (noGd_all (L := pl5L) rfl) hE (by
          show (!iNe (allN (deT (g 11))) 0 && true) = true
          rw [h2]; rfl) rfl
      | false =>
        rw [show ops.n (deT (g 14)) = allN (deT (g 14)) from rfl, hn, Om.pick_f] at hE
        rw [hn, cond_false] at h2
        exact turnP (OvOk_none _) (L := pl5L) rfl (grabJ_part 0 (Part.refl _)) (noGd_all (L := pl5L) rfl) hE (by
          show (!iNe (allN (deT (g 11))) (allN (deT (g 14))) && true) = true
          rw [h2]; rfl) rfl

theorem pl_b : blks ((Try.f6.body).getD .skip) = [(0, .loop (bodyOf Try.f6.body 0)), (1, blkAt ((Try.f6.body).getD .skip) 1), (2, blkAt ((Try.f6.body).getD .skip) 2)] := by kernel_rfl
theorem pl_b0 : blks (bodyOf Try.f6.body 0) = [(1, blkAt ((Try.f6.body).getD .skip) 1), (2, blkAt ((Try.f6.body).getD .skip) 2)] := by kernel_rfl
theorem pl5Ov_ok : OvOk Try.prog (ovT 2 pl5L pl5Ts (pl5Go plW)) (bodyOf Try.f6.body 0) := ovT_ok rfl pl5Go_ok fun x hx h => by
  rw [pl_b0] at hx
  simp only [List.mem_cons, List.not_mem_nil, or_false] at hx
  rcases hx with rfl | rfl <;> first | rfl | (cases h; done)

def pl0Ts : List Tm := [.fx .ref, .fx (.int .i64), .fx (.int .i64), .fx (.int .i64), .fx .bool, .fx .ref, .fx (.int .i64), .fx .ref, .ar stSh, .fx tlbSh, .fx tlbSh]
def pl0E (Y : PlY) (g : Nat → AV) : List AV := pl0S (lenS (g 0)) (lenA (g 8)) (arSt (g 8)) (g 1).num (g 2).num (g 3).num (g 4).bool (Y.tn (lenS (g 0)) (arSt (g 8)) (deT (g 9))) (Y.rn (lenS (g 0)) (arSt (g 8)) (deT (g 10))) (lenS (g 0) : Nat)
def pl0Go (Y : PlY) : (Nat → AV) → Kc → Option Out := goJ (fun g => isSlq 0 false (g 0) && (isPt 1 tlbSh (g 5) && isPt 3 tlbSh (g 7))) (fun g => iEq (g 6).num 0 && Y.all (lenS (g 0)) (arSt (g 8)) (g 1).num (g 2).num (g 3).num (g 4).bool (deT (g 9)) (deT (g 10))) .normal
  (fun g => pl0L.F (pl0E Y g)) (fun g => pl0L.M (pl0E Y g))
theorem pl0Go_ok : GoesT Try.prog 0 (.loop (bodyOf Try.f6.body 0)) pl0L pl0Ts (pl0Go plW) := goT_ok fun g h1 h2 => by
  simp only [Bool.and_eq_true] at h1 h2
  obtain ⟨c0, c1, c2⟩ := h1
  obtain ⟨hi, hall⟩ := h2
  refine ⟨noGd_all (L := pl0L) rfl, fun fr m hm hb => ?_⟩
  have hst : norms (tmS g pl0Ts 0) 0 g = pl0S (lenS (g 0)) (lenA (g 8)) (arSt (g 8)) (g 1).num (g 2).num (g 3).num (g 4).bool (deT (g 9)) (deT (g 10)) 0 := by
    have : norms (tmS g pl0Ts 0) 0 g = [g 0, .it .i64 (g 1).num, .it .i64 (g 2).num, .it .i64 (g 3).num, .bl (g 4).bool, g 5, .it .i64 (g 6).num, g 7, stR (lenA (g 8)) (arSt (g 8)), tlbA (deT (g 9)), tlbA (deT (g 10))] := rfl
    rw [this, iEq_true.1 hi, isPt_ok c1, isPt_ok c2]
    unfold pl0S
    rw [← isSlq_ok c0]
  rw [hst] at hb
  have hall : plAll (lenS (g 0)) (arSt (g 8)) (g 1).num (g 2).num (g 3).num (g 4).bool (deT (g 9)) (deT (g 10)) = true := hall
  unfold plAll at hall
  simp only [Bool.and_eq_true, Nat.blt_eq] at hall
  obtain ⟨hn, hup⟩ := hall
  refine loopJ_block (F := fun j => pl0L.F (pl0S (lenS (g 0)) (lenA (g 8)) (arSt (g 8)) (g 1).num (g 2).num (g 3).num (g 4).bool (plTs (arSt (g 8)) (deT (g 9)) j) (plRs (arSt (g 8)) (deT (g 10)) j) (j : Nat)))
    (M := fun j => pl0L.M (pl0S (lenS (g 0)) (lenA (g 8)) (arSt (g 8)) (g 1).num (g 2).num (g 3).num (g 4).bool (plTs (arSt (g 8)) (deT (g 9)) j) (plRs (arSt (g 8)) (deT (g 10)) j) (j : Nat))) (n := lenS (g 0)) (c := 2) (fun j hj => ?_) ?_ (by decide) hm hb (e := .exit 0) rfl
  · have hE := plA ops plW (lenS (g 0)) (lenA (g 8)) (arSt (g 8)) (g 1).num (g 2).num (g 3).num (g 4).bool (plTs (arSt (g 8)) (deT (g 9)) j) (plRs (arSt (g 8)) (deT (g 10)) j) ((j : Nat) : Int)
    have hq := upTo_at (f := fun i => plOk (arSt (g 8) i) (plTs (arSt (g 8)) (deT (g 9)) i) (plRs (arSt (g 8)) (deT (g 10)) i) && plHit (g 1).num (g 2).num (g 3).num (g 4).bool (plTs (arSt (g 8)) (deT (g 9)) (i + 1)) (plRs (arSt (g 8)) (deT (g 10)) (i + 1))) hup j hj
    simp only [Bool.and_eq_true] at hq
    obtain ⟨q1, q2⟩ := hq
    rw [iAdd_b j (by omega), iLt_true.2 (show (j : Int) < (lenS (g 0) : Nat) by omega), iIn_true.2 (show 0 ≤ (j : Int) ∧ (j : Int) < (lenS (g 0) : Nat) by omega), Nat.add_zero, Int.toNat_natCast] at hE
    rw [show plW.t (arSt (g 8) j) (plTs (arSt (g 8)) (deT (g 9)) j) = plTs (arSt (g 8)) (deT (g 9)) (j + 1) from rfl, show plW.r (arSt (g 8) j) (plRs (arSt (g 8)) (deT (g 10)) j) = plRs (arSt (g 8)) (deT (g 10)) (j + 1) from rfl,
      show plW.ok (arSt (g 8) j) (plTs (arSt (g 8)) (deT (g 9)) j) (plRs (arSt (g 8)) (deT (g 10)) j) = true from q1, show ops.n = allN from rfl, show ops.el = allE from rfl, show plW.sm = smF from rfl] at hE
    unfold plHit at q2
    cases hz : Nat.beq (allN (plTs (arSt (g 8)) (deT (g 9)) (j + 1))) 0 with
    | true =>
      rw [hz, cond_true, Bool.and_eq_true] at q2
      rw [hz, Om.pick_t, q2.1, q2.2] at hE
      exact turnP pl5Ov_ok (L := pl0L) rfl (grabJ_part 0 (Part.refl _)) (noGd_all (L := pl0L) rfl) hE rfl rfl
    | false =>
      rw [hz, cond_false, Bool.and_eq_true, Bool.and_eq_true] at q2
      rw [hz, Om.pick_f, q2.1, q2.2.1, q2.2.2] at hE
      exact turnP pl5Ov_ok (L := pl0L) rfl (grabJ_part 0 (Part.refl _)) (noGd_all (L := pl0L) rfl) hE rfl rfl
  · have hE := plX ops plW (lenS (g 0)) (lenA (g 8)) (arSt (g 8)) (g 1).num (g 2).num (g 3).num (g 4).bool (plTs (arSt (g 8)) (deT (g 9)) (lenS (g 0))) (plRs (arSt (g 8)) (deT (g 10)) (lenS (g 0))) ((lenS (g 0) : Nat) : Int)
    exact turnP pl5Ov_ok (L := pl0L) rfl (grabJ_part 2 (Part.refl _)) (noGd_all (L := pl0L) rfl) hE (by rw [iLt_false.2 (Int.le_refl _)]; rfl) rfl
theorem pl0Ov_ok : ∀ c, Try.f6.body = some c → OvOk Try.prog (ovT 0 pl0L pl0Ts (pl0Go plW)) c := fun c hc => ovT_ok rfl pl0Go_ok fun x hx h => by
  rw [show c = (Try.f6.body).getD .skip by rw [hc]; rfl, pl_b] at hx
  simp only [List.mem_cons, List.not_mem_nil, or_false] at hx
  rcases hx with rfl | rfl | rfl <;> first | rfl | (cases h; done)

/- The law, evaluated. -/
def plM (n : Nat) (st : Nat → St) : Mem := Mem.empty.add (.cells (stR n st) false)
theorem plLaw (Q : Ops) (Y : PlY) (n : Nat) (st : Nat → St) (p asi vm : Int) (v : Bool) : evFn Try.prog okT NPC (HH2 (MTp Q Y) (MTq2 Q)) RW (ovT 0 pl0L pl0Ts (pl0Go Y)) 101 false Try.f6 [.sl 0 [] 0 n false, .it .i64 p, .it .i64 asi, .it .i64 vm, .bl v] (plM n st) (finQ onP1) =
    some (Om.pick (!true) (true, .tup [.it .i64 0, .bl false, stR n st]) (Om.pick (iLt 80 n) (true, .tup [.it .i64 0, .bl true, stR n st]) ((iEq 0 0 && Y.all n st p asi vm v (fun _ => noEn) fun _ => noEn) && true, .tup [.it .i64 0, .bl true, stR n st]))) := by kernel_rfl
theorem plLaw0 (Q : Ops) (Y : PlY) (p asi vm : Int) (v : Bool) : evFn Try.prog okT NPC (HH2 (MTp Q Y) (MTq2 Q)) RW NOV 101 false Try.f6 [.nsl, .it .i64 p, .it .i64 asi, .it .i64 vm, .bl v] Mem.empty (finQ L0) = some (true, .tup [.it .i64 0, .bl true]) := by kernel_rfl

/- Both tables are the same. -/
theorem sameE_iff {a b : En} : sameE a b = true ↔ a = b := by
  have h : sameE a b = eqX a b := by unfold sameE eqX; simp
  rw [h]
  exact ⟨eqX_eq, fun e => by rw [e]; exact eqX_refl b⟩
theorem rdHit_iff {T : Tab} {e : En} {k : Nat} : rdHit T e (k : Nat) = true ↔ (T k).ok = true ∧ T k = e := by
  unfold rdHit
  rw [Int.toNat_natCast]
  cases h : (T k).ok with
  | false => simp
  | true =>
    rw [cond_true]
    exact ⟨fun h => ⟨rfl, eqX_eq h⟩, fun h => by rw [h.2]; exact eqX_refl e⟩
theorem drop_same {T : Tab} (hu : Uniq T) (e : En) : dropB T e = iLe 0 (rdF T e) ∧ dropF T e = rdT T e := by
  rcases rdF_spec T e with ⟨h1, h2⟩ | ⟨k, h1, h2, h3, h4⟩
  · have hd : dropB T e = false := by
      cases hc : dropB T e with
      | false => rfl
      | true =>
        exfalso
        unfold dropB at hc
        rcases findF_spec T e.page e.v e.asid e.vmid with ⟨g1, _⟩ | ⟨k, g1, g2, g3, _⟩
        · rw [g1] at hc
          cases he : e.ok <;> rw [he] at hc <;> cases hc
        · rw [g2, Int.toNat_natCast] at hc
          have hs : sameE (T k) e = true := by
            cases he : (bif e.ok then iLe 0 (k : Int) else false) with
            | true => rw [he] at hc; exact hc
            | false => rw [he] at hc; cases hc
          have := h2 k g1
          rw [rdHit_iff.2 ⟨(keyP_sk.1 g3).1, sameE_iff.1 hs⟩] at this
          cases this
    have hf : dropF T e = T := by unfold dropF; rw [hd]; rfl
    have hr : rdT T e = T := by unfold rdT; rw [h1]; rfl
    rw [hd, hf, hr, h1]
    exact ⟨rfl, rfl⟩
  · obtain ⟨g1, g2⟩ := rdHit_iff.1 h3
    have hfind := find_is hu h1 g1 (e := e) (by rw [g2]; exact ⟨rfl, rfl, rfl, rfl⟩)
    have hok : e.ok = true := by rw [← g2]; exact g1
    have hd : dropB T e = true := by
      unfold dropB
      rw [hfind, hok, cond_true, iLe_true.2 (Int.natCast_nonneg k), cond_true, Int.toNat_natCast]
      exact sameE_iff.2 g2
    have hf : dropF T e = putF T k noEn := by unfold dropF; rw [hd, hfind]; rfl
    have hr : rdT T e = putF T k noEn := by unfold rdT; rw [h2, iLe_true.2 (Int.natCast_nonneg k)]; rfl
    rw [hd, hf, hr, h2, iLe_true.2 (Int.natCast_nonneg k)]
    exact ⟨rfl, rfl⟩
theorem drop_uniq {T : Tab} (hu : Uniq T) (e : En) : Uniq (dropF T e) := by
  unfold dropF
  cases dropB T e with
  | false => exact hu
  | true =>
    rw [cond_true]
    intro i j hi hj h1 h2 h3
    have hk : ∀ i, (putF T (findF T e.page e.v e.asid e.vmid).toNat noEn i).ok = true → putF T (findF T e.page e.v e.asid e.vmid).toNat noEn i = T i := fun i h => by
      by_cases hi : i = (findF T e.page e.v e.asid e.vmid).toNat
      · rw [hi, putF_at] at h; cases h
      · exact putF_ne _ _ hi
    have e1 := hk i h1
    have e2 := hk j h2
    rw [e1] at h1 h3
    rw [e2] at h2 h3
    exact hu i j hi hj h1 h2 h3
theorem pl_inv (st : Nat → St) : ∀ i, Uniq (plTs st (fun _ => noEn) i) ∧ plRs st (fun _ => noEn) i = plTs st (fun _ => noEn) i
  | 0 => ⟨uniq_no, rfl⟩
  | i + 1 => by
    obtain ⟨hu, he⟩ := pl_inv st i
    show Uniq (plT (st i) _) ∧ plR (st i) _ = plT (st i) _
    rw [he]
    unfold plT plR
    cases iLe (st i).what 2 with
    | true => exact ⟨fill_uniq hu _ _, rfl⟩
    | false =>
      cases iEq (st i).what 3 with
      | true => exact ⟨drop_uniq hu _, (drop_same hu _).2.symm⟩
      | false => exact ⟨uniq_no, rfl⟩
theorem smF_refl {n : Nat} {E : Tab} (h : n ≤ 16) : smF n n E E = true := by
  unfold smF
  simp only [Bool.and_eq_true, Nat.blt_eq]
  exact ⟨by omega, by simp, upTo_all fun i _ => eqX_refl _⟩
theorem plGd_refl (p asi vm : Int) (v : Bool) (T : Tab) : plGd ops p asi vm v T T = true := by
  unfold plGd
  rw [eqX_refl]
  simp
theorem pl_all (n : Nat) (hn : n ≤ 80) (st : Nat → St) (p asi vm : Int) (v : Bool) : plAll n st p asi vm v (fun _ => noEn) (fun _ => noEn) = true := by
  unfold plAll
  rw [Bool.and_eq_true]
  refine ⟨by rw [Nat.blt_eq]; omega, upTo_all fun i hi => ?_⟩
  obtain ⟨hu, he⟩ := pl_inv st i
  obtain ⟨hu', he'⟩ := pl_inv st (i + 1)
  rw [he, he', Bool.and_eq_true]
  constructor
  · unfold plOk
    cases iLe (st i).what 2 with
    | true => rfl
    | false =>
      cases iEq (st i).what 3 with
      | true => rw [cond_false, cond_true, (drop_same hu _).1]; simp
      | false =>
        rw [cond_false, cond_false]
        cases hz : Nat.beq (allN (plTs st (fun _ => noEn) i)) 0 with
        | true => rw [cond_true, Nat.eq_of_beq_eq_true hz]; rfl
        | false => rw [cond_false]; unfold iNe; simp
  · unfold plHit
    rw [plGd_refl, smF_refl (by rw [(all_eq _).1]; exact oks_len _)]
    cases Nat.beq (allN (plTs st (fun _ => noEn) (i + 1))) 0 <;> rfl

theorem playsP : Plain Try.prog 6 Try.f6 := ⟨Try.func6, of_decide_eq_true (by kernel_rfl)⟩
theorem st_eq {f : Nat → AV} (h : ∀ i, Of stSh (f i)) : f = fun j => stA (deSt (f j)) := by
  funext j
  rw [← norm_st, norm_eq _ _ (h j).1 (h j).2.1]
theorem of_bl {a : AV} (h : Of .bool a) : ∃ b, a = .bl b := by
  obtain ⟨_, h2, _⟩ := h
  cases a with
  | bl b => exact ⟨b, rfl⟩
  | _ => simp [AV.shape] at h2
theorem plays_law (es : List Dat) (h : All2 Dat.Is [.sli stSh, .pl (.int .i64), .pl (.int .i64), .pl (.int .i64), .pl .bool] es) : ∃ m', Small Try.prog 6 (opA es 0) (opM [.sli stSh, .pl (.int .i64), .pl (.int .i64), .pl (.int .i64), .pl .bool] es Mem.empty) (.bl true) m' := by
  match es, h with
  | [.no, .pl a1, .pl a2, .pl a3, .pl a4], ⟨_, h1, h2, h3, h4, _⟩ =>
    obtain ⟨p, rfl, _⟩ := of_it h1
    obtain ⟨asi, rfl, _⟩ := of_it h2
    obtain ⟨vm, rfl, _⟩ := of_it h3
    obtain ⟨v, rfl⟩ := of_bl h4
    exact ⟨_, small_ok mix fair NPC_ok okHp playsP (fun c _ => OvOk_none c) (plLaw0 ops plW p asi vm v) rfl rfl rfl rfl rfl rfl⟩
  | [.sl n f, .pl a1, .pl a2, .pl a3, .pl a4], ⟨⟨_, hf⟩, h1, h2, h3, h4, _⟩ =>
    obtain ⟨p, rfl, _⟩ := of_it h1
    obtain ⟨asi, rfl, _⟩ := of_it h2
    obtain ⟨vm, rfl, _⟩ := of_it h3
    obtain ⟨v, rfl⟩ := of_bl h4
    rw [st_eq hf]
    have hE := plLaw ops plW n (fun j => deSt (f j)) p asi vm v
    rw [show (!true) = false from rfl, Om.pick_f] at hE
    cases hc : iLt 80 (n : Int) with
    | true =>
      rw [hc, Om.pick_t] at hE
      exact ⟨_, small_ok mix fair NPC_ok okHp playsP pl0Ov_ok hE rfl rfl rfl rfl rfl rfl⟩
    | false =>
      have h80 := iLt_false.1 hc
      rw [hc, Om.pick_f] at hE
      exact ⟨_, small_ok mix fair NPC_ok okHp playsP pl0Ov_ok hE (by rw [show plW.all = plAll from rfl, pl_all n (by omega)]; rfl) rfl rfl rfl rfl rfl⟩
end
end Go.Proofs.Ytcmknfnnapnecaa.PV
