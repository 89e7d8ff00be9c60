/-
  TlbMarks: entries of one page under eight marks.
-/
import Derived.Test.YtcmknfnnapnecaaUm
import Derived.Test.YtcmknfnnapnecaaUn
set_option linter.unusedVariables false
set_option linter.unusedSimpArgs false
set_option maxRecDepth 100000
namespace Go.Proofs.Ytcmknfnnapnecaa.PV
noncomputable section
open Go Go.Ev

theorem of_it {k : IntKind} {a : AV} (h : Of (.int k) a) : ∃ x, a = .it k x ∧ k.min ≤ x ∧ x ≤ k.max := by
  obtain ⟨_, h2, h3⟩ := h
  cases a with
  | it k' x =>
    have : k' = k := by
      simp only [AV.shape] at h2
      injection h2
    subst this
    exact ⟨x, rfl, h3⟩
  | _ => simp [AV.shape] at h2
theorem conv8 {x : Int} (h : 0 ≤ x ∧ x < 256) : iConv .i64 x = x := wrapI (by omega) (by omega)

theorem mkE_eq {P a b : Int} (ha : 0 ≤ a ∧ a < 256) (hb : 0 ≤ b ∧ b < 256) {i : Nat} (hi : i < 8) : mkE P a b i = ⟨true, decide (i % 2 = 1), P, a + (i / 2 % 2 : Nat), b + (i / 4 : Nat), i, 0, 0, 0⟩ := by
  have h1 : iEq (iAnd .i64 i 1) 1 = decide (i % 2 = 1) := by
    match i, hi with
    | 0, _ | 1, _ | 2, _ | 3, _ | 4, _ | 5, _ | 6, _ | 7, _ => rfl
  have h2 : iAnd .i64 (iShr .i64 i 1) 1 = ((i / 2 % 2 : Nat) : Int) := by
    match i, hi with
    | 0, _ | 1, _ | 2, _ | 3, _ | 4, _ | 5, _ | 6, _ | 7, _ => rfl
  have h3 : iShr .i64 i 2 = ((i / 4 : Nat) : Int) := by
    match i, hi with
    | 0, _ | 1, _ | 2, _ | 3, _ | 4, _ | 5, _ | 6, _ | 7, _ => rfl
  unfold mkE
  rw [h1, h2, h3, conv8 ha, conv8 hb, iAdd_i64 (by omega) (by omega), iAdd_i64 (by omega) (by omega)]
theorem mk_sk {P a b : Int} (ha : 0 ≤ a ∧ a < 256) (hb : 0 ≤ b ∧ b < 256) {i j : Nat} (hi : i < 8) (hj : j < 8) (h : sk (mkE P a b i) (mkE P a b j)) : i = j := by
  rw [mkE_eq ha hb hi, mkE_eq ha hb hj] at h
  obtain ⟨_, h1, h2, h3⟩ := h
  simp only at h1 h2 h3
  have h1 : (i % 2 = 1) ↔ (j % 2 = 1) := by rw [← decide_eq_decide]; exact h1
  omega

def mkl (P a b : Int) (j : Nat) : List En := (List.range j).map fun i => mkE P a b (i : Nat)
theorem mkl_succ (P a b : Int) (j : Nat) : mkl P a b (j + 1) = mkl P a b j ++ [mkE P a b (j : Nat)] := by
  unfold mkl; rw [List.range_succ, List.map_append]; rfl
theorem mkl_len (P a b : Int) (j : Nat) : (mkl P a b j).length = j := by simp [mkl]
theorem mkl_ok (P a b : Int) (j : Nat) : ∀ e ∈ mkl P a b j, e.ok = true := by
  intro e he
  simp only [mkl, List.mem_map] at he
  obtain ⟨i, _, rfl⟩ := he
  rfl
theorem mkl_at (P a b : Int) {i j : Nat} (h : i < j) : tabL (mkl P a b j) i = mkE P a b (i : Nat) := by
  rw [tabL_lt (by rw [mkl_len]; exact h)]; simp [mkl]
section
variable {P a b : Int} (ha : 0 ≤ a ∧ a < 256) (hb : 0 ≤ b ∧ b < 256)
include ha hb
theorem mkT_eq : ∀ j, j ≤ 8 → mkT (fun _ => noEn) P a b j = tabL (mkl P a b j)
  | 0, _ => rfl
  | j + 1, h => by
    unfold mkT
    rw [mkT_eq j (by omega), mkl_succ]
    refine fill_push (by rw [mkl_len]; omega) (mkl_ok P a b j) rfl (fun e he hs => ?_) 0
    simp only [mkl, List.mem_map, List.mem_range] at he
    obtain ⟨i, hi, rfl⟩ := he
    have := mk_sk ha hb (by omega) (by omega) hs
    omega
omit ha hb in
theorem mkEs_eq : ∀ j, mkEs P a b j = tabL (mkl P a b j)
  | 0 => rfl
  | j + 1 => by
    unfold mkEs
    rw [mkEs_eq j, mkl_succ, ← pushE_tabL, mkl_len]
theorem mk_uniq : Uniq (tabL (mkl P a b 8)) := uniq_tabL fun i j hi hj h => by
  rw [mkl_len] at hi hj
  rw [← tabL_lt, ← tabL_lt, mkl_at P a b hi, mkl_at P a b hj] at h
  exact mk_sk ha hb hi hj h
theorem mk_find {i : Nat} (hi : i < 8) : findF (tabL (mkl P a b 8)) P (mkE P a b i).v (mkE P a b i).asid (mkE P a b i).vmid = (i : Int) := by
  have := find_is (mk_uniq ha hb) (e := mkE P a b i) (k := i) (by omega) (by rw [mkl_at P a b hi]; rfl) (by rw [mkl_at P a b hi]; exact ⟨rfl, rfl, rfl, rfl⟩)
  exact this
theorem mk_lk : upTo (lkOk (tabL (mkl P a b 8)) (tabL (mkl P a b 8)) P) 8 = true := upTo_all fun i hi => by
  unfold lkOk hasF lookF
  rw [mkl_at P a b hi, mk_find ha hb hi, iLe_true.2 (show (0 : Int) ≤ i by omega), iLt_false.2 (show (0 : Int) ≤ i by omega), cond_false, Int.toNat_natCast, mkl_at P a b hi, eqX_refl]
  rfl
omit ha hb in
theorem mk_miss {q : Int} (hq : q ≠ P) (v : Bool) (x y : Int) : hasF (tabL (mkl P a b 8)) q v x y = false := by
  unfold hasF
  rw [find_no fun j hj => ?_]
  · rfl
  · rcases Nat.lt_or_ge j 8 with h | h
    · rw [mkl_at P a b h]
      cases hk : keyP (mkE P a b j) q v x y with
      | false => rfl
      | true => exact absurd (keyP_iff.1 hk).2.1.symm hq
    · rw [tabL_ge (by rw [mkl_len]; exact h)]; rfl
omit ha hb in
theorem mk_n : allN (tabL (mkl P a b 8)) = 8 := by
  rw [(all_eq _).1, oks_tabL (by rw [mkl_len]; omega) (mkl_ok P a b 8), mkl_len]
theorem mk_db : dropB (tabL (mkl P a b 8)) (mkE P a b 3) = true := by
  have h := mk_find (P := P) ha hb (i := 3) (by omega)
  have e : mkE P a b 3 = mkE P a b (3 : Nat) := rfl
  have h2 : sameE (mkE P a b (3 : Nat)) (mkE P a b (3 : Nat)) = true := by unfold sameE; simp [iEq_true]
  unfold dropB
  rw [e, show (mkE P a b (3 : Nat)).page = P from rfl, h]
  rw [show (mkE P a b (3 : Nat)).ok = true from rfl, cond_true, show iLe 0 ((3 : Nat) : Int) = true from rfl, cond_true, Int.toNat_natCast, mkl_at P a b (by omega), h2]
theorem mk_dr : dropF (tabL (mkl P a b 8)) (mkE P a b 3) = putF (tabL (mkl P a b 8)) 3 noEn := by
  have h := mk_find (P := P) ha hb (i := 3) (by omega)
  unfold dropF
  rw [mk_db ha hb, cond_true]
  have e : mkE P a b 3 = mkE P a b (3 : Nat) := rfl
  rw [e, show (mkE P a b (3 : Nat)).page = P from rfl, h]; rfl
theorem mk_db2 : dropB (putF (tabL (mkl P a b 8)) 3 noEn) (mkE P a b 3) = false := by
  have e : mkE P a b 3 = mkE P a b (3 : Nat) := rfl
  unfold dropB
  rw [find_no fun j hj => ?_]
  · cases (mkE P a b 3).ok <;> rfl
  · by_cases h : j = 3
    · subst h; rw [putF_at]; rfl
    · rw [putF_ne _ _ h]
      rcases Nat.lt_or_ge j 8 with h8 | h8
      · rw [mkl_at P a b h8]
        cases hk : keyP (mkE P a b j) (mkE P a b 3).page (mkE P a b 3).v (mkE P a b 3).asid (mkE P a b 3).vmid with
        | false => rfl
        | true => exact absurd (mk_sk ha hb h8 (by omega : 3 < 8) (keyP_sk.1 hk).2) h
      · rw [tabL_ge (by rw [mkl_len]; exact h8)]; rfl
omit ha hb in
theorem mk_n2 : allN (putF (tabL (mkl P a b 8)) 3 noEn) = 7 := by kernel_rfl
end

theorem marks_small (p a b : Int) (hp : 0 ≤ p ∧ p < 256) (ha : 0 ≤ a ∧ a < 256) (hb : 0 ≤ b ∧ b < 256) : Small Try.prog 4 [.it .u8 p, .it .u8 a, .it .u8 b] Mem.empty (.bl true) Mem.empty := by
  have hT : mkW.t8 (fun j => noEn) (iConv .i64 p) a b = tabL (mkl p a b 8) := by rw [conv8 hp]; exact mkT_eq ha hb 8 (by omega)
  have hT' : mkW.t8 (fun j => { ok := false, v := false, page := 0, asid := 0, vmid := 0, frame := 0, bits := 0, host := 0, guest := 0 }) (iConv .i64 p) a b = tabL (mkl p a b 8) := hT
  have hE : mkW.e8 (iConv .i64 p) a b = tabL (mkl p a b 8) := by rw [conv8 hp]; exact mkEs_eq 8
  have h3 : tabL (mkl p a b 8) 3 = mkE p a b 3 := mkl_at p a b (by omega)
  have hlk : mkW.lk (mkW.t8 (fun j => { ok := false, v := false, page := 0, asid := 0, vmid := 0, frame := 0, bits := 0, host := 0, guest := 0 }) (iConv .i64 p) a b) (mkW.e8 (iConv .i64 p) a b) (iConv .i64 p) = true := by
    rw [hT', hE, conv8 hp]; exact mk_lk ha hb
  have c0 : marks_c0 ops mkW p a b = true := by
    unfold marks_c0
    rw [hT', conv8 hp, iAdd_i64 (by omega) (by omega)]
    have := mk_miss (P := p) (a := a) (b := b) (q := p + 1) (by omega) false (iConv .i64 a) (iConv .i64 b)
    rw [show ops.hs = hasF from rfl, this]; rfl
  have c1 : marks_c1 ops mkW p a b = false := by
    unfold marks_c1
    rw [hT', show ops.n = allN from rfl, mk_n]; rfl
  have c9 : marks_c9 ops mkW p a b = true := by
    unfold marks_c9
    rw [c0, hT', show ops.n = allN from rfl, mk_n]; rfl
  have c4 : marks_c4 ops mkW p a b = true := by
    unfold marks_c4
    rw [hT', hE, h3]; exact mk_db ha hb
  have hdr : ops.dr (tabL (mkl p a b 8)) (mkE p a b 3) = putF (tabL (mkl p a b 8)) 3 noEn := mk_dr ha hb
  have hdb2 : ops.db (putF (tabL (mkl p a b 8)) 3 noEn) (mkE p a b 3) = false := mk_db2 ha hb
  have c7 : marks_c7 ops mkW p a b = true := by
    unfold marks_c7
    rw [hT', hE, h3, hdr, hdb2]; rfl
  have c14 : marks_c14 ops mkW p a b = true := by
    unfold marks_c14
    rw [hT', hE, h3, hdr, show ops.dr (putF (tabL (mkl p a b 8)) 3 noEn) (mkE p a b 3) = putF (tabL (mkl p a b 8)) 3 noEn by show dropF _ _ = _; unfold dropF; rw [mk_db2 ha hb]; rfl, show ops.n = allN from rfl, mk_n2]; rfl
  have c11 : marks_c11 ops mkW p a b = true := by unfold marks_c11; rw [c9, c4]; rfl
  have c13 : marks_c13 ops mkW p a b = true := by unfold marks_c13; rw [c11, c7]; rfl
  have c15 : marks_c15 ops mkW p a b = true := by unfold marks_c15; rw [c13, c14]; rfl
  have hG : marksG ops mkW p a b = true := by
    unfold marksG
    rw [hlk, c0, c1, c9, c11, c13]
    cases marks_c10 ops mkW p a b <;> cases marks_c12 ops mkW p a b <;> rfl
  have hV : marks1 ops mkW p a b = true := by
    unfold marks1
    rw [c0, c1, c9, c11, c15]; rfl
  have hE := marksE ops mkW p a b
  unfold marksV at hE
  rw [hV, hG] at hE
  exact small_ok mix fair NPC_ok okH (f := 4) ⟨Try.func4, of_decide_eq_true (by kernel_rfl)⟩ mkOv_ok hE rfl rfl rfl rfl rfl rfl
theorem marks_law (es : List Dat) (h : All2 Dat.Is [.pl (.int .u8), .pl (.int .u8), .pl (.int .u8)] es) : ∃ m', Small Try.prog 4 (opA es 0) (opM [.pl (.int .u8), .pl (.int .u8), .pl (.int .u8)] es Mem.empty) (.bl true) m' := by
  match es, h with
  | [.pl a1, .pl a2, .pl a3], ⟨h1, h2, h3, _⟩ =>
    obtain ⟨p, rfl, hp⟩ := of_it h1
    obtain ⟨a, rfl, ha⟩ := of_it h2
    obtain ⟨b, rfl, hb⟩ := of_it h3
    have q : ∀ x : Int, IntKind.u8.min ≤ x ∧ x ≤ IntKind.u8.max → 0 ≤ x ∧ x < 256 := fun x hx => by
      have h1 : IntKind.u8.min = 0 := rfl
      have h2 : IntKind.u8.max = 255 := rfl
      omega
    exact ⟨_, marks_small p a b (q p hp) (q a ha) (q b hb)⟩
end
end Go.Proofs.Ytcmknfnnapnecaa.PV
