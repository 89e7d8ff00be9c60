/-
  The entries that there are, in a slice of its own, or none. Printed in part by a program of the prover's own (wip/a/mkg.py).
-/
import Derived.Test.YtcmknfnnapnecaaUf
set_option linter.unusedVariables false
set_option linter.unusedSimpArgs false
set_option maxRecDepth 100000
namespace Go.Proofs.Ytcmknfnnapnecaa.PV
noncomputable section
open Go Go.Ev

def oneE (e : En) : Tab := fun j => bif j + 0 == 0 then e else noEn
def addE (n : Nat) (E : Tab) (e : En) : Tab := fun j => bif decide (j < n) then E (j + 0) else bif j - n + 0 == 0 then e else noEn
def pushE : Nat → Tab → En → Tab
  | 0, _, e => oneE e
  | n + 1, E, e => addE (n + 1) E e
theorem pushE_at (n : Nat) (E : Tab) (e : En) : pushE n E e n = e := by
  cases n with
  | zero => rfl
  | succ n => simp [pushE, addE]
theorem pushE_lt (n : Nat) (E : Tab) (e : En) (j : Nat) (h : j < n) : pushE n E e j = E j := by
  cases n with
  | zero => omega
  | succ n => simp [pushE, addE, h]
/-- How many there are in so many places from one on, behind so many. -/
def allZ (T : Tab) : Nat → Nat → Nat × Tab → Nat × Tab
  | 0, _, x => x
  | k + 1, i, x => allZ T k (i + 1) (bif (T i).ok then (x.1 + 1, pushE x.1 x.2 (T i)) else x)
def allN (T : Tab) : Nat := (allZ T 16 0 (0, fun _ => noEn)).1
def allE (T : Tab) : Tab := (allZ T 16 0 (0, fun _ => noEn)).2
def isNsl : AV → Bool
  | .nsl => true
  | _ => false
theorem isNsl_ok {a : AV} (h : isNsl a = true) : a = .nsl := by
  unfold isNsl at h
  split at h <;> first | rfl | cases h
def elA (n : Nat) (E : Tab) : AV := .arr n entSh fun j => enA (E j)
theorem oneE_arr (e : En) : elA 1 (oneE e) = .arr 1 entSh fun i0 => .agg [.bl (bif i0 + 0 == 0 then e.ok else false), .bl (bif i0 + 0 == 0 then e.v else false), .it .i64 (bif i0 + 0 == 0 then e.page else 0), .it .i64 (bif i0 + 0 == 0 then e.asid else 0), .it .i64 (bif i0 + 0 == 0 then e.vmid else 0),
    .it .i64 (bif i0 + 0 == 0 then e.frame else 0), .it .i64 (bif i0 + 0 == 0 then e.bits else 0), .it .i64 (bif i0 + 0 == 0 then e.host else 0), .it .i64 (bif i0 + 0 == 0 then e.guest else 0)] := by
  unfold elA
  congr 1
  funext j
  unfold oneE
  cases j + 0 == 0 <;> rfl
theorem addE_arr (n : Nat) (E : Tab) (e : En) : elA (n + 1) (addE n E e) = .arr (n + 1) entSh fun i0 => .agg [.bl (bif decide (i0 < n) then (E (i0 + 0)).ok else bif i0 - n + 0 == 0 then e.ok else false), .bl (bif decide (i0 < n) then (E (i0 + 0)).v else bif i0 - n + 0 == 0 then e.v else false),
    .it .i64 (bif decide (i0 < n) then (E (i0 + 0)).page else bif i0 - n + 0 == 0 then e.page else 0), .it .i64 (bif decide (i0 < n) then (E (i0 + 0)).asid else bif i0 - n + 0 == 0 then e.asid else 0), .it .i64 (bif decide (i0 < n) then (E (i0 + 0)).vmid else bif i0 - n + 0 == 0 then e.vmid else 0),
    .it .i64 (bif decide (i0 < n) then (E (i0 + 0)).frame else bif i0 - n + 0 == 0 then e.frame else 0), .it .i64 (bif decide (i0 < n) then (E (i0 + 0)).bits else bif i0 - n + 0 == 0 then e.bits else 0), .it .i64 (bif decide (i0 < n) then (E (i0 + 0)).host else bif i0 - n + 0 == 0 then e.host else 0),
    .it .i64 (bif decide (i0 < n) then (E (i0 + 0)).guest else bif i0 - n + 0 == 0 then e.guest else 0)] := by
  unfold elA
  congr 1
  funext j
  unfold addE
  cases decide (j < n) with
  | true => rfl
  | false => cases j - n + 0 == 0 <;> rfl
def L2 : Lq := { n := 1, n0 := 1, ts := [], mv := [0], ids := [(0, true)] }
def allRow : MRow2 := rowZ tlbSh entSh (fun t => Nat.beq (allN (deT t)) 0) (fun t => allN (deT t)) (fun t j => enA (allE (deT t) j)) (fun t => tlbA (deT t))

section
variable (T S : Tab)
def allS0 (i : Int) : List AV := [.nsl, (.arr 16 entSh fun j => enA (T j)), .it .i64 i, tlbA S]
def allS1 (i : Int) (n : Nat) (E : Tab) : List AV := [(.arr 16 entSh fun j => enA (T j)), .it .i64 i, .sl 1 [] 0 n true, tlbA S, elA n E]
def allF (x : Int × Nat × Tab) : Fr := match x.2.1 with
  | 0 => all0L.F (allS0 T S x.1)
  | n + 1 => all1L.F (allS1 T S x.1 (n + 1) x.2.2)
def allM (x : Int × Nat × Tab) : Mem := match x.2.1 with
  | 0 => all0L.M (allS0 T S x.1)
  | n + 1 => all1L.M (allS1 T S x.1 (n + 1) x.2.2)
def allNx (x : Int × Nat × Tab) : Int × (Int × Nat × Tab) :=
  bif iLt x.1 16 then (bif (T x.1.toNat).ok then (0, (iAdd .i64 x.1 1, x.2.1 + 1, pushE x.2.1 x.2.2 (T x.1.toNat))) else (0, (iAdd .i64 x.1 1, x.2.1, x.2.2))) else (2, x)
theorem allS0_noGd (i : Int) : NoGd (all0L.F (allS0 T S i)) := Lq.noGd fun a ha => by
  simp only [all0L, allS0, List.length_cons, List.length_nil, List.take, List.mem_cons, List.not_mem_nil, or_false] at ha
  rcases ha with rfl | rfl | rfl <;> rfl
theorem allS1_noGd (i : Int) (n : Nat) (E : Tab) : NoGd (all1L.F (allS1 T S i n E)) := Lq.noGd fun a ha => by
  simp only [all1L, allS1, List.length_cons, List.length_nil, List.take, List.mem_cons, List.not_mem_nil, or_false] at ha
  rcases ha with rfl | rfl | rfl <;> rfl
def allI (x : Int × Nat × Tab) : Prop := 0 ≤ x.1 ∧ x.1 ≤ 16 ∧ (x.2.1 : Int) ≤ x.1
theorem all_turn (x : Int × Nat × Tab) (h : allI x) : Turn Try.prog 1 (bodyOf Try.f14.body 0) (allF T S x) (allM T S x) (allNx T x).1 (allF T S (allNx T x).2) (allM T S (allNx T x).2) ∧ ((allNx T x).1 = 0 → allI (allNx T x).2) := by
  obtain ⟨i, n, E⟩ := x
  have hi : 0 ≤ i ∧ i ≤ 16 ∧ (n : Int) ≤ i := h
  have step : iLt i 16 = true → iAdd .i64 i 1 = i + 1 := fun h => iAdd_i64 (by have := iLt_true.1 h; omega) (by have := iLt_true.1 h; omega)
  refine ⟨?_, fun h0 => ?_⟩
  · cases h1 : iLt i 16 with
    | false =>
      have e : allNx T (i, n, E) = (2, (i, n, E)) := by unfold allNx; simp only [h1, cond_false]
      rw [e]
      cases n with
      | zero =>
        have hE := allAE T S i
        have hv : allAV T S i = .tup (.it .i64 2 :: allS0 T S i) := by
          unfold allAV allA0 allA10
          rw [h1]
          rfl
        rw [hv] at hE
        exact turnK_ok mix fair NPC_ok (HH_ok (tb := []) trivial) (OvOk_none _) (L := all0L) rfl (grabN_part 3 all0L) (allS0_noGd T S i) hE (by unfold allAG; rw [h1]; rfl) rfl
      | succ n =>
        have hE := allXE T S i (n + 1) E
        exact turnK_ok mix fair NPC_ok (HH_ok (tb := []) trivial) (OvOk_none _) (L := all1L) rfl (grabJ_part 2 (grabI_part 3 1 true all1L)) (allS1_noGd T S i (n + 1) E) hE (by unfold allXG; rw [h1]; rfl) rfl
    | true =>
      have hin : iIn i 16 = true := iIn_true.2 ⟨hi.1, iLt_true.1 h1⟩
      cases h2 : (T i.toNat).ok with
      | false =>
        have e : allNx T (i, n, E) = (0, (iAdd .i64 i 1, n, E)) := by unfold allNx; simp only [h1, h2, cond_false, cond_true]
        rw [e]
        cases n with
        | zero =>
          have hE := allAE T S i
          have hv : allAV T S i = .tup (.it .i64 0 :: allS0 T S (iAdd .i64 i 1)) := by
            unfold allAV allA0 allA10
            rw [h1]
            rfl
          rw [hv] at hE
          exact turnK_ok mix fair NPC_ok (HH_ok (tb := []) trivial) (OvOk_none _) (L := all0L) rfl (grabN_part 3 all0L) (allS0_noGd T S i) hE (by unfold allAG; rw [h1, hin, h2]; rfl) rfl
        | succ n =>
          have hE := allCE T S i (n + 1) E
          exact turnK_ok mix fair NPC_ok (HH_ok (tb := []) trivial) (OvOk_none _) (L := all1L) rfl (grabJ_part 0 (grabI_part 3 1 true all1L)) (allS1_noGd T S i (n + 1) E) hE (by unfold allCG; rw [h1, hin, h2]; rfl) rfl
      | true =>
        have e : allNx T (i, n, E) = (0, (iAdd .i64 i 1, n + 1, pushE n E (T i.toNat))) := by unfold allNx; simp only [h1, h2, cond_true]
        rw [e]
        cases n with
        | zero =>
          have hE := allBE T S i
          have hv : allBV T S i = .tup (.it .i64 0 :: allS1 T S (iAdd .i64 i 1) 1 (oneE (T i.toNat))) := by
            show allBV T S i = .tup (.it .i64 0 :: [(.arr 16 entSh fun j => enA (T j)), .it .i64 (iAdd .i64 i 1), .sl 1 [] 0 1 true, tlbA S, elA 1 (oneE (T i.toNat))])
            rw [oneE_arr]
            rfl
          rw [hv] at hE
          exact turnK_ok mix fair NPC_ok (HH_ok (tb := []) trivial) (OvOk_none _) (L := all1L) rfl (Part.refl _) (allS0_noGd T S i) hE (by unfold allBG; rw [h1, hin, h2]; rfl) rfl
        | succ n =>
          have hE := allDE T S i (n + 1) E
          have hv : allDV T S i (n + 1) E = .tup (.it .i64 0 :: allS1 T S (iAdd .i64 i 1) (n + 2) (addE (n + 1) E (T i.toNat))) := by
            show allDV T S i (n + 1) E = .tup (.it .i64 0 :: [(.arr 16 entSh fun j => enA (T j)), .it .i64 (iAdd .i64 i 1), .sl 1 [] 0 (n + 1 + 1) true, tlbA S, elA (n + 1 + 1) (addE (n + 1) E (T i.toNat))])
            rw [addE_arr]
            rfl
          rw [hv] at hE
          exact turnK_ok mix fair NPC_ok (HH_ok (tb := []) trivial) (OvOk_none _) (L := all1L) rfl (grabJ_part 0 (grabI_part 3 1 false all1L)) (allS1_noGd T S i (n + 1) E) hE
            (by
              unfold allDG
              rw [h1, hin, h2, show (n + 1 + 1).ble 4294967296 = true from Nat.ble_eq_true_of_le (by omega)]
              rfl) rfl
  · cases h1 : iLt i 16 with
    | false => unfold allNx at h0; simp only [h1, cond_false] at h0; cases h0
    | true =>
      have h3 := iLt_true.1 h1
      cases h2 : (T i.toNat).ok with
      | false =>
        have e : allNx T (i, n, E) = (0, (iAdd .i64 i 1, n, E)) := by unfold allNx; simp only [h1, h2, cond_false, cond_true]
        rw [e, step h1]
        show 0 ≤ i + 1 ∧ i + 1 ≤ 16 ∧ (n : Int) ≤ i + 1
        omega
      | true =>
        have e : allNx T (i, n, E) = (0, (iAdd .i64 i 1, n + 1, pushE n E (T i.toNat))) := by unfold allNx; simp only [h1, h2, cond_true]
        rw [e, step h1]
        show 0 ≤ i + 1 ∧ i + 1 ≤ 16 ∧ ((n + 1 : Nat) : Int) ≤ i + 1
        omega
end
theorem all_iter (T : Tab) : ∀ (k i : Nat) (x : Nat × Tab), i + k = 16 → iterS (allNx T) (k + 1) ((i : Int), x.1, x.2) = some (2, (16, (allZ T k i x).1, (allZ T k i x).2))
  | 0, i, x, h => by
    have : i = 16 := by omega
    subst this
    rfl
  | k + 1, i, x, h => by
    have h1 : iLt (i : Int) 16 = true := iLt_true.2 (by omega)
    have h2 : iAdd IntKind.i64 (i : Int) 1 = ((i + 1 : Nat) : Int) := by rw [iAdd_i64 (by omega) (by omega)]; omega
    unfold iterS allZ
    cases hk : (T i).ok with
    | true =>
      have e : allNx T ((i : Int), x.1, x.2) = (0, (((i + 1 : Nat) : Int), x.1 + 1, pushE x.1 x.2 (T i))) := by unfold allNx; simp only [h1, h2, hk, cond_true, Int.toNat_natCast]
      rw [e]
      exact all_iter T k (i + 1) (x.1 + 1, pushE x.1 x.2 (T i)) (by omega)
    | false =>
      have e : allNx T ((i : Int), x.1, x.2) = (0, (((i + 1 : Nat) : Int), x.1, x.2)) := by unfold allNx; simp only [h1, h2, hk, cond_true, cond_false, Int.toNat_natCast]
      rw [e]
      exact all_iter T k (i + 1) x (by omega)

def allShs : List Sh := [.ref, .arr 16 entSh, .int .i64, tlbSh]
def allGo (g : Nat → AV) (k : Kc) : Option Out :=
  let T := arT (g 1); let S := deT (g 3)
  bif isNsl (g 0) then bindC (some (iEq (g 2).num 0)) (brC (Nat.beq (allN T) 0) (k .normal (all0L.F (allS0 T S 16)) (all0L.M (allS0 T S 16))) (k .normal (all1L.F (allS1 T S 16 (allN T) (allE T))) (all1L.M (allS1 T S 16 (allN T) (allE T))))) else none
theorem allGo_ok : GoesN Try.prog 0 (.loop (bodyOf Try.f14.body 0)) all0L allShs allGo := fun g k r h hr => by
  unfold allGo at h
  simp only at h
  cases hp : isNsl (g 0) with
  | false => rw [hp] at h; cases h
  | true =>
  rw [hp, cond_true] at h
  try simp only [Bool.and_eq_true] at hp
  obtain ⟨c1, h⟩ := bindC_ok h hr
  have hs : (g 2).num = 0 := by
    rcases c1 with c1 | c1
    · cases c1
    · exact iEq_true.1 (Option.some.inj c1)
  have hst : norms allShs 0 g = allS0 (arT (g 1)) (deT (g 3)) 0 := by
    have : norms allShs 0 g = [g 0, (.arr 16 entSh fun j => enA (arT (g 1) j)), .it .i64 (g 2).num, tlbA (deT (g 3))] := rfl
    rw [this, isNsl_ok hp, hs]
    rfl
  have hit := all_iter (arT (g 1)) 16 0 (0, fun _ => noEn) (by omega)
  have hit : iterS (allNx (arT (g 1))) 17 (0, 0, fun _ => noEn) = some (2, (16, allN (arT (g 1)), allE (arT (g 1)))) := hit
  have run : ∀ fr m, m.n = all0L.n0 → Back all0L.n0 fr m (all0L.F (norms allShs 0 g)) (all0L.M (norms allShs 0 g)) →
      Runs Try.prog (.block 0 (.loop (bodyOf Try.f14.body 0))) fr m .normal (allF (arT (g 1)) (deT (g 3)) (16, allN (arT (g 1)), allE (arT (g 1)))) (allM (arT (g 1)) (deT (g 3)) (16, allN (arT (g 1)), allE (arT (g 1)))) := fun fr m hm hb => by
    rw [hst] at hb
    exact loopS_block (F := allF (arT (g 1)) (deT (g 3))) (M := allM (arT (g 1)) (deT (g 3))) (all_turn (arT (g 1)) (deT (g 3))) hm (s := (0, 0, fun _ => noEn)) hb ⟨by decide, by decide, by decide⟩ hit (e := .exit 0) rfl
  obtain ⟨q1, q2⟩ := brC_ok h hr
  cases hn : allN (arT (g 1)) with
  | zero =>
    rw [hn] at run q1
    exact ⟨_, _, _, q1 rfl, allS0_noGd _ _ _, run⟩
  | succ n =>
    rw [hn] at run q2
    exact ⟨_, _, _, q2 rfl, allS1_noGd _ _ _ _ _, run⟩
def allOv : Ov := ovN 0 all0L allShs allGo
theorem all_blk : ∀ c, Try.f14.body = some c → ∀ x ∈ blks c, x.1 = 0 → x.2 = .loop (bodyOf Try.f14.body 0) := fun c hc => by
  have e : blks c = [(0, .loop (bodyOf Try.f14.body 0)), (1, blkAt ((Try.f14.body).getD .skip) 1)] := by
    rw [show c = (Try.f14.body).getD .skip by rw [hc]; rfl]
    kernel_rfl
  rw [e]
  intro x hx h0
  simp only [List.mem_cons, List.not_mem_nil, or_false] at hx
  rcases hx with rfl | rfl <;> first | rfl | (cases h0; done)
theorem allOv_ok : ∀ c, Try.f14.body = some c → OvOk Try.prog allOv c := fun c hc => ovN_ok rfl allGo_ok (all_blk c hc)
theorem allP : Plain Try.prog 14 Try.f14 := ⟨Try.func14, of_decide_eq_true (by kernel_rfl)⟩
theorem allV0E (T : Tab) : evFn Try.prog okT NPC (HH []) RO allOv 101 false Try.f14 [.pt 0 [] tlbSh] (mem1 (tlbA T)) (finK (grabN 0 L1)) = some (iEq 0 0 && (Nat.beq (allN T) 0 && true), .tup [.it .i64 0, .nsl, tlbA T]) := by kernel_rfl
theorem allV1E (T : Tab) : evFn Try.prog okT NPC (HH []) RO allOv 101 false Try.f14 [.pt 0 [] tlbSh] (mem1 (tlbA T)) (finK (grabQ L2)) = some (iEq 0 0 && (!Nat.beq (allN T) 0 && true), .tup [.it .i64 0, .sl 1 [] 0 (allN T) true, tlbA T, elA (allN T) (allE T)]) := by kernel_rfl
theorem all_small0 (T : Tab) (h : Nat.beq (allN T) 0 = true) : Small Try.prog 14 [.pt 0 [] tlbSh] (mem1 (tlbA T)) .nsl (mem1 (tlbA T)) :=
  smallK_ok mix fair NPC_ok (HH_ok (tb := []) trivial) allP allOv_ok (grabN_part 0 L1) (allV0E T) (by rw [h]; rfl) rfl rfl rfl rfl rfl
theorem all_small1 (T : Tab) (h : Nat.beq (allN T) 0 = false) : Small Try.prog 14 [.pt 0 [] tlbSh] (mem1 (tlbA T)) (.sl 1 [] 0 (allN T) true) (mem2 (tlbA T) (elA (allN T) (allE T))) :=
  smallK_ok mix fair NPC_ok (HH_ok (tb := []) trivial) allP allOv_ok (Part.refl L2) (allV1E T) (by rw [h]; rfl) rfl rfl rfl rfl rfl
theorem allRow_ok : MRow2Ok Try.prog 14 allRow := rowZ_ok rfl rfl (fun _ => rfl) (fun t h => all_small0 (deT t) h) fun t h => all_small1 (deT t) h

section
variable (T : Tab)
def rallS0 (i : Int) : List AV := [.pt 0 [] tlbSh, .nsl, .it .i64 i, tlbA T]
def rallS1 (i : Int) (n : Nat) (E : Tab) : List AV := [.pt 0 [] tlbSh, .it .i64 i, .sl 1 [] 0 n true, tlbA T, elA n E]
def rallF (x : Int × Nat × Tab) : Fr := match x.2.1 with
  | 0 => rall0L.F (rallS0 T x.1)
  | n + 1 => rall1L.F (rallS1 T x.1 (n + 1) x.2.2)
def rallM (x : Int × Nat × Tab) : Mem := match x.2.1 with
  | 0 => rall0L.M (rallS0 T x.1)
  | n + 1 => rall1L.M (rallS1 T x.1 (n + 1) x.2.2)
def rallNx (x : Int × Nat × Tab) : Int × (Int × Nat × Tab) :=
  bif iLt x.1 16 then (bif (T x.1.toNat).ok then (0, (iAdd .i64 x.1 1, x.2.1 + 1, pushE x.2.1 x.2.2 (T x.1.toNat))) else (0, (iAdd .i64 x.1 1, x.2.1, x.2.2))) else (2, x)
theorem rallS0_noGd (i : Int) : NoGd (rall0L.F (rallS0 T i)) := Lq.noGd fun a ha => by
  simp only [rall0L, rallS0, List.length_cons, List.length_nil, List.take, List.mem_cons, List.not_mem_nil, or_false] at ha
  rcases ha with rfl | rfl | rfl <;> rfl
theorem rallS1_noGd (i : Int) (n : Nat) (E : Tab) : NoGd (rall1L.F (rallS1 T i n E)) := Lq.noGd fun a ha => by
  simp only [rall1L, rallS1, List.length_cons, List.length_nil, List.take, List.mem_cons, List.not_mem_nil, or_false] at ha
  rcases ha with rfl | rfl | rfl <;> rfl
def rallI (x : Int × Nat × Tab) : Prop := 0 ≤ x.1 ∧ x.1 ≤ 16 ∧ (x.2.1 : Int) ≤ x.1
theorem rall_turn (x : Int × Nat × Tab) (h : rallI x) : Turn Try.prog 1 (bodyOf Try.f20.body 0) (rallF T x) (rallM T x) (rallNx T x).1 (rallF T (rallNx T x).2) (rallM T (rallNx T x).2) ∧ ((rallNx T x).1 = 0 → rallI (rallNx T x).2) := by
  obtain ⟨i, n, E⟩ := x
  have hi : 0 ≤ i ∧ i ≤ 16 ∧ (n : Int) ≤ i := h
  have step : iLt i 16 = true → iAdd .i64 i 1 = i + 1 := fun h => iAdd_i64 (by have := iLt_true.1 h; omega) (by have := iLt_true.1 h; omega)
  refine ⟨?_, fun h0 => ?_⟩
  · cases h1 : iLt i 16 with
    | false =>
      have e : rallNx T (i, n, E) = (2, (i, n, E)) := by unfold rallNx; simp only [h1, cond_false]
      rw [e]
      cases n with
      | zero =>
        have hE := rallAE T i
        have hv : rallAV T i = .tup (.it .i64 2 :: rallS0 T i) := by
          unfold rallAV rallA0 rallA1
          rw [h1]
          rfl
        rw [hv] at hE
        exact turnK_ok mix fair NPC_ok (HH_ok (tb := []) trivial) (OvOk_none _) (L := rall0L) rfl (grabN_part 3 rall0L) (rallS0_noGd T i) hE (by unfold rallAG; rw [h1]; rfl) rfl
      | succ n =>
        have hE := rallXE T i (n + 1) E
        exact turnK_ok mix fair NPC_ok (HH_ok (tb := []) trivial) (OvOk_none _) (L := rall1L) rfl (grabJ_part 2 (grabI_part 3 1 true rall1L)) (rallS1_noGd T i (n + 1) E) hE (by unfold rallXG; rw [h1]; rfl) rfl
    | true =>
      have hin : iIn i 16 = true := iIn_true.2 ⟨hi.1, iLt_true.1 h1⟩
      cases h2 : (T i.toNat).ok with
      | false =>
        have e : rallNx T (i, n, E) = (0, (iAdd .i64 i 1, n, E)) := by unfold rallNx; simp only [h1, h2, cond_false, cond_true]
        rw [e]
        cases n with
        | zero =>
          have hE := rallAE T i
          have hv : rallAV T i = .tup (.it .i64 0 :: rallS0 T (iAdd .i64 i 1)) := by
            unfold rallAV rallA0 rallA1
            rw [h1]
            rfl
          rw [hv] at hE
          exact turnK_ok mix fair NPC_ok (HH_ok (tb := []) trivial) (OvOk_none _) (L := rall0L) rfl (grabN_part 3 rall0L) (rallS0_noGd T i) hE (by unfold rallAG; rw [h1, hin, h2]; rfl) rfl
        | succ n =>
          have hE := rallCE T i (n + 1) E
          exact turnK_ok mix fair NPC_ok (HH_ok (tb := []) trivial) (OvOk_none _) (L := rall1L) rfl (grabJ_part 0 (grabI_part 3 1 true rall1L)) (rallS1_noGd T i (n + 1) E) hE (by unfold rallCG; rw [h1, hin, h2]; rfl) rfl
      | true =>
        have e : rallNx T (i, n, E) = (0, (iAdd .i64 i 1, n + 1, pushE n E (T i.toNat))) := by unfold rallNx; simp only [h1, h2, cond_true]
        rw [e]
        cases n with
        | zero =>
          have hE := rallBE T i
          have hv : rallBV T i = .tup (.it .i64 0 :: rallS1 T (iAdd .i64 i 1) 1 (oneE (T i.toNat))) := by
            show rallBV T i = .tup (.it .i64 0 :: [.pt 0 [] tlbSh, .it .i64 (iAdd .i64 i 1), .sl 1 [] 0 1 true, tlbA T, elA 1 (oneE (T i.toNat))])
            rw [oneE_arr]
            rfl
          rw [hv] at hE
          exact turnK_ok mix fair NPC_ok (HH_ok (tb := []) trivial) (OvOk_none _) (L := rall1L) rfl (Part.refl _) (rallS0_noGd T i) hE (by unfold rallBG; rw [h1, hin, h2]; rfl) rfl
        | succ n =>
          have hE := rallDE T i (n + 1) E
          have hv : rallDV T i (n + 1) E = .tup (.it .i64 0 :: rallS1 T (iAdd .i64 i 1) (n + 2) (addE (n + 1) E (T i.toNat))) := by
            show rallDV T i (n + 1) E = .tup (.it .i64 0 :: [.pt 0 [] tlbSh, .it .i64 (iAdd .i64 i 1), .sl 1 [] 0 (n + 1 + 1) true, tlbA T, elA (n + 1 + 1) (addE (n + 1) E (T i.toNat))])
            rw [addE_arr]
            rfl
          rw [hv] at hE
          exact turnK_ok mix fair NPC_ok (HH_ok (tb := []) trivial) (OvOk_none _) (L := rall1L) rfl (grabJ_part 0 (grabI_part 3 1 false rall1L)) (rallS1_noGd T i (n + 1) E) hE
            (by
              unfold rallDG
              rw [h1, hin, h2, show (n + 1 + 1).ble 4294967296 = true from Nat.ble_eq_true_of_le (by omega)]
              rfl) rfl
  · cases h1 : iLt i 16 with
    | false => unfold rallNx at h0; simp only [h1, cond_false] at h0; cases h0
    | true =>
      have h3 := iLt_true.1 h1
      cases h2 : (T i.toNat).ok with
      | false =>
        have e : rallNx T (i, n, E) = (0, (iAdd .i64 i 1, n, E)) := by unfold rallNx; simp only [h1, h2, cond_false, cond_true]
        rw [e, step h1]
        show 0 ≤ i + 1 ∧ i + 1 ≤ 16 ∧ (n : Int) ≤ i + 1
        omega
      | true =>
        have e : rallNx T (i, n, E) = (0, (iAdd .i64 i 1, n + 1, pushE n E (T i.toNat))) := by unfold rallNx; simp only [h1, h2, cond_true]
        rw [e, step h1]
        show 0 ≤ i + 1 ∧ i + 1 ≤ 16 ∧ ((n + 1 : Nat) : Int) ≤ i + 1
        omega
end
theorem rall_iter (T : Tab) : ∀ (k i : Nat) (x : Nat × Tab), i + k = 16 → iterS (rallNx T) (k + 1) ((i : Int), x.1, x.2) = some (2, (16, (allZ T k i x).1, (allZ T k i x).2))
  | 0, i, x, h => by
    have : i = 16 := by omega
    subst this
    rfl
  | k + 1, i, x, h => by
    have h1 : iLt (i : Int) 16 = true := iLt_true.2 (by omega)
    have h2 : iAdd IntKind.i64 (i : Int) 1 = ((i + 1 : Nat) : Int) := by rw [iAdd_i64 (by omega) (by omega)]; omega
    unfold iterS allZ
    cases hk : (T i).ok with
    | true =>
      have e : rallNx T ((i : Int), x.1, x.2) = (0, (((i + 1 : Nat) : Int), x.1 + 1, pushE x.1 x.2 (T i))) := by unfold rallNx; simp only [h1, h2, hk, cond_true, Int.toNat_natCast]
      rw [e]
      exact rall_iter T k (i + 1) (x.1 + 1, pushE x.1 x.2 (T i)) (by omega)
    | false =>
      have e : rallNx T ((i : Int), x.1, x.2) = (0, (((i + 1 : Nat) : Int), x.1, x.2)) := by unfold rallNx; simp only [h1, h2, hk, cond_true, cond_false, Int.toNat_natCast]
      rw [e]
      exact rall_iter T k (i + 1) x (by omega)

def rallShs : List Sh := [.ref, .ref, .int .i64, tlbSh]
def rallGo (g : Nat → AV) (k : Kc) : Option Out :=
  let T := deT (g 3)
  bif isPt 0 tlbSh (g 0) && isNsl (g 1) then bindC (some (iEq (g 2).num 0)) (brC (Nat.beq (allN T) 0) (k .normal (rall0L.F (rallS0 T 16)) (rall0L.M (rallS0 T 16))) (k .normal (rall1L.F (rallS1 T 16 (allN T) (allE T))) (rall1L.M (rallS1 T 16 (allN T) (allE T))))) else none
theorem rallGo_ok : GoesN Try.prog 0 (.loop (bodyOf Try.f20.body 0)) rall0L rallShs rallGo := fun g k r h hr => by
  unfold rallGo at h
  simp only at h
  cases hp : isPt 0 tlbSh (g 0) && isNsl (g 1) with
  | false => rw [hp] at h; cases h
  | true =>
  rw [hp, cond_true] at h
  try simp only [Bool.and_eq_true] at hp
  obtain ⟨c1, h⟩ := bindC_ok h hr
  have hs : (g 2).num = 0 := by
    rcases c1 with c1 | c1
    · cases c1
    · exact iEq_true.1 (Option.some.inj c1)
  have hst : norms rallShs 0 g = rallS0 (deT (g 3)) 0 := by
    have : norms rallShs 0 g = [g 0, g 1, .it .i64 (g 2).num, tlbA (deT (g 3))] := rfl
    rw [this, isPt_ok hp.1, isNsl_ok hp.2, hs]
    rfl
  have hit := rall_iter (deT (g 3)) 16 0 (0, fun _ => noEn) (by omega)
  have hit : iterS (rallNx (deT (g 3))) 17 (0, 0, fun _ => noEn) = some (2, (16, allN (deT (g 3)), allE (deT (g 3)))) := hit
  have run : ∀ fr m, m.n = rall0L.n0 → Back rall0L.n0 fr m (rall0L.F (norms rallShs 0 g)) (rall0L.M (norms rallShs 0 g)) →
      Runs Try.prog (.block 0 (.loop (bodyOf Try.f20.body 0))) fr m .normal (rallF (deT (g 3)) (16, allN (deT (g 3)), allE (deT (g 3)))) (rallM (deT (g 3)) (16, allN (deT (g 3)), allE (deT (g 3)))) := fun fr m hm hb => by
    rw [hst] at hb
    exact loopS_block (F := rallF (deT (g 3))) (M := rallM (deT (g 3))) (rall_turn (deT (g 3))) hm (s := (0, 0, fun _ => noEn)) hb ⟨by decide, by decide, by decide⟩ hit (e := .exit 0) rfl
  obtain ⟨q1, q2⟩ := brC_ok h hr
  cases hn : allN (deT (g 3)) with
  | zero =>
    rw [hn] at run q1
    exact ⟨_, _, _, q1 rfl, rallS0_noGd _ _, run⟩
  | succ n =>
    rw [hn] at run q2
    exact ⟨_, _, _, q2 rfl, rallS1_noGd _ _ _ _, run⟩
def rallOv : Ov := ovN 0 rall0L rallShs rallGo
theorem rall_blk : ∀ c, Try.f20.body = some c → ∀ x ∈ blks c, x.1 = 0 → x.2 = .loop (bodyOf Try.f20.body 0) := fun c hc => by
  have e : blks c = [(0, .loop (bodyOf Try.f20.body 0)), (1, blkAt ((Try.f20.body).getD .skip) 1)] := by
    rw [show c = (Try.f20.body).getD .skip by rw [hc]; rfl]
    kernel_rfl
  rw [e]
  intro x hx h0
  simp only [List.mem_cons, List.not_mem_nil, or_false] at hx
  rcases hx with rfl | rfl <;> first | rfl | (cases h0; done)
theorem rallOv_ok : ∀ c, Try.f20.body = some c → OvOk Try.prog rallOv c := fun c hc => ovN_ok rfl rallGo_ok (rall_blk c hc)
theorem rallP : Plain Try.prog 20 Try.f20 := ⟨Try.func20, of_decide_eq_true (by kernel_rfl)⟩
theorem rallV0E (T : Tab) : evFn Try.prog okT NPC (HH []) RO rallOv 101 false Try.f20 [.pt 0 [] tlbSh] (mem1 (tlbA T)) (finK (grabN 0 L1)) = some (iEq 0 0 && (Nat.beq (allN T) 0 && true), .tup [.it .i64 0, .nsl, tlbA T]) := by kernel_rfl
theorem rallV1E (T : Tab) : evFn Try.prog okT NPC (HH []) RO rallOv 101 false Try.f20 [.pt 0 [] tlbSh] (mem1 (tlbA T)) (finK (grabQ L2)) = some (iEq 0 0 && (!Nat.beq (allN T) 0 && true), .tup [.it .i64 0, .sl 1 [] 0 (allN T) true, tlbA T, elA (allN T) (allE T)]) := by kernel_rfl
theorem rall_small0 (T : Tab) (h : Nat.beq (allN T) 0 = true) : Small Try.prog 20 [.pt 0 [] tlbSh] (mem1 (tlbA T)) .nsl (mem1 (tlbA T)) :=
  smallK_ok mix fair NPC_ok (HH_ok (tb := []) trivial) rallP rallOv_ok (grabN_part 0 L1) (rallV0E T) (by rw [h]; rfl) rfl rfl rfl rfl rfl
theorem rall_small1 (T : Tab) (h : Nat.beq (allN T) 0 = false) : Small Try.prog 20 [.pt 0 [] tlbSh] (mem1 (tlbA T)) (.sl 1 [] 0 (allN T) true) (mem2 (tlbA T) (elA (allN T) (allE T))) :=
  smallK_ok mix fair NPC_ok (HH_ok (tb := []) trivial) rallP rallOv_ok (Part.refl L2) (rallV1E T) (by rw [h]; rfl) rfl rfl rfl rfl rfl
theorem rallRow_ok : MRow2Ok Try.prog 20 allRow := rowZ_ok rfl rfl (fun _ => rfl) (fun t h => rall_small0 (deT t) h) fun t h => rall_small1 (deT t) h
end
end Go.Proofs.Ytcmknfnnapnecaa.PV
