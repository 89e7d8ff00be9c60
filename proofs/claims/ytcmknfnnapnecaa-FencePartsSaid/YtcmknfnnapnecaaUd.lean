/-
  The document's look-up of a key, what both Fills do, the document's Drop. Printed in part by a program of the prover's own (wip/a/mkb.py).
-/
import Derived.Test.YtcmknfnnapnecaaUc
set_option linter.unusedVariables false
set_option linter.unusedSimpArgs false
set_option maxRecDepth 100000
namespace Go.Proofs.Ytcmknfnnapnecaa.PV
noncomputable section
open Go Go.Ev

section
variable (T : Tab) (page : Int) (v : Bool) (asid : Int) (vmid : Int)
def atS (x : Int × Int) : List AV := [.pt 0 [] tlbSh, .it .i64 page, .bl v, .it .i64 asid, .it .i64 vmid, .it .i64 x.1, .it .i64 x.2, tlbA T]
def atNx (x : Int × Int) : Int × (Int × Int) := (atR0 T page v asid vmid x.1 x.2, (atR5 T page v asid vmid x.1 x.2, atR6 T page v asid vmid x.1 x.2))
theorem atS_noGd (x : Int × Int) : NoGd (atL.F (atS T page v asid vmid x)) := Lq.noGd fun a ha => by
  simp only [atL, atS, List.length_cons, List.length_nil, List.take, List.mem_cons, List.not_mem_nil, or_false] at ha
  rcases ha with rfl | rfl | rfl | rfl | rfl | rfl | rfl <;> rfl
theorem atNx_eq (r : Int) (i : Nat) (hi : i < 16) : atNx T page v asid vmid (r, (i : Int)) = bif keyP (T i) page v asid vmid then (1, ((i : Int), (i : Int))) else (0, (r, ((i + 1 : Nat) : Int))) := by
  have h1 : iLt (i : Int) 16 = true := iLt_true.2 (by omega)
  have h2 : iAdd IntKind.i64 (i : Int) 1 = ((i + 1 : Nat) : Int) := by rw [iAdd_i64 (by omega) (by omega)]; omega
  unfold atNx atR0 atR5 atR6 keyP
  simp only [h1, h2, cond_true, Int.toNat_natCast]
  cases (T i).ok <;> cases iEq (T i).page page <;> cases (T i).v == v <;> cases iEq (T i).asid asid <;> cases iEq (T i).vmid vmid <;> rfl
theorem atNx_end (r : Int) : atNx T page v asid vmid (r, 16) = (2, (r, 16)) := rfl
theorem at_iter (r : Int) : ∀ (n i : Nat), i + n = 16 → iterS (atNx T page v asid vmid) (n + 1) (r, (i : Int)) =
    some (bif iLe 0 (firstF (fun j => keyP (T j) page v asid vmid) n i) then (1, (firstF (fun j => keyP (T j) page v asid vmid) n i, firstF (fun j => keyP (T j) page v asid vmid) n i)) else (2, (r, 16)))
  | 0, i, h => by
    have : i = 16 := by omega
    subst this
    unfold iterS
    rw [show ((16 : Nat) : Int) = 16 from rfl, atNx_end]
    rfl
  | n + 1, i, h => by
    unfold iterS firstF
    rw [atNx_eq T page v asid vmid r i (by omega)]
    cases hk : keyP (T i) page v asid vmid with
    | true =>
      rw [cond_true, cond_true, iLe_true.2 (show (0 : Int) ≤ i by omega)]
      rfl
    | false =>
      rw [cond_false, cond_false]
      exact at_iter r n (i + 1) (by omega)
def atI : Int × Int → Prop := fun ⟨r, i⟩ => 0 ≤ i ∧ i ≤ 16
theorem at_turn (x : Int × Int) (h : atI x) : Turn Try.prog 1 (bodyOf Try.f37.body 0) (atL.F (atS T page v asid vmid x)) (atL.M (atS T page v asid vmid x)) (atNx T page v asid vmid x).1
    (atL.F (atS T page v asid vmid (atNx T page v asid vmid x).2)) (atL.M (atS T page v asid vmid (atNx T page v asid vmid x).2)) ∧ ((atNx T page v asid vmid x).1 = 0 → atI (atNx T page v asid vmid x).2) := by
  obtain ⟨r, i⟩ := x
  have hi : 0 ≤ i ∧ i ≤ 16 := h
  refine ⟨turn_ok mix fair NPC_ok (HH_ok (tb := []) trivial) (OvOk_none _) (L := atL) rfl (atS_noGd _ _ _ _ _ _) (atRE T page v asid vmid r i) ?_ rfl, fun h0 => ?_⟩
  · unfold atRG
    cases h1 : iLt i 16 with
    | false => rfl
    | true =>
      rw [iIn_true.2 ⟨hi.1, iLt_true.1 h1⟩]
      simp
  · rcases Int.lt_or_le i 16 with h1 | h1
    · obtain ⟨n, rfl⟩ := Int.eq_ofNat_of_zero_le hi.1
      rw [atNx_eq T page v asid vmid r n (by omega)] at h0 ⊢
      cases hk : keyP (T n) page v asid vmid with
      | true => rw [hk] at h0; cases h0
      | false => exact ⟨by show (0 : Int) ≤ ((n + 1 : Nat) : Int); omega, by show ((n + 1 : Nat) : Int) ≤ 16; omega⟩
    · have : i = 16 := by omega
      subst this
      rw [atNx_end] at h0
      cases h0
end
def atShs : List Sh := [.ref, .int .i64, .bool, .int .i64, .int .i64, .int .i64, .int .i64, tlbSh]
def atGo (g : Nat → AV) (k : Kc) : Option Out :=
  let T := deT (g 7)
  let page := (g 1).num
  let v := (g 2).bool
  let asid := (g 3).num
  let vmid := (g 4).num
  bif isPt 0 tlbSh (g 0) then bindC (some (iEq ((g 6).num) 0)) (brC (iLe 0 (findF T page v asid vmid))
    (k .ret (atL.F (atS T page v asid vmid ((findF T page v asid vmid), (findF T page v asid vmid)))) (atL.M (atS T page v asid vmid ((findF T page v asid vmid), (findF T page v asid vmid)))))
    (k .normal (atL.F (atS T page v asid vmid ((g 5).num, 16))) (atL.M (atS T page v asid vmid ((g 5).num, 16))))) else none
theorem atGo_ok : GoesN Try.prog 0 (.loop (bodyOf Try.f37.body 0)) atL atShs atGo := fun g k r h hr => by
  unfold atGo at h
  simp only at h
  cases hp : isPt 0 tlbSh (g 0) with
  | false => rw [hp] at h; cases h
  | true =>
  rw [hp, cond_true] at h
  try simp only [Bool.and_eq_true] at hp
  obtain ⟨c1, h⟩ := bindC_ok h hr
  have hs : (iEq ((g 6).num) 0) = true := by
    rcases c1 with c1 | c1
    · cases c1
    · exact Option.some.inj c1
  simp only [Bool.and_eq_true, iEq_true] at hs
  have hst : norms atShs 0 g = atS (deT (g 7)) ((g 1).num) ((g 2).bool) ((g 3).num) ((g 4).num) ((g 5).num, ((0 : Nat) : Int)) := by
    have : norms atShs 0 g = [g 0, .it .i64 ((g 1).num), .bl ((g 2).bool), .it .i64 ((g 3).num), .it .i64 ((g 4).num), .it .i64 (g 5).num, .it .i64 (g 6).num, tlbA (deT (g 7))] := rfl
    rw [this, isPt_ok hp, hs]
    rfl
  have hit := at_iter (deT (g 7)) ((g 1).num) ((g 2).bool) ((g 3).num) ((g 4).num) (g 5).num 16 0 (by omega)
  have run : ∀ (c : Int) (x : Int × Int) (e : Exit), iterS (atNx (deT (g 7)) ((g 1).num) ((g 2).bool) ((g 3).num) ((g 4).num)) 17 ((g 5).num, ((0 : Nat) : Int)) = some (c, x) → exNo e = some c →
      ∀ fr m, m.n = atL.n0 → Back atL.n0 fr m (atL.F (norms atShs 0 g)) (atL.M (norms atShs 0 g)) →
      Runs Try.prog (.block 0 (.loop (bodyOf Try.f37.body 0))) fr m (exBlock 0 e) (atL.F (atS (deT (g 7)) ((g 1).num) ((g 2).bool) ((g 3).num) ((g 4).num) x)) (atL.M (atS (deT (g 7)) ((g 1).num) ((g 2).bool) ((g 3).num) ((g 4).num) x)) := fun c x e h1 h2 fr m hm hb => by
    rw [hst] at hb
    exact loopS_block (at_turn _ _ _ _ _) hm hb (by exact ⟨by simp, by simp⟩) h1 h2
  have hit : iterS (atNx (deT (g 7)) (g 1).num (g 2).bool (g 3).num (g 4).num) 17 ((g 5).num, ((0 : Nat) : Int)) = some (bif iLe 0 (findF (deT (g 7)) (g 1).num (g 2).bool (g 3).num (g 4).num) then (1, (findF (deT (g 7)) (g 1).num (g 2).bool (g 3).num (g 4).num, findF (deT (g 7)) (g 1).num (g 2).bool (g 3).num (g 4).num)) else (2, ((g 5).num, 16))) := hit
  obtain ⟨q1, q2⟩ := brC_ok h hr
  cases hc : iLe 0 (findF (deT (g 7)) ((g 1).num) ((g 2).bool) ((g 3).num) ((g 4).num)) with
  | true =>
    rw [hc, cond_true] at hit
    exact ⟨_, _, _, q1 hc, atS_noGd _ _ _ _ _ _, run 1 _ .ret hit rfl⟩
  | false =>
    rw [hc, cond_false] at hit
    exact ⟨_, _, _, q2 hc, atS_noGd _ _ _ _ _ _, run 2 _ (.exit 0) hit rfl⟩
def atOv : Ov := ovN 0 atL atShs atGo
theorem at_blk : ∀ c, Try.f37.body = some c → ∀ x ∈ blks c, x.1 = 0 → x.2 = .loop (bodyOf Try.f37.body 0) := fun c hc => by
  have e : blks c = [(0, .loop (bodyOf Try.f37.body 0)), (1, blkAt ((Try.f37.body).getD .skip) 1)] := by
    rw [show c = (Try.f37.body).getD .skip by rw [hc]; rfl]
    kernel_rfl
  rw [e]
  intro x hx h0
  simp only [List.mem_cons, List.not_mem_nil, or_false] at hx
  rcases hx with rfl | rfl <;> first | rfl | (cases h0; done)
theorem atOv_ok : ∀ c, Try.f37.body = some c → OvOk Try.prog atOv c := fun c hc => ovN_ok rfl atGo_ok (at_blk c hc)
theorem atP : Plain Try.prog 37 Try.f37 := ⟨Try.func37, of_decide_eq_true (by kernel_rfl)⟩
theorem atE0 (T : Tab) (page : Int) (v : Bool) (asid vmid : Int) : evFn Try.prog okT NPC (HH []) RO atOv 101 false Try.f37 [.pt 0 [] tlbSh, .it .i64 page, .bl v, .it .i64 asid, .it .i64 vmid] (mem1 (tlbA T)) (finQ L1) =
    some (Om.land (iEq 0 0) (Om.pick (iLe 0 (findF T page v asid vmid)) (true, .tup [.it .i64 0, .it .i64 (findF T page v asid vmid), tlbA T]) (true, .tup [.it .i64 0, .it .i64 (-1), tlbA T]))) := by kernel_rfl
theorem atE (T : Tab) (page : Int) (v : Bool) (asid vmid : Int) : evFn Try.prog okT NPC (HH []) RO atOv 101 false Try.f37 [.pt 0 [] tlbSh, .it .i64 page, .bl v, .it .i64 asid, .it .i64 vmid] (mem1 (tlbA T)) (finQ L1) =
    some (true, .tup [.it .i64 0, .it .i64 (findF T page v asid vmid), tlbA T]) := by
  rw [atE0]
  cases h : iLe 0 (findF T page v asid vmid) with
  | true => rw [Om.pick_t]; rfl
  | false =>
    rw [Om.pick_f]
    have : findF T page v asid vmid = -1 := by
      rw [iLe_false] at h
      rcases findF_in T page v asid vmid with h1 | h1 <;> omega
    rw [this]
    rfl
theorem at_small (T : Tab) (page : Int) (v : Bool) (asid vmid : Int) : Small Try.prog 37 [.pt 0 [] tlbSh, .it .i64 page, .bl v, .it .i64 asid, .it .i64 vmid] (mem1 (tlbA T)) (.it .i64 (findF T page v asid vmid)) (mem1 (tlbA T)) :=
  small_ok mix fair NPC_ok (HH_ok (tb := []) trivial) atP atOv_ok (atE T page v asid vmid) rfl rfl rfl rfl rfl rfl
def atRow : MRow := rowB tlbSh [.int .i64, .bool, .int .i64, .int .i64] (fun g t => .it .i64 (findF (deT t) (g 0).num (g 1).bool (g 2).num (g 3).num)) (fun g t => tlbA (deT t))
theorem atRow_ok : MRowOk Try.prog 37 atRow := rowB_ok rfl rfl (fun _ _ => rfl) (fun _ _ => rfl) fun g t => at_small (deT t) (g 0).num (g 1).bool (g 2).num (g 3).num
def MT1 : List (FuncId × MRow) := [(35, findRow), (37, atRow)]
theorem MT1_ok : MOk Try.prog MT1 := ⟨findRow_ok, atRow_ok, trivial⟩

/- Fill. -/
def freeF (T : Tab) : Int := firstF (fun i => !(T i).ok) 16 0
theorem freeF_in (T : Tab) : freeF T = -1 ∨ (0 ≤ freeF T ∧ freeF T < 16) := by
  have := firstF_in (p := fun i => !(T i).ok) 16 0
  unfold freeF
  omega
section
variable (T : Tab) (pick : Int) (e : En)
def fillS (x : Int × Int) : List AV := [.pt 0 [] tlbSh, .it .i64 pick, .pt 1 [] entSh, .it .i64 x.1, .it .i64 x.2, tlbA T, enA e]
def fillNx (x : Int × Int) : Int × (Int × Int) := (fillR0 T pick e x.1 x.2, (fillR2 T pick e x.1 x.2, fillR3 T pick e x.1 x.2))
theorem fillS_noGd (x : Int × Int) : NoGd (fillL.F (fillS T pick e x)) := Lq.noGd fun a ha => by
  simp only [fillL, fillS, List.length_cons, List.length_nil, List.take, List.mem_cons, List.not_mem_nil, or_false] at ha
  rcases ha with rfl | rfl | rfl | rfl | rfl <;> rfl
theorem fillNx_eq (i : Nat) (hi : i < 16) : fillNx T pick e (-1, (i : Int)) = (0, (bif !(T i).ok then (i : Int) else -1, ((i + 1 : Nat) : Int))) := by
  have h1 : iLt (i : Int) 16 = true := iLt_true.2 (by omega)
  have h2 : iAdd IntKind.i64 (i : Int) 1 = ((i + 1 : Nat) : Int) := by rw [iAdd_i64 (by omega) (by omega)]; omega
  have h3 : iLt (-1 : Int) 0 = true := rfl
  unfold fillNx fillR0 fillR2 fillR3
  simp only [h1, h2, h3, cond_true, Int.toNat_natCast]
theorem fillNx_out (r i : Int) (h : 0 ≤ r) : fillNx T pick e (r, i) = (2, (r, i)) := by
  have h3 : iLt r 0 = false := iLt_false.2 h
  unfold fillNx fillR0 fillR2 fillR3
  simp only [h3, cond_false, cS1]
theorem fillNx_end (r : Int) : fillNx T pick e (r, 16) = (2, (r, 16)) := by
  have h1 : iLt (16 : Int) 16 = false := rfl
  unfold fillNx fillR0 fillR2 fillR3
  simp only [h1, cond_false, cS1]
/-- Where the loop ends. -/
def fillZ (T : Tab) : Nat → Nat → Int × Int
  | 0, i => (-1, 16)
  | n + 1, i => bif !(T i).ok then ((i : Int), ((i + 1 : Nat) : Int)) else fillZ T n (i + 1)
theorem fillZ_fst (T : Tab) : ∀ (n i : Nat), (fillZ T n i).1 = firstF (fun i => !(T i).ok) n i
  | 0, _ => rfl
  | n + 1, i => by
    unfold fillZ firstF
    cases (T i).ok with
    | true => exact fillZ_fst T n (i + 1)
    | false => rfl
theorem fill_iter0 : ∀ (n i : Nat), i + n = 16 → iterS (fillNx T pick e) (n + 1) (-1, (i : Int)) = some (2, fillZ T n i)
  | 0, i, h => by
    have : i = 16 := by omega
    subst this
    unfold iterS
    rw [show ((16 : Nat) : Int) = 16 from rfl, fillNx_end]
    rfl
  | n + 1, i, h => by
    unfold iterS fillZ
    rw [fillNx_eq T pick e i (by omega)]
    cases hk : (T i).ok with
    | true => exact fill_iter0 n (i + 1) (by omega)
    | false =>
      show iterS (fillNx T pick e) (n + 1) ((i : Int), ((i + 1 : Nat) : Int)) = some (2, ((i : Int), ((i + 1 : Nat) : Int)))
      unfold iterS
      rw [fillNx_out T pick e _ _ (by omega)]
      rfl
def fillEnd (T : Tab) (r : Int) : Int × Int := bif iLt r 0 then fillZ T 16 0 else (r, 0)
def fillE1 (T : Tab) (r : Int) : Int := (fillEnd T r).1
def fillE2 (T : Tab) (r : Int) : Int := (fillEnd T r).2
theorem fill_iter (r : Int) (h : -1 ≤ r) : iterS (fillNx T pick e) 17 (r, 0) = some (2, (fillE1 T r, fillE2 T r)) := by
  show iterS (fillNx T pick e) 17 (r, 0) = some (2, fillEnd T r)
  unfold fillEnd
  cases h1 : iLt r 0 with
  | true =>
    have : r = -1 := by have := iLt_true.1 h1; omega
    subst this
    exact fill_iter0 T pick e 16 0 (by omega)
  | false =>
    unfold iterS
    rw [fillNx_out T pick e r 0 (iLt_false.1 h1)]
    rfl
def fillI : Int × Int → Prop := fun ⟨r, i⟩ => -1 ≤ r ∧ r < 16 ∧ 0 ≤ i ∧ i ≤ 16
theorem fill_turn (x : Int × Int) (h : fillI x) : Turn Try.prog 4 (bodyOf Try.f12.body 0) (fillL.F (fillS T pick e x)) (fillL.M (fillS T pick e x)) (fillNx T pick e x).1
    (fillL.F (fillS T pick e (fillNx T pick e x).2)) (fillL.M (fillS T pick e (fillNx T pick e x).2)) ∧ ((fillNx T pick e x).1 = 0 → fillI (fillNx T pick e x).2) := by
  obtain ⟨r, i⟩ := x
  have hi : -1 ≤ r ∧ r < 16 ∧ 0 ≤ i ∧ i ≤ 16 := h
  refine ⟨turn_ok mix fair NPC_ok (HH_ok (tb := []) trivial) (OvOk_none _) (L := fillL) rfl (fillS_noGd _ _ _ _) (fillRE T pick e r i) ?_ rfl, fun h0 => ?_⟩
  · unfold fillRG
    cases h1 : iLt i 16 with
    | false => cases iLt r 0 <;> rfl
    | true =>
      rw [iIn_true.2 ⟨hi.2.2.1, iLt_true.1 h1⟩]
      cases iLt r 0 <;> cases (T i.toNat).ok <;> rfl
  · rcases Int.lt_or_le r 0 with h2 | h2
    · have : r = -1 := by omega
      subst this
      rcases Int.lt_or_le i 16 with h1 | h1
      · obtain ⟨n, rfl⟩ := Int.eq_ofNat_of_zero_le hi.2.2.1
        rw [fillNx_eq T pick e n (by omega)]
        refine ⟨?_, ?_, by show (0 : Int) ≤ ((n + 1 : Nat) : Int); omega, by show ((n + 1 : Nat) : Int) ≤ 16; omega⟩
        · show -1 ≤ (bif !(T n).ok then (n : Int) else -1)
          cases (T n).ok
          · show (-1 : Int) ≤ n; omega
          · exact Int.le_refl _
        · show (bif !(T n).ok then (n : Int) else -1) < 16
          cases (T n).ok
          · show (n : Int) < 16; omega
          · show (-1 : Int) < 16; decide
      · have : i = 16 := by omega
        subst this
        rw [fillNx_end] at h0
        cases h0
    · rw [fillNx_out T pick e r i h2] at h0
      cases h0
end
def fillShs : List Sh := [.ref, .int .i64, .ref, .int .i64, .int .i64, tlbSh, entSh]
def fillGo (g : Nat → AV) (k : Kc) : Option Out :=
  let T := deT (g 5)
  let pick := (g 1).num
  let e := deA (g 6)
  bif isPt 0 tlbSh (g 0) && isPt 1 entSh (g 2) then bindC (some ((iLe (-1) (g 3).num && iLt (g 3).num 16) && iEq ((g 4).num) 0)) ((k .normal (fillL.F (fillS T pick e (fillE1 T (g 3).num, fillE2 T (g 3).num))) (fillL.M (fillS T pick e (fillE1 T (g 3).num, fillE2 T (g 3).num))))) else none
theorem fillGo_ok : GoesN Try.prog 0 (.loop (bodyOf Try.f12.body 0)) fillL fillShs fillGo := fun g k r h hr => by
  unfold fillGo at h
  simp only at h
  cases hp : isPt 0 tlbSh (g 0) && isPt 1 entSh (g 2) with
  | false => rw [hp] at h; cases h
  | true =>
  rw [hp, cond_true] at h
  try simp only [Bool.and_eq_true] at hp
  obtain ⟨c1, h⟩ := bindC_ok h hr
  have hs : ((iLe (-1) (g 3).num && iLt (g 3).num 16) && iEq ((g 4).num) 0) = true := by
    rcases c1 with c1 | c1
    · cases c1
    · exact Option.some.inj c1
  simp only [Bool.and_eq_true, iEq_true, iLe_true, iLt_true] at hs
  have hst : norms fillShs 0 g = fillS (deT (g 5)) ((g 1).num) (deA (g 6)) ((g 3).num, 0) := by
    have : norms fillShs 0 g = [g 0, .it .i64 ((g 1).num), g 2, .it .i64 (g 3).num, .it .i64 (g 4).num, tlbA (deT (g 5)), enA (deA (g 6))] := rfl
    rw [this, isPt_ok hp.1, isPt_ok hp.2, hs.2]
    rfl
  have hit := fill_iter (deT (g 5)) ((g 1).num) (deA (g 6)) (g 3).num hs.1.1
  have run : ∀ (c : Int) (x : Int × Int) (e : Exit), iterS (fillNx (deT (g 5)) ((g 1).num) (deA (g 6))) 17 ((g 3).num, 0) = some (c, x) → exNo e = some c →
      ∀ fr m, m.n = fillL.n0 → Back fillL.n0 fr m (fillL.F (norms fillShs 0 g)) (fillL.M (norms fillShs 0 g)) →
      Runs Try.prog (.block 0 (.loop (bodyOf Try.f12.body 0))) fr m (exBlock 0 e) (fillL.F (fillS (deT (g 5)) ((g 1).num) (deA (g 6)) x)) (fillL.M (fillS (deT (g 5)) ((g 1).num) (deA (g 6)) x)) := fun c x e h1 h2 fr m hm hb => by
    rw [hst] at hb
    exact loopS_block (fill_turn _ _ _) hm hb (by exact ⟨hs.1.1, hs.1.2, by simp, by simp⟩) h1 h2
  exact ⟨_, _, _, h, fillS_noGd _ _ _ _, run 2 _ (.exit 0) hit rfl⟩
def fillOv : Ov := ovN 0 fillL fillShs fillGo
theorem fill_blk : ∀ c, Try.f12.body = some c → ∀ x ∈ blks c, x.1 = 0 → x.2 = .loop (bodyOf Try.f12.body 0) := fun c hc => by
  have e : blks c = [(0, .loop (bodyOf Try.f12.body 0)), (1, blkAt ((Try.f12.body).getD .skip) 1)] := by
    rw [show c = (Try.f12.body).getD .skip by rw [hc]; rfl]
    kernel_rfl
  rw [e]
  intro x hx h0
  simp only [List.mem_cons, List.not_mem_nil, or_false] at hx
  rcases hx with rfl | rfl <;> first | rfl | (cases h0; done)
theorem fillOv_ok : ∀ c, Try.f12.body = some c → OvOk Try.prog fillOv c := fun c hc => ovN_ok rfl fillGo_ok (fill_blk c hc)
theorem fillP : Plain Try.prog 12 Try.f12 := ⟨Try.func12, of_decide_eq_true (by kernel_rfl)⟩
section
variable (T : Tab) (pick : Int) (e : En)
def rfillS (x : Int × Int) : List AV := [.pt 0 [] tlbSh, .it .i64 pick, .pt 1 [] entSh, .it .i64 x.1, .it .i64 x.2, tlbA T, enA e]
def rfillNx (x : Int × Int) : Int × (Int × Int) := (rfillR0 T pick e x.1 x.2, (rfillR2 T pick e x.1 x.2, rfillR3 T pick e x.1 x.2))
theorem rfillS_noGd (x : Int × Int) : NoGd (rfillL.F (rfillS T pick e x)) := Lq.noGd fun a ha => by
  simp only [rfillL, rfillS, List.length_cons, List.length_nil, List.take, List.mem_cons, List.not_mem_nil, or_false] at ha
  rcases ha with rfl | rfl | rfl | rfl | rfl <;> rfl
theorem rfillNx_eq (i : Nat) (hi : i < 16) : rfillNx T pick e (-1, (i : Int)) = (0, (bif !(T i).ok then (i : Int) else -1, ((i + 1 : Nat) : Int))) := by
  have h1 : iLt (i : Int) 16 = true := iLt_true.2 (by omega)
  have h2 : iAdd IntKind.i64 (i : Int) 1 = ((i + 1 : Nat) : Int) := by rw [iAdd_i64 (by omega) (by omega)]; omega
  have h3 : iLt (-1 : Int) 0 = true := rfl
  unfold rfillNx rfillR0 rfillR2 rfillR3
  simp only [h1, h2, h3, cond_true, Int.toNat_natCast]
theorem rfillNx_out (r i : Int) (h : 0 ≤ r) : rfillNx T pick e (r, i) = (2, (r, i)) := by
  have h3 : iLt r 0 = false := iLt_false.2 h
  unfold rfillNx rfillR0 rfillR2 rfillR3
  simp only [h3, cond_false, cS1]
theorem rfillNx_end (r : Int) : rfillNx T pick e (r, 16) = (2, (r, 16)) := by
  have h1 : iLt (16 : Int) 16 = false := rfl
  unfold rfillNx rfillR0 rfillR2 rfillR3
  simp only [h1, cond_false, cS1]
/-- Where the loop ends. -/
def rfillZ (T : Tab) : Nat → Nat → Int × Int
  | 0, i => (-1, 16)
  | n + 1, i => bif !(T i).ok then ((i : Int), ((i + 1 : Nat) : Int)) else rfillZ T n (i + 1)
theorem rfillZ_fst (T : Tab) : ∀ (n i : Nat), (rfillZ T n i).1 = firstF (fun i => !(T i).ok) n i
  | 0, _ => rfl
  | n + 1, i => by
    unfold rfillZ firstF
    cases (T i).ok with
    | true => exact rfillZ_fst T n (i + 1)
    | false => rfl
theorem rfill_iter0 : ∀ (n i : Nat), i + n = 16 → iterS (rfillNx T pick e) (n + 1) (-1, (i : Int)) = some (2, rfillZ T n i)
  | 0, i, h => by
    have : i = 16 := by omega
    subst this
    unfold iterS
    rw [show ((16 : Nat) : Int) = 16 from rfl, rfillNx_end]
    rfl
  | n + 1, i, h => by
    unfold iterS rfillZ
    rw [rfillNx_eq T pick e i (by omega)]
    cases hk : (T i).ok with
    | true => exact rfill_iter0 n (i + 1) (by omega)
    | false =>
      show iterS (rfillNx T pick e) (n + 1) ((i : Int), ((i + 1 : Nat) : Int)) = some (2, ((i : Int), ((i + 1 : Nat) : Int)))
      unfold iterS
      rw [rfillNx_out T pick e _ _ (by omega)]
      rfl
def rfillEnd (T : Tab) (r : Int) : Int × Int := bif iLt r 0 then rfillZ T 16 0 else (r, 0)
def rfillE1 (T : Tab) (r : Int) : Int := (rfillEnd T r).1
def rfillE2 (T : Tab) (r : Int) : Int := (rfillEnd T r).2
theorem rfill_iter (r : Int) (h : -1 ≤ r) : iterS (rfillNx T pick e) 17 (r, 0) = some (2, (rfillE1 T r, rfillE2 T r)) := by
  show iterS (rfillNx T pick e) 17 (r, 0) = some (2, rfillEnd T r)
  unfold rfillEnd
  cases h1 : iLt r 0 with
  | true =>
    have : r = -1 := by have := iLt_true.1 h1; omega
    subst this
    exact rfill_iter0 T pick e 16 0 (by omega)
  | false =>
    unfold iterS
    rw [rfillNx_out T pick e r 0 (iLt_false.1 h1)]
    rfl
def rfillI : Int × Int → Prop := fun ⟨r, i⟩ => -1 ≤ r ∧ r < 16 ∧ 0 ≤ i ∧ i ≤ 16
theorem rfill_turn (x : Int × Int) (h : rfillI x) : Turn Try.prog 2 (bodyOf Try.f18.body 0) (rfillL.F (rfillS T pick e x)) (rfillL.M (rfillS T pick e x)) (rfillNx T pick e x).1
    (rfillL.F (rfillS T pick e (rfillNx T pick e x).2)) (rfillL.M (rfillS T pick e (rfillNx T pick e x).2)) ∧ ((rfillNx T pick e x).1 = 0 → rfillI (rfillNx T pick e x).2) := by
  obtain ⟨r, i⟩ := x
  have hi : -1 ≤ r ∧ r < 16 ∧ 0 ≤ i ∧ i ≤ 16 := h
  refine ⟨turn_ok mix fair NPC_ok (HH_ok (tb := []) trivial) (OvOk_none _) (L := rfillL) rfl (rfillS_noGd _ _ _ _) (rfillRE T pick e r i) ?_ rfl, fun h0 => ?_⟩
  · unfold rfillRG
    cases h1 : iLt i 16 with
    | false => cases iLt r 0 <;> rfl
    | true =>
      rw [iIn_true.2 ⟨hi.2.2.1, iLt_true.1 h1⟩]
      cases iLt r 0 <;> cases (T i.toNat).ok <;> rfl
  · rcases Int.lt_or_le r 0 with h2 | h2
    · have : r = -1 := by omega
      subst this
      rcases Int.lt_or_le i 16 with h1 | h1
      · obtain ⟨n, rfl⟩ := Int.eq_ofNat_of_zero_le hi.2.2.1
        rw [rfillNx_eq T pick e n (by omega)]
        refine ⟨?_, ?_, by show (0 : Int) ≤ ((n + 1 : Nat) : Int); omega, by show ((n + 1 : Nat) : Int) ≤ 16; omega⟩
        · show -1 ≤ (bif !(T n).ok then (n : Int) else -1)
          cases (T n).ok
          · show (-1 : Int) ≤ n; omega
          · exact Int.le_refl _
        · show (bif !(T n).ok then (n : Int) else -1) < 16
          cases (T n).ok
          · show (n : Int) < 16; omega
          · show (-1 : Int) < 16; decide
      · have : i = 16 := by omega
        subst this
        rw [rfillNx_end] at h0
        cases h0
    · rw [rfillNx_out T pick e r i h2] at h0
      cases h0
end
def rfillShs : List Sh := [.ref, .int .i64, .ref, .int .i64, .int .i64, tlbSh, entSh]
def rfillGo (g : Nat → AV) (k : Kc) : Option Out :=
  let T := deT (g 5)
  let pick := (g 1).num
  let e := deA (g 6)
  bif isPt 0 tlbSh (g 0) && isPt 1 entSh (g 2) then bindC (some ((iLe (-1) (g 3).num && iLt (g 3).num 16) && iEq ((g 4).num) 0)) ((k .normal (rfillL.F (rfillS T pick e (rfillE1 T (g 3).num, rfillE2 T (g 3).num))) (rfillL.M (rfillS T pick e (rfillE1 T (g 3).num, rfillE2 T (g 3).num))))) else none
theorem rfillGo_ok : GoesN Try.prog 0 (.loop (bodyOf Try.f18.body 0)) rfillL rfillShs rfillGo := fun g k r h hr => by
  unfold rfillGo at h
  simp only at h
  cases hp : isPt 0 tlbSh (g 0) && isPt 1 entSh (g 2) with
  | false => rw [hp] at h; cases h
  | true =>
  rw [hp, cond_true] at h
  try simp only [Bool.and_eq_true] at hp
  obtain ⟨c1, h⟩ := bindC_ok h hr
  have hs : ((iLe (-1) (g 3).num && iLt (g 3).num 16) && iEq ((g 4).num) 0) = true := by
    rcases c1 with c1 | c1
    · cases c1
    · exact Option.some.inj c1
  simp only [Bool.and_eq_true, iEq_true, iLe_true, iLt_true] at hs
  have hst : norms rfillShs 0 g = rfillS (deT (g 5)) ((g 1).num) (deA (g 6)) ((g 3).num, 0) := by
    have : norms rfillShs 0 g = [g 0, .it .i64 ((g 1).num), g 2, .it .i64 (g 3).num, .it .i64 (g 4).num, tlbA (deT (g 5)), enA (deA (g 6))] := rfl
    rw [this, isPt_ok hp.1, isPt_ok hp.2, hs.2]
    rfl
  have hit := rfill_iter (deT (g 5)) ((g 1).num) (deA (g 6)) (g 3).num hs.1.1
  have run : ∀ (c : Int) (x : Int × Int) (e : Exit), iterS (rfillNx (deT (g 5)) ((g 1).num) (deA (g 6))) 17 ((g 3).num, 0) = some (c, x) → exNo e = some c →
      ∀ fr m, m.n = rfillL.n0 → Back rfillL.n0 fr m (rfillL.F (norms rfillShs 0 g)) (rfillL.M (norms rfillShs 0 g)) →
      Runs Try.prog (.block 0 (.loop (bodyOf Try.f18.body 0))) fr m (exBlock 0 e) (rfillL.F (rfillS (deT (g 5)) ((g 1).num) (deA (g 6)) x)) (rfillL.M (rfillS (deT (g 5)) ((g 1).num) (deA (g 6)) x)) := fun c x e h1 h2 fr m hm hb => by
    rw [hst] at hb
    exact loopS_block (rfill_turn _ _ _) hm hb (by exact ⟨hs.1.1, hs.1.2, by simp, by simp⟩) h1 h2
  exact ⟨_, _, _, h, rfillS_noGd _ _ _ _, run 2 _ (.exit 0) hit rfl⟩
def rfillOv : Ov := ovN 0 rfillL rfillShs rfillGo
theorem rfill_blk : ∀ c, Try.f18.body = some c → ∀ x ∈ blks c, x.1 = 0 → x.2 = .loop (bodyOf Try.f18.body 0) := fun c hc => by
  have e : blks c = [(0, .loop (bodyOf Try.f18.body 0)), (1, blkAt ((Try.f18.body).getD .skip) 1)] := by
    rw [show c = (Try.f18.body).getD .skip by rw [hc]; rfl]
    kernel_rfl
  rw [e]
  intro x hx h0
  simp only [List.mem_cons, List.not_mem_nil, or_false] at hx
  rcases hx with rfl | rfl <;> first | rfl | (cases h0; done)
theorem rfillOv_ok : ∀ c, Try.f18.body = some c → OvOk Try.prog rfillOv c := fun c hc => ovN_ok rfl rfillGo_ok (rfill_blk c hc)
theorem rfillP : Plain Try.prog 18 Try.f18 := ⟨Try.func18, of_decide_eq_true (by kernel_rfl)⟩
end
end Go.Proofs.Ytcmknfnnapnecaa.PV
