/-
  The program's look-up of a key: the first place that has it.
-/
import Derived.Test.YtcmknfnnapnecaaUb
set_option linter.unusedVariables false
set_option linter.unusedSimpArgs false
set_option maxRecDepth 100000
namespace Go.Proofs.Ytcmknfnnapnecaa.PV
noncomputable section
open Go Go.Ev

/-- The first of so many places from one on. -/
def firstF (p : Nat → Bool) : Nat → Nat → Int
  | 0, _ => -1
  | n + 1, i => bif p i then i else firstF p n (i + 1)
theorem firstF_in {p : Nat → Bool} : ∀ (n i : Nat), firstF p n i = -1 ∨ ((i : Int) ≤ firstF p n i ∧ firstF p n i < i + n)
  | 0, i => .inl rfl
  | n + 1, i => by
    unfold firstF
    cases p i with
    | true => right; simp; omega
    | false =>
      rw [cond_false]
      rcases firstF_in n (i + 1) with h | h
      · exact .inl h
      · right; omega
/-- Whether an entry is of a key. -/
def keyP (e : En) (page : Int) (v : Bool) (asid vmid : Int) : Bool :=
  bif e.ok then (iEq e.page page && (e.v == v && (iEq e.asid asid && iEq e.vmid vmid))) else false
def findF (T : Tab) (page : Int) (v : Bool) (asid vmid : Int) : Int := firstF (fun i => keyP (T i) page v asid vmid) 16 0
theorem findF_in (T : Tab) (page : Int) (v : Bool) (asid vmid : Int) : findF T page v asid vmid = -1 ∨ (0 ≤ findF T page v asid vmid ∧ findF T page v asid vmid < 16) := by
  have := firstF_in (p := fun i => keyP (T i) page v asid vmid) 16 0
  unfold findF
  omega

section
variable (T S : Tab) (page : Int) (v : Bool) (asid vmid : Int)
def findS (x : Int × Int) : List AV := [.pt 1 [] keySh, .it .i64 x.1, .arr 16 entSh fun j => enA (T j), .it .i64 x.2, tlbA S, keyA page v asid vmid]
def findNx (x : Int × Int) : Int × (Int × Int) := (findR0 T S page v asid vmid x.1 x.2, (findR1 T S page v asid vmid x.1 x.2, findR11 T S page v asid vmid x.1 x.2))

theorem findNx_eq (r : Int) (i : Nat) (hi : i < 16) : findNx T S page v asid vmid (r, (i : Int)) = bif keyP (T i) page v asid vmid then (1, ((i : Int), (i : Int))) else (0, (r, ((i + 1 : Nat) : Int))) := by
  have h1 : iLt (i : Int) 16 = true := iLt_true.2 (by omega)
  have h2 : iAdd IntKind.i64 (i : Int) 1 = ((i + 1 : Nat) : Int) := by rw [iAdd_i64 (by omega) (by omega)]; omega
  unfold findNx findR0 findR1 findR11 keyP
  simp only [h1, h2, cond_true, Int.toNat_natCast]
  cases (T i).ok <;> cases iEq (T i).page page <;> cases (T i).v == v <;> cases iEq (T i).asid asid <;> cases iEq (T i).vmid vmid <;> rfl

theorem findNx_end (r : Int) : findNx T S page v asid vmid (r, 16) = (2, (r, 16)) := rfl

theorem find_iter (r : Int) : ∀ (n i : Nat), i + n = 16 → iterS (findNx T S page v asid vmid) (n + 1) (r, (i : Int)) =
    some (bif iLe 0 (firstF (fun j => keyP (T j) page v asid vmid) n i) then (1, (firstF (fun j => keyP (T j) page v asid vmid) n i, firstF (fun j => keyP (T j) page v asid vmid) n i)) else (2, (r, 16)))
  | 0, i, h => by
    have : i = 16 := by omega
    subst this
    unfold iterS
    rw [show ((16 : Nat) : Int) = 16 from rfl, findNx_end]
    rfl
  | n + 1, i, h => by
    unfold iterS firstF
    rw [findNx_eq T S page v asid vmid r i (by omega)]
    cases hk : keyP (T i) page v asid vmid with
    | true =>
      rw [cond_true, cond_true, iLe_true.2 (show (0 : Int) ≤ i by omega)]
      rfl
    | false =>
      rw [cond_false, cond_false]
      exact find_iter r n (i + 1) (by omega)

def findI (x : Int × Int) : Prop := 0 ≤ x.2 ∧ x.2 ≤ 16
theorem find_turn (x : Int × Int) (h : findI x) : Turn Try.prog 2 (bodyOf Try.f35.body 0) (findL.F (findS T S page v asid vmid x)) (findL.M (findS T S page v asid vmid x)) (findNx T S page v asid vmid x).1
    (findL.F (findS T S page v asid vmid (findNx T S page v asid vmid x).2)) (findL.M (findS T S page v asid vmid (findNx T S page v asid vmid x).2)) ∧ ((findNx T S page v asid vmid x).1 = 0 → findI (findNx T S page v asid vmid x).2) := by
  obtain ⟨r, i⟩ := x
  have hi : 0 ≤ i ∧ i ≤ 16 := h
  refine ⟨turn_ok mix fair NPC_ok (HH_ok (tb := []) trivial) (OvOk_none _) (L := findL) rfl (Lq.noGd fun a ha => ?_) (findRE T S page v asid vmid r i) ?_ rfl, fun h0 => ?_⟩
  · simp only [findL, findS, List.length_cons, List.length_nil, List.take, List.mem_cons, List.not_mem_nil, or_false] at ha
    rcases ha with rfl | rfl | rfl | rfl <;> rfl
  · unfold findRG
    cases h1 : iLt i 16 with
    | false => rfl
    | true =>
      rw [iIn_true.2 ⟨hi.1, iLt_true.1 h1⟩]
      cases (T i.toNat).ok <;> simp
  · rcases Int.lt_or_le i 16 with h1 | h1
    · obtain ⟨n, rfl⟩ := Int.eq_ofNat_of_zero_le hi.1
      rw [findNx_eq T S page v asid vmid r n (by omega)] at h0 ⊢
      cases hk : keyP (T n) page v asid vmid with
      | true => rw [hk] at h0; cases h0
      | false => exact ⟨by show (0 : Int) ≤ ((n + 1 : Nat) : Int); omega, by show ((n + 1 : Nat) : Int) ≤ 16; omega⟩
    · have : i = 16 := by omega
      subst this
      rw [findNx_end] at h0
      cases h0
end

def findShs : List Sh := [.ref, .int .i64, .arr 16 entSh, .int .i64, tlbSh, keySh]
def isPt (id : Nat) (r : Sh) : AV → Bool
  | .pt i [] s => Nat.beq i id && s.beq r
  | _ => false
theorem isPt_ok {id : Nat} {r : Sh} {a : AV} (h : isPt id r a = true) : a = .pt id [] r := by
  unfold isPt at h
  split at h <;> try (cases h; done)
  simp only [Bool.and_eq_true, Nat.beq_eq] at h
  rw [h.1, Sh.beq_eq _ _ h.2]
def arT (a : AV) : Tab := fun i => deA (a.ix i)
def findGo (g : Nat → AV) (k : Kc) : Option Out :=
  let T := arT (g 2); let S := deT (g 4)
  let page := ((g 5).fld 0).num; let v := ((g 5).fld 1).bool; let asid := ((g 5).fld 2).num; let vmid := ((g 5).fld 3).num
  bif isPt 1 keySh (g 0) then bindC (some (iEq (g 3).num 0)) (brC (iLe 0 (findF T page v asid vmid))
    (k .ret (findL.F (findS T S page v asid vmid (findF T page v asid vmid, findF T page v asid vmid))) (findL.M (findS T S page v asid vmid (findF T page v asid vmid, findF T page v asid vmid))))
    (k .normal (findL.F (findS T S page v asid vmid ((g 1).num, 16))) (findL.M (findS T S page v asid vmid ((g 1).num, 16))))) else none

theorem findS_noGd (T S : Tab) (page : Int) (v : Bool) (asid vmid : Int) (x : Int × Int) : NoGd (findL.F (findS T S page v asid vmid x)) := Lq.noGd fun a ha => by
  simp only [findL, findS, List.length_cons, List.length_nil, List.take, List.mem_cons, List.not_mem_nil, or_false] at ha
  rcases ha with rfl | rfl | rfl | rfl <;> rfl

theorem findGo_ok : GoesN Try.prog 0 (.loop (bodyOf Try.f35.body 0)) findL findShs findGo := fun g k r h hr => by
  unfold findGo at h
  simp only at h
  cases hp : isPt 1 keySh (g 0) with
  | false => rw [hp] at h; cases h
  | true =>
  rw [hp, cond_true] at h
  obtain ⟨c1, h⟩ := bindC_ok h hr
  have hi : (g 3).num = 0 := by
    rcases c1 with c1 | c1
    · cases c1
    · exact iEq_true.1 (Option.some.inj c1)
  obtain ⟨q1, q2⟩ := brC_ok h hr
  have hst : norms findShs 0 g = findS (arT (g 2)) (deT (g 4)) ((g 5).fld 0).num ((g 5).fld 1).bool ((g 5).fld 2).num ((g 5).fld 3).num ((g 1).num, ((0 : Nat) : Int)) := by
    have : norms findShs 0 g = [g 0, .it .i64 (g 1).num, .arr 16 entSh fun j => enA (arT (g 2) j), .it .i64 (g 3).num, tlbA (deT (g 4)), keyA ((g 5).fld 0).num ((g 5).fld 1).bool ((g 5).fld 2).num ((g 5).fld 3).num] := rfl
    rw [this, isPt_ok hp, hi]
    rfl
  have hit := find_iter (arT (g 2)) (deT (g 4)) ((g 5).fld 0).num ((g 5).fld 1).bool ((g 5).fld 2).num ((g 5).fld 3).num (g 1).num 16 0 (by omega)
  have run : ∀ (c : Int) (x : Int × Int) (e : Exit), iterS (findNx (arT (g 2)) (deT (g 4)) ((g 5).fld 0).num ((g 5).fld 1).bool ((g 5).fld 2).num ((g 5).fld 3).num) 17 ((g 1).num, ((0 : Nat) : Int)) = some (c, x) → exNo e = some c →
      ∀ fr m, m.n = findL.n0 → Back findL.n0 fr m (findL.F (norms findShs 0 g)) (findL.M (norms findShs 0 g)) →
      Runs Try.prog (.block 0 (.loop (bodyOf Try.f35.body 0))) fr m (exBlock 0 e) (findL.F (findS (arT (g 2)) (deT (g 4)) ((g 5).fld 0).num ((g 5).fld 1).bool ((g 5).fld 2).num ((g 5).fld 3).num x))
        (findL.M (findS (arT (g 2)) (deT (g 4)) ((g 5).fld 0).num ((g 5).fld 1).bool ((g 5).fld 2).num ((g 5).fld 3).num x)) := fun c x e h1 h2 fr m hm hb => by
    rw [hst] at hb
    exact loopS_block (find_turn _ _ _ _ _ _) hm hb ⟨by simp, by simp⟩ h1 h2
  have hF : firstF (fun j => keyP (arT (g 2) j) ((g 5).fld 0).num ((g 5).fld 1).bool ((g 5).fld 2).num ((g 5).fld 3).num) 16 0 = findF (arT (g 2)) ((g 5).fld 0).num ((g 5).fld 1).bool ((g 5).fld 2).num ((g 5).fld 3).num := rfl
  rw [hF] at hit
  cases hc : iLe 0 (findF (arT (g 2)) ((g 5).fld 0).num ((g 5).fld 1).bool ((g 5).fld 2).num ((g 5).fld 3).num) with
  | true =>
    rw [hc, cond_true] at hit
    exact ⟨_, _, _, q1 hc, findS_noGd _ _ _ _ _ _ _, run 1 _ .ret hit rfl⟩
  | false =>
    rw [hc, cond_false] at hit
    exact ⟨_, _, _, q2 hc, findS_noGd _ _ _ _ _ _ _, run 2 _ (.exit 0) hit rfl⟩

def findOv : Ov := ovN 0 findL findShs findGo
theorem find_blk : ∀ c, Try.f35.body = some c → ∀ x ∈ blks c, x.1 = 0 → x.2 = .loop (bodyOf Try.f35.body 0) := fun c hc => by
  have e : blks c = [(0, .loop (bodyOf Try.f35.body 0)), (1, blkAt ((Try.f35.body).getD .skip) 1)] := by
    rw [show c = (Try.f35.body).getD .skip by rw [hc]; rfl]
    kernel_rfl
  rw [e]
  intro x hx h0
  rcases List.mem_cons.1 hx with rfl | hx
  · rfl
  · rcases List.mem_cons.1 hx with rfl | hx
    · cases h0
    · cases hx
theorem findOv_ok : ∀ c, Try.f35.body = some c → OvOk Try.prog findOv c := fun c hc => ovN_ok rfl findGo_ok (find_blk c hc)

theorem findE0 (T : Tab) (page : Int) (v : Bool) (asid vmid : Int) : evFn Try.prog okT NPC (HH []) RO findOv 101 false Try.f35 [.pt 0 [] tlbSh, keyA page v asid vmid] (mem1 (tlbA T)) (finQ L1) =
    some (Om.land (iEq 0 0) (Om.pick (iLe 0 (findF T page v asid vmid)) (true, .tup [.it .i64 0, .it .i64 (findF T page v asid vmid), tlbA T]) (true, .tup [.it .i64 0, .it .i64 (-1), tlbA T]))) := by kernel_rfl
theorem findE (T : Tab) (page : Int) (v : Bool) (asid vmid : Int) : evFn Try.prog okT NPC (HH []) RO findOv 101 false Try.f35 [.pt 0 [] tlbSh, keyA page v asid vmid] (mem1 (tlbA T)) (finQ L1) =
    some (true, .tup [.it .i64 0, .it .i64 (findF T page v asid vmid), tlbA T]) := by
  rw [findE0]
  cases h : iLe 0 (findF T page v asid vmid) with
  | true => rw [Om.pick_t]; rfl
  | false =>
    rw [Om.pick_f]
    have : findF T page v asid vmid = -1 := by
      rw [iLe_false] at h
      rcases findF_in T page v asid vmid with h1 | h1 <;> omega
    rw [this]
    rfl
theorem findP : Plain Try.prog 35 Try.f35 := ⟨Try.func35, of_decide_eq_true (by kernel_rfl)⟩
theorem find_small (T : Tab) (page : Int) (v : Bool) (asid vmid : Int) : Small Try.prog 35 [.pt 0 [] tlbSh, keyA page v asid vmid] (mem1 (tlbA T)) (.it .i64 (findF T page v asid vmid)) (mem1 (tlbA T)) :=
  small_ok mix fair NPC_ok (HH_ok (tb := []) trivial) findP findOv_ok (findE T page v asid vmid) rfl rfl rfl rfl rfl rfl
def findRow : MRow := rowB tlbSh [keySh] (fun g t => .it .i64 (findF (deT t) ((g 0).fld 0).num ((g 0).fld 1).bool ((g 0).fld 2).num ((g 0).fld 3).num)) (fun g t => tlbA (deT t))
theorem findRow_ok : MRowOk Try.prog 35 findRow := rowB_ok rfl rfl (fun _ _ => rfl) (fun _ _ => rfl) fun g t => find_small (deT t) ((g 0).fld 0).num ((g 0).fld 1).bool ((g 0).fld 2).num ((g 0).fld 3).num
end
end Go.Proofs.Ytcmknfnnapnecaa.PV
