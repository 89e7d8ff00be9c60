/-
  Contracts of Fill, Look and Drop, the program's and the document's.
-/
import Derived.Test.YtcmknfnnapnecaaUe
set_option linter.unusedVariables false
set_option linter.unusedSimpArgs false
set_option maxRecDepth 100000
namespace Go.Proofs.Ytcmknfnnapnecaa.PV
noncomputable section
open Go Go.Ev

/-- The place that a fill takes. -/
def slotF (T : Tab) (e : En) (pick : Int) : Int :=
  bif iLt (findF T e.page e.v e.asid e.vmid) 0 then bif iLt (freeF T) 0 then pick % 16 else freeF T else findF T e.page e.v e.asid e.vmid
def putF (T : Tab) (k : Nat) (e : En) : Tab := fun i => bif i == k then e else T i
def fillF (T : Tab) (e : En) (pick : Int) : Tab := bif e.ok then putF T (slotF T e pick).toNat e else T
theorem slotF_in (T : Tab) (e : En) (pick : Int) : 0 ≤ slotF T e pick ∧ slotF T e pick < 16 := by
  have h1 := findF_in T e.page e.v e.asid e.vmid
  have h2 := freeF_in T
  unfold slotF
  cases h3 : iLt (findF T e.page e.v e.asid e.vmid) 0 with
  | true =>
    cases h4 : iLt (freeF T) 0 with
    | true => show 0 ≤ pick % 16 ∧ pick % 16 < 16; omega
    | false => have := iLt_false.1 h4; show 0 ≤ freeF T ∧ freeF T < 16; omega
  | false => have := iLt_false.1 h3; show 0 ≤ findF T e.page e.v e.asid e.vmid ∧ findF T e.page e.v e.asid e.vmid < 16; omega
theorem pick_rem (p : Int) : iRem (iAdd IntKind.i64 (iRem p 16) 16) 16 = p % 16 := by
  have h1 : iRem p 16 = p.tmod 16 := rfl
  have h2 : -16 < p.tmod 16 ∧ p.tmod 16 < 16 ∧ (p.tmod 16 - p) % 16 = 0 := by
    have a := Int.lt_tmod_of_pos p (show (0 : Int) < 16 by decide)
    have b := Int.tmod_lt_of_pos p (show (0 : Int) < 16 by decide)
    have c := Int.mul_tdiv_add_tmod p 16
    refine ⟨a, b, ?_⟩
    omega
  rw [h1, iAdd_i64 (by omega) (by omega)]
  show (p.tmod 16 + 16).tmod 16 = p % 16
  rw [Int.tmod_eq_emod_of_nonneg (by omega)]
  omega
theorem pick_and (p : Int) : iAnd IntKind.i64 p 15 = p % 16 := by
  unfold iAnd
  have e : (BitVec.ofInt IntKind.i64.bits p &&& BitVec.ofInt IntKind.i64.bits 15).toNat = (p % 16).toNat := by
    show (BitVec.ofInt 64 p &&& BitVec.ofInt 64 15).toNat = _
    rw [BitVec.toNat_and, BitVec.toNat_ofInt, show (BitVec.ofInt 64 15).toNat = 2 ^ 4 - 1 from rfl, Nat.and_two_pow_sub_one_eq_mod]
    have : ((2 ^ 64 : Nat) : Int) = 18446744073709551616 := by decide
    rw [this]
    omega
  rw [e, wrapI (by omega) (by omega)]
  omega
theorem fillE1_eq (T : Tab) (r : Int) : fillE1 T r = bif iLt r 0 then freeF T else r := by
  unfold fillE1 fillEnd
  cases iLt r 0 with
  | true => exact fillZ_fst T 16 0
  | false => rfl
theorem rfillE1_eq (T : Tab) (r : Int) : rfillE1 T r = bif iLt r 0 then freeF T else r := by
  unfold rfillE1 rfillEnd
  cases iLt r 0 with
  | true => exact rfillZ_fst T 16 0
  | false => rfl
theorem slot_eq (T : Tab) (e : En) (pick : Int) (r : Int) (h : r = bif iLt (findF T e.page e.v e.asid e.vmid) 0 then freeF T else findF T e.page e.v e.asid e.vmid) : (bif iLt r 0 then pick % 16 else r) = slotF T e pick := by
  unfold slotF
  cases h3 : iLt (findF T e.page e.v e.asid e.vmid) 0 with
  | true => rw [h3] at h; rw [h]; rfl
  | false => rw [h3] at h; rw [h, cond_false, cond_false, h3]; rfl

theorem tab_cond (c : Bool) (T : Tab) (k : Nat) (e : En) (i : Nat) : enA (bif i == k then e else T i) = .agg [.bl (bif i == k then e.ok else (T i).ok), .bl (bif i == k then e.v else (T i).v), .it .i64 (bif i == k then e.page else (T i).page), .it .i64 (bif i == k then e.asid else (T i).asid),
    .it .i64 (bif i == k then e.vmid else (T i).vmid), .it .i64 (bif i == k then e.frame else (T i).frame), .it .i64 (bif i == k then e.bits else (T i).bits), .it .i64 (bif i == k then e.host else (T i).host), .it .i64 (bif i == k then e.guest else (T i).guest)] := by
  cases i == k <;> rfl
theorem tlb_put (T : Tab) (k : Nat) (e : En) : tlbA (putF T k e) = .agg [.arr 16 entSh fun i => .agg [.bl (bif i == k then e.ok else (T i).ok), .bl (bif i == k then e.v else (T i).v), .it .i64 (bif i == k then e.page else (T i).page), .it .i64 (bif i == k then e.asid else (T i).asid),
    .it .i64 (bif i == k then e.vmid else (T i).vmid), .it .i64 (bif i == k then e.frame else (T i).frame), .it .i64 (bif i == k then e.bits else (T i).bits), .it .i64 (bif i == k then e.host else (T i).host), .it .i64 (bif i == k then e.guest else (T i).guest)]] := by
  unfold tlbA
  rw [show (fun i => enA (putF T k e i)) = _ from funext fun i => tab_cond true T k e i]

theorem fill_val (T : Tab) (e : En) (pick : Int) : fillVV T e pick = .tup [.it .i64 0, .tup [], tlbA (fillF T e pick)] := by
  have hs := slot_eq T e pick _ (fillE1_eq T (findF T e.page e.v e.asid e.vmid))
  unfold fillVV fillV1 fillV2 fillV3 fillV4 fillV5 fillV6 fillV7 fillV8 fillV9 fillF
  rw [pick_rem]
  rcases Bool.eq_false_or_eq_true e.ok with h | h
  · rw [show (bif e.ok then putF T (slotF T e pick).toNat e else T) = putF T (slotF T e pick).toNat e by rw [h]; rfl, tlb_put, ← hs, h]
    cases iLt (fillE1 T (findF T e.page e.v e.asid e.vmid)) 0 <;> rfl
  · rw [show (bif e.ok then putF T (slotF T e pick).toNat e else T) = T by rw [h]; rfl, h]
    rfl
theorem rfill_val (T : Tab) (e : En) (pick : Int) : rfillVV T e pick = .tup [.it .i64 0, .tup [], tlbA (fillF T e pick)] := by
  have hs := slot_eq T e pick _ (rfillE1_eq T (findF T e.page e.v e.asid e.vmid))
  unfold rfillVV rfillV1 rfillV2 rfillV3 rfillV4 rfillV5 rfillV6 rfillV7 rfillV8 rfillV9 fillF
  rw [pick_and]
  rcases Bool.eq_false_or_eq_true e.ok with h | h
  · rw [show (bif e.ok then putF T (slotF T e pick).toNat e else T) = putF T (slotF T e pick).toNat e by rw [h]; rfl, tlb_put, ← hs, h]
    cases iLt (rfillE1 T (findF T e.page e.v e.asid e.vmid)) 0 <;> rfl
  · rw [show (bif e.ok then putF T (slotF T e pick).toNat e else T) = T by rw [h]; rfl, h]
    rfl
theorem fillE1_in (T : Tab) (r : Int) (h : r < 16) (h2 : iLt (fillE1 T r) 0 = false) : 0 ≤ fillE1 T r ∧ fillE1 T r < 16 := by
  have h1 := iLt_false.1 h2
  refine ⟨h1, ?_⟩
  rw [fillE1_eq] at h1 ⊢
  have h3 := freeF_in T
  cases hr : iLt r 0 with
  | true => rw [cond_true]; omega
  | false => rw [cond_false]; exact h
theorem rfillE1_in (T : Tab) (r : Int) (h : r < 16) (h2 : iLt (rfillE1 T r) 0 = false) : 0 ≤ rfillE1 T r ∧ rfillE1 T r < 16 := by
  have h1 := iLt_false.1 h2
  refine ⟨h1, ?_⟩
  rw [rfillE1_eq] at h1 ⊢
  have h3 := freeF_in T
  cases hr : iLt r 0 with
  | true => rw [cond_true]; omega
  | false => rw [cond_false]; exact h
theorem fill_g (T : Tab) (e : En) (pick : Int) : fillVG T e pick = true := by
  have h1 := findF_in T e.page e.v e.asid e.vmid
  unfold fillVG
  cases e.ok with
  | false => rfl
  | true =>
    rw [pick_rem, iLe_true.2 (show -1 ≤ findF T e.page e.v e.asid e.vmid by omega), iLt_true.2 (show findF T e.page e.v e.asid e.vmid < 16 by omega), iIn_true.2 (show 0 ≤ pick % 16 ∧ pick % 16 < (16 : Nat) by omega)]
    cases hc : iLt (fillE1 T (findF T e.page e.v e.asid e.vmid)) 0 with
    | true => rfl
    | false => rw [iIn_true.2 (fillE1_in T _ (by omega) hc)]; rfl
theorem rfill_g (T : Tab) (e : En) (pick : Int) : rfillVG T e pick = true := by
  have h1 := findF_in T e.page e.v e.asid e.vmid
  unfold rfillVG
  cases e.ok with
  | false => rfl
  | true =>
    rw [pick_and, iLe_true.2 (show -1 ≤ findF T e.page e.v e.asid e.vmid by omega), iLt_true.2 (show findF T e.page e.v e.asid e.vmid < 16 by omega), iIn_true.2 (show 0 ≤ pick % 16 ∧ pick % 16 < (16 : Nat) by omega)]
    cases hc : iLt (rfillE1 T (findF T e.page e.v e.asid e.vmid)) 0 with
    | true => rfl
    | false => rw [iIn_true.2 (rfillE1_in T _ (by omega) hc)]; rfl
theorem fill_small (T : Tab) (e : En) (pick : Int) : Small Try.prog 12 [.pt 0 [] tlbSh, enA e, .it .i64 pick] (mem1 (tlbA T)) (.tup []) (mem1 (tlbA (fillF T e pick))) :=
  small_ok mix fair NPC_ok (HH_ok MT1_ok) fillP fillOv_ok ((fillVE T e pick).trans (by rw [fill_val, fill_g])) rfl rfl rfl rfl rfl rfl
theorem rfill_small (T : Tab) (e : En) (pick : Int) : Small Try.prog 18 [.pt 0 [] tlbSh, enA e, .it .i64 pick] (mem1 (tlbA T)) (.tup []) (mem1 (tlbA (fillF T e pick))) :=
  small_ok mix fair NPC_ok (HH_ok MT1_ok) rfillP rfillOv_ok ((rfillVE T e pick).trans (by rw [rfill_val, rfill_g])) rfl rfl rfl rfl rfl rfl
def fillRow : MRow := rowB tlbSh [entSh, .int .i64] (fun _ _ => .tup []) (fun g t => tlbA (fillF (deT t) (deA (g 0)) (g 1).num))
theorem fillRow_ok : MRowOk Try.prog 12 fillRow := rowB_ok rfl rfl (fun _ _ => rfl) (fun _ _ => rfl) fun g t => fill_small (deT t) (deA (g 0)) (g 1).num
theorem rfillRow_ok : MRowOk Try.prog 18 fillRow := rowB_ok rfl rfl (fun _ _ => rfl) (fun _ _ => rfl) fun g t => rfill_small (deT t) (deA (g 0)) (g 1).num

/- Look. -/
def lookF (T : Tab) (page : Int) (v : Bool) (asid vmid : Int) : En := bif iLt (findF T page v asid vmid) 0 then noEn else T (findF T page v asid vmid).toNat
def hasF (T : Tab) (page : Int) (v : Bool) (asid vmid : Int) : Bool := iLe 0 (findF T page v asid vmid)
theorem look_val (T : Tab) (page : Int) (v : Bool) (asid vmid : Int) : lookVV T page v asid vmid = .tup [.it .i64 0, .tup [enA (lookF T page v asid vmid), .bl (hasF T page v asid vmid)], tlbA T] := by
  have h : hasF T page v asid vmid = !iLt (findF T page v asid vmid) 0 := by unfold hasF; rw [iLt_not, Bool.not_not]
  unfold lookVV lookV1 lookV2 lookV3 lookV4 lookV5 lookV6 lookV7 lookV8 lookV9 lookV10 lookF
  rw [h]
  cases iLt (findF T page v asid vmid) 0 <;> rfl
theorem rlook_val (T : Tab) (page : Int) (v : Bool) (asid vmid : Int) : rlookVV T page v asid vmid = .tup [.it .i64 0, .tup [enA (lookF T page v asid vmid), .bl (hasF T page v asid vmid)], tlbA T] := by
  have h : hasF T page v asid vmid = !iLt (findF T page v asid vmid) 0 := by unfold hasF; rw [iLt_not, Bool.not_not]
  unfold rlookVV rlookV1 rlookV2 rlookV3 rlookV4 rlookV5 rlookV6 rlookV7 rlookV8 rlookV9 rlookV10 lookF
  rw [h]
  cases iLt (findF T page v asid vmid) 0 <;> rfl
theorem look_g (T : Tab) (page : Int) (v : Bool) (asid vmid : Int) : lookVG T page v asid vmid = true := by
  have h1 := findF_in T page v asid vmid
  unfold lookVG
  cases hc : iLt (findF T page v asid vmid) 0 with
  | true => rfl
  | false => rw [iIn_true.2 (show 0 ≤ findF T page v asid vmid ∧ findF T page v asid vmid < (16 : Nat) by have := iLt_false.1 hc; omega)]; rfl
theorem rlook_g (T : Tab) (page : Int) (v : Bool) (asid vmid : Int) : rlookVG T page v asid vmid = true := look_g T page v asid vmid
theorem look_small (T : Tab) (page : Int) (v : Bool) (asid vmid : Int) : Small Try.prog 13 [.pt 0 [] tlbSh, .it .i64 page, .bl v, .it .i64 asid, .it .i64 vmid] (mem1 (tlbA T)) (.tup [enA (lookF T page v asid vmid), .bl (hasF T page v asid vmid)]) (mem1 (tlbA T)) :=
  small_ok mix fair NPC_ok (HH_ok MT1_ok) (f := 13) ⟨Try.func13, of_decide_eq_true (by kernel_rfl)⟩ (fun c _ => OvOk_none c) ((lookVE T page v asid vmid).trans (by rw [look_val, look_g])) rfl rfl rfl rfl rfl rfl
theorem rlook_small (T : Tab) (page : Int) (v : Bool) (asid vmid : Int) : Small Try.prog 21 [.pt 0 [] tlbSh, .it .i64 page, .bl v, .it .i64 asid, .it .i64 vmid] (mem1 (tlbA T)) (.tup [enA (lookF T page v asid vmid), .bl (hasF T page v asid vmid)]) (mem1 (tlbA T)) :=
  small_ok mix fair NPC_ok (HH_ok MT1_ok) (f := 21) ⟨Try.func21, of_decide_eq_true (by kernel_rfl)⟩ (fun c _ => OvOk_none c) ((rlookVE T page v asid vmid).trans (by rw [rlook_val, rlook_g])) rfl rfl rfl rfl rfl rfl
def lookRow : MRow := rowB tlbSh [.int .i64, .bool, .int .i64, .int .i64] (fun g t => .tup [enA (lookF (deT t) (g 0).num (g 1).bool (g 2).num (g 3).num), .bl (hasF (deT t) (g 0).num (g 1).bool (g 2).num (g 3).num)]) (fun g t => tlbA (deT t))
theorem lookRow_ok : MRowOk Try.prog 13 lookRow := rowB_ok rfl rfl (fun _ _ => rfl) (fun _ _ => rfl) fun g t => look_small (deT t) (g 0).num (g 1).bool (g 2).num (g 3).num
theorem rlookRow_ok : MRowOk Try.prog 21 lookRow := rowB_ok rfl rfl (fun _ _ => rfl) (fun _ _ => rfl) fun g t => rlook_small (deT t) (g 0).num (g 1).bool (g 2).num (g 3).num

/- Drop. -/
def sameE (a b : En) : Bool := a.ok == b.ok && (a.v == b.v && (iEq a.page b.page && (iEq a.asid b.asid && (iEq a.vmid b.vmid && (iEq a.frame b.frame && (iEq a.bits b.bits && (iEq a.host b.host && iEq a.guest b.guest)))))))
def dropB (T : Tab) (e : En) : Bool := bif bif e.ok then iLe 0 (findF T e.page e.v e.asid e.vmid) else false then sameE (T (findF T e.page e.v e.asid e.vmid).toNat) e else false
def dropF (T : Tab) (e : En) : Tab := bif dropB T e then putF T (findF T e.page e.v e.asid e.vmid).toNat noEn else T
theorem drop_val (T : Tab) (e : En) : dropVV T e = .tup [.it .i64 0, .bl (dropB T e), tlbA (dropF T e)] := by
  have h1 : dropV_c1 T e = dropB T e := by
    unfold dropB dropV_c1 sameE
    cases e.ok <;> cases iLe 0 (findF T e.page e.v e.asid e.vmid) <;> simp
  unfold dropVV dropV1 dropV2 dropV3 dropV4 dropV5 dropV6 dropV7 dropV8 dropV9 dropV10 dropF
  rw [h1]
  cases dropB T e with
  | false => rfl
  | true => rw [cond_true, tlb_put]; rfl
theorem drop_g (T : Tab) (e : En) : dropVG T e = true := by
  have h1 := findF_in T e.page e.v e.asid e.vmid
  unfold dropVG
  have h0 : dropV_c0 T e = true → 0 ≤ findF T e.page e.v e.asid e.vmid := by
    unfold dropV_c0
    cases hc : iLe 0 (findF T e.page e.v e.asid e.vmid) with
    | true => exact fun _ => iLe_true.1 hc
    | false => intro h; cases e.ok <;> rw [hc] at * <;> simp at h
  cases hc : iLe 0 (findF T e.page e.v e.asid e.vmid) with
  | true =>
    have := iLe_true.1 hc
    rw [iIn_true.2 (show 0 ≤ findF T e.page e.v e.asid e.vmid ∧ findF T e.page e.v e.asid e.vmid < (16 : Nat) by omega)]
    cases e.ok <;> cases dropV_c0 T e <;> rfl
  | false =>
    cases hd : dropV_c0 T e with
    | true => have := h0 hd; have := iLe_false.1 hc; omega
    | false => cases e.ok <;> rfl
theorem drop_small (T : Tab) (e : En) : Small Try.prog 15 [.pt 0 [] tlbSh, enA e] (mem1 (tlbA T)) (.bl (dropB T e)) (mem1 (tlbA (dropF T e))) :=
  small_ok mix fair NPC_ok (HH_ok MT1_ok) (f := 15) ⟨Try.func15, of_decide_eq_true (by kernel_rfl)⟩ (fun c _ => OvOk_none c) ((dropVE T e).trans (by rw [drop_val, drop_g])) rfl rfl rfl rfl rfl rfl
def dropRow : MRow := rowB tlbSh [entSh] (fun g t => .bl (dropB (deT t) (deA (g 0)))) (fun g t => tlbA (dropF (deT t) (deA (g 0))))
theorem dropRow_ok : MRowOk Try.prog 15 dropRow := rowB_ok rfl rfl (fun _ _ => rfl) (fun _ _ => rfl) fun g t => drop_small (deT t) (deA (g 0))
end
end Go.Proofs.Ytcmknfnnapnecaa.PV
