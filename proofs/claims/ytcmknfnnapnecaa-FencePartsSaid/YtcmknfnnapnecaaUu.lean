/-
  TlbOne: the loops' meaning; the law.
-/
import Derived.Test.YtcmknfnnapnecaaUt
set_option linter.unusedVariables false
set_option linter.unusedSimpArgs false
set_option maxRecDepth 100000
namespace Go.Proofs.Ytcmknfnnapnecaa.PV
noncomputable section
open Go Go.Ev

theorem okHs : HSound Try.prog (HH2 (MTs ops) (MTq2 ops)) := HH2_ok MTs_ok MTq2_ok
theorem turnS {ov : Ov} {b : Code} (hov : OvOk Try.prog ov b) {L : Lq} (hL : L.wf = true) {K : Kc} (hK : Part L K) {fr : Fr} {m : Mem} (hg0 : NoGd fr) {c : Int} {r : List AV} {g : Bool}
    (he : evC Try.prog okT NPC (HH2 (MTs ops) (MTq2 ops)) RW ov 101 false b fr m K = some (g, .tup (.it .i64 c :: r))) (hg : g = true) (hr : L.ok r = true) : Turn Try.prog L.n0 b fr m c (L.F r) (L.M r) :=
  turnK_ok mix fair NPC_ok okHs hov hL hK hg0 he hg hr
theorem iAdd_b (j : Nat) (h : j < 1000000000000) : iAdd .i64 (j : Int) 1 = ((j + 1 : Nat) : Int) := by
  rw [iAdd_i64 (by omega) (by omega)]; omega

def onTs (pg pk : Nat → Int) (T : Tab) : Nat → Tab
  | 0 => T
  | i + 1 => onT ops pg pk (onTs pg pk T i) (i : Nat)
def onNo (E : Tab) (k : Int) : Bool := iLt k 1000000 && upTo (fun j => !(iEq (E k.toNat).page (E j).page && iEq (E k.toNat).asid (E j).asid)) k.toNat
def onCk (E : Tab) (N : Nat) : Bool := upTo (fun k => onNo E (k : Nat)) N
def onGd (m : Nat) (pg pk : Nat → Int) (T : Tab) (i : Nat) : Bool :=
  iIn (i : Nat) m && (!Nat.beq (allN (onT ops pg pk T (i : Nat))) 0 && ((onHs ops pg pk T (i : Nat) && (onLk ops pg pk T (i : Nat) && !iLt 16 (allN (onT ops pg pk T (i : Nat))))) && onCk (allE (onT ops pg pk T (i : Nat))) (allN (onT ops pg pk T (i : Nat)))))
def onW : OnW := ⟨onNo, fun E N => Nat.blt N 1000000 && onCk E N, fun n m pg pk T => Nat.blt n 1000000 && upTo (fun i => onGd m pg pk (onTs pg pk T i) i) n, fun n pg pk T => onTs pg pk T n⟩

theorem onW_no : onW.no = onNo := rfl
theorem on_b2 : blks (bodyOf Try.f3.body 2) = [(3, blkAt ((Try.f3.body).getD .skip) 3), (4, .loop (bodyOf Try.f3.body 4)), (5, blkAt ((Try.f3.body).getD .skip) 5)] := by kernel_rfl
theorem on_b0 : blks (bodyOf Try.f3.body 0) = (1, blkAt ((Try.f3.body).getD .skip) 1) :: (2, .loop (bodyOf Try.f3.body 2)) :: blks (bodyOf Try.f3.body 2) := by kernel_rfl
theorem on_b : blks ((Try.f3.body).getD .skip) = (0, .loop (bodyOf Try.f3.body 0)) :: blks (bodyOf Try.f3.body 0) := by kernel_rfl

theorem on4Go_ok : GoesT Try.prog 4 (.loop (bodyOf Try.f3.body 4)) on4L on4Ts (on4Go onW) := goT_ok fun g h1 h2 => by
  simp only [Bool.and_eq_true] at h1 h2
  obtain ⟨c0, c1, c2, c4⟩ := h1
  obtain ⟨hj, hk, hno⟩ := h2
  refine ⟨noGd_all (L := on4L) rfl, fun fr m hm hb => ?_⟩
  obtain ⟨k0, k1⟩ := iIn_true.1 hk
  have hst : norms (tmS g on4Ts 0) 0 g = on4S (lenS (g 0)) (lenA (g 7)) (lenS (g 1)) (lenA (g 8)) (lenS (g 4)) (lenA (g 10)) (nuA (g 7)) (nuA (g 8)) (deT (g 9)) (arT (g 10)) (g 3).num (g 5).num 0 := by
    have : norms (tmS g on4Ts 0) 0 g = [g 0, g 1, g 2, .it .i64 (g 3).num, g 4, .it .i64 (g 5).num, .it .i64 (g 6).num, u8A (lenA (g 7)) (nuA (g 7)), u8A (lenA (g 8)) (nuA (g 8)), tlbA (deT (g 9)), elA (lenA (g 10)) (arT (g 10))] := rfl
    rw [this, iEq_true.1 hj, isPt_ok c2]
    unfold on4S
    rw [← isSlq_ok c0, ← isSlq_ok c1, ← isSlq_ok c4]
  rw [hst] at hb
  obtain ⟨K, hK⟩ := Int.eq_ofNat_of_zero_le k0
  rw [hK] at hb hno k1 ⊢
  have hKN : K < lenS (g 4) := by omega
  rw [onW_no] at hno
  unfold onNo at hno
  rw [Bool.and_eq_true] at hno
  have hKb := iLt_true.1 hno.1
  replace hno := hno.2
  refine loopJ_block (F := fun j => on4L.F (on4S (lenS (g 0)) (lenA (g 7)) (lenS (g 1)) (lenA (g 8)) (lenS (g 4)) (lenA (g 10)) (nuA (g 7)) (nuA (g 8)) (deT (g 9)) (arT (g 10)) (g 3).num K (j : Nat)))
    (M := fun j => on4L.M (on4S (lenS (g 0)) (lenA (g 7)) (lenS (g 1)) (lenA (g 8)) (lenS (g 4)) (lenA (g 10)) (nuA (g 7)) (nuA (g 8)) (deT (g 9)) (arT (g 10)) (g 3).num K (j : Nat))) (n := K) (c := 6) (fun j hj => ?_) ?_ (by decide) hm hb (e := .exit 4) rfl
  · have hE := onA ops (lenS (g 0)) (lenA (g 7)) (lenS (g 1)) (lenA (g 8)) (lenS (g 4)) (lenA (g 10)) (nuA (g 7)) (nuA (g 8)) (deT (g 9)) (arT (g 10)) (g 3).num K ((j : Nat) : Int)
    have hn := upTo_at (f := fun j => !(iEq (arT (g 10) ((K : Nat) : Int).toNat).page (arT (g 10) j).page && iEq (arT (g 10) ((K : Nat) : Int).toNat).asid (arT (g 10) j).asid)) hno j (by rw [Int.toNat_natCast]; exact hj)
    rw [iAdd_i64 (by omega) (by omega), show (j : Int) + 1 = ((j + 1 : Nat) : Int) by omega] at hE
    refine turnS (OvOk_none _) (L := on4L) rfl (grabJ_part 0 (Part.refl _)) (noGd_all (L := on4L) rfl) hE ?_ rfl
    simp only [Bool.not_eq_true', Bool.and_eq_false_iff] at hn
    rw [iLt_true.2 (show (j : Int) < K by omega), iIn_true.2 (show 0 ≤ (K : Int) ∧ (K : Int) < (lenS (g 4) : Nat) by omega), iIn_true.2 (show 0 ≤ (j : Int) ∧ (j : Int) < (lenS (g 4) : Nat) by omega)]
    simp only [Int.toNat_natCast, Nat.add_zero, Bool.or_true, Bool.true_and, Bool.and_true] at hn ⊢
    rcases hn with hn | hn
    · rw [hn]; rfl
    · rw [hn]; cases iEq (arT (g 10) K).page (arT (g 10) j).page <;> rfl
  · have hE := onAx ops (lenS (g 0)) (lenA (g 7)) (lenS (g 1)) (lenA (g 8)) (lenS (g 4)) (lenA (g 10)) (nuA (g 7)) (nuA (g 8)) (deT (g 9)) (arT (g 10)) (g 3).num K ((K : Nat) : Int)
    exact turnS (OvOk_none _) (L := on4L) rfl (grabJ_part 6 (Part.refl _)) (noGd_all (L := on4L) rfl) hE (by rw [iLt_false.2 (Int.le_refl _)]; rfl) rfl
theorem on4Ov_ok : OvOk Try.prog (ovT 4 on4L on4Ts (on4Go onW)) (bodyOf Try.f3.body 2) := ovT_ok rfl on4Go_ok fun x hx h => by
  rw [on_b2] at hx
  simp only [List.mem_cons, List.not_mem_nil, or_false] at hx
  rcases hx with rfl | rfl | rfl <;> first | rfl | (cases h; done)
theorem on2Go_ok : GoesT Try.prog 2 (.loop (bodyOf Try.f3.body 2)) on2L on2Ts (on2Go onW) := goT_ok fun g h1 h2 => by
  simp only [Bool.and_eq_true] at h1 h2
  obtain ⟨c0, c1, c2, c4⟩ := h1
  obtain ⟨hk, hck⟩ := h2
  refine ⟨noGd_all (L := on2L) rfl, fun fr m hm hb => ?_⟩
  have hst : norms (tmS g on2Ts 0) 0 g = on2S (lenS (g 0)) (lenA (g 6)) (lenS (g 1)) (lenA (g 7)) (lenS (g 4)) (lenA (g 9)) (nuA (g 6)) (nuA (g 7)) (deT (g 8)) (arT (g 9)) (g 3).num 0 := by
    have : norms (tmS g on2Ts 0) 0 g = [g 0, g 1, g 2, .it .i64 (g 3).num, g 4, .it .i64 (g 5).num, u8A (lenA (g 6)) (nuA (g 6)), u8A (lenA (g 7)) (nuA (g 7)), tlbA (deT (g 8)), elA (lenA (g 9)) (arT (g 9))] := rfl
    rw [this, iEq_true.1 hk, isPt_ok c2]
    unfold on2S
    rw [← isSlq_ok c0, ← isSlq_ok c1, ← isSlq_ok c4]
  rw [hst] at hb
  have hck : (Nat.blt (lenS (g 4)) 1000000 && onCk (arT (g 9)) (lenS (g 4))) = true := hck
  simp only [Bool.and_eq_true, Nat.blt_eq] at hck
  obtain ⟨hN, hck⟩ := hck
  refine loopJ_block (F := fun j => on2L.F (on2S (lenS (g 0)) (lenA (g 6)) (lenS (g 1)) (lenA (g 7)) (lenS (g 4)) (lenA (g 9)) (nuA (g 6)) (nuA (g 7)) (deT (g 8)) (arT (g 9)) (g 3).num (j : Nat)))
    (M := fun j => on2L.M (on2S (lenS (g 0)) (lenA (g 6)) (lenS (g 1)) (lenA (g 7)) (lenS (g 4)) (lenA (g 9)) (nuA (g 6)) (nuA (g 7)) (deT (g 8)) (arT (g 9)) (g 3).num (j : Nat))) (n := lenS (g 4)) (c := 4) (fun j hj => ?_) ?_ (by decide) hm hb (e := .exit 2) rfl
  · have hE := onB ops onW (lenS (g 0)) (lenA (g 6)) (lenS (g 1)) (lenA (g 7)) (lenS (g 4)) (lenA (g 9)) (nuA (g 6)) (nuA (g 7)) (deT (g 8)) (arT (g 9)) (g 3).num ((j : Nat) : Int)
    have hn := upTo_at (f := fun k => onNo (arT (g 9)) (k : Nat)) hck j hj
    rw [iAdd_b j (by omega)] at hE
    refine turnS on4Ov_ok (L := on2L) rfl (grabJ_part 0 (Part.refl _)) (noGd_all (L := on2L) rfl) hE ?_ rfl
    rw [iLt_true.2 (show (j : Int) < (lenS (g 4) : Nat) by omega), iIn_true.2 (show 0 ≤ (j : Int) ∧ (j : Int) < (lenS (g 4) : Nat) by omega), onW_no, hn]
    rfl
  · have hE := onBx ops onW (lenS (g 0)) (lenA (g 6)) (lenS (g 1)) (lenA (g 7)) (lenS (g 4)) (lenA (g 9)) (nuA (g 6)) (nuA (g 7)) (deT (g 8)) (arT (g 9)) (g 3).num ((lenS (g 4) : Nat) : Int)
    exact turnS on4Ov_ok (L := on2L) rfl (grabJ_part 4 (Part.refl _)) (noGd_all (L := on2L) rfl) hE (by rw [iLt_false.2 (Int.le_refl _)]; rfl) rfl
theorem on2Ov_ok : OvOk Try.prog (ovT 2 on2L on2Ts (on2Go onW)) (bodyOf Try.f3.body 0) := ovT_ok rfl on2Go_ok fun x hx h => by
  rw [on_b0, on_b2] at hx
  simp only [List.mem_cons, List.not_mem_nil, or_false] at hx
  rcases hx with rfl | rfl | rfl | rfl | rfl <;> first | rfl | (cases h; done)
theorem on0Go_ok : GoesT Try.prog 0 (.loop (bodyOf Try.f3.body 0)) on0L on0Ts (on0Go onW) := goT_ok fun g h1 h2 => by
  simp only [Bool.and_eq_true] at h1 h2
  obtain ⟨c0, c1, c2⟩ := h1
  obtain ⟨hk, hck⟩ := h2
  refine ⟨noGd_all (L := on0L) rfl, fun fr m hm hb => ?_⟩
  have hst : norms (tmS g on0Ts 0) 0 g = on0S (lenS (g 0)) (lenA (g 4)) (lenS (g 1)) (lenA (g 5)) (nuA (g 4)) (nuA (g 5)) (deT (g 6)) 0 := by
    have : norms (tmS g on0Ts 0) 0 g = [g 0, g 1, g 2, .it .i64 (g 3).num, u8A (lenA (g 4)) (nuA (g 4)), u8A (lenA (g 5)) (nuA (g 5)), tlbA (deT (g 6))] := rfl
    rw [this, iEq_true.1 hk, isPt_ok c2]
    unfold on0S
    rw [← isSlq_ok c0, ← isSlq_ok c1]
  rw [hst] at hb
  have hck : (Nat.blt (lenS (g 0)) 1000000 && upTo (fun i => onGd (lenS (g 1)) (nuA (g 4)) (nuA (g 5)) (onTs (nuA (g 4)) (nuA (g 5)) (deT (g 6)) i) i) (lenS (g 0))) = true := hck
  simp only [Bool.and_eq_true, Nat.blt_eq] at hck
  obtain ⟨hN, hck⟩ := hck
  refine loopJ_block (F := fun j => on0L.F (on0S (lenS (g 0)) (lenA (g 4)) (lenS (g 1)) (lenA (g 5)) (nuA (g 4)) (nuA (g 5)) (onTs (nuA (g 4)) (nuA (g 5)) (deT (g 6)) j) (j : Nat)))
    (M := fun j => on0L.M (on0S (lenS (g 0)) (lenA (g 4)) (lenS (g 1)) (lenA (g 5)) (nuA (g 4)) (nuA (g 5)) (onTs (nuA (g 4)) (nuA (g 5)) (deT (g 6)) j) (j : Nat))) (n := lenS (g 0)) (c := 2) (fun j hj => ?_) ?_ (by decide) hm hb (e := .exit 0) rfl
  · have hE := onC ops onW (lenS (g 0)) (lenA (g 4)) (lenS (g 1)) (lenA (g 5)) (nuA (g 4)) (nuA (g 5)) (onTs (nuA (g 4)) (nuA (g 5)) (deT (g 6)) j) ((j : Nat) : Int)
    have hn := upTo_at (f := fun i => onGd (lenS (g 1)) (nuA (g 4)) (nuA (g 5)) (onTs (nuA (g 4)) (nuA (g 5)) (deT (g 6)) i) i) hck j hj
    unfold onGd at hn
    simp only [Bool.and_eq_true, Bool.not_eq_true'] at hn
    obtain ⟨q1, q2, ⟨q3, q4, q5⟩, q6⟩ := hn
    rw [iAdd_b j (by omega)] at hE
    refine turnS on2Ov_ok (L := on0L) rfl (grabJ_part 0 (Part.refl _)) (noGd_all (L := on0L) rfl) hE ?_ rfl
    have hb6 : onW.ck (ops.el (onT ops (nuA (g 4)) (nuA (g 5)) (onTs (nuA (g 4)) (nuA (g 5)) (deT (g 6)) j) (j : Int))) (ops.n (onT ops (nuA (g 4)) (nuA (g 5)) (onTs (nuA (g 4)) (nuA (g 5)) (deT (g 6)) j) (j : Int))) = true := by
      show (Nat.blt _ 1000000 && onCk _ _) = true
      rw [Bool.and_eq_true]
      refine ⟨?_, q6⟩
      rw [Nat.blt_eq]
      have h16 := iLt_false.1 q5
      show allN _ < 1000000
      omega
    rw [iLt_true.2 (show (j : Int) < (lenS (g 0) : Nat) by omega), iIn_true.2 (show 0 ≤ (j : Int) ∧ (j : Int) < (lenS (g 0) : Nat) by omega), q1, q3, q4, hb6]
    rw [show ops.n (onT ops (nuA (g 4)) (nuA (g 5)) (onTs (nuA (g 4)) (nuA (g 5)) (deT (g 6)) j) (j : Int)) = allN (onT ops (nuA (g 4)) (nuA (g 5)) (onTs (nuA (g 4)) (nuA (g 5)) (deT (g 6)) j) (j : Int)) from rfl, q2, q5]
    rfl
  · have hE := onCx ops onW (lenS (g 0)) (lenA (g 4)) (lenS (g 1)) (lenA (g 5)) (nuA (g 4)) (nuA (g 5)) (onTs (nuA (g 4)) (nuA (g 5)) (deT (g 6)) (lenS (g 0))) ((lenS (g 0) : Nat) : Int)
    exact turnS on2Ov_ok (L := on0L) rfl (grabJ_part 2 (Part.refl _)) (noGd_all (L := on0L) rfl) hE (by rw [iLt_false.2 (Int.le_refl _)]; rfl) rfl
theorem on_all (c : Code) (hc : Try.f3.body = some c) : blks c = [(0, .loop (bodyOf Try.f3.body 0)), (1, blkAt ((Try.f3.body).getD .skip) 1), (2, .loop (bodyOf Try.f3.body 2)), (3, blkAt ((Try.f3.body).getD .skip) 3), (4, .loop (bodyOf Try.f3.body 4)), (5, blkAt ((Try.f3.body).getD .skip) 5)] := by
  rw [show c = (Try.f3.body).getD .skip by rw [hc]; rfl, on_b, on_b0, on_b2]
theorem av0_ok : ∀ c, Try.f3.body = some c → OvOk Try.prog (av0 onW) c := fun c hc => ovT_ok rfl on0Go_ok fun x hx h => by
  rw [on_all c hc] at hx
  simp only [List.mem_cons, List.not_mem_nil, or_false] at hx
  rcases hx with rfl | rfl | rfl | rfl | rfl | rfl <;> first | rfl | (cases h; done)
theorem onzGo_ok : GoesT Try.prog 0 (.loop (bodyOf Try.f3.body 0)) onzL onzTs onzGo := goT_ok fun g h1 h2 => by
  simp only [Bool.and_eq_true] at h1 h2
  obtain ⟨c0, c1, c2⟩ := h1
  refine ⟨noGd_all (L := onzL) rfl, fun fr m hm hb => ?_⟩
  have hst : norms (tmS g onzTs 0) 0 g = onzS (lenS (g 0)) (lenA (g 4)) (nuA (g 4)) (deT (g 5)) 0 := by
    have : norms (tmS g onzTs 0) 0 g = [g 0, g 1, g 2, .it .i64 (g 3).num, u8A (lenA (g 4)) (nuA (g 4)), tlbA (deT (g 5))] := rfl
    rw [this, iEq_true.1 h2.1, isPt_ok c2, isNsl_ok c1]
    unfold onzS
    rw [← isSlq_ok c0]
  rw [hst] at hb
  refine loopJ_block (F := fun j => onzL.F (onzS (lenS (g 0)) (lenA (g 4)) (nuA (g 4)) (deT (g 5)) 0)) (M := fun j => onzL.M (onzS (lenS (g 0)) (lenA (g 4)) (nuA (g 4)) (deT (g 5)) 0)) (n := 0) (c := 2) (fun j hj => absurd hj (Nat.not_lt_zero _)) ?_ (by decide) hm hb (e := .exit 0) rfl
  have hE := onZ ops (lenS (g 0)) (lenA (g 4)) (nuA (g 4)) (deT (g 5)) 0
  exact turnS (OvOk_none _) (L := onzL) rfl (grabJ_part 2 (Part.refl _)) (noGd_all (L := onzL) rfl) hE (by rw [Bool.and_true]; exact h2.2) rfl
theorem onz_ok : ∀ c, Try.f3.body = some c → OvOk Try.prog (ovT 0 onzL onzTs onzGo) c := fun c hc => ovT_ok rfl onzGo_ok fun x hx h => by
  rw [on_all c hc] at hx
  simp only [List.mem_cons, List.not_mem_nil, or_false] at hx
  rcases hx with rfl | rfl | rfl | rfl | rfl | rfl <;> first | rfl | (cases h; done)
end
end Go.Proofs.Ytcmknfnnapnecaa.PV
