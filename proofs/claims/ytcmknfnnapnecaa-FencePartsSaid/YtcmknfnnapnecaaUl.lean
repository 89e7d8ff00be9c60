/-
  The loops of TlbMarks and TlbFull.
-/
import Derived.Test.YtcmknfnnapnecaaUk
set_option linter.unusedVariables false
set_option linter.unusedSimpArgs false
set_option maxRecDepth 100000
namespace Go.Proofs.Ytcmknfnnapnecaa.PV
noncomputable section
open Go Go.Ev

theorem okH : HSound Try.prog (HH2 (MTq ops) (MTq2 ops)) := HH2_ok MTq_ok MTq2_ok
/-- A round of what is evaluated. -/
theorem turnW {b : Code} {L : Lq} (hL : L.wf = true) {K : Kc} (hK : Part L K) {fr : Fr} {m : Mem} (hg0 : NoGd fr) {c : Int} {r : List AV} {g : Bool}
    (he : evC Try.prog okT NPC (HH2 (MTq ops) (MTq2 ops)) RW NOV 101 false b fr m K = some (g, .tup (.it .i64 c :: r))) (hg : g = true) (hr : L.ok r = true) : Turn Try.prog L.n0 b fr m c (L.F r) (L.M r) :=
  turnK_ok mix fair NPC_ok okH (OvOk_none _) hL hK hg0 he hg hr
theorem noGd_all {L : Lq} {l : List AV} (h : ((l.take (L.ts.length + L.mv.length)).all fun a => !isGd a) = true) : NoGd (L.F l) := Lq.noGd fun a ha => by
  have := List.all_eq_true.1 h a ha
  simpa using this
theorem iAdd_n (j : Nat) (h : j < 1000) : iAdd .i64 (j : Int) 1 = ((j + 1 : Nat) : Int) := by
  rw [iAdd_i64 (by omega) (by omega)]; omega
theorem iLt_n {j n : Nat} (h : j < n) : iLt (j : Int) (n : Int) = true := iLt_true.2 (by omega)

/- TlbMarks, the fills. -/
def mkT (T : Tab) (p a b : Int) : Nat → Tab
  | 0 => T
  | j + 1 => fillF (mkT T p a b j) (mkE p a b j) 0
def mkEs (p a b : Int) : Nat → Tab
  | 0 => fun _ => noEn
  | j + 1 => pushE j (mkEs p a b j) (mkE p a b j)
def mkF0 (T : Tab) (p a b : Int) : Nat → Fr
  | 0 => mk0L.F (mkS0 T p a b 0)
  | j + 1 => mk1L.F (mkS1 (j + 1) (mkT T p a b (j + 1)) (mkEs p a b (j + 1)) p a b (j + 1 : Nat))
def mkM0 (T : Tab) (p a b : Int) : Nat → Mem
  | 0 => mk0L.M (mkS0 T p a b 0)
  | j + 1 => mk1L.M (mkS1 (j + 1) (mkT T p a b (j + 1)) (mkEs p a b (j + 1)) p a b (j + 1 : Nat))
theorem mkT0_turn (T : Tab) (p a b : Int) (j : Nat) (hj : j < 8) : Turn Try.prog 1 (bodyOf Try.f4.body 0) (mkF0 T p a b j) (mkM0 T p a b j) 0 (mkF0 T p a b (j + 1)) (mkM0 T p a b (j + 1)) := by
  have h1 : iLt (j : Int) 8 = true := iLt_true.2 (by omega)
  cases j with
  | zero =>
    have hE := mkA ops T p a b ((0 : Nat) : Int)
    rw [oneX_eq, iAdd_n 0 (by omega)] at hE
    exact turnW (L := mk1L) rfl (grabJ_part 0 (Part.refl _)) (noGd_all (L := mk0L) rfl) hE rfl rfl
  | succ j =>
    have hE := mkB ops (j + 1) (mkT T p a b (j + 1)) (mkEs p a b (j + 1)) p a b ((j + 1 : Nat) : Int)
    rw [addX_eq, iAdd_n (j + 1) (by omega)] at hE
    exact turnW (L := mk1L) rfl (grabJ_part 0 (grabI_part 9 1 false mk1L)) (noGd_all (L := mk1L) rfl) hE
      (by rw [h1, show (j + 1 + 1).ble 4294967296 = true from Nat.ble_eq_true_of_le (by omega)]; rfl) rfl
theorem mkX_turn (T : Tab) (p a b : Int) : Turn Try.prog 1 (bodyOf Try.f4.body 0) (mkF0 T p a b 8) (mkM0 T p a b 8) 2 (mkF0 T p a b 8) (mkM0 T p a b 8) := by
  have hE := mkX ops 8 (mkT T p a b 8) (mkEs p a b 8) p a b ((8 : Nat) : Int)
  exact turnW (L := mk1L) rfl (grabJ_part 2 (grabI_part 9 1 true mk1L)) (noGd_all (L := mk1L) rfl) hE rfl rfl

/- .. the look-ups. -/
def lkOk (T E : Tab) (p : Int) (i : Nat) : Bool := hasF T p (E i).v (E i).asid (E i).vmid && eqX (lookF T p (E i).v (E i).asid (E i).vmid) (E i)
def upTo (f : Nat → Bool) : Nat → Bool
  | 0 => true
  | n + 1 => upTo f n && f n
theorem upTo_at {f : Nat → Bool} : ∀ {n : Nat}, upTo f n = true → ∀ i, i < n → f i = true
  | n + 1, h, i, hi => by
    simp only [upTo, Bool.and_eq_true] at h
    rcases Nat.lt_succ_iff_lt_or_eq.1 hi with h1 | h1
    · exact upTo_at h.1 i h1
    · subst h1; exact h.2
theorem upTo_all {f : Nat → Bool} : ∀ {n : Nat}, (∀ i, i < n → f i = true) → upTo f n = true
  | 0, _ => rfl
  | n + 1, h => by
    simp only [upTo, Bool.and_eq_true]
    exact ⟨upTo_all fun i hi => h i (by omega), h n (by omega)⟩
/-- What the loops leave, left open. -/
structure MkW where
  t8 : Tab → Int → Int → Int → Tab
  e8 : Int → Int → Int → Tab
  lk : Tab → Tab → Int → Bool
def mk0Shs : List Sh := [.int .u8, .int .u8, .ref, .int .i64, .int .i64, .ref, tlbSh]
def mk0GoW (W : MkW) : (Nat → AV) → Kc → Option Out := goJ (fun g => isPt 0 tlbSh (g 2) && isNsl (g 5)) (fun g => iEq (g 4).num 0) .normal
  (fun g => mk1L.F (mkS1 8 (W.t8 (deT (g 6)) (g 3).num (g 0).num (g 1).num) (W.e8 (g 3).num (g 0).num (g 1).num) (g 3).num (g 0).num (g 1).num 8))
  (fun g => mk1L.M (mkS1 8 (W.t8 (deT (g 6)) (g 3).num (g 0).num (g 1).num) (W.e8 (g 3).num (g 0).num (g 1).num) (g 3).num (g 0).num (g 1).num 8))
def mkW : MkW := ⟨fun T p a b => mkT T p a b 8, fun p a b => mkEs p a b 8, fun T E p => upTo (lkOk T E p) 8⟩
def mk0Go : (Nat → AV) → Kc → Option Out := mk0GoW mkW
theorem mk0Go_ok : GoesN Try.prog 0 (.loop (bodyOf Try.f4.body 0)) mk0L mk0Shs mk0Go := goJ_ok fun g h1 h2 => by
  simp only [Bool.and_eq_true] at h1
  refine ⟨noGd_all (L := mk1L) rfl, fun fr m hm hb => ?_⟩
  have hst : norms mk0Shs 0 g = mkS0 (deT (g 6)) (g 3).num (g 0).num (g 1).num 0 := by
    have : norms mk0Shs 0 g = [.it .u8 (g 0).num, .it .u8 (g 1).num, g 2, .it .i64 (g 3).num, .it .i64 (g 4).num, g 5, tlbA (deT (g 6))] := rfl
    rw [this, isPt_ok h1.1, isNsl_ok h1.2, iEq_true.1 h2]
    rfl
  rw [hst] at hb
  exact loopJ_block (F := mkF0 (deT (g 6)) (g 3).num (g 0).num (g 1).num) (M := mkM0 (deT (g 6)) (g 3).num (g 0).num (g 1).num) (n := 8) (fun j hj => mkT0_turn _ _ _ _ j hj) (mkX_turn _ _ _ _) (by decide) hm hb (e := .exit 0) rfl

def mk2Shs : List Sh := [.int .u8, .int .u8, .ref, .int .i64, .int .i64, .ref, tlbSh, .arr 8 entSh]
def isSl (id n : Nat) : AV → Bool
  | .sl i [] lo len tip => Nat.beq i id && (Nat.beq lo 0 && (Nat.beq len n && tip))
  | _ => false
theorem isSl_ok {id n : Nat} {a : AV} (h : isSl id n a = true) : a = .sl id [] 0 n true := by
  unfold isSl at h
  split at h <;> try (cases h; done)
  simp only [Bool.and_eq_true, Nat.beq_eq] at h
  rw [h.1, h.2.1, h.2.2.1, h.2.2.2]
def mk2GoW (W : MkW) : (Nat → AV) → Kc → Option Out := goJ (fun g => isPt 0 tlbSh (g 2) && isSl 1 8 (g 5)) (fun g => iEq (g 4).num 0 && W.lk (deT (g 6)) (arT (g 7)) (g 3).num) .normal
  (fun g => mk2L.F (mkS1 8 (deT (g 6)) (arT (g 7)) (g 3).num (g 0).num (g 1).num 8))
  (fun g => mk2L.M (mkS1 8 (deT (g 6)) (arT (g 7)) (g 3).num (g 0).num (g 1).num 8))
def mk2Go : (Nat → AV) → Kc → Option Out := mk2GoW mkW
theorem mk2Go_ok : GoesN Try.prog 2 (.loop (bodyOf Try.f4.body 2)) mk2L mk2Shs mk2Go := goJ_ok fun g h1 h2 => by
  simp only [Bool.and_eq_true] at h1 h2
  refine ⟨noGd_all (L := mk2L) rfl, fun fr m hm hb => ?_⟩
  have hst : norms mk2Shs 0 g = mkS1 8 (deT (g 6)) (arT (g 7)) (g 3).num (g 0).num (g 1).num 0 := by
    have : norms mk2Shs 0 g = [.it .u8 (g 0).num, .it .u8 (g 1).num, g 2, .it .i64 (g 3).num, .it .i64 (g 4).num, g 5, tlbA (deT (g 6)), elA 8 (arT (g 7))] := rfl
    rw [this, isPt_ok h1.1, isSl_ok h1.2, iEq_true.1 h2.1]
    rfl
  rw [hst] at hb
  refine loopJ_block (F := fun j => mk2L.F (mkS1 8 (deT (g 6)) (arT (g 7)) (g 3).num (g 0).num (g 1).num (j : Nat))) (M := fun j => mk2L.M (mkS1 8 (deT (g 6)) (arT (g 7)) (g 3).num (g 0).num (g 1).num (j : Nat))) (n := 8) (c := 4)
    (fun j hj => ?_) ?_ (by decide) hm hb (e := .exit 2) rfl
  · have hE := mkC ops (deT (g 6)) (arT (g 7)) (g 3).num (g 0).num (g 1).num ((j : Nat) : Int)
    rw [iAdd_n j (by omega)] at hE
    refine turnW (L := mk2L) rfl (grabJ_part 0 (grabI_part 9 1 true mk2L)) (noGd_all (L := mk2L) rfl) hE ?_ rfl
    have := upTo_at h2.2 j hj
    unfold lkOk at this
    simp only [Bool.and_eq_true] at this
    have e1 : ops.hs (deT (g 6)) (g 3).num (arT (g 7) (((j : Nat) : Int).toNat + 0)).v (arT (g 7) (((j : Nat) : Int).toNat + 0)).asid (arT (g 7) (((j : Nat) : Int).toNat + 0)).vmid = true := this.1
    have e2 : eqX (ops.lk (deT (g 6)) (g 3).num (arT (g 7) (((j : Nat) : Int).toNat + 0)).v (arT (g 7) (((j : Nat) : Int).toNat + 0)).asid (arT (g 7) (((j : Nat) : Int).toNat + 0)).vmid) (arT (g 7) (((j : Nat) : Int).toNat + 0)) = true := this.2
    rw [e1, e2, iLt_true.2 (show (j : Int) < 8 by omega), iIn_true.2 (show 0 ≤ (j : Int) ∧ (j : Int) < (8 : Nat) by omega)]
    rfl
  · have hE := mkY ops (deT (g 6)) (arT (g 7)) (g 3).num (g 0).num (g 1).num ((8 : Nat) : Int)
    exact turnW (L := mk2L) rfl (grabJ_part 4 (grabI_part 9 1 true mk2L)) (noGd_all (L := mk2L) rfl) hE rfl rfl
def mkOvW (W : MkW) : Ov := ovOr (ovN 0 mk0L mk0Shs (mk0GoW W)) (ovN 2 mk2L mk2Shs (mk2GoW W))
def mkOv : Ov := mkOvW mkW
theorem mk_blk : blks ((Try.f4.body).getD .skip) = [(0, .loop (bodyOf Try.f4.body 0)), (1, blkAt ((Try.f4.body).getD .skip) 1), (2, .loop (bodyOf Try.f4.body 2)), (3, blkAt ((Try.f4.body).getD .skip) 3)] := by kernel_rfl
theorem mkOv_ok : ∀ c, Try.f4.body = some c → OvOk Try.prog mkOv c := fun c hc => by
  have e : blks c = _ := (show blks c = blks ((Try.f4.body).getD .skip) by rw [hc]; rfl).trans mk_blk
  refine ovOr_ok (ovN_ok rfl mk0Go_ok fun x hx h => ?_) (ovN_ok rfl mk2Go_ok fun x hx h => ?_)
  · rw [e] at hx
    simp only [List.mem_cons, List.not_mem_nil, or_false] at hx
    rcases hx with rfl | rfl | rfl | rfl <;> first | rfl | (cases h; done)
  · rw [e] at hx
    simp only [List.mem_cons, List.not_mem_nil, or_false] at hx
    rcases hx with rfl | rfl | rfl | rfl <;> first | rfl | (cases h; done)
end
end Go.Proofs.Ytcmknfnnapnecaa.PV
