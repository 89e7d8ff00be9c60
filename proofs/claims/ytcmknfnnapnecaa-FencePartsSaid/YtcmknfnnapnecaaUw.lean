/-
  The document's Drop; the comparison of two rows of entries.
-/
import Derived.Test.YtcmknfnnapnecaaUv
set_option linter.unusedVariables false
set_option linter.unusedSimpArgs false
set_option maxRecDepth 100000
namespace Go.Proofs.Ytcmknfnnapnecaa.PV
noncomputable section
open Go Go.Ev

theorem okH0 : HSound Try.prog (HH []) := HH_ok (tb := []) trivial
theorem turn0 {b : Code} {L : Lq} (hL : L.wf = true) {K : Kc} (hK : Part L K) {fr : Fr} {m : Mem} (hg0 : NoGd fr) {c : Int} {r : List AV} {g : Bool}
    (he : evC Try.prog okT NPC (HH []) RW NOV 101 false b fr m K = some (g, .tup (.it .i64 c :: r))) (hg : g = true) (hr : L.ok r = true) : Turn Try.prog L.n0 b fr m c (L.F r) (L.M r) :=
  turnK_ok mix fair NPC_ok okH0 (OvOk_none _) hL hK hg0 he hg hr

/- The document's Drop. -/
def rdHit (T : Tab) (e : En) (i : Int) : Bool := bif (T i.toNat).ok then eqX (T i.toNat) e else false
def rdZ (T : Tab) (i : Int) : Tab := fun j => ⟨bif j == i.toNat then false else (T j).ok, bif j == i.toNat then false else (T j).v, bif j == i.toNat then 0 else (T j).page, bif j == i.toNat then 0 else (T j).asid, bif j == i.toNat then 0 else (T j).vmid, bif j == i.toNat then 0 else (T j).frame,
  bif j == i.toNat then 0 else (T j).bits, bif j == i.toNat then 0 else (T j).host, bif j == i.toNat then 0 else (T j).guest⟩
theorem rdZ_eq (T : Tab) (i : Int) : rdZ T i = putF T i.toNat noEn := by
  funext j
  unfold rdZ putF
  cases j == i.toNat <;> rfl
def rdS (T : Tab) (e : En) (b : Bool) (i : Int) : List AV := [.pt 0 [] tlbSh, .pt 1 [] entSh, .bl b, .it .i64 i, tlbA T, enA e]
theorem rdA (T : Tab) (e : En) (b : Bool) (i : Int) : evC Try.prog okT NPC (HH []) RW NOV 101 false (bodyOf Try.f19.body 0) (rdropL.F (rdS T e b i)) (rdropL.M (rdS T e b i)) (grabJ 0 (grabQ rdropL)) =
    some (iLt i 16 && (iIn i 16 && ((!(T i.toNat).ok || iIn i 16) && (!rdHit T e i && true))), .tup (.it .i64 0 :: rdS T e b (iAdd .i64 i 1))) := by kernel_rfl
theorem rdB (T : Tab) (e : En) (b : Bool) (i : Int) : evC Try.prog okT NPC (HH []) RW NOV 101 false (bodyOf Try.f19.body 0) (rdropL.F (rdS T e b i)) (rdropL.M (rdS T e b i)) (grabJ 1 (grabQ rdropL)) =
    some (iLt i 16 && (iIn i 16 && ((!(T i.toNat).ok || iIn i 16) && (rdHit T e i && (iIn i 16 && true)))), .tup (.it .i64 1 :: rdS (rdZ T i) e true i)) := by kernel_rfl
theorem rdX (T : Tab) (e : En) (b : Bool) (i : Int) : evC Try.prog okT NPC (HH []) RW NOV 101 false (bodyOf Try.f19.body 0) (rdropL.F (rdS T e b i)) (rdropL.M (rdS T e b i)) (grabJ 2 (grabQ rdropL)) =
    some (!iLt i 16 && true, .tup (.it .i64 2 :: rdS T e b i)) := by kernel_rfl
structure RdW where
  f : Tab → En → Int
  t : Tab → En → Tab
def rdShs : List Sh := [.ref, .ref, .bool, .int .i64, tlbSh, entSh]
def rdGoA (W : RdW) : (Nat → AV) → Kc → Option Out := goJ (fun g => isPt 0 tlbSh (g 0) && isPt 1 entSh (g 1)) (fun g => iEq (g 3).num 0 && iLe 0 (W.f (deT (g 4)) (deA (g 5)))) .ret
  (fun g => rdropL.F (rdS (W.t (deT (g 4)) (deA (g 5))) (deA (g 5)) true (W.f (deT (g 4)) (deA (g 5))))) (fun g => rdropL.M (rdS (W.t (deT (g 4)) (deA (g 5))) (deA (g 5)) true (W.f (deT (g 4)) (deA (g 5)))))
def rdGoB (W : RdW) : (Nat → AV) → Kc → Option Out := goJ (fun g => isPt 0 tlbSh (g 0) && isPt 1 entSh (g 1)) (fun g => iEq (g 3).num 0 && iLt (W.f (deT (g 4)) (deA (g 5))) 0) .normal
  (fun g => rdropL.F (rdS (deT (g 4)) (deA (g 5)) (g 2).bool 16)) (fun g => rdropL.M (rdS (deT (g 4)) (deA (g 5)) (g 2).bool 16))
theorem rdLawA (W : RdW) (T : Tab) (e : En) : evFn Try.prog okT NPC (HH []) RW (ovN 0 rdropL rdShs (rdGoA W)) 101 false Try.f19 [.pt 0 [] tlbSh, enA e] (mem1 (tlbA T)) (finQ L1) =
    some ((iEq 0 0 && iLe 0 (W.f T e)) && true, .tup [.it .i64 0, .bl true, tlbA (W.t T e)]) := by kernel_rfl
theorem rdLawB (W : RdW) (T : Tab) (e : En) : evFn Try.prog okT NPC (HH []) RW (ovN 0 rdropL rdShs (rdGoB W)) 101 false Try.f19 [.pt 0 [] tlbSh, enA e] (mem1 (tlbA T)) (finQ L1) =
    some ((iEq 0 0 && iLt (W.f T e) 0) && true, .tup [.it .i64 0, .bl false, tlbA T]) := by kernel_rfl
def rdF (T : Tab) (e : En) : Int := firstF (fun i => rdHit T e (i : Nat)) 16 0
def rdW : RdW := ⟨rdF, fun T e => putF T (rdF T e).toNat noEn⟩
theorem rdF_spec (T : Tab) (e : En) : (rdF T e = -1 ∧ ∀ j, j < 16 → rdHit T e (j : Nat) = false) ∨ ∃ k : Nat, k < 16 ∧ rdF T e = (k : Int) ∧ rdHit T e (k : Nat) = true ∧ ∀ j, j < k → rdHit T e (j : Nat) = false := by
  rcases firstF_spec (p := fun i => rdHit T e (i : Nat)) 16 0 with ⟨h1, h2⟩ | ⟨k, h1, h2, h3, h4, h5⟩
  · exact .inl ⟨h1, fun j hj => h2 j (Nat.zero_le _) (by omega)⟩
  · exact .inr ⟨k, by omega, h3, h4, fun j hj => h5 j (Nat.zero_le _) hj⟩
theorem rd_step (T : Tab) (e : En) (b : Bool) (j : Nat) (hj : j < 16) (h : rdHit T e (j : Nat) = false) : Turn Try.prog 2 (bodyOf Try.f19.body 0) (rdropL.F (rdS T e b (j : Nat))) (rdropL.M (rdS T e b (j : Nat))) 0 (rdropL.F (rdS T e b (j + 1 : Nat))) (rdropL.M (rdS T e b (j + 1 : Nat))) := by
  have hE := rdA T e b ((j : Nat) : Int)
  rw [iAdd_n j (by omega), h, iLt_true.2 (show (j : Int) < 16 by omega), iIn_true.2 (show 0 ≤ (j : Int) ∧ (j : Int) < (16 : Nat) by omega)] at hE
  refine turn0 (L := rdropL) rfl (grabJ_part 0 (Part.refl _)) (noGd_all (L := rdropL) rfl) hE ?_ rfl
  cases (T ((j : Nat) : Int).toNat).ok <;> rfl
theorem rd_st {g : Nat → AV} (h1 : isPt 0 tlbSh (g 0) = true) (h2 : isPt 1 entSh (g 1) = true) (h3 : iEq (g 3).num 0 = true) : norms rdShs 0 g = rdS (deT (g 4)) (deA (g 5)) (g 2).bool 0 := by
  have : norms rdShs 0 g = [g 0, g 1, .bl (g 2).bool, .it .i64 (g 3).num, tlbA (deT (g 4)), enA (deA (g 5))] := rfl
  rw [this, isPt_ok h1, isPt_ok h2, iEq_true.1 h3]
  rfl
theorem rdGoA_ok : GoesN Try.prog 0 (.loop (bodyOf Try.f19.body 0)) rdropL rdShs (rdGoA rdW) := goJ_ok fun g h1 h2 => by
  simp only [Bool.and_eq_true] at h1 h2
  refine ⟨noGd_all (L := rdropL) rfl, fun fr m hm hb => ?_⟩
  rw [rd_st h1.1 h1.2 h2.1] at hb
  have hpos : 0 ≤ rdF (deT (g 4)) (deA (g 5)) := iLe_true.1 h2.2
  rcases rdF_spec (deT (g 4)) (deA (g 5)) with ⟨h, _⟩ | ⟨K, k1, k2, k3, k4⟩
  · omega
  show Runs _ _ _ _ _ (rdropL.F (rdS (putF (deT (g 4)) (rdF (deT (g 4)) (deA (g 5))).toNat noEn) (deA (g 5)) true (rdF (deT (g 4)) (deA (g 5))))) (rdropL.M (rdS (putF (deT (g 4)) (rdF (deT (g 4)) (deA (g 5))).toNat noEn) (deA (g 5)) true (rdF (deT (g 4)) (deA (g 5)))))
  rw [k2]
  refine loopJ_block (F := fun j => rdropL.F (rdS (deT (g 4)) (deA (g 5)) (g 2).bool (j : Nat))) (M := fun j => rdropL.M (rdS (deT (g 4)) (deA (g 5)) (g 2).bool (j : Nat))) (n := K) (c := 1) (fun j hj => rd_step _ _ _ j (by omega) (k4 j hj)) ?_ (by decide) hm hb (e := .ret) rfl
  have hE := rdB (deT (g 4)) (deA (g 5)) (g 2).bool ((K : Nat) : Int)
  rw [rdZ_eq, k3, iLt_true.2 (show (K : Int) < 16 by omega), iIn_true.2 (show 0 ≤ (K : Int) ∧ (K : Int) < (16 : Nat) by omega)] at hE
  refine turn0 (L := rdropL) rfl (grabJ_part 1 (Part.refl _)) (noGd_all (L := rdropL) rfl) hE ?_ rfl
  cases (deT (g 4) ((K : Nat) : Int).toNat).ok <;> rfl
theorem rdGoB_ok : GoesN Try.prog 0 (.loop (bodyOf Try.f19.body 0)) rdropL rdShs (rdGoB rdW) := goJ_ok fun g h1 h2 => by
  simp only [Bool.and_eq_true] at h1 h2
  refine ⟨noGd_all (L := rdropL) rfl, fun fr m hm hb => ?_⟩
  rw [rd_st h1.1 h1.2 h2.1] at hb
  have hneg : rdF (deT (g 4)) (deA (g 5)) < 0 := iLt_true.1 h2.2
  rcases rdF_spec (deT (g 4)) (deA (g 5)) with ⟨_, h⟩ | ⟨K, k1, k2, k3, k4⟩
  · refine loopJ_block (F := fun j => rdropL.F (rdS (deT (g 4)) (deA (g 5)) (g 2).bool (j : Nat))) (M := fun j => rdropL.M (rdS (deT (g 4)) (deA (g 5)) (g 2).bool (j : Nat))) (n := 16) (c := 2) (fun j hj => rd_step _ _ _ j hj (h j hj)) ?_ (by decide) hm hb (e := .exit 0) rfl
    exact turn0 (L := rdropL) rfl (grabJ_part 2 (Part.refl _)) (noGd_all (L := rdropL) rfl) (rdX (deT (g 4)) (deA (g 5)) (g 2).bool ((16 : Nat) : Int)) rfl rfl
  · omega
theorem rd_blk (c : Code) (hc : Try.f19.body = some c) : blks c = [(0, .loop (bodyOf Try.f19.body 0)), (1, blkAt ((Try.f19.body).getD .skip) 1)] := by
  rw [show c = (Try.f19.body).getD .skip by rw [hc]; rfl]
  kernel_rfl
theorem rd_ov {go : (Nat → AV) → Kc → Option Out} (hgo : GoesN Try.prog 0 (.loop (bodyOf Try.f19.body 0)) rdropL rdShs go) : ∀ c, Try.f19.body = some c → OvOk Try.prog (ovN 0 rdropL rdShs go) c := fun c hc => ovN_ok rfl hgo fun x hx h => by
  rw [rd_blk c hc] at hx
  simp only [List.mem_cons, List.not_mem_nil, or_false] at hx
  rcases hx with rfl | rfl <;> first | rfl | (cases h; done)
def rdT (T : Tab) (e : En) : Tab := bif iLe 0 (rdF T e) then putF T (rdF T e).toNat noEn else T
theorem rdrop_small (T : Tab) (e : En) : Small Try.prog 19 [.pt 0 [] tlbSh, enA e] (mem1 (tlbA T)) (.bl (iLe 0 (rdF T e))) (mem1 (tlbA (rdT T e))) := by
  have hp : Plain Try.prog 19 Try.f19 := ⟨Try.func19, of_decide_eq_true (by kernel_rfl)⟩
  unfold rdT
  cases h : iLe 0 (rdF T e) with
  | true =>
    exact small_ok mix fair NPC_ok okH0 hp (rd_ov rdGoA_ok) (rdLawA rdW T e) (by rw [show iLe 0 (rdW.f T e) = true from h]; rfl) rfl rfl rfl rfl rfl
  | false =>
    have h2 : iLt (rdW.f T e) 0 = true := iLt_true.2 (iLe_false.1 h)
    exact small_ok mix fair NPC_ok okH0 hp (rd_ov rdGoB_ok) (rdLawB rdW T e) (by rw [h2]; rfl) rfl rfl rfl rfl rfl
def rdropRow : MRow := rowB tlbSh [entSh] (fun g t => .bl (iLe 0 (rdF (deT t) (deA (g 0))))) (fun g t => tlbA (rdT (deT t) (deA (g 0))))
theorem rdropRow_ok : MRowOk Try.prog 19 rdropRow := rowB_ok rfl rfl (fun _ _ => rfl) (fun _ _ => rfl) fun g t => rdrop_small (deT t) (deA (g 0))
end
end Go.Proofs.Ytcmknfnnapnecaa.PV
