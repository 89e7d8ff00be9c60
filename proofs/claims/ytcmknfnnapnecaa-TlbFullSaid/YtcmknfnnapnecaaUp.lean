/-
  The loops of TlbFull.
-/
import Derived.Test.YtcmknfnnapnecaaUn
set_option linter.unusedVariables false
set_option linter.unusedSimpArgs false
set_option maxRecDepth 100000
namespace Go.Proofs.Ytcmknfnnapnecaa.PV
noncomputable section
open Go Go.Ev

theorem okHr : HSound Try.prog (HH2 (MTr ops) (MTq2 ops)) := HH2_ok MTr_ok MTq2_ok
structure FuW where
  t : Tab → Tab
  ck : Tab → Int → Bool
def fuT (T : Tab) : Nat → Tab
  | 0 => T
  | j + 1 => fillF (fuT T j) (fuE j) 7
def fuCk (E : Tab) (k : Int) (i : Nat) : Bool := iEq (E i).page (bif iEq i k then 100 else (i : Int))
def fuW : FuW := ⟨fun T => fuT T 16, fun E k => upTo (fuCk E k) 16⟩
def fu0Shs : List Sh := [.int .i64, .ref, .int .i64, tlbSh]
def fu0Go (W : FuW) : (Nat → AV) → Kc → Option Out := goJ (fun g => isPt 0 tlbSh (g 1)) (fun g => iEq (g 2).num 0) .normal
  (fun g => fu0L.F (fuS0 (W.t (deT (g 3))) (g 0).num 16)) (fun g => fu0L.M (fuS0 (W.t (deT (g 3))) (g 0).num 16))
theorem fu0Go_ok : GoesN Try.prog 0 (.loop (bodyOf Try.f5.body 0)) fu0L fu0Shs (fu0Go fuW) := goJ_ok fun g h1 h2 => by
  refine ⟨noGd_all (L := fu0L) rfl, fun fr m hm hb => ?_⟩
  have hst : norms fu0Shs 0 g = fuS0 (deT (g 3)) (g 0).num 0 := by
    have : norms fu0Shs 0 g = [.it .i64 (g 0).num, g 1, .it .i64 (g 2).num, tlbA (deT (g 3))] := rfl
    rw [this, isPt_ok h1, iEq_true.1 h2]
    rfl
  rw [hst] at hb
  refine loopJ_block (F := fun j => fu0L.F (fuS0 (fuT (deT (g 3)) j) (g 0).num (j : Nat))) (M := fun j => fu0L.M (fuS0 (fuT (deT (g 3)) j) (g 0).num (j : Nat))) (n := 16) (c := 2)
    (fun j hj => ?_) ?_ (by decide) hm hb (e := .exit 0) rfl
  · have hE := fuA ops (fuT (deT (g 3)) j) (g 0).num ((j : Nat) : Int)
    rw [iAdd_n j (by omega), iLt_true.2 (show (j : Int) < 16 by omega)] at hE
    exact turnW (L := fu0L) rfl (grabJ_part 0 (Part.refl _)) (noGd_all (L := fu0L) rfl) hE rfl rfl
  · exact turnW (L := fu0L) rfl (grabJ_part 2 (Part.refl _)) (noGd_all (L := fu0L) rfl) (fuX ops (fuT (deT (g 3)) 16) (g 0).num ((16 : Nat) : Int)) rfl rfl
def fu1Shs : List Sh := [.ref, .int .i64, .int .i64, .ref, tlbSh, .arr 16 entSh]
def fu1Go (W : FuW) : (Nat → AV) → Kc → Option Out := goJ (fun g => isPt 0 tlbSh (g 0) && isSl 1 16 (g 3)) (fun g => iEq (g 2).num 0 && W.ck (arT (g 5)) (g 1).num) .normal
  (fun g => fu1L.F (fuS1 (deT (g 4)) (arT (g 5)) (g 1).num 16)) (fun g => fu1L.M (fuS1 (deT (g 4)) (arT (g 5)) (g 1).num 16))
theorem fu1Go_ok : GoesN Try.prog 2 (.loop (bodyOf Try.f5.body 2)) fu1L fu1Shs (fu1Go fuW) := goJ_ok fun g h1 h2 => by
  simp only [Bool.and_eq_true] at h1 h2
  refine ⟨noGd_all (L := fu1L) rfl, fun fr m hm hb => ?_⟩
  have hst : norms fu1Shs 0 g = fuS1 (deT (g 4)) (arT (g 5)) (g 1).num 0 := by
    have : norms fu1Shs 0 g = [g 0, .it .i64 (g 1).num, .it .i64 (g 2).num, g 3, tlbA (deT (g 4)), elA 16 (arT (g 5))] := rfl
    rw [this, isPt_ok h1.1, isSl_ok h1.2, iEq_true.1 h2.1]
    rfl
  rw [hst] at hb
  refine loopJ_block (F := fun j => fu1L.F (fuS1 (deT (g 4)) (arT (g 5)) (g 1).num (j : Nat))) (M := fun j => fu1L.M (fuS1 (deT (g 4)) (arT (g 5)) (g 1).num (j : Nat))) (n := 16) (c := 4)
    (fun j hj => ?_) ?_ (by decide) hm hb (e := .exit 2) rfl
  · have hE := fuC ops (deT (g 4)) (arT (g 5)) (g 1).num ((j : Nat) : Int)
    have hck := upTo_at (f := fuCk (arT (g 5)) (g 1).num) h2.2 j hj
    unfold fuCk at hck
    have h1 : iLe 16 (j : Int) = false := iLe_false.2 (by omega)
    rw [iAdd_n j (by omega), iLt_true.2 (show (j : Int) < 16 by omega), iIn_true.2 (show 0 ≤ (j : Int) ∧ (j : Int) < (16 : Nat) by omega), h1, Nat.add_zero, Int.toNat_natCast] at hE
    cases hk : iEq (j : Int) (g 1).num with
    | true =>
      rw [hk, Om.pick_t] at hE
      rw [hk, cond_true] at hck
      refine turnW (L := fu1L) rfl (grabJ_part 0 (grabI_part 6 1 true fu1L)) (noGd_all (L := fu1L) rfl) hE ?_ rfl
      rw [show iNe (arT (g 5) j).page 100 = false by unfold iNe; rw [iEq_true.1 hck]; rfl]; rfl
    | false =>
      rw [hk, Om.pick_f] at hE
      rw [hk, cond_false] at hck
      refine turnW (L := fu1L) rfl (grabJ_part 0 (grabI_part 6 1 true fu1L)) (noGd_all (L := fu1L) rfl) hE ?_ rfl
      rw [show iNe (arT (g 5) j).page (j : Int) = false by unfold iNe; rw [iEq_true.1 hck]; simp]; rfl
  · exact turnW (L := fu1L) rfl (grabJ_part 4 (grabI_part 6 1 true fu1L)) (noGd_all (L := fu1L) rfl) (fuY ops (deT (g 4)) (arT (g 5)) (g 1).num ((16 : Nat) : Int)) rfl rfl
def fuOv (W : FuW) : Ov := ovOr (ovN 0 fu0L fu0Shs (fu0Go W)) (ovN 2 fu1L fu1Shs (fu1Go W))
theorem fu_blk : blks ((Try.f5.body).getD .skip) = [(0, .loop (bodyOf Try.f5.body 0)), (1, blkAt ((Try.f5.body).getD .skip) 1), (2, .loop (bodyOf Try.f5.body 2)), (3, blkAt ((Try.f5.body).getD .skip) 3)] := by kernel_rfl
theorem fuOv_ok : ∀ c, Try.f5.body = some c → OvOk Try.prog (fuOv fuW) c := fun c hc => by
  have e : blks c = _ := (show blks c = blks ((Try.f5.body).getD .skip) by rw [hc]; rfl).trans fu_blk
  refine ovOr_ok (ovN_ok rfl fu0Go_ok fun x hx h => ?_) (ovN_ok rfl fu1Go_ok fun x hx h => ?_)
  · rw [e] at hx
    simp only [List.mem_cons, List.not_mem_nil, or_false] at hx
    rcases hx with rfl | rfl | rfl | rfl <;> first | rfl | (cases h; done)
  · rw [e] at hx
    simp only [List.mem_cons, List.not_mem_nil, or_false] at hx
    rcases hx with rfl | rfl | rfl | rfl <;> first | rfl | (cases h; done)
end
end Go.Proofs.Ytcmknfnnapnecaa.PV
