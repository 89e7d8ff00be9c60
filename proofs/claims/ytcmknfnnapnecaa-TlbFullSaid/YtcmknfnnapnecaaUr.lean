/-
  TlbFull: a table without room.
-/
import Derived.Test.YtcmknfnnapnecaaUq
import Derived.Test.YtcmknfnnapnecaaUo
set_option linter.unusedVariables false
set_option linter.unusedSimpArgs false
set_option maxRecDepth 100000
namespace Go.Proofs.Ytcmknfnnapnecaa.PV
noncomputable section
open Go Go.Ev

def ful (j : Nat) : List En := (List.range j).map fun i => fuE (i : Nat)
theorem ful_succ (j : Nat) : ful (j + 1) = ful j ++ [fuE (j : Nat)] := by
  unfold ful; rw [List.range_succ, List.map_append]; rfl
theorem ful_len (j : Nat) : (ful j).length = j := by simp [ful]
theorem ful_ok (j : Nat) : ∀ e ∈ ful j, e.ok = true := by
  intro e he
  simp only [ful, List.mem_map] at he
  obtain ⟨i, _, rfl⟩ := he
  rfl
theorem ful_at {i j : Nat} (h : i < j) : tabL (ful j) i = fuE (i : Nat) := by
  rw [tabL_lt (by rw [ful_len]; exact h)]; simp [ful]
theorem fuT_eq : ∀ j, j ≤ 16 → fuT (fun _ => noEn) j = tabL (ful j)
  | 0, _ => rfl
  | j + 1, h => by
    unfold fuT
    rw [fuT_eq j (by omega), ful_succ]
    refine fill_push (by rw [ful_len]; omega) (ful_ok j) rfl (fun e he hs => ?_) 7
    simp only [ful, List.mem_map, List.mem_range] at he
    obtain ⟨i, hi, rfl⟩ := he
    have h1 : (i : Int) = (j : Int) := hs.1
    omega
/-- The table behind the last fill. -/
def fu17 (p : Int) : Tab := putF (tabL (ful 16)) (p % 16).toNat (fuE 100)
theorem fu_miss {q : Int} (hq : q < 0 ∨ 16 ≤ q) (v : Bool) (x y : Int) : findF (tabL (ful 16)) q v x y = -1 := find_no fun j hj => by
  rw [ful_at hj]
  cases hk : keyP (fuE j) q v x y with
  | false => rfl
  | true =>
    have h1 : (j : Int) = q := (keyP_iff.1 hk).2.1
    omega
theorem fu_fill (p : Int) : fillF (tabL (ful 16)) (fuE 100) p = fu17 p := by
  have h1 : freeF (tabL (ful 16)) = -1 := by
    rcases freeF_spec (tabL (ful 16)) with ⟨h, _⟩ | ⟨k, h1, _, h3, _⟩
    · exact h
    · rw [ful_at h1] at h3; cases h3
  have h2 : slotF (tabL (ful 16)) (fuE 100) p = p % 16 := by
    unfold slotF
    rw [fu_miss (.inr (by show (16 : Int) ≤ 100; omega)), h1]; rfl
  unfold fillF
  rw [h2]; rfl
theorem fu17_at (p : Int) {i : Nat} (h : i < 16) : fu17 p i = if (i : Int) = p % 16 then fuE 100 else fuE i := by
  unfold fu17
  by_cases h1 : (i : Int) = p % 16
  · rw [if_pos h1]
    have : i = (p % 16).toNat := by omega
    rw [this, putF_at]
  · rw [if_neg h1, putF_ne _ _ (by omega), ful_at h]
theorem fu17_ok (p : Int) {i : Nat} (h : i < 16) : (fu17 p i).ok = true := by
  rw [fu17_at p h]; split <;> rfl
theorem oks_full {T : Tab} (h : ∀ i, i < 16 → (T i).ok = true) : oks T = (List.range 16).map T := by
  unfold oks
  rw [List.filter_eq_self]
  intro e he
  simp only [List.mem_map, List.mem_range] at he
  obtain ⟨i, hi, rfl⟩ := he
  exact h i hi
theorem fu_n (p : Int) : allN (fu17 p) = 16 := by
  rw [(all_eq _).1, oks_full fun i hi => fu17_ok p hi]; simp
theorem fu_e (p : Int) {i : Nat} (h : i < 16) : allE (fu17 p) i = fu17 p i := by
  rw [(all_eq _).2, oks_full fun i hi => fu17_ok p hi, tabL_lt (by simpa using h)]; simp
theorem fu_ck (p : Int) : upTo (fuCk (allE (fu17 p)) (p % 16)) 16 = true := upTo_all fun i hi => by
  unfold fuCk
  rw [fu_e p hi, fu17_at p hi]
  by_cases h1 : (i : Int) = p % 16
  · rw [if_pos h1, iEq_true.2 h1]; rfl
  · rw [if_neg h1, iEq_false.2 h1]; exact iEq_true.2 rfl
theorem fu_last (p : Int) : hasF (fu17 p) 50 false 0 0 = false := by
  unfold hasF
  rw [find_no fun j hj => ?_]
  · rfl
  · rw [fu17_at p hj]
    split
    · rfl
    · cases hk : keyP (fuE j) 50 false 0 0 with
      | false => rfl
      | true =>
        have h1 : (j : Int) = 50 := (keyP_iff.1 hk).2.1
        omega
theorem full_small (p : Int) : Small Try.prog 5 [.it .i64 p] Mem.empty (.bl true) Mem.empty := by
  have h16 : fuW.t (fun j => { ok := false, v := false, page := 0, asid := 0, vmid := 0, frame := 0, bits := 0, host := 0, guest := 0 }) = tabL (ful 16) := fuT_eq 16 (by omega)
  have h17 : ops.fi (tabL (ful 16)) { ok := true, v := false, page := 100, asid := 0, vmid := 0, frame := 0, bits := 0, host := 0, guest := 0 } p = fu17 p := fu_fill p
  have hG : fullG ops fuW p = true := by
    unfold fullG
    rw [h16, h17, pick_rem, show ops.n (fu17 p) = allN (fu17 p) from rfl, fu_n, show fuW.ck (ops.el (fu17 p)) (p % 16) = true from fu_ck p]
    rfl
  have hV : full0 ops fuW p = true := by
    unfold full0 full_c0
    rw [h16, h17, show ops.fi (fu17 p) { ok := false, v := false, page := 50, asid := 0, vmid := 0, frame := 0, bits := 0, host := 0, guest := 0 } 0 = fu17 p from rfl, show ops.hs (fu17 p) 50 false 0 0 = false from fu_last p]
    rfl
  have hE := fullE ops fuW p
  unfold fullV at hE
  rw [hV, hG] at hE
  exact small_ok mix fair NPC_ok okHr (f := 5) ⟨Try.func5, of_decide_eq_true (by kernel_rfl)⟩ fuOv_ok hE rfl rfl rfl rfl rfl rfl
theorem full_law (es : List Dat) (h : All2 Dat.Is [.pl (.int .i64)] es) : ∃ m', Small Try.prog 5 (opA es 0) (opM [.pl (.int .i64)] es Mem.empty) (.bl true) m' := by
  match es, h with
  | [.pl a1], ⟨h1, _⟩ =>
    obtain ⟨p, rfl, hp⟩ := of_it h1
    exact ⟨_, full_small p⟩
end
end Go.Proofs.Ytcmknfnnapnecaa.PV
