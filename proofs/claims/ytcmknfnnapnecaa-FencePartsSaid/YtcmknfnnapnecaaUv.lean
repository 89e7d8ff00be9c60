/-
  TlbOne: the law.
-/
import Derived.Test.YtcmknfnnapnecaaUu
set_option linter.unusedVariables false
set_option linter.unusedSimpArgs false
set_option maxRecDepth 100000
namespace Go.Proofs.Ytcmknfnnapnecaa.PV
noncomputable section
open Go Go.Ev

theorem oks_mem {T : Tab} {e : En} (h : e ∈ oks T) : e.ok = true ∧ ∃ i, i < 16 ∧ T i = e := by
  unfold oks at h
  simp only [List.mem_filter, List.mem_map, List.mem_range] at h
  obtain ⟨⟨i, hi, rfl⟩, h2⟩ := h
  exact ⟨h2, i, hi, rfl⟩
theorem oks_in {T : Tab} {i : Nat} (hi : i < 16) (h : (T i).ok = true) : T i ∈ oks T := by
  unfold oks
  simp only [List.mem_filter, List.mem_map, List.mem_range]
  exact ⟨⟨i, hi, rfl⟩, h⟩
theorem oks_len (T : Tab) : (oks T).length ≤ 16 := by
  unfold oks
  exact Nat.le_trans (List.length_filter_le _ _) (by simp)
theorem oks_apart {T : Tab} (hu : Uniq T) : (oks T).Pairwise fun a b => ¬ sk a b := by
  have h1 : ((List.range 16).map T).Pairwise fun a b => a.ok = true → b.ok = true → ¬ sk a b := by
    rw [List.pairwise_map]
    refine List.Pairwise.imp_of_mem (fun {a b} ha hb hab => ?_) List.pairwise_lt_range
    intro h2 h3 h4
    have := hu a b (List.mem_range.1 ha) (List.mem_range.1 hb) h2 h3 h4
    omega
  have h2 := h1.filter (fun e => e.ok)
  exact List.Pairwise.imp_of_mem (fun {a b} ha hb hab => hab (oks_mem ha).1 (oks_mem hb).1) h2

/-- Entries of no guest. -/
def Host0 (T : Tab) : Prop := ∀ i, i < 16 → (T i).ok = true → (T i).v = false ∧ (T i).vmid = 0
theorem host0_fill {T : Tab} (h : Host0 T) {e : En} (he : e.v = false ∧ e.vmid = 0) (pick : Int) : Host0 (fillF T e pick) := fun i hi ho => by
  unfold fillF at ho ⊢
  cases hk : e.ok with
  | false => rw [hk] at ho; exact h i hi ho
  | true =>
    rw [hk, cond_true] at ho
    rw [cond_true]
    by_cases hs : i = (slotF T e pick).toNat
    · rw [hs, putF_at]; exact he
    · rw [putF_ne _ _ hs] at ho ⊢; exact h i hi ho
theorem on_ck {T : Tab} (hu : Uniq T) (hh : Host0 T) : onCk (allE T) (allN T) = true := by
  rw [(all_eq T).1, (all_eq T).2]
  have hl := oks_len T
  refine upTo_all fun k hk => ?_
  unfold onNo
  rw [iLt_true.2 (show (k : Int) < 1000000 by omega), Bool.true_and, Int.toNat_natCast]
  refine upTo_all fun j hj => ?_
  rw [tabL_lt hk, tabL_lt (show j < (oks T).length by omega)]
  have hp := List.pairwise_iff_getElem.1 (oks_apart hu) j k (by omega) hk hj
  obtain ⟨a1, i1, a2, a3⟩ := oks_mem (List.getElem_mem hk)
  obtain ⟨b1, i2, b2, b3⟩ := oks_mem (List.getElem_mem (show j < (oks T).length by omega))
  have hA := hh i1 a2 (by rw [a3]; exact a1)
  have hB := hh i2 b2 (by rw [b3]; exact b1)
  rw [a3] at hA
  rw [b3] at hB
  rw [Bool.not_eq_true', Bool.and_eq_false_iff]
  by_cases h1 : (oks T)[k].page = ((oks T)[j]'(by omega)).page
  · right
    rw [iEq_false]
    intro h2
    exact hp ⟨h1.symm, by rw [hA.1, hB.1], h2.symm, by rw [hA.2, hB.2]⟩
  · exact .inl (iEq_false.2 h1)
theorem onTs_inv (pg pk : Nat → Int) : ∀ i, Uniq (onTs pg pk (fun _ => noEn) i) ∧ Host0 (onTs pg pk (fun _ => noEn) i)
  | 0 => ⟨uniq_no, fun _ _ h => by cases h⟩
  | i + 1 => ⟨fill_uniq (onTs_inv pg pk i).1 _ _, host0_fill (onTs_inv pg pk i).2 (e := onE pg (i : Nat)) ⟨rfl, rfl⟩ _⟩
theorem on_gd (m : Nat) (pg pk : Nat → Int) (i : Nat) (hi : i < m) : onGd m pg pk (onTs pg pk (fun _ => noEn) i) i = true := by
  obtain ⟨hu, hh⟩ := onTs_inv pg pk i
  obtain ⟨hu', hh'⟩ := onTs_inv pg pk (i + 1)
  have hT : onTs pg pk (fun _ => noEn) (i + 1) = onT ops pg pk (onTs pg pk (fun _ => noEn) i) (i : Nat) := rfl
  have hF : onT ops pg pk (onTs pg pk (fun _ => noEn) i) (i : Nat) = fillF (onTs pg pk (fun _ => noEn) i) (onE pg (i : Nat)) (iConv .i64 (pk ((i : Int).toNat + 0))) := rfl
  obtain ⟨l1, l2⟩ := fill_look hu (e := onE pg (i : Nat)) rfl (iConv .i64 (pk ((i : Int).toNat + 0)))
  rw [← hF] at l1 l2
  rw [hT] at hu' hh'
  have g1 : onHs ops pg pk (onTs pg pk (fun _ => noEn) i) (i : Nat) = true := l2
  have g2 : onLk ops pg pk (onTs pg pk (fun _ => noEn) i) (i : Nat) = true := by
    unfold onLk
    rw [show ops.lk (onT ops pg pk (onTs pg pk (fun _ => noEn) i) (i : Nat)) (onE pg (i : Nat)).page false (onE pg (i : Nat)).asid 0 = onE pg (i : Nat) from l1]
    exact eqX_refl _
  have g3 := on_ck hu' hh'
  have hl := oks_len (onT ops pg pk (onTs pg pk (fun _ => noEn) i) (i : Nat))
  have g4 : iLt 16 (allN (onT ops pg pk (onTs pg pk (fun _ => noEn) i) (i : Nat))) = false := by rw [iLt_false, (all_eq _).1]; omega
  have g5 : Nat.beq (allN (onT ops pg pk (onTs pg pk (fun _ => noEn) i) (i : Nat))) 0 = false := by
    rw [(all_eq _).1]
    cases hz : Nat.beq (oks (onT ops pg pk (onTs pg pk (fun _ => noEn) i) (i : Nat))).length 0 with
    | false => rfl
    | true =>
      have h0 := List.eq_nil_of_length_eq_zero (Nat.eq_of_beq_eq_true hz)
      unfold hasF at l2
      rcases findF_spec (onT ops pg pk (onTs pg pk (fun _ => noEn) i) (i : Nat)) (onE pg (i : Nat)).page (onE pg (i : Nat)).v (onE pg (i : Nat)).asid (onE pg (i : Nat)).vmid with ⟨h3, _⟩ | ⟨k, k1, _, k3, _⟩
      · rw [h3] at l2; cases l2
      · have := oks_in k1 (keyP_sk.1 k3).1
        rw [h0] at this; cases this
  unfold onGd
  rw [iIn_true.2 (show 0 ≤ (i : Int) ∧ (i : Int) < (m : Nat) by omega), g1, g2, g3, g4, g5]
  rfl

theorem oneP : Plain Try.prog 3 Try.f3 := ⟨Try.func3, of_decide_eq_true (by kernel_rfl)⟩
theorem u8_eq {f : Nat → AV} (h : ∀ i, Of (.int .u8) (f i)) : f = fun j => .it .u8 ((f j).num) := by
  funext j
  obtain ⟨x, hx, _⟩ := of_it (h j)
  rw [hx]; rfl
theorem one_law (es : List Dat) (h : All2 Dat.Is [.sli (.int .u8), .sli (.int .u8)] es) : ∃ m', Small Try.prog 3 (opA es 0) (opM [.sli (.int .u8), .sli (.int .u8)] es Mem.empty) (.bl true) m' := by
  match es, h with
  | [.no, .no], _ => exact ⟨_, small_ok mix fair NPC_ok okHs oneP (fun c _ => OvOk_none c) (onLaw0 ops) rfl rfl rfl rfl rfl rfl⟩
  | [.no, .sl n f], ⟨_, ⟨_, hf⟩, _⟩ =>
    rw [u8_eq hf]
    have hE := onLaw1' ops n fun j => (f j).num
    rw [show (!true) = false from rfl, Om.pick_f, show (bif iLt 100 0 then true else iLt (n : Int) 0) = false by rw [show iLt 100 0 = false from rfl, cond_false, iLt_false]; omega, Om.pick_f] at hE
    exact ⟨_, small_ok mix fair NPC_ok okHs oneP (fun c _ => OvOk_none c) hE rfl rfl rfl rfl rfl rfl⟩
  | [.sl n f, .no], ⟨⟨_, hf⟩, _, _⟩ =>
    rw [u8_eq hf]
    have hE := onLaw1 ops n fun j => (f j).num
    rw [show (!true) = false from rfl, Om.pick_f] at hE
    cases hc : (bif iLt 100 (n : Int) then true else iLt 0 (n : Int)) with
    | true =>
      rw [hc, Om.pick_t] at hE
      exact ⟨_, small_ok mix fair NPC_ok okHs oneP onz_ok hE rfl rfl rfl rfl rfl rfl⟩
    | false =>
      rw [hc, Om.pick_f] at hE
      have : iLt 0 (n : Int) = false := by
        cases h100 : iLt 100 (n : Int) with
        | true => rw [h100] at hc; cases hc
        | false => rw [h100] at hc; exact hc
      exact ⟨_, small_ok mix fair NPC_ok okHs oneP onz_ok hE (by rw [this]; rfl) rfl rfl rfl rfl rfl⟩
  | [.sl n f, .sl m g], ⟨⟨_, hf⟩, ⟨_, hg⟩, _⟩ =>
    rw [u8_eq hf, u8_eq hg]
    have hE := onLaw2 ops onW n m (fun j => (f j).num) (fun j => (g j).num)
    rw [show (!true) = false from rfl, Om.pick_f] at hE
    cases hc : (bif iLt 100 (n : Int) then true else iLt (m : Int) (n : Int)) with
    | true =>
      rw [hc, Om.pick_t] at hE
      exact ⟨_, small_ok mix fair NPC_ok okHs oneP av0_ok hE rfl rfl rfl rfl rfl rfl⟩
    | false =>
      rw [hc, Om.pick_f] at hE
      cases h100 : iLt 100 (n : Int) with
      | true => rw [h100] at hc; cases hc
      | false =>
        rw [h100, cond_false] at hc
        have h1 := iLt_false.1 h100
        have h2 := iLt_false.1 hc
        have hall : onW.all n m (fun j => (f j).num) (fun j => (g j).num) (fun _ => noEn) = true := by
          show (Nat.blt n 1000000 && upTo (fun i => onGd m (fun j => (f j).num) (fun j => (g j).num) (onTs (fun j => (f j).num) (fun j => (g j).num) (fun _ => noEn) i) i) n) = true
          rw [Bool.and_eq_true]
          refine ⟨by rw [Nat.blt_eq]; omega, upTo_all fun i hi => on_gd m _ _ i (by omega)⟩
        exact ⟨_, small_ok mix fair NPC_ok okHs oneP av0_ok hE (by rw [hall]; rfl) rfl rfl rfl rfl rfl⟩
end
end Go.Proofs.Ytcmknfnnapnecaa.PV
