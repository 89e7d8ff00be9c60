/-
  Tables of entries: plain facts.
-/
import Derived.Test.YtcmknfnnapnecaaUl
set_option linter.unusedVariables false
set_option linter.unusedSimpArgs false
set_option maxRecDepth 100000
namespace Go.Proofs.Ytcmknfnnapnecaa.PV
noncomputable section
open Go Go.Ev

theorem firstF_spec {p : Nat → Bool} : ∀ (n i : Nat), (firstF p n i = -1 ∧ ∀ j, i ≤ j → j < i + n → p j = false) ∨ ∃ k, i ≤ k ∧ k < i + n ∧ firstF p n i = (k : Int) ∧ p k = true ∧ ∀ j, i ≤ j → j < k → p j = false
  | 0, i => .inl ⟨rfl, fun j h1 h2 => by omega⟩
  | n + 1, i => by
    unfold firstF
    cases hp : p i with
    | true => exact .inr ⟨i, Nat.le_refl _, by omega, rfl, hp, fun j h1 h2 => by omega⟩
    | false =>
      rw [cond_false]
      rcases firstF_spec n (i + 1) with ⟨h1, h2⟩ | ⟨k, h1, h2, h3, h4, h5⟩
      · refine .inl ⟨h1, fun j g1 g2 => ?_⟩
        rcases Nat.eq_or_lt_of_le g1 with h | h
        · subst h; exact hp
        · exact h2 j h (by omega)
      · refine .inr ⟨k, by omega, by omega, h3, h4, fun j g1 g2 => ?_⟩
        rcases Nat.eq_or_lt_of_le g1 with h | h
        · subst h; exact hp
        · exact h5 j h g2
/-- Two entries of one key. -/
def sk (a b : En) : Prop := a.page = b.page ∧ a.v = b.v ∧ a.asid = b.asid ∧ a.vmid = b.vmid
theorem sk.symm {a b : En} (h : sk a b) : sk b a := ⟨h.1.symm, h.2.1.symm, h.2.2.1.symm, h.2.2.2.symm⟩
theorem sk.trans {a b c : En} (h : sk a b) (h' : sk b c) : sk a c := ⟨h.1.trans h'.1, h.2.1.trans h'.2.1, h.2.2.1.trans h'.2.2.1, h.2.2.2.trans h'.2.2.2⟩
theorem keyP_iff {e : En} {page : Int} {v : Bool} {asid vmid : Int} : keyP e page v asid vmid = true ↔ e.ok = true ∧ e.page = page ∧ e.v = v ∧ e.asid = asid ∧ e.vmid = vmid := by
  unfold keyP
  cases e.ok with
  | false => simp
  | true => simp [iEq_true]
theorem keyP_sk {a e : En} : keyP a e.page e.v e.asid e.vmid = true ↔ a.ok = true ∧ sk a e := keyP_iff
theorem findF_spec (T : Tab) (page : Int) (v : Bool) (asid vmid : Int) : (findF T page v asid vmid = -1 ∧ ∀ j, j < 16 → keyP (T j) page v asid vmid = false) ∨
    ∃ k : Nat, k < 16 ∧ findF T page v asid vmid = (k : Int) ∧ keyP (T k) page v asid vmid = true ∧ ∀ j, j < k → keyP (T j) page v asid vmid = false := by
  rcases firstF_spec (p := fun i => keyP (T i) page v asid vmid) 16 0 with ⟨h1, h2⟩ | ⟨k, h1, h2, h3, h4, h5⟩
  · exact .inl ⟨h1, fun j hj => h2 j (Nat.zero_le _) (by omega)⟩
  · exact .inr ⟨k, by omega, h3, h4, fun j hj => h5 j (Nat.zero_le _) hj⟩
theorem freeF_spec (T : Tab) : (freeF T = -1 ∧ ∀ j, j < 16 → (T j).ok = true) ∨ ∃ k : Nat, k < 16 ∧ freeF T = (k : Int) ∧ (T k).ok = false ∧ ∀ j, j < k → (T j).ok = true := by
  rcases firstF_spec (p := fun i => !(T i).ok) 16 0 with ⟨h1, h2⟩ | ⟨k, h1, h2, h3, h4, h5⟩
  · exact .inl ⟨h1, fun j hj => by simpa using h2 j (Nat.zero_le _) (by omega)⟩
  · exact .inr ⟨k, by omega, h3, by simpa using h4, fun j hj => by simpa using h5 j (Nat.zero_le _) hj⟩
/-- No two entries of a table are of one key. -/
def Uniq (T : Tab) : Prop := ∀ i j, i < 16 → j < 16 → (T i).ok = true → (T j).ok = true → sk (T i) (T j) → i = j
theorem find_is {T : Tab} (hu : Uniq T) {e : En} {k : Nat} (hk : k < 16) (h1 : (T k).ok = true) (h2 : sk (T k) e) : findF T e.page e.v e.asid e.vmid = (k : Int) := by
  rcases findF_spec T e.page e.v e.asid e.vmid with ⟨_, h4⟩ | ⟨k', g1, g2, g3, g4⟩
  · have := h4 k hk
    rw [keyP_sk.2 ⟨h1, h2⟩] at this; cases this
  · obtain ⟨q1, q2⟩ := keyP_sk.1 g3
    have := hu k' k g1 hk q1 h1 (q2.trans h2.symm)
    subst this
    exact g2
theorem find_no {T : Tab} {page : Int} {v : Bool} {asid vmid : Int} (h : ∀ j, j < 16 → keyP (T j) page v asid vmid = false) : findF T page v asid vmid = -1 := by
  rcases findF_spec T page v asid vmid with ⟨h3, _⟩ | ⟨k', g1, _, g3, _⟩
  · exact h3
  · rw [h k' g1] at g3; cases g3
theorem putF_at (T : Tab) (k : Nat) (e : En) : putF T k e k = e := by simp [putF]
theorem putF_ne (T : Tab) {k i : Nat} (e : En) (h : i ≠ k) : putF T k e i = T i := by
  unfold putF
  rw [show (i == k) = false by simpa using h]; rfl
theorem slot_is {T : Tab} (hu : Uniq T) {e : En} {pick : Int} {j : Nat} (hj : j < 16) (h1 : (T j).ok = true) (h2 : sk (T j) e) : slotF T e pick = (j : Int) := by
  unfold slotF
  rw [find_is hu hj h1 h2, iLt_false.2 (show (0 : Int) ≤ j by omega)]; rfl
theorem fill_uniq {T : Tab} (hu : Uniq T) (e : En) (pick : Int) : Uniq (fillF T e pick) := by
  unfold fillF
  cases he : e.ok with
  | false => exact hu
  | true =>
  rw [cond_true]
  have hs := slotF_in T e pick
  have key : ∀ j, j < 16 → j ≠ (slotF T e pick).toNat → (T j).ok = true → ¬ sk (T j) e := fun j hj hne h1 h2 => hne (by rw [slot_is hu hj h1 h2]; simp)
  intro i j hi hj h1 h2 h3
  by_cases hi' : i = (slotF T e pick).toNat
  · by_cases hj' : j = (slotF T e pick).toNat
    · rw [hi', hj']
    · rw [putF_ne T e hj'] at h2 h3
      rw [hi', putF_at] at h3
      exact absurd h3.symm (key j hj hj' h2)
  · rw [putF_ne T e hi'] at h1 h3
    by_cases hj' : j = (slotF T e pick).toNat
    · rw [hj', putF_at] at h3
      exact absurd h3 (key i hi hi' h1)
    · rw [putF_ne T e hj'] at h2 h3
      exact hu i j hi hj h1 h2 h3
theorem fill_look {T : Tab} (hu : Uniq T) {e : En} (he : e.ok = true) (pick : Int) : lookF (fillF T e pick) e.page e.v e.asid e.vmid = e ∧ hasF (fillF T e pick) e.page e.v e.asid e.vmid = true := by
  have hs := slotF_in T e pick
  have hu' := fill_uniq hu e pick
  have h0 : fillF T e pick = putF T (slotF T e pick).toNat e := by unfold fillF; rw [he]; rfl
  have h1 : fillF T e pick (slotF T e pick).toNat = e := by rw [h0, putF_at]
  have hf := find_is hu' (e := e) (k := (slotF T e pick).toNat) (by omega) (by rw [h1]; exact he) (by rw [h1]; exact ⟨rfl, rfl, rfl, rfl⟩)
  unfold lookF hasF
  rw [hf, iLt_false.2 (Int.natCast_nonneg _), iLe_true.2 (Int.natCast_nonneg _)]
  exact ⟨h1, rfl⟩
theorem uniq_no : Uniq fun _ => noEn := fun _ _ _ _ h => by cases h

/- Tables by lists. -/
def tabL (l : List En) : Tab := fun i => l.getD i noEn
theorem tabL_lt {l : List En} {i : Nat} (h : i < l.length) : tabL l i = l[i] := by simp [tabL, h]
theorem tabL_ge {l : List En} {i : Nat} (h : l.length ≤ i) : tabL l i = noEn := by simp [tabL, h]
theorem tabL_nil : tabL [] = fun _ => noEn := rfl
theorem tabL_push (l : List En) (e : En) (j : Nat) : tabL (l ++ [e]) j = if j < l.length then tabL l j else if j = l.length then e else noEn := by
  unfold tabL
  rcases Nat.lt_trichotomy j l.length with h | h | h
  · rw [if_pos h]; simp [List.getD_eq_getElem?_getD, List.getElem?_append_left h]
  · subst h; simp
  · rw [if_neg (by omega), if_neg (by omega)]
    rw [List.getD_eq_getElem?_getD, List.getElem?_eq_none (by simp; omega)]; rfl
theorem pushE_tabL (l : List En) (e : En) : pushE l.length (tabL l) e = tabL (l ++ [e]) := by
  funext j
  rw [tabL_push]
  cases l with
  | nil => cases j <;> rfl
  | cons a l =>
    show addE (l.length + 1) (tabL (a :: l)) e j = _
    unfold addE
    simp only [List.length_cons, Nat.add_zero]
    by_cases h : j < l.length + 1
    · rw [if_pos h, decide_eq_true h]; rfl
    · rw [if_neg h, decide_eq_false h]
      by_cases h2 : j = l.length + 1
      · subst h2; simp
      · rw [if_neg h2, show (j - (l.length + 1) == 0) = false by simp; omega]; rfl
/-- The entries that there are. -/
def oks (T : Tab) : List En := ((List.range 16).map T).filter fun e => e.ok
theorem allZ_eq (T : Tab) : ∀ (k i : Nat) (l : List En), allZ T k i (l.length, tabL l) = ((l ++ ((List.range' i k).map T).filter fun e => e.ok).length, tabL (l ++ ((List.range' i k).map T).filter fun e => e.ok))
  | 0, i, l => by simp [allZ]
  | k + 1, i, l => by
    unfold allZ
    cases h : (T i).ok with
    | true =>
      have := allZ_eq T k (i + 1) (l ++ [T i])
      simp only [List.length_append, List.length_cons, List.length_nil] at this
      simp only [cond_true, pushE_tabL]
      rw [this]
      simp [List.range'_succ, h]
      omega
    | false =>
      simp only [cond_false]
      rw [allZ_eq T k (i + 1) l]
      simp [List.range'_succ, h]
theorem all_eq (T : Tab) : allN T = (oks T).length ∧ allE T = tabL (oks T) := by
  have := allZ_eq T 16 0 []
  have h0 : allZ T 16 0 (0, fun _ => noEn) = ((oks T).length, tabL (oks T)) := by
    rw [← tabL_nil]
    rw [show oks T = [] ++ ((List.range' 0 16).map T).filter fun e => e.ok by rw [List.nil_append, ← List.range_eq_range']; rfl]
    exact this
  unfold allN allE
  rw [h0]
  exact ⟨rfl, rfl⟩
theorem oks_tabL {l : List En} (hl : l.length ≤ 16) (ho : ∀ e ∈ l, e.ok = true) : oks (tabL l) = l := by
  unfold oks
  have h : List.range 16 = List.range l.length ++ (List.range (16 - l.length)).map (l.length + ·) := by
    rw [← List.range_add]; congr 1; omega
  rw [h, List.map_append, List.filter_append]
  have h1 : (List.range l.length).map (tabL l) = l := by
    apply List.ext_getElem
    · simp
    · intro i h1 h2
      simp only [List.getElem_map, List.getElem_range]
      exact tabL_lt h2
  have h2 : (((List.range (16 - l.length)).map (l.length + ·)).map (tabL l)).filter (fun e => e.ok) = [] := by
    rw [List.filter_eq_nil_iff]
    intro e he
    simp only [List.mem_map, List.mem_range] at he
    obtain ⟨_, ⟨j, _, rfl⟩, rfl⟩ := he
    rw [tabL_ge (by omega)]; simp [noEn]
  rw [h1, h2, List.append_nil, List.filter_eq_self]
  exact ho
theorem uniq_tabL {l : List En} (h : ∀ i j (hi : i < l.length) (hj : j < l.length), sk l[i] l[j] → i = j) : Uniq (tabL l) := fun i j _ _ h1 h2 h3 => by
  rcases Nat.lt_or_ge i l.length with hi | hi
  · rcases Nat.lt_or_ge j l.length with hj | hj
    · rw [tabL_lt hi, tabL_lt hj] at h3; exact h i j hi hj h3
    · rw [tabL_ge hj] at h2; cases h2
  · rw [tabL_ge hi] at h1; cases h1
/-- A new entry where there is room. -/
theorem fill_push {l : List En} (hl : l.length < 16) (ho : ∀ e ∈ l, e.ok = true) {e : En} (he : e.ok = true) (hn : ∀ a ∈ l, ¬ sk a e) (pick : Int) : fillF (tabL l) e pick = tabL (l ++ [e]) := by
  have hf : findF (tabL l) e.page e.v e.asid e.vmid = -1 := find_no fun j hj => by
    rcases Nat.lt_or_ge j l.length with h | h
    · rw [tabL_lt h]
      cases hk : keyP l[j] e.page e.v e.asid e.vmid with
      | false => rfl
      | true => exact absurd (keyP_sk.1 hk).2 (hn _ (List.getElem_mem h))
    · rw [tabL_ge h]; rfl
  have hg : freeF (tabL l) = (l.length : Int) := by
    rcases freeF_spec (tabL l) with ⟨_, h⟩ | ⟨k, h1, h2, h3, h4⟩
    · have := h l.length hl
      rw [tabL_ge (Nat.le_refl _)] at this; cases this
    · rcases Nat.lt_trichotomy k l.length with h | h | h
      · rw [tabL_lt h, ho _ (List.getElem_mem h)] at h3; cases h3
      · rw [h2, h]
      · have := h4 l.length h
        rw [tabL_ge (Nat.le_refl _)] at this; cases this
  have hs : slotF (tabL l) e pick = (l.length : Int) := by
    unfold slotF
    rw [hf, hg, iLt_false.2 (show (0 : Int) ≤ (l.length : Int) by omega)]; rfl
  unfold fillF
  rw [he, cond_true, hs, Int.toNat_natCast]
  funext j
  rw [tabL_push]
  by_cases h : j = l.length
  · subst h; rw [putF_at, if_neg (Nat.lt_irrefl _), if_pos rfl]
  · rw [putF_ne _ _ h]
    by_cases h2 : j < l.length
    · rw [if_pos h2]
    · rw [if_neg h2, if_neg h, tabL_ge (by omega)]
end
end Go.Proofs.Ytcmknfnnapnecaa.PV
