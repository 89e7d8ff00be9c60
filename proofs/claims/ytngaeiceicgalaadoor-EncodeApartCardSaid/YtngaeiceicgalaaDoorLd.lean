/-
  EncodeApart: the plain law.
-/
import Derived.Test.YtngaeiceicgalaaDoorLb
set_option linter.unusedVariables false
set_option linter.unusedSimpArgs false
set_option maxRecDepth 100000
namespace Go.Proofs.YtngaeiceicgalaaDoor.PV
open Go Go.Ev
/- Numerals are read back. -/
def dv (l : List UInt8) : Nat := l.foldl (fun v b => v * 10 + (b.toNat - 48)) 0
theorem dg_nat {d : Nat} (h : d < 10) : (UInt8.ofNat (48 + d)).toNat = 48 + d := by
  rw [UInt8.toNat_ofNat']; omega
theorem dv_dec : ∀ (k n : Nat), n < k → dv (Lib.decDigits n) = n
  | 0, n, h => by omega
  | k + 1, n, h => by
    rw [Lib.decDigits]
    split
    · rename_i h1
      show 0 * 10 + ((UInt8.ofNat (48 + n)).toNat - 48) = n
      rw [dg_nat h1]; omega
    · rename_i h1
      have ih := dv_dec k (n / 10) (by omega)
      unfold dv at ih ⊢
      rw [List.foldl_append, ih]
      show n / 10 * 10 + ((UInt8.ofNat (48 + n % 10)).toNat - 48) = n
      rw [dg_nat (by omega)]; omega
theorem dec_chars : ∀ (k n : Nat), n < k → ∀ b ∈ Lib.decDigits n, 48 ≤ b.toNat ∧ b.toNat ≤ 57
  | 0, n, h => by omega
  | k + 1, n, h => by
    rw [Lib.decDigits]
    split
    · rename_i h1
      intro b hb
      rw [List.mem_singleton.1 hb, dg_nat h1]; omega
    · rename_i h1
      intro b hb
      rcases List.mem_append.1 hb with hb | hb
      · exact dec_chars k (n / 10) (by omega) b hb
      · rw [List.mem_singleton.1 hb, dg_nat (by omega)]; omega
theorem dec_ne (n : Nat) : Lib.decDigits n ≠ [] := by
  intro h
  have := Lib.decDigits_length n
  rw [h] at this
  have h2 : 0 < Lib.nDigits n := by
    rw [Lib.nDigits]; split <;> omega
  simp at this; omega
def iv (l : List UInt8) : Int := if l.head? = some 45 then -(dv l.tail : Int) else dv l
theorem iv_itoa (n : Int) : iv (Lib.itoa n) = n := by
  unfold Lib.itoa iv
  split
  · rename_i h
    rw [if_pos (show (45 :: Lib.decDigits n.natAbs).head? = some 45 from rfl), List.tail_cons, dv_dec _ _ (Nat.lt_succ_self _)]; omega
  · rename_i h
    rw [if_neg, dv_dec _ _ (Nat.lt_succ_self _)]
    · omega
    · intro hh
      have := dec_chars _ n.toNat (Nat.lt_succ_self _) 45 (List.mem_of_head? hh)
      simp at this
theorem itF_itoa {n : Int} (h : i64G n = true) : itF n = Lib.itoa n := by
  unfold i64G at h
  rw [Bool.and_eq_true] at h
  have h1 := iLe_true.1 h.1
  have h2 := iLe_true.1 h.2
  exact itF_eq (by omega) (by omega)
theorem itF_inj {a b : Int} (ha : i64G a = true) (hb : i64G b = true) (h : itF a = itF b) : a = b := by
  rw [itF_itoa ha, itF_itoa hb] at h
  rw [← iv_itoa a, h, iv_itoa]
theorem itF_chars {n : Int} (h : i64G n = true) : ∀ b ∈ itF n, b ≠ 44 ∧ b ≠ 32 := by
  rw [itF_itoa h]
  intro b hb
  have key : ∀ c : UInt8, c ∈ Lib.itoa n → c.toNat = 45 ∨ 48 ≤ c.toNat := fun c hc => by
    unfold Lib.itoa at hc
    split at hc
    · rcases List.mem_cons.1 hc with rfl | hc
      · exact .inl rfl
      · exact .inr (dec_chars _ _ (Nat.lt_succ_self _) c hc).1
    · exact .inr (dec_chars _ _ (Nat.lt_succ_self _) c hc).1
  have := key b hb
  refine ⟨fun e => ?_, fun e => ?_⟩ <;> subst e <;> simp at this
/- Texts that are put together fall apart in one way. -/
theorem cut_eq {c : UInt8} : ∀ {a a' s s' : List UInt8}, (∀ b ∈ a, b ≠ c) → (∀ b ∈ a', b ≠ c) → (s = [] ∨ s.head? = some c) → (s' = [] ∨ s'.head? = some c) → a ++ s = a' ++ s' → a = a' ∧ s = s'
  | [], [], s, s', _, _, _, _, h => ⟨rfl, h⟩
  | x :: a, x' :: a', s, s', h1, h2, h3, h4, h => by
    rw [List.cons_append, List.cons_append, List.cons.injEq] at h
    obtain ⟨rfl, h⟩ := h
    obtain ⟨rfl, rfl⟩ := cut_eq (fun b hb => h1 b (List.mem_cons_of_mem _ hb)) (fun b hb => h2 b (List.mem_cons_of_mem _ hb)) h3 h4 h
    exact ⟨rfl, rfl⟩
  | [], x' :: a', s, s', h1, h2, h3, h4, h => by
    exfalso
    rw [List.nil_append, List.cons_append] at h
    subst h
    rcases h3 with h3 | h3
    · cases h3
    · exact h2 x' List.mem_cons_self (Option.some.inj h3)
  | x :: a, [], s, s', h1, h2, h3, h4, h => by
    exfalso
    rw [List.nil_append, List.cons_append] at h
    subst h
    rcases h4 with h4 | h4
    · cases h4
    · exact h1 x List.mem_cons_self (Option.some.inj h4)
theorem tail_head (r : List (List UInt8)) : Lib.joinTail [44] r = [] ∨ (Lib.joinTail [44] r).head? = some 44 := by
  cases r with
  | nil => exact .inl rfl
  | cons a r => exact .inr rfl
theorem joinTail_inj : ∀ {l l' : List (List UInt8)}, (∀ x ∈ l, ∀ b ∈ x, b ≠ 44) → (∀ x ∈ l', ∀ b ∈ x, b ≠ 44) → Lib.joinTail [44] l = Lib.joinTail [44] l' → l = l'
  | [], [], _, _, _ => rfl
  | a :: r, [], _, _, h => by cases h
  | [], a :: r, _, _, h => by cases h
  | a :: r, a' :: r', h1, h2, h => by
    have h' : a ++ Lib.joinTail [44] r = a' ++ Lib.joinTail [44] r' := by
      have : 44 :: (a ++ Lib.joinTail [44] r) = 44 :: (a' ++ Lib.joinTail [44] r') := h
      exact (List.cons.inj this).2
    obtain ⟨rfl, h3⟩ := cut_eq (h1 a List.mem_cons_self) (h2 a' List.mem_cons_self) (tail_head r) (tail_head r') h'
    rw [joinTail_inj (fun x hx => h1 x (List.mem_cons_of_mem _ hx)) (fun x hx => h2 x (List.mem_cons_of_mem _ hx)) h3]
theorem join_inj {a a' : List UInt8} {r r' : List (List UInt8)} (h1 : ∀ x ∈ a :: r, ∀ b ∈ x, b ≠ 44) (h2 : ∀ x ∈ a' :: r', ∀ b ∈ x, b ≠ 44) (h : Lib.join (a :: r) [44] = Lib.join (a' :: r') [44]) : a :: r = a' :: r' := by
  rw [Lib.join_cons, Lib.join_cons] at h
  exact joinTail_inj h1 h2 (congrArg (fun z => 44 :: z) h)
theorem txF_inj {nm nm' : List UInt8} {l l' : List (List UInt8)} (hn : ∀ b ∈ nm, b ≠ 32) (hn' : ∀ b ∈ nm', b ≠ 32) (h1 : ∀ x ∈ l, ∀ b ∈ x, b ≠ 44) (h2 : ∀ x ∈ l', ∀ b ∈ x, b ≠ 44) (h : txF nm l = txF nm' l') : nm = nm' ∧ l = l' := by
  cases l with
  | nil =>
    cases l' with
    | nil => exact ⟨h, rfl⟩
    | cons a' r' =>
      have h : nm ++ [] = nm' ++ ([32] ++ Lib.join (a' :: r') [44]) := by rw [List.append_nil, ← List.append_assoc]; exact h
      have := (cut_eq hn hn' (.inl rfl) (.inr rfl) h).2
      cases this
  | cons a r =>
    cases l' with
    | nil =>
      have h : nm ++ ([32] ++ Lib.join (a :: r) [44]) = nm' ++ [] := by rw [List.append_nil, ← List.append_assoc]; exact h
      have := (cut_eq hn hn' (.inr rfl) (.inl rfl) h).2
      cases this
    | cons a' r' =>
      have h : nm ++ ([32] ++ Lib.join (a :: r) [44]) = nm' ++ ([32] ++ Lib.join (a' :: r') [44]) := by rw [← List.append_assoc, ← List.append_assoc]; exact h
      obtain ⟨rfl, h3⟩ := cut_eq hn hn' (.inr rfl) (.inr rfl) h
      exact ⟨rfl, join_inj h1 h2 (List.cons.inj h3).2⟩
theorem sel_inj : ∀ (l : List (Bool × List UInt8 × List UInt8)), sel (l.map fun x => (x.1, x.2.1)) = sel (l.map fun x => (x.1, x.2.2)) → ∀ x ∈ l, x.1 = true → x.2.1 = x.2.2
  | [], _, x, hx, _ => by cases hx
  | (c, s, s') :: r, h, x, hx, hc => by
    cases c with
    | false =>
      rcases List.mem_cons.1 hx with rfl | hx
      · cases hc
      · exact sel_inj r h x hx hc
    | true =>
      have h : s :: sel (r.map fun x => (x.1, x.2.1)) = s' :: sel (r.map fun x => (x.1, x.2.2)) := h
      obtain ⟨h1, h2⟩ := List.cons.inj h
      rcases List.mem_cons.1 hx with rfl | hx
      · exact h1
      · exact sel_inj r h2 x hx hc
def opOf (nm : List UInt8) : Option Nat := (List.range 70).find? fun m => insn_Name0 (m : Nat) == nm
theorem facts4 : ∀ n, n < 70 → 1 ≤ n → opOf (insn_Name0 (n : Nat)) = some n ∧ (insn_Name0 (n : Nat)).all (fun b => b != 32 && b != 44) = true := by decide +kernel
theorem name_inj {a b : Int} (ha : 1 ≤ a ∧ a < 70) (hb : 1 ≤ b ∧ b < 70) (h : insn_Name0 a = insn_Name0 b) : a = b := by
  obtain ⟨n, rfl⟩ := Int.eq_ofNat_of_zero_le (show 0 ≤ a by omega)
  obtain ⟨m, rfl⟩ := Int.eq_ofNat_of_zero_le (show 0 ≤ b by omega)
  have h1 := (facts4 n (by omega) (by omega)).1
  have h2 := (facts4 m (by omega) (by omega)).1
  rw [h, h2] at h1
  rw [Option.some.inj h1]
theorem name_chars {a : Int} (ha : 1 ≤ a ∧ a < 70) : ∀ b ∈ insn_Name0 a, b ≠ 32 ∧ b ≠ 44 := by
  obtain ⟨n, rfl⟩ := Int.eq_ofNat_of_zero_le (show 0 ≤ a by omega)
  intro b hb
  have := List.all_eq_true.1 (facts4 n (by omega) (by omega)).2 b hb
  simpa using this
theorem sel_mem : ∀ {l : List (Bool × List UInt8)} {x : List UInt8}, x ∈ sel l → ∃ c, (c, x) ∈ l
  | [], x, h => by cases h
  | (c, s) :: r, x, h => by
    cases c with
    | false => obtain ⟨c', h'⟩ := sel_mem (l := r) h; exact ⟨c', List.mem_cons_of_mem _ h'⟩
    | true =>
      rcases List.mem_cons.1 h with rfl | h
      · exact ⟨true, List.mem_cons_self⟩
      · obtain ⟨c', h'⟩ := sel_mem (l := r) h; exact ⟨c', List.mem_cons_of_mem _ h'⟩
theorem pcs_chars {e : In6} (h : isI e = true) : ∀ x ∈ sel (pcs e), ∀ b ∈ x, b ≠ 44 ∧ b ≠ 32 := by
  obtain ⟨h0, h1, h2, h3, h4, h5⟩ := is_parts h
  intro x hx
  obtain ⟨c, hc⟩ := sel_mem hx
  have key : ∀ n : Int, i64G n = true → ∀ b ∈ 120 :: itF n, b ≠ 44 ∧ b ≠ 32 := fun n hn b hb => by
    rcases List.mem_cons.1 hb with rfl | hb
    · exact ⟨by decide, by decide⟩
    · exact itF_chars hn b hb
  unfold pcs at hc
  simp only [List.mem_cons, List.not_mem_nil, _root_.or_false, Prod.mk.injEq] at hc
  rcases hc with ⟨_, rfl⟩ | ⟨_, rfl⟩ | ⟨_, rfl⟩ | ⟨_, rfl⟩ | ⟨_, rfl⟩
  · exact key _ (i64_ok (by omega) (by omega))
  · exact itF_chars (i64_ok (by omega) (by omega))
  · exact key _ (i64_ok (by omega) (by omega))
  · exact key _ (i64_ok (by omega) (by omega))
  · exact itF_chars (i64_ok (by omega) (by omega))
theorem text_inj {a b : In6} (ha : isI a = true) (hb : isI b = true) (h : textV a = textV b) : a = b := by
  obtain ⟨a0, a1, a2, a3, a4, a5⟩ := is_parts ha
  obtain ⟨b0, b1, b2, b3, b4, b5⟩ := is_parts hb
  unfold textV at h
  rw [ha, hb, cond_true, cond_true] at h
  obtain ⟨hn, hl⟩ := txF_inj (fun x hx => (name_chars a0 x hx).1) (fun x hx => (name_chars b0 x hx).1) (fun x hx b hb => (pcs_chars ha x hx b hb).1) (fun x hx b' hb' => (pcs_chars hb x hx b' hb').1) h
  have hop := name_inj a0 b0 hn
  obtain ⟨op, rd, r1, r2, im, cs⟩ := a
  obtain ⟨op', rd', r1', r2', im', cs'⟩ := b
  simp only at hop a1 a2 a3 a4 a5 b1 b2 b3 b4 b5
  subst hop
  have hs := sel_inj [(insn_Of0 op, 120 :: itF rd, 120 :: itF rd'), (insn_Of1 op, itF cs, itF cs'), (insn_Of2 op, 120 :: itF r1, 120 :: itF r1'), (insn_Of3 op, 120 :: itF r2, 120 :: itF r2'), (iLt 0 (insn_Of6 op), itF im, itF im')] hl
  have e1 : rd = rd' := by
    cases hc : insn_Of0 op with
    | false => rw [a1.2.2 hc, b1.2.2 hc]
    | true => exact itF_inj (i64_ok (by omega) (by omega)) (i64_ok (by omega) (by omega)) (List.cons.inj (hs _ List.mem_cons_self hc)).2
  have e2 : cs = cs' := by
    cases hc : insn_Of1 op with
    | false => rw [a4.2.2 hc, b4.2.2 hc]
    | true => exact itF_inj (i64_ok (by omega) (by omega)) (i64_ok (by omega) (by omega)) (hs _ (List.mem_cons_of_mem _ List.mem_cons_self) hc)
  have e3 : r1 = r1' := by
    cases hc : insn_Of2 op with
    | false => rw [a2.2.2 hc, b2.2.2 hc]
    | true => exact itF_inj (i64_ok (by omega) (by omega)) (i64_ok (by omega) (by omega)) (List.cons.inj (hs _ (List.mem_cons_of_mem _ (List.mem_cons_of_mem _ List.mem_cons_self)) hc)).2
  have e4 : r2 = r2' := by
    cases hc : insn_Of3 op with
    | false => rw [a3.2.2 hc, b3.2.2 hc]
    | true => exact itF_inj (i64_ok (by omega) (by omega)) (i64_ok (by omega) (by omega)) (List.cons.inj (hs _ (List.mem_cons_of_mem _ (List.mem_cons_of_mem _ (List.mem_cons_of_mem _ List.mem_cons_self))) hc)).2
  have e5 : im = im' := by
    cases hc : iLt 0 (insn_Of6 op) with
    | false => rw [a5.2.2 hc, b5.2.2 hc]
    | true => exact itF_inj (i64_ok (by omega) (by omega)) (i64_ok (by omega) (by omega)) (hs _ (List.mem_cons_of_mem _ (List.mem_cons_of_mem _ (List.mem_cons_of_mem _ (List.mem_cons_of_mem _ List.mem_cons_self)))) hc)
  subst e1 e2 e3 e4 e5
  rfl
theorem text_ne {e : In6} (h : isI e = true) : textV e ≠ [] := by
  have h0 := (is_parts h).1
  have hn := (name_eq h0).2
  unfold textV
  rw [h, cond_true]
  cases sel (pcs e) with
  | nil => exact hn
  | cons a r =>
    intro h'
    have : insn_Name0 e.op ++ [32] ++ Lib.join (a :: r) [44] = [] := h'
    simp at this
theorem apartE (a b : In6) : pcOf Tryd.prog okT (lookR TE) HR RO NOV 100 false Tryd.f5 [in6 a, in6 b] =
    brC (bif iNe (enE a) 0 then true else iNe (enE b) 0) (some (true, .bl (sEq (textV a) [] == iNe (enE a) 0))) (some (true, .bl (anB (iEq (enW a) (enW b) == eq6 a b) (sEq (textV a) (textV b) == eq6 a b)))) := by kernel_rfl
theorem apartP : Plain Tryd.prog 5 Tryd.f5 := ⟨Tryd.func5, of_decide_eq_true (by kernel_rfl)⟩
theorem apart_true (a b : In6) : pcOf Tryd.prog okT (lookR TE) HR RO NOV 100 false Tryd.f5 [in6 a, in6 b] = some (true, .bl true) := by
  rw [apartE, enE_is, enE_is]
  cases ha : isI a with
  | false =>
    rw [show textV a = [] by unfold textV; rw [ha]; rfl]
    exact brC_t
  | true =>
    have h1 : sEq (textV a) [] = false := by
      unfold sEq
      cases h : textV a with
      | nil => exact absurd h (text_ne ha)
      | cons x r => rfl
    cases hb : isI b with
    | false =>
      rw [h1]
      exact brC_t
    | true =>
      have h2 : iEq (enW a) (enW b) = eq6 a b := by
        rw [Bool.eq_iff_iff, iEq_true, eq6_true]
        constructor
        · intro h
          rw [← (de_made ha rfl).1, h, (de_made hb rfl).1]
        · intro h; rw [h]
      have h3 : sEq (textV a) (textV b) = eq6 a b := by
        rw [Bool.eq_iff_iff, eq6_true]
        unfold sEq
        rw [beq_iff_eq]
        exact ⟨text_inj ha hb, fun h => by rw [h]⟩
      rw [h2, h3]
      cases eq6 a b <;> exact brC_f
theorem apart_law (g : Nat → AV) (hg : Ofs [inSh, inSh] (norms [inSh, inSh] 0 g)) : Gives Tryd.prog 5 (norms [inSh, inSh] 0 g) (.bl true) :=
  pcOf_ok mix fair TE_ok HR_ok apartP (fun c _ => OvOk_none c) (apart_true (de6 (g 0)) (de6 (g 1))) rfl
end Go.Proofs.YtngaeiceicgalaaDoor.PV
