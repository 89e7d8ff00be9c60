/-
  EncodeTexts: the plain law (the first part is Ld's text: a claim has at most 60 files).
-/
import Derived.Test.YtngaeiceicgalaaDoorLb
import Derived.Test.YtngaeiceicgalaaDoorEwF
set_option linter.unusedVariables false
set_option linter.unusedSimpArgs false
set_option maxRecDepth 100000
namespace Go.Proofs.YtngaeiceicgalaaDoor.PV
open Go Go.Ev
/- Numerals are read back. -/
def dv (l : List UInt8) : Nat := l.foldl (fun v b => v * 10 + (b.toNat - 48)) 0
theorem dg_nat {d : Nat} (h : d < 10) : (UInt8.ofNat (48 + d)).toNat = 48 + d := by
  rw [UInt8.toNat_ofNat']; omega
theorem dv_dec : ∀ (k n : Nat), n < k → dv (Lib.decDigits n) = n
  | 0, n, h => by omega
  | k + 1, n, h => by
    rw [Lib.decDigits]
    split
    · rename_i h1
      show 0 * 10 + ((UInt8.ofNat (48 + n)).toNat - 48) = n
      rw [dg_nat h1]; omega
    · rename_i h1
      have ih := dv_dec k (n / 10) (by omega)
      unfold dv at ih ⊢
      rw [List.foldl_append, ih]
      show n / 10 * 10 + ((UInt8.ofNat (48 + n % 10)).toNat - 48) = n
      rw [dg_nat (by omega)]; omega
theorem dec_chars : ∀ (k n : Nat), n < k → ∀ b ∈ Lib.decDigits n, 48 ≤ b.toNat ∧ b.toNat ≤ 57
  | 0, n, h => by omega
  | k + 1, n, h => by
    rw [Lib.decDigits]
    split
    · rename_i h1
      intro b hb
      rw [List.mem_singleton.1 hb, dg_nat h1]; omega
    · rename_i h1
      intro b hb
      rcases List.mem_append.1 hb with hb | hb
      · exact dec_chars k (n / 10) (by omega) b hb
      · rw [List.mem_singleton.1 hb, dg_nat (by omega)]; omega
theorem dec_ne (n : Nat) : Lib.decDigits n ≠ [] := by
  intro h
  have := Lib.decDigits_length n
  rw [h] at this
  have h2 : 0 < Lib.nDigits n := by
    rw [Lib.nDigits]; split <;> omega
  simp at this; omega
def iv (l : List UInt8) : Int := if l.head? = some 45 then -(dv l.tail : Int) else dv l
theorem iv_itoa (n : Int) : iv (Lib.itoa n) = n := by
  unfold Lib.itoa iv
  split
  · rename_i h
    rw [if_pos (show (45 :: Lib.decDigits n.natAbs).head? = some 45 from rfl), List.tail_cons, dv_dec _ _ (Nat.lt_succ_self _)]; omega
  · rename_i h
    rw [if_neg, dv_dec _ _ (Nat.lt_succ_self _)]
    · omega
    · intro hh
      have := dec_chars _ n.toNat (Nat.lt_succ_self _) 45 (List.mem_of_head? hh)
      simp at this
theorem itF_itoa {n : Int} (h : i64G n = true) : itF n = Lib.itoa n := by
  unfold i64G at h
  rw [Bool.and_eq_true] at h
  have h1 := iLe_true.1 h.1
  have h2 := iLe_true.1 h.2
  exact itF_eq (by omega) (by omega)
theorem itF_inj {a b : Int} (ha : i64G a = true) (hb : i64G b = true) (h : itF a = itF b) : a = b := by
  rw [itF_itoa ha, itF_itoa hb] at h
  rw [← iv_itoa a, h, iv_itoa]
theorem itF_chars {n : Int} (h : i64G n = true) : ∀ b ∈ itF n, b ≠ 44 ∧ b ≠ 32 := by
  rw [itF_itoa h]
  intro b hb
  have key : ∀ c : UInt8, c ∈ Lib.itoa n → c.toNat = 45 ∨ 48 ≤ c.toNat := fun c hc => by
    unfold Lib.itoa at hc
    split at hc
    · rcases List.mem_cons.1 hc with rfl | hc
      · exact .inl rfl
      · exact .inr (dec_chars _ _ (Nat.lt_succ_self _) c hc).1
    · exact .inr (dec_chars _ _ (Nat.lt_succ_self _) c hc).1
  have := key b hb
  refine ⟨fun e => ?_, fun e => ?_⟩ <;> subst e <;> simp at this
/- Texts that are put together fall apart in one way. -/
theorem cut_eq {c : UInt8} : ∀ {a a' s s' : List UInt8}, (∀ b ∈ a, b ≠ c) → (∀ b ∈ a', b ≠ c) → (s = [] ∨ s.head? = some c) → (s' = [] ∨ s'.head? = some c) → a ++ s = a' ++ s' → a = a' ∧ s = s'
  | [], [], s, s', _, _, _, _, h => ⟨rfl, h⟩
  | x :: a, x' :: a', s, s', h1, h2, h3, h4, h => by
    rw [List.cons_append, List.cons_append, List.cons.injEq] at h
    obtain ⟨rfl, h⟩ := h
    obtain ⟨rfl, rfl⟩ := cut_eq (fun b hb => h1 b (List.mem_cons_of_mem _ hb)) (fun b hb => h2 b (List.mem_cons_of_mem _ hb)) h3 h4 h
    exact ⟨rfl, rfl⟩
  | [], x' :: a', s, s', h1, h2, h3, h4, h => by
    exfalso
    rw [List.nil_append, List.cons_append] at h
    subst h
    rcases h3 with h3 | h3
    · cases h3
    · exact h2 x' List.mem_cons_self (Option.some.inj h3)
  | x :: a, [], s, s', h1, h2, h3, h4, h => by
    exfalso
    rw [List.nil_append, List.cons_append] at h
    subst h
    rcases h4 with h4 | h4
    · cases h4
    · exact h1 x List.mem_cons_self (Option.some.inj h4)
theorem tail_head (r : List (List UInt8)) : Lib.joinTail [44] r = [] ∨ (Lib.joinTail [44] r).head? = some 44 := by
  cases r with
  | nil => exact .inl rfl
  | cons a r => exact .inr rfl
theorem joinTail_inj : ∀ {l l' : List (List UInt8)}, (∀ x ∈ l, ∀ b ∈ x, b ≠ 44) → (∀ x ∈ l', ∀ b ∈ x, b ≠ 44) → Lib.joinTail [44] l = Lib.joinTail [44] l' → l = l'
  | [], [], _, _, _ => rfl
  | a :: r, [], _, _, h => by cases h
  | [], a :: r, _, _, h => by cases h
  | a :: r, a' :: r', h1, h2, h => by
    have h' : a ++ Lib.joinTail [44] r = a' ++ Lib.joinTail [44] r' := by
      have : 44 :: (a ++ Lib.joinTail [44] r) = 44 :: (a' ++ Lib.joinTail [44] r') := h
      exact (List.cons.inj this).2
    obtain ⟨rfl, h3⟩ := cut_eq (h1 a List.mem_cons_self) (h2 a' List.mem_cons_self) (tail_head r) (tail_head r') h'
    rw [joinTail_inj (fun x hx => h1 x (List.mem_cons_of_mem _ hx)) (fun x hx => h2 x (List.mem_cons_of_mem _ hx)) h3]
theorem join_inj {a a' : List UInt8} {r r' : List (List UInt8)} (h1 : ∀ x ∈ a :: r, ∀ b ∈ x, b ≠ 44) (h2 : ∀ x ∈ a' :: r', ∀ b ∈ x, b ≠ 44) (h : Lib.join (a :: r) [44] = Lib.join (a' :: r') [44]) : a :: r = a' :: r' := by
  rw [Lib.join_cons, Lib.join_cons] at h
  exact joinTail_inj h1 h2 (congrArg (fun z => 44 :: z) h)
theorem txF_inj {nm nm' : List UInt8} {l l' : List (List UInt8)} (hn : ∀ b ∈ nm, b ≠ 32) (hn' : ∀ b ∈ nm', b ≠ 32) (h1 : ∀ x ∈ l, ∀ b ∈ x, b ≠ 44) (h2 : ∀ x ∈ l', ∀ b ∈ x, b ≠ 44) (h : txF nm l = txF nm' l') : nm = nm' ∧ l = l' := by
  cases l with
  | nil =>
    cases l' with
    | nil => exact ⟨h, rfl⟩
    | cons a' r' =>
      have h : nm ++ [] = nm' ++ ([32] ++ Lib.join (a' :: r') [44]) := by rw [List.append_nil, ← List.append_assoc]; exact h
      have := (cut_eq hn hn' (.inl rfl) (.inr rfl) h).2
      cases this
  | cons a r =>
    cases l' with
    | nil =>
      have h : nm ++ ([32] ++ Lib.join (a :: r) [44]) = nm' ++ [] := by rw [List.append_nil, ← List.append_assoc]; exact h
      have := (cut_eq hn hn' (.inr rfl) (.inl rfl) h).2
      cases this
    | cons a' r' =>
      have h : nm ++ ([32] ++ Lib.join (a :: r) [44]) = nm' ++ ([32] ++ Lib.join (a' :: r') [44]) := by rw [← List.append_assoc, ← List.append_assoc]; exact h
      obtain ⟨rfl, h3⟩ := cut_eq hn hn' (.inr rfl) (.inr rfl) h
      exact ⟨rfl, join_inj h1 h2 (List.cons.inj h3).2⟩
theorem sel_inj : ∀ (l : List (Bool × List UInt8 × List UInt8)), sel (l.map fun x => (x.1, x.2.1)) = sel (l.map fun x => (x.1, x.2.2)) → ∀ x ∈ l, x.1 = true → x.2.1 = x.2.2
  | [], _, x, hx, _ => by cases hx
  | (c, s, s') :: r, h, x, hx, hc => by
    cases c with
    | false =>
      rcases List.mem_cons.1 hx with rfl | hx
      · cases hc
      · exact sel_inj r h x hx hc
    | true =>
      have h : s :: sel (r.map fun x => (x.1, x.2.1)) = s' :: sel (r.map fun x => (x.1, x.2.2)) := h
      obtain ⟨h1, h2⟩ := List.cons.inj h
      rcases List.mem_cons.1 hx with rfl | hx
      · exact h1
      · exact sel_inj r h2 x hx hc
def opOf (nm : List UInt8) : Option Nat := (List.range 70).find? fun m => insn_Name0 (m : Nat) == nm
theorem facts4 : ∀ n, n < 70 → 1 ≤ n → opOf (insn_Name0 (n : Nat)) = some n ∧ (insn_Name0 (n : Nat)).all (fun b => b != 32 && b != 44) = true := by decide +kernel
theorem name_inj {a b : Int} (ha : 1 ≤ a ∧ a < 70) (hb : 1 ≤ b ∧ b < 70) (h : insn_Name0 a = insn_Name0 b) : a = b := by
  obtain ⟨n, rfl⟩ := Int.eq_ofNat_of_zero_le (show 0 ≤ a by omega)
  obtain ⟨m, rfl⟩ := Int.eq_ofNat_of_zero_le (show 0 ≤ b by omega)
  have h1 := (facts4 n (by omega) (by omega)).1
  have h2 := (facts4 m (by omega) (by omega)).1
  rw [h, h2] at h1
  rw [Option.some.inj h1]
theorem name_chars {a : Int} (ha : 1 ≤ a ∧ a < 70) : ∀ b ∈ insn_Name0 a, b ≠ 32 ∧ b ≠ 44 := by
  obtain ⟨n, rfl⟩ := Int.eq_ofNat_of_zero_le (show 0 ≤ a by omega)
  intro b hb
  have := List.all_eq_true.1 (facts4 n (by omega) (by omega)).2 b hb
  simpa using this
theorem sel_mem : ∀ {l : List (Bool × List UInt8)} {x : List UInt8}, x ∈ sel l → ∃ c, (c, x) ∈ l
  | [], x, h => by cases h
  | (c, s) :: r, x, h => by
    cases c with
    | false => obtain ⟨c', h'⟩ := sel_mem (l := r) h; exact ⟨c', List.mem_cons_of_mem _ h'⟩
    | true =>
      rcases List.mem_cons.1 h with rfl | h
      · exact ⟨true, List.mem_cons_self⟩
      · obtain ⟨c', h'⟩ := sel_mem (l := r) h; exact ⟨c', List.mem_cons_of_mem _ h'⟩
theorem pcs_chars {e : In6} (h : isI e = true) : ∀ x ∈ sel (pcs e), ∀ b ∈ x, b ≠ 44 ∧ b ≠ 32 := by
  obtain ⟨h0, h1, h2, h3, h4, h5⟩ := is_parts h
  intro x hx
  obtain ⟨c, hc⟩ := sel_mem hx
  have key : ∀ n : Int, i64G n = true → ∀ b ∈ 120 :: itF n, b ≠ 44 ∧ b ≠ 32 := fun n hn b hb => by
    rcases List.mem_cons.1 hb with rfl | hb
    · exact ⟨by decide, by decide⟩
    · exact itF_chars hn b hb
  unfold pcs at hc
  simp only [List.mem_cons, List.not_mem_nil, _root_.or_false, Prod.mk.injEq] at hc
  rcases hc with ⟨_, rfl⟩ | ⟨_, rfl⟩ | ⟨_, rfl⟩ | ⟨_, rfl⟩ | ⟨_, rfl⟩
  · exact key _ (i64_ok (by omega) (by omega))
  · exact itF_chars (i64_ok (by omega) (by omega))
  · exact key _ (i64_ok (by omega) (by omega))
  · exact key _ (i64_ok (by omega) (by omega))
  · exact itF_chars (i64_ok (by omega) (by omega))
theorem text_inj {a b : In6} (ha : isI a = true) (hb : isI b = true) (h : textV a = textV b) : a = b := by
  obtain ⟨a0, a1, a2, a3, a4, a5⟩ := is_parts ha
  obtain ⟨b0, b1, b2, b3, b4, b5⟩ := is_parts hb
  unfold textV at h
  rw [ha, hb, cond_true, cond_true] at h
  obtain ⟨hn, hl⟩ := txF_inj (fun x hx => (name_chars a0 x hx).1) (fun x hx => (name_chars b0 x hx).1) (fun x hx b hb => (pcs_chars ha x hx b hb).1) (fun x hx b' hb' => (pcs_chars hb x hx b' hb').1) h
  have hop := name_inj a0 b0 hn
  obtain ⟨op, rd, r1, r2, im, cs⟩ := a
  obtain ⟨op', rd', r1', r2', im', cs'⟩ := b
  simp only at hop a1 a2 a3 a4 a5 b1 b2 b3 b4 b5
  subst hop
  have hs := sel_inj [(insn_Of0 op, 120 :: itF rd, 120 :: itF rd'), (insn_Of1 op, itF cs, itF cs'), (insn_Of2 op, 120 :: itF r1, 120 :: itF r1'), (insn_Of3 op, 120 :: itF r2, 120 :: itF r2'), (iLt 0 (insn_Of6 op), itF im, itF im')] hl
  have e1 : rd = rd' := by
    cases hc : insn_Of0 op with
    | false => rw [a1.2.2 hc, b1.2.2 hc]
    | true => exact itF_inj (i64_ok (by omega) (by omega)) (i64_ok (by omega) (by omega)) (List.cons.inj (hs _ List.mem_cons_self hc)).2
  have e2 : cs = cs' := by
    cases hc : insn_Of1 op with
    | false => rw [a4.2.2 hc, b4.2.2 hc]
    | true => exact itF_inj (i64_ok (by omega) (by omega)) (i64_ok (by omega) (by omega)) (hs _ (List.mem_cons_of_mem _ List.mem_cons_self) hc)
  have e3 : r1 = r1' := by
    cases hc : insn_Of2 op with
    | false => rw [a2.2.2 hc, b2.2.2 hc]
    | true => exact itF_inj (i64_ok (by omega) (by omega)) (i64_ok (by omega) (by omega)) (List.cons.inj (hs _ (List.mem_cons_of_mem _ (List.mem_cons_of_mem _ List.mem_cons_self)) hc)).2
  have e4 : r2 = r2' := by
    cases hc : insn_Of3 op with
    | false => rw [a3.2.2 hc, b3.2.2 hc]
    | true => exact itF_inj (i64_ok (by omega) (by omega)) (i64_ok (by omega) (by omega)) (List.cons.inj (hs _ (List.mem_cons_of_mem _ (List.mem_cons_of_mem _ (List.mem_cons_of_mem _ List.mem_cons_self))) hc)).2
  have e5 : im = im' := by
    cases hc : iLt 0 (insn_Of6 op) with
    | false => rw [a5.2.2 hc, b5.2.2 hc]
    | true => exact itF_inj (i64_ok (by omega) (by omega)) (i64_ok (by omega) (by omega)) (hs _ (List.mem_cons_of_mem _ (List.mem_cons_of_mem _ (List.mem_cons_of_mem _ (List.mem_cons_of_mem _ List.mem_cons_self)))) hc)
  subst e1 e2 e3 e4 e5
  rfl
theorem text_ne {e : In6} (h : isI e = true) : textV e ≠ [] := by
  have h0 := (is_parts h).1
  have hn := (name_eq h0).2
  unfold textV
  rw [h, cond_true]
  cases sel (pcs e) with
  | nil => exact hn
  | cons a r =>
    intro h'
    have : insn_Name0 e.op ++ [32] ++ Lib.join (a :: r) [44] = [] := h'
    simp at this
theorem apartE (a b : In6) : pcOf Tryd.prog okT (lookR TE) HR RO NOV 100 false Tryd.f5 [in6 a, in6 b] =
    brC (bif iNe (enE a) 0 then true else iNe (enE b) 0) (some (true, .bl (sEq (textV a) [] == iNe (enE a) 0))) (some (true, .bl (anB (iEq (enW a) (enW b) == eq6 a b) (sEq (textV a) (textV b) == eq6 a b)))) := by kernel_rfl
theorem apartP : Plain Tryd.prog 5 Tryd.f5 := ⟨Tryd.func5, of_decide_eq_true (by kernel_rfl)⟩
theorem apart_true (a b : In6) : pcOf Tryd.prog okT (lookR TE) HR RO NOV 100 false Tryd.f5 [in6 a, in6 b] = some (true, .bl true) := by
  rw [apartE, enE_is, enE_is]
  cases ha : isI a with
  | false =>
    rw [show textV a = [] by unfold textV; rw [ha]; rfl]
    exact brC_t
  | true =>
    have h1 : sEq (textV a) [] = false := by
      unfold sEq
      cases h : textV a with
      | nil => exact absurd h (text_ne ha)
      | cons x r => rfl
    cases hb : isI b with
    | false =>
      rw [h1]
      exact brC_t
    | true =>
      have h2 : iEq (enW a) (enW b) = eq6 a b := by
        rw [Bool.eq_iff_iff, iEq_true, eq6_true]
        constructor
        · intro h
          rw [← (de_made ha rfl).1, h, (de_made hb rfl).1]
        · intro h; rw [h]
      have h3 : sEq (textV a) (textV b) = eq6 a b := by
        rw [Bool.eq_iff_iff, eq6_true]
        unfold sEq
        rw [beq_iff_eq]
        exact ⟨text_inj ha hb, fun h => by rw [h]⟩
      rw [h2, h3]
      cases eq6 a b <;> exact brC_f
theorem apart_law (g : Nat → AV) (hg : Ofs [inSh, inSh] (norms [inSh, inSh] 0 g)) : Gives Tryd.prog 5 (norms [inSh, inSh] 0 g) (.bl true) :=
  pcOf_ok mix fair TE_ok HR_ok apartP (fun c _ => OvOk_none c) (apart_true (de6 (g 0)) (de6 (g 1))) rfl
end Go.Proofs.YtngaeiceicgalaaDoor.PV

set_option linter.unusedVariables false
set_option linter.unusedSimpArgs false
set_option maxRecDepth 100000
namespace Go.Proofs.YtngaeiceicgalaaDoor.PV
open Go Go.Ev
def txL : Lq := { n := 58, n0 := 1, ts := [3, 6, 7, 8], mv := [], ids := [] }
def tS (s : List UInt8) (c b k : Int) : List AV := [.st s, .it .i64 c, .it .i64 b, .it .i64 k]
def trL (s : List UInt8) (c b k : Int) : Option Out := some (true, .tup (.it .i64 0 :: tS s c b (iAdd .i64 k 1)))
def trB (s : List UInt8) (c b k : Int) : Option Out := bindC (some (iIn k s.length)) (bif iEq (sAt s k) 32 then trL s c (iAdd .i64 b 1) k else trL s c b k)
def trR (s : List UInt8) (c b k : Int) : Option Out := bif iLt k (sLen s) then bindC (some (iIn k s.length)) (bif iEq (sAt s k) 44 then trB s (iAdd .i64 c 1) b k else trB s c b k) else none
theorem txA (s : List UInt8) (c b k : Int) : evC Tryd.prog okT (lookR TE) NOH RO NOV 100 true (bodyAt Tryd.f7.body 0) (txL.F (tS s c b k)) (txL.M (tS s c b k)) (grabJ 0 (grabQ txL)) = trR s c b k := by kernel_rfl
theorem txX (s : List UInt8) (c b k : Int) : evC Tryd.prog okT (lookR TE) NOH RO (ovNot 1) 100 true (bodyAt Tryd.f7.body 0) (txL.F (tS s c b k)) (txL.M (tS s c b k)) (grabJ 2 (grabQ txL)) =
    bif iLt k (sLen s) then none else some (true, .tup (.it .i64 2 :: tS s c b k)) := by kernel_rfl
/-- How many bytes v stand ahead of j. -/
def cnF (s : List UInt8) (v : Int) : Nat → Int
  | 0 => 0
  | j + 1 => bif iEq (sAt s j) v then iAdd .i64 (cnF s v j) 1 else cnF s v j
structure TxW where
  ok : List UInt8 → Bool
  c : List UInt8 → Int
  b : List UInt8 → Int
def txGo (W : TxW) : (Nat → AV) → Kc → Option Out := goJ (fun _ => true) (fun g => iEq (g 1).num 0 && (iEq (g 2).num 0 && (iEq (g 3).num 0 && W.ok (g 0).str))) .normal
  (fun g => txL.F (tS (g 0).str (W.c (g 0).str) (W.b (g 0).str) (sLen (g 0).str))) (fun g => txL.M (tS (g 0).str (W.c (g 0).str) (W.b (g 0).str) (sLen (g 0).str)))
def txw : TxW := ⟨fun s => iLt (sLen s) 1000000, fun s => cnF s 44 s.length, fun s => cnF s 32 s.length⟩
theorem tx_round {s : List UInt8} (j : Nat) (hj : j < s.length) (hs : s.length < 1000000) : trR s (cnF s 44 j) (cnF s 32 j) (j : Nat) = some (true, .tup (.it .i64 0 :: tS s (cnF s 44 (j + 1)) (cnF s 32 (j + 1)) ((j + 1 : Nat) : Int))) := by
  unfold trR trB
  rw [iLt_true.2 (show ((j : Nat) : Int) < sLen s by unfold sLen; omega), iIn_true.2 (show 0 ≤ ((j : Nat) : Int) ∧ ((j : Nat) : Int) < (s.length : Int) by omega)]
  unfold trL
  rw [iAdd_one j (by omega)]
  simp only [cnF]
  cases iEq (sAt s j) 44 <;> cases iEq (sAt s j) 32 <;> rfl
theorem txGo_ok : GoesN Tryd.prog 0 (.loop (bodyAt Tryd.f7.body 0)) txL [.str, .int .i64, .int .i64, .int .i64] (txGo txw) := goJ_ok fun g h1 h2 => by
  simp only [Bool.and_eq_true] at h2
  obtain ⟨d1, d2, d3, d4⟩ := h2
  have hs : (g 0).str.length < 1000000 := by simp only [txw] at d4; have := iLt_true.1 d4; unfold sLen at this; omega
  refine ⟨noGdL (L := txL) rfl, fun fr m hmn hb => ?_⟩
  have hst : norms [.str, .int .i64, .int .i64, .int .i64] 0 g = tS (g 0).str 0 0 0 := by
    have : norms [.str, .int .i64, .int .i64, .int .i64] 0 g = [.st (g 0).str, .it .i64 (g 1).num, .it .i64 (g 2).num, .it .i64 (g 3).num] := rfl
    rw [this, iEq_true.1 d1, iEq_true.1 d2, iEq_true.1 d3]; rfl
  rw [hst] at hb
  refine loopJ_block (F := fun j => txL.F (tS (g 0).str (cnF (g 0).str 44 j) (cnF (g 0).str 32 j) (j : Nat))) (M := fun j => txL.M (tS (g 0).str (cnF (g 0).str 44 j) (cnF (g 0).str 32 j) (j : Nat))) (n := (g 0).str.length) (c := 2)
    (fun j hj => ?_) ?_ (by decide) hmn hb (e := .exit 0) rfl
  · have hE := (txA (g 0).str (cnF (g 0).str 44 j) (cnF (g 0).str 32 j) (j : Nat)).trans (tx_round j hj hs)
    exact turnK_ok mix fair TE_ok HSound_none (OvOk_none _) (L := txL) rfl (grabJ_part 0 (Part.refl _)) (noGdL (L := txL) rfl) hE rfl rfl
  · have hE := txX (g 0).str (cnF (g 0).str 44 (g 0).str.length) (cnF (g 0).str 32 (g 0).str.length) ((g 0).str.length : Nat)
    rw [show iLt (((g 0).str.length : Nat) : Int) (sLen (g 0).str) = false from iLt_false.2 (Int.le_refl _), cond_false] at hE
    exact turnK_ok mix fair TE_ok HSound_none (ovNot_ok _) (L := txL) rfl (grabJ_part 2 (Part.refl _)) (noGdL (L := txL) rfl) hE rfl rfl
theorem tx_blk : ∀ c, Tryd.f7.body = some c → ∀ x ∈ blks c, x.1 = 0 → x.2 = .loop (bodyAt Tryd.f7.body 0) := fun c hc x hx h => by
  have e : blks c = [(0, .loop (bodyAt Tryd.f7.body 0)), (1, blkAt ((Tryd.f7.body).getD .skip) 1)] := by
    rw [show c = (Tryd.f7.body).getD .skip by rw [hc]; rfl]
    kernel_rfl
  rw [e] at hx
  simp only [List.mem_cons, List.not_mem_nil, _root_.or_false] at hx
  rcases hx with rfl | rfl <;> first | rfl | (cases h; done)
theorem tx_ov : ∀ c, Tryd.f7.body = some c → OvOk Tryd.prog (ovN 0 txL [.str, .int .i64, .int .i64, .int .i64] (txGo txw)) c := fun c hc => ovN_ok rfl txGo_ok (tx_blk c hc)
theorem textsE (W : TxW) (e : In6) : pcOf Tryd.prog okT (lookR TE) HR RO (ovN 0 txL [.str, .int .i64, .int .i64, .int .i64] (txGo W)) 100 false Tryd.f7 [in6 e] =
    brC (iNe (enE e) 0) (some (true, .bl (sEq (textV e) []))) (bindC (some (iEq 0 0 && (iEq 0 0 && (iEq 0 0 && W.ok (textV e)))))
      (some (true, .bl (anB (anB (anB (!sEq (textV e) []) (iLe (W.b (textV e)) 1)) (iLe (W.c (textV e)) 2)) (bif iEq (W.b (textV e)) 1 then true else iEq (W.c (textV e)) 0))))) := by kernel_rfl
/- Counting. -/
def isB (v : Int) (b : UInt8) : Bool := iEq (b.toNat : Int) v
theorem cnF_eq {s : List UInt8} {v : Int} (hs : s.length < 1000000) : ∀ j, j ≤ s.length → cnF s v j = ((s.take j).countP (isB v) : Nat)
  | 0, _ => by simp [cnF]
  | j + 1, h => by
    have ih := cnF_eq hs (v := v) j (by omega)
    have hle : (s.take j).countP (isB v) ≤ (s.take j).length := List.countP_le_length
    rw [List.length_take] at hle
    unfold cnF
    rw [ih, List.take_add_one, List.getElem?_eq_getElem (show j < s.length by omega), List.countP_append]
    have e : sAt s (j : Nat) = (s[j]'(by omega)).toNat := by
      unfold sAt
      rw [Int.toNat_natCast, List.getD_eq_getElem?_getD, List.getElem?_eq_getElem (show j < s.length by omega)]; rfl
    rw [e]
    show (bif isB v (s[j]'(by omega)) then _ else _) = _
    cases hb : isB v (s[j]'(by omega)) with
    | true => rw [cond_true, iAdd_one _ (by omega)]; simp [hb]
    | false => rw [cond_false]; simp [hb]
theorem isB_ne {v : UInt8} {w : Int} (hv : (v.toNat : Int) = w) {b : UInt8} (h : b ≠ v) : isB w b = false := by
  unfold isB
  rw [iEq_false, ← hv]
  intro e
  exact h (UInt8.toNat_inj.1 (by omega))
theorem cnt_zero {v : UInt8} {w : Int} (hv : (v.toNat : Int) = w) {l : List UInt8} (h : ∀ b ∈ l, b ≠ v) : l.countP (isB w) = 0 := by
  rw [List.countP_eq_zero]
  intro b hb
  rw [isB_ne hv (h b hb)]; simp
theorem tail_cnt : ∀ {r : List (List UInt8)}, (∀ x ∈ r, ∀ b ∈ x, b ≠ 44) → (Lib.joinTail [44] r).countP (isB 44) = r.length
  | [], _ => rfl
  | a :: r, h => by
    have ih := tail_cnt (r := r) fun x hx => h x (List.mem_cons_of_mem _ hx)
    show ([44] ++ a ++ Lib.joinTail [44] r).countP (isB 44) = _
    rw [List.countP_append, List.countP_append, ih, cnt_zero (v := 44) (w := 44) rfl (h a List.mem_cons_self)]
    show 1 + 0 + r.length = r.length + 1
    omega
theorem tail_32 : ∀ {r : List (List UInt8)}, (∀ x ∈ r, ∀ b ∈ x, b ≠ 32) → ∀ b ∈ Lib.joinTail [44] r, b ≠ 32
  | [], _, b, hb => by cases hb
  | a :: r, h, b, hb => by
    have hb : b ∈ [44] ++ a ++ Lib.joinTail [44] r := hb
    rcases List.mem_append.1 hb with hb | hb
    · rcases List.mem_append.1 hb with hb | hb
      · rw [List.mem_singleton.1 hb]; decide
      · exact h a List.mem_cons_self b hb
    · exact tail_32 (fun x hx => h x (List.mem_cons_of_mem _ hx)) b hb
theorem facts5 : ∀ n, n < 70 → 1 ≤ n → (insn_Of0 (n : Nat)).toNat + ((insn_Of1 (n : Nat)).toNat + ((insn_Of2 (n : Nat)).toNat + ((insn_Of3 (n : Nat)).toNat + (iLt 0 (insn_Of6 (n : Nat))).toNat))) ≤ 3 := by decide +kernel
theorem sel_len5 (c0 c1 c2 c3 c4 : Bool) (s0 s1 s2 s3 s4 : List UInt8) : (sel [(c0, s0), (c1, s1), (c2, s2), (c3, s3), (c4, s4)]).length = c0.toNat + (c1.toNat + (c2.toNat + (c3.toNat + c4.toNat))) := by
  cases c0 <;> cases c1 <;> cases c2 <;> cases c3 <;> cases c4 <;> rfl
theorem text_counts {e : In6} (h : isI e = true) : (textV e).length < 1000000 ∧ ((textV e).countP (isB 32) ≤ 1 ∧ (textV e).countP (isB 44) ≤ 2 ∧ ((textV e).countP (isB 32) = 1 ∨ (textV e).countP (isB 44) = 0)) := by
  have h0 := (is_parts h).1
  have hn := name_chars h0
  have hp := pcs_chars h
  have hnl := name_len e.op
  have hl : (sel (pcs e)).length ≤ 3 := by
    unfold pcs
    rw [sel_len5]
    obtain ⟨n, hn⟩ := Int.eq_ofNat_of_zero_le (show 0 ≤ e.op by omega)
    rw [hn]
    exact facts5 n (by omega) (by omega)
  have hz : ∀ x ∈ sel (pcs e), x.length ≤ 30 := fun x hx => by
    obtain ⟨c, hc⟩ := sel_mem hx
    have q1 := itF_len e.rd; have q2 := itF_len e.cs; have q3 := itF_len e.r1; have q4 := itF_len e.r2; have q5 := itF_len e.im
    unfold pcs at hc
    simp only [List.mem_cons, List.not_mem_nil, _root_.or_false, Prod.mk.injEq] at hc
    rcases hc with ⟨_, rfl⟩ | ⟨_, rfl⟩ | ⟨_, rfl⟩ | ⟨_, rfl⟩ | ⟨_, rfl⟩ <;> first | omega | (simp only [List.length_cons]; omega)
  have ht : textV e = txF (insn_Name0 e.op) (sel (pcs e)) := by unfold textV; rw [h]; rfl
  have n1 : (insn_Name0 e.op).countP (isB 32) = 0 := cnt_zero (v := 32) (w := 32) rfl fun b hb => (hn b hb).1
  have n2 : (insn_Name0 e.op).countP (isB 44) = 0 := cnt_zero (v := 44) (w := 44) rfl fun b hb => (hn b hb).2
  rw [ht]
  generalize sel (pcs e) = l at hl hp hz
  cases l with
  | nil =>
    simp only [txF]
    rw [n1, n2]
    exact ⟨by omega, by omega, by omega, .inr rfl⟩
  | cons a r =>
    have hj := join_len 30 (a :: r) hz
    have j1 : (Lib.join (a :: r) [44]).countP (isB 32) = 0 := cnt_zero (v := 32) (w := 32) rfl fun b hb => by
      rw [Lib.join_cons] at hb
      rcases List.mem_append.1 hb with hb | hb
      · exact (hp a List.mem_cons_self b hb).2
      · exact tail_32 (fun x hx b hb => (hp x (List.mem_cons_of_mem _ hx) b hb).2) b hb
    have j2 : (Lib.join (a :: r) [44]).countP (isB 44) = r.length := by
      rw [Lib.join_cons, List.countP_append, cnt_zero (v := 44) (w := 44) rfl (fun b hb => (hp a List.mem_cons_self b hb).1), tail_cnt (fun x hx b hb => (hp x (List.mem_cons_of_mem _ hx) b hb).1)]
      omega
    simp only [txF]
    rw [List.countP_append, List.countP_append, List.countP_append, List.countP_append, n1, n2, j1, j2, List.length_append, List.length_append]
    simp only [List.length_cons] at hl hj ⊢
    have s1 : List.countP (isB 32) [32] = 1 := rfl
    have s2 : List.countP (isB 44) [32] = 0 := rfl
    rw [s1, s2]
    exact ⟨by simp only [List.length_nil]; omega, by omega, by omega, .inl (by omega)⟩
theorem textsP : Plain Tryd.prog 7 Tryd.f7 := ⟨Tryd.func7, of_decide_eq_true (by kernel_rfl)⟩
theorem texts_true (e : In6) : pcOf Tryd.prog okT (lookR TE) HR RO (ovN 0 txL [.str, .int .i64, .int .i64, .int .i64] (txGo txw)) 100 false Tryd.f7 [in6 e] = some (true, .bl true) := by
  rw [textsE, enE_is]
  cases h : isI e with
  | false =>
    rw [show textV e = [] by unfold textV; rw [h]; rfl]
    exact brC_t
  | true =>
    obtain ⟨c0, c1, c2, c3⟩ := text_counts h
    have h1 : sEq (textV e) [] = false := by
      unfold sEq
      cases hh : textV e with
      | nil => exact absurd hh (text_ne h)
      | cons x r => rfl
    have w0 : txw.ok (textV e) = true := by simp only [txw]; rw [iLt_true]; unfold sLen; omega
    have w1 : txw.c (textV e) = ((textV e).countP (isB 44) : Nat) := by simp only [txw]; rw [cnF_eq c0 _ (Nat.le_refl _), List.take_length]
    have w2 : txw.b (textV e) = ((textV e).countP (isB 32) : Nat) := by simp only [txw]; rw [cnF_eq c0 _ (Nat.le_refl _), List.take_length]
    rw [h1, w0, w1, w2, iLe_true.2 (show (((textV e).countP (isB 32) : Nat) : Int) ≤ 1 by omega), iLe_true.2 (show (((textV e).countP (isB 44) : Nat) : Int) ≤ 2 by omega)]
    have hl : (bif iEq (((textV e).countP (isB 32) : Nat) : Int) 1 then true else iEq (((textV e).countP (isB 44) : Nat) : Int) 0) = true := by
      rcases c3 with c3 | c3
      · rw [c3]; rfl
      · rw [c3]; cases iEq (((textV e).countP (isB 32) : Nat) : Int) 1 <;> rfl
    rw [hl]
    exact brC_f
theorem texts_law (g : Nat → AV) (hg : Ofs [inSh] (norms [inSh] 0 g)) : Gives Tryd.prog 7 (norms [inSh] 0 g) (.bl true) :=
  pcOf_ok mix fair TE_ok HR_ok textsP tx_ov (texts_true (de6 (g 0))) rfl
end Go.Proofs.YtngaeiceicgalaaDoor.PV
