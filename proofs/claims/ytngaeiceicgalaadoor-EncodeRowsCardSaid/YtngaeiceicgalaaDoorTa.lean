/-
  encode.Text, evaluated.
-/
import Derived.Test.YtngaeiceicgalaaDoorSa
import Derived.Test.YtngaeiceicgalaaDoorNa
set_option linter.unusedVariables false
set_option linter.unusedSimpArgs false
set_option maxRecDepth 100000
namespace Go.Proofs.YtngaeiceicgalaaDoor.PV
open Go Go.Ev
def i64G (n : Int) : Bool := iLe (-9223372036854775807) n && iLe n 9223372036854775807
def ccG (a b : List UInt8) : Bool := iLe (sLen a + sLen b) 9223372036854775807
def TA : List Row := (26, rowF [.int .i64] (some fun g => iLe (-9223372036854775807) (g 0).num && iLe (g 0).num 9223372036854775807) fun g => .st (itF (g 0).num)) ::
  (27, rowF [.int .i64, .int .i64] (some fun g => iEq (g 1).num 10 && (iLe (-9223372036854775807) (g 0).num && iLe (g 0).num 9223372036854775807)) fun g => .st (itF (g 0).num)) :: T10
theorem TA_ok : PSound Tryd.prog (lookR TA) := lookR_cons itoa_row (lookR_cons fmt_row T10_ok)
theorem regE (r : Int) : pcOf Tryd.prog okT (lookR TA) NOH RO NOV 100 false Tryd.f25 [.it .i64 r] = bindC (some (i64G r)) (bindC (some (ccG [120] (itF r))) (some (true, .st (sCat [120] (itF r))))) := by kernel_rfl
theorem dgR_len : ∀ (k : Nat) (n : Int) (s : List UInt8), (dgR k n s).length ≤ k + 1 + s.length
  | 0, n, s => by unfold dgR; show (_ :: s).length ≤ _; rw [List.length_cons]; omega
  | k + 1, n, s => by
    unfold dgR
    cases iEq (iQuo .i64 n 10) 0 with
    | true => show (_ :: s).length ≤ _; rw [List.length_cons]; omega
    | false =>
      rw [cond_false]
      refine Nat.le_trans (dgR_len k _ _) ?_
      show _ + (_ :: s).length ≤ _
      rw [List.length_cons]; omega
theorem itF_len (n : Int) : (itF n).length ≤ 25 := by
  unfold itF
  cases iLt n 0 with
  | true =>
    show (_ :: _).length ≤ _
    have := dgR_len 19 (iSub .i64 0 n) []
    simp at *; omega
  | false =>
    rw [cond_false]
    have := dgR_len 19 n []
    simp at *; omega
theorem reg_row : RowOk Tryd.prog 25 (rowF [.int .i64] (some fun g => i64G (g 0).num) fun g => .st (sCat [120] (itF (g 0).num))) := rowF_ok fun g hg => by
  refine pcOf_ok mix fair TA_ok HSound_none ⟨Tryd.func25, of_decide_eq_true (by kernel_rfl)⟩ (fun c _ => OvOk_none c) (regE (g 0).num) ?_
  rw [show i64G (g 0).num = true from hg]
  show (true && (ccG [120] (itF (g 0).num) && true)) = true
  rw [show ccG [120] (itF (g 0).num) = true by have := itF_len (g 0).num; unfold ccG sLen; rw [iLe_true]; simp only [List.length_cons, List.length_nil]; omega]
  rfl
def TB : List Row := (25, rowF [.int .i64] (some fun g => i64G (g 0).num) fun g => .st (sCat [120] (itF (g 0).num))) :: TA
theorem TB_ok : PSound Tryd.prog (lookR TB) := lookR_cons reg_row TA_ok
def HR : Hd := hRead [(14, progRow), (29, joinRow)] NOH
theorem HR_ok : HSound Tryd.prog HR := hRead_ok HSound_none ⟨prog_row, join_row, trivial⟩
def ljG (l : List (List UInt8)) : Bool := iLe (l.length : Int) 1000 && iLe ((Lib.join l [44]).length : Int) 100000000000000
def leafO (nm : List UInt8) : List (List UInt8) → Option Out
  | [] => brC (iEq ((0 : Nat) : Int) 0) (some (true, .st nm)) none
  | a :: r => brC (iEq ((a :: r).length : Int) 0) (some (true, .st nm)) <| bindC (some (ccG nm [32])) (bindC (some (ljG (a :: r))) (bindC (some (ccG (sCat nm [32]) (Lib.join (a :: r) [44]))) (some (true, .st (sCat (sCat nm [32]) (Lib.join (a :: r) [44]))))))
def apG : List (List UInt8) → Bool
  | [] => Nat.ble 1 1 && Nat.ble 1 4294967296
  | a :: r => Nat.ble ((a :: r).length + 1) 4294967296
def txO (nm : List UInt8) : List (Bool × Bool × List UInt8) → List (List UInt8) → Option Out
  | [], acc => leafO nm acc
  | (c, g, s) :: r, acc => brC c (bindC (some g) (bindC (some (apG acc)) (txO nm r (acc ++ [s])))) (txO nm r acc)
theorem textE (e : In6) : pcOf Tryd.prog okT (lookR TB) HR RO NOV 100 false Tryd.f12 [in6 e] = brC (!(isI e)) (some (true, .st [])) (txO (insn_Name0 e.op)
    [(insn_Of0 e.op, i64G e.rd, sCat [120] (itF e.rd)), (insn_Of1 e.op, i64G e.cs, itF e.cs), (insn_Of2 e.op, i64G e.r1, sCat [120] (itF e.r1)), (insn_Of3 e.op, i64G e.r2, sCat [120] (itF e.r2)), (iLt 0 (insn_Of6 e.op), iEq 10 10 && i64G e.im, itF e.im)] []) := by kernel_rfl
end Go.Proofs.YtngaeiceicgalaaDoor.PV

set_option linter.unusedVariables false
set_option linter.unusedSimpArgs false
set_option maxRecDepth 100000
namespace Go.Proofs.YtngaeiceicgalaaDoor.PV
open Go Go.Ev
def dig0R : Row := (31, rowF [.int .i64] (some fun g => iLe 0 (g 0).num && iLe (g 0).num 9223372036854775807) fun g => .st (dgR 19 (g 0).num []))
theorem dig0E (n : Int) : pcOf Tryd.prog okT (lookR T0) NOH RO NOV 20 false Tryd.f31 [.it .i64 n] = some (!iLt n 0 && dgG 19 n [], .st (dgR 19 n [])) := by kernel_rfl
theorem digP : Plain Tryd.prog 31 Tryd.f31 := ⟨Tryd.func31, of_decide_eq_true (by kernel_rfl)⟩
theorem dig0_ok : RowOk Tryd.prog 31 (rowF [.int .i64] (some fun g => iLe 0 (g 0).num && iLe (g 0).num 9223372036854775807) fun g => .st (dgR 19 (g 0).num [])) := rowF_ok fun g hg => by
  rw [Bool.and_eq_true] at hg
  have h0 := iLe_true.1 hg.1
  have h1 := iLe_true.1 hg.2
  refine pcOf_ok mix fair T0_ok HSound_none digP (fun c _ => OvOk_none c) (dig0E (g 0).num) ?_
  rw [iLt_false.2 h0, dgG_ok 19 (g 0).num [] h0 (by omega) (by have : (10 : Int) ^ (19 + 1) = 100000000000000000000 := rfl; omega) (by decide)]
  rfl
def digR : Row := (31, rowF [.int .i64] (some fun g => iLe (-9223372036854775807) (g 0).num && iLe (g 0).num 9223372036854775807) fun g => .st (itF (g 0).num))
theorem digE (n : Int) : pcOf Tryd.prog okT (lookR [dig0R]) NOH RO NOV 20 false Tryd.f31 [.it .i64 n] =
    some (bif iLt n 0 then (iLe 0 (iSub .i64 0 n) && iLe (iSub .i64 0 n) 9223372036854775807) && (iLe (sLen [45] + sLen (dgR 19 (iSub .i64 0 n) [])) 9223372036854775807 && true) else dgG 19 n [], .st (itF n)) := by kernel_rfl
theorem dig_ok : RowOk Tryd.prog 31 (rowF [.int .i64] (some fun g => iLe (-9223372036854775807) (g 0).num && iLe (g 0).num 9223372036854775807) fun g => .st (itF (g 0).num)) := rowF_ok fun g hg => by
  rw [Bool.and_eq_true] at hg
  have h0 := iLe_true.1 hg.1
  have h1 := iLe_true.1 hg.2
  refine pcOf_ok mix fair (lookR_cons dig0_ok lookR_nil) HSound_none digP (fun c _ => OvOk_none c) (digE (g 0).num) ?_
  cases h : iLt (g 0).num 0 with
  | true =>
    have h := iLt_true.1 h
    have e : iSub .i64 0 (g 0).num = -(g 0).num := by unfold iSub; simp [IntKind.wrap, IntKind.bits, IntKind.signed]; omega
    have hl := dgR_len 19 (-(g 0).num) []
    rw [cond_true, e, iLe_true.2 (show (0 : Int) ≤ -(g 0).num by omega), iLe_true.2 (show -(g 0).num ≤ 9223372036854775807 by omega)]
    rw [iLe_true.2 (show sLen [45] + sLen (dgR 19 (-(g 0).num) []) ≤ 9223372036854775807 by unfold sLen; simp at hl ⊢; omega)]
    rfl
  | false =>
    have h := iLt_false.1 h
    rw [cond_false]
    exact dgG_ok 19 (g 0).num [] h (by omega) (by have : (10 : Int) ^ (19 + 1) = 100000000000000000000 := rfl; omega) (by decide)
def TC : List Row := digR :: T10
theorem TC_ok : PSound Tryd.prog (lookR TC) := lookR_cons dig_ok T10_ok
def leafR (nm : List UInt8) (s : List UInt8) : Option Out := brC (sEq s []) (some (true, .st nm)) <|
  bindC (some (ccG nm [32])) (bindC (some (iLe 0 1 && (iLe 1 (sLen s) && iLe (sLen s) (sLen s)))) (bindC (some (ccG (sCat nm [32]) (sCut s 1 (sLen s)))) (some (true, .st (sCat (sCat nm [32]) (sCut s 1 (sLen s)))))))
def rxO (nm : List UInt8) : List (Bool × List UInt8 × Bool × List UInt8) → List UInt8 → Option Out
  | [], s => leafR nm s
  | (c, p, g, d) :: r, s => brC c (bindC (some (ccG s p)) (bindC (some g) (bindC (some (ccG (sCat s p) d)) (rxO nm r (sCat (sCat s p) d))))) (rxO nm r s)
theorem rtextE (e : In6) : pcOf Tryd.prog okT (lookR TC) NOH RO NOV 100 false Tryd.f13 [in6 e] = brC (!(sallyportref3_Is0 e.op e.rd e.r1 e.r2 e.im e.cs)) (some (true, .st [])) (rxO (sallyportref3_Name0 e.op)
    [(sallyportref3_Parts0 e.op, [44, 120], i64G e.rd, itF e.rd), (sallyportref3_Parts3 e.op, [44], i64G e.cs, itF e.cs), (sallyportref3_Parts1 e.op, [44, 120], i64G e.r1, itF e.r1), (sallyportref3_Parts2 e.op, [44, 120], i64G e.r2, itF e.r2), (sallyportref3_Parts4 e.op, [44], i64G e.im, itF e.im)] []) := by kernel_rfl
end Go.Proofs.YtngaeiceicgalaaDoor.PV

set_option linter.unusedVariables false
set_option linter.unusedSimpArgs false
set_option maxRecDepth 100000
namespace Go.Proofs.YtngaeiceicgalaaDoor.PV
open Go Go.Ev
def txF (nm : List UInt8) : List (List UInt8) → List UInt8
  | [] => nm
  | a :: r => nm ++ [32] ++ Lib.join (a :: r) [44]
def sel : List (Bool × List UInt8) → List (List UInt8)
  | [] => []
  | (c, s) :: r => bif c then s :: sel r else sel r
def pcs (e : In6) : List (Bool × List UInt8) := [(insn_Of0 e.op, 120 :: itF e.rd), (insn_Of1 e.op, itF e.cs), (insn_Of2 e.op, 120 :: itF e.r1), (insn_Of3 e.op, 120 :: itF e.r2), (iLt 0 (insn_Of6 e.op), itF e.im)]
def textV (e : In6) : List UInt8 := bif isI e then txF (insn_Name0 e.op) (sel (pcs e)) else []
theorem joinTail_len (z : Nat) : ∀ l : List (List UInt8), (∀ x ∈ l, x.length ≤ z) → (Lib.joinTail [44] l).length ≤ l.length * (z + 1)
  | [], _ => by simp [Lib.joinTail]
  | a :: r, h => by
    have ih := joinTail_len z r fun x hx => h x (List.mem_cons_of_mem _ hx)
    have ha := h a List.mem_cons_self
    show ([44] ++ a ++ Lib.joinTail [44] r).length ≤ _
    have e : (a :: r).length * (z + 1) = r.length * (z + 1) + (z + 1) := by rw [List.length_cons, Nat.add_mul, Nat.one_mul]
    rw [List.length_append, List.length_append, e]
    simp only [List.length_cons, List.length_nil]
    omega
theorem join_len (z : Nat) (l : List (List UInt8)) (h : ∀ x ∈ l, x.length ≤ z) : (Lib.join l [44]).length ≤ l.length * (z + 1) := by
  cases l with
  | nil => simp [Lib.join_nil]
  | cons a r =>
    have e : (a :: r).length * (z + 1) = r.length * (z + 1) + (z + 1) := by rw [List.length_cons, Nat.add_mul, Nat.one_mul]
    rw [Lib.join_cons, List.length_append, e]
    have := joinTail_len z r fun x hx => h x (List.mem_cons_of_mem _ hx)
    have ha := h a List.mem_cons_self
    omega
theorem cc_ok {a b : List UInt8} (h : a.length + b.length < 1000000000000000000) : ccG a b = true := by
  unfold ccG sLen
  rw [iLe_true]; omega
theorem leafO_ok {nm : List UInt8} {acc : List (List UInt8)} (hn : nm.length ≤ 100) (ha : acc.length ≤ 10) (hs : ∀ x ∈ acc, x.length ≤ 30) : leafO nm acc = some (true, .st (txF nm acc)) := by
  cases acc with
  | nil => rfl
  | cons a r =>
    have hj := join_len 30 (a :: r) hs
    simp only [leafO]
    rw [cc_ok (by simp; omega), cc_ok (by show (nm ++ [32]).length + _ < _; rw [List.length_append]; simp only [List.length_cons, List.length_nil]; simp only [List.length_cons] at hj ha; omega)]
    have hl : ljG (a :: r) = true := by
      unfold ljG
      rw [iLe_true.2 (by simp only [List.length_cons] at ha ⊢; omega), iLe_true.2 (by simp only [List.length_cons] at ha hj ⊢; omega)]; rfl
    rw [hl, show iEq ((a :: r).length : Int) 0 = false by rw [iEq_false]; simp only [List.length_cons]; omega]
    show some (Om.pick false _ _) = _
    rw [Om.pick_f]
    rfl
theorem txO_ok {nm : List UInt8} (hn : nm.length ≤ 100) : ∀ (fl : List (Bool × Bool × List UInt8)) (acc : List (List UInt8)), (∀ x ∈ fl, (x.1 = true → x.2.1 = true) ∧ x.2.2.length ≤ 30) → acc.length + fl.length ≤ 10 → (∀ x ∈ acc, x.length ≤ 30) →
    txO nm fl acc = some (true, .st (txF nm (acc ++ sel (fl.map fun x => (x.1, x.2.2)))))
  | [], acc, _, ha, hs => by
    show leafO nm acc = _
    rw [leafO_ok hn (by simpa using ha) hs]
    show _ = some (true, AV.st (txF nm (acc ++ [])))
    rw [List.append_nil]
  | (c, g, s) :: r, acc, hf, ha, hs => by
    obtain ⟨h1, h2⟩ := hf _ List.mem_cons_self
    have hr := fun x hx => hf x (List.mem_cons_of_mem _ hx)
    simp only [List.length_cons] at ha
    have e1 := txO_ok hn r (acc ++ [s]) hr (by rw [List.length_append]; simp; omega) (fun x hx => by
      rcases List.mem_append.1 hx with hx | hx
      · exact hs x hx
      · rw [List.mem_singleton.1 hx]; exact h2)
    have e2 := txO_ok hn r acc hr (by omega) hs
    have hg : apG acc = true := by
      cases acc with
      | nil => rfl
      | cons a l => exact Nat.ble_eq_true_of_le (by simp at *; omega)
    unfold txO
    rw [e1, e2, hg]
    cases c with
    | false =>
      show some (Om.pick false _ _) = _
      rw [Om.pick_f]
      rfl
    | true =>
      rw [show g = true from h1 rfl]
      show some (Om.pick true _ _) = _
      rw [Om.pick_t]
      show some (true, AV.st _) = some (true, AV.st (txF nm (acc ++ (s :: sel _))))
      rw [List.append_assoc]; rfl
end Go.Proofs.YtngaeiceicgalaaDoor.PV

set_option linter.unusedVariables false
set_option linter.unusedSimpArgs false
set_option maxRecDepth 100000
namespace Go.Proofs.YtngaeiceicgalaaDoor.PV
open Go Go.Ev
def rsel : List (Bool × List UInt8 × List UInt8) → List UInt8
  | [] => []
  | (c, p, d) :: r => bif c then p ++ d ++ rsel r else rsel r
def rxF (nm s : List UInt8) : List UInt8 := bif sEq s [] then nm else nm ++ [32] ++ s.drop 1
theorem leafR_ok {nm s : List UInt8} (hn : nm.length ≤ 100) (hs : s.length ≤ 1000) : leafR nm s = some (true, .st (rxF nm s)) := by
  unfold leafR rxF
  rw [cc_ok (by simp; omega)]
  cases h : sEq s [] with
  | true => show some (Om.pick true _ _) = _; rw [Om.pick_t]; rfl
  | false =>
    show some (Om.pick false _ _) = _
    rw [Om.pick_f]
    have h1 : s ≠ [] := fun e => by subst e; cases h
    have hl : 1 ≤ s.length := List.length_pos_iff.2 h1
    have hc : sCut s 1 (sLen s) = s.drop 1 := by
      unfold sCut sLen
      rw [Int.toNat_natCast, List.take_length]; rfl
    rw [hc, cc_ok (by show (nm ++ [32]).length + _ < _; rw [List.length_append, List.length_drop]; simp only [List.length_cons, List.length_nil]; omega),
      iLe_true.2 (show (0 : Int) ≤ 1 by omega), iLe_true.2 (show (1 : Int) ≤ sLen s by unfold sLen; omega), iLe_true.2 (Int.le_refl (sLen s))]
    rfl
theorem rxO_ok {nm : List UInt8} (hn : nm.length ≤ 100) : ∀ (fl : List (Bool × List UInt8 × Bool × List UInt8)) (s : List UInt8), (∀ x ∈ fl, (x.1 = true → x.2.2.1 = true) ∧ x.2.1.length + x.2.2.2.length ≤ 40) → s.length + 40 * fl.length ≤ 1000 →
    rxO nm fl s = some (true, .st (rxF nm (s ++ rsel (fl.map fun x => (x.1, x.2.1, x.2.2.2)))))
  | [], s, _, hs => by
    show leafR nm s = _
    rw [leafR_ok hn (by simpa using hs)]
    show _ = some (true, AV.st (rxF nm (s ++ [])))
    rw [List.append_nil]
  | (c, p, g, d) :: r, s, hf, hs => by
    obtain ⟨h1, h2⟩ := hf _ List.mem_cons_self
    have hr := fun x hx => hf x (List.mem_cons_of_mem _ hx)
    simp only [List.length_cons] at hs
    simp only [] at h1 h2
    have e1 := rxO_ok hn r (sCat (sCat s p) d) hr (by show (s ++ p ++ d).length + _ ≤ _; rw [List.length_append, List.length_append]; omega)
    have e2 := rxO_ok hn r s hr (by omega)
    simp only [rxO]
    rw [e1, e2, cc_ok (by omega), cc_ok (by show (s ++ p).length + _ < _; rw [List.length_append]; omega)]
    cases c with
    | false =>
      show some (Om.pick false _ _) = _
      rw [Om.pick_f]
      rfl
    | true =>
      rw [show g = true from h1 rfl]
      show some (Om.pick true _ _) = _
      rw [Om.pick_t]
      show some (true, AV.st (rxF nm (s ++ p ++ d ++ _))) = some (true, AV.st (rxF nm (s ++ (p ++ d ++ rsel _))))
      simp only [List.append_assoc]
/-- The same pieces, each behind a comma. -/
theorem rsel_eq : ∀ l : List (Bool × List UInt8), rsel (l.map fun x => (x.1, [44], x.2)) = Lib.joinTail [44] (sel l)
  | [] => rfl
  | (c, s) :: r => by
    have ih := rsel_eq r
    simp only [List.map_cons, rsel, sel]
    rw [ih]
    cases c <;> rfl
theorem rxF_eq (nm : List UInt8) (l : List (List UInt8)) : rxF nm (Lib.joinTail [44] l) = txF nm l := by
  cases l with
  | nil => rfl
  | cons a r =>
    simp only [txF]
    rw [Lib.join_cons]
    rfl
theorem and_parts {a b : Bool} (h : (bif a then b else false) = true) : a = true ∧ b = true := by cases a <;> simp_all
theorem nor_parts {a b : Bool} (h : (bif a then false else b) = true) : a = false ∧ b = true := by cases a <;> simp_all
theorem or_parts {a b : Bool} (h : (bif a then true else b) = true) : a = true ∨ b = true := by cases a <;> simp_all
theorem orf_parts {a b : Bool} (h : (bif a then true else b) = false) : a = false ∧ b = false := by cases a <;> simp_all
theorem field_in {c : Bool} {v n : Int} (h : insn_field0 c v n = true) (hn : 0 < n) : 0 ≤ v ∧ v < n ∧ (c = false → v = 0) := by
  unfold insn_field0 at h
  rcases or_parts h with h | h
  · have := iEq_true.1 h; omega
  · obtain ⟨h1, h2⟩ := and_parts h
    obtain ⟨h3, h4⟩ := and_parts h1
    have := iLt_true.1 h4
    have := iLt_true.1 h2
    exact ⟨by omega, by omega, fun hc => by rw [hc] at h3; cases h3⟩
theorem facts2 : ∀ n, n < 70 → -4294967296 ≤ insn_Of4 (n : Nat) ∧ insn_Of5 (n : Nat) ≤ 4294967296 := by decide +kernel
theorem is_parts {e : In6} (h : isI e = true) : (1 ≤ e.op ∧ e.op < 70) ∧ (0 ≤ e.rd ∧ e.rd < 32 ∧ (insn_Of0 e.op = false → e.rd = 0)) ∧ (0 ≤ e.r1 ∧ e.r1 < 32 ∧ (insn_Of2 e.op = false → e.r1 = 0)) ∧ (0 ≤ e.r2 ∧ e.r2 < 32 ∧ (insn_Of3 e.op = false → e.r2 = 0)) ∧
    (0 ≤ e.cs ∧ e.cs < 4096 ∧ (insn_Of1 e.op = false → e.cs = 0)) ∧ (-4294967296 ≤ e.im ∧ e.im ≤ 4294967296 ∧ (iLt 0 (insn_Of6 e.op) = false → e.im = 0)) := by
  unfold isI at h
  have hop : 1 ≤ e.op ∧ e.op < 70 := by
    have h0 := iIn_true.1 (iis_op h)
    unfold insn_Is0 at h
    have h1 := (nor_parts h).1
    refine ⟨Classical.byContradiction fun hc => ?_, h0.2⟩
    rw [class_out (fun h => hc h.1)] at h1
    cases h1
  obtain ⟨n, hn⟩ := Int.eq_ofNat_of_zero_le (show 0 ≤ e.op by omega)
  obtain ⟨f1, f2, f3, f4, f5, f6, f7, f8⟩ := facts n (by omega) (by omega)
  have f9 := facts2 n (by omega)
  rw [← show e.op = ((n : Nat) : Int) from hn] at f7 f9
  unfold insn_Is0 at h
  obtain ⟨_, h⟩ := nor_parts h
  obtain ⟨hnum, h⟩ := nor_parts h
  obtain ⟨h, h4⟩ := and_parts h
  obtain ⟨h, h3⟩ := and_parts h
  obtain ⟨h1, h2⟩ := and_parts h
  refine ⟨hop, field_in h1 (by omega), field_in h2 (by omega), field_in h3 (by omega), field_in h4 (by omega), ?_⟩
  obtain ⟨g1, g2⟩ := orf_parts hnum
  cases hs : iLt 0 (insn_Of6 e.op) with
  | false =>
    rw [f7, hs] at g1
    have : iNe e.im 0 = false := g1
    rw [iNe_not, Bool.not_eq_false'] at this
    have := iEq_true.1 this
    exact ⟨by omega, by omega, fun _ => this⟩
  | true =>
    rw [hs, cond_true] at g2
    obtain ⟨g3, _⟩ := orf_parts g2
    obtain ⟨g4, g5⟩ := orf_parts g3
    have := iLt_false.1 g4
    have := iLt_false.1 g5
    exact ⟨by omega, by omega, fun h => by cases h⟩
theorem i64_ok {n : Int} (h0 : -4294967296 ≤ n) (h1 : n ≤ 4294967296) : i64G n = true := by
  unfold i64G; rw [iLe_true.2 (by omega), iLe_true.2 (by omega)]; rfl
theorem name_len (op : Int) : (insn_Name0 op).length ≤ 20 := by
  show (fun l : List UInt8 => l.length ≤ 20) (insn_Name0 op)
  unfold insn_Name0
  repeat' (refine cond_all (p := fun l : List UInt8 => l.length ≤ 20) ?_ ?_)
  all_goals decide
theorem facts3 : ∀ n, n < 70 → 1 ≤ n → sallyportref3_Name0 (n : Nat) = insn_Name0 (n : Nat) ∧ insn_Name0 (n : Nat) ≠ [] := by decide +kernel
theorem name_eq {op : Int} (h : 1 ≤ op ∧ op < 70) : sallyportref3_Name0 op = insn_Name0 op ∧ insn_Name0 op ≠ [] := by
  obtain ⟨n, rfl⟩ := Int.eq_ofNat_of_zero_le (show 0 ≤ op by omega)
  exact facts3 n (by omega) (by omega)
theorem text_gives (e : In6) : Gives Tryd.prog 12 [in6 e] (.st (textV e)) := by
  cases h : isI e with
  | false =>
    have hE := textE e
    rw [h] at hE
    have : ∀ X : Option Out, ∃ v, brC (!false) (some (true, AV.st [])) X = some (true, v) ∧ v = .st [] := fun X => by
      cases X with
      | none => exact ⟨_, rfl, rfl⟩
      | some x => refine ⟨_, ?_, rfl⟩; show some (Om.pick true _ _) = _; rw [Om.pick_t]
    obtain ⟨v, h1, rfl⟩ := this (txO (insn_Name0 e.op) _ [])
    rw [h1] at hE
    rw [show textV e = [] by unfold textV; rw [h]; rfl]
    exact pcOf_ok mix fair TB_ok HR_ok ⟨Tryd.func12, of_decide_eq_true (by kernel_rfl)⟩ (fun c _ => OvOk_none c) hE rfl
  | true =>
    obtain ⟨h0, h1, h2, h3, h4, h5⟩ := is_parts h
    have hE := textE e
    rw [h, txO_ok (by have := name_len e.op; omega) _ [] (fun x hx => by
      have q1 := itF_len e.rd; have q2 := itF_len e.cs; have q3 := itF_len e.r1; have q4 := itF_len e.r2; have q5 := itF_len e.im
      simp only [List.mem_cons, List.not_mem_nil, or_false] at hx
      rcases hx with rfl | rfl | rfl | rfl | rfl
      · exact ⟨fun _ => i64_ok (by omega) (by omega), by show (120 :: itF e.rd).length ≤ _; rw [List.length_cons]; omega⟩
      · exact ⟨fun _ => i64_ok (by omega) (by omega), by show (itF e.cs).length ≤ _; omega⟩
      · exact ⟨fun _ => i64_ok (by omega) (by omega), by show (120 :: itF e.r1).length ≤ _; rw [List.length_cons]; omega⟩
      · exact ⟨fun _ => i64_ok (by omega) (by omega), by show (120 :: itF e.r2).length ≤ _; rw [List.length_cons]; omega⟩
      · exact ⟨fun _ => i64_ok (by omega) (by omega), by show (itF e.im).length ≤ _; omega⟩) (by simp only [List.length_cons, List.length_nil]; omega) (fun x hx => by cases hx)] at hE
    have hE2 : pcOf Tryd.prog okT (lookR TB) HR RO NOV 100 false Tryd.f12 [in6 e] = some (true, .st (txF (insn_Name0 e.op) (sel (pcs e)))) := by
      rw [hE]
      show some (Om.pick false _ _) = _
      rw [Om.pick_f]; rfl
    rw [show textV e = txF (insn_Name0 e.op) (sel (pcs e)) by unfold textV; rw [h]; rfl]
    exact pcOf_ok mix fair TB_ok HR_ok ⟨Tryd.func12, of_decide_eq_true (by kernel_rfl)⟩ (fun c _ => OvOk_none c) hE2 rfl
theorem rtext_gives (e : In6) : Gives Tryd.prog 13 [in6 e] (.st (textV e)) := by
  have hi : sallyportref3_Is0 e.op e.rd e.r1 e.r2 e.im e.cs = isI e := by rw [is_eq]; unfold isI; rfl
  cases h : isI e with
  | false =>
    have hE := rtextE e
    rw [hi, h] at hE
    have : ∀ X : Option Out, ∃ v, brC (!false) (some (true, AV.st [])) X = some (true, v) ∧ v = .st [] := fun X => by
      cases X with
      | none => exact ⟨_, rfl, rfl⟩
      | some x => refine ⟨_, ?_, rfl⟩; show some (Om.pick true _ _) = _; rw [Om.pick_t]
    obtain ⟨v, h1, rfl⟩ := this (rxO (sallyportref3_Name0 e.op) _ [])
    rw [h1] at hE
    rw [show textV e = [] by unfold textV; rw [h]; rfl]
    exact pcOf_ok mix fair TC_ok HSound_none ⟨Tryd.func13, of_decide_eq_true (by kernel_rfl)⟩ (fun c _ => OvOk_none c) hE rfl
  | true =>
    obtain ⟨h0, h1, h2, h3, h4, h5⟩ := is_parts h
    have hE := rtextE e
    obtain ⟨n, hn⟩ := Int.eq_ofNat_of_zero_le (show 0 ≤ e.op by omega)
    obtain ⟨f1, f2, f3, f4, f5, f6, f7, f8⟩ := facts n (by omega) (by omega)
    rw [← show e.op = ((n : Nat) : Int) from hn] at f2 f3 f4 f5 f6
    rw [hi, h, f2, f3, f4, f5, f6, (name_eq h0).1, rxO_ok (by have := name_len e.op; omega) _ [] (fun x hx => by
      have q1 := itF_len e.rd; have q2 := itF_len e.cs; have q3 := itF_len e.r1; have q4 := itF_len e.r2; have q5 := itF_len e.im
      simp only [List.mem_cons, List.not_mem_nil, or_false] at hx
      rcases hx with rfl | rfl | rfl | rfl | rfl
      · exact ⟨fun _ => i64_ok (by omega) (by omega), by simp only [List.length_cons, List.length_nil]; omega⟩
      · exact ⟨fun _ => i64_ok (by omega) (by omega), by simp only [List.length_cons, List.length_nil]; omega⟩
      · exact ⟨fun _ => i64_ok (by omega) (by omega), by simp only [List.length_cons, List.length_nil]; omega⟩
      · exact ⟨fun _ => i64_ok (by omega) (by omega), by simp only [List.length_cons, List.length_nil]; omega⟩
      · exact ⟨fun _ => i64_ok (by omega) (by omega), by simp only [List.length_cons, List.length_nil]; omega⟩) (by simp only [List.length_cons, List.length_nil]; omega)] at hE
    have hr : ∀ c1 c2 c3 c4 c5 a1 a2 a3 a4 a5, rsel [(c1, [44, 120], a1), (c2, [44], a2), (c3, [44, 120], a3), (c4, [44, 120], a4), (c5, [44], a5)] = Lib.joinTail [44] (sel [(c1, 120 :: a1), (c2, a2), (c3, 120 :: a3), (c4, 120 :: a4), (c5, a5)]) := fun c1 c2 c3 c4 c5 a1 a2 a3 a4 a5 =>
      (show _ = rsel [(c1, [44], 120 :: a1), (c2, [44], a2), (c3, [44], 120 :: a3), (c4, [44], 120 :: a4), (c5, [44], a5)] by simp only [rsel, List.cons_append, List.nil_append]).trans (rsel_eq [(c1, 120 :: a1), (c2, a2), (c3, 120 :: a3), (c4, 120 :: a4), (c5, a5)])
    have hE2 : pcOf Tryd.prog okT (lookR TC) NOH RO NOV 100 false Tryd.f13 [in6 e] = some (true, .st (txF (insn_Name0 e.op) (sel (pcs e)))) := by
      rw [hE]
      show some (Om.pick false _ _) = _
      rw [Om.pick_f]
      simp only [List.map_cons, List.map_nil, List.nil_append]
      rw [hr, rxF_eq]; rfl
    rw [show textV e = txF (insn_Name0 e.op) (sel (pcs e)) by unfold textV; rw [h]; rfl]
    exact pcOf_ok mix fair TC_ok HSound_none ⟨Tryd.func13, of_decide_eq_true (by kernel_rfl)⟩ (fun c _ => OvOk_none c) hE2 rfl
end Go.Proofs.YtngaeiceicgalaaDoor.PV

set_option linter.unusedVariables false
set_option linter.unusedSimpArgs false
set_option maxRecDepth 100000
namespace Go.Proofs.YtngaeiceicgalaaDoor.PV
open Go Go.Ev
theorem text_row : RowOk Tryd.prog 12 (rowF [inSh] none fun g => .st (textV (de6 (g 0)))) := rowF_row fun g hg => text_gives (de6 (g 0))
theorem rtext_row : RowOk Tryd.prog 13 (rowF [inSh] none fun g => .st (textV (de6 (g 0)))) := rowF_row fun g hg => rtext_gives (de6 (g 0))
def TD : List Row := (12, rowF [inSh] none fun g => .st (textV (de6 (g 0)))) :: (13, rowF [inSh] none fun g => .st (textV (de6 (g 0)))) :: T10
theorem TD_ok : PSound Tryd.prog (lookR TD) := lookR_cons text_row (lookR_cons rtext_row T10_ok)
theorem knownE : pcOf Tryd.prog okT (lookR TD) HR RO NOV 100 true Tryd.f9 [] = some (true, .bl true) := by kernel_rfl
theorem known_row : RowOk Tryd.prog 9 (rowF [] none fun g => .bl true) := rowF_row fun g hg => pcOf_ok mix fair TD_ok HR_ok ⟨Tryd.func9, of_decide_eq_true (by kernel_rfl)⟩ (fun c _ => OvOk_none c) knownE rfl
def TE : List Row := (9, rowF [] none fun g => .bl true) :: TD
theorem TE_ok : PSound Tryd.prog (lookR TE) := lookR_cons known_row TD_ok
end Go.Proofs.YtngaeiceicgalaaDoor.PV

