/-
  Rounds of TlbOne.
-/
import Derived.Test.YtcmknfnnapnecaaUo
set_option linter.unusedVariables false
set_option linter.unusedSimpArgs false
set_option maxRecDepth 100000
namespace Go.Proofs.Ytcmknfnnapnecaa.PV
noncomputable section
open Go Go.Ev

/-- All of a table that holds something. -/
def rowN (Q : Ops) : MRow := fun args m => match args with
  | [.pt id [] r] => bif r.beq tlbSh then
      (match m.get id with
      | some (.cells t true) => bif t.shape.beq tlbSh then some (some (!Nat.beq (Q.n (deT t)) 0), [id], .sl 1 [] 0 (Q.n (deT t)) true, mem2 (tlbA (deT t)) (.arr (Q.n (deT t)) entSh fun j => enA (Q.el (deT t) j))) else none
      | _ => none) else none
  | _ => none
theorem rowN_ok : MRowOk Try.prog 14 (rowN ops) := fun args m c τ v m1 he hc => by
  unfold rowN at he
  split at he <;> try (cases he; done)
  rename_i id r
  cases hb : r.beq tlbSh with
  | false => rw [hb] at he; cases he
  | true =>
  rw [hb, cond_true] at he
  split at he <;> try (cases he; done)
  rename_i t hm
  cases hb2 : t.shape.beq tlbSh with
  | false => rw [hb2] at he; cases he
  | true =>
  rw [hb2, cond_true] at he
  cases he
  have h0 : Nat.beq (allN (deT t)) 0 = false := by
    rcases hc with hc | hc
    · cases hc
    · have h := Option.some.inj hc
      rw [Bool.not_eq_true'] at h
      exact h
  have hF : allRow [.pt id [] r] m = some (Nat.beq (allN (deT t)) 0, ([id], .nsl, mem1 (tlbA (deT t))), ([id], .sl 1 [] 0 (allN (deT t)) true, mem2 (tlbA (deT t)) (.arr (allN (deT t)) entSh fun j => enA (allE (deT t) j)))) := by
    unfold allRow rowZ
    simp only [hb, cond_true, hm, hb2]
  obtain ⟨_, h2⟩ := allRow_ok _ _ _ _ _ hF
  obtain ⟨a0, m0, q1, q2, q3⟩ := h2 h0
  exact ⟨a0, m0, q1, q2, q3⟩
def MTs (Q : Ops) : List (FuncId × MRow) := (14, rowN Q) :: MTq Q
theorem MTs_ok : MOk Try.prog (MTs ops) := ⟨rowN_ok, MTq_ok⟩

def u8A (n : Nat) (f : Nat → Int) : AV := .arr n (.int .u8) fun j => .it .u8 (f j)
def on0L : Lq := { n := 112, n0 := 3, ts := [0, 1, 5, 6], mv := [], ids := [(0, false), (1, false), (2, true)] }
def on2L : Lq := { n := 112, n0 := 6, ts := [0, 1, 5, 6, 10, 11], mv := [], ids := [(0, false), (1, false), (2, true), (5, true)] }
def on4L : Lq := { n := 112, n0 := 6, ts := [0, 1, 5, 6, 10, 11, 12], mv := [], ids := [(0, false), (1, false), (2, true), (5, true)] }
def on0S (n n' m m' : Nat) (pg pk : Nat → Int) (T : Tab) (i : Int) : List AV := [.sl 0 [] 0 n false, .sl 1 [] 0 m false, .pt 2 [] tlbSh, .it .i64 i, u8A n' pg, u8A m' pk, tlbA T]
def on2S (n n' m m' N N' : Nat) (pg pk : Nat → Int) (T E : Tab) (i k : Int) : List AV := [.sl 0 [] 0 n false, .sl 1 [] 0 m false, .pt 2 [] tlbSh, .it .i64 i, .sl 5 [] 0 N true, .it .i64 k, u8A n' pg, u8A m' pk, tlbA T, elA N' E]
def on4S (n n' m m' N N' : Nat) (pg pk : Nat → Int) (T E : Tab) (i k j : Int) : List AV := [.sl 0 [] 0 n false, .sl 1 [] 0 m false, .pt 2 [] tlbSh, .it .i64 i, .sl 5 [] 0 N true, .it .i64 k, .it .i64 j, u8A n' pg, u8A m' pk, tlbA T, elA N' E]
structure OnW where
  no : Tab → Int → Bool
  ck : Tab → Nat → Bool
  all : Nat → Nat → (Nat → Int) → (Nat → Int) → Tab → Bool
  tn : Nat → (Nat → Int) → (Nat → Int) → Tab → Tab
def nuA (a : AV) : Nat → Int := fun i => (a.ix i).num
def isSlq (id : Nat) (tip : Bool) : AV → Bool
  | .sl i [] lo _ t => Nat.beq i id && (Nat.beq lo 0 && (t == tip))
  | _ => false
def lenS : AV → Nat
  | .sl _ _ _ n _ => n
  | _ => 0
theorem isSlq_ok {id : Nat} {tip : Bool} {a : AV} (h : isSlq id tip a = true) : a = .sl id [] 0 (lenS a) tip := by
  unfold isSlq at h
  split at h <;> try (cases h; done)
  simp only [Bool.and_eq_true, Nat.beq_eq, beq_iff_eq] at h
  rw [h.1, h.2.1, h.2.2]; rfl
def on4Ts : List Tm := [.fx .ref, .fx .ref, .fx .ref, .fx (.int .i64), .fx .ref, .fx (.int .i64), .fx (.int .i64), .ar (.int .u8), .ar (.int .u8), .fx tlbSh, .ar entSh]
def on4Go (W : OnW) : (Nat → AV) → Kc → Option Out := goJ (fun g => isSlq 0 false (g 0) && (isSlq 1 false (g 1) && (isPt 2 tlbSh (g 2) && isSlq 5 true (g 4)))) (fun g => iEq (g 6).num 0 && (iIn (g 5).num (lenS (g 4)) && W.no (arT (g 10)) (g 5).num)) .normal
  (fun g => on4L.F (on4S (lenS (g 0)) (lenA (g 7)) (lenS (g 1)) (lenA (g 8)) (lenS (g 4)) (lenA (g 10)) (nuA (g 7)) (nuA (g 8)) (deT (g 9)) (arT (g 10)) (g 3).num (g 5).num (g 5).num))
  (fun g => on4L.M (on4S (lenS (g 0)) (lenA (g 7)) (lenS (g 1)) (lenA (g 8)) (lenS (g 4)) (lenA (g 10)) (nuA (g 7)) (nuA (g 8)) (deT (g 9)) (arT (g 10)) (g 3).num (g 5).num (g 5).num))
def on2Ts : List Tm := [.fx .ref, .fx .ref, .fx .ref, .fx (.int .i64), .fx .ref, .fx (.int .i64), .ar (.int .u8), .ar (.int .u8), .fx tlbSh, .ar entSh]
def on2Go (W : OnW) : (Nat → AV) → Kc → Option Out := goJ (fun g => isSlq 0 false (g 0) && (isSlq 1 false (g 1) && (isPt 2 tlbSh (g 2) && isSlq 5 true (g 4)))) (fun g => iEq (g 5).num 0 && W.ck (arT (g 9)) (lenS (g 4))) .normal
  (fun g => on2L.F (on2S (lenS (g 0)) (lenA (g 6)) (lenS (g 1)) (lenA (g 7)) (lenS (g 4)) (lenA (g 9)) (nuA (g 6)) (nuA (g 7)) (deT (g 8)) (arT (g 9)) (g 3).num (lenS (g 4) : Nat)))
  (fun g => on2L.M (on2S (lenS (g 0)) (lenA (g 6)) (lenS (g 1)) (lenA (g 7)) (lenS (g 4)) (lenA (g 9)) (nuA (g 6)) (nuA (g 7)) (deT (g 8)) (arT (g 9)) (g 3).num (lenS (g 4) : Nat)))
def on0Ts : List Tm := [.fx .ref, .fx .ref, .fx .ref, .fx (.int .i64), .ar (.int .u8), .ar (.int .u8), .fx tlbSh]
def on0Go (W : OnW) : (Nat → AV) → Kc → Option Out := goJ (fun g => isSlq 0 false (g 0) && (isSlq 1 false (g 1) && isPt 2 tlbSh (g 2))) (fun g => iEq (g 3).num 0 && W.all (lenS (g 0)) (lenS (g 1)) (nuA (g 4)) (nuA (g 5)) (deT (g 6))) .normal
  (fun g => on0L.F (on0S (lenS (g 0)) (lenA (g 4)) (lenS (g 1)) (lenA (g 5)) (nuA (g 4)) (nuA (g 5)) (W.tn (lenS (g 0)) (nuA (g 4)) (nuA (g 5)) (deT (g 6))) (lenS (g 0) : Nat)))
  (fun g => on0L.M (on0S (lenS (g 0)) (lenA (g 4)) (lenS (g 1)) (lenA (g 5)) (nuA (g 4)) (nuA (g 5)) (W.tn (lenS (g 0)) (nuA (g 4)) (nuA (g 5)) (deT (g 6))) (lenS (g 0) : Nat)))
theorem onA (Q : Ops) (n n' m m' N N' : Nat) (pg pk : Nat → Int) (T E : Tab) (i k j : Int) : evC Try.prog okT NPC (HH2 (MTs Q) (MTq2 Q)) RW NOV 101 false (bodyOf Try.f3.body 4) (on4L.F (on4S n n' m m' N N' pg pk T E i k j)) (on4L.M (on4S n n' m m' N N' pg pk T E i k j)) (grabJ 0 (grabQ on4L)) =
    some (iLt j k && (iIn k N && (iIn j N && ((!iEq (E (k.toNat + 0)).page (E (j.toNat + 0)).page || iIn k N) && ((!iEq (E (k.toNat + 0)).page (E (j.toNat + 0)).page || iIn j N) && ((!bif iEq (E (k.toNat + 0)).page (E (j.toNat + 0)).page then iEq (E (k.toNat + 0)).asid (E (j.toNat + 0)).asid else false) && true))))), .tup (.it .i64 0 :: on4S n n' m m' N N' pg pk T E i k (iAdd .i64 j 1))) := by kernel_rfl
theorem onAx (Q : Ops) (n n' m m' N N' : Nat) (pg pk : Nat → Int) (T E : Tab) (i k j : Int) : evC Try.prog okT NPC (HH2 (MTs Q) (MTq2 Q)) RW NOV 101 false (bodyOf Try.f3.body 4) (on4L.F (on4S n n' m m' N N' pg pk T E i k j)) (on4L.M (on4S n n' m m' N N' pg pk T E i k j)) (grabJ 6 (grabQ on4L)) =
    some (!iLt j k && true, .tup (.it .i64 6 :: on4S n n' m m' N N' pg pk T E i k j)) := by kernel_rfl
theorem onB (Q : Ops) (W : OnW) (n n' m m' N N' : Nat) (pg pk : Nat → Int) (T E : Tab) (i k : Int) : evC Try.prog okT NPC (HH2 (MTs Q) (MTq2 Q)) RW (ovT 4 on4L on4Ts (on4Go W)) 101 false (bodyOf Try.f3.body 2) (on2L.F (on2S n n' m m' N N' pg pk T E i k)) (on2L.M (on2S n n' m m' N N' pg pk T E i k)) (grabJ 0 (grabQ on2L)) =
    some (iLt k N && ((iEq 0 0 && (iIn k N && W.no E k)) && true), .tup (.it .i64 0 :: on2S n n' m m' N N' pg pk T E i (iAdd .i64 k 1))) := by kernel_rfl
theorem onBx (Q : Ops) (W : OnW) (n n' m m' N N' : Nat) (pg pk : Nat → Int) (T E : Tab) (i k : Int) : evC Try.prog okT NPC (HH2 (MTs Q) (MTq2 Q)) RW (ovT 4 on4L on4Ts (on4Go W)) 101 false (bodyOf Try.f3.body 2) (on2L.F (on2S n n' m m' N N' pg pk T E i k)) (on2L.M (on2S n n' m m' N N' pg pk T E i k)) (grabJ 4 (grabQ on2L)) =
    some (!iLt k N && true, .tup (.it .i64 4 :: on2S n n' m m' N N' pg pk T E i k)) := by kernel_rfl
/-- The entry that a round fills, the table behind it, what is looked up. -/
def onE (pg : Nat → Int) (i : Int) : En := ⟨true, false, iConv .i64 (iRem (pg (i.toNat + 0)) 40), iConv .i64 (iQuo .u8 (pg (i.toNat + 0)) 128), 0, i, 0, 0, 0⟩
def onT (Q : Ops) (pg pk : Nat → Int) (T : Tab) (i : Int) : Tab := Q.fi T (onE pg i) (iConv .i64 (pk (i.toNat + 0)))
def onHs (Q : Ops) (pg pk : Nat → Int) (T : Tab) (i : Int) : Bool := Q.hs (onT Q pg pk T i) (onE pg i).page false (onE pg i).asid 0
def onLk (Q : Ops) (pg pk : Nat → Int) (T : Tab) (i : Int) : Bool := eqX (Q.lk (onT Q pg pk T i) (onE pg i).page false (onE pg i).asid 0) (onE pg i)
theorem onC (Q : Ops) (W : OnW) (n n' m m' : Nat) (pg pk : Nat → Int) (T : Tab) (i : Int) : evC Try.prog okT NPC (HH2 (MTs Q) (MTq2 Q)) RW (ovT 2 on2L on2Ts (on2Go W)) 101 false (bodyOf Try.f3.body 0) (on0L.F (on0S n n' m m' pg pk T i)) (on0L.M (on0S n n' m m' pg pk T i)) (grabJ 0 (grabQ on0L)) =
    some (iLt i n && (iIn i n && (iIn i n && (iIn i m && (!Nat.beq (Q.n (onT Q pg pk T i)) 0 && ((!bif (bif !onHs Q pg pk T i then true else !onLk Q pg pk T i) then true else iLt 16 (Q.n (onT Q pg pk T i))) && ((iEq 0 0 && W.ck (Q.el (onT Q pg pk T i)) (Q.n (onT Q pg pk T i))) && true)))))), .tup (.it .i64 0 :: on0S n n' m m' pg pk (onT Q pg pk T i) (iAdd .i64 i 1))) := by kernel_rfl
theorem onCx (Q : Ops) (W : OnW) (n n' m m' : Nat) (pg pk : Nat → Int) (T : Tab) (i : Int) : evC Try.prog okT NPC (HH2 (MTs Q) (MTq2 Q)) RW (ovT 2 on2L on2Ts (on2Go W)) 101 false (bodyOf Try.f3.body 0) (on0L.F (on0S n n' m m' pg pk T i)) (on0L.M (on0S n n' m m' pg pk T i)) (grabJ 2 (grabQ on0L)) =
    some (!iLt i n && true, .tup (.it .i64 2 :: on0S n n' m m' pg pk T i)) := by kernel_rfl
/- .. without picks, where there is no page. -/
def onzL : Lq := { n := 112, n0 := 2, ts := [0, 1, 5, 6], mv := [], ids := [(0, false), (1, true)] }
def onzS (n n' : Nat) (pg : Nat → Int) (T : Tab) (i : Int) : List AV := [.sl 0 [] 0 n false, .nsl, .pt 1 [] tlbSh, .it .i64 i, u8A n' pg, tlbA T]
def onzTs : List Tm := [.fx .ref, .fx .ref, .fx .ref, .fx (.int .i64), .ar (.int .u8), .fx tlbSh]
def onzGo : (Nat → AV) → Kc → Option Out := goJ (fun g => isSlq 0 false (g 0) && (isNsl (g 1) && isPt 1 tlbSh (g 2))) (fun g => iEq (g 3).num 0 && !iLt 0 (lenS (g 0))) .normal
  (fun g => onzL.F (onzS (lenS (g 0)) (lenA (g 4)) (nuA (g 4)) (deT (g 5)) 0)) (fun g => onzL.M (onzS (lenS (g 0)) (lenA (g 4)) (nuA (g 4)) (deT (g 5)) 0))
theorem onZ (Q : Ops) (n n' : Nat) (pg : Nat → Int) (T : Tab) (i : Int) : evC Try.prog okT NPC (HH2 (MTs Q) (MTq2 Q)) RW NOV 101 false (bodyOf Try.f3.body 0) (onzL.F (onzS n n' pg T i)) (onzL.M (onzS n n' pg T i)) (grabJ 2 (grabQ onzL)) =
    some (!iLt i n && true, .tup (.it .i64 2 :: onzS n n' pg T i)) := by kernel_rfl
end
end Go.Proofs.Ytcmknfnnapnecaa.PV
