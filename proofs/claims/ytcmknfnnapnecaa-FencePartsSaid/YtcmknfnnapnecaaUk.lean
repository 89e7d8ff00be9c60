/-
  What the methods do, left open, for the evaluation of rounds; rounds of TlbMarks and TlbFull.
-/
import Derived.Test.YtcmknfnnapnecaaUj
import Derived.Test.YtcmknfnnapnecaaEwE
set_option linter.unusedVariables false
set_option linter.unusedSimpArgs false
set_option maxRecDepth 100000
namespace Go.Proofs.Ytcmknfnnapnecaa.PV
noncomputable section
open Go Go.Ev

theorem known_small : Small Try.prog 10 [] Mem.empty (.bl true) Mem.empty :=
  small_ok mix fair NPC_ok (HH2_ok MTf_ok MT2_ok) (f := 10) ⟨Try.func10, of_decide_eq_true (by kernel_rfl)⟩ (fun c _ => OvOk_none c) ((knownE fun _ => .un).trans (by rw [knownT]; rfl)) rfl rfl rfl rfl rfl rfl
/-- What the methods do, left open. -/
structure Ops where
  fi : Tab → En → Int → Tab
  lk : Tab → Int → Bool → Int → Int → En
  hs : Tab → Int → Bool → Int → Int → Bool
  n : Tab → Nat
  el : Tab → Tab
  db : Tab → En → Bool
  dr : Tab → En → Tab
def MTq (Q : Ops) : List (FuncId × MRow) := [(10, row0 (.bl true)),
  (16, rowB tlbSh [] (fun _ t => .it .i64 (Q.n (deT t))) (fun _ _ => tlbA fun _ => noEn)),
  (12, rowB tlbSh [entSh, .int .i64] (fun _ _ => .tup []) (fun g t => tlbA (Q.fi (deT t) (deA (g 0)) (g 1).num))),
  (18, rowB tlbSh [entSh, .int .i64] (fun _ _ => .tup []) (fun g t => tlbA (Q.fi (deT t) (deA (g 0)) (g 1).num))),
  (13, rowB tlbSh [.int .i64, .bool, .int .i64, .int .i64] (fun g t => .tup [enA (Q.lk (deT t) (g 0).num (g 1).bool (g 2).num (g 3).num), .bl (Q.hs (deT t) (g 0).num (g 1).bool (g 2).num (g 3).num)]) (fun g t => tlbA (deT t))),
  (21, rowB tlbSh [.int .i64, .bool, .int .i64, .int .i64] (fun g t => .tup [enA (Q.lk (deT t) (g 0).num (g 1).bool (g 2).num (g 3).num), .bl (Q.hs (deT t) (g 0).num (g 1).bool (g 2).num (g 3).num)]) (fun g t => tlbA (deT t))),
  (15, rowB tlbSh [entSh] (fun g t => .bl (Q.db (deT t) (deA (g 0)))) (fun g t => tlbA (Q.dr (deT t) (deA (g 0)))))]
def MTq2 (Q : Ops) : List (FuncId × MRow2) := [(14, rowZ tlbSh entSh (fun t => Nat.beq (Q.n (deT t)) 0) (fun t => Q.n (deT t)) (fun t j => enA (Q.el (deT t) j)) (fun t => tlbA (deT t))),
  (20, rowZ tlbSh entSh (fun t => Nat.beq (Q.n (deT t)) 0) (fun t => Q.n (deT t)) (fun t j => enA (Q.el (deT t) j)) (fun t => tlbA (deT t)))]
def ops : Ops := ⟨fillF, lookF, hasF, allN, allE, dropB, dropF⟩
theorem MTq_ok : MOk Try.prog (MTq ops) := ⟨row0_ok rfl known_small, flushRow_ok, fillRow_ok, rfillRow_ok, lookRow_ok, rlookRow_ok, dropRow_ok, trivial⟩
theorem MTq2_ok : MOk2 Try.prog (MTq2 ops) := MT2_ok
def RW : FuncId → Bool := fun _ => false
/-- All of a table that is full. -/
def rowF (Q : Ops) : MRow := fun args m => match args with
  | [.pt id [] r] => bif r.beq tlbSh then
      (match m.get id with
      | some (.cells t true) => bif t.shape.beq tlbSh then some (some (Nat.beq (Q.n (deT t)) 16), [id], .sl 1 [] 0 16 true, mem2 (tlbA (deT t)) (.arr 16 entSh fun j => enA (Q.el (deT t) j))) else none
      | _ => none) else none
  | _ => none
theorem rowF_ok : MRowOk Try.prog 14 (rowF ops) := fun args m c τ v m1 he hc => by
  unfold rowF at he
  split at he <;> try (cases he; done)
  rename_i id r
  cases hb : r.beq tlbSh with
  | false => rw [hb] at he; cases he
  | true =>
  rw [hb, cond_true] at he
  have hr := Sh.beq_eq _ _ hb
  split at he <;> try (cases he; done)
  rename_i t hm
  cases hb2 : t.shape.beq tlbSh with
  | false => rw [hb2] at he; cases he
  | true =>
  rw [hb2, cond_true] at he
  cases he
  have h16 : Nat.beq (allN (deT t)) 16 = true := by
    rcases hc with hc | hc
    · cases hc
    · exact Option.some.inj hc
  have h16 := Nat.eq_of_beq_eq_true h16
  have hF : allRow [.pt id [] r] m = some (Nat.beq (allN (deT t)) 0, ([id], .nsl, mem1 (tlbA (deT t))), ([id], .sl 1 [] 0 (allN (deT t)) true, mem2 (tlbA (deT t)) (.arr (allN (deT t)) entSh fun j => enA (allE (deT t) j)))) := by
    unfold allRow rowZ
    simp only [hb, cond_true, hm, hb2]
  obtain ⟨_, h2⟩ := allRow_ok _ _ _ _ _ hF
  have h2 := h2 (by rw [h16]; rfl)
  rw [h16] at h2
  obtain ⟨a0, m0, q1, q2, q3⟩ := h2
  exact ⟨a0, m0, q1, q2, q3⟩
def MTr (Q : Ops) : List (FuncId × MRow) := (14, rowF Q) :: MTq Q
theorem MTr_ok : MOk Try.prog (MTr ops) := ⟨rowF_ok, MTq_ok⟩
def mk0L : Lq := { n := 124, n0 := 1, ts := [1, 2, 7, 8, 10, 9], mv := [], ids := [(0, true)] }
def mk1L : Lq := { n := 124, n0 := 1, ts := [1, 2, 7, 8, 10], mv := [9], ids := [(0, true)] }
def mk2L : Lq := { n := 124, n0 := 2, ts := [1, 2, 7, 8, 12, 9], mv := [], ids := [(0, true), (1, true)] }
def fu0L : Lq := { n := 68, n0 := 1, ts := [0, 3, 4], mv := [], ids := [(0, true)] }
def fu1L : Lq := { n := 68, n0 := 2, ts := [3, 5, 7, 6], mv := [], ids := [(0, true), (1, true)] }

def oneX (e : En) : Tab := fun j => ⟨bif j + 0 == 0 then e.ok else false, bif j + 0 == 0 then e.v else false, bif j + 0 == 0 then e.page else 0, bif j + 0 == 0 then e.asid else 0, bif j + 0 == 0 then e.vmid else 0, bif j + 0 == 0 then e.frame else 0, bif j + 0 == 0 then e.bits else 0,
  bif j + 0 == 0 then e.host else 0, bif j + 0 == 0 then e.guest else 0⟩
def addX (n : Nat) (E : Tab) (e : En) : Tab := fun j => ⟨bif decide (j < n) then (E (j + 0)).ok else bif j - n + 0 == 0 then e.ok else false, bif decide (j < n) then (E (j + 0)).v else bif j - n + 0 == 0 then e.v else false, bif decide (j < n) then (E (j + 0)).page else bif j - n + 0 == 0 then e.page else 0,
  bif decide (j < n) then (E (j + 0)).asid else bif j - n + 0 == 0 then e.asid else 0, bif decide (j < n) then (E (j + 0)).vmid else bif j - n + 0 == 0 then e.vmid else 0, bif decide (j < n) then (E (j + 0)).frame else bif j - n + 0 == 0 then e.frame else 0,
  bif decide (j < n) then (E (j + 0)).bits else bif j - n + 0 == 0 then e.bits else 0, bif decide (j < n) then (E (j + 0)).host else bif j - n + 0 == 0 then e.host else 0, bif decide (j < n) then (E (j + 0)).guest else bif j - n + 0 == 0 then e.guest else 0⟩
theorem oneX_eq (e : En) : oneX e = oneE e := by
  funext j
  unfold oneX oneE
  cases j + 0 == 0 <;> rfl
theorem addX_eq (n : Nat) (E : Tab) (e : En) : addX n E e = addE n E e := by
  funext j
  unfold addX addE
  cases decide (j < n) with
  | true => rfl
  | false => cases j - n + 0 == 0 <;> rfl

/-- The entry that TlbMarks fills. -/
def mkE (p a b i : Int) : En := ⟨true, iEq (iAnd .i64 i 1) 1, p, iAdd .i64 (iConv .i64 a) (iAnd .i64 (iShr .i64 i 1) 1), iAdd .i64 (iConv .i64 b) (iShr .i64 i 2), i, 0, 0, 0⟩
def mkS0 (T : Tab) (p a b i : Int) : List AV := [.it .u8 a, .it .u8 b, .pt 0 [] tlbSh, .it .i64 p, .it .i64 i, .nsl, tlbA T]
def mkS1 (n : Nat) (T E : Tab) (p a b i : Int) : List AV := [.it .u8 a, .it .u8 b, .pt 0 [] tlbSh, .it .i64 p, .it .i64 i, .sl 1 [] 0 n true, tlbA T, elA n E]
theorem mkA (Q : Ops) (T : Tab) (p a b i : Int) : evC Try.prog okT NPC (HH2 (MTq Q) (MTq2 Q)) RW NOV 101 false (bodyOf Try.f4.body 0) (mk0L.F (mkS0 T p a b i)) (mk0L.M (mkS0 T p a b i)) (grabJ 0 (grabQ mk1L)) =
    some (iLt i 8 && true, .tup (.it .i64 0 :: mkS1 1 (Q.fi T (mkE p a b i) 0) (oneX (mkE p a b i)) p a b (iAdd .i64 i 1))) := by kernel_rfl
theorem mkB (Q : Ops) (n : Nat) (T E : Tab) (p a b i : Int) : evC Try.prog okT NPC (HH2 (MTq Q) (MTq2 Q)) RW NOV 101 false (bodyOf Try.f4.body 0) (mk1L.F (mkS1 n T E p a b i)) (mk1L.M (mkS1 n T E p a b i)) (grabJ 0 (grabI 9 1 false mk1L)) =
    some (iLt i 8 && ((n + 1).ble 4294967296 && true), .tup (.it .i64 0 :: mkS1 (n + 1) (Q.fi T (mkE p a b i) 0) (addX n E (mkE p a b i)) p a b (iAdd .i64 i 1))) := by kernel_rfl
theorem mkX (Q : Ops) (n : Nat) (T E : Tab) (p a b i : Int) : evC Try.prog okT NPC (HH2 (MTq Q) (MTq2 Q)) RW NOV 101 false (bodyOf Try.f4.body 0) (mk1L.F (mkS1 n T E p a b i)) (mk1L.M (mkS1 n T E p a b i)) (grabJ 2 (grabI 9 1 true mk1L)) =
    some (!iLt i 8 && true, .tup (.it .i64 2 :: mkS1 n T E p a b i)) := by kernel_rfl
/-- Two entries are the same. -/
def eqX (a b : En) : Bool := a.ok == b.ok && (a.v == b.v && (iEq a.page b.page && (iEq a.asid b.asid && (iEq a.vmid b.vmid && (iEq a.frame b.frame && (iEq a.bits b.bits && (iEq a.host b.host && (iEq a.guest b.guest && true))))))))
theorem eqX_eq {a b : En} (h : eqX a b = true) : a = b := by
  unfold eqX at h
  simp only [Bool.and_eq_true, beq_iff_eq, iEq_true] at h
  obtain ⟨h1, h2, h3, h4, h5, h6, h7, h8, h9, _⟩ := h
  cases a; cases b
  simp_all
theorem eqX_refl (a : En) : eqX a a = true := by
  unfold eqX
  simp [iEq_true]
theorem mkC (Q : Ops) (T E : Tab) (p a b i : Int) : evC Try.prog okT NPC (HH2 (MTq Q) (MTq2 Q)) RW NOV 101 false (bodyOf Try.f4.body 2) (mk2L.F (mkS1 8 T E p a b i)) (mk2L.M (mkS1 8 T E p a b i)) (grabJ 0 (grabI 9 1 true mk2L)) =
    some (iLt i 8 && (iIn i 8 && (iIn i 8 && (iIn i 8 && ((!!!(Q.hs T p (E (i.toNat + 0)).v (E (i.toNat + 0)).asid (E (i.toNat + 0)).vmid) || iIn i 8) && ((!bif !(Q.hs T p (E (i.toNat + 0)).v (E (i.toNat + 0)).asid (E (i.toNat + 0)).vmid) then true else !eqX (Q.lk T p (E (i.toNat + 0)).v (E (i.toNat + 0)).asid (E (i.toNat + 0)).vmid) (E (i.toNat + 0))) && true))))), .tup (.it .i64 0 :: mkS1 8 T E p a b (iAdd .i64 i 1))) := by kernel_rfl
theorem mkY (Q : Ops) (T E : Tab) (p a b i : Int) : evC Try.prog okT NPC (HH2 (MTq Q) (MTq2 Q)) RW NOV 101 false (bodyOf Try.f4.body 2) (mk2L.F (mkS1 8 T E p a b i)) (mk2L.M (mkS1 8 T E p a b i)) (grabJ 4 (grabI 9 1 true mk2L)) =
    some (!iLt i 8 && true, .tup (.it .i64 4 :: mkS1 8 T E p a b i)) := by kernel_rfl

def fuE (i : Int) : En := ⟨true, false, i, 0, 0, 0, 0, 0, 0⟩
def fuS0 (T : Tab) (p i : Int) : List AV := [.it .i64 p, .pt 0 [] tlbSh, .it .i64 i, tlbA T]
def fuS1 (T E : Tab) (k i : Int) : List AV := [.pt 0 [] tlbSh, .it .i64 k, .it .i64 i, .sl 1 [] 0 16 true, tlbA T, elA 16 E]
theorem fuA (Q : Ops) (T : Tab) (p i : Int) : evC Try.prog okT NPC (HH2 (MTq Q) (MTq2 Q)) RW NOV 101 false (bodyOf Try.f5.body 0) (fu0L.F (fuS0 T p i)) (fu0L.M (fuS0 T p i)) (grabJ 0 (grabQ fu0L)) =
    some (iLt i 16 && true, .tup (.it .i64 0 :: fuS0 (Q.fi T (fuE i) 7) p (iAdd .i64 i 1))) := by kernel_rfl
theorem fuX (Q : Ops) (T : Tab) (p i : Int) : evC Try.prog okT NPC (HH2 (MTq Q) (MTq2 Q)) RW NOV 101 false (bodyOf Try.f5.body 0) (fu0L.F (fuS0 T p i)) (fu0L.M (fuS0 T p i)) (grabJ 2 (grabQ fu0L)) =
    some (!iLt i 16 && true, .tup (.it .i64 2 :: fuS0 T p i)) := by kernel_rfl
theorem fuC (Q : Ops) (T E : Tab) (k i : Int) : evC Try.prog okT NPC (HH2 (MTq Q) (MTq2 Q)) RW NOV 101 false (bodyOf Try.f5.body 2) (fu1L.F (fuS1 T E k i)) (fu1L.M (fuS1 T E k i)) (grabJ 0 (grabI 6 1 true fu1L)) =
    some (Om.land (iLt i 16) (Om.pick (iEq i k) ((!!iLe 16 i || iIn i 16) && ((!bif iLe 16 i then true else iNe (E (i.toNat + 0)).page 100) && true), .tup (.it .i64 0 :: fuS1 T E k (iAdd .i64 i 1))) ((!!iLe 16 i || iIn i 16) && ((!bif iLe 16 i then true else iNe (E (i.toNat + 0)).page i) && true), .tup (.it .i64 0 :: fuS1 T E k (iAdd .i64 i 1))))) := by kernel_rfl
theorem fuY (Q : Ops) (T E : Tab) (k i : Int) : evC Try.prog okT NPC (HH2 (MTq Q) (MTq2 Q)) RW NOV 101 false (bodyOf Try.f5.body 2) (fu1L.F (fuS1 T E k i)) (fu1L.M (fuS1 T E k i)) (grabJ 4 (grabI 6 1 true fu1L)) =
    some (!iLt i 16 && true, .tup (.it .i64 4 :: fuS1 T E k i)) := by kernel_rfl
end
end Go.Proofs.Ytcmknfnnapnecaa.PV
