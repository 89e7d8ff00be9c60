/-
  Rounds of TlbPlays; the law, evaluated.
-/
import Derived.Test.YtcmknfnnapnecaaUx
set_option linter.unusedVariables false
set_option linter.unusedSimpArgs false
set_option maxRecDepth 100000
namespace Go.Proofs.Ytcmknfnnapnecaa.PV
noncomputable section
open Go Go.Ev

structure St where
  what : Int
  pick : Int
  e : En
def stSh : Sh := .agg [.int .i64, .int .i64, entSh]
def stA (s : St) : AV := .agg [.it .i64 s.what, .it .i64 s.pick, enA s.e]
def deSt (a : AV) : St := ⟨(a.fld 0).num, (a.fld 1).num, deA (a.fld 2)⟩
theorem norm_st (a : AV) : norm stSh a = stA (deSt a) := rfl
def stR (n : Nat) (f : Nat → St) : AV := .arr n stSh fun j => stA (f j)
def arSt (a : AV) : Nat → St := fun i => deSt (a.ix i)
/-- What is left open. -/
structure PlY where
  rb : Tab → En → Bool
  rr : Tab → En → Tab
  sm : Nat → Nat → Tab → Tab → Bool
  ok : St → Tab → Tab → Bool
  t : St → Tab → Tab
  r : St → Tab → Tab
  all : Nat → (Nat → St) → Int → Int → Int → Bool → Tab → Tab → Bool
  tn : Nat → (Nat → St) → Tab → Tab
  rn : Nat → (Nat → St) → Tab → Tab
def MTp (Q : Ops) (Y : PlY) : List (FuncId × MRow) := (19, rowB tlbSh [entSh] (fun g t => .bl (Y.rb (deT t) (deA (g 0)))) (fun g t => tlbA (Y.rr (deT t) (deA (g 0))))) :: (22, samRow Y.sm) :: MTq Q

def pl5L : Lq := { n := 113, n0 := 6, ts := [0, 1, 2, 3, 4, 11, 13, 14, 15], mv := [12], ids := [(0, false), (1, true), (4, true), (5, true)] }
def pl5S (n n' : Nat) (st : Nat → St) (p asi vm : Int) (v : Bool) (T R : Tab) (i : Int) (s : St) (c : Tab) : List AV := [.sl 0 [] 0 n false, .it .i64 p, .it .i64 asi, .it .i64 vm, .bl v, .pt 1 [] tlbSh, .it .i64 i, .pt 4 [] stSh, .pt 5 [] tlbSh, .pt 6 [] tlbSh, stR n' st, tlbA T, stA s, tlbA c, tlbA R]
theorem plB (Q : Ops) (Y : PlY) (n n' : Nat) (st : Nat → St) (p asi vm : Int) (v : Bool) (T R : Tab) (i : Int) (s : St) (c : Tab) :
    evC Try.prog okT NPC (HH2 (MTp Q Y) (MTq2 Q)) RW NOV 101 false (blkAt ((Try.f6.body).getD .skip) 2) (pl5L.F (pl5S n n' st p asi vm v T R i s c)) (pl5L.M (pl5S n n' st p asi vm v T R i s c)) (grabJ 0 (grabQ pl5L)) =
    some (Om.pick (iLe s.what 2) (true, .tup (.it .i64 0 :: pl5S n n' st p asi vm v (Q.fi T s.e s.pick) (Q.fi R s.e s.pick) i s c))
      (Om.pick (iEq s.what 3) (Om.land (!!(Q.db T s.e == Y.rb R s.e)) (true, .tup (.it .i64 0 :: pl5S n n' st p asi vm v (Q.dr T s.e) (Y.rr R s.e) i s c)))
        (Om.pick (Nat.beq (Q.n R) 0) (Om.land (!iNe (Q.n T) 0) (true, .tup (.it .i64 0 :: pl5S n n' st p asi vm v (fun _ => noEn) (fun _ => noEn) i s c)))
          (Om.land (!iNe (Q.n T) (Q.n R)) (true, .tup (.it .i64 0 :: pl5S n n' st p asi vm v (fun _ => noEn) (fun _ => noEn) i s c)))))) := by kernel_rfl
def pl5Ts : List Tm := [.fx .ref, .fx (.int .i64), .fx (.int .i64), .fx (.int .i64), .fx .bool, .fx .ref, .fx (.int .i64), .fx .ref, .fx .ref, .fx .ref, .ar stSh, .fx tlbSh, .fx stSh, .fx tlbSh, .fx tlbSh]
def pl5E (Y : PlY) (g : Nat → AV) : List AV := pl5S (lenS (g 0)) (lenA (g 10)) (arSt (g 10)) (g 1).num (g 2).num (g 3).num (g 4).bool (Y.t (deSt (g 12)) (deT (g 11))) (Y.r (deSt (g 12)) (deT (g 14))) (g 6).num (deSt (g 12)) (deT (g 13))
def pl5Go (Y : PlY) : (Nat → AV) → Kc → Option Out := goJ (fun g => isSlq 0 false (g 0) && (isPt 1 tlbSh (g 5) && (isPt 4 stSh (g 7) && (isPt 5 tlbSh (g 8) && isPt 6 tlbSh (g 9))))) (fun g => Y.ok (deSt (g 12)) (deT (g 11)) (deT (g 14))) .normal
  (fun g => pl5L.F (pl5E Y g)) (fun g => pl5L.M (pl5E Y g))
def pl0L : Lq := { n := 113, n0 := 3, ts := [0, 1, 2, 3, 4, 11, 13], mv := [12], ids := [(0, false), (1, true)] }
def pl0S (n n' : Nat) (st : Nat → St) (p asi vm : Int) (v : Bool) (T R : Tab) (i : Int) : List AV := [.sl 0 [] 0 n false, .it .i64 p, .it .i64 asi, .it .i64 vm, .bl v, .pt 1 [] tlbSh, .it .i64 i, .pt 3 [] tlbSh, stR n' st, tlbA T, tlbA R]
def plGd (Q : Ops) (p asi vm : Int) (v : Bool) (T R : Tab) : Bool := (!bif (bif !true then true else !eqX (Q.lk T p v asi vm) (Q.lk R p v asi vm)) then true else !(Q.hs T p v asi vm == Q.hs R p v asi vm)) && true
theorem plA (Q : Ops) (Y : PlY) (n n' : Nat) (st : Nat → St) (p asi vm : Int) (v : Bool) (T R : Tab) (i : Int) :
    evC Try.prog okT NPC (HH2 (MTp Q Y) (MTq2 Q)) RW (ovT 2 pl5L pl5Ts (pl5Go Y)) 101 false (bodyOf Try.f6.body 0) (pl0L.F (pl0S n n' st p asi vm v T R i)) (pl0L.M (pl0S n n' st p asi vm v T R i)) (grabJ 0 (grabQ pl0L)) =
    some (Om.land (iLt i n) (Om.land (iIn i n) (Om.land (Y.ok (st (i.toNat + 0)) T R)
      (Om.pick (Nat.beq (Q.n (Y.t (st (i.toNat + 0)) T)) 0)
        (Om.land (Nat.beq (Q.n (Y.r (st (i.toNat + 0)) R)) 0) (plGd Q p asi vm v (Y.t (st (i.toNat + 0)) T) (Y.r (st (i.toNat + 0)) R), .tup (.it .i64 0 :: pl0S n n' st p asi vm v (Y.t (st (i.toNat + 0)) T) (Y.r (st (i.toNat + 0)) R) (iAdd .i64 i 1))))
        (Om.land (!Nat.beq (Q.n (Y.r (st (i.toNat + 0)) R)) 0) (Om.land (Y.sm (Q.n (Y.t (st (i.toNat + 0)) T)) (Q.n (Y.r (st (i.toNat + 0)) R)) (Q.el (Y.t (st (i.toNat + 0)) T)) (Q.el (Y.r (st (i.toNat + 0)) R)))
          (plGd Q p asi vm v (Y.t (st (i.toNat + 0)) T) (Y.r (st (i.toNat + 0)) R), .tup (.it .i64 0 :: pl0S n n' st p asi vm v (Y.t (st (i.toNat + 0)) T) (Y.r (st (i.toNat + 0)) R) (iAdd .i64 i 1)))))))) ) := by kernel_rfl
theorem plX (Q : Ops) (Y : PlY) (n n' : Nat) (st : Nat → St) (p asi vm : Int) (v : Bool) (T R : Tab) (i : Int) :
    evC Try.prog okT NPC (HH2 (MTp Q Y) (MTq2 Q)) RW (ovT 2 pl5L pl5Ts (pl5Go Y)) 101 false (bodyOf Try.f6.body 0) (pl0L.F (pl0S n n' st p asi vm v T R i)) (pl0L.M (pl0S n n' st p asi vm v T R i)) (grabJ 2 (grabQ pl0L)) =
    some (!iLt i n && true, .tup (.it .i64 2 :: pl0S n n' st p asi vm v T R i)) := by kernel_rfl
end
end Go.Proofs.Ytcmknfnnapnecaa.PV
