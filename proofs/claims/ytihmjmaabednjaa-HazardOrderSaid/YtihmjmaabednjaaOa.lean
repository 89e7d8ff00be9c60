/-
  hazard.Order: one round, evaluated.
-/
import Derived.Test.YtihmjmaabednjaaLa
import Derived.Test.YtihmjmaabednjaaEwF
set_option linter.unusedVariables false
set_option linter.unusedSimpArgs false
set_option maxRecDepth 100000
namespace Go.Proofs.Ytihmjmaabednjaa.PV
noncomputable section
open Go Go.Ev
structure In6 where
  op : Int
  rd : Int
  r1 : Int
  r2 : Int
  im : Int
  cs : Int
def inSh : Sh := .agg [.int .i64, .int .i64, .int .i64, .int .i64, .int .i64, .int .i64]
def in6 (i : In6) : AV := .agg [.it .i64 i.op, .it .i64 i.rd, .it .i64 i.r1, .it .i64 i.r2, .it .i64 i.im, .it .i64 i.cs]
def de6 (a : AV) : In6 := ⟨(a.fld 0).num, (a.fld 1).num, (a.fld 2).num, (a.fld 3).num, (a.fld 4).num, (a.fld 5).num⟩
theorem norm6 (a : AV) : norm inSh a = in6 (de6 a) := rfl
def inA (n : Nat) (E : Nat → In6) : AV := .arr n inSh fun j => in6 (E j)
def deI (a : AV) : Nat → In6 := fun j => de6 (a.ix j)
def lsA (L : Nat → Int) : AV := .arr 32 (.int .i64) fun j => .it .i64 (L j)
def ouA (k : Nat) (O : Nat → Int) : AV := .arr k (.int .i64) fun j => .it .i64 (O j)
def rA (e : In6) : Int := insn_Reads0 e.op e.rd e.r1 e.r2 e.im e.cs
def rB (e : In6) : Int := insn_Reads1 e.op e.rd e.r1 e.r2 e.im e.cs
def wR (e : In6) : Int := insn_Writes0 e.op e.rd e.r1 e.r2 e.im e.cs
def PC : Pcs := lookR T13
def addO (k : Nat) (O : Nat → Int) (v : Int) : Nat → Int := fun j => bif decide (j < k) then O (j + 0) else bif j - k + 0 == 0 then v else 0
def orSh : Sh := .arr 32 (.int .i64)
def orL : Lq := { n := 62, n0 := 3, ts := [3, 23, 24, 25], mv := [5], ids := [(0, false), (1, true)] }
def orS (n n' : Nat) (E : Nat → In6) (L : Nat → Int) (i : Int) (k : Nat) (O : Nat → Int) : List AV := [.pt 1 [] orSh, .sl 0 [] 0 n false, .it .i64 n, .it .i64 i, .sl 3 [] 0 k true, inA n' E, lsA L, ouA k O]
def orW (n n' : Nat) (E : Nat → In6) (L : Nat → Int) (i : Int) (k : Nat) (O : Nat → Int) (w v : Int) : Option Out :=
  bindC (some (Nat.ble (k + 1) 4294967296)) (bif iNe w 0 then bindC (some (iIn w 32)) (some (true, .tup (.it .i64 0 :: orS n n' E (setN L w.toNat i) (iAdd .i64 i 1) (k + 1) (addO k O v))))
    else some (true, .tup (.it .i64 0 :: orS n n' E L (iAdd .i64 i 1) (k + 1) (addO k O v))))
def orB (n n' : Nat) (E : Nat → In6) (L : Nat → Int) (i : Int) (k : Nat) (O : Nat → Int) (e : In6) (v : Int) : Option Out :=
  bindC (some (iIn 1 2)) (bif iNe (rB e) 0 then bindC (some (iIn (rB e) 32)) (orW n n' E L i k O (wR e) (iMax v (L (rB e).toNat))) else orW n n' E L i k O (wR e) v)
def orR (n n' : Nat) (E : Nat → In6) (L : Nat → Int) (i : Int) (k : Nat) (O : Nat → Int) (e : In6) : Option Out :=
  bif iLt i n then bindC (some (iIn i n)) (bindC (some (iIn 0 2)) (bif iNe (rA e) 0 then bindC (some (iIn (rA e) 32)) (orB n n' E L i k O e (iMax (-1) (L (rA e).toNat))) else orB n n' E L i k O e (-1))) else none
theorem orA (n n' : Nat) (E : Nat → In6) (L : Nat → Int) (i : Int) (k : Nat) (O : Nat → Int) : evC Try.prog okT PC NOH RO NOV 100 true (bodyAt Try.f19.body 2) (orL.F (orS n n' E L i k O)) (orL.M (orS n n' E L i k O)) (grabJ 0 (grabQ orL)) =
    orR n n' E L i k O (E (i.toNat + 0)) := by kernel_rfl
theorem orX (n n' : Nat) (E : Nat → In6) (L : Nat → Int) (i : Int) (k : Nat) (O : Nat → Int) : evC Try.prog okT PC NOH RO (ovNot 3) 100 true (bodyAt Try.f19.body 2) (orL.F (orS n n' E L i k O)) (orL.M (orS n n' E L i k O)) (grabJ 4 (grabQ orL)) =
    bif iLt i n then none else some (true, .tup (.it .i64 4 :: orS n n' E L i k O)) := by kernel_rfl
end
end Go.Proofs.Ytihmjmaabednjaa.PV
