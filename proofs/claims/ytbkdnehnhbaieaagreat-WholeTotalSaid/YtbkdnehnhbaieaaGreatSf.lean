/-
  WholeTotal: whatever memory, words, states, levels, each step comes back; levels and registers stay within their bounds.
-/
import Derived.Test.YtbkdnehnhbaieaaGreatRows
import Derived.Test.YtbkdnehnhbaieaaGreatChecked
import Derived.Test.YtbkdnehnhbaieaaGreatSe
set_option linter.unusedVariables false
set_option linter.unusedSimpArgs false
namespace Go.Proofs.YtbkdnehnhbaieaaGreat.PV
noncomputable section
open Go Go.Ev
def aT5 (t al : Int) (o : Nat → List UInt8) (f d0 : Nat → Int) (e8 d8 : Int) (d9 : Bool) (e6 : Nat → Int) (e7 e9 n5 l8 n8 m9 p9 : Int) : Bool :=
 aY1 t al o f d0 e8 d8 d9 e6 e7 e9 n5 l8 n8 m9 p9 &&
 bif !r8 t al o f d0 e8 d8 d9 e6 e7 e9 n5 l8 n8 m9 p9 then true else true
def aT0 (t al : Int) (o : Nat → List UInt8) (f d0 : Nat → Int) (e8 d8 : Int) (d9 : Bool) (e6 : Nat → Int) (e7 e9 n5 l8 n8 m9 p9 : Int) : Bool :=
 bif iEq (a8 e9) 5 then iIn l8 32 && true
 else
 bif iEq (a8 e9) 6 then iIn l8 32 && (iIn n8 32 && true)
 else
 bif iEq (a8 e9) 8 then ax8 d0 e8 d8 d9 e6 e7 e9 n5 l8 n8 m9 p9 && true
 else
 bif iEq (a8 e9) 9 then ak4 d0 e8 d8 d9 e6 e7 e9 n5 l8 n8 m9 p9 && true
 else bif iEq (a8 e9) 10 then true else true
def bk3 (t al : Int) (o : Nat → List UInt8) (f d0 : Nat → Int) (e8 d8 : Int) (d9 : Bool) (e6 : Nat → Int) (e7 e9 n5 l8 n8 m9 p9 : Int) : Bool :=
 bif iEq (a8 e9) 3 then
 bif iEq (a8 e9) 3 then aT5 t al o f d0 e8 d8 d9 e6 e7 e9 n5 l8 n8 m9 p9 else aT0 t al o f d0 e8 d8 d9 e6 e7 e9 n5 l8 n8 m9 p9
 else
 bif iEq (a8 e9) 4 then
 bif iEq (a8 e9) 4 then aT5 t al o f d0 e8 d8 d9 e6 e7 e9 n5 l8 n8 m9 p9 else aT0 t al o f d0 e8 d8 d9 e6 e7 e9 n5 l8 n8 m9 p9
 else
 bif iEq (a8 e9) 12 then aT5 t al o f d0 e8 d8 d9 e6 e7 e9 n5 l8 n8 m9 p9
 else aT0 t al o f d0 e8 d8 d9 e6 e7 e9 n5 l8 n8 m9 p9
def aB2 (t al : Int) (o : Nat → List UInt8) (f d0 : Nat → Int) (e8 d8 : Int) (d9 : Bool) (e6 : Nat → Int) (e7 e9 n5 l8 n8 m9 p9 : Int) : Int :=
 bif iEq (a8 e9) 5 then 0
 else bif iEq (a8 e9) 6 then 0 else bif iEq (a8 e9) 8 then 0 else bif iEq (a8 e9) 9 then 0 else bif iEq (a8 e9) 10 then 0 else 0
def bH9 (t al : Int) (o : Nat → List UInt8) (f d0 : Nat → Int) (e8 d8 : Int) (d9 : Bool) (e6 : Nat → Int) (e7 e9 n5 l8 n8 m9 p9 : Int) : Int :=
 bif iEq (a8 e9) 3 then
 bif iEq (a8 e9) 3 then bif !r8 t al o f d0 e8 d8 d9 e6 e7 e9 n5 l8 n8 m9 p9 then 0 else 0
 else aB2 t al o f d0 e8 d8 d9 e6 e7 e9 n5 l8 n8 m9 p9
 else
 bif iEq (a8 e9) 4 then
 bif iEq (a8 e9) 4 then bif !r8 t al o f d0 e8 d8 d9 e6 e7 e9 n5 l8 n8 m9 p9 then 0 else 0
 else aB2 t al o f d0 e8 d8 d9 e6 e7 e9 n5 l8 n8 m9 p9
 else
 bif iEq (a8 e9) 12 then bif !r8 t al o f d0 e8 d8 d9 e6 e7 e9 n5 l8 n8 m9 p9 then 0 else 0
 else aB2 t al o f d0 e8 d8 d9 e6 e7 e9 n5 l8 n8 m9 p9
def an4 (t al : Int) (o : Nat → List UInt8) (f d0 : Nat → Int) (e8 d8 : Int) (d9 : Bool) (e6 : Nat → Int) (e7 e9 n5 l8 n8 m9 p9 : Int) : Int :=
 bif !r8 t al o f d0 e8 d8 d9 e6 e7 e9 n5 l8 n8 m9 p9 then 0
 else H7 d0 e8 d8 d9 e6 e7 (bD9 t al o f d0 e8 d8 d9 e6 e7 e9 n5 l8 n8 m9 p9)
def aR4 (t al : Int) (o : Nat → List UInt8) (f d0 : Nat → Int) (e8 d8 : Int) (d9 : Bool) (e6 : Nat → Int) (e7 e9 n5 l8 n8 m9 p9 : Int) : Int :=
 bif iEq (a8 e9) 5 then H7 d0 e8 d8 d9 e6 e7 (aM8 e9 (d0 l8.toNat) (g8 .u64 m9))
 else
 bif iEq (a8 e9) 6 then H7 d0 e8 d8 d9 e6 e7 (aM8 e9 (d0 l8.toNat) (d0 n8.toNat))
 else
 bif iEq (a8 e9) 8 then 0
 else
 bif iEq (a8 e9) 9 then aj6 d0 e8 d8 d9 e6 e7 e9 n5 l8 n8 m9 p9
 else
 bif iEq (a8 e9) 10 then ak6 d0 e8 d8 d9 e6 e7 e9 n5 l8 n8 m9 p9
 else H7 d0 e8 d8 d9 e6 e7 0
def bh9 (t al : Int) (o : Nat → List UInt8) (f d0 : Nat → Int) (e8 d8 : Int) (d9 : Bool) (e6 : Nat → Int) (e7 e9 n5 l8 n8 m9 p9 : Int) : Int :=
 bif iEq (a8 e9) 12 then an4 t al o f d0 e8 d8 d9 e6 e7 e9 n5 l8 n8 m9 p9 else aR4 t al o f d0 e8 d8 d9 e6 e7 e9 n5 l8 n8 m9 p9
def bJ3 (t al : Int) (o : Nat → List UInt8) (f d0 : Nat → Int) (e8 d8 : Int) (d9 : Bool) (e6 : Nat → Int) (e7 e9 n5 l8 n8 m9 p9 : Int) : Int :=
 bif iEq (a8 e9) 3 then
 bif iEq (a8 e9) 3 then an4 t al o f d0 e8 d8 d9 e6 e7 e9 n5 l8 n8 m9 p9 else aR4 t al o f d0 e8 d8 d9 e6 e7 e9 n5 l8 n8 m9 p9
 else
 bif iEq (a8 e9) 4 then
 bif iEq (a8 e9) 4 then an4 t al o f d0 e8 d8 d9 e6 e7 e9 n5 l8 n8 m9 p9 else aR4 t al o f d0 e8 d8 d9 e6 e7 e9 n5 l8 n8 m9 p9
 else bh9 t al o f d0 e8 d8 d9 e6 e7 e9 n5 l8 n8 m9 p9
def aT9 (t al : Int) (o : Nat → List UInt8) (f d0 : Nat → Int) (e8 d8 : Int) (d9 : Bool) (e6 : Nat → Int) (e7 e9 n5 l8 n8 m9 p9 : Int) : Int :=
 bif iEq (a8 e9) 5 then d8
 else
 bif iEq (a8 e9) 6 then d8
 else
 bif iEq (a8 e9) 8 then 0
 else
 bif iEq (a8 e9) 9 then d8 else bif iEq (a8 e9) 10 then ak1 d0 e8 d8 d9 e6 e7 e9 n5 l8 n8 m9 p9 else d8
def aQ6 (t al : Int) (o : Nat → List UInt8) (f d0 : Nat → Int) (e8 d8 : Int) (d9 : Bool) (e6 : Nat → Int) (e7 e9 n5 l8 n8 m9 p9 : Int) : Int :=
 bif iEq (a8 e9) 12 then bif !r8 t al o f d0 e8 d8 d9 e6 e7 e9 n5 l8 n8 m9 p9 then 0 else d8
 else aT9 t al o f d0 e8 d8 d9 e6 e7 e9 n5 l8 n8 m9 p9
def bn2 (t al : Int) (o : Nat → List UInt8) (f d0 : Nat → Int) (e8 d8 : Int) (d9 : Bool) (e6 : Nat → Int) (e7 e9 n5 l8 n8 m9 p9 : Int) : Int :=
 bif iEq (a8 e9) 3 then
 bif iEq (a8 e9) 3 then bif !r8 t al o f d0 e8 d8 d9 e6 e7 e9 n5 l8 n8 m9 p9 then 0 else d8
 else aT9 t al o f d0 e8 d8 d9 e6 e7 e9 n5 l8 n8 m9 p9
 else
 bif iEq (a8 e9) 4 then
 bif iEq (a8 e9) 4 then bif !r8 t al o f d0 e8 d8 d9 e6 e7 e9 n5 l8 n8 m9 p9 then 0 else d8
 else aT9 t al o f d0 e8 d8 d9 e6 e7 e9 n5 l8 n8 m9 p9
 else aQ6 t al o f d0 e8 d8 d9 e6 e7 e9 n5 l8 n8 m9 p9
def aG9 (t al : Int) (o : Nat → List UInt8) (f d0 : Nat → Int) (e8 d8 : Int) (d9 : Bool) (e6 : Nat → Int) (e7 e9 n5 l8 n8 m9 p9 : Int) : Bool :=
 bif iEq (a8 e9) 5 then d9
 else
 bif iEq (a8 e9) 6 then d9
 else
 bif iEq (a8 e9) 8 then false
 else
 bif iEq (a8 e9) 9 then d9 else bif iEq (a8 e9) 10 then aj7 d0 e8 d8 d9 e6 e7 e9 n5 l8 n8 m9 p9 else d9
def aR7 (t al : Int) (o : Nat → List UInt8) (f d0 : Nat → Int) (e8 d8 : Int) (d9 : Bool) (e6 : Nat → Int) (e7 e9 n5 l8 n8 m9 p9 : Int) : Bool :=
 bif iEq (a8 e9) 12 then bif !r8 t al o f d0 e8 d8 d9 e6 e7 e9 n5 l8 n8 m9 p9 then false else d9
 else aG9 t al o f d0 e8 d8 d9 e6 e7 e9 n5 l8 n8 m9 p9
def bm9 (t al : Int) (o : Nat → List UInt8) (f d0 : Nat → Int) (e8 d8 : Int) (d9 : Bool) (e6 : Nat → Int) (e7 e9 n5 l8 n8 m9 p9 : Int) : Bool :=
 bif iEq (a8 e9) 3 then
 bif iEq (a8 e9) 3 then bif !r8 t al o f d0 e8 d8 d9 e6 e7 e9 n5 l8 n8 m9 p9 then false else d9
 else aG9 t al o f d0 e8 d8 d9 e6 e7 e9 n5 l8 n8 m9 p9
 else
 bif iEq (a8 e9) 4 then
 bif iEq (a8 e9) 4 then bif !r8 t al o f d0 e8 d8 d9 e6 e7 e9 n5 l8 n8 m9 p9 then false else d9
 else aG9 t al o f d0 e8 d8 d9 e6 e7 e9 n5 l8 n8 m9 p9
 else aR7 t al o f d0 e8 d8 d9 e6 e7 e9 n5 l8 n8 m9 p9
def aP3 (t al : Int) (o : Nat → List UInt8) (f d0 : Nat → Int) (e8 d8 : Int) (d9 : Bool) (e6 : Nat → Int) (e7 e9 n5 l8 n8 m9 p9 : Int) : Int :=
 bif iEq (a8 e9) 5 then e7
 else bif iEq (a8 e9) 6 then e7 else bif iEq (a8 e9) 8 then 0 else bif iEq (a8 e9) 9 then e7 else bif iEq (a8 e9) 10 then e7 else e7
def bo1 (t al : Int) (o : Nat → List UInt8) (f d0 : Nat → Int) (e8 d8 : Int) (d9 : Bool) (e6 : Nat → Int) (e7 e9 n5 l8 n8 m9 p9 : Int) : Int :=
 bif iEq (a8 e9) 3 then
 bif iEq (a8 e9) 3 then bif !r8 t al o f d0 e8 d8 d9 e6 e7 e9 n5 l8 n8 m9 p9 then 0 else e7
 else aP3 t al o f d0 e8 d8 d9 e6 e7 e9 n5 l8 n8 m9 p9
 else
 bif iEq (a8 e9) 4 then
 bif iEq (a8 e9) 4 then bif !r8 t al o f d0 e8 d8 d9 e6 e7 e9 n5 l8 n8 m9 p9 then 0 else e7
 else aP3 t al o f d0 e8 d8 d9 e6 e7 e9 n5 l8 n8 m9 p9
 else
 bif iEq (a8 e9) 12 then bif !r8 t al o f d0 e8 d8 d9 e6 e7 e9 n5 l8 n8 m9 p9 then 0 else e7
 else aP3 t al o f d0 e8 d8 d9 e6 e7 e9 n5 l8 n8 m9 p9
def Z9 (t al : Int) (o : Nat → List UInt8) (f d0 : Nat → Int) (e8 d8 : Int) (d9 : Bool) (e6 : Nat → Int) (e7 e9 n5 l8 n8 m9 p9 : Int) : Int :=
 bif !r8 t al o f d0 e8 d8 d9 e6 e7 e9 n5 l8 n8 m9 p9 then 0
 else bD9 t al o f d0 e8 d8 d9 e6 e7 e9 n5 l8 n8 m9 p9
def aU6 (t al : Int) (o : Nat → List UInt8) (f d0 : Nat → Int) (e8 d8 : Int) (d9 : Bool) (e6 : Nat → Int) (e7 e9 n5 l8 n8 m9 p9 : Int) : Int :=
 bif iEq (a8 e9) 5 then aM8 e9 (d0 l8.toNat) (g8 .u64 m9)
 else
 bif iEq (a8 e9) 6 then aM8 e9 (d0 l8.toNat) (d0 n8.toNat)
 else
 bif iEq (a8 e9) 8 then 0
 else bif iEq (a8 e9) 9 then av7 d0 e8 d8 d9 e6 e7 e9 n5 l8 n8 m9 p9 else bif iEq (a8 e9) 10 then 0 else 0
def bp9 (t al : Int) (o : Nat → List UInt8) (f d0 : Nat → Int) (e8 d8 : Int) (d9 : Bool) (e6 : Nat → Int) (e7 e9 n5 l8 n8 m9 p9 : Int) : Int :=
 bif iEq (a8 e9) 3 then
 bif iEq (a8 e9) 3 then Z9 t al o f d0 e8 d8 d9 e6 e7 e9 n5 l8 n8 m9 p9 else aU6 t al o f d0 e8 d8 d9 e6 e7 e9 n5 l8 n8 m9 p9
 else
 bif iEq (a8 e9) 4 then
 bif iEq (a8 e9) 4 then Z9 t al o f d0 e8 d8 d9 e6 e7 e9 n5 l8 n8 m9 p9
 else aU6 t al o f d0 e8 d8 d9 e6 e7 e9 n5 l8 n8 m9 p9
 else
 bif iEq (a8 e9) 12 then Z9 t al o f d0 e8 d8 d9 e6 e7 e9 n5 l8 n8 m9 p9
 else aU6 t al o f d0 e8 d8 d9 e6 e7 e9 n5 l8 n8 m9 p9
def Y8 (t al : Int) (o : Nat → List UInt8) (f d0 : Nat → Int) (e8 d8 : Int) (d9 : Bool) (e6 : Nat → Int) (e7 e9 n5 l8 n8 m9 p9 : Int) : Int :=
 bif !r8 t al o f d0 e8 d8 d9 e6 e7 e9 n5 l8 n8 m9 p9 then
 aX7 t al o f d0 e8 d8 d9 e6 e7 e9 n5 l8 n8 m9 p9
 else 0
def aV1 (t al : Int) (o : Nat → List UInt8) (f d0 : Nat → Int) (e8 d8 : Int) (d9 : Bool) (e6 : Nat → Int) (e7 e9 n5 l8 n8 m9 p9 : Int) : Int :=
 bif iEq (a8 e9) 5 then 0
 else
 bif iEq (a8 e9) 6 then 0
 else
 bif iEq (a8 e9) 8 then ai3 d0 e8 d8 d9 e6 e7 e9 n5 l8 n8 m9 p9
 else bif iEq (a8 e9) 9 then 0 else bif iEq (a8 e9) 10 then 0 else 0
def bn0 (t al : Int) (o : Nat → List UInt8) (f d0 : Nat → Int) (e8 d8 : Int) (d9 : Bool) (e6 : Nat → Int) (e7 e9 n5 l8 n8 m9 p9 : Int) : Int :=
 bif iEq (a8 e9) 3 then
 bif iEq (a8 e9) 3 then Y8 t al o f d0 e8 d8 d9 e6 e7 e9 n5 l8 n8 m9 p9 else aV1 t al o f d0 e8 d8 d9 e6 e7 e9 n5 l8 n8 m9 p9
 else
 bif iEq (a8 e9) 4 then
 bif iEq (a8 e9) 4 then Y8 t al o f d0 e8 d8 d9 e6 e7 e9 n5 l8 n8 m9 p9
 else aV1 t al o f d0 e8 d8 d9 e6 e7 e9 n5 l8 n8 m9 p9
 else
 bif iEq (a8 e9) 12 then Y8 t al o f d0 e8 d8 d9 e6 e7 e9 n5 l8 n8 m9 p9
 else aV1 t al o f d0 e8 d8 d9 e6 e7 e9 n5 l8 n8 m9 p9
def Z7 (t al : Int) (o : Nat → List UInt8) (f d0 : Nat → Int) (e8 d8 : Int) (d9 : Bool) (e6 : Nat → Int) (e7 e9 n5 l8 n8 m9 p9 : Int) : Int :=
 bif !r8 t al o f d0 e8 d8 d9 e6 e7 e9 n5 l8 n8 m9 p9 then
 ba4 t al o f d0 e8 d8 d9 e6 e7 e9 n5 l8 n8 m9 p9
 else 0
def aS2 (t al : Int) (o : Nat → List UInt8) (f d0 : Nat → Int) (e8 d8 : Int) (d9 : Bool) (e6 : Nat → Int) (e7 e9 n5 l8 n8 m9 p9 : Int) : Int :=
 bif iEq (a8 e9) 5 then 0
 else
 bif iEq (a8 e9) 6 then 0
 else
 bif iEq (a8 e9) 8 then ai4 d0 e8 d8 d9 e6 e7 e9 n5 l8 n8 m9 p9
 else bif iEq (a8 e9) 9 then 0 else bif iEq (a8 e9) 10 then 0 else 0
def bp5 (t al : Int) (o : Nat → List UInt8) (f d0 : Nat → Int) (e8 d8 : Int) (d9 : Bool) (e6 : Nat → Int) (e7 e9 n5 l8 n8 m9 p9 : Int) : Int :=
 bif iEq (a8 e9) 3 then
 bif iEq (a8 e9) 3 then Z7 t al o f d0 e8 d8 d9 e6 e7 e9 n5 l8 n8 m9 p9 else aS2 t al o f d0 e8 d8 d9 e6 e7 e9 n5 l8 n8 m9 p9
 else
 bif iEq (a8 e9) 4 then
 bif iEq (a8 e9) 4 then Z7 t al o f d0 e8 d8 d9 e6 e7 e9 n5 l8 n8 m9 p9
 else aS2 t al o f d0 e8 d8 d9 e6 e7 e9 n5 l8 n8 m9 p9
 else
 bif iEq (a8 e9) 12 then Z7 t al o f d0 e8 d8 d9 e6 e7 e9 n5 l8 n8 m9 p9
 else aS2 t al o f d0 e8 d8 d9 e6 e7 e9 n5 l8 n8 m9 p9
def Z1 (t al : Int) (o : Nat → List UInt8) (f d0 : Nat → Int) (e8 d8 : Int) (d9 : Bool) (e6 : Nat → Int) (e7 e9 n5 l8 n8 m9 p9 : Int) : Int :=
 bif !r8 t al o f d0 e8 d8 d9 e6 e7 e9 n5 l8 n8 m9 p9 then
 aV5 t al o f d0 e8 d8 d9 e6 e7 e9 n5 l8 n8 m9 p9
 else 0
def bp1 (t al : Int) (o : Nat → List UInt8) (f d0 : Nat → Int) (e8 d8 : Int) (d9 : Bool) (e6 : Nat → Int) (e7 e9 n5 l8 n8 m9 p9 : Int) : Int :=
 bif iEq (a8 e9) 3 then
 bif iEq (a8 e9) 3 then Z1 t al o f d0 e8 d8 d9 e6 e7 e9 n5 l8 n8 m9 p9 else aB2 t al o f d0 e8 d8 d9 e6 e7 e9 n5 l8 n8 m9 p9
 else
 bif iEq (a8 e9) 4 then
 bif iEq (a8 e9) 4 then Z1 t al o f d0 e8 d8 d9 e6 e7 e9 n5 l8 n8 m9 p9
 else aB2 t al o f d0 e8 d8 d9 e6 e7 e9 n5 l8 n8 m9 p9
 else
 bif iEq (a8 e9) 12 then Z1 t al o f d0 e8 d8 d9 e6 e7 e9 n5 l8 n8 m9 p9
 else aB2 t al o f d0 e8 d8 d9 e6 e7 e9 n5 l8 n8 m9 p9
def aT6 (t al : Int) (o : Nat → List UInt8) (f d0 : Nat → Int) (e8 d8 : Int) (d9 : Bool) (e6 : Nat → Int) (e7 e9 n5 l8 n8 m9 p9 : Int) : Bool :=
 bif iEq (a8 e9) 5 then false
 else bif iEq (a8 e9) 6 then false else bif iEq (a8 e9) 8 then false else bif iEq (a8 e9) 9 then false else bif iEq (a8 e9) 10 then false else false
def bn7 (t al : Int) (o : Nat → List UInt8) (f d0 : Nat → Int) (e8 d8 : Int) (d9 : Bool) (e6 : Nat → Int) (e7 e9 n5 l8 n8 m9 p9 : Int) : Bool :=
 bif iEq (a8 e9) 3 then
 bif iEq (a8 e9) 3 then
 bif !r8 t al o f d0 e8 d8 d9 e6 e7 e9 n5 l8 n8 m9 p9 then
 aF4 t al o f d0 e8 d8 d9 e6 e7 e9 n5 l8 n8 m9 p9
 else false
 else aT6 t al o f d0 e8 d8 d9 e6 e7 e9 n5 l8 n8 m9 p9
 else
 bif iEq (a8 e9) 4 then
 bif iEq (a8 e9) 4 then
 bif !r8 t al o f d0 e8 d8 d9 e6 e7 e9 n5 l8 n8 m9 p9 then
 aF4 t al o f d0 e8 d8 d9 e6 e7 e9 n5 l8 n8 m9 p9
 else false
 else aT6 t al o f d0 e8 d8 d9 e6 e7 e9 n5 l8 n8 m9 p9
 else
 bif iEq (a8 e9) 12 then
 bif !r8 t al o f d0 e8 d8 d9 e6 e7 e9 n5 l8 n8 m9 p9 then
 aF4 t al o f d0 e8 d8 d9 e6 e7 e9 n5 l8 n8 m9 p9
 else false
 else aT6 t al o f d0 e8 d8 d9 e6 e7 e9 n5 l8 n8 m9 p9
def aP1 (t al : Int) (o : Nat → List UInt8) (f d0 : Nat → Int) (e8 d8 : Int) (d9 : Bool) (e6 : Nat → Int) (e7 e9 n5 l8 n8 m9 p9 : Int) : Bool :=
 bif iEq (a8 e9) 5 then true
 else bif iEq (a8 e9) 6 then true else bif iEq (a8 e9) 8 then false else bif iEq (a8 e9) 9 then true else bif iEq (a8 e9) 10 then true else true
def bn5 (t al : Int) (o : Nat → List UInt8) (f d0 : Nat → Int) (e8 d8 : Int) (d9 : Bool) (e6 : Nat → Int) (e7 e9 n5 l8 n8 m9 p9 : Int) : Bool :=
 bif iEq (a8 e9) 3 then
 bif iEq (a8 e9) 3 then bif !r8 t al o f d0 e8 d8 d9 e6 e7 e9 n5 l8 n8 m9 p9 then false else true
 else aP1 t al o f d0 e8 d8 d9 e6 e7 e9 n5 l8 n8 m9 p9
 else
 bif iEq (a8 e9) 4 then
 bif iEq (a8 e9) 4 then bif !r8 t al o f d0 e8 d8 d9 e6 e7 e9 n5 l8 n8 m9 p9 then false else true
 else aP1 t al o f d0 e8 d8 d9 e6 e7 e9 n5 l8 n8 m9 p9
 else
 bif iEq (a8 e9) 12 then bif !r8 t al o f d0 e8 d8 d9 e6 e7 e9 n5 l8 n8 m9 p9 then false else true
 else aP1 t al o f d0 e8 d8 d9 e6 e7 e9 n5 l8 n8 m9 p9
def aS6 (t al : Int) (o : Nat → List UInt8) (f d0 : Nat → Int) (e8 d8 : Int) (d9 : Bool) (e6 : Nat → Int) (e7 e9 n5 l8 n8 m9 p9 : Int) : Int :=
 bif iEq (a8 e9) 5 then t
 else bif iEq (a8 e9) 6 then t else bif iEq (a8 e9) 8 then t else bif iEq (a8 e9) 9 then t else bif iEq (a8 e9) 10 then t else t
def bo9 (t al : Int) (o : Nat → List UInt8) (f d0 : Nat → Int) (e8 d8 : Int) (d9 : Bool) (e6 : Nat → Int) (e7 e9 n5 l8 n8 m9 p9 : Int) : Int :=
 bif iEq (a8 e9) 3 then
 bif iEq (a8 e9) 3 then bif !r8 t al o f d0 e8 d8 d9 e6 e7 e9 n5 l8 n8 m9 p9 then t else t
 else aS6 t al o f d0 e8 d8 d9 e6 e7 e9 n5 l8 n8 m9 p9
 else
 bif iEq (a8 e9) 4 then
 bif iEq (a8 e9) 4 then bif !r8 t al o f d0 e8 d8 d9 e6 e7 e9 n5 l8 n8 m9 p9 then t else t
 else aS6 t al o f d0 e8 d8 d9 e6 e7 e9 n5 l8 n8 m9 p9
 else
 bif iEq (a8 e9) 12 then bif !r8 t al o f d0 e8 d8 d9 e6 e7 e9 n5 l8 n8 m9 p9 then t else t
 else aS6 t al o f d0 e8 d8 d9 e6 e7 e9 n5 l8 n8 m9 p9
def aS0 (t al : Int) (o : Nat → List UInt8) (f d0 : Nat → Int) (e8 d8 : Int) (d9 : Bool) (e6 : Nat → Int) (e7 e9 n5 l8 n8 m9 p9 : Int) : Int :=
 bif !r8 t al o f d0 e8 d8 d9 e6 e7 e9 n5 l8 n8 m9 p9 then
 aX3 t al o f d0 e8 d8 d9 e6 e7 e9 n5 l8 n8 m9 p9
 else aX3 t al o f d0 e8 d8 d9 e6 e7 e9 n5 l8 n8 m9 p9
def aS7 (t al : Int) (o : Nat → List UInt8) (f d0 : Nat → Int) (e8 d8 : Int) (d9 : Bool) (e6 : Nat → Int) (e7 e9 n5 l8 n8 m9 p9 : Int) : Int :=
 bif iEq (a8 e9) 5 then al
 else bif iEq (a8 e9) 6 then al else bif iEq (a8 e9) 8 then al else bif iEq (a8 e9) 9 then al else bif iEq (a8 e9) 10 then al else al
def bp3 (t al : Int) (o : Nat → List UInt8) (f d0 : Nat → Int) (e8 d8 : Int) (d9 : Bool) (e6 : Nat → Int) (e7 e9 n5 l8 n8 m9 p9 : Int) : Int :=
 bif iEq (a8 e9) 3 then
 bif iEq (a8 e9) 3 then aS0 t al o f d0 e8 d8 d9 e6 e7 e9 n5 l8 n8 m9 p9 else aS7 t al o f d0 e8 d8 d9 e6 e7 e9 n5 l8 n8 m9 p9
 else
 bif iEq (a8 e9) 4 then
 bif iEq (a8 e9) 4 then aS0 t al o f d0 e8 d8 d9 e6 e7 e9 n5 l8 n8 m9 p9
 else aS7 t al o f d0 e8 d8 d9 e6 e7 e9 n5 l8 n8 m9 p9
 else
 bif iEq (a8 e9) 12 then aS0 t al o f d0 e8 d8 d9 e6 e7 e9 n5 l8 n8 m9 p9
 else aS7 t al o f d0 e8 d8 d9 e6 e7 e9 n5 l8 n8 m9 p9
def dH5 (t al : Int) (o : Nat → List UInt8) (f d0 : Nat → Int) (e8 d8 : Int) (d9 : Bool) (e6 : Nat → Int) (e7 e9 n5 l8 n8 m9 p9 : Int) : Int :=
 bif iEq (a8 e9) 1 then bif iEq (a8 e9) 1 then 0 else bH9 t al o f d0 e8 d8 d9 e6 e7 e9 n5 l8 n8 m9 p9
 else bif iEq (a8 e9) 2 then 0 else bH9 t al o f d0 e8 d8 d9 e6 e7 e9 n5 l8 n8 m9 p9
def bN2 (t al : Int) (o : Nat → List UInt8) (f d0 : Nat → Int) (e8 d8 : Int) (d9 : Bool) (e6 : Nat → Int) (e7 e9 n5 l8 n8 m9 p9 : Int) : Nat → Int :=
 fun i0 => bif iEq (a8 e9) 1 then ab9 d0 e8 d8 d9 e6 e7 e9 n5 l8 n8 m9 p9 i0
 else
 bif iEq (a8 e9) 2 then ab9 d0 e8 d8 d9 e6 e7 e9 n5 l8 n8 m9 p9 i0
 else
 bif iEq (a8 e9) 3 then bif !r8 t al o f d0 e8 d8 d9 e6 e7 e9 n5 l8 n8 m9 p9 then 0 else d0 i0
 else
 bif iEq (a8 e9) 4 then bif !r8 t al o f d0 e8 d8 d9 e6 e7 e9 n5 l8 n8 m9 p9 then 0 else d0 i0
 else
 bif iEq (a8 e9) 12 then bif !r8 t al o f d0 e8 d8 d9 e6 e7 e9 n5 l8 n8 m9 p9 then 0 else d0 i0
 else bif iEq (a8 e9) 5 then d0 i0 else bif iEq (a8 e9) 6 then d0 i0 else bif iEq (a8 e9) 8 then 0 else d0 i0
def dE1 (t al : Int) (o : Nat → List UInt8) (f d0 : Nat → Int) (e8 d8 : Int) (d9 : Bool) (e6 : Nat → Int) (e7 e9 n5 l8 n8 m9 p9 : Int) : Nat → Int :=
 fun i0 => bif iEq (a8 e9) 1 then
 bif iEq (a8 e9) 1 then ab9 d0 e8 d8 d9 e6 e7 e9 n5 l8 n8 m9 p9 i0
 else
 bif iEq (a8 e9) 3 then
 bif iEq (a8 e9) 3 then bif !r8 t al o f d0 e8 d8 d9 e6 e7 e9 n5 l8 n8 m9 p9 then 0 else d0 i0
 else
 bif iEq (a8 e9) 5 then d0 i0
 else
 bif iEq (a8 e9) 6 then d0 i0 else bif iEq (a8 e9) 8 then 0 else bif iEq (a8 e9) 9 then d0 i0 else bif iEq (a8 e9) 10 then d0 i0 else d0 i0
 else
 bif iEq (a8 e9) 4 then
 bif iEq (a8 e9) 4 then bif !r8 t al o f d0 e8 d8 d9 e6 e7 e9 n5 l8 n8 m9 p9 then 0 else d0 i0
 else
 bif iEq (a8 e9) 5 then d0 i0
 else
 bif iEq (a8 e9) 6 then d0 i0
 else bif iEq (a8 e9) 8 then 0 else bif iEq (a8 e9) 9 then d0 i0 else bif iEq (a8 e9) 10 then d0 i0 else d0 i0
 else
 bif iEq (a8 e9) 12 then bif !r8 t al o f d0 e8 d8 d9 e6 e7 e9 n5 l8 n8 m9 p9 then 0 else d0 i0
 else
 bif iEq (a8 e9) 5 then d0 i0
 else
 bif iEq (a8 e9) 6 then d0 i0
 else bif iEq (a8 e9) 8 then 0 else bif iEq (a8 e9) 9 then d0 i0 else bif iEq (a8 e9) 10 then d0 i0 else d0 i0
 else
 bif iEq (a8 e9) 2 then ab9 d0 e8 d8 d9 e6 e7 e9 n5 l8 n8 m9 p9 i0
 else
 bif iEq (a8 e9) 3 then
 bif iEq (a8 e9) 3 then bif !r8 t al o f d0 e8 d8 d9 e6 e7 e9 n5 l8 n8 m9 p9 then 0 else d0 i0
 else
 bif iEq (a8 e9) 5 then d0 i0
 else
 bif iEq (a8 e9) 6 then d0 i0 else bif iEq (a8 e9) 8 then 0 else bif iEq (a8 e9) 9 then d0 i0 else bif iEq (a8 e9) 10 then d0 i0 else d0 i0
 else
 bif iEq (a8 e9) 4 then
 bif iEq (a8 e9) 4 then bif !r8 t al o f d0 e8 d8 d9 e6 e7 e9 n5 l8 n8 m9 p9 then 0 else d0 i0
 else
 bif iEq (a8 e9) 5 then d0 i0
 else
 bif iEq (a8 e9) 6 then d0 i0
 else bif iEq (a8 e9) 8 then 0 else bif iEq (a8 e9) 9 then d0 i0 else bif iEq (a8 e9) 10 then d0 i0 else d0 i0
 else
 bif iEq (a8 e9) 12 then bif !r8 t al o f d0 e8 d8 d9 e6 e7 e9 n5 l8 n8 m9 p9 then 0 else d0 i0
 else
 bif iEq (a8 e9) 5 then d0 i0
 else
 bif iEq (a8 e9) 6 then d0 i0
 else bif iEq (a8 e9) 8 then 0 else bif iEq (a8 e9) 9 then d0 i0 else bif iEq (a8 e9) 10 then d0 i0 else d0 i0
def bB1 (t al : Int) (o : Nat → List UInt8) (f d0 : Nat → Int) (e8 d8 : Int) (d9 : Bool) (e6 : Nat → Int) (e7 e9 n5 l8 n8 m9 p9 : Int) : Int :=
 bif iEq (a8 e9) 1 then X6 d0 e8 d8 d9 e6 e7 e9 n5 l8 n8 m9 p9
 else
 bif iEq (a8 e9) 2 then X6 d0 e8 d8 d9 e6 e7 e9 n5 l8 n8 m9 p9
 else
 bif iEq (a8 e9) 3 then an4 t al o f d0 e8 d8 d9 e6 e7 e9 n5 l8 n8 m9 p9
 else
 bif iEq (a8 e9) 4 then an4 t al o f d0 e8 d8 d9 e6 e7 e9 n5 l8 n8 m9 p9
 else bh9 t al o f d0 e8 d8 d9 e6 e7 e9 n5 l8 n8 m9 p9
def dJ0 (t al : Int) (o : Nat → List UInt8) (f d0 : Nat → Int) (e8 d8 : Int) (d9 : Bool) (e6 : Nat → Int) (e7 e9 n5 l8 n8 m9 p9 : Int) : Int :=
 bif iEq (a8 e9) 1 then
 bif iEq (a8 e9) 1 then X6 d0 e8 d8 d9 e6 e7 e9 n5 l8 n8 m9 p9
 else bJ3 t al o f d0 e8 d8 d9 e6 e7 e9 n5 l8 n8 m9 p9
 else
 bif iEq (a8 e9) 2 then X6 d0 e8 d8 d9 e6 e7 e9 n5 l8 n8 m9 p9
 else bJ3 t al o f d0 e8 d8 d9 e6 e7 e9 n5 l8 n8 m9 p9
def bv6 (t al : Int) (o : Nat → List UInt8) (f d0 : Nat → Int) (e8 d8 : Int) (d9 : Bool) (e6 : Nat → Int) (e7 e9 n5 l8 n8 m9 p9 : Int) : Int :=
 bif iEq (a8 e9) 1 then ac5 d0 e8 d8 d9 e6 e7 e9 n5 l8 n8 m9 p9
 else
 bif iEq (a8 e9) 2 then ac5 d0 e8 d8 d9 e6 e7 e9 n5 l8 n8 m9 p9
 else
 bif iEq (a8 e9) 3 then bif !r8 t al o f d0 e8 d8 d9 e6 e7 e9 n5 l8 n8 m9 p9 then 0 else d8
 else
 bif iEq (a8 e9) 4 then bif !r8 t al o f d0 e8 d8 d9 e6 e7 e9 n5 l8 n8 m9 p9 then 0 else d8
 else aQ6 t al o f d0 e8 d8 d9 e6 e7 e9 n5 l8 n8 m9 p9
def dF5 (t al : Int) (o : Nat → List UInt8) (f d0 : Nat → Int) (e8 d8 : Int) (d9 : Bool) (e6 : Nat → Int) (e7 e9 n5 l8 n8 m9 p9 : Int) : Int :=
 bif iEq (a8 e9) 1 then
 bif iEq (a8 e9) 1 then ac5 d0 e8 d8 d9 e6 e7 e9 n5 l8 n8 m9 p9
 else bn2 t al o f d0 e8 d8 d9 e6 e7 e9 n5 l8 n8 m9 p9
 else
 bif iEq (a8 e9) 2 then ac5 d0 e8 d8 d9 e6 e7 e9 n5 l8 n8 m9 p9
 else bn2 t al o f d0 e8 d8 d9 e6 e7 e9 n5 l8 n8 m9 p9
def bw4 (t al : Int) (o : Nat → List UInt8) (f d0 : Nat → Int) (e8 d8 : Int) (d9 : Bool) (e6 : Nat → Int) (e7 e9 n5 l8 n8 m9 p9 : Int) : Bool :=
 bif iEq (a8 e9) 1 then ab2 d0 e8 d8 d9 e6 e7 e9 n5 l8 n8 m9 p9
 else
 bif iEq (a8 e9) 2 then ab2 d0 e8 d8 d9 e6 e7 e9 n5 l8 n8 m9 p9
 else
 bif iEq (a8 e9) 3 then bif !r8 t al o f d0 e8 d8 d9 e6 e7 e9 n5 l8 n8 m9 p9 then false else d9
 else
 bif iEq (a8 e9) 4 then bif !r8 t al o f d0 e8 d8 d9 e6 e7 e9 n5 l8 n8 m9 p9 then false else d9
 else aR7 t al o f d0 e8 d8 d9 e6 e7 e9 n5 l8 n8 m9 p9
def dB8 (t al : Int) (o : Nat → List UInt8) (f d0 : Nat → Int) (e8 d8 : Int) (d9 : Bool) (e6 : Nat → Int) (e7 e9 n5 l8 n8 m9 p9 : Int) : Bool :=
 bif iEq (a8 e9) 1 then
 bif iEq (a8 e9) 1 then ab2 d0 e8 d8 d9 e6 e7 e9 n5 l8 n8 m9 p9
 else bm9 t al o f d0 e8 d8 d9 e6 e7 e9 n5 l8 n8 m9 p9
 else
 bif iEq (a8 e9) 2 then ab2 d0 e8 d8 d9 e6 e7 e9 n5 l8 n8 m9 p9
 else bm9 t al o f d0 e8 d8 d9 e6 e7 e9 n5 l8 n8 m9 p9
def bA0 (t al : Int) (o : Nat → List UInt8) (f d0 : Nat → Int) (e8 d8 : Int) (d9 : Bool) (e6 : Nat → Int) (e7 e9 n5 l8 n8 m9 p9 : Int) : Nat → Int :=
 fun i0 => bif iEq (a8 e9) 1 then ab5 d0 e8 d8 d9 e6 e7 e9 n5 l8 n8 m9 p9 i0
 else
 bif iEq (a8 e9) 2 then ab5 d0 e8 d8 d9 e6 e7 e9 n5 l8 n8 m9 p9 i0
 else
 bif iEq (a8 e9) 3 then bif !r8 t al o f d0 e8 d8 d9 e6 e7 e9 n5 l8 n8 m9 p9 then 0 else e6 i0
 else
 bif iEq (a8 e9) 4 then bif !r8 t al o f d0 e8 d8 d9 e6 e7 e9 n5 l8 n8 m9 p9 then 0 else e6 i0
 else
 bif iEq (a8 e9) 12 then bif !r8 t al o f d0 e8 d8 d9 e6 e7 e9 n5 l8 n8 m9 p9 then 0 else e6 i0
 else
 bif iEq (a8 e9) 5 then e6 i0
 else
 bif iEq (a8 e9) 6 then e6 i0
 else
 bif iEq (a8 e9) 8 then 0
 else
 bif iEq (a8 e9) 9 then J9 d0 e8 d8 d9 e6 e7 e9 n5 l8 n8 m9 p9 i0
 else bif iEq (a8 e9) 10 then K7 d0 e8 d8 d9 e6 e7 e9 n5 l8 n8 m9 p9 i0 else e6 i0
def dA5 (t al : Int) (o : Nat → List UInt8) (f d0 : Nat → Int) (e8 d8 : Int) (d9 : Bool) (e6 : Nat → Int) (e7 e9 n5 l8 n8 m9 p9 : Int) : Nat → Int :=
 fun i0 => bif iEq (a8 e9) 1 then
 bif iEq (a8 e9) 1 then ab5 d0 e8 d8 d9 e6 e7 e9 n5 l8 n8 m9 p9 i0
 else
 bif iEq (a8 e9) 3 then
 bif iEq (a8 e9) 3 then bif !r8 t al o f d0 e8 d8 d9 e6 e7 e9 n5 l8 n8 m9 p9 then 0 else e6 i0
 else
 bif iEq (a8 e9) 5 then e6 i0
 else
 bif iEq (a8 e9) 6 then e6 i0
 else
 bif iEq (a8 e9) 8 then 0
 else
 bif iEq (a8 e9) 9 then J9 d0 e8 d8 d9 e6 e7 e9 n5 l8 n8 m9 p9 i0
 else bif iEq (a8 e9) 10 then K7 d0 e8 d8 d9 e6 e7 e9 n5 l8 n8 m9 p9 i0 else e6 i0
 else
 bif iEq (a8 e9) 4 then
 bif iEq (a8 e9) 4 then bif !r8 t al o f d0 e8 d8 d9 e6 e7 e9 n5 l8 n8 m9 p9 then 0 else e6 i0
 else
 bif iEq (a8 e9) 5 then e6 i0
 else
 bif iEq (a8 e9) 6 then e6 i0
 else
 bif iEq (a8 e9) 8 then 0
 else
 bif iEq (a8 e9) 9 then J9 d0 e8 d8 d9 e6 e7 e9 n5 l8 n8 m9 p9 i0
 else bif iEq (a8 e9) 10 then K7 d0 e8 d8 d9 e6 e7 e9 n5 l8 n8 m9 p9 i0 else e6 i0
 else
 bif iEq (a8 e9) 12 then bif !r8 t al o f d0 e8 d8 d9 e6 e7 e9 n5 l8 n8 m9 p9 then 0 else e6 i0
 else
 bif iEq (a8 e9) 5 then e6 i0
 else
 bif iEq (a8 e9) 6 then e6 i0
 else
 bif iEq (a8 e9) 8 then 0
 else
 bif iEq (a8 e9) 9 then J9 d0 e8 d8 d9 e6 e7 e9 n5 l8 n8 m9 p9 i0
 else bif iEq (a8 e9) 10 then K7 d0 e8 d8 d9 e6 e7 e9 n5 l8 n8 m9 p9 i0 else e6 i0
 else
 bif iEq (a8 e9) 2 then ab5 d0 e8 d8 d9 e6 e7 e9 n5 l8 n8 m9 p9 i0
 else
 bif iEq (a8 e9) 3 then
 bif iEq (a8 e9) 3 then bif !r8 t al o f d0 e8 d8 d9 e6 e7 e9 n5 l8 n8 m9 p9 then 0 else e6 i0
 else
 bif iEq (a8 e9) 5 then e6 i0
 else
 bif iEq (a8 e9) 6 then e6 i0
 else
 bif iEq (a8 e9) 8 then 0
 else
 bif iEq (a8 e9) 9 then J9 d0 e8 d8 d9 e6 e7 e9 n5 l8 n8 m9 p9 i0
 else bif iEq (a8 e9) 10 then K7 d0 e8 d8 d9 e6 e7 e9 n5 l8 n8 m9 p9 i0 else e6 i0
 else
 bif iEq (a8 e9) 4 then
 bif iEq (a8 e9) 4 then bif !r8 t al o f d0 e8 d8 d9 e6 e7 e9 n5 l8 n8 m9 p9 then 0 else e6 i0
 else
 bif iEq (a8 e9) 5 then e6 i0
 else
 bif iEq (a8 e9) 6 then e6 i0
 else
 bif iEq (a8 e9) 8 then 0
 else
 bif iEq (a8 e9) 9 then J9 d0 e8 d8 d9 e6 e7 e9 n5 l8 n8 m9 p9 i0
 else bif iEq (a8 e9) 10 then K7 d0 e8 d8 d9 e6 e7 e9 n5 l8 n8 m9 p9 i0 else e6 i0
 else
 bif iEq (a8 e9) 12 then bif !r8 t al o f d0 e8 d8 d9 e6 e7 e9 n5 l8 n8 m9 p9 then 0 else e6 i0
 else
 bif iEq (a8 e9) 5 then e6 i0
 else
 bif iEq (a8 e9) 6 then e6 i0
 else
 bif iEq (a8 e9) 8 then 0
 else
 bif iEq (a8 e9) 9 then J9 d0 e8 d8 d9 e6 e7 e9 n5 l8 n8 m9 p9 i0
 else bif iEq (a8 e9) 10 then K7 d0 e8 d8 d9 e6 e7 e9 n5 l8 n8 m9 p9 i0 else e6 i0
def bz1 (t al : Int) (o : Nat → List UInt8) (f d0 : Nat → Int) (e8 d8 : Int) (d9 : Bool) (e6 : Nat → Int) (e7 e9 n5 l8 n8 m9 p9 : Int) : Int :=
 bif iEq (a8 e9) 1 then aa9 d0 e8 d8 d9 e6 e7 e9 n5 l8 n8 m9 p9
 else
 bif iEq (a8 e9) 2 then aa9 d0 e8 d8 d9 e6 e7 e9 n5 l8 n8 m9 p9
 else
 bif iEq (a8 e9) 3 then bif !r8 t al o f d0 e8 d8 d9 e6 e7 e9 n5 l8 n8 m9 p9 then 0 else e7
 else
 bif iEq (a8 e9) 4 then bif !r8 t al o f d0 e8 d8 d9 e6 e7 e9 n5 l8 n8 m9 p9 then 0 else e7
 else
 bif iEq (a8 e9) 12 then bif !r8 t al o f d0 e8 d8 d9 e6 e7 e9 n5 l8 n8 m9 p9 then 0 else e7
 else bif iEq (a8 e9) 5 then e7 else bif iEq (a8 e9) 6 then e7 else bif iEq (a8 e9) 8 then 0 else e7
def dI6 (t al : Int) (o : Nat → List UInt8) (f d0 : Nat → Int) (e8 d8 : Int) (d9 : Bool) (e6 : Nat → Int) (e7 e9 n5 l8 n8 m9 p9 : Int) : Int :=
 bif iEq (a8 e9) 1 then
 bif iEq (a8 e9) 1 then aa9 d0 e8 d8 d9 e6 e7 e9 n5 l8 n8 m9 p9
 else bo1 t al o f d0 e8 d8 d9 e6 e7 e9 n5 l8 n8 m9 p9
 else
 bif iEq (a8 e9) 2 then aa9 d0 e8 d8 d9 e6 e7 e9 n5 l8 n8 m9 p9
 else bo1 t al o f d0 e8 d8 d9 e6 e7 e9 n5 l8 n8 m9 p9
def bP8 (t al : Int) (o : Nat → List UInt8) (f d0 : Nat → Int) (e8 d8 : Int) (d9 : Bool) (e6 : Nat → Int) (e7 e9 n5 l8 n8 m9 p9 : Int) : Int :=
 bif iEq (a8 e9) 1 then ao9 d0 e8 d8 d9 e6 e7 e9 n5 l8 n8 m9 p9
 else
 bif iEq (a8 e9) 2 then ao9 d0 e8 d8 d9 e6 e7 e9 n5 l8 n8 m9 p9
 else
 bif iEq (a8 e9) 3 then Z9 t al o f d0 e8 d8 d9 e6 e7 e9 n5 l8 n8 m9 p9
 else
 bif iEq (a8 e9) 4 then Z9 t al o f d0 e8 d8 d9 e6 e7 e9 n5 l8 n8 m9 p9
 else
 bif iEq (a8 e9) 12 then Z9 t al o f d0 e8 d8 d9 e6 e7 e9 n5 l8 n8 m9 p9
 else
 bif iEq (a8 e9) 5 then aM8 e9 (d0 l8.toNat) (g8 .u64 m9)
 else
 bif iEq (a8 e9) 6 then aM8 e9 (d0 l8.toNat) (d0 n8.toNat)
 else
 bif iEq (a8 e9) 8 then 0 else bif iEq (a8 e9) 9 then av7 d0 e8 d8 d9 e6 e7 e9 n5 l8 n8 m9 p9 else 0
def dD4 (t al : Int) (o : Nat → List UInt8) (f d0 : Nat → Int) (e8 d8 : Int) (d9 : Bool) (e6 : Nat → Int) (e7 e9 n5 l8 n8 m9 p9 : Int) : Int :=
 bif iEq (a8 e9) 1 then
 bif iEq (a8 e9) 1 then ao9 d0 e8 d8 d9 e6 e7 e9 n5 l8 n8 m9 p9
 else bp9 t al o f d0 e8 d8 d9 e6 e7 e9 n5 l8 n8 m9 p9
 else
 bif iEq (a8 e9) 2 then ao9 d0 e8 d8 d9 e6 e7 e9 n5 l8 n8 m9 p9
 else bp9 t al o f d0 e8 d8 d9 e6 e7 e9 n5 l8 n8 m9 p9
def ae9 (t al : Int) (o : Nat → List UInt8) (f d0 : Nat → Int) (e8 d8 : Int) (d9 : Bool) (e6 : Nat → Int) (e7 e9 n5 l8 n8 m9 p9 : Int) : Int :=
 bif iEq (a8 e9) 1 then 0
 else
 bif iEq (a8 e9) 2 then 0
 else
 bif iEq (a8 e9) 3 then Y8 t al o f d0 e8 d8 d9 e6 e7 e9 n5 l8 n8 m9 p9
 else
 bif iEq (a8 e9) 4 then Y8 t al o f d0 e8 d8 d9 e6 e7 e9 n5 l8 n8 m9 p9
 else
 bif iEq (a8 e9) 12 then Y8 t al o f d0 e8 d8 d9 e6 e7 e9 n5 l8 n8 m9 p9
 else
 bif iEq (a8 e9) 5 then 0
 else bif iEq (a8 e9) 6 then 0 else bif iEq (a8 e9) 8 then ai3 d0 e8 d8 d9 e6 e7 e9 n5 l8 n8 m9 p9 else 0
def dC5 (t al : Int) (o : Nat → List UInt8) (f d0 : Nat → Int) (e8 d8 : Int) (d9 : Bool) (e6 : Nat → Int) (e7 e9 n5 l8 n8 m9 p9 : Int) : Int :=
 bif iEq (a8 e9) 1 then bif iEq (a8 e9) 1 then 0 else bn0 t al o f d0 e8 d8 d9 e6 e7 e9 n5 l8 n8 m9 p9
 else bif iEq (a8 e9) 2 then 0 else bn0 t al o f d0 e8 d8 d9 e6 e7 e9 n5 l8 n8 m9 p9
def ae7 (t al : Int) (o : Nat → List UInt8) (f d0 : Nat → Int) (e8 d8 : Int) (d9 : Bool) (e6 : Nat → Int) (e7 e9 n5 l8 n8 m9 p9 : Int) : Int :=
 bif iEq (a8 e9) 1 then X1 d0 e8 d8 d9 e6 e7 e9 n5 l8 n8 m9 p9
 else
 bif iEq (a8 e9) 2 then X1 d0 e8 d8 d9 e6 e7 e9 n5 l8 n8 m9 p9
 else
 bif iEq (a8 e9) 3 then Z7 t al o f d0 e8 d8 d9 e6 e7 e9 n5 l8 n8 m9 p9
 else
 bif iEq (a8 e9) 4 then Z7 t al o f d0 e8 d8 d9 e6 e7 e9 n5 l8 n8 m9 p9
 else
 bif iEq (a8 e9) 12 then Z7 t al o f d0 e8 d8 d9 e6 e7 e9 n5 l8 n8 m9 p9
 else
 bif iEq (a8 e9) 5 then 0
 else bif iEq (a8 e9) 6 then 0 else bif iEq (a8 e9) 8 then ai4 d0 e8 d8 d9 e6 e7 e9 n5 l8 n8 m9 p9 else 0
def dA3 (t al : Int) (o : Nat → List UInt8) (f d0 : Nat → Int) (e8 d8 : Int) (d9 : Bool) (e6 : Nat → Int) (e7 e9 n5 l8 n8 m9 p9 : Int) : Int :=
 bif iEq (a8 e9) 1 then
 bif iEq (a8 e9) 1 then X1 d0 e8 d8 d9 e6 e7 e9 n5 l8 n8 m9 p9
 else bp5 t al o f d0 e8 d8 d9 e6 e7 e9 n5 l8 n8 m9 p9
 else
 bif iEq (a8 e9) 2 then X1 d0 e8 d8 d9 e6 e7 e9 n5 l8 n8 m9 p9
 else bp5 t al o f d0 e8 d8 d9 e6 e7 e9 n5 l8 n8 m9 p9
def U4 (t al : Int) (o : Nat → List UInt8) (f d0 : Nat → Int) (e8 d8 : Int) (d9 : Bool) (e6 : Nat → Int) (e7 e9 n5 l8 n8 m9 p9 : Int) : Int :=
 bif iEq (a8 e9) 1 then 0
 else
 bif iEq (a8 e9) 2 then 0
 else
 bif iEq (a8 e9) 3 then Z1 t al o f d0 e8 d8 d9 e6 e7 e9 n5 l8 n8 m9 p9
 else
 bif iEq (a8 e9) 4 then Z1 t al o f d0 e8 d8 d9 e6 e7 e9 n5 l8 n8 m9 p9
 else bif iEq (a8 e9) 12 then Z1 t al o f d0 e8 d8 d9 e6 e7 e9 n5 l8 n8 m9 p9 else 0
def cN7 (t al : Int) (o : Nat → List UInt8) (f d0 : Nat → Int) (e8 d8 : Int) (d9 : Bool) (e6 : Nat → Int) (e7 e9 n5 l8 n8 m9 p9 : Int) : Int :=
 bif iEq (a8 e9) 1 then bif iEq (a8 e9) 1 then 0 else bp1 t al o f d0 e8 d8 d9 e6 e7 e9 n5 l8 n8 m9 p9
 else bif iEq (a8 e9) 2 then 0 else bp1 t al o f d0 e8 d8 d9 e6 e7 e9 n5 l8 n8 m9 p9
def U3 (t al : Int) (o : Nat → List UInt8) (f d0 : Nat → Int) (e8 d8 : Int) (d9 : Bool) (e6 : Nat → Int) (e7 e9 n5 l8 n8 m9 p9 : Int) : Bool :=
 bif iEq (a8 e9) 1 then ai7 d0 e8 d8 d9 e6 e7 e9 n5 l8 n8 m9 p9
 else
 bif iEq (a8 e9) 2 then ai7 d0 e8 d8 d9 e6 e7 e9 n5 l8 n8 m9 p9
 else
 bif iEq (a8 e9) 3 then
 bif !r8 t al o f d0 e8 d8 d9 e6 e7 e9 n5 l8 n8 m9 p9 then
 aF4 t al o f d0 e8 d8 d9 e6 e7 e9 n5 l8 n8 m9 p9
 else false
 else
 bif iEq (a8 e9) 4 then
 bif !r8 t al o f d0 e8 d8 d9 e6 e7 e9 n5 l8 n8 m9 p9 then
 aF4 t al o f d0 e8 d8 d9 e6 e7 e9 n5 l8 n8 m9 p9
 else false
 else
 bif iEq (a8 e9) 12 then
 bif !r8 t al o f d0 e8 d8 d9 e6 e7 e9 n5 l8 n8 m9 p9 then
 aF4 t al o f d0 e8 d8 d9 e6 e7 e9 n5 l8 n8 m9 p9
 else false
 else false
def cQ2 (t al : Int) (o : Nat → List UInt8) (f d0 : Nat → Int) (e8 d8 : Int) (d9 : Bool) (e6 : Nat → Int) (e7 e9 n5 l8 n8 m9 p9 : Int) : Bool :=
 bif iEq (a8 e9) 1 then
 bif iEq (a8 e9) 1 then ai7 d0 e8 d8 d9 e6 e7 e9 n5 l8 n8 m9 p9
 else bn7 t al o f d0 e8 d8 d9 e6 e7 e9 n5 l8 n8 m9 p9
 else
 bif iEq (a8 e9) 2 then ai7 d0 e8 d8 d9 e6 e7 e9 n5 l8 n8 m9 p9
 else bn7 t al o f d0 e8 d8 d9 e6 e7 e9 n5 l8 n8 m9 p9
def D8 (t al : Int) (o : Nat → List UInt8) (f d0 : Nat → Int) (e8 d8 : Int) (d9 : Bool) (e6 : Nat → Int) (e7 e9 n5 l8 n8 m9 p9 : Int) : Bool :=
 bif iEq (a8 e9) 1 then U6 d0 e8 d8 d9 e6 e7 e9 n5 l8 n8 m9 p9
 else
 bif iEq (a8 e9) 2 then U6 d0 e8 d8 d9 e6 e7 e9 n5 l8 n8 m9 p9
 else
 bif iEq (a8 e9) 3 then bif !r8 t al o f d0 e8 d8 d9 e6 e7 e9 n5 l8 n8 m9 p9 then false else true
 else
 bif iEq (a8 e9) 4 then bif !r8 t al o f d0 e8 d8 d9 e6 e7 e9 n5 l8 n8 m9 p9 then false else true
 else
 bif iEq (a8 e9) 12 then bif !r8 t al o f d0 e8 d8 d9 e6 e7 e9 n5 l8 n8 m9 p9 then false else true
 else bif iEq (a8 e9) 5 then true else bif iEq (a8 e9) 6 then true else bif iEq (a8 e9) 8 then false else true
def cZ7 (t al : Int) (o : Nat → List UInt8) (f d0 : Nat → Int) (e8 d8 : Int) (d9 : Bool) (e6 : Nat → Int) (e7 e9 n5 l8 n8 m9 p9 : Int) : Bool :=
 bif iEq (a8 e9) 1 then
 bif iEq (a8 e9) 1 then U6 d0 e8 d8 d9 e6 e7 e9 n5 l8 n8 m9 p9
 else bn5 t al o f d0 e8 d8 d9 e6 e7 e9 n5 l8 n8 m9 p9
 else
 bif iEq (a8 e9) 2 then U6 d0 e8 d8 d9 e6 e7 e9 n5 l8 n8 m9 p9
 else bn5 t al o f d0 e8 d8 d9 e6 e7 e9 n5 l8 n8 m9 p9
def cP6 (t al : Int) (o : Nat → List UInt8) (f d0 : Nat → Int) (e8 d8 : Int) (d9 : Bool) (e6 : Nat → Int) (e7 e9 n5 l8 n8 m9 p9 : Int) : Int :=
 bif iEq (a8 e9) 1 then bif iEq (a8 e9) 1 then t else bo9 t al o f d0 e8 d8 d9 e6 e7 e9 n5 l8 n8 m9 p9
 else bif iEq (a8 e9) 2 then t else bo9 t al o f d0 e8 d8 d9 e6 e7 e9 n5 l8 n8 m9 p9
def aY5 (t al : Int) (o : Nat → List UInt8) (f d0 : Nat → Int) (e8 d8 : Int) (d9 : Bool) (e6 : Nat → Int) (e7 e9 n5 l8 n8 m9 p9 : Int) : Int :=
 bif iEq (a8 e9) 1 then al
 else
 bif iEq (a8 e9) 2 then al
 else
 bif iEq (a8 e9) 3 then aX3 t al o f d0 e8 d8 d9 e6 e7 e9 n5 l8 n8 m9 p9
 else
 bif iEq (a8 e9) 4 then aX3 t al o f d0 e8 d8 d9 e6 e7 e9 n5 l8 n8 m9 p9
 else bif iEq (a8 e9) 12 then aX3 t al o f d0 e8 d8 d9 e6 e7 e9 n5 l8 n8 m9 p9 else al
def cR1 (t al : Int) (o : Nat → List UInt8) (f d0 : Nat → Int) (e8 d8 : Int) (d9 : Bool) (e6 : Nat → Int) (e7 e9 n5 l8 n8 m9 p9 : Int) : Int :=
 bif iEq (a8 e9) 1 then bif iEq (a8 e9) 1 then al else bp3 t al o f d0 e8 d8 d9 e6 e7 e9 n5 l8 n8 m9 p9
 else bif iEq (a8 e9) 2 then al else bp3 t al o f d0 e8 d8 d9 e6 e7 e9 n5 l8 n8 m9 p9
def ba2 (t al : Int) (o : Nat → List UInt8) (f d0 : Nat → Int) (e8 d8 : Int) (d9 : Bool) (e6 : Nat → Int) (e7 e9 n5 l8 n8 m9 p9 : Int) : Nat → List UInt8 :=
 fun i0 => bif iEq (a8 e9) 1 then o i0
 else
 bif iEq (a8 e9) 2 then o i0
 else
 bif iEq (a8 e9) 3 then W5 t al o f d0 e8 d8 d9 e6 e7 e9 n5 l8 n8 m9 p9 i0
 else
 bif iEq (a8 e9) 4 then W5 t al o f d0 e8 d8 d9 e6 e7 e9 n5 l8 n8 m9 p9 i0
 else bif iEq (a8 e9) 12 then W5 t al o f d0 e8 d8 d9 e6 e7 e9 n5 l8 n8 m9 p9 i0 else o i0
def cY7 (t al : Int) (o : Nat → List UInt8) (f d0 : Nat → Int) (e8 d8 : Int) (d9 : Bool) (e6 : Nat → Int) (e7 e9 n5 l8 n8 m9 p9 : Int) : Nat → List UInt8 :=
 fun i0 => bif iEq (a8 e9) 1 then
 bif iEq (a8 e9) 1 then o i0
 else
 bif iEq (a8 e9) 3 then
 bif iEq (a8 e9) 3 then
 bif !r8 t al o f d0 e8 d8 d9 e6 e7 e9 n5 l8 n8 m9 p9 then
 W5 t al o f d0 e8 d8 d9 e6 e7 e9 n5 l8 n8 m9 p9 i0
 else W5 t al o f d0 e8 d8 d9 e6 e7 e9 n5 l8 n8 m9 p9 i0
 else
 bif iEq (a8 e9) 5 then o i0
 else bif iEq (a8 e9) 6 then o i0 else bif iEq (a8 e9) 8 then o i0 else bif iEq (a8 e9) 9 then o i0 else bif iEq (a8 e9) 10 then o i0 else o i0
 else
 bif iEq (a8 e9) 4 then
 bif iEq (a8 e9) 4 then
 bif !r8 t al o f d0 e8 d8 d9 e6 e7 e9 n5 l8 n8 m9 p9 then
 W5 t al o f d0 e8 d8 d9 e6 e7 e9 n5 l8 n8 m9 p9 i0
 else W5 t al o f d0 e8 d8 d9 e6 e7 e9 n5 l8 n8 m9 p9 i0
 else
 bif iEq (a8 e9) 5 then o i0
 else bif iEq (a8 e9) 6 then o i0 else bif iEq (a8 e9) 8 then o i0 else bif iEq (a8 e9) 9 then o i0 else bif iEq (a8 e9) 10 then o i0 else o i0
 else
 bif iEq (a8 e9) 12 then
 bif !r8 t al o f d0 e8 d8 d9 e6 e7 e9 n5 l8 n8 m9 p9 then
 W5 t al o f d0 e8 d8 d9 e6 e7 e9 n5 l8 n8 m9 p9 i0
 else W5 t al o f d0 e8 d8 d9 e6 e7 e9 n5 l8 n8 m9 p9 i0
 else
 bif iEq (a8 e9) 5 then o i0
 else bif iEq (a8 e9) 6 then o i0 else bif iEq (a8 e9) 8 then o i0 else bif iEq (a8 e9) 9 then o i0 else bif iEq (a8 e9) 10 then o i0 else o i0
 else
 bif iEq (a8 e9) 2 then o i0
 else
 bif iEq (a8 e9) 3 then
 bif iEq (a8 e9) 3 then
 bif !r8 t al o f d0 e8 d8 d9 e6 e7 e9 n5 l8 n8 m9 p9 then
 W5 t al o f d0 e8 d8 d9 e6 e7 e9 n5 l8 n8 m9 p9 i0
 else W5 t al o f d0 e8 d8 d9 e6 e7 e9 n5 l8 n8 m9 p9 i0
 else
 bif iEq (a8 e9) 5 then o i0
 else bif iEq (a8 e9) 6 then o i0 else bif iEq (a8 e9) 8 then o i0 else bif iEq (a8 e9) 9 then o i0 else bif iEq (a8 e9) 10 then o i0 else o i0
 else
 bif iEq (a8 e9) 4 then
 bif iEq (a8 e9) 4 then
 bif !r8 t al o f d0 e8 d8 d9 e6 e7 e9 n5 l8 n8 m9 p9 then
 W5 t al o f d0 e8 d8 d9 e6 e7 e9 n5 l8 n8 m9 p9 i0
 else W5 t al o f d0 e8 d8 d9 e6 e7 e9 n5 l8 n8 m9 p9 i0
 else
 bif iEq (a8 e9) 5 then o i0
 else bif iEq (a8 e9) 6 then o i0 else bif iEq (a8 e9) 8 then o i0 else bif iEq (a8 e9) 9 then o i0 else bif iEq (a8 e9) 10 then o i0 else o i0
 else
 bif iEq (a8 e9) 12 then
 bif !r8 t al o f d0 e8 d8 d9 e6 e7 e9 n5 l8 n8 m9 p9 then
 W5 t al o f d0 e8 d8 d9 e6 e7 e9 n5 l8 n8 m9 p9 i0
 else W5 t al o f d0 e8 d8 d9 e6 e7 e9 n5 l8 n8 m9 p9 i0
 else
 bif iEq (a8 e9) 5 then o i0
 else bif iEq (a8 e9) 6 then o i0 else bif iEq (a8 e9) 8 then o i0 else bif iEq (a8 e9) 9 then o i0 else bif iEq (a8 e9) 10 then o i0 else o i0
def aW1 (t al : Int) (o : Nat → List UInt8) (f d0 : Nat → Int) (e8 d8 : Int) (d9 : Bool) (e6 : Nat → Int) (e7 e9 n5 l8 n8 m9 p9 : Int) : Nat → Int :=
 fun i0 => bif iEq (a8 e9) 1 then f i0
 else
 bif iEq (a8 e9) 2 then f i0
 else
 bif iEq (a8 e9) 3 then P8 t al o f d0 e8 d8 d9 e6 e7 e9 n5 l8 n8 m9 p9 i0
 else
 bif iEq (a8 e9) 4 then P8 t al o f d0 e8 d8 d9 e6 e7 e9 n5 l8 n8 m9 p9 i0
 else bif iEq (a8 e9) 12 then P8 t al o f d0 e8 d8 d9 e6 e7 e9 n5 l8 n8 m9 p9 i0 else f i0
def db6 (t al : Int) (o : Nat → List UInt8) (f d0 : Nat → Int) (e8 d8 : Int) (d9 : Bool) (e6 : Nat → Int) (e7 e9 n5 l8 n8 m9 p9 : Int) : Nat → Int :=
 fun i0 => bif iEq (a8 e9) 1 then
 bif iEq (a8 e9) 1 then f i0
 else
 bif iEq (a8 e9) 3 then
 bif iEq (a8 e9) 3 then
 bif !r8 t al o f d0 e8 d8 d9 e6 e7 e9 n5 l8 n8 m9 p9 then
 P8 t al o f d0 e8 d8 d9 e6 e7 e9 n5 l8 n8 m9 p9 i0
 else P8 t al o f d0 e8 d8 d9 e6 e7 e9 n5 l8 n8 m9 p9 i0
 else
 bif iEq (a8 e9) 5 then f i0
 else bif iEq (a8 e9) 6 then f i0 else bif iEq (a8 e9) 8 then f i0 else bif iEq (a8 e9) 9 then f i0 else bif iEq (a8 e9) 10 then f i0 else f i0
 else
 bif iEq (a8 e9) 4 then
 bif iEq (a8 e9) 4 then
 bif !r8 t al o f d0 e8 d8 d9 e6 e7 e9 n5 l8 n8 m9 p9 then
 P8 t al o f d0 e8 d8 d9 e6 e7 e9 n5 l8 n8 m9 p9 i0
 else P8 t al o f d0 e8 d8 d9 e6 e7 e9 n5 l8 n8 m9 p9 i0
 else
 bif iEq (a8 e9) 5 then f i0
 else bif iEq (a8 e9) 6 then f i0 else bif iEq (a8 e9) 8 then f i0 else bif iEq (a8 e9) 9 then f i0 else bif iEq (a8 e9) 10 then f i0 else f i0
 else
 bif iEq (a8 e9) 12 then
 bif !r8 t al o f d0 e8 d8 d9 e6 e7 e9 n5 l8 n8 m9 p9 then
 P8 t al o f d0 e8 d8 d9 e6 e7 e9 n5 l8 n8 m9 p9 i0
 else P8 t al o f d0 e8 d8 d9 e6 e7 e9 n5 l8 n8 m9 p9 i0
 else
 bif iEq (a8 e9) 5 then f i0
 else bif iEq (a8 e9) 6 then f i0 else bif iEq (a8 e9) 8 then f i0 else bif iEq (a8 e9) 9 then f i0 else bif iEq (a8 e9) 10 then f i0 else f i0
 else
 bif iEq (a8 e9) 2 then f i0
 else
 bif iEq (a8 e9) 3 then
 bif iEq (a8 e9) 3 then
 bif !r8 t al o f d0 e8 d8 d9 e6 e7 e9 n5 l8 n8 m9 p9 then
 P8 t al o f d0 e8 d8 d9 e6 e7 e9 n5 l8 n8 m9 p9 i0
 else P8 t al o f d0 e8 d8 d9 e6 e7 e9 n5 l8 n8 m9 p9 i0
 else
 bif iEq (a8 e9) 5 then f i0
 else bif iEq (a8 e9) 6 then f i0 else bif iEq (a8 e9) 8 then f i0 else bif iEq (a8 e9) 9 then f i0 else bif iEq (a8 e9) 10 then f i0 else f i0
 else
 bif iEq (a8 e9) 4 then
 bif iEq (a8 e9) 4 then
 bif !r8 t al o f d0 e8 d8 d9 e6 e7 e9 n5 l8 n8 m9 p9 then
 P8 t al o f d0 e8 d8 d9 e6 e7 e9 n5 l8 n8 m9 p9 i0
 else P8 t al o f d0 e8 d8 d9 e6 e7 e9 n5 l8 n8 m9 p9 i0
 else
 bif iEq (a8 e9) 5 then f i0
 else bif iEq (a8 e9) 6 then f i0 else bif iEq (a8 e9) 8 then f i0 else bif iEq (a8 e9) 9 then f i0 else bif iEq (a8 e9) 10 then f i0 else f i0
 else
 bif iEq (a8 e9) 12 then
 bif !r8 t al o f d0 e8 d8 d9 e6 e7 e9 n5 l8 n8 m9 p9 then
 P8 t al o f d0 e8 d8 d9 e6 e7 e9 n5 l8 n8 m9 p9 i0
 else P8 t al o f d0 e8 d8 d9 e6 e7 e9 n5 l8 n8 m9 p9 i0
 else
 bif iEq (a8 e9) 5 then f i0
 else bif iEq (a8 e9) 6 then f i0 else bif iEq (a8 e9) 8 then f i0 else bif iEq (a8 e9) 9 then f i0 else bif iEq (a8 e9) 10 then f i0 else f i0
def bu5 (t al : Int) (o : Nat → List UInt8) (f d0 : Nat → Int) (e8 d8 : Int) (d9 : Bool) (e6 : Nat → Int) (e7 e9 n5 l8 n8 m9 p9 : Int) : Bool :=
 bif iEq (a8 e9) 1 then
 bif iEq (a8 e9) 1 then aj0 d0 e8 d8 d9 e6 e7 e9 n5 l8 n8 m9 p9 && true
 else bk3 t al o f d0 e8 d8 d9 e6 e7 e9 n5 l8 n8 m9 p9
 else
 bif iEq (a8 e9) 2 then aj0 d0 e8 d8 d9 e6 e7 e9 n5 l8 n8 m9 p9 && true
 else bk3 t al o f d0 e8 d8 d9 e6 e7 e9 n5 l8 n8 m9 p9
def bk7 (t al : Int) (o : Nat → List UInt8) (f d0 : Nat → Int) (e8 d8 : Int) (d9 : Bool) (e6 : Nat → Int) (e7 e9 n5 l8 n8 m9 p9 : Int) : AV := .tup [.it .i64 0, .agg [.agg [.arr 32 (.int .u64) fun i0 => .it .u64 (bN2 t al o f d0 e8 d8 d9 e6 e7 e9 n5 l8 n8 m9 p9 i0), .it .u64 (bB1 t al o f d0 e8 d8 d9 e6 e7 e9 n5 l8 n8 m9 p9), .it .i64 (bv6 t al o f d0 e8 d8 d9 e6 e7 e9 n5 l8 n8 m9 p9), .bl (bw4 t al o f d0 e8 d8 d9 e6 e7 e9 n5 l8 n8 m9 p9), .arr 29 (.int .u64) fun i0 => .it .u64 (bA0 t al o f d0 e8 d8 d9 e6 e7 e9 n5 l8 n8 m9 p9 i0), .it .u64 (bz1 t al o f d0 e8 d8 d9 e6 e7 e9 n5 l8 n8 m9 p9)], .it .u64 (bP8 t al o f d0 e8 d8 d9 e6 e7 e9 n5 l8 n8 m9 p9), .agg [.it .u64 (ae9 t al o f d0 e8 d8 d9 e6 e7 e9 n5 l8 n8 m9 p9), .it .u64 (ae7 t al o f d0 e8 d8 d9 e6 e7 e9 n5 l8 n8 m9 p9), .it .u64 (U4 t al o f d0 e8 d8 d9 e6 e7 e9 n5 l8 n8 m9 p9), .bl (U3 t al o f d0 e8 d8 d9 e6 e7 e9 n5 l8 n8 m9 p9)], .bl (D8 t al o f d0 e8 d8 d9 e6 e7 e9 n5 l8 n8 m9 p9)], .agg [.it .u64 t, .it .u64 (aY5 t al o f d0 e8 d8 d9 e6 e7 e9 n5 l8 n8 m9 p9), .arr 4 .str fun i0 => .st (ba2 t al o f d0 e8 d8 d9 e6 e7 e9 n5 l8 n8 m9 p9 i0)], .arr 32768 (.int .u8) fun i0 => .it .u8 (aW1 t al o f d0 e8 d8 d9 e6 e7 e9 n5 l8 n8 m9 p9 i0)]
def cE8 (t al : Int) (o : Nat → List UInt8) (f d0 : Nat → Int) (e8 d8 : Int) (d9 : Bool) (e6 : Nat → Int) (e7 e9 n5 l8 n8 m9 p9 : Int) : AV := .tup [.it .i64 (dH5 t al o f d0 e8 d8 d9 e6 e7 e9 n5 l8 n8 m9 p9), .agg [.agg [.arr 32 (.int .u64) fun i0 => .it .u64 (dE1 t al o f d0 e8 d8 d9 e6 e7 e9 n5 l8 n8 m9 p9 i0), .it .u64 (dJ0 t al o f d0 e8 d8 d9 e6 e7 e9 n5 l8 n8 m9 p9), .it .i64 (dF5 t al o f d0 e8 d8 d9 e6 e7 e9 n5 l8 n8 m9 p9), .bl (dB8 t al o f d0 e8 d8 d9 e6 e7 e9 n5 l8 n8 m9 p9), .arr 29 (.int .u64) fun i0 => .it .u64 (dA5 t al o f d0 e8 d8 d9 e6 e7 e9 n5 l8 n8 m9 p9 i0), .it .u64 (dI6 t al o f d0 e8 d8 d9 e6 e7 e9 n5 l8 n8 m9 p9)], .it .u64 (dD4 t al o f d0 e8 d8 d9 e6 e7 e9 n5 l8 n8 m9 p9), .agg [.it .u64 (dC5 t al o f d0 e8 d8 d9 e6 e7 e9 n5 l8 n8 m9 p9), .it .u64 (dA3 t al o f d0 e8 d8 d9 e6 e7 e9 n5 l8 n8 m9 p9), .it .u64 (cN7 t al o f d0 e8 d8 d9 e6 e7 e9 n5 l8 n8 m9 p9), .bl (cQ2 t al o f d0 e8 d8 d9 e6 e7 e9 n5 l8 n8 m9 p9)], .bl (cZ7 t al o f d0 e8 d8 d9 e6 e7 e9 n5 l8 n8 m9 p9)], .agg [.it .u64 (cP6 t al o f d0 e8 d8 d9 e6 e7 e9 n5 l8 n8 m9 p9), .it .u64 (cR1 t al o f d0 e8 d8 d9 e6 e7 e9 n5 l8 n8 m9 p9), .arr 4 .str fun i0 => .st (cY7 t al o f d0 e8 d8 d9 e6 e7 e9 n5 l8 n8 m9 p9 i0)], .arr 32768 (.int .u8) fun i0 => .it .u8 (db6 t al o f d0 e8 d8 d9 e6 e7 e9 n5 l8 n8 m9 p9 i0)]
theorem dT2 (t al : Int) (o : Nat → List UInt8) (f d0 : Nat → Int) (e8 d8 : Int) (d9 : Bool) (e6 : Nat → Int) (e7 e9 n5 l8 n8 m9 p9 : Int) : cE8 t al o f d0 e8 d8 d9 e6 e7 e9 n5 l8 n8 m9 p9 = bk7 t al o f d0 e8 d8 d9 e6 e7 e9 n5 l8 n8 m9 p9 := by
  unfold cE8 bk7 dH5 dE1 bN2 dJ0 bB1 dF5 bv6 dB8 bw4 dA5 bA0 dI6 bz1 dD4 bP8 dC5 ae9 dA3 ae7 cN7 U4 cQ2 U3 cZ7 D8 cP6 cR1 aY5 cY7 ba2 db6 aW1
  first | (simp only [aT5, aT0, bk3, aB2, bH9, an4, aR4, bh9, bJ3, aT9, aQ6, bn2, aG9, aR7, bm9, aP3, bo1, Z9, aU6, bp9, Y8, aV1, bn0, Z7, aS2, bp5, Z1, bp1, aT6, bn7, aP1, bn5, aS6, bo9, aS0, aS7, bp3, cS1, cS2, cS3, cS4, cS6, cS7]; done) | (simp only [aT5, aT0, bk3, aB2, bH9, an4, aR4, bh9, bJ3, aT9, aQ6, bn2, aG9, aR7, bm9, aP3, bo1, Z9, aU6, bp9, Y8, aV1, bn0, Z7, aS2, bp5, Z1, bp1, aT6, bn7, aP1, bn5, aS6, bo9, aS0, aS7, bp3, cS1, cS2, cS3, cS4, cS6, cS7]; kernel_rfl)
theorem exDoesE (t al : Int) (o : Nat → List UInt8) (f d0 : Nat → Int) (e8 d8 : Int) (d9 : Bool) (e6 : Nat → Int) (e7 e9 n5 l8 n8 m9 p9 : Int) : evFn Tryz.prog okT (m5 bq9) (hGr [] (hMem [(206, bp0)] NOH)) ROs NOV 101 false Tryz.f142 [.pt 0 [] J6, .agg [.arr 32 (.int .u64) fun i => .it .u64 (d0 i), .it .u64 e8, .it .i64 d8, .bl d9, .arr 29 (.int .u64) fun i => .it .u64 (e6 i), .it .u64 e7], .agg [.it .i64 e9, .it .i64 n5, .it .i64 l8, .it .i64 n8, .it .i64 m9, .it .i64 p9]] (bi2 ⟨t, al, o, f⟩ 2) (finQ busL) = some (bu5 t al o f d0 e8 d8 d9 e6 e7 e9 n5 l8 n8 m9 p9, bk7 t al o f d0 e8 d8 d9 e6 e7 e9 n5 l8 n8 m9 p9) :=
 (by kernel_rfl : _ = some (bu5 t al o f d0 e8 d8 d9 e6 e7 e9 n5 l8 n8 m9 p9, cE8 t al o f d0 e8 d8 d9 e6 e7 e9 n5 l8 n8 m9 p9)).trans (by rw [dT2])
noncomputable def bB7 : MRow := aL0 [sh5Q, sh1Q] (some fun g S => bu5 S.t S.a S.o S.f (fun i => (((g 0).fld 0).ix i).num) ((g 0).fld 1).num ((g 0).fld 2).num ((g 0).fld 3).bool (fun i => (((g 0).fld 4).ix i).num) ((g 0).fld 5).num ((g 1).fld 0).num ((g 1).fld 1).num ((g 1).fld 2).num ((g 1).fld 3).num ((g 1).fld 4).num ((g 1).fld 5).num) (fun g S => Y1 (bk7 S.t S.a S.o S.f (fun i => (((g 0).fld 0).ix i).num) ((g 0).fld 1).num ((g 0).fld 2).num ((g 0).fld 3).bool (fun i => (((g 0).fld 4).ix i).num) ((g 0).fld 5).num ((g 1).fld 0).num ((g 1).fld 1).num ((g 1).fld 2).num ((g 1).fld 3).num ((g 1).fld 4).num ((g 1).fld 5).num) 1) (fun g S => ⟨tmOf (Y1 (bk7 S.t S.a S.o S.f (fun i => (((g 0).fld 0).ix i).num) ((g 0).fld 1).num ((g 0).fld 2).num ((g 0).fld 3).bool (fun i => (((g 0).fld 4).ix i).num) ((g 0).fld 5).num ((g 1).fld 0).num ((g 1).fld 1).num ((g 1).fld 2).num ((g 1).fld 3).num ((g 1).fld 4).num ((g 1).fld 5).num) 2), alOf (Y1 (bk7 S.t S.a S.o S.f (fun i => (((g 0).fld 0).ix i).num) ((g 0).fld 1).num ((g 0).fld 2).num ((g 0).fld 3).bool (fun i => (((g 0).fld 4).ix i).num) ((g 0).fld 5).num ((g 1).fld 0).num ((g 1).fld 1).num ((g 1).fld 2).num ((g 1).fld 3).num ((g 1).fld 4).num ((g 1).fld 5).num) 2), oOf (Y1 (bk7 S.t S.a S.o S.f (fun i => (((g 0).fld 0).ix i).num) ((g 0).fld 1).num ((g 0).fld 2).num ((g 0).fld 3).bool (fun i => (((g 0).fld 4).ix i).num) ((g 0).fld 5).num ((g 1).fld 0).num ((g 1).fld 1).num ((g 1).fld 2).num ((g 1).fld 3).num ((g 1).fld 4).num ((g 1).fld 5).num) 2), fOf (Y1 (bk7 S.t S.a S.o S.f (fun i => (((g 0).fld 0).ix i).num) ((g 0).fld 1).num ((g 0).fld 2).num ((g 0).fld 3).bool (fun i => (((g 0).fld 4).ix i).num) ((g 0).fld 5).num ((g 1).fld 0).num ((g 1).fld 1).num ((g 1).fld 2).num ((g 1).fld 3).num ((g 1).fld 4).num ((g 1).fld 5).num) 3)⟩)
theorem cQ6 : aa3 Tryz.prog 142 bB7 := aJ1 ⟨Tryz.func142, of_decide_eq_true (by kernel_rfl)⟩ (au3 (ap2 E9 (show MOk Tryz.prog [(206, bp0)] from ⟨cJ4, trivial⟩)) (show GOk Tryz.prog [] from trivial)) ac2 rfl (fun _ _ => ⟨rfl, rfl, rfl⟩) (G := fun g S => bu5 S.t S.a S.o S.f (fun i => (((g 0).fld 0).ix i).num) ((g 0).fld 1).num ((g 0).fld 2).num ((g 0).fld 3).bool (fun i => (((g 0).fld 4).ix i).num) ((g 0).fld 5).num ((g 1).fld 0).num ((g 1).fld 1).num ((g 1).fld 2).num ((g 1).fld 3).num ((g 1).fld 4).num ((g 1).fld 5).num) (fun g S => exDoesE S.t S.a S.o S.f (fun i => (((g 0).fld 0).ix i).num) ((g 0).fld 1).num ((g 0).fld 2).num ((g 0).fld 3).bool (fun i => (((g 0).fld 4).ix i).num) ((g 0).fld 5).num ((g 1).fld 0).num ((g 1).fld 1).num ((g 1).fld 2).num ((g 1).fld 3).num ((g 1).fld 4).num ((g 1).fld 5).num) (fun g S hp hS hc => hc _ rfl)
def exDo0r (t al : Int) (o : Nat → List UInt8) (f d0 : Nat → Int) (e8 d8 : Int) (d9 : Bool) (e6 : Nat → Int) (e7 a1 : Int) : Int :=
 bif iNe (o8 a1) 0 then 0
 else
 bif
 !o6 d0 e8 d8 d9 e6 e7 (d1 a1) (d4 a1) (d5 a1) (d6 a1) (d3 a1)
 (d7 a1) then
 0
 else
 bif
 !D8 t al o f d0 e8 d8 d9 e6 e7 (d1 a1) (d4 a1) (d5 a1) (d6 a1) (d3 a1)
 (d7 a1) then
 0
 else bif iNe (x5 (d1 a1) (d4 a1) (d5 a1) (d6 a1) (d3 a1) (d7 a1)) 0 then 0 else 0
def exDo1 (t al : Int) (o : Nat → List UInt8) (f d0 : Nat → Int) (e8 d8 : Int) (d9 : Bool) (e6 : Nat → Int) (e7 a1 : Int) : Nat → Int :=
 fun i0 => bif iNe (o8 a1) 0 then d0 i0
 else
 bif
 !o6 d0 e8 d8 d9 e6 e7 (d1 a1) (d4 a1) (d5 a1) (d6 a1) (d3 a1)
 (d7 a1) then
 d0 i0
 else
 bif
 !D8 t al o f d0 e8 d8 d9 e6 e7 (d1 a1) (d4 a1) (d5 a1) (d6 a1) (d3 a1)
 (d7 a1) then
 d0 i0
 else
 bif iNe (x5 (d1 a1) (d4 a1) (d5 a1) (d6 a1) (d3 a1) (d7 a1)) 0 then
 bif i0 == (x5 (d1 a1) (d4 a1) (d5 a1) (d6 a1) (d3 a1) (d7 a1)).toNat then
 bP8 t al o f d0 e8 d8 d9 e6 e7 (d1 a1) (d4 a1) (d5 a1) (d6 a1) (d3 a1)
 (d7 a1)
 else
 bN2 t al o f d0 e8 d8 d9 e6 e7 (d1 a1) (d4 a1) (d5 a1) (d6 a1) (d3 a1)
 (d7 a1) i0
 else
 bN2 t al o f d0 e8 d8 d9 e6 e7 (d1 a1) (d4 a1) (d5 a1) (d6 a1) (d3 a1)
 (d7 a1) i0
def exDo2 (t al : Int) (o : Nat → List UInt8) (f d0 : Nat → Int) (e8 d8 : Int) (d9 : Bool) (e6 : Nat → Int) (e7 a1 : Int) : Int :=
 bif iNe (o8 a1) 0 then ai5 d0 e8 d8 d9 e6 e7 2 (g8 .u64 a1) 0 false a1
 else
 bif
 !o6 d0 e8 d8 d9 e6 e7 (d1 a1) (d4 a1) (d5 a1) (d6 a1) (d3 a1)
 (d7 a1) then
 ai5 d0 e8 d8 d9 e6 e7
 (F5 d0 e8 d8 d9 e6 e7 (d1 a1) (d4 a1) (d5 a1) (d6 a1) (d3 a1) (d7 a1))
 (g8 .u64 a1) 0 false a1
 else
 bif
 !D8 t al o f d0 e8 d8 d9 e6 e7 (d1 a1) (d4 a1) (d5 a1) (d6 a1) (d3 a1)
 (d7 a1) then
 ai5 d0 e8 d8 d9 e6 e7
 (ae9 t al o f d0 e8 d8 d9 e6 e7 (d1 a1) (d4 a1) (d5 a1) (d6 a1) (d3 a1)
 (d7 a1))
 (ae7 t al o f d0 e8 d8 d9 e6 e7 (d1 a1) (d4 a1) (d5 a1) (d6 a1) (d3 a1)
 (d7 a1))
 (U4 t al o f d0 e8 d8 d9 e6 e7 (d1 a1) (d4 a1) (d5 a1) (d6 a1) (d3 a1)
 (d7 a1))
 (U3 t al o f d0 e8 d8 d9 e6 e7 (d1 a1) (d4 a1) (d5 a1) (d6 a1) (d3 a1)
 (d7 a1))
 a1
 else
 bB1 t al o f d0 e8 d8 d9 e6 e7 (d1 a1) (d4 a1) (d5 a1) (d6 a1) (d3 a1)
 (d7 a1)
def exDo2r (t al : Int) (o : Nat → List UInt8) (f d0 : Nat → Int) (e8 d8 : Int) (d9 : Bool) (e6 : Nat → Int) (e7 a1 : Int) : Int :=
 bif iNe (o8 a1) 0 then ai5 d0 e8 d8 d9 e6 e7 2 (g8 .u64 a1) 0 false a1
 else
 bif
 !o6 d0 e8 d8 d9 e6 e7 (d1 a1) (d4 a1) (d5 a1) (d6 a1) (d3 a1)
 (d7 a1) then
 ai5 d0 e8 d8 d9 e6 e7
 (F5 d0 e8 d8 d9 e6 e7 (d1 a1) (d4 a1) (d5 a1) (d6 a1) (d3 a1) (d7 a1))
 (g8 .u64 a1) 0 false a1
 else
 bif
 !D8 t al o f d0 e8 d8 d9 e6 e7 (d1 a1) (d4 a1) (d5 a1) (d6 a1) (d3 a1)
 (d7 a1) then
 ai5 d0 e8 d8 d9 e6 e7
 (ae9 t al o f d0 e8 d8 d9 e6 e7 (d1 a1) (d4 a1) (d5 a1) (d6 a1) (d3 a1)
 (d7 a1))
 (ae7 t al o f d0 e8 d8 d9 e6 e7 (d1 a1) (d4 a1) (d5 a1) (d6 a1) (d3 a1)
 (d7 a1))
 (U4 t al o f d0 e8 d8 d9 e6 e7 (d1 a1) (d4 a1) (d5 a1) (d6 a1) (d3 a1)
 (d7 a1))
 (U3 t al o f d0 e8 d8 d9 e6 e7 (d1 a1) (d4 a1) (d5 a1) (d6 a1) (d3 a1)
 (d7 a1))
 a1
 else
 bif iNe (x5 (d1 a1) (d4 a1) (d5 a1) (d6 a1) (d3 a1) (d7 a1)) 0 then
 bB1 t al o f d0 e8 d8 d9 e6 e7 (d1 a1) (d4 a1) (d5 a1) (d6 a1) (d3 a1)
 (d7 a1)
 else
 bB1 t al o f d0 e8 d8 d9 e6 e7 (d1 a1) (d4 a1) (d5 a1) (d6 a1) (d3 a1)
 (d7 a1)
def exDo3 (t al : Int) (o : Nat → List UInt8) (f d0 : Nat → Int) (e8 d8 : Int) (d9 : Bool) (e6 : Nat → Int) (e7 a1 : Int) : Int :=
 bif iNe (o8 a1) 0 then ag2 d0 e8 d8 d9 e6 e7 2 (g8 .u64 a1) 0 false a1
 else
 bif
 !o6 d0 e8 d8 d9 e6 e7 (d1 a1) (d4 a1) (d5 a1) (d6 a1) (d3 a1)
 (d7 a1) then
 ag2 d0 e8 d8 d9 e6 e7
 (F5 d0 e8 d8 d9 e6 e7 (d1 a1) (d4 a1) (d5 a1) (d6 a1) (d3 a1) (d7 a1))
 (g8 .u64 a1) 0 false a1
 else
 bif
 !D8 t al o f d0 e8 d8 d9 e6 e7 (d1 a1) (d4 a1) (d5 a1) (d6 a1) (d3 a1)
 (d7 a1) then
 ag2 d0 e8 d8 d9 e6 e7
 (ae9 t al o f d0 e8 d8 d9 e6 e7 (d1 a1) (d4 a1) (d5 a1) (d6 a1) (d3 a1)
 (d7 a1))
 (ae7 t al o f d0 e8 d8 d9 e6 e7 (d1 a1) (d4 a1) (d5 a1) (d6 a1) (d3 a1)
 (d7 a1))
 (U4 t al o f d0 e8 d8 d9 e6 e7 (d1 a1) (d4 a1) (d5 a1) (d6 a1) (d3 a1)
 (d7 a1))
 (U3 t al o f d0 e8 d8 d9 e6 e7 (d1 a1) (d4 a1) (d5 a1) (d6 a1) (d3 a1)
 (d7 a1))
 a1
 else
 bv6 t al o f d0 e8 d8 d9 e6 e7 (d1 a1) (d4 a1) (d5 a1) (d6 a1) (d3 a1)
 (d7 a1)
def exDo3r (t al : Int) (o : Nat → List UInt8) (f d0 : Nat → Int) (e8 d8 : Int) (d9 : Bool) (e6 : Nat → Int) (e7 a1 : Int) : Int :=
 bif iNe (o8 a1) 0 then ag2 d0 e8 d8 d9 e6 e7 2 (g8 .u64 a1) 0 false a1
 else
 bif
 !o6 d0 e8 d8 d9 e6 e7 (d1 a1) (d4 a1) (d5 a1) (d6 a1) (d3 a1)
 (d7 a1) then
 ag2 d0 e8 d8 d9 e6 e7
 (F5 d0 e8 d8 d9 e6 e7 (d1 a1) (d4 a1) (d5 a1) (d6 a1) (d3 a1) (d7 a1))
 (g8 .u64 a1) 0 false a1
 else
 bif
 !D8 t al o f d0 e8 d8 d9 e6 e7 (d1 a1) (d4 a1) (d5 a1) (d6 a1) (d3 a1)
 (d7 a1) then
 ag2 d0 e8 d8 d9 e6 e7
 (ae9 t al o f d0 e8 d8 d9 e6 e7 (d1 a1) (d4 a1) (d5 a1) (d6 a1) (d3 a1)
 (d7 a1))
 (ae7 t al o f d0 e8 d8 d9 e6 e7 (d1 a1) (d4 a1) (d5 a1) (d6 a1) (d3 a1)
 (d7 a1))
 (U4 t al o f d0 e8 d8 d9 e6 e7 (d1 a1) (d4 a1) (d5 a1) (d6 a1) (d3 a1)
 (d7 a1))
 (U3 t al o f d0 e8 d8 d9 e6 e7 (d1 a1) (d4 a1) (d5 a1) (d6 a1) (d3 a1)
 (d7 a1))
 a1
 else
 bif iNe (x5 (d1 a1) (d4 a1) (d5 a1) (d6 a1) (d3 a1) (d7 a1)) 0 then
 bv6 t al o f d0 e8 d8 d9 e6 e7 (d1 a1) (d4 a1) (d5 a1) (d6 a1) (d3 a1)
 (d7 a1)
 else
 bv6 t al o f d0 e8 d8 d9 e6 e7 (d1 a1) (d4 a1) (d5 a1) (d6 a1) (d3 a1)
 (d7 a1)
def exDo4 (t al : Int) (o : Nat → List UInt8) (f d0 : Nat → Int) (e8 d8 : Int) (d9 : Bool) (e6 : Nat → Int) (e7 a1 : Int) : Bool :=
 bif iNe (o8 a1) 0 then ai9 d0 e8 d8 d9 e6 e7 2 (g8 .u64 a1) 0 false a1
 else
 bif
 !o6 d0 e8 d8 d9 e6 e7 (d1 a1) (d4 a1) (d5 a1) (d6 a1) (d3 a1)
 (d7 a1) then
 ai9 d0 e8 d8 d9 e6 e7
 (F5 d0 e8 d8 d9 e6 e7 (d1 a1) (d4 a1) (d5 a1) (d6 a1) (d3 a1) (d7 a1))
 (g8 .u64 a1) 0 false a1
 else
 bif
 !D8 t al o f d0 e8 d8 d9 e6 e7 (d1 a1) (d4 a1) (d5 a1) (d6 a1) (d3 a1)
 (d7 a1) then
 ai9 d0 e8 d8 d9 e6 e7
 (ae9 t al o f d0 e8 d8 d9 e6 e7 (d1 a1) (d4 a1) (d5 a1) (d6 a1) (d3 a1)
 (d7 a1))
 (ae7 t al o f d0 e8 d8 d9 e6 e7 (d1 a1) (d4 a1) (d5 a1) (d6 a1) (d3 a1)
 (d7 a1))
 (U4 t al o f d0 e8 d8 d9 e6 e7 (d1 a1) (d4 a1) (d5 a1) (d6 a1) (d3 a1)
 (d7 a1))
 (U3 t al o f d0 e8 d8 d9 e6 e7 (d1 a1) (d4 a1) (d5 a1) (d6 a1) (d3 a1)
 (d7 a1))
 a1
 else
 bw4 t al o f d0 e8 d8 d9 e6 e7 (d1 a1) (d4 a1) (d5 a1) (d6 a1) (d3 a1)
 (d7 a1)
def exDo4r (t al : Int) (o : Nat → List UInt8) (f d0 : Nat → Int) (e8 d8 : Int) (d9 : Bool) (e6 : Nat → Int) (e7 a1 : Int) : Bool :=
 bif iNe (o8 a1) 0 then ai9 d0 e8 d8 d9 e6 e7 2 (g8 .u64 a1) 0 false a1
 else
 bif
 !o6 d0 e8 d8 d9 e6 e7 (d1 a1) (d4 a1) (d5 a1) (d6 a1) (d3 a1)
 (d7 a1) then
 ai9 d0 e8 d8 d9 e6 e7
 (F5 d0 e8 d8 d9 e6 e7 (d1 a1) (d4 a1) (d5 a1) (d6 a1) (d3 a1) (d7 a1))
 (g8 .u64 a1) 0 false a1
 else
 bif
 !D8 t al o f d0 e8 d8 d9 e6 e7 (d1 a1) (d4 a1) (d5 a1) (d6 a1) (d3 a1)
 (d7 a1) then
 ai9 d0 e8 d8 d9 e6 e7
 (ae9 t al o f d0 e8 d8 d9 e6 e7 (d1 a1) (d4 a1) (d5 a1) (d6 a1) (d3 a1)
 (d7 a1))
 (ae7 t al o f d0 e8 d8 d9 e6 e7 (d1 a1) (d4 a1) (d5 a1) (d6 a1) (d3 a1)
 (d7 a1))
 (U4 t al o f d0 e8 d8 d9 e6 e7 (d1 a1) (d4 a1) (d5 a1) (d6 a1) (d3 a1)
 (d7 a1))
 (U3 t al o f d0 e8 d8 d9 e6 e7 (d1 a1) (d4 a1) (d5 a1) (d6 a1) (d3 a1)
 (d7 a1))
 a1
 else
 bif iNe (x5 (d1 a1) (d4 a1) (d5 a1) (d6 a1) (d3 a1) (d7 a1)) 0 then
 bw4 t al o f d0 e8 d8 d9 e6 e7 (d1 a1) (d4 a1) (d5 a1) (d6 a1) (d3 a1)
 (d7 a1)
 else
 bw4 t al o f d0 e8 d8 d9 e6 e7 (d1 a1) (d4 a1) (d5 a1) (d6 a1) (d3 a1)
 (d7 a1)
def exDo5 (t al : Int) (o : Nat → List UInt8) (f d0 : Nat → Int) (e8 d8 : Int) (d9 : Bool) (e6 : Nat → Int) (e7 a1 : Int) : Nat → Int :=
 fun i0 => bif iNe (o8 a1) 0 then ai8 d0 e8 d8 d9 e6 e7 2 (g8 .u64 a1) 0 false a1 i0
 else
 bif
 !o6 d0 e8 d8 d9 e6 e7 (d1 a1) (d4 a1) (d5 a1) (d6 a1) (d3 a1)
 (d7 a1) then
 ai8 d0 e8 d8 d9 e6 e7
 (F5 d0 e8 d8 d9 e6 e7 (d1 a1) (d4 a1) (d5 a1) (d6 a1) (d3 a1) (d7 a1))
 (g8 .u64 a1) 0 false a1 i0
 else
 bif
 !D8 t al o f d0 e8 d8 d9 e6 e7 (d1 a1) (d4 a1) (d5 a1) (d6 a1) (d3 a1)
 (d7 a1) then
 ai8 d0 e8 d8 d9 e6 e7
 (ae9 t al o f d0 e8 d8 d9 e6 e7 (d1 a1) (d4 a1) (d5 a1) (d6 a1) (d3 a1)
 (d7 a1))
 (ae7 t al o f d0 e8 d8 d9 e6 e7 (d1 a1) (d4 a1) (d5 a1) (d6 a1) (d3 a1)
 (d7 a1))
 (U4 t al o f d0 e8 d8 d9 e6 e7 (d1 a1) (d4 a1) (d5 a1) (d6 a1) (d3 a1)
 (d7 a1))
 (U3 t al o f d0 e8 d8 d9 e6 e7 (d1 a1) (d4 a1) (d5 a1) (d6 a1) (d3 a1)
 (d7 a1))
 a1 i0
 else
 bA0 t al o f d0 e8 d8 d9 e6 e7 (d1 a1) (d4 a1) (d5 a1) (d6 a1) (d3 a1)
 (d7 a1) i0
def exDo5r (t al : Int) (o : Nat → List UInt8) (f d0 : Nat → Int) (e8 d8 : Int) (d9 : Bool) (e6 : Nat → Int) (e7 a1 : Int) : Nat → Int :=
 fun i0 => bif iNe (o8 a1) 0 then ai8 d0 e8 d8 d9 e6 e7 2 (g8 .u64 a1) 0 false a1 i0
 else
 bif
 !o6 d0 e8 d8 d9 e6 e7 (d1 a1) (d4 a1) (d5 a1) (d6 a1) (d3 a1)
 (d7 a1) then
 ai8 d0 e8 d8 d9 e6 e7
 (F5 d0 e8 d8 d9 e6 e7 (d1 a1) (d4 a1) (d5 a1) (d6 a1) (d3 a1) (d7 a1))
 (g8 .u64 a1) 0 false a1 i0
 else
 bif
 !D8 t al o f d0 e8 d8 d9 e6 e7 (d1 a1) (d4 a1) (d5 a1) (d6 a1) (d3 a1)
 (d7 a1) then
 ai8 d0 e8 d8 d9 e6 e7
 (ae9 t al o f d0 e8 d8 d9 e6 e7 (d1 a1) (d4 a1) (d5 a1) (d6 a1) (d3 a1)
 (d7 a1))
 (ae7 t al o f d0 e8 d8 d9 e6 e7 (d1 a1) (d4 a1) (d5 a1) (d6 a1) (d3 a1)
 (d7 a1))
 (U4 t al o f d0 e8 d8 d9 e6 e7 (d1 a1) (d4 a1) (d5 a1) (d6 a1) (d3 a1)
 (d7 a1))
 (U3 t al o f d0 e8 d8 d9 e6 e7 (d1 a1) (d4 a1) (d5 a1) (d6 a1) (d3 a1)
 (d7 a1))
 a1 i0
 else
 bif iNe (x5 (d1 a1) (d4 a1) (d5 a1) (d6 a1) (d3 a1) (d7 a1)) 0 then
 bA0 t al o f d0 e8 d8 d9 e6 e7 (d1 a1) (d4 a1) (d5 a1) (d6 a1) (d3 a1)
 (d7 a1) i0
 else
 bA0 t al o f d0 e8 d8 d9 e6 e7 (d1 a1) (d4 a1) (d5 a1) (d6 a1) (d3 a1)
 (d7 a1) i0
def exDo6 (t al : Int) (o : Nat → List UInt8) (f d0 : Nat → Int) (e8 d8 : Int) (d9 : Bool) (e6 : Nat → Int) (e7 a1 : Int) : Int :=
 bif iNe (o8 a1) 0 then e7
 else
 bif
 !o6 d0 e8 d8 d9 e6 e7 (d1 a1) (d4 a1) (d5 a1) (d6 a1) (d3 a1)
 (d7 a1) then
 e7
 else
 bif
 !D8 t al o f d0 e8 d8 d9 e6 e7 (d1 a1) (d4 a1) (d5 a1) (d6 a1) (d3 a1)
 (d7 a1) then
 e7
 else
 iAdd .u64
 (bz1 t al o f d0 e8 d8 d9 e6 e7 (d1 a1) (d4 a1) (d5 a1) (d6 a1) (d3 a1)
 (d7 a1))
 1
def exDo6r (t al : Int) (o : Nat → List UInt8) (f d0 : Nat → Int) (e8 d8 : Int) (d9 : Bool) (e6 : Nat → Int) (e7 a1 : Int) : Int :=
 bif iNe (o8 a1) 0 then e7
 else
 bif
 !o6 d0 e8 d8 d9 e6 e7 (d1 a1) (d4 a1) (d5 a1) (d6 a1) (d3 a1)
 (d7 a1) then
 e7
 else
 bif
 !D8 t al o f d0 e8 d8 d9 e6 e7 (d1 a1) (d4 a1) (d5 a1) (d6 a1) (d3 a1)
 (d7 a1) then
 e7
 else
 bif iNe (x5 (d1 a1) (d4 a1) (d5 a1) (d6 a1) (d3 a1) (d7 a1)) 0 then
 iAdd .u64
 (bz1 t al o f d0 e8 d8 d9 e6 e7 (d1 a1) (d4 a1) (d5 a1) (d6 a1) (d3 a1)
 (d7 a1))
 1
 else
 iAdd .u64
 (bz1 t al o f d0 e8 d8 d9 e6 e7 (d1 a1) (d4 a1) (d5 a1) (d6 a1) (d3 a1)
 (d7 a1))
 1
def exDo7r (t al : Int) (o : Nat → List UInt8) (f d0 : Nat → Int) (e8 d8 : Int) (d9 : Bool) (e6 : Nat → Int) (e7 a1 : Int) : Int :=
 bif iNe (o8 a1) 0 then e8
 else
 bif
 !o6 d0 e8 d8 d9 e6 e7 (d1 a1) (d4 a1) (d5 a1) (d6 a1) (d3 a1)
 (d7 a1) then
 e8
 else
 bif
 !D8 t al o f d0 e8 d8 d9 e6 e7 (d1 a1) (d4 a1) (d5 a1) (d6 a1) (d3 a1)
 (d7 a1) then
 e8
 else bif iNe (x5 (d1 a1) (d4 a1) (d5 a1) (d6 a1) (d3 a1) (d7 a1)) 0 then e8 else e8
def exDo8r (t al : Int) (o : Nat → List UInt8) (f d0 : Nat → Int) (e8 d8 : Int) (d9 : Bool) (e6 : Nat → Int) (e7 a1 : Int) : Int :=
 bif iNe (o8 a1) 0 then a1
 else
 bif
 !o6 d0 e8 d8 d9 e6 e7 (d1 a1) (d4 a1) (d5 a1) (d6 a1) (d3 a1)
 (d7 a1) then
 a1
 else
 bif
 !D8 t al o f d0 e8 d8 d9 e6 e7 (d1 a1) (d4 a1) (d5 a1) (d6 a1) (d3 a1)
 (d7 a1) then
 a1
 else bif iNe (x5 (d1 a1) (d4 a1) (d5 a1) (d6 a1) (d3 a1) (d7 a1)) 0 then a1 else a1
def exDo9 (t al : Int) (o : Nat → List UInt8) (f d0 : Nat → Int) (e8 d8 : Int) (d9 : Bool) (e6 : Nat → Int) (e7 a1 : Int) : Int :=
 bif iNe (o8 a1) 0 then 0
 else
 bif
 !o6 d0 e8 d8 d9 e6 e7 (d1 a1) (d4 a1) (d5 a1) (d6 a1) (d3 a1)
 (d7 a1) then
 0
 else
 bif
 !D8 t al o f d0 e8 d8 d9 e6 e7 (d1 a1) (d4 a1) (d5 a1) (d6 a1) (d3 a1)
 (d7 a1) then
 0
 else
 bif iNe (x5 (d1 a1) (d4 a1) (d5 a1) (d6 a1) (d3 a1) (d7 a1)) 0 then
 x5 (d1 a1) (d4 a1) (d5 a1) (d6 a1) (d3 a1) (d7 a1)
 else 0
def cV6 (t al : Int) (o : Nat → List UInt8) (f d0 : Nat → Int) (e8 d8 : Int) (d9 : Bool) (e6 : Nat → Int) (e7 a1 : Int) : Int :=
 bif iNe (o8 a1) 0 then 0
 else
 bif
 !o6 d0 e8 d8 d9 e6 e7 (d1 a1) (d4 a1) (d5 a1) (d6 a1) (d3 a1)
 (d7 a1) then
 0
 else
 bif
 !D8 t al o f d0 e8 d8 d9 e6 e7 (d1 a1) (d4 a1) (d5 a1) (d6 a1) (d3 a1)
 (d7 a1) then
 0
 else
 bif iNe (x5 (d1 a1) (d4 a1) (d5 a1) (d6 a1) (d3 a1) (d7 a1)) 0 then
 bP8 t al o f d0 e8 d8 d9 e6 e7 (d1 a1) (d4 a1) (d5 a1) (d6 a1) (d3 a1)
 (d7 a1)
 else 0
def dc0 (t al : Int) (o : Nat → List UInt8) (f d0 : Nat → Int) (e8 d8 : Int) (d9 : Bool) (e6 : Nat → Int) (e7 a1 : Int) : Bool :=
 bif iNe (o8 a1) 0 then true
 else
 bif
 !o6 d0 e8 d8 d9 e6 e7 (d1 a1) (d4 a1) (d5 a1) (d6 a1) (d3 a1)
 (d7 a1) then
 true
 else
 !D8 t al o f d0 e8 d8 d9 e6 e7 (d1 a1) (d4 a1) (d5 a1) (d6 a1) (d3 a1)
 (d7 a1)
def exDo11r (t al : Int) (o : Nat → List UInt8) (f d0 : Nat → Int) (e8 d8 : Int) (d9 : Bool) (e6 : Nat → Int) (e7 a1 : Int) : Bool :=
 bif iNe (o8 a1) 0 then true
 else
 bif
 !o6 d0 e8 d8 d9 e6 e7 (d1 a1) (d4 a1) (d5 a1) (d6 a1) (d3 a1)
 (d7 a1) then
 true
 else
 bif
 !D8 t al o f d0 e8 d8 d9 e6 e7 (d1 a1) (d4 a1) (d5 a1) (d6 a1) (d3 a1)
 (d7 a1) then
 true
 else bif iNe (x5 (d1 a1) (d4 a1) (d5 a1) (d6 a1) (d3 a1) (d7 a1)) 0 then false else false
def cY5 (t al : Int) (o : Nat → List UInt8) (f d0 : Nat → Int) (e8 d8 : Int) (d9 : Bool) (e6 : Nat → Int) (e7 a1 : Int) : Int :=
 bif iNe (o8 a1) 0 then 2
 else
 bif
 !o6 d0 e8 d8 d9 e6 e7 (d1 a1) (d4 a1) (d5 a1) (d6 a1) (d3 a1)
 (d7 a1) then
 F5 d0 e8 d8 d9 e6 e7 (d1 a1) (d4 a1) (d5 a1) (d6 a1) (d3 a1) (d7 a1)
 else
 bif
 !D8 t al o f d0 e8 d8 d9 e6 e7 (d1 a1) (d4 a1) (d5 a1) (d6 a1) (d3 a1)
 (d7 a1) then
 ae9 t al o f d0 e8 d8 d9 e6 e7 (d1 a1) (d4 a1) (d5 a1) (d6 a1) (d3 a1)
 (d7 a1)
 else 0
def exDo12r (t al : Int) (o : Nat → List UInt8) (f d0 : Nat → Int) (e8 d8 : Int) (d9 : Bool) (e6 : Nat → Int) (e7 a1 : Int) : Int :=
 bif iNe (o8 a1) 0 then 2
 else
 bif
 !o6 d0 e8 d8 d9 e6 e7 (d1 a1) (d4 a1) (d5 a1) (d6 a1) (d3 a1)
 (d7 a1) then
 F5 d0 e8 d8 d9 e6 e7 (d1 a1) (d4 a1) (d5 a1) (d6 a1) (d3 a1) (d7 a1)
 else
 bif
 !D8 t al o f d0 e8 d8 d9 e6 e7 (d1 a1) (d4 a1) (d5 a1) (d6 a1) (d3 a1)
 (d7 a1) then
 ae9 t al o f d0 e8 d8 d9 e6 e7 (d1 a1) (d4 a1) (d5 a1) (d6 a1) (d3 a1)
 (d7 a1)
 else bif iNe (x5 (d1 a1) (d4 a1) (d5 a1) (d6 a1) (d3 a1) (d7 a1)) 0 then 0 else 0
def cU1 (t al : Int) (o : Nat → List UInt8) (f d0 : Nat → Int) (e8 d8 : Int) (d9 : Bool) (e6 : Nat → Int) (e7 a1 : Int) : Int :=
 bif iNe (o8 a1) 0 then g8 .u64 a1
 else
 bif
 !o6 d0 e8 d8 d9 e6 e7 (d1 a1) (d4 a1) (d5 a1) (d6 a1) (d3 a1)
 (d7 a1) then
 g8 .u64 a1
 else
 bif
 !D8 t al o f d0 e8 d8 d9 e6 e7 (d1 a1) (d4 a1) (d5 a1) (d6 a1) (d3 a1)
 (d7 a1) then
 ae7 t al o f d0 e8 d8 d9 e6 e7 (d1 a1) (d4 a1) (d5 a1) (d6 a1) (d3 a1)
 (d7 a1)
 else 0
def exDo13r (t al : Int) (o : Nat → List UInt8) (f d0 : Nat → Int) (e8 d8 : Int) (d9 : Bool) (e6 : Nat → Int) (e7 a1 : Int) : Int :=
 bif iNe (o8 a1) 0 then g8 .u64 a1
 else
 bif
 !o6 d0 e8 d8 d9 e6 e7 (d1 a1) (d4 a1) (d5 a1) (d6 a1) (d3 a1)
 (d7 a1) then
 g8 .u64 a1
 else
 bif
 !D8 t al o f d0 e8 d8 d9 e6 e7 (d1 a1) (d4 a1) (d5 a1) (d6 a1) (d3 a1)
 (d7 a1) then
 ae7 t al o f d0 e8 d8 d9 e6 e7 (d1 a1) (d4 a1) (d5 a1) (d6 a1) (d3 a1)
 (d7 a1)
 else bif iNe (x5 (d1 a1) (d4 a1) (d5 a1) (d6 a1) (d3 a1) (d7 a1)) 0 then 0 else 0
def cV2 (t al : Int) (o : Nat → List UInt8) (f d0 : Nat → Int) (e8 d8 : Int) (d9 : Bool) (e6 : Nat → Int) (e7 a1 : Int) : Int :=
 bif iNe (o8 a1) 0 then 0
 else
 bif
 !o6 d0 e8 d8 d9 e6 e7 (d1 a1) (d4 a1) (d5 a1) (d6 a1) (d3 a1)
 (d7 a1) then
 0
 else
 bif
 !D8 t al o f d0 e8 d8 d9 e6 e7 (d1 a1) (d4 a1) (d5 a1) (d6 a1) (d3 a1)
 (d7 a1) then
 U4 t al o f d0 e8 d8 d9 e6 e7 (d1 a1) (d4 a1) (d5 a1) (d6 a1) (d3 a1)
 (d7 a1)
 else 0
def exDo14r (t al : Int) (o : Nat → List UInt8) (f d0 : Nat → Int) (e8 d8 : Int) (d9 : Bool) (e6 : Nat → Int) (e7 a1 : Int) : Int :=
 bif iNe (o8 a1) 0 then 0
 else
 bif
 !o6 d0 e8 d8 d9 e6 e7 (d1 a1) (d4 a1) (d5 a1) (d6 a1) (d3 a1)
 (d7 a1) then
 0
 else
 bif
 !D8 t al o f d0 e8 d8 d9 e6 e7 (d1 a1) (d4 a1) (d5 a1) (d6 a1) (d3 a1)
 (d7 a1) then
 U4 t al o f d0 e8 d8 d9 e6 e7 (d1 a1) (d4 a1) (d5 a1) (d6 a1) (d3 a1)
 (d7 a1)
 else bif iNe (x5 (d1 a1) (d4 a1) (d5 a1) (d6 a1) (d3 a1) (d7 a1)) 0 then 0 else 0
def cN5 (t al : Int) (o : Nat → List UInt8) (f d0 : Nat → Int) (e8 d8 : Int) (d9 : Bool) (e6 : Nat → Int) (e7 a1 : Int) : Bool :=
 bif iNe (o8 a1) 0 then false
 else
 bif
 !o6 d0 e8 d8 d9 e6 e7 (d1 a1) (d4 a1) (d5 a1) (d6 a1) (d3 a1)
 (d7 a1) then
 false
 else
 bif
 !D8 t al o f d0 e8 d8 d9 e6 e7 (d1 a1) (d4 a1) (d5 a1) (d6 a1) (d3 a1)
 (d7 a1) then
 U3 t al o f d0 e8 d8 d9 e6 e7 (d1 a1) (d4 a1) (d5 a1) (d6 a1) (d3 a1)
 (d7 a1)
 else false
def exDo15r (t al : Int) (o : Nat → List UInt8) (f d0 : Nat → Int) (e8 d8 : Int) (d9 : Bool) (e6 : Nat → Int) (e7 a1 : Int) : Bool :=
 bif iNe (o8 a1) 0 then false
 else
 bif
 !o6 d0 e8 d8 d9 e6 e7 (d1 a1) (d4 a1) (d5 a1) (d6 a1) (d3 a1)
 (d7 a1) then
 false
 else
 bif
 !D8 t al o f d0 e8 d8 d9 e6 e7 (d1 a1) (d4 a1) (d5 a1) (d6 a1) (d3 a1)
 (d7 a1) then
 U3 t al o f d0 e8 d8 d9 e6 e7 (d1 a1) (d4 a1) (d5 a1) (d6 a1) (d3 a1)
 (d7 a1)
 else bif iNe (x5 (d1 a1) (d4 a1) (d5 a1) (d6 a1) (d3 a1) (d7 a1)) 0 then false else false
def cT9 (t al : Int) (o : Nat → List UInt8) (f d0 : Nat → Int) (e8 d8 : Int) (d9 : Bool) (e6 : Nat → Int) (e7 a1 : Int) : Int :=
 bif iNe (o8 a1) 0 then ag3 d0 e8 d8 d9 e6 e7 2 (g8 .u64 a1) 0 false a1
 else
 bif
 !o6 d0 e8 d8 d9 e6 e7 (d1 a1) (d4 a1) (d5 a1) (d6 a1) (d3 a1)
 (d7 a1) then
 ag3 d0 e8 d8 d9 e6 e7
 (F5 d0 e8 d8 d9 e6 e7 (d1 a1) (d4 a1) (d5 a1) (d6 a1) (d3 a1) (d7 a1))
 (g8 .u64 a1) 0 false a1
 else
 bif
 !D8 t al o f d0 e8 d8 d9 e6 e7 (d1 a1) (d4 a1) (d5 a1) (d6 a1) (d3 a1)
 (d7 a1) then
 ag3 d0 e8 d8 d9 e6 e7
 (ae9 t al o f d0 e8 d8 d9 e6 e7 (d1 a1) (d4 a1) (d5 a1) (d6 a1) (d3 a1)
 (d7 a1))
 (ae7 t al o f d0 e8 d8 d9 e6 e7 (d1 a1) (d4 a1) (d5 a1) (d6 a1) (d3 a1)
 (d7 a1))
 (U4 t al o f d0 e8 d8 d9 e6 e7 (d1 a1) (d4 a1) (d5 a1) (d6 a1) (d3 a1)
 (d7 a1))
 (U3 t al o f d0 e8 d8 d9 e6 e7 (d1 a1) (d4 a1) (d5 a1) (d6 a1) (d3 a1)
 (d7 a1))
 a1
 else 0
def exDo16r (t al : Int) (o : Nat → List UInt8) (f d0 : Nat → Int) (e8 d8 : Int) (d9 : Bool) (e6 : Nat → Int) (e7 a1 : Int) : Int :=
 bif iNe (o8 a1) 0 then ag3 d0 e8 d8 d9 e6 e7 2 (g8 .u64 a1) 0 false a1
 else
 bif
 !o6 d0 e8 d8 d9 e6 e7 (d1 a1) (d4 a1) (d5 a1) (d6 a1) (d3 a1)
 (d7 a1) then
 ag3 d0 e8 d8 d9 e6 e7
 (F5 d0 e8 d8 d9 e6 e7 (d1 a1) (d4 a1) (d5 a1) (d6 a1) (d3 a1) (d7 a1))
 (g8 .u64 a1) 0 false a1
 else
 bif
 !D8 t al o f d0 e8 d8 d9 e6 e7 (d1 a1) (d4 a1) (d5 a1) (d6 a1) (d3 a1)
 (d7 a1) then
 ag3 d0 e8 d8 d9 e6 e7
 (ae9 t al o f d0 e8 d8 d9 e6 e7 (d1 a1) (d4 a1) (d5 a1) (d6 a1) (d3 a1)
 (d7 a1))
 (ae7 t al o f d0 e8 d8 d9 e6 e7 (d1 a1) (d4 a1) (d5 a1) (d6 a1) (d3 a1)
 (d7 a1))
 (U4 t al o f d0 e8 d8 d9 e6 e7 (d1 a1) (d4 a1) (d5 a1) (d6 a1) (d3 a1)
 (d7 a1))
 (U3 t al o f d0 e8 d8 d9 e6 e7 (d1 a1) (d4 a1) (d5 a1) (d6 a1) (d3 a1)
 (d7 a1))
 a1
 else bif iNe (x5 (d1 a1) (d4 a1) (d5 a1) (d6 a1) (d3 a1) (d7 a1)) 0 then 0 else 0
def cT1 (t al : Int) (o : Nat → List UInt8) (f d0 : Nat → Int) (e8 d8 : Int) (d9 : Bool) (e6 : Nat → Int) (e7 a1 : Int) : Bool :=
 bif iNe (o8 a1) 0 then ah1 d0 e8 d8 d9 e6 e7 2 (g8 .u64 a1) 0 false a1
 else
 bif
 !o6 d0 e8 d8 d9 e6 e7 (d1 a1) (d4 a1) (d5 a1) (d6 a1) (d3 a1)
 (d7 a1) then
 ah1 d0 e8 d8 d9 e6 e7
 (F5 d0 e8 d8 d9 e6 e7 (d1 a1) (d4 a1) (d5 a1) (d6 a1) (d3 a1) (d7 a1))
 (g8 .u64 a1) 0 false a1
 else
 bif
 !D8 t al o f d0 e8 d8 d9 e6 e7 (d1 a1) (d4 a1) (d5 a1) (d6 a1) (d3 a1)
 (d7 a1) then
 ah1 d0 e8 d8 d9 e6 e7
 (ae9 t al o f d0 e8 d8 d9 e6 e7 (d1 a1) (d4 a1) (d5 a1) (d6 a1) (d3 a1)
 (d7 a1))
 (ae7 t al o f d0 e8 d8 d9 e6 e7 (d1 a1) (d4 a1) (d5 a1) (d6 a1) (d3 a1)
 (d7 a1))
 (U4 t al o f d0 e8 d8 d9 e6 e7 (d1 a1) (d4 a1) (d5 a1) (d6 a1) (d3 a1)
 (d7 a1))
 (U3 t al o f d0 e8 d8 d9 e6 e7 (d1 a1) (d4 a1) (d5 a1) (d6 a1) (d3 a1)
 (d7 a1))
 a1
 else false
def exDo17r (t al : Int) (o : Nat → List UInt8) (f d0 : Nat → Int) (e8 d8 : Int) (d9 : Bool) (e6 : Nat → Int) (e7 a1 : Int) : Bool :=
 bif iNe (o8 a1) 0 then ah1 d0 e8 d8 d9 e6 e7 2 (g8 .u64 a1) 0 false a1
 else
 bif
 !o6 d0 e8 d8 d9 e6 e7 (d1 a1) (d4 a1) (d5 a1) (d6 a1) (d3 a1)
 (d7 a1) then
 ah1 d0 e8 d8 d9 e6 e7
 (F5 d0 e8 d8 d9 e6 e7 (d1 a1) (d4 a1) (d5 a1) (d6 a1) (d3 a1) (d7 a1))
 (g8 .u64 a1) 0 false a1
 else
 bif
 !D8 t al o f d0 e8 d8 d9 e6 e7 (d1 a1) (d4 a1) (d5 a1) (d6 a1) (d3 a1)
 (d7 a1) then
 ah1 d0 e8 d8 d9 e6 e7
 (ae9 t al o f d0 e8 d8 d9 e6 e7 (d1 a1) (d4 a1) (d5 a1) (d6 a1) (d3 a1)
 (d7 a1))
 (ae7 t al o f d0 e8 d8 d9 e6 e7 (d1 a1) (d4 a1) (d5 a1) (d6 a1) (d3 a1)
 (d7 a1))
 (U4 t al o f d0 e8 d8 d9 e6 e7 (d1 a1) (d4 a1) (d5 a1) (d6 a1) (d3 a1)
 (d7 a1))
 (U3 t al o f d0 e8 d8 d9 e6 e7 (d1 a1) (d4 a1) (d5 a1) (d6 a1) (d3 a1)
 (d7 a1))
 a1
 else bif iNe (x5 (d1 a1) (d4 a1) (d5 a1) (d6 a1) (d3 a1) (d7 a1)) 0 then false else false
def exDo18r (t al : Int) (o : Nat → List UInt8) (f d0 : Nat → Int) (e8 d8 : Int) (d9 : Bool) (e6 : Nat → Int) (e7 a1 : Int) : Bool :=
 bif iNe (o8 a1) 0 then false
 else
 bif
 !o6 d0 e8 d8 d9 e6 e7 (d1 a1) (d4 a1) (d5 a1) (d6 a1) (d3 a1)
 (d7 a1) then
 false
 else
 bif
 !D8 t al o f d0 e8 d8 d9 e6 e7 (d1 a1) (d4 a1) (d5 a1) (d6 a1) (d3 a1)
 (d7 a1) then
 false
 else bif iNe (x5 (d1 a1) (d4 a1) (d5 a1) (d6 a1) (d3 a1) (d7 a1)) 0 then false else false
def exDo19r (t al : Int) (o : Nat → List UInt8) (f d0 : Nat → Int) (e8 d8 : Int) (d9 : Bool) (e6 : Nat → Int) (e7 a1 : Int) : Int :=
 bif iNe (o8 a1) 0 then t
 else
 bif
 !o6 d0 e8 d8 d9 e6 e7 (d1 a1) (d4 a1) (d5 a1) (d6 a1) (d3 a1)
 (d7 a1) then
 t
 else
 bif
 !D8 t al o f d0 e8 d8 d9 e6 e7 (d1 a1) (d4 a1) (d5 a1) (d6 a1) (d3 a1)
 (d7 a1) then
 t
 else bif iNe (x5 (d1 a1) (d4 a1) (d5 a1) (d6 a1) (d3 a1) (d7 a1)) 0 then t else t
def dE7 (t al : Int) (o : Nat → List UInt8) (f d0 : Nat → Int) (e8 d8 : Int) (d9 : Bool) (e6 : Nat → Int) (e7 a1 : Int) : Int :=
 bif iNe (o8 a1) 0 then al
 else
 bif
 !o6 d0 e8 d8 d9 e6 e7 (d1 a1) (d4 a1) (d5 a1) (d6 a1) (d3 a1)
 (d7 a1) then
 al
 else
 aY5 t al o f d0 e8 d8 d9 e6 e7 (d1 a1) (d4 a1) (d5 a1) (d6 a1) (d3 a1)
 (d7 a1)
def exDo20r (t al : Int) (o : Nat → List UInt8) (f d0 : Nat → Int) (e8 d8 : Int) (d9 : Bool) (e6 : Nat → Int) (e7 a1 : Int) : Int :=
 bif iNe (o8 a1) 0 then al
 else
 bif
 !o6 d0 e8 d8 d9 e6 e7 (d1 a1) (d4 a1) (d5 a1) (d6 a1) (d3 a1)
 (d7 a1) then
 al
 else
 bif
 !D8 t al o f d0 e8 d8 d9 e6 e7 (d1 a1) (d4 a1) (d5 a1) (d6 a1) (d3 a1)
 (d7 a1) then
 aY5 t al o f d0 e8 d8 d9 e6 e7 (d1 a1) (d4 a1) (d5 a1) (d6 a1) (d3 a1)
 (d7 a1)
 else
 bif iNe (x5 (d1 a1) (d4 a1) (d5 a1) (d6 a1) (d3 a1) (d7 a1)) 0 then
 aY5 t al o f d0 e8 d8 d9 e6 e7 (d1 a1) (d4 a1) (d5 a1) (d6 a1) (d3 a1)
 (d7 a1)
 else
 aY5 t al o f d0 e8 d8 d9 e6 e7 (d1 a1) (d4 a1) (d5 a1) (d6 a1) (d3 a1)
 (d7 a1)
def dH4 (t al : Int) (o : Nat → List UInt8) (f d0 : Nat → Int) (e8 d8 : Int) (d9 : Bool) (e6 : Nat → Int) (e7 a1 : Int) : Nat → List UInt8 :=
 fun i0 => bif iNe (o8 a1) 0 then o i0
 else
 bif
 !o6 d0 e8 d8 d9 e6 e7 (d1 a1) (d4 a1) (d5 a1) (d6 a1) (d3 a1)
 (d7 a1) then
 o i0
 else
 ba2 t al o f d0 e8 d8 d9 e6 e7 (d1 a1) (d4 a1) (d5 a1) (d6 a1) (d3 a1)
 (d7 a1) i0
def exDo21r (t al : Int) (o : Nat → List UInt8) (f d0 : Nat → Int) (e8 d8 : Int) (d9 : Bool) (e6 : Nat → Int) (e7 a1 : Int) : Nat → List UInt8 :=
 fun i0 => bif iNe (o8 a1) 0 then o i0
 else
 bif
 !o6 d0 e8 d8 d9 e6 e7 (d1 a1) (d4 a1) (d5 a1) (d6 a1) (d3 a1)
 (d7 a1) then
 o i0
 else
 bif
 !D8 t al o f d0 e8 d8 d9 e6 e7 (d1 a1) (d4 a1) (d5 a1) (d6 a1) (d3 a1)
 (d7 a1) then
 ba2 t al o f d0 e8 d8 d9 e6 e7 (d1 a1) (d4 a1) (d5 a1) (d6 a1) (d3 a1)
 (d7 a1) i0
 else
 bif iNe (x5 (d1 a1) (d4 a1) (d5 a1) (d6 a1) (d3 a1) (d7 a1)) 0 then
 ba2 t al o f d0 e8 d8 d9 e6 e7 (d1 a1) (d4 a1) (d5 a1) (d6 a1) (d3 a1)
 (d7 a1) i0
 else
 ba2 t al o f d0 e8 d8 d9 e6 e7 (d1 a1) (d4 a1) (d5 a1) (d6 a1) (d3 a1)
 (d7 a1) i0
def dB6 (t al : Int) (o : Nat → List UInt8) (f d0 : Nat → Int) (e8 d8 : Int) (d9 : Bool) (e6 : Nat → Int) (e7 a1 : Int) : Nat → Int :=
 fun i0 => bif iNe (o8 a1) 0 then f i0
 else
 bif
 !o6 d0 e8 d8 d9 e6 e7 (d1 a1) (d4 a1) (d5 a1) (d6 a1) (d3 a1)
 (d7 a1) then
 f i0
 else
 aW1 t al o f d0 e8 d8 d9 e6 e7 (d1 a1) (d4 a1) (d5 a1) (d6 a1) (d3 a1)
 (d7 a1) i0
def exDo22r (t al : Int) (o : Nat → List UInt8) (f d0 : Nat → Int) (e8 d8 : Int) (d9 : Bool) (e6 : Nat → Int) (e7 a1 : Int) : Nat → Int :=
 fun i0 => bif iNe (o8 a1) 0 then f i0
 else
 bif
 !o6 d0 e8 d8 d9 e6 e7 (d1 a1) (d4 a1) (d5 a1) (d6 a1) (d3 a1)
 (d7 a1) then
 f i0
 else
 bif
 !D8 t al o f d0 e8 d8 d9 e6 e7 (d1 a1) (d4 a1) (d5 a1) (d6 a1) (d3 a1)
 (d7 a1) then
 aW1 t al o f d0 e8 d8 d9 e6 e7 (d1 a1) (d4 a1) (d5 a1) (d6 a1) (d3 a1)
 (d7 a1) i0
 else
 bif iNe (x5 (d1 a1) (d4 a1) (d5 a1) (d6 a1) (d3 a1) (d7 a1)) 0 then
 aW1 t al o f d0 e8 d8 d9 e6 e7 (d1 a1) (d4 a1) (d5 a1) (d6 a1) (d3 a1)
 (d7 a1) i0
 else
 aW1 t al o f d0 e8 d8 d9 e6 e7 (d1 a1) (d4 a1) (d5 a1) (d6 a1) (d3 a1)
 (d7 a1) i0
def dy0 (t al : Int) (o : Nat → List UInt8) (f d0 : Nat → Int) (e8 d8 : Int) (d9 : Bool) (e6 : Nat → Int) (e7 a1 : Int) : Bool :=
 bif iNe (o8 a1) 0 then true
 else
 bif
 !o6 d0 e8 d8 d9 e6 e7 (d1 a1) (d4 a1) (d5 a1) (d6 a1) (d3 a1)
 (d7 a1) then
 true
 else
 bu5 t al o f d0 e8 d8 d9 e6 e7 (d1 a1) (d4 a1) (d5 a1) (d6 a1) (d3 a1)
 (d7 a1) &&
 bif
 !D8 t al o f d0 e8 d8 d9 e6 e7 (d1 a1) (d4 a1) (d5 a1) (d6 a1) (d3 a1)
 (d7 a1) then
 true
 else
 bif iNe (x5 (d1 a1) (d4 a1) (d5 a1) (d6 a1) (d3 a1) (d7 a1)) 0 then
 iIn (x5 (d1 a1) (d4 a1) (d5 a1) (d6 a1) (d3 a1) (d7 a1)) 32 && true
 else true
def cO1 (t al : Int) (o : Nat → List UInt8) (f d0 : Nat → Int) (e8 d8 : Int) (d9 : Bool) (e6 : Nat → Int) (e7 a1 : Int) : AV := .tup [.it .i64 0, .tup [.agg [.arr 32 (.int .u64) fun i0 => .it .u64 (exDo1 t al o f d0 e8 d8 d9 e6 e7 a1 i0), .it .u64 (exDo2 t al o f d0 e8 d8 d9 e6 e7 a1), .it .i64 (exDo3 t al o f d0 e8 d8 d9 e6 e7 a1), .bl (exDo4 t al o f d0 e8 d8 d9 e6 e7 a1), .arr 29 (.int .u64) fun i0 => .it .u64 (exDo5 t al o f d0 e8 d8 d9 e6 e7 a1 i0), .it .u64 (exDo6 t al o f d0 e8 d8 d9 e6 e7 a1)], .agg [.it .u64 (e8), .it .u32 a1, .it .i64 (exDo9 t al o f d0 e8 d8 d9 e6 e7 a1), .it .u64 (cV6 t al o f d0 e8 d8 d9 e6 e7 a1), .bl (dc0 t al o f d0 e8 d8 d9 e6 e7 a1), .agg [.it .u64 (cY5 t al o f d0 e8 d8 d9 e6 e7 a1), .it .u64 (cU1 t al o f d0 e8 d8 d9 e6 e7 a1), .it .u64 (cV2 t al o f d0 e8 d8 d9 e6 e7 a1), .bl (cN5 t al o f d0 e8 d8 d9 e6 e7 a1)], .it .i64 (cT9 t al o f d0 e8 d8 d9 e6 e7 a1), .bl (cT1 t al o f d0 e8 d8 d9 e6 e7 a1), .bl false]], .agg [.it .u64 t, .it .u64 (dE7 t al o f d0 e8 d8 d9 e6 e7 a1), .arr 4 .str fun i0 => .st (dH4 t al o f d0 e8 d8 d9 e6 e7 a1 i0)], .arr 32768 (.int .u8) fun i0 => .it .u8 (dB6 t al o f d0 e8 d8 d9 e6 e7 a1 i0)]
def exDoVr (t al : Int) (o : Nat → List UInt8) (f d0 : Nat → Int) (e8 d8 : Int) (d9 : Bool) (e6 : Nat → Int) (e7 a1 : Int) : AV := .tup [.it .i64 (exDo0r t al o f d0 e8 d8 d9 e6 e7 a1), .tup [.agg [.arr 32 (.int .u64) fun i0 => .it .u64 (exDo1 t al o f d0 e8 d8 d9 e6 e7 a1 i0), .it .u64 (exDo2r t al o f d0 e8 d8 d9 e6 e7 a1), .it .i64 (exDo3r t al o f d0 e8 d8 d9 e6 e7 a1), .bl (exDo4r t al o f d0 e8 d8 d9 e6 e7 a1), .arr 29 (.int .u64) fun i0 => .it .u64 (exDo5r t al o f d0 e8 d8 d9 e6 e7 a1 i0), .it .u64 (exDo6r t al o f d0 e8 d8 d9 e6 e7 a1)], .agg [.it .u64 (exDo7r t al o f d0 e8 d8 d9 e6 e7 a1), .it .u32 (exDo8r t al o f d0 e8 d8 d9 e6 e7 a1), .it .i64 (exDo9 t al o f d0 e8 d8 d9 e6 e7 a1), .it .u64 (cV6 t al o f d0 e8 d8 d9 e6 e7 a1), .bl (exDo11r t al o f d0 e8 d8 d9 e6 e7 a1), .agg [.it .u64 (exDo12r t al o f d0 e8 d8 d9 e6 e7 a1), .it .u64 (exDo13r t al o f d0 e8 d8 d9 e6 e7 a1), .it .u64 (exDo14r t al o f d0 e8 d8 d9 e6 e7 a1), .bl (exDo15r t al o f d0 e8 d8 d9 e6 e7 a1)], .it .i64 (exDo16r t al o f d0 e8 d8 d9 e6 e7 a1), .bl (exDo17r t al o f d0 e8 d8 d9 e6 e7 a1), .bl (exDo18r t al o f d0 e8 d8 d9 e6 e7 a1)]], .agg [.it .u64 (exDo19r t al o f d0 e8 d8 d9 e6 e7 a1), .it .u64 (exDo20r t al o f d0 e8 d8 d9 e6 e7 a1), .arr 4 .str fun i0 => .st (exDo21r t al o f d0 e8 d8 d9 e6 e7 a1 i0)], .arr 32768 (.int .u8) fun i0 => .it .u8 (exDo22r t al o f d0 e8 d8 d9 e6 e7 a1 i0)]
theorem exDoV_eq (t al : Int) (o : Nat → List UInt8) (f d0 : Nat → Int) (e8 d8 : Int) (d9 : Bool) (e6 : Nat → Int) (e7 a1 : Int) : exDoVr t al o f d0 e8 d8 d9 e6 e7 a1 = cO1 t al o f d0 e8 d8 d9 e6 e7 a1 := by
  unfold exDoVr cO1 exDo0r exDo2r exDo2 exDo3r exDo3 exDo4r exDo4 exDo5r exDo5 exDo6r exDo6 exDo7r exDo8r exDo11r dc0 exDo12r cY5 exDo13r cU1 exDo14r cV2 exDo15r cN5 exDo16r cT9 exDo17r cT1 exDo18r exDo19r exDo20r dE7 exDo21r dH4 exDo22r dB6
  first | (simp only [cS1, cS2, cS3, cS4, cS6, cS7]; done) | (simp only [cS1, cS2, cS3, cS4, cS6, cS7]; kernel_rfl)
theorem exDoE (t al : Int) (o : Nat → List UInt8) (f d0 : Nat → Int) (e8 d8 : Int) (d9 : Bool) (e6 : Nat → Int) (e7 a1 : Int) : evFn Tryz.prog okT (m5 bq9) (hGr [] (hMem [(142, bB7)] NOH)) ROs NOV 101 false Tryz.f83 [.pt 0 [] J6, .agg [.arr 32 (.int .u64) fun i => .it .u64 (d0 i), .it .u64 e8, .it .i64 d8, .bl d9, .arr 29 (.int .u64) fun i => .it .u64 (e6 i), .it .u64 e7], .it .u32 a1] (bi2 ⟨t, al, o, f⟩ 2) (finQ busL) = some (dy0 t al o f d0 e8 d8 d9 e6 e7 a1, cO1 t al o f d0 e8 d8 d9 e6 e7 a1) :=
 (by kernel_rfl : _ = some (dy0 t al o f d0 e8 d8 d9 e6 e7 a1, exDoVr t al o f d0 e8 d8 d9 e6 e7 a1)).trans (by rw [exDoV_eq])
noncomputable def aY0 : MRow := aL0 [sh5Q, (.int .u32)] (some fun g S => dy0 S.t S.a S.o S.f (fun i => (((g 0).fld 0).ix i).num) ((g 0).fld 1).num ((g 0).fld 2).num ((g 0).fld 3).bool (fun i => (((g 0).fld 4).ix i).num) ((g 0).fld 5).num (g 1).num) (fun g S => Y1 (cO1 S.t S.a S.o S.f (fun i => (((g 0).fld 0).ix i).num) ((g 0).fld 1).num ((g 0).fld 2).num ((g 0).fld 3).bool (fun i => (((g 0).fld 4).ix i).num) ((g 0).fld 5).num (g 1).num) 1) (fun g S => ⟨tmOf (Y1 (cO1 S.t S.a S.o S.f (fun i => (((g 0).fld 0).ix i).num) ((g 0).fld 1).num ((g 0).fld 2).num ((g 0).fld 3).bool (fun i => (((g 0).fld 4).ix i).num) ((g 0).fld 5).num (g 1).num) 2), alOf (Y1 (cO1 S.t S.a S.o S.f (fun i => (((g 0).fld 0).ix i).num) ((g 0).fld 1).num ((g 0).fld 2).num ((g 0).fld 3).bool (fun i => (((g 0).fld 4).ix i).num) ((g 0).fld 5).num (g 1).num) 2), oOf (Y1 (cO1 S.t S.a S.o S.f (fun i => (((g 0).fld 0).ix i).num) ((g 0).fld 1).num ((g 0).fld 2).num ((g 0).fld 3).bool (fun i => (((g 0).fld 4).ix i).num) ((g 0).fld 5).num (g 1).num) 2), fOf (Y1 (cO1 S.t S.a S.o S.f (fun i => (((g 0).fld 0).ix i).num) ((g 0).fld 1).num ((g 0).fld 2).num ((g 0).fld 3).bool (fun i => (((g 0).fld 4).ix i).num) ((g 0).fld 5).num (g 1).num) 3)⟩)
theorem cx8 : aa3 Tryz.prog 83 aY0 := aJ1 ⟨Tryz.func83, of_decide_eq_true (by kernel_rfl)⟩ (au3 (ap2 E9 (show MOk Tryz.prog [(142, bB7)] from ⟨cQ6, trivial⟩)) (show GOk Tryz.prog [] from trivial)) ac2 rfl (fun _ _ => ⟨rfl, rfl, rfl⟩) (G := fun g S => dy0 S.t S.a S.o S.f (fun i => (((g 0).fld 0).ix i).num) ((g 0).fld 1).num ((g 0).fld 2).num ((g 0).fld 3).bool (fun i => (((g 0).fld 4).ix i).num) ((g 0).fld 5).num (g 1).num) (fun g S => exDoE S.t S.a S.o S.f (fun i => (((g 0).fld 0).ix i).num) ((g 0).fld 1).num ((g 0).fld 2).num ((g 0).fld 3).bool (fun i => (((g 0).fld 4).ix i).num) ((g 0).fld 5).num (g 1).num) (fun g S hp hS hc => hc _ rfl)
end
end Go.Proofs.YtbkdnehnhbaieaaGreat.PV
set_option linter.unusedVariables false
set_option linter.unusedSimpArgs false
namespace Go.Proofs.YtbkdnehnhbaieaaGreat.PV
noncomputable section
open Go Go.Ev
def bq7 : Sh := .agg [.arr 32 (.int .u64), .int .u64, .int .i64, .bool, .arr 29 (.int .u64), .int .u64]
def stA (x : Nat → Int) (pc l : Int) (v : Bool) (c : Nat → Int) (d : Int) : AV := .agg [.arr 32 (.int .u64) fun i => .it .u64 (x i), .it .u64 pc, .it .i64 l, .bl v, .arr 29 (.int .u64) fun i => .it .u64 (c i), .it .u64 d]
def cs0 : Sh := .agg [bq7, .ref, .agg [.agg [], .agg [], .int .i64]]
def isaA (s : AV) (n : Int) : AV := .agg [s, .pt 1 [] J6, .agg [.agg [], .agg [], .it .i64 n]]
def isaM (s : AV) (n : Int) (S : BusS) : Mem := { n := 5, t := (((Tr.mk 12).set (some (.cells (isaA s n) true)) 0).set (some (.obj 1 (busA S.t S.a S.o) [.pt 2 [] E5] 3)) 1).set (some (.obj 0 (byA 32768 S.f) [] 4)) 2 }
def isaL : Lq := { n := 1, n0 := 5, ts := [0], mv := [], ids := [(0, .ce true), (1, .ob 1 [(2, E5)]), (2, .ob 0 [])] }
def da7 (t al : Int) (o : Nat → List UInt8) (f x : Nat → Int) (pc lv : Int) (v : Bool) (c : Nat → Int) (d n : Int) (line : Bool) : Int :=
 bif r4 x pc lv v c d (iLe al d) line then 0 else bif !H6 d al o f x pc lv v c d then 0 else 0
def dc1 (t al : Int) (o : Nat → List UInt8) (f x : Nat → Int) (pc lv : Int) (v : Bool) (c : Nat → Int) (d n : Int) (line : Bool) : Int :=
 bif r4 x pc lv v c d (iLe al d) line then pc else bif !H6 d al o f x pc lv v c d then pc else pc
def bZ8 (t al : Int) (o : Nat → List UInt8) (f x : Nat → Int) (pc lv : Int) (v : Bool) (c : Nat → Int) (d n : Int) (line : Bool) : Int :=
 bif r4 x pc lv v c d (iLe al d) line then 0
 else bif !H6 d al o f x pc lv v c d then 0 else O5 d al o f x pc lv v c d
def bY7 (t al : Int) (o : Nat → List UInt8) (f x : Nat → Int) (pc lv : Int) (v : Bool) (c : Nat → Int) (d n : Int) (line : Bool) : Int :=
 bif r4 x pc lv v c d (iLe al d) line then 0
 else
 bif !H6 d al o f x pc lv v c d then 0
 else
 exDo9 d (O6 d al o f x pc lv v c d) (O0 d al o f x pc lv v c d)
 (O3 d al o f x pc lv v c d) x pc lv v c d (O5 d al o f x pc lv v c d)
def bX8 (t al : Int) (o : Nat → List UInt8) (f x : Nat → Int) (pc lv : Int) (v : Bool) (c : Nat → Int) (d n : Int) (line : Bool) : Int :=
 bif r4 x pc lv v c d (iLe al d) line then 0
 else
 bif !H6 d al o f x pc lv v c d then 0
 else
 cV6 d (O6 d al o f x pc lv v c d) (O0 d al o f x pc lv v c d)
 (O3 d al o f x pc lv v c d) x pc lv v c d (O5 d al o f x pc lv v c d)
def bX7 (t al : Int) (o : Nat → List UInt8) (f x : Nat → Int) (pc lv : Int) (v : Bool) (c : Nat → Int) (d n : Int) (line : Bool) : Bool :=
 bif r4 x pc lv v c d (iLe al d) line then true
 else
 bif !H6 d al o f x pc lv v c d then true
 else
 dc0 d (O6 d al o f x pc lv v c d) (O0 d al o f x pc lv v c d)
 (O3 d al o f x pc lv v c d) x pc lv v c d (O5 d al o f x pc lv v c d)
def bY1 (t al : Int) (o : Nat → List UInt8) (f x : Nat → Int) (pc lv : Int) (v : Bool) (c : Nat → Int) (d n : Int) (line : Bool) : Int :=
 bif r4 x pc lv v c d (iLe al d) line then H4 x pc lv v c d (iLe al d) line
 else
 bif !H6 d al o f x pc lv v c d then aF2 d al o f x pc lv v c d
 else
 cY5 d (O6 d al o f x pc lv v c d) (O0 d al o f x pc lv v c d)
 (O3 d al o f x pc lv v c d) x pc lv v c d (O5 d al o f x pc lv v c d)
def ca3 (t al : Int) (o : Nat → List UInt8) (f x : Nat → Int) (pc lv : Int) (v : Bool) (c : Nat → Int) (d n : Int) (line : Bool) : Int :=
 bif r4 x pc lv v c d (iLe al d) line then 0
 else
 bif !H6 d al o f x pc lv v c d then aG1 d al o f x pc lv v c d
 else
 cU1 d (O6 d al o f x pc lv v c d) (O0 d al o f x pc lv v c d)
 (O3 d al o f x pc lv v c d) x pc lv v c d (O5 d al o f x pc lv v c d)
def bY0 (t al : Int) (o : Nat → List UInt8) (f x : Nat → Int) (pc lv : Int) (v : Bool) (c : Nat → Int) (d n : Int) (line : Bool) : Int :=
 bif r4 x pc lv v c d (iLe al d) line then 0
 else
 bif !H6 d al o f x pc lv v c d then aF7 d al o f x pc lv v c d
 else
 cV2 d (O6 d al o f x pc lv v c d) (O0 d al o f x pc lv v c d)
 (O3 d al o f x pc lv v c d) x pc lv v c d (O5 d al o f x pc lv v c d)
def ca6 (t al : Int) (o : Nat → List UInt8) (f x : Nat → Int) (pc lv : Int) (v : Bool) (c : Nat → Int) (d n : Int) (line : Bool) : Bool :=
 bif r4 x pc lv v c d (iLe al d) line then false
 else
 bif !H6 d al o f x pc lv v c d then aG2 d al o f x pc lv v c d
 else
 cN5 d (O6 d al o f x pc lv v c d) (O0 d al o f x pc lv v c d)
 (O3 d al o f x pc lv v c d) x pc lv v c d (O5 d al o f x pc lv v c d)
def bF7 (t al : Int) (o : Nat → List UInt8) (f x : Nat → Int) (pc lv : Int) (v : Bool) (c : Nat → Int) (d n : Int) (line : Bool) : Int :=
 bif r4 x pc lv v c d (iLe al d) line then S2 x pc lv v c d (iLe al d) line
 else
 bif !H6 d al o f x pc lv v c d then
 ag3 x pc lv v c d (aF2 d al o f x pc lv v c d) (aG1 d al o f x pc lv v c d)
 (aF7 d al o f x pc lv v c d) (aG2 d al o f x pc lv v c d) 0
 else
 cT9 d (O6 d al o f x pc lv v c d) (O0 d al o f x pc lv v c d)
 (O3 d al o f x pc lv v c d) x pc lv v c d (O5 d al o f x pc lv v c d)
def bC7 (t al : Int) (o : Nat → List UInt8) (f x : Nat → Int) (pc lv : Int) (v : Bool) (c : Nat → Int) (d n : Int) (line : Bool) : Bool :=
 bif r4 x pc lv v c d (iLe al d) line then S3 x pc lv v c d (iLe al d) line
 else
 bif !H6 d al o f x pc lv v c d then
 ah1 x pc lv v c d (aF2 d al o f x pc lv v c d) (aG1 d al o f x pc lv v c d)
 (aF7 d al o f x pc lv v c d) (aG2 d al o f x pc lv v c d) 0
 else
 cT1 d (O6 d al o f x pc lv v c d) (O0 d al o f x pc lv v c d)
 (O3 d al o f x pc lv v c d) x pc lv v c d (O5 d al o f x pc lv v c d)
def cw3 (t al : Int) (o : Nat → List UInt8) (f x : Nat → Int) (pc lv : Int) (v : Bool) (c : Nat → Int) (d n : Int) (line : Bool) : Bool :=
 bif r4 x pc lv v c d (iLe al d) line then line else bif !H6 d al o f x pc lv v c d then line else line
def bC6 (t al : Int) (o : Nat → List UInt8) (f x : Nat → Int) (pc lv : Int) (v : Bool) (c : Nat → Int) (d n : Int) (line : Bool) : Nat → Int :=
 fun i0 => bif r4 x pc lv v c d (iLe al d) line then x i0
 else
 bif !H6 d al o f x pc lv v c d then x i0
 else
 exDo1 d (O6 d al o f x pc lv v c d) (O0 d al o f x pc lv v c d)
 (O3 d al o f x pc lv v c d) x pc lv v c d (O5 d al o f x pc lv v c d) i0
def bF9 (t al : Int) (o : Nat → List UInt8) (f x : Nat → Int) (pc lv : Int) (v : Bool) (c : Nat → Int) (d n : Int) (line : Bool) : Int :=
 bif r4 x pc lv v c d (iLe al d) line then
 bd4 x pc lv v c d (H4 x pc lv v c d (iLe al d) line)
 (S2 x pc lv v c d (iLe al d) line) (S3 x pc lv v c d (iLe al d) line)
 else
 bif !H6 d al o f x pc lv v c d then
 ai5 x pc lv v c d (aF2 d al o f x pc lv v c d) (aG1 d al o f x pc lv v c d)
 (aF7 d al o f x pc lv v c d) (aG2 d al o f x pc lv v c d) 0
 else
 exDo2 d (O6 d al o f x pc lv v c d) (O0 d al o f x pc lv v c d)
 (O3 d al o f x pc lv v c d) x pc lv v c d (O5 d al o f x pc lv v c d)
def bH0 (t al : Int) (o : Nat → List UInt8) (f x : Nat → Int) (pc lv : Int) (v : Bool) (c : Nat → Int) (d n : Int) (line : Bool) : Int :=
 bif r4 x pc lv v c d (iLe al d) line then
 bj4 x pc lv v c d (H4 x pc lv v c d (iLe al d) line)
 (S2 x pc lv v c d (iLe al d) line) (S3 x pc lv v c d (iLe al d) line)
 else
 bif !H6 d al o f x pc lv v c d then
 ag2 x pc lv v c d (aF2 d al o f x pc lv v c d) (aG1 d al o f x pc lv v c d)
 (aF7 d al o f x pc lv v c d) (aG2 d al o f x pc lv v c d) 0
 else
 exDo3 d (O6 d al o f x pc lv v c d) (O0 d al o f x pc lv v c d)
 (O3 d al o f x pc lv v c d) x pc lv v c d (O5 d al o f x pc lv v c d)
def bF5 (t al : Int) (o : Nat → List UInt8) (f x : Nat → Int) (pc lv : Int) (v : Bool) (c : Nat → Int) (d n : Int) (line : Bool) : Bool :=
 bif r4 x pc lv v c d (iLe al d) line then
 be1 x pc lv v c d (H4 x pc lv v c d (iLe al d) line)
 (S2 x pc lv v c d (iLe al d) line) (S3 x pc lv v c d (iLe al d) line)
 else
 bif !H6 d al o f x pc lv v c d then
 ai9 x pc lv v c d (aF2 d al o f x pc lv v c d) (aG1 d al o f x pc lv v c d)
 (aF7 d al o f x pc lv v c d) (aG2 d al o f x pc lv v c d) 0
 else
 exDo4 d (O6 d al o f x pc lv v c d) (O0 d al o f x pc lv v c d)
 (O3 d al o f x pc lv v c d) x pc lv v c d (O5 d al o f x pc lv v c d)
def bI9 (t al : Int) (o : Nat → List UInt8) (f x : Nat → Int) (pc lv : Int) (v : Bool) (c : Nat → Int) (d n : Int) (line : Bool) : Nat → Int :=
 fun i0 => bif r4 x pc lv v c d (iLe al d) line then
 bd3 x pc lv v c d (H4 x pc lv v c d (iLe al d) line)
 (S2 x pc lv v c d (iLe al d) line) (S3 x pc lv v c d (iLe al d) line) i0
 else
 bif !H6 d al o f x pc lv v c d then
 ai8 x pc lv v c d (aF2 d al o f x pc lv v c d) (aG1 d al o f x pc lv v c d)
 (aF7 d al o f x pc lv v c d) (aG2 d al o f x pc lv v c d) 0 i0
 else
 exDo5 d (O6 d al o f x pc lv v c d) (O0 d al o f x pc lv v c d)
 (O3 d al o f x pc lv v c d) x pc lv v c d (O5 d al o f x pc lv v c d) i0
def bI0 (t al : Int) (o : Nat → List UInt8) (f x : Nat → Int) (pc lv : Int) (v : Bool) (c : Nat → Int) (d n : Int) (line : Bool) : Int :=
 bif r4 x pc lv v c d (iLe al d) line then d
 else
 bif !H6 d al o f x pc lv v c d then d
 else
 exDo6 d (O6 d al o f x pc lv v c d) (O0 d al o f x pc lv v c d)
 (O3 d al o f x pc lv v c d) x pc lv v c d (O5 d al o f x pc lv v c d)
def cX3 (t al : Int) (o : Nat → List UInt8) (f x : Nat → Int) (pc lv : Int) (v : Bool) (c : Nat → Int) (d n : Int) (line : Bool) : Int :=
 iAdd .i64 n 1
def cw6 (t al : Int) (o : Nat → List UInt8) (f x : Nat → Int) (pc lv : Int) (v : Bool) (c : Nat → Int) (d n : Int) (line : Bool) : Int :=
 bif r4 x pc lv v c d (iLe al d) line then iAdd .i64 n 1
 else bif !H6 d al o f x pc lv v c d then iAdd .i64 n 1 else iAdd .i64 n 1
def cw4 (t al : Int) (o : Nat → List UInt8) (f x : Nat → Int) (pc lv : Int) (v : Bool) (c : Nat → Int) (d n : Int) (line : Bool) : Int :=
 bif r4 x pc lv v c d (iLe al d) line then d else bif !H6 d al o f x pc lv v c d then d else d
def bF3 (t al : Int) (o : Nat → List UInt8) (f x : Nat → Int) (pc lv : Int) (v : Bool) (c : Nat → Int) (d n : Int) (line : Bool) : Int :=
 bif r4 x pc lv v c d (iLe al d) line then al
 else
 bif !H6 d al o f x pc lv v c d then O6 d al o f x pc lv v c d
 else
 dE7 d (O6 d al o f x pc lv v c d) (O0 d al o f x pc lv v c d)
 (O3 d al o f x pc lv v c d) x pc lv v c d (O5 d al o f x pc lv v c d)
def bH7 (t al : Int) (o : Nat → List UInt8) (f x : Nat → Int) (pc lv : Int) (v : Bool) (c : Nat → Int) (d n : Int) (line : Bool) : Nat → List UInt8 :=
 fun i0 => bif r4 x pc lv v c d (iLe al d) line then o i0
 else
 bif !H6 d al o f x pc lv v c d then O0 d al o f x pc lv v c d i0
 else
 dH4 d (O6 d al o f x pc lv v c d) (O0 d al o f x pc lv v c d)
 (O3 d al o f x pc lv v c d) x pc lv v c d (O5 d al o f x pc lv v c d) i0
def bH1 (t al : Int) (o : Nat → List UInt8) (f x : Nat → Int) (pc lv : Int) (v : Bool) (c : Nat → Int) (d n : Int) (line : Bool) : Nat → Int :=
 fun i0 => bif r4 x pc lv v c d (iLe al d) line then f i0
 else
 bif !H6 d al o f x pc lv v c d then O3 d al o f x pc lv v c d i0
 else
 dB6 d (O6 d al o f x pc lv v c d) (O0 d al o f x pc lv v c d)
 (O3 d al o f x pc lv v c d) x pc lv v c d (O5 d al o f x pc lv v c d) i0
def cb2 (t al : Int) (o : Nat → List UInt8) (f x : Nat → Int) (pc lv : Int) (v : Bool) (c : Nat → Int) (d n : Int) (line : Bool) : Bool :=
 bif r4 x pc lv v c d (iLe al d) line then true
 else
 bif !H6 d al o f x pc lv v c d then true
 else
 dy0 d (O6 d al o f x pc lv v c d) (O0 d al o f x pc lv v c d)
 (O3 d al o f x pc lv v c d) x pc lv v c d (O5 d al o f x pc lv v c d) &&
 true
def bZ5 (t al : Int) (o : Nat → List UInt8) (f x : Nat → Int) (pc lv : Int) (v : Bool) (c : Nat → Int) (d n : Int) (line : Bool) : AV := .tup [.it .i64 0, .agg [.it .u64 pc, .it .u32 (bZ8 t al o f x pc lv v c d n line), .it .i64 (bY7 t al o f x pc lv v c d n line), .it .u64 (bX8 t al o f x pc lv v c d n line), .bl (bX7 t al o f x pc lv v c d n line), .agg [.it .u64 (bY1 t al o f x pc lv v c d n line), .it .u64 (ca3 t al o f x pc lv v c d n line), .it .u64 (bY0 t al o f x pc lv v c d n line), .bl (ca6 t al o f x pc lv v c d n line)], .it .i64 (bF7 t al o f x pc lv v c d n line), .bl (bC7 t al o f x pc lv v c d n line), .bl line], .agg [.agg [.arr 32 (.int .u64) fun i0 => .it .u64 (bC6 t al o f x pc lv v c d n line i0), .it .u64 (bF9 t al o f x pc lv v c d n line), .it .i64 (bH0 t al o f x pc lv v c d n line), .bl (bF5 t al o f x pc lv v c d n line), .arr 29 (.int .u64) fun i0 => .it .u64 (bI9 t al o f x pc lv v c d n line i0), .it .u64 (bI0 t al o f x pc lv v c d n line)], .pt 1 [] (.agg [.ref, (.agg [(.agg []), (.agg []), (.int .u64)]), (.int .u64), (.arr 4 (.agg [.ref, .ref, (.int .i64)]))]), .agg [.agg [], .agg [], .it .i64 (cX3 t al o f x pc lv v c d n line)]], .agg [.it .u64 d, .it .u64 (bF3 t al o f x pc lv v c d n line), .arr 4 .str fun i0 => .st (bH7 t al o f x pc lv v c d n line i0)], .arr 32768 (.int .u8) fun i0 => .it .u8 (bH1 t al o f x pc lv v c d n line i0)]
def cg8 (t al : Int) (o : Nat → List UInt8) (f x : Nat → Int) (pc lv : Int) (v : Bool) (c : Nat → Int) (d n : Int) (line : Bool) : AV := .tup [.it .i64 (da7 t al o f x pc lv v c d n line), .agg [.it .u64 (dc1 t al o f x pc lv v c d n line), .it .u32 (bZ8 t al o f x pc lv v c d n line), .it .i64 (bY7 t al o f x pc lv v c d n line), .it .u64 (bX8 t al o f x pc lv v c d n line), .bl (bX7 t al o f x pc lv v c d n line), .agg [.it .u64 (bY1 t al o f x pc lv v c d n line), .it .u64 (ca3 t al o f x pc lv v c d n line), .it .u64 (bY0 t al o f x pc lv v c d n line), .bl (ca6 t al o f x pc lv v c d n line)], .it .i64 (bF7 t al o f x pc lv v c d n line), .bl (bC7 t al o f x pc lv v c d n line), .bl (cw3 t al o f x pc lv v c d n line)], .agg [.agg [.arr 32 (.int .u64) fun i0 => .it .u64 (bC6 t al o f x pc lv v c d n line i0), .it .u64 (bF9 t al o f x pc lv v c d n line), .it .i64 (bH0 t al o f x pc lv v c d n line), .bl (bF5 t al o f x pc lv v c d n line), .arr 29 (.int .u64) fun i0 => .it .u64 (bI9 t al o f x pc lv v c d n line i0), .it .u64 (bI0 t al o f x pc lv v c d n line)], .pt 1 [] (.agg [.ref, (.agg [(.agg []), (.agg []), (.int .u64)]), (.int .u64), (.arr 4 (.agg [.ref, .ref, (.int .i64)]))]), .agg [.agg [], .agg [], .it .i64 (cw6 t al o f x pc lv v c d n line)]], .agg [.it .u64 (cw4 t al o f x pc lv v c d n line), .it .u64 (bF3 t al o f x pc lv v c d n line), .arr 4 .str fun i0 => .st (bH7 t al o f x pc lv v c d n line i0)], .arr 32768 (.int .u8) fun i0 => .it .u8 (bH1 t al o f x pc lv v c d n line i0)]
theorem dl4 (t al : Int) (o : Nat → List UInt8) (f x : Nat → Int) (pc lv : Int) (v : Bool) (c : Nat → Int) (d n : Int) (line : Bool) : cg8 t al o f x pc lv v c d n line = bZ5 t al o f x pc lv v c d n line := by
  unfold cg8 bZ5 da7 dc1 cw3 cw6 cX3 cw4
  first | (simp only [cS1, cS2, cS3, cS4, cS6, cS7]; done) | (simp only [cS1, cS2, cS3, cS4, cS6, cS7]; kernel_rfl)
theorem isaStepE (t al : Int) (o : Nat → List UInt8) (f x : Nat → Int) (pc lv : Int) (v : Bool) (c : Nat → Int) (d n : Int) (line : Bool) : evFn Tryz.prog okT (m5 bq9) (inlO Tryz.prog okT (m5 bq9) RO [65] 400 ST (fun _ => hGr [(111, bI7 2 .i64), (79, be8)] (hMem [(77, az2), (81, aU9), (83, aY0)] NOH)) 8) ROs NOV 101 false Tryz.f39 [.pt 0 [] cs0, .bl line] (isaM (stA x pc lv v c d) n ⟨t, al, o, f⟩) (finQ isaL) = some (cb2 t al o f x pc lv v c d n line, bZ5 t al o f x pc lv v c d n line) :=
 (by kernel_rfl : _ = some (cb2 t al o f x pc lv v c d n line, cg8 t al o f x pc lv v c d n line)).trans (by rw [dl4])
end
end Go.Proofs.YtbkdnehnhbaieaaGreat.PV
namespace Go.Proofs.YtbkdnehnhbaieaaGreat.PV
noncomputable section
open Go Go.Ev
theorem fld_in {h : Bool} {x n : Int} (hn : 0 < n) (hx : Y0 h x n = true) : iIn x n.toNat = true := by
  unfold Y0 at hx
  simp only [iEq, iLt, iIn] at *
  cases h0 : (x == 0) with
  | true => have := eq_of_beq h0; subst this; simp; omega
  | false =>
    rw [h0] at hx
    cases h with
    | false => simp at hx
    | true => simp at hx; simp; omega
theorem co3 {op rd r1 r2 imm c : Int} (h : E6 op rd r1 r2 imm c = true) : iIn rd 32 = true ∧ iIn r1 32 = true ∧ iIn r2 32 = true := by
  unfold E6 at h
  generalize h1 : Y0 (bY5 op) rd 32 = b1 at *
  generalize h2 : Y0 (bX5 op) r1 32 = b2 at *
  generalize h3 : Y0 (cb0 op) r2 32 = b3 at *
  have : b1 = true ∧ b2 = true ∧ b3 = true := by
    revert h; cases b1 <;> cases b2 <;> cases b3 <;> simp
  obtain ⟨rfl, rfl, rfl⟩ := this
  exact ⟨fld_in (by omega) h1, fld_in (by omega) h2, fld_in (by omega) h3⟩
theorem level_in (x : Nat → Int) (pc l : Int) (v : Bool) (c : Nat → Int) (d : Int) : iIn (p0 x pc l v c d) 6 = true := by
  unfold p0
  cases (bif iNe l 0 then iNe l 1 else false) <;> cases v <;> cases (l.toNat == 1) <;> cases (l.toNat == 0) <;> rfl
theorem de1 {x : Nat → Int} {pc l : Int} {v : Bool} {c : Nat → Int} {d op rd r1 r2 imm cs : Int} (h : E6 op rd r1 r2 imm cs = true) : aj0 x pc l v c d op rd r1 r2 imm cs = true := by
  obtain ⟨h1, h2, h3⟩ := co3 h
  unfold aj0 aG8
  simp only [h, h2, h3, cS1, cS2, cS3, cS4, cS6, cS7, Bool.or_true, Bool.and_true, Bool.not_true, cond_false, Bool.cond_self]
theorem cH2 {t al : Int} {o : Nat → List UInt8} {f : Nat → Int} {x : Nat → Int} {pc l : Int} {v : Bool} {c : Nat → Int} {d op rd r1 r2 imm cs : Int} (h : E6 op rd r1 r2 imm cs = true) :
    aY1 t al o f x pc l v c d op rd r1 r2 imm cs = true := by
  obtain ⟨h1, h2, h3⟩ := co3 h
  have hb : ∀ (x : Nat → Int) (pc l : Int) (v : Bool) (c : Nat → Int) (d : Int), D3 x pc l v c d 16 8 = true := fun _ _ _ _ _ _ => rfl
  unfold aY1
  simp only [hb, h2, h3, Bool.true_and, Bool.and_true, Bool.cond_self]
theorem cP4 {t al : Int} {o : Nat → List UInt8} {f : Nat → Int} {x : Nat → Int} {pc l : Int} {v : Bool} {c : Nat → Int} {d op rd r1 r2 imm cs : Int} (h : E6 op rd r1 r2 imm cs = true) :
    bu5 t al o f x pc l v c d op rd r1 r2 imm cs = true := by
  obtain ⟨h1, h2, h3⟩ := co3 h
  unfold bu5 bk3 aT5 aT0 ax8 ak4
  simp only [de1 h, cH2 h, level_in, h2, h3, Bool.true_and, Bool.and_true, Bool.cond_self]
theorem dH8 {x : Nat → Int} {pc l : Int} {v : Bool} {c : Nat → Int} {d op rd r1 r2 imm cs : Int} (h : o6 x pc l v c d op rd r1 r2 imm cs = true) : E6 op rd r1 r2 imm cs = true := by
  cases h1 : E6 op rd r1 r2 imm cs with
  | true => rfl
  | false => unfold o6 at h; rw [h1] at h; simp at h
theorem cu7 (t al : Int) (o : Nat → List UInt8) (f : Nat → Int) (x : Nat → Int) (pc l : Int) (v : Bool) (c : Nat → Int) (d w : Int) : dy0 t al o f x pc l v c d w = true := by
  unfold dy0
  cases iNe (o8 w) 0 with
  | true => rfl
  | false =>
    simp only [cond_false]
    cases h : o6 (fun i0 => x i0) pc l v (fun i0 => c i0) d (d1 w) (d4 w) (d5 w) (d6 w) (d3 w) (d7 w) with
    | false => rfl
    | true =>
      have h1 := dH8 h
      obtain ⟨h2, -, -⟩ := co3 h1
      have h3 : iIn (x5 (d1 w) (d4 w) (d5 w) (d6 w) (d3 w) (d7 w)) 32 = true := by
        unfold x5; rw [h1]; exact h2
      simp only [cP4 h1, h3, Bool.true_and, Bool.and_true, Bool.cond_self, Bool.not_true, cond_false]
theorem cB8 (t al : Int) (o : Nat → List UInt8) (f : Nat → Int) (x : Nat → Int) (pc l : Int) (v : Bool) (c : Nat → Int) (d n : Int) (line : Bool) : cb2 t al o f x pc l v c d n line = true := by
  unfold cb2
  simp only [cu7, Bool.true_and, Bool.and_true, Bool.cond_self]
end
end Go.Proofs.YtbkdnehnhbaieaaGreat.PV
set_option linter.unusedVariables false
set_option linter.unusedSimpArgs false
set_option maxRecDepth 100000
namespace Go.Proofs.YtbkdnehnhbaieaaGreat.PV
noncomputable section
open Go Go.Ev
structure Sta where
  X : Nat → Int
  pc : Int
  lv : Int
  V : Bool
  C : Nat → Int
  dn : Int
def staA (s : Sta) : AV := .agg [.arr 32 (.int .u64) fun j => .it .u64 (s.X j), .it .u64 s.pc, .it .i64 s.lv, .bl s.V, .arr 29 (.int .u64) fun j => .it .u64 (s.C j), .it .u64 s.dn]
def J5 (a : AV) : Sta := ⟨fun j => ((a.fld 0).ix j).num, (a.fld 1).num, (a.fld 2).num, (a.fld 3).bool, fun j => ((a.fld 4).ix j).num, (a.fld 5).num⟩
theorem cb1 (a : AV) : norm bq7 a = staA (J5 a) := rfl
def PC : Pcs := m5 T129
theorem bl1 : r0 Tryz.prog PC := T129_ok
theorem bl9 : N6 Tryz.prog NOH := E9
def L0 : Lq := { n := 1, n0 := 0, ts := [0], mv := [], ids := [] }
def clL : Lq := { n := 49, n0 := 2, ts := [1, 2, 3], mv := [], ids := [(0, .ce true), (1, .ce true)] }
def clS (s z : Sta) (i : Int) : List AV := [.pt 0 [] bq7, .pt 1 [] bq7, .it .i64 i, staA s, staA z]
def clN (s : Sta) (i : Int) : Sta := ⟨s.X, s.pc, s.lv, s.V, fun j => bif j == i.toNat then iAnd .u64 (s.C i.toNat) (T7 i) else s.C j, s.dn⟩
theorem clA (s z : Sta) (i : Int) : evC Tryz.prog okT PC NOH RO NOV 101 false (ai1 Tryz.f22.body 0) (clL.F (clS s z i)) (clL.M (clS s z i)) (bH8 0 (aZ3 clL)) =
    some (iLt i 29 && (iIn i 29 && (iIn i 29 && true)), .tup (.it .i64 0 :: clS (clN s i) z (iAdd .i64 i 1))) := by kernel_rfl
theorem clX (s z : Sta) (i : Int) : evC Tryz.prog okT PC NOH RO NOV 101 false (ai1 Tryz.f22.body 0) (clL.F (clS s z i)) (clL.M (clS s z i)) (bH8 2 (aZ3 clL)) =
    some (!iLt i 29 && true, .tup (.it .i64 2 :: clS s z i)) := by kernel_rfl
structure ClW where
  c : Sta → Sta
def clShs : List Sh := [.ref, .ref, .int .i64, bq7, bq7]
def clGo (W : ClW) : (Nat → AV) → Kc → Option Out := goJ (fun g => bB5 0 bq7 (g 0) && bB5 1 bq7 (g 1)) (fun g => iEq (g 2).num 0) .normal
  (fun g => clL.F (clS (W.c (J5 (g 3))) (J5 (g 4)) 29)) (fun g => clL.M (clS (W.c (J5 (g 3))) (J5 (g 4)) 29))
def dc6 (s : Sta) (l : Int) (v : Bool) : Sta := ⟨fun j => bif j == 0 then 0 else s.X j, s.pc, l, v, s.C, s.dn⟩
def cy7 (s : Sta) : Sta := ⟨s.X, T1 .u64 s.pc 3, s.lv, s.V, fun j => bif j == 0 then W8 (s.C 0) else s.C j, s.dn⟩
def dl0 (s : Sta) : Bool := bif (bif iNe s.lv 0 then iNe s.lv 1 else false) then iNe s.lv 3 else false
def clCs (s : Sta) : Nat → Sta
  | 0 => s
  | i + 1 => clN (clCs s i) (i : Nat)
def clW : ClW := ⟨fun s => clCs s 29⟩
theorem dY1 {b : Code} {L : Lq} (hL : L.wf = true) {K : Kc} (hK : Part L K) {fr : Fr} {m : Mem} (hg0 : NoGd fr) {c : Int} {r : List AV} {g : Bool}
    (he : evC Tryz.prog okT PC NOH RO NOV 101 false b fr m K = some (g, .tup (.it .i64 c :: r))) (hg : g = true) (hr : L.ok r = true) : Turn Tryz.prog L.n0 b fr m c (L.F r) (L.M r) :=
  cM1 mix A7 bl1 bl9 (m7 _) hL hK hg0 he hg hr
theorem clGo_ok : GoesN Tryz.prog 0 (.loop (ai1 Tryz.f22.body 0)) clL clShs (clGo clW) := goJ_ok fun g h1 h2 => by
  simp only [Bool.and_eq_true] at h1
  refine ⟨aX1 (L := clL) rfl, fun fr m hm hb => ?_⟩
  have hst : r7 clShs 0 g = clS (J5 (g 3)) (J5 (g 4)) 0 := by
    have : r7 clShs 0 g = [g 0, g 1, .it .i64 (g 2).num, staA (J5 (g 3)), staA (J5 (g 4))] := rfl
    rw [this, an9 h1.1, an9 h1.2, O2.1 h2]
    rfl
  rw [hst] at hb
  refine aA1 (F := fun j => clL.F (clS (clCs (J5 (g 3)) j) (J5 (g 4)) (j : Nat))) (M := fun j => clL.M (clS (clCs (J5 (g 3)) j) (J5 (g 4)) (j : Nat))) (n := 29) (c := 2) (fun j hj => ?_) ?_ (by decide) hm hb (e := .exit 0) rfl
  · have hE := clA (clCs (J5 (g 3)) j) (J5 (g 4)) ((j : Nat) : Int)
    rw [bn9 j (by omega), ba5.2 (show (j : Int) < 29 by omega), V8.2 (show 0 ≤ (j : Int) ∧ (j : Int) < (29 : Nat) by omega)] at hE
    exact dY1 (L := clL) rfl (T5 0 (Part.refl _)) (aX1 (L := clL) rfl) hE rfl rfl
  · exact dY1 (L := clL) rfl (T5 2 (Part.refl _)) (aX1 (L := clL) rfl) (clX (clCs (J5 (g 3)) 29) (J5 (g 4)) ((29 : Nat) : Int)) rfl rfl
theorem cl_blk (c : Code) (hc : Tryz.f22.body = some c) : blks c = [(0, .loop (ai1 Tryz.f22.body 0)), (1, cM8 ((Tryz.f22.body).getD .skip) 1)] := by
  rw [show c = (Tryz.f22.body).getD .skip by rw [hc]; rfl]
  kernel_rfl
theorem cl_ov : ∀ c, Tryz.f22.body = some c → OvOk Tryz.prog (ovN 0 clL clShs (clGo clW)) c := fun c hc => ovN_ok rfl clGo_ok fun x hx h => by
  rw [cl_blk c hc] at hx
  simp only [List.mem_cons, List.not_mem_nil, or_false] at hx
  rcases hx with rfl | rfl <;> first | rfl | (cases h; done)
def cu6 (s : Sta) : Sta := cy7 (clCs (dc6 s (bif dl0 s then 3 else s.lv) (bif (bif dl0 s then true else iEq s.lv 3) then false else s.V)) 29)
def rowV (s : Sh) (V : AV → AV) : MRow := fun args _ => match args with
  | [a] => bif a.shape.beq s && plain a then some (none, [], V a, Mem.empty) else none
  | _ => none
theorem rowV_ok {f : FuncId} {s : Sh} {V : AV → AV} (hV : ∀ a, okV (V a) = true) (h : ∀ a, Small Tryz.prog f [norm s a] Mem.empty (V a) Mem.empty) : aa3 Tryz.prog f (rowV s V) := fun args m c τ u m1 he _ => by
  unfold rowV at he
  split at he <;> try (cases he; done)
  rename_i a
  cases hb : a.shape.beq s && plain a with
  | false => rw [hb] at he; cases he
  | true =>
  rw [hb, cond_true] at he
  cases he
  simp only [Bool.and_eq_true] at hb
  refine ⟨[a], Mem.empty, Small.of_wf fun w1 _ => ?_, ⟨List.nodup_nil, rfl, ⟨.inl ⟨hb.2, rfl⟩, trivial⟩, fun i b hb => ?_⟩, Nat.le_refl _, hV _, fun i b hb => ?_⟩
  · have := h a
    rw [norm_eq s a w1.1 (Sh.beq_eq _ _ hb.1)] at this
    exact this
  · simp only [Mem.get, Mem.empty, Tr.get_mk] at hb; cases hb
  · simp only [Mem.get, Mem.empty, Tr.get_mk] at hb; cases hb
def icL : Lq := { n := 39, n0 := 3, ts := [1, 2, 26, 27], mv := [], ids := [(0, .ce true), (1, .ce true)] }
def rawA (r : Nat → Int) : AV := .arr 29 (.int .u64) fun j => .it .u64 (r j)
def icS (s z : Sta) (r : Nat → Int) (i : Int) : List AV := [.pt 0 [] bq7, .pt 1 [] bq7, rawA r, .it .i64 i, staA s, staA z]
def icN (s : Sta) (r : Nat → Int) (i : Int) : Sta := ⟨s.X, s.pc, s.lv, s.V, M9 s.X s.pc s.lv s.V s.C s.dn i (ai0 i) (r i.toNat), s.dn⟩
theorem icA (s z : Sta) (r : Nat → Int) (i : Int) : evC Tryz.prog okT PC NOH RO NOV 101 false (ai1 Tryz.f74.body 0) (icL.F (icS s z r i)) (icL.M (icS s z r i)) (bH8 0 (aZ3 icL)) =
    some (iLt i 29 && (iIn i 29 && (ad2 s.X s.pc s.lv s.V s.C s.dn i (ai0 i) (r i.toNat) && true)), .tup (.it .i64 0 :: icS (icN s r i) z r (iAdd .i64 i 1))) := by kernel_rfl
theorem icX (s z : Sta) (r : Nat → Int) (i : Int) : evC Tryz.prog okT PC NOH RO NOV 101 false (ai1 Tryz.f74.body 0) (icL.F (icS s z r i)) (icL.M (icS s z r i)) (bH8 2 (aZ3 icL)) =
    some (!iLt i 29 && true, .tup (.it .i64 2 :: icS s z r i)) := by kernel_rfl
structure IcW where
  c : Sta → (Nat → Int) → Sta
def dX8 : List Sh := [.ref, .ref, .arr 29 (.int .u64), .int .i64, bq7, bq7]
def icGo (W : IcW) : (Nat → AV) → Kc → Option Out := goJ (fun g => bB5 0 bq7 (g 0) && bB5 1 bq7 (g 1)) (fun g => iEq (g 3).num 0) .normal
  (fun g => icL.F (icS (W.c (J5 (g 4)) (numA (g 2))) (J5 (g 5)) (numA (g 2)) 29)) (fun g => icL.M (icS (W.c (J5 (g 4)) (numA (g 2))) (J5 (g 5)) (numA (g 2)) 29))
def dn5 (s : Sta) (l : Int) (v : Bool) : Sta := ⟨fun j => bif j == 0 then 0 else s.X j, T1 .u64 s.pc 3, l, v, fun _ => 0, s.dn⟩
def cN2 (s : Sta) : Bool := bif iNe s.lv 0 then iNe s.lv 1 else false
theorem icLaw (W : IcW) (s : Sta) : evFn Tryz.prog okT PC NOH RO (ovN 0 icL dX8 (icGo W)) 101 false Tryz.f74 [staA s] Mem.empty (finQ L0) =
    some (Om.pick (cN2 s) (iEq 0 0 && true, .tup [.it .i64 0, staA (W.c (dn5 s 3 false) s.C)]) (iEq 0 0 && true, .tup [.it .i64 0, staA (W.c (dn5 s s.lv s.V) s.C)])) := by kernel_rfl
theorem dK4 {x : Nat → Int} {pc l : Int} {v : Bool} {c : Nat → Int} {d i m w : Int} (h : iIn i 29 = true) : ad2 x pc l v c d i m w = true := by
  unfold ad2
  rw [h]
  simp
def icCs (s : Sta) (r : Nat → Int) : Nat → Sta
  | 0 => s
  | i + 1 => icN (icCs s r i) r (i : Nat)
def icW : IcW := ⟨fun s r => icCs s r 29⟩
theorem icGo_ok : GoesN Tryz.prog 0 (.loop (ai1 Tryz.f74.body 0)) icL dX8 (icGo icW) := goJ_ok fun g h1 h2 => by
  simp only [Bool.and_eq_true] at h1
  refine ⟨aX1 (L := icL) rfl, fun fr m hm hb => ?_⟩
  have hst : r7 dX8 0 g = icS (J5 (g 4)) (J5 (g 5)) (numA (g 2)) 0 := by
    have : r7 dX8 0 g = [g 0, g 1, rawA (numA (g 2)), .it .i64 (g 3).num, staA (J5 (g 4)), staA (J5 (g 5))] := rfl
    rw [this, an9 h1.1, an9 h1.2, O2.1 h2]
    rfl
  rw [hst] at hb
  refine aA1 (F := fun j => icL.F (icS (icCs (J5 (g 4)) (numA (g 2)) j) (J5 (g 5)) (numA (g 2)) (j : Nat))) (M := fun j => icL.M (icS (icCs (J5 (g 4)) (numA (g 2)) j) (J5 (g 5)) (numA (g 2)) (j : Nat))) (n := 29) (c := 2) (fun j hj => ?_) ?_ (by decide) hm hb (e := .exit 0) rfl
  · have hE := icA (icCs (J5 (g 4)) (numA (g 2)) j) (J5 (g 5)) (numA (g 2)) ((j : Nat) : Int)
    have hin : iIn (j : Int) 29 = true := V8.2 (show 0 ≤ (j : Int) ∧ (j : Int) < (29 : Nat) by omega)
    rw [bn9 j (by omega), ba5.2 (show (j : Int) < 29 by omega), hin, dK4 hin] at hE
    exact dY1 (L := icL) rfl (T5 0 (Part.refl _)) (aX1 (L := icL) rfl) hE rfl rfl
  · exact dY1 (L := icL) rfl (T5 2 (Part.refl _)) (aX1 (L := icL) rfl) (icX (icCs (J5 (g 4)) (numA (g 2)) 29) (J5 (g 5)) (numA (g 2)) ((29 : Nat) : Int)) rfl rfl
theorem ic_blk (c : Code) (hc : Tryz.f74.body = some c) : blks c = [(0, .loop (ai1 Tryz.f74.body 0)), (1, cM8 ((Tryz.f74.body).getD .skip) 1)] := by
  rw [show c = (Tryz.f74.body).getD .skip by rw [hc]; rfl]
  kernel_rfl
theorem ic_ov : ∀ c, Tryz.f74.body = some c → OvOk Tryz.prog (ovN 0 icL dX8 (icGo icW)) c := fun c hc => ovN_ok rfl icGo_ok fun x hx h => by
  rw [ic_blk c hc] at hx
  simp only [List.mem_cons, List.not_mem_nil, or_false] at hx
  rcases hx with rfl | rfl <;> first | rfl | (cases h; done)
def bd6 (s : Sta) : Sta := icCs (dn5 s (bif cN2 s then 3 else s.lv) (bif cN2 s then false else s.V)) s.C 29
theorem db2 (s : Sta) : Small Tryz.prog 74 [staA s] Mem.empty (staA (bd6 s)) Mem.empty := by
  have hp : Plain Tryz.prog 74 Tryz.f74 := ⟨Tryz.func74, of_decide_eq_true (by kernel_rfl)⟩
  have hE := icLaw icW s
  unfold bd6
  cases h1 : cN2 s with
  | true =>
    rw [h1, Om.pick_t] at hE
    exact ag0 mix A7 bl1 bl9 hp ic_ov hE rfl rfl rfl rfl rfl rfl
  | false =>
    rw [h1, Om.pick_f] at hE
    exact ag0 mix A7 bl1 bl9 hp ic_ov hE rfl rfl rfl rfl rfl rfl
def cc3 : MRow := rowV bq7 fun a => staA (bd6 (J5 a))
theorem cR6 : aa3 Tryz.prog 74 cc3 := rowV_ok (fun _ => rfl) fun a => db2 (J5 a)
theorem clLawP (W : ClW) (s : Sta) : pcOf Tryz.prog okT PC NOH RO (ovN 0 clL clShs (clGo W)) 101 false Tryz.f22 [staA s] =
    some (Om.pick (dl0 s) (Om.pick true (iEq 0 0 && true, staA (cy7 (W.c (dc6 s 3 false)))) (iEq 0 0 && true, staA (cy7 (W.c (dc6 s 3 s.V)))))
      (Om.pick (iEq s.lv 3) (iEq 0 0 && true, staA (cy7 (W.c (dc6 s s.lv false)))) (iEq 0 0 && true, staA (cy7 (W.c (dc6 s s.lv s.V)))))) := by kernel_rfl
theorem dz1 (s : Sta) : cD0 Tryz.prog 22 [staA s] (staA (cu6 s)) := by
  have hp : Plain Tryz.prog 22 Tryz.f22 := ⟨Tryz.func22, of_decide_eq_true (by kernel_rfl)⟩
  have hE := clLawP clW s
  unfold cu6
  cases h1 : dl0 s with
  | true =>
    rw [h1, Om.pick_t, Om.pick_t] at hE
    exact p6 mix A7 bl1 bl9 hp cl_ov hE rfl
  | false =>
    rw [h1, Om.pick_f] at hE
    cases h2 : iEq s.lv 3 with
    | true =>
      rw [h2, Om.pick_t] at hE
      exact p6 mix A7 bl1 bl9 hp cl_ov hE rfl
    | false =>
      rw [h2, Om.pick_f] at hE
      exact p6 mix A7 bl1 bl9 hp cl_ov hE rfl
theorem icLawP (W : IcW) (s : Sta) : pcOf Tryz.prog okT PC NOH RO (ovN 0 icL dX8 (icGo W)) 101 false Tryz.f74 [staA s] =
    some (Om.pick (cN2 s) (iEq 0 0 && true, staA (W.c (dn5 s 3 false) s.C)) (iEq 0 0 && true, staA (W.c (dn5 s s.lv s.V) s.C))) := by kernel_rfl
theorem cV7 (s : Sta) : cD0 Tryz.prog 74 [staA s] (staA (bd6 s)) := by
  have hp : Plain Tryz.prog 74 Tryz.f74 := ⟨Tryz.func74, of_decide_eq_true (by kernel_rfl)⟩
  have hE := icLawP icW s
  unfold bd6
  cases h1 : cN2 s with
  | true =>
    rw [h1, Om.pick_t] at hE
    exact p6 mix A7 bl1 bl9 hp ic_ov hE rfl
  | false =>
    rw [h1, Om.pick_f] at hE
    exact p6 mix A7 bl1 bl9 hp ic_ov hE rfl
structure CcW where
  cl : Sta → Sta
  ic : Sta → Sta
def ccW : CcW := ⟨cu6, bd6⟩
def Tcc (W : CcW) : List Row := (22, rowF [bq7] none fun g => staA (W.cl (J5 (g 0)))) :: (74, rowF [bq7] none fun g => staA (W.ic (J5 (g 0)))) :: T129
theorem bG4 : r0 Tryz.prog (m5 (Tcc ccW)) := m8 (s3 fun g => dz1 (J5 (g 0))) (m8 (s3 fun g => cV7 (J5 (g 0))) T129_ok)
end
end Go.Proofs.YtbkdnehnhbaieaaGreat.PV
set_option linter.unusedVariables false
set_option linter.unusedSimpArgs false
set_option maxRecDepth 100000
namespace Go.Proofs.YtbkdnehnhbaieaaGreat.PV
noncomputable section
open Go Go.Ev
theorem mnew_ev : evFn Tryz.prog okT PC NOH RO NOV 101 false Tryz.f24 [] Mem.empty (finA 2 [(0, .ce true, 0), (1, .ce true, 0)]) = some (true, .tup [.pt 1 [] E5, byA 32768 (fun _ => 0), .agg [.sl 0 [] 0 32768 true]]) := by kernel_rfl
theorem rnew_ev : evFn Tryz.prog okT PC NOH RO NOV 101 false Tryz.f46 [] Mem.empty (finA 2 [(0, .ce true, 0), (1, .ce true, 0)]) = some (true, .tup [.pt 1 [] E5, byA 32768 (fun _ => 0), .agg [.sl 0 [] 0 32768 true]]) := by kernel_rfl
def newM : Mem := { n := 2, t := (Tr.mk 12).set (some (.obj 0 (byA 32768 fun _ => 0) [] 1)) 0 }
theorem dI0 {i : Nat} {b : Blk} (h : newM.get i = some b) : i = 0 ∧ b = .obj 0 (byA 32768 fun _ => 0) [] 1 := by
  unfold newM Mem.get at h
  rcases Tr.get_set _ _ _ _ _ h with ⟨rfl, h⟩ | ⟨_, h⟩
  · cases h; exact ⟨rfl, rfl⟩
  · rw [Tr.get_mk] at h; cases h
theorem dG3 {F : FuncId} (hS : Small Tryz.prog F [] Mem.empty (.pt 1 [] E5) (matA 2 [(0, .ce true, 0), (1, .ce true, 0)] [byA 32768 (fun _ => 0), .agg [.sl 0 [] 0 32768 true]])) :
    Small Tryz.prog F [] Mem.empty (.pt 0 [] E5) newM := by
  refine Small.pack (k := 0) (st := byA 32768 fun _ => 0) (a := 1) (root := .agg [.sl 1 [] 0 32768 true]) (tl := fun _ => some (byA 32768 fun _ => 0)) (τ := fun i => 1 - i) (pe := []) hS (by decide) ⟨fun _ => 0, true, fun _ => ⟨Int.le_refl 0, (by decide : (0 : Int) ≤ 255)⟩, rfl, rfl, rfl⟩
    (fun x hx => .inr (by cases List.mem_singleton.1 hx; rfl)) rfl rfl (fun j e r h => by simp at h) rfl rfl (fun i t h0 hl ht => ?_) (fun i j hi hj _ _ h => ?_) (fun i hi _ => Nat.zero_le _) rfl fun i b hb => ?_
  · have hi : i = 1 := by have : (objK 0).L = 2 := rfl; omega
    subst hi
    cases ht
    exact ⟨rfl, rfl⟩
  · have : (objK 0).L = 2 := rfl; omega
  · exact .inl (dI0 hb)
theorem bO7 : Small Tryz.prog 24 [] Mem.empty (.pt 0 [] E5) newM :=
  dG3 (aw3 mix A7 bl1 bl9 ⟨Tryz.func24, of_decide_eq_true (by kernel_rfl)⟩ (fun c _ => m7 c) mnew_ev rfl)
theorem cy3 : Small Tryz.prog 46 [] Mem.empty (.pt 0 [] E5) newM :=
  dG3 (aw3 mix A7 bl1 bl9 ⟨Tryz.func46, of_decide_eq_true (by kernel_rfl)⟩ (fun c _ => m7 c) rnew_ev rfl)
def newRow : MRow := fun args _ => match args with
  | [] => some (none, [], .pt 0 [] E5, newM)
  | _ => none
theorem bd9 {F : FuncId} (h : Small Tryz.prog F [] Mem.empty (.pt 0 [] E5) newM) : aa3 Tryz.prog F newRow := fun args m c τ u m1 he _ => by
  unfold newRow at he
  split at he <;> try (cases he; done)
  cases he
  refine ⟨[], Mem.empty, h, ⟨List.nodup_nil, rfl, trivial, fun i b hb => ?_⟩, Nat.zero_le _, rfl, fun i b hb => ?_⟩
  · simp only [Mem.get, Mem.empty, Tr.get_mk] at hb; cases hb
  · obtain ⟨rfl, rfl⟩ := dI0 hb
    exact ⟨by show 0 < 2; omega, rfl, fun h => by cases h⟩
def cP1 : Int := 18446744073709551615
def bnM (f : Nat → Int) : Mem := { n := 2, t := (Tr.mk 12).set (some (.obj 0 (byA 32768 f) [] 1)) 0 }
theorem bnew_ev (f : Nat → Int) : evFn Tryz.prog okT PC (hMem [(24, newRow)] NOH) RO NOV 101 true Tryz.f13 [.pt 0 [] E5] (bnM f) (finA 3 [(0, .ob 0 [], 1), (2, .ce true, 0)]) =
    some (true, .tup [.pt 2 [] J6, byA 32768 f, .agg [.pt 0 [] E5, .agg [.agg [], .agg [], .it .u64 0], .it .u64 cP1, .arr 4 dE0 fun _ => .agg [.nsl, .nsl, .it .i64 0]]]) := by kernel_rfl
def bus0 : AV := busA 0 cP1 fun _ => []
def bnM1 (st : AV) : Mem := { n := 4, t := ((Tr.mk 12).set (some (.obj 0 st [] 1)) 0).set (some (.obj 1 bus0 [.pt 0 [] E5] 3)) 2 }
theorem dJ2 {st : AV} {i : Nat} {b : Blk} (h : (bnM1 st).get i = some b) : (i = 0 ∧ b = .obj 0 st [] 1) ∨ (i = 2 ∧ b = .obj 1 bus0 [.pt 0 [] E5] 3) := by
  unfold bnM1 Mem.get at h
  rcases Tr.get_set _ _ _ _ _ h with ⟨rfl, h⟩ | ⟨_, h⟩
  · cases h; exact .inr ⟨rfl, rfl⟩
  · rcases Tr.get_set _ _ _ _ _ h with ⟨rfl, h⟩ | ⟨_, h⟩
    · cases h; exact .inl ⟨rfl, rfl⟩
    · rw [Tr.get_mk] at h; cases h
theorem newH_ok : N6 Tryz.prog (hMem [(24, newRow)] NOH) := ap2 E9 ⟨bd9 bO7, trivial⟩
theorem dO7 (f : Nat → Int) : Small Tryz.prog 13 [.pt 0 [] E5] (bnM f) (.pt 2 [] J6) (bnM1 (byA 32768 f)) := by
  have hS := aw3 mix A7 bl1 newH_ok ⟨Tryz.func13, of_decide_eq_true (by kernel_rfl)⟩ (fun c _ => m7 c) (bnew_ev f) rfl
  refine Small.pack (k := 1) (st := bus0) (a := 2) (root := busR 0 cP1 fun _ => .agg [.nsl, .nsl, .it .i64 0]) (tl := fun _ => none) (τ := fun i => bif Nat.beq i 0 then 2 else 0) (pe := [(0, E5)]) hS (by decide)
    ⟨0, cP1, fun _ => [], fun _ => .nsl, Int.le_refl 0, by decide, rfl, rfl, fun p => ⟨rfl, trivial, fun _ => rfl, fun _ => ⟨.inl ⟨rfl, rfl, rfl⟩, Nat.zero_le _⟩⟩⟩
    (fun x hx => ?_) rfl rfl (fun j e r h => ?_) rfl rfl (fun i t h0 hl ht => by cases ht) (fun i j hi hj h1 h2 _ => ?_) (fun i hi h => ?_) rfl fun i b hb => ?_
  · have hx : x ∈ AV.flat (.pt 5 [] E5) ++ (AV.flat (.agg [.agg [], .agg [], .it .u64 0]) ++ (AV.flat (.it .u64 cP1) ++ (AV.flat (.arr 4 dE0 fun _ => .agg [.nsl, .nsl, .it .i64 0]) ++ []))) := hx
    simp only [AV.flat, AV.flats, List.mem_append, List.mem_singleton, List.not_mem_nil, or_false, false_or, List.append_nil, List.nil_append] at hx
    rcases hx with rfl | rfl | rfl | hx
    · exact .inr rfl
    · exact .inl rfl
    · exact .inl rfl
    · left
      simp [List.mem_flatMap, AV.flat, AV.flats] at hx
      have hx : x = .nsl ∨ x = .it .i64 0 := by first | exact hx.2 | exact hx.choose_spec.2
      rcases hx with rfl | rfl <;> rfl
  · cases j with
    | zero =>
      cases h
      exact ⟨rfl, by show 0 < 2; omega, 0, byA 32768 f, [], 1, rfl, rfl⟩
    | succ j => simp at h
  · rcases h1 with rfl | h1
    · rcases h2 with rfl | h2
      · rfl
      · exact absurd rfl h2
    · exact absurd rfl h1
  · rcases h with rfl | h
    · exact Nat.le_refl 2
    · exact absurd rfl h
  · rcases dJ2 hb with ⟨rfl, rfl⟩ | ⟨rfl, rfl⟩
    · exact .inr ⟨by show 0 < 2; omega, rfl, rfl⟩
    · exact .inl ⟨rfl, rfl⟩
def bK5 : MRow := fun args m => match args with
  | [.pt id [] r] => bif r.beq E5 then (match m.get id with
    | some (.obj k st [] h) => bif Nat.beq k 0 && !Nat.beq id h then some (none, [id, h], .pt 2 [] J6, bnM1 st) else none
    | _ => none) else none
  | _ => none
theorem cx3 : aa3 Tryz.prog 13 bK5 := fun args m c τ v m1 he _ => by
  unfold bK5 at he
  split at he <;> try (cases he; done)
  rename_i id r
  cases hb : r.beq E5 with
  | false => rw [hb] at he; cases he
  | true =>
  rw [hb, cond_true] at he
  have hr := Sh.beq_eq _ _ hb
  subst hr
  split at he <;> try (cases he; done)
  rename_i k st hh hm
  cases hb2 : Nat.beq k 0 && !Nat.beq id hh with
  | false => rw [hb2] at he; cases he
  | true =>
  rw [hb2, cond_true] at he
  cases he
  simp only [Bool.and_eq_true, Nat.beq_eq, Bool.not_eq_true'] at hb2
  obtain ⟨rfl, hne⟩ := hb2
  have hne : id ≠ hh := fun e => by subst e; simp at hne
  refine ⟨[.pt 0 [] E5], objM 0 st [] 1, Small.of_own (m := objM 0 st [] 1) (id := 0) (k := 0) rfl fun ⟨root, tl, hl⟩ => ?_, ⟨by simp [hne], rfl, ⟨.inr (.inl ⟨0, [], E5, rfl, rfl, Nat.succ_pos 1⟩), trivial⟩, fun i b hb => ?_⟩, by show 2 ≤ 4; omega, rfl, fun i b hb => ?_⟩
  · obtain ⟨f, tip, hby, rfl, _, _⟩ := (show memK.lay st root tl from hl)
    exact dO7 f
  · rcases aB1 hb with ⟨rfl, rfl⟩ | ⟨j, kj, sj, ps, hj, _, _⟩
    · exact ⟨Nat.succ_pos 1, rfl, (fun t wr e => by cases e), hm⟩
    · simp at hj
  · rcases dJ2 hb with ⟨rfl, rfl⟩ | ⟨rfl, rfl⟩
    · exact ⟨by show 0 < 4; omega, rfl, fun h => by cases h⟩
    · exact ⟨by show 2 < 4; omega, rfl, fun h => by cases h⟩
def refC (a n : Int) : Int := bif P9 a n then 61 else bif bif iLe 32768 a then true else iLt (iSub .u64 32768 a) (g8 .u64 n) then 60 else 0
def refCG (a n : Int) : Bool :=
  ((!!bif bif bif iNe n 1 then iNe n 2 else false then iNe n 4 else false then iNe n 8 else false) || iNe (g8 .u64 n) 0) &&
    bif P9 a n then true else bif bif iLe 32768 a then true else iLt (iSub .u64 32768 a) (g8 .u64 n) then true else true
theorem dr7 (f : Nat → Int) (tip : Bool) (a n : Int) : evM Tryz.f47 [.it .u64 a, .it .i64 n] f tip = some (refCG a n, .tup [.it .i64 0, .it .i64 (refC a n), .agg [.sl 1 [] 0 32768 tip], byA 32768 f]) := by
  have h : evM Tryz.f47 [.it .u64 a, .it .i64 n] f tip = some (refCG a n, Go.Ev.mrg (P9 a n) (.tup [.it .i64 0, .it .i64 61, .agg [.sl 1 [] 0 32768 tip], byA 32768 f])
    (Go.Ev.mrg (bif iLe 32768 a then true else iLt (iSub .u64 32768 a) (g8 .u64 n)) (.tup [.it .i64 0, .it .i64 60, .agg [.sl 1 [] 0 32768 tip], byA 32768 f]) (.tup [.it .i64 0, .it .i64 0, .agg [.sl 1 [] 0 32768 tip], byA 32768 f]))) := by kernel_rfl
  rw [h, aE3, aE3]
  unfold refC
  cases P9 a n <;> cases (bif iLe 32768 a then true else iLt (iSub .u64 32768 a) (g8 .u64 n)) <;> rfl
theorem dQ8 (a n : Int) : refCG a n = true := by
  have h := bk5 a n
  unfold refCG
  unfold ar4 at h
  simp only [Bool.cond_self, Bool.and_true] at h ⊢
  exact h
def codeRow : MRow := ce0 [.int .u64, .int .i64] (fun g f => .it .i64 (refC (g 0).num (g 1).num)) (fun g f => f)
theorem dU4 : aa3 Tryz.prog 47 codeRow := cf2 rfl (fun _ _ => ⟨rfl, rfl⟩) fun g f hp hf =>
  bP0 ⟨Tryz.func47, of_decide_eq_true (by kernel_rfl)⟩ rfl (fun h => h) rfl rfl rfl (fun tip => dr7 f tip (g 0).num (g 1).num) (dQ8 _ _)
theorem dm5 {F : FuncId} {args : List AV} (hargs : S4 args = true) {f f' : Nat → Int} (hf' : isBy f → isBy f') {v : AV} (hv : plain v = true)
    (hS : ∀ tip, Small Tryz.prog F (.pt 0 [] E5 :: args) (memO f tip) v (memL.M [v, .agg [.sl 1 [] 0 32768 tip], byA 32768 f'])) :
    Small Tryz.prog F (.pt 0 [] E5 :: args) (objM 0 (byA 32768 f) [] 1) v (objM 0 (byA 32768 f') [] 2) := by
  refine Small.opened (k := 0) (X := []) (X' := []) (by decide) rfl (fun j kj sj ps h => by simp at h) ⟨rfl, fun j kj sj ps h => by simp at h⟩ (fun j kj sj ps h => by simp at h) (fun j r h => by (have h : ([] : List Sh)[j]? = some r := h); simp at h)
    (fun {st root tl} h => by obtain ⟨_, _, _, _, rfl, _⟩ := (show memK.lay st root tl from h); rfl) hargs fun root tl hlay hw _ => ?_
  obtain ⟨f0, tip, hby, hst, rfl, htl⟩ := (show memK.lay (byA 32768 f) root tl from hlay)
  have hff : ∀ i, f0 i = f i := fun i => by
    unfold byA at hst
    injection hst with _ _ hst
    have := congrFun hst i
    injection this with _ this
    exact this.symm
  have hff : f0 = f := funext hff
  subst hff
  have hm : bc1 (objK 0).L (.agg [.sl 1 [] 0 32768 tip]) tl [] = memO f0 tip := by
    show bc1 2 _ tl [] = bc1 2 _ _ []
    unfold bc1
    simp only [setT, htl]
  rw [hm]
  refine ⟨v, _, .agg [.sl 1 [] 0 32768 tip], fun _ => some (byA 32768 f'), id, hS tip, ⟨f', tip, hf' hby, rfl, rfl, rfl⟩, fun x hx => .inr (by cases List.mem_singleton.1 hx; rfl), rfl, fun j h => rfl, ?_, fun i t h0 hl ht => ?_, fun i j _ _ _ _ h => h, fun i j _ h => by simp at h, fun j kj sj ps h => by simp at h, .inl ⟨hv, rfl⟩⟩
  · rfl
  · have hi : i = 1 := by have : (objK 0).L = 2 := rfl; omega
    subst hi
    cases ht
    exact ⟨rfl, rfl⟩
def rwL : Lq := { n := 29, n0 := 2, ts := [0, 1, 2, 3, 8], mv := [], ids := [(0, .ce true), (1, .ce true)] }
def rwS (a n v : Int) (tip : Bool) (g : Nat → Int) (i : Int) : List AV := [.pt 0 [] E5, .it .u64 a, .it .i64 n, .it .u64 v, .it .i64 i, .agg [.sl 1 [] 0 32768 tip], byA 32768 g]
def rwP (a i : Int) : Int := iAdd .i64 (g8 .i64 a) i
def rwB (v i : Int) : Int := g8 .u8 (iShr .u64 v (iMul .u64 8 (g8 .u64 i)))
def rwN (a v : Int) (g : Nat → Int) (i : Int) : Nat → Int := fun j => bif j == (rwP a i).toNat then rwB v i else g j
theorem rwA (a n v : Int) (tip : Bool) (g : Nat → Int) (i : Int) : evC Tryz.prog okT PC NOH RO NOV 101 false (ai1 Tryz.f20.body 0) (rwL.F (rwS a n v tip g i)) (rwL.M (rwS a n v tip g i)) (bH8 0 (aZ3 rwL)) =
    some (iLt i n && (iIn (rwP a i) 32768 && true), .tup (.it .i64 0 :: rwS a n v tip (rwN a v g i) (iAdd .i64 i 1))) := by kernel_rfl
theorem rwX (a n v : Int) (tip : Bool) (g : Nat → Int) (i : Int) : evC Tryz.prog okT PC NOH RO NOV 101 false (ai1 Tryz.f20.body 0) (rwL.F (rwS a n v tip g i)) (rwL.M (rwS a n v tip g i)) (bH8 2 (aZ3 rwL)) =
    some (!iLt i n && true, .tup (.it .i64 2 :: rwS a n v tip g i)) := by kernel_rfl
def rwCs (g : Nat → Int) (a v : Int) : Nat → Nat → Int
  | 0 => g
  | i + 1 => rwN a v (rwCs g a v i) (i : Nat)
structure RwW where
  c : (Nat → Int) → Int → Int → Nat → Nat → Int
def rwShs : List Sh := [.ref, .int .u64, .int .i64, .int .u64, .int .i64, .agg [.ref], .arr 32768 (.int .u8)]
def rwC (a n : Int) : Bool := iLe 0 n && (iLe n 8 && (iLe 0 a && iLe (a + n) 32768))
def rwGo (tip : Bool) (W : RwW) : (Nat → AV) → Kc → Option Out := goJ (fun g => bB5 0 E5 (g 0) && (isSl 1 tip ((g 5).fld 0) && Nat.beq (lenSl ((g 5).fld 0)) 32768)) (fun g => iEq (g 4).num 0 && rwC (g 1).num (g 2).num) .normal
  (fun g => rwL.F (rwS (g 1).num (g 2).num (g 3).num tip (W.c (numA (g 6)) (g 1).num (g 3).num (g 2).num.toNat) (g 2).num)) (fun g => rwL.M (rwS (g 1).num (g 2).num (g 3).num tip (W.c (numA (g 6)) (g 1).num (g 3).num (g 2).num.toNat) (g 2).num))
theorem rwLaw (W : RwW) (a n v : Int) (tip : Bool) (f : Nat → Int) : evFn Tryz.prog okT PC NOH RO (ovN 0 rwL rwShs (rwGo tip W)) 101 false Tryz.f20 [.pt 0 [] E5, .it .u64 a, .it .i64 n, .it .u64 v] (memO f tip) (finQ memL) =
    some (iEq 0 0 && rwC a n && true, .tup [.it .i64 0, .tup [], .agg [.sl 1 [] 0 32768 tip], byA 32768 (W.c f a v n.toNat)]) := by
  cases tip
  · kernel_rfl
  · kernel_rfl
def rwW : RwW := ⟨rwCs⟩
theorem rwP_eq {a i : Int} (ha : 0 ≤ a) (ha' : a ≤ 32768) (hi : 0 ≤ i) (hi' : i ≤ 8) : rwP a i = a + i := by
  unfold rwP iAdd g8
  simp [IntKind.wrap, IntKind.bits, IntKind.signed]
  omega
theorem rwC_ok {a n : Int} (h : rwC a n = true) : 0 ≤ n ∧ n ≤ 8 ∧ 0 ≤ a ∧ a + n ≤ 32768 := by
  unfold rwC at h
  simp only [Bool.and_eq_true, J1] at h
  omega
theorem rwGo_ok (tip : Bool) : GoesN Tryz.prog 0 (.loop (ai1 Tryz.f20.body 0)) rwL rwShs (rwGo tip rwW) := goJ_ok fun g h1 h2 => by
  simp only [Bool.and_eq_true, Nat.beq_eq] at h1 h2
  obtain ⟨hn0, hn8, ha, han⟩ := rwC_ok h2.2
  refine ⟨aX1 (L := rwL) rfl, fun fr m hm hb => ?_⟩
  have hst : r7 rwShs 0 g = rwS (g 1).num (g 2).num (g 3).num tip (numA (g 6)) 0 := by
    have : r7 rwShs 0 g = [g 0, .it .u64 (g 1).num, .it .i64 (g 2).num, .it .u64 (g 3).num, .it .i64 (g 4).num, .agg [(g 5).fld 0], byA 32768 (numA (g 6))] := rfl
    rw [this, an9 h1.1, cD7 h1.2.1, h1.2.2, O2.1 h2.1]
    rfl
  rw [hst] at hb
  have hN : ((g 2).num.toNat : Int) = (g 2).num := Int.toNat_of_nonneg hn0
  have hend : ∀ G, rwS (g 1).num (g 2).num (g 3).num tip G (g 2).num = rwS (g 1).num (g 2).num (g 3).num tip G (((g 2).num.toNat : Nat) : Int) := fun G => by rw [hN]
  show Runs _ _ _ _ _ (rwL.F (rwS _ _ _ _ _ _)) (rwL.M (rwS _ _ _ _ _ _))
  rw [hend]
  refine aA1 (F := fun j => rwL.F (rwS (g 1).num (g 2).num (g 3).num tip (rwCs (numA (g 6)) (g 1).num (g 3).num j) (j : Nat))) (M := fun j => rwL.M (rwS (g 1).num (g 2).num (g 3).num tip (rwCs (numA (g 6)) (g 1).num (g 3).num j) (j : Nat))) (n := (g 2).num.toNat) (c := 2) (fun j hj => ?_) ?_ (by decide) hm hb (e := .exit 0) rfl
  · have hE := rwA (g 1).num (g 2).num (g 3).num tip (rwCs (numA (g 6)) (g 1).num (g 3).num j) ((j : Nat) : Int)
    have hP := rwP_eq ha (by omega) (Int.natCast_nonneg j) (by omega : (j : Int) ≤ 8)
    rw [bn9 j (by omega), ba5.2 (show (j : Int) < (g 2).num by omega), V8.2 (show 0 ≤ rwP (g 1).num j ∧ rwP (g 1).num j < (32768 : Nat) by rw [hP]; omega)] at hE
    exact dY1 (L := rwL) rfl (T5 0 (Part.refl _)) (aX1 (L := rwL) rfl) hE rfl rfl
  · have hE := rwX (g 1).num (g 2).num (g 3).num tip (rwCs (numA (g 6)) (g 1).num (g 3).num (g 2).num.toNat) (((g 2).num.toNat : Nat) : Int)
    refine dY1 (L := rwL) rfl (T5 2 (Part.refl _)) (aX1 (L := rwL) rfl) hE ?_ rfl
    rw [hN, Q2.2 (by omega)]; rfl
theorem rw_blk (c : Code) (hc : Tryz.f20.body = some c) : blks c = [(0, .loop (ai1 Tryz.f20.body 0)), (1, cM8 ((Tryz.f20.body).getD .skip) 1)] := by
  rw [show c = (Tryz.f20.body).getD .skip by rw [hc]; rfl]
  kernel_rfl
theorem rw_ov (tip : Bool) : ∀ c, Tryz.f20.body = some c → OvOk Tryz.prog (ovN 0 rwL rwShs (rwGo tip rwW)) c := fun c hc => ovN_ok rfl (rwGo_ok tip) fun x hx h => by
  rw [rw_blk c hc] at hx
  simp only [List.mem_cons, List.not_mem_nil, or_false] at hx
  rcases hx with rfl | rfl <;> first | rfl | (cases h; done)
def refW (f : Nat → Int) (a n v : Int) : Nat → Int := rwCs f a v n.toNat
theorem u8_in (x : Int) : 0 ≤ g8 .u8 x ∧ g8 .u8 x ≤ 255 := by
  unfold g8
  simp [IntKind.wrap, IntKind.bits, IntKind.signed]
  omega
theorem rwCs_by {f : Nat → Int} (a v : Int) (h : isBy f) : ∀ n, isBy (rwCs f a v n)
  | 0 => h
  | n + 1 => fun j => by
    show 0 ≤ (bif _ then rwB v n else rwCs f a v n j) ∧ (bif _ then rwB v n else rwCs f a v n j) ≤ 255
    cases j == (rwP a n).toNat with
    | true => exact u8_in _
    | false => exact rwCs_by a v h n j
theorem dW6 {f : Nat → Int} {a n v : Int} (hc : rwC a n = true) : Small Tryz.prog 20 [.pt 0 [] E5, .it .u64 a, .it .i64 n, .it .u64 v] (objM 0 (byA 32768 f) [] 1) (.tup []) (objM 0 (byA 32768 (refW f a n v)) [] 2) :=
  dm5 rfl (fun h => rwCs_by _ _ h _) rfl fun tip => ag0 mix A7 bl1 bl9 (L := memL) ⟨Tryz.func20, of_decide_eq_true (by kernel_rfl)⟩ (rw_ov tip) (rwLaw rwW a n v tip f) (by rw [hc]; rfl) rfl rfl rfl rfl rfl
def dt4 (shs : List Sh) (C : (Nat → AV) → Bool) (V : (Nat → AV) → (Nat → Int) → AV) (W : (Nat → AV) → (Nat → Int) → Nat → Int) : MRow := fun args m => match ce0 shs V W args m with
  | some (none, r) => some (some (C fun i => args.getD (i + 1) .un), r)
  | _ => none
theorem dO0 {F : FuncId} {shs : List Sh} {C : (Nat → AV) → Bool} {V : (Nat → AV) → (Nat → Int) → AV} {W : (Nat → AV) → (Nat → Int) → Nat → Int} (hshs : Sh.hasRef.Sh.hasRefs shs = false) (hV : ∀ g f, plain (V g f) = true ∧ okV (V g f) = true)
    (h : ∀ g f, (∀ a ∈ r7 shs 0 g, posA a) → isBy f → C g = true → Small Tryz.prog F (.pt 0 [] E5 :: r7 shs 0 g) (objM 0 (byA 32768 f) [] 1) (V g f) (objM 0 (byA 32768 (W g f)) [] 2)) : aa3 Tryz.prog F (dt4 shs C V W) := fun args m c τ v m1 he hcc => by
  unfold dt4 at he
  split at he <;> try (cases he; done)
  rename_i r he0
  injection he with he
  injection he with hec her
  subst her
  have hC : C (fun i => args.getD (i + 1) .un) = true := by
    rcases hcc with hcc | hcc <;> rw [hcc] at hec
    · cases hec
    · exact Option.some.inj hec
  clear hec hcc
  unfold ce0 at he0
  split at he0 <;> try (cases he0; done)
  rename_i id r rest
  cases hb : r.beq E5 && Sh.beqs (AV.shapes rest) shs with
  | false => rw [hb] at he0; cases he0
  | true =>
  rw [hb, cond_true] at he0
  simp only [Bool.and_eq_true] at hb
  have hr := Sh.beq_eq _ _ hb.1
  have hs := Sh.beqs_eq _ _ hb.2
  subst hr
  split at he0 <;> try (cases he0; done)
  rename_i k st hh hm
  cases hb2 : Nat.beq k 0 && !Nat.beq id hh with
  | false => rw [hb2] at he0; cases he0
  | true =>
  rw [hb2, cond_true] at he0
  cases he0
  simp only [Bool.and_eq_true, Nat.beq_eq, Bool.not_eq_true'] at hb2
  obtain ⟨rfl, hne⟩ := hb2
  have hne : id ≠ hh := fun e => by subst e; simp at hne
  refine ⟨.pt 0 [] E5 :: rest, objM 0 st [] 1, Small.of_args fun w1 w2 => Small.of_own (m := objM 0 st [] 1) (id := 0) (k := 0) rfl fun ⟨root, tl, hl⟩ => ?_, ⟨by simp [hne], rfl, ⟨.inr (.inl ⟨0, [], E5, rfl, rfl, Nat.succ_pos 1⟩), ag7 (aq9 rest (by rw [hs]; exact hshs))⟩, fun i b hb => ?_⟩, by show 2 ≤ 3; omega, (hV _ _).2, fun i b hb => ?_⟩
  · obtain ⟨f, tip, hby, rfl, _, _⟩ := (show memK.lay st root tl from hl)
    have e1 : r7 shs 0 (fun i => rest.getD i .un) = rest := aK5 shs rest 0 _ w1.2 hs fun j => by simp
    have := h (fun i => rest.getD i .un) f (fun a ha => w2 a (List.mem_cons_of_mem _ (by rw [e1] at ha; exact ha))) hby hC
    rw [e1] at this
    exact this
  · rcases aB1 hb with ⟨rfl, rfl⟩ | ⟨j, kj, sj, ps, hj, _, _⟩
    · exact ⟨Nat.succ_pos 1, rfl, (fun t wr e => by cases e), hm⟩
    · simp at hj
  · rcases aB1 hb with ⟨rfl, rfl⟩ | ⟨j, kj, sj, ps, hj, _, _⟩
    · exact ⟨by show 0 < 3; omega, rfl, fun h => by cases h⟩
    · simp at hj
def cJ3 : MRow := dt4 [.int .u64, .int .i64, .int .u64] (fun g => rwC (g 0).num (g 1).num) (fun _ _ => .tup []) (fun g f => refW f (g 0).num (g 1).num (g 2).num)
theorem cw1 : aa3 Tryz.prog 20 cJ3 := dO0 rfl (fun _ _ => ⟨rfl, rfl⟩) fun g f hp hf hC => dW6 hC
end
end Go.Proofs.YtbkdnehnhbaieaaGreat.PV
set_option linter.unusedVariables false
set_option linter.unusedSimpArgs false
set_option maxRecDepth 100000
namespace Go.Proofs.YtbkdnehnhbaieaaGreat.PV
noncomputable section
open Go Go.Ev
def aO9 : Sh := .agg [.int .u64, .int .u64]
def cs9 (n : Nat) (pa pv : Nat → Int) : AV := .arr n aO9 fun j => .agg [.it .u64 (pa j), .it .u64 (pv j)]
def ROl : FuncId → Bool := fun f => !(memN f [48, 20])
noncomputable def HL : Hd := hMem [(24, newRow), (46, newRow), (47, codeRow), (48, aX0), (20, cJ3)] NOH
theorem HL_ok : N6 Tryz.prog HL := ap2 E9 ⟨bd9 bO7, bd9 cy3, dU4, bB4, cw1, trivial⟩
def laL : Lq := { n := 93, n0 := 6, ts := [0, 1, 5, 8, 9, 10], mv := [], ids := [(0, .ce false), (1, .ce true), (2, .ob 0 []), (4, .ob 0 [])] }
def laS (n : Nat) (pa pv : Nat → Int) (s : Sta) (f r : Nat → Int) (i : Int) : List AV := [.sl 0 [] 0 n false, .nsl, .pt 1 [] bq7, .pt 2 [] E5, .pt 4 [] E5, .it .i64 i, cs9 n pa pv, staA s, byA 32768 f, byA 32768 r]
theorem laA (n : Nat) (pa pv : Nat → Int) (s : Sta) (f r : Nat → Int) (i : Int) : evC Tryz.prog okT PC HL ROl NOV 101 false (ai1 Tryz.f11.body 0) (laL.F (laS n pa pv s f r i)) (laL.M (laS n pa pv s f r i)) (bH8 0 (aZ3 laL)) =
    some (Om.land (iLt i n) (Om.land (iIn i n) (Om.pick (iEq (refC (pa (i.toNat + 0)) 8) 0)
      (iIn i n && (iIn i n && (iIn i n && (iIn i n && (rwC (pa (i.toNat + 0)) 8 && true)))), .tup (.it .i64 0 :: laS n pa pv s (cb8 f (pa (i.toNat + 0)) 8 (pv (i.toNat + 0))) (refW r (pa (i.toNat + 0)) 8 (pv (i.toNat + 0))) (iAdd .i64 i 1)))
      (true, .tup (.it .i64 0 :: laS n pa pv s f r (iAdd .i64 i 1)))))) := by kernel_rfl
theorem laX (n : Nat) (pa pv : Nat → Int) (s : Sta) (f r : Nat → Int) (i : Int) : evC Tryz.prog okT PC HL ROl NOV 101 false (ai1 Tryz.f11.body 0) (laL.F (laS n pa pv s f r i)) (laL.M (laS n pa pv s f r i)) (bH8 2 (aZ3 laL)) =
    some (!iLt i n && true, .tup (.it .i64 2 :: laS n pa pv s f r i)) := by kernel_rfl
def laTs : List Tm := [.fx .ref, .fx .ref, .fx .ref, .fx .ref, .fx .ref, .fx (.int .i64), .ar aO9, .fx bq7, .fx (.arr 32768 (.int .u8)), .fx (.arr 32768 (.int .u8))]
def arAt (a : AV) : Nat → Int := fun j => ((a.ix j).fld 0).num
def arV (a : AV) : Nat → Int := fun j => ((a.ix j).fld 1).num
structure LaW where
  f : Nat → (Nat → Int) → (Nat → Int) → (Nat → Int) → Nat → Int
  r : Nat → (Nat → Int) → (Nat → Int) → (Nat → Int) → Nat → Int
def laE (W : LaW) (g : Nat → AV) : List AV := laS (lenA (g 6)) (arAt (g 6)) (arV (g 6)) (J5 (g 7)) (W.f (lenA (g 6)) (arAt (g 6)) (arV (g 6)) (numA (g 8))) (W.r (lenA (g 6)) (arAt (g 6)) (arV (g 6)) (numA (g 9))) (lenA (g 6) : Nat)
def laGo (W : LaW) : (Nat → AV) → Kc → Option Out := goJ (fun g => isSl 0 false (g 0) && (isNil (g 1) && (bB5 1 bq7 (g 2) && (bB5 2 E5 (g 3) && bB5 4 E5 (g 4))))) (fun g => iEq (g 5).num 0 && (Nat.beq (lenSl (g 0)) (lenA (g 6)) && (Nat.ble (lenA (g 6)) 60 && bU7 (fun i => iLe 0 (arAt (g 6) i)) (lenA (g 6))))) .normal
  (fun g => laL.F (laE W g)) (fun g => laL.M (laE W g))
def laI : List (Nat × Bk × Nat) := [(0, .ce false, 0), (2, .ob 0 [], 8), (4, .ob 0 [], 9)]
theorem laLaw (W : LaW) (n : Nat) (pa pv : Nat → Int) (s : Sta) : evFn Tryz.prog okT PC HL ROl (ovT 0 laL laTs (laGo W)) 101 false Tryz.f11 [.sl 0 [] 0 n false, .nsl, staA s] { n := 1, t := (Tr.mk 12).set (some (.cells (cs9 n pa pv) false)) 0 } (finA 10 laI) =
    some (iEq 0 0 && (Nat.beq n n && (Nat.ble n 60 && bU7 (fun i => iLe 0 (pa i)) n)) && true, .tup [.tup [.pt 2 [] E5, .pt 4 [] E5], cs9 n pa pv, byA 32768 (W.f n pa pv fun _ => 0), byA 32768 (W.r n pa pv fun _ => 0)]) := by kernel_rfl
def laFs (pa pv f : Nat → Int) : Nat → Nat → Int
  | 0 => f
  | i + 1 => bif iEq (refC (pa i) 8) 0 then cb8 (laFs pa pv f i) (pa i) 8 (pv i) else laFs pa pv f i
def laRs (pa pv f : Nat → Int) : Nat → Nat → Int
  | 0 => f
  | i + 1 => bif iEq (refC (pa i) 8) 0 then refW (laRs pa pv f i) (pa i) 8 (pv i) else laRs pa pv f i
def laW : LaW := ⟨fun n pa pv f => laFs pa pv f n, fun n pa pv f => laRs pa pv f n⟩
theorem refC_rw {a : Int} (ha : 0 ≤ a) (h : iEq (refC a 8) 0 = true) : rwC a 8 = true := by
  rw [O2] at h
  unfold refC at h
  cases h1 : P9 a 8 with
  | true => rw [h1] at h; cases h
  | false =>
  rw [h1, cond_false] at h
  cases h2 : iLe 32768 a with
  | true => rw [h2] at h; cases h
  | false =>
  rw [h2, cond_false] at h
  rw [aD1] at h2
  cases h3 : iLt (iSub .u64 32768 a) (g8 .u64 8) with
  | true => rw [h3] at h; cases h
  | false =>
  rw [Q2] at h3
  have e1 : iSub .u64 32768 a = 32768 - a := by
    unfold iSub
    simp [IntKind.wrap, IntKind.bits, IntKind.signed]
    omega
  have e2 : g8 .u64 8 = 8 := rfl
  rw [e1, e2] at h3
  unfold rwC
  simp only [Bool.and_eq_true, J1]
  omega
theorem turnH {H : Hd} (hH : N6 Tryz.prog H) {ro : FuncId → Bool} {ov : Ov} {b : Code} (hov : OvOk Tryz.prog ov b) {L : Lq} (hL : L.wf = true) {K : Kc} (hK : Part L K) {fr : Fr} {m : Mem} (hg0 : NoGd fr) {c : Int} {r : List AV} {g : Bool}
    (he : evC Tryz.prog okT PC H ro ov 101 false b fr m K = some (g, .tup (.it .i64 c :: r))) (hg : g = true) (hr : L.ok r = true) : Turn Tryz.prog L.n0 b fr m c (L.F r) (L.M r) :=
  cM1 mix A7 bl1 hH hov hL hK hg0 he hg hr
theorem laGo_ok : GoesT Tryz.prog 0 (.loop (ai1 Tryz.f11.body 0)) laL laTs (laGo laW) := goT_ok fun g h1 h2 => by
  simp only [Bool.and_eq_true, Nat.beq_eq, Nat.ble_eq] at h1 h2
  obtain ⟨c0, c1, c2, c3, c4⟩ := h1
  obtain ⟨hi, hlen, h60, hpos⟩ := h2
  refine ⟨aX1 (L := laL) rfl, fun fr m hm hb => ?_⟩
  have hst : r7 (tmS g laTs 0) 0 g = laS (lenA (g 6)) (arAt (g 6)) (arV (g 6)) (J5 (g 7)) (numA (g 8)) (numA (g 9)) 0 := by
    have : r7 (tmS g laTs 0) 0 g = [g 0, g 1, g 2, g 3, g 4, .it .i64 (g 5).num, cs9 (lenA (g 6)) (arAt (g 6)) (arV (g 6)), staA (J5 (g 7)), byA 32768 (numA (g 8)), byA 32768 (numA (g 9))] := rfl
    rw [this, cD7 c0, isNil_ok c1, an9 c2, an9 c3, an9 c4, O2.1 hi, hlen]
    rfl
  rw [hst] at hb
  refine aA1 (F := fun j => laL.F (laS (lenA (g 6)) (arAt (g 6)) (arV (g 6)) (J5 (g 7)) (laFs (arAt (g 6)) (arV (g 6)) (numA (g 8)) j) (laRs (arAt (g 6)) (arV (g 6)) (numA (g 9)) j) (j : Nat)))
    (M := fun j => laL.M (laS (lenA (g 6)) (arAt (g 6)) (arV (g 6)) (J5 (g 7)) (laFs (arAt (g 6)) (arV (g 6)) (numA (g 8)) j) (laRs (arAt (g 6)) (arV (g 6)) (numA (g 9)) j) (j : Nat))) (n := lenA (g 6)) (c := 2) (fun j hj => ?_) ?_ (by decide) hm hb (e := .exit 0) rfl
  · have hE := laA (lenA (g 6)) (arAt (g 6)) (arV (g 6)) (J5 (g 7)) (laFs (arAt (g 6)) (arV (g 6)) (numA (g 8)) j) (laRs (arAt (g 6)) (arV (g 6)) (numA (g 9)) j) ((j : Nat) : Int)
    have hp := J1.1 (ca7 hpos j hj)
    rw [bn9 j (by omega), ba5.2 (show (j : Int) < (lenA (g 6) : Nat) by omega), V8.2 (show 0 ≤ (j : Int) ∧ (j : Int) < (lenA (g 6) : Nat) by omega)] at hE
    have ej : ((j : Int).toNat + 0) = j := by simp
    rw [ej] at hE
    show Turn _ _ _ _ _ _ (laL.F (laS _ _ _ _ (bif iEq (refC (arAt (g 6) j) 8) 0 then cb8 _ (arAt (g 6) j) 8 (arV (g 6) j) else _) (bif iEq (refC (arAt (g 6) j) 8) 0 then refW _ (arAt (g 6) j) 8 (arV (g 6) j) else _) _)) (laL.M (laS _ _ _ _ (bif iEq (refC (arAt (g 6) j) 8) 0 then cb8 _ (arAt (g 6) j) 8 (arV (g 6) j) else _) (bif iEq (refC (arAt (g 6) j) 8) 0 then refW _ (arAt (g 6) j) 8 (arV (g 6) j) else _) _))
    cases hc : iEq (refC (arAt (g 6) j) 8) 0 with
    | true =>
      rw [hc, Om.pick_t] at hE
      exact turnH HL_ok (m7 _) (L := laL) rfl (T5 0 (Part.refl _)) (aX1 (L := laL) rfl) hE (by rw [refC_rw hp hc]; rfl) rfl
    | false =>
      rw [hc, Om.pick_f] at hE
      exact turnH HL_ok (m7 _) (L := laL) rfl (T5 0 (Part.refl _)) (aX1 (L := laL) rfl) hE rfl rfl
  · refine turnH HL_ok (m7 _) (L := laL) rfl (T5 2 (Part.refl _)) (aX1 (L := laL) rfl) (laX _ _ _ _ _ _ ((lenA (g 6) : Nat) : Int)) ?_ rfl
    rw [Q2.2 (by omega)]; rfl
theorem la_blk (c : Code) (hc : Tryz.f11.body = some c) : blks c = [(0, .loop (ai1 Tryz.f11.body 0)), (1, cM8 ((Tryz.f11.body).getD .skip) 1), (2, cM8 ((Tryz.f11.body).getD .skip) 2), (3, cM8 ((Tryz.f11.body).getD .skip) 3)] := by
  rw [show c = (Tryz.f11.body).getD .skip by rw [hc]; rfl]
  kernel_rfl
theorem la_ov : ∀ c, Tryz.f11.body = some c → OvOk Tryz.prog (ovT 0 laL laTs (laGo laW)) c := fun c hc => ovT_ok rfl laGo_ok fun x hx h => by
  rw [la_blk c hc] at hx
  simp only [List.mem_cons, List.not_mem_nil, or_false] at hx
  rcases hx with rfl | rfl | rfl | rfl <;> first | rfl | (cases h; done)
def putM (n : Nat) (pa pv : Nat → Int) : Mem := { n := 1, t := (Tr.mk 12).set (some (.cells (cs9 n pa pv) false)) 0 }
theorem lai_small {n : Nat} {pa pv : Nat → Int} (s : Sta) (h60 : n ≤ 60) (hpos : bU7 (fun i => iLe 0 (pa i)) n = true) :
    Small Tryz.prog 11 [.sl 0 [] 0 n false, .nsl, staA s] (putM n pa pv) (.tup [.pt 2 [] E5, .pt 4 [] E5]) (matA 10 laI [cs9 n pa pv, byA 32768 (laFs pa pv (fun _ => 0) n), byA 32768 (laRs pa pv (fun _ => 0) n)]) :=
  aw3 mix A7 bl1 HL_ok ⟨Tryz.func11, of_decide_eq_true (by kernel_rfl)⟩ la_ov (laLaw laW n pa pv s) (by rw [Nat.ble_eq_true_of_le h60, hpos, Nat.beq_refl]; rfl)
end
end Go.Proofs.YtbkdnehnhbaieaaGreat.PV
set_option linter.unusedVariables false
set_option linter.unusedSimpArgs false
set_option maxRecDepth 100000
namespace Go.Proofs.YtbkdnehnhbaieaaGreat.PV
noncomputable section
open Go Go.Ev
def ROk : FuncId → Bool := fun f => !(memN f [17, 229, 77, 165, 138, 81, 274, 206, 142, 83, 48, 20, 65, 30, 67, 68, 114, 69, 70, 117, 164, 76, 75])
def SK : FuncId → Bool := fun _ => true
noncomputable def bZ4 : MRow := fun args m => match aY0 args m with
  | some (_, r) => some (none, r)
  | none => none
noncomputable def HK : Hd := inlO Tryz.prog okT PC ROk [11, 12, 33, 30, 67, 68, 114, 69, 70, 117, 164, 116, 76, 75, 50, 15, 65, 159, 132] 400 SK (fun h => u0 Tryz.prog 66 41 21 (hGr [(111, bI7 2 .i64), (79, be8)] (hMem [(24, newRow), (46, newRow), (48, aX0), (20, cJ3), (13, bK5), (74, cc3), (77, az2), (165, aG3), (83, bZ4)] h))) 12
theorem known_ev : evFn Tryz.prog okT PC HK ROk NOV 101 true Tryz.f10 [] Mem.empty (finQ L0) = some (true, .tup [.it .i64 0, .bl true]) := by kernel_rfl
theorem exDoRow_c {args : List AV} {m : Mem} {c : Option Bool} {r : List Nat × AV × Mem} (h : aY0 args m = some (c, r)) : c = none ∨ c = some true := by
  unfold aY0 aL0 at h
  split at h <;> try (cases h; done)
  rename_i b r rest
  cases hb : r.beq J6 && Sh.beqs (AV.shapes rest) [sh5Q, (.int .u32)] with
  | false => rw [hb] at h; cases h
  | true =>
  rw [hb, cond_true] at h
  split at h <;> try (cases h; done)
  rename_i k st q r' hh hm
  split at h <;> try (cases h; done)
  rename_i k' st' hh' hm'
  cases hb2 : (Nat.beq k 1 && (Nat.beq k' 0 && r'.beq E5)) && aI4 [b, q, hh, hh'] with
  | false => rw [hb2] at h; cases h
  | true =>
  rw [hb2, cond_true] at h
  cases h
  right
  exact congrArg some (cu7 _ _ _ _ _ _ _ _ _ _ _)
theorem dw8 : aa3 Tryz.prog 83 bZ4 := fun args m c τ v m1 he hc => by
  unfold bZ4 at he
  cases h : aY0 args m with
  | none => rw [h] at he; cases he
  | some x =>
  obtain ⟨c', r⟩ := x
  rw [h] at he
  cases he
  exact cx8 args m c' τ v m1 h (exDoRow_c h)
theorem HK_ok : N6 Tryz.prog HK := o9 mix A7 bl1 (aA8 (by kernel_rfl)) (fun h hh => o5 p8 (au3 (ap2 hh
  (show MOk Tryz.prog [(24, newRow), (46, newRow), (48, aX0), (20, cJ3), (13, bK5), (74, cc3), (77, az2), (165, aG3), (83, bZ4)] from ⟨bd9 bO7, bd9 cy3, bB4, cw1, cx3, cR6, bF2, bv8, dw8, trivial⟩)) (show GOk Tryz.prog [(111, bI7 2 .i64), (79, be8)] from ⟨add_ok, cu0, trivial⟩))) 12
theorem dw5 : Small Tryz.prog 10 [] Mem.empty (.bl true) Mem.empty :=
  ag0 mix A7 bl1 HK_ok (L := L0) ⟨Tryz.func10, of_decide_eq_true (by kernel_rfl)⟩ (fun c _ => m7 c) known_ev rfl rfl rfl rfl rfl rfl
def bZ1 : MRow := fun args _ => match args with
  | [] => some (none, [], .bl true, Mem.empty)
  | _ => none
theorem dx9 : aa3 Tryz.prog 10 bZ1 := fun args m c τ u m1 he _ => by
  unfold bZ1 at he
  split at he <;> try (cases he; done)
  cases he
  refine ⟨[], Mem.empty, dw5, ⟨List.nodup_nil, rfl, trivial, fun i b hb => ?_⟩, Nat.zero_le _, rfl, fun i b hb => ?_⟩
  · simp only [Mem.get, Mem.empty, Tr.get_mk] at hb; cases hb
  · simp only [Mem.get, Mem.empty, Tr.get_mk] at hb; cases hb
end
end Go.Proofs.YtbkdnehnhbaieaaGreat.PV
set_option linter.unusedVariables false
set_option linter.unusedSimpArgs false
set_option maxRecDepth 100000
namespace Go.Proofs.YtbkdnehnhbaieaaGreat.PV
noncomputable section
open Go Go.Ev
structure Mc where
  s : Sta
  n : Int
  B : BusS
def cz6 (M : Mc) (l : Bool) : AV := bZ5 M.B.t M.B.a M.B.o M.B.f M.s.X M.s.pc M.s.lv M.s.V M.s.C M.s.dn M.n l
def stepM (M : Mc) (l : Bool) : Mc := ⟨J5 ((Y1 (cz6 M l) 2).fld 0), ((((Y1 (cz6 M l) 2).fld 2).fld 2)).num, ⟨tmOf (Y1 (cz6 M l) 3), alOf (Y1 (cz6 M l) 3), oOf (Y1 (cz6 M l) 3), fOf (Y1 (cz6 M l) 4)⟩⟩
structure Ret where
  pc : Int
  w : Int
  rd : Int
  val : Int
  tr : Bool
  fc : Int
  fv : Int
  fg : Int
  fb : Bool
  lv : Int
  v : Bool
  ln : Bool
def retA (r : Ret) : AV := .agg [.it .u64 r.pc, .it .u32 r.w, .it .i64 r.rd, .it .u64 r.val, .bl r.tr, .agg [.it .u64 r.fc, .it .u64 r.fv, .it .u64 r.fg, .bl r.fb], .it .i64 r.lv, .bl r.v, .bl r.ln]
def deRet (a : AV) : Ret := ⟨(a.fld 0).num, (a.fld 1).num, (a.fld 2).num, (a.fld 3).num, (a.fld 4).bool, ((a.fld 5).fld 0).num, ((a.fld 5).fld 1).num, ((a.fld 5).fld 2).num, ((a.fld 5).fld 3).bool, (a.fld 6).num, (a.fld 7).bool, (a.fld 8).bool⟩
def cF4 (M : Mc) (l : Bool) : Ret := deRet (Y1 (cz6 M l) 1)
structure StW where
  st : Mc → Bool → Mc
  re : Mc → Bool → Ret
def stW : StW := ⟨stepM, cF4⟩
def mcA (b : Nat) (s : AV) (n : Int) : AV := .agg [s, .pt b [] J6, .agg [.agg [], .agg [], .it .i64 n]]
theorem stepV_eq (M : Mc) (l : Bool) : cz6 M l = .tup [.it .i64 0, retA (cF4 M l), mcA 1 (staA (stepM M l).s) (stepM M l).n, busA (stepM M l).B.t (stepM M l).B.a (stepM M l).B.o, byA 32768 (stepM M l).B.f] := by kernel_rfl
noncomputable def isaH : Hd := inlO Tryz.prog okT (m5 bq9) RO [65] 400 ST (fun _ => hGr [(111, bI7 2 .i64), (79, be8)] (hMem [(77, az2), (81, aU9), (83, aY0)] NOH)) 8
theorem isaH_ok : N6 Tryz.prog isaH := o9 mix A7 ac2 (aA8 (by kernel_rfl)) (fun h hh => au3 (ap2 E9 (show MOk Tryz.prog [(77, az2), (81, aU9), (83, aY0)] from ⟨bF2, cD3, cx8, trivial⟩))
  (show GOk Tryz.prog [(111, bI7 2 .i64), (79, be8)] from ⟨add_ok, cu0, trivial⟩)) 8
def mcM (M : Mc) : Mem := isaM (staA M.s) M.n M.B
theorem dT8 (M : Mc) (l : Bool) : Small Tryz.prog 39 [.pt 0 [] cs0, .bl l] (mcM M) (retA (cF4 M l)) (isaL.M [retA (cF4 M l), mcA 1 (staA (stepM M l).s) (stepM M l).n, busA (stepM M l).B.t (stepM M l).B.a (stepM M l).B.o, byA 32768 (stepM M l).B.f]) := by
  have hE := isaStepE M.B.t M.B.a M.B.o M.B.f M.s.X M.s.pc M.s.lv M.s.V M.s.C M.s.dn M.n l
  rw [cB8] at hE
  have h2 := stepV_eq M l
  unfold cz6 at h2
  rw [h2] at hE
  exact ag0 mix A7 ac2 isaH_ok (L := isaL) ⟨Tryz.func39, of_decide_eq_true (by kernel_rfl)⟩ (fun c _ => m7 c) hE rfl rfl rfl rfl rfl rfl
def cD2 (W : StW) : GRow := fun args m => match args with
  | [.pt id [] r, .bl l] => bif r.beq cs0 then (match m.get id with
    | some (.cells (.agg [sv, .pt b [] rb, .agg [.agg [], .agg [], .it .i64 n]]) true) => (match m.get b with
      | some (.obj k st [.pt q [] r'] h) => (match m.get q with
        | some (.obj k' st' [] h') => bif (Nat.beq k 1 && (Nat.beq k' 0 && (r'.beq E5 && (rb.beq J6 && (sv.shape.beq bq7 && aI4 [id, b, q, h, h']))))) then
            some (none, renV [id, b, q, h, h'] m.n (retA (W.re ⟨J5 sv, n, ⟨tmOf st, alOf st, oOf st, fOf st'⟩⟩ l)), cx2 m [id, b, q, h, h']
              (isaL.M [retA (W.re ⟨J5 sv, n, ⟨tmOf st, alOf st, oOf st, fOf st'⟩⟩ l), mcA 1 (staA (W.st ⟨J5 sv, n, ⟨tmOf st, alOf st, oOf st, fOf st'⟩⟩ l).s) (W.st ⟨J5 sv, n, ⟨tmOf st, alOf st, oOf st, fOf st'⟩⟩ l).n,
                busA (W.st ⟨J5 sv, n, ⟨tmOf st, alOf st, oOf st, fOf st'⟩⟩ l).B.t (W.st ⟨J5 sv, n, ⟨tmOf st, alOf st, oOf st, fOf st'⟩⟩ l).B.a (W.st ⟨J5 sv, n, ⟨tmOf st, alOf st, oOf st, fOf st'⟩⟩ l).B.o, byA 32768 (W.st ⟨J5 sv, n, ⟨tmOf st, alOf st, oOf st, fOf st'⟩⟩ l).B.f])) else none
        | _ => none)
      | _ => none)
    | _ => none) else none
  | _ => none
theorem mcM_get {M : Mc} {i : Nat} {b : Blk} (h : (mcM M).get i = some b) : (i = 0 ∧ b = .cells (mcA 1 (staA M.s) M.n) true) ∨ (i = 1 ∧ b = .obj 1 (busA M.B.t M.B.a M.B.o) [.pt 2 [] E5] 3) ∨ (i = 2 ∧ b = .obj 0 (byA 32768 M.B.f) [] 4) := by
  unfold mcM isaM Mem.get at h
  rcases Tr.get_set _ _ _ _ _ h with ⟨rfl, h⟩ | ⟨_, h⟩
  · cases h; exact .inr (.inr ⟨rfl, rfl⟩)
  · rcases Tr.get_set _ _ _ _ _ h with ⟨rfl, h⟩ | ⟨_, h⟩
    · cases h; exact .inr (.inl ⟨rfl, rfl⟩)
    · rcases Tr.get_set _ _ _ _ _ h with ⟨rfl, h⟩ | ⟨_, h⟩
      · cases h; exact .inl ⟨rfl, rfl⟩
      · rw [Tr.get_mk] at h; cases h
theorem staA_wf (s : Sta) : (staA s).wf := ⟨fun _ => ⟨trivial, rfl⟩, trivial, trivial, trivial, fun _ => ⟨trivial, rfl⟩, trivial, trivial⟩
theorem isaL_M {a v1 v2 v3 : AV} {i : Nat} {b : Blk} {m : Mem} (h : (isaL.M [a, v1, v2, v3]).get i = some b) : i < 8 ∧ isMap b = false ∧ (b.wr = false → m.get i = some b) := by
  have h : ((((Tr.mk 12).set (some (.cells v1 true)) 0).set (some (.obj 1 v2 [.pt 2 [] E5] 6)) 1).set (some (.obj 0 v3 [] 7)) 2).get i = some b := h
  rcases Tr.get_set _ _ _ _ _ h with ⟨rfl, h⟩ | ⟨_, h⟩
  · cases h; exact ⟨by omega, rfl, fun h => by cases h⟩
  · rcases Tr.get_set _ _ _ _ _ h with ⟨rfl, h⟩ | ⟨_, h⟩
    · cases h; exact ⟨by omega, rfl, fun h => by cases h⟩
    · rcases Tr.get_set _ _ _ _ _ h with ⟨rfl, h⟩ | ⟨_, h⟩
      · cases h; exact ⟨by omega, rfl, fun h => by cases h⟩
      · rw [Tr.get_mk] at h; cases h
theorem dM1 : ax2 Tryz.prog 39 (cD2 stW) := fun args m c v m1 he _ => by
  unfold cD2 at he
  split at he <;> try (cases he; done)
  rename_i id r l
  cases hr : r.beq cs0 with
  | false => rw [hr] at he; cases he
  | true =>
  rw [hr, cond_true] at he
  have hr := Sh.beq_eq _ _ hr
  subst hr
  split at he <;> try (cases he; done)
  rename_i sv b rb n hm
  split at he <;> try (cases he; done)
  rename_i k st q r' h hmb
  split at he <;> try (cases he; done)
  rename_i k' st' h' hmq
  cases hc : (Nat.beq k 1 && (Nat.beq k' 0 && (r'.beq E5 && (rb.beq J6 && (sv.shape.beq bq7 && aI4 [id, b, q, h, h']))))) with
  | false => rw [hc] at he; cases he
  | true =>
  rw [hc, cond_true] at he
  cases he
  simp only [Bool.and_eq_true, Nat.beq_eq] at hc
  obtain ⟨rfl, rfl, c1, c2, c3, hap⟩ := hc
  have c1 := Sh.beq_eq _ _ c1
  have c2 := Sh.beq_eq _ _ c2
  have c3 := Sh.beq_eq _ _ c3
  subst c1 c2
  refine Small.of_wf fun w1 w2 => Small.of_own hmb fun ⟨root, tl, hl⟩ => Small.of_own hmq fun ⟨root', tl', hl'⟩ => ?_
  obtain ⟨time, alarm, o, vo, t0, a0, rfl, _⟩ := (show busK.lay st root tl from hl)
  obtain ⟨f, tip, hby, rfl, _⟩ := (show memK.lay st' root' tl' from hl')
  have hsv : staA (J5 sv) = sv := by
    rw [← cb1]
    exact norm_eq bq7 sv (w2 _ _ _ hm).1 c3
  refine Small.great (dT8 ⟨J5 sv, n, ⟨time, alarm, o, f⟩⟩ l) (m := m) (τ := [id, b, q, h, h']) ⟨bd0 hap, rfl, ⟨.inr (.inl ⟨0, [], cs0, rfl, rfl, Nat.succ_pos 4⟩), .inl ⟨rfl, rfl⟩, trivial⟩, fun i b' hb' => ?_⟩ ⟨by show 5 ≤ 8; omega, rfl, fun i b' hb' => ?_⟩
  · rcases mcM_get hb' with ⟨rfl, rfl⟩ | ⟨rfl, rfl⟩ | ⟨rfl, rfl⟩
    · refine ⟨Nat.succ_pos 4, rfl, fun t wr e => ?_, ?_⟩
      · cases e
        exact .inl ⟨staA_wf _, trivial, ⟨⟨trivial, trivial, trivial, trivial⟩, trivial⟩⟩
      · show m.get id = some (.cells (.agg [renA _ (staA (J5 sv)), .pt b [] J6, .agg [.agg [], .agg [], .it .i64 n]]) true)
        rw [Z8 _ _ (show plain (staA (J5 sv)) = true from rfl), hsv]
        exact hm
    · exact ⟨by show 1 < 5; omega, rfl, (fun t wr e => by cases e), hmb⟩
    · exact ⟨by show 2 < 5; omega, rfl, (fun t wr e => by cases e), hmq⟩
  · exact isaL_M hb'
end
end Go.Proofs.YtbkdnehnhbaieaaGreat.PV
set_option linter.unusedVariables false
set_option linter.unusedSimpArgs false
set_option maxRecDepth 100000
namespace Go.Proofs.YtbkdnehnhbaieaaGreat.PV
noncomputable section
open Go Go.Ev
def ln0 : List (Nat × Bk × Nat) := [(1, .ob 0 [], 2), (3, .ob 0 [], 4)]
theorem lan_ev (s : Sta) : evFn Tryz.prog okT PC HL ROl NOV 100 false Tryz.f11 [.nsl, .nsl, staA s] Mem.empty (finA 5 ln0) = some (true, .tup [.tup [.pt 1 [] E5, .pt 3 [] E5], byA 32768 (fun _ => 0), byA 32768 (fun _ => 0)]) := by kernel_rfl
theorem lan_small (s : Sta) : Small Tryz.prog 11 [.nsl, .nsl, staA s] Mem.empty (.tup [.pt 1 [] E5, .pt 3 [] E5]) (matA 5 ln0 [byA 32768 (fun _ => 0), byA 32768 (fun _ => 0)]) :=
  aw3 mix A7 bl1 HL_ok ⟨Tryz.func11, of_decide_eq_true (by kernel_rfl)⟩ (fun c _ => m7 c) (lan_ev s) rfl
theorem two_get {N a b h1 h2 : Nat} {v1 v2 : AV} {i : Nat} {x : Blk} (h : (matA N [(a, .ob 0 [], h1), (b, .ob 0 [], h2)] [v1, v2]).get i = some x) : (i = a ∧ x = .obj 0 v1 [] h1) ∨ (i = b ∧ x = .obj 0 v2 [] h2) := by
  have h : (((Tr.mk 12).set (some (.obj 0 v1 [] h1)) a).set (some (.obj 0 v2 [] h2)) b).get i = some x := h
  rcases Tr.get_set _ _ _ _ _ h with ⟨e, h'⟩ | ⟨_, h'⟩
  · cases h'; exact .inr ⟨e, rfl⟩
  · rcases Tr.get_set _ _ _ _ _ h' with ⟨e, h''⟩ | ⟨_, h''⟩
    · cases h''; exact .inl ⟨e, rfl⟩
    · rw [Tr.get_mk] at h''; cases h''
theorem laI_get {a v1 v2 : AV} {i : Nat} {x : Blk} (h : (matA 10 laI [a, v1, v2]).get i = some x) : (i = 0 ∧ x = .cells a false) ∨ (i = 2 ∧ x = .obj 0 v1 [] 8) ∨ (i = 4 ∧ x = .obj 0 v2 [] 9) := by
  have h : ((((Tr.mk 12).set (some (.cells a false)) 0).set (some (.obj 0 v1 [] 8)) 2).set (some (.obj 0 v2 [] 9)) 4).get i = some x := h
  rcases Tr.get_set _ _ _ _ _ h with ⟨e, h'⟩ | ⟨_, h'⟩
  · cases h'; exact .inr (.inr ⟨e, rfl⟩)
  · rcases Tr.get_set _ _ _ _ _ h' with ⟨e, h''⟩ | ⟨_, h''⟩
    · cases h''; exact .inr (.inl ⟨e, rfl⟩)
    · rcases Tr.get_set _ _ _ _ _ h'' with ⟨e, h3⟩ | ⟨_, h3⟩
      · cases h3; exact .inl ⟨e, rfl⟩
      · rw [Tr.get_mk] at h3; cases h3
def cD6 : MRow := fun args m => match args with
  | [.nsl, .nsl, s] => bif s.shape.beq bq7 && plain s then some (none, [], .tup [.pt 1 [] E5, .pt 3 [] E5], matA 5 ln0 [byA 32768 (fun _ => 0), byA 32768 (fun _ => 0)]) else none
  | [.sl id [] 0 n false, .nsl, s] => bif s.shape.beq bq7 && plain s then (match m.get id with
    | some (.cells (.arr n' sh f) false) => bif sh.beq aO9 then
        some (some (Nat.beq n n' && (Nat.ble n 60 && bU7 (fun i => iLe 0 ((f i).fld 0).num) n)), [id], .tup [.pt 2 [] E5, .pt 4 [] E5],
          matA 10 laI [.arr n' sh f, byA 32768 (laFs (fun i => ((f i).fld 0).num) (fun i => ((f i).fld 1).num) (fun _ => 0) n), byA 32768 (laRs (fun i => ((f i).fld 0).num) (fun i => ((f i).fld 1).num) (fun _ => 0) n)]) else none
    | _ => none) else none
  | _ => none
theorem dV0 : aa3 Tryz.prog 11 cD6 := fun args m c τ v m1 he hcc => by
  unfold cD6 at he
  split at he
  · rename_i s
    cases hs : s.shape.beq bq7 && plain s with
    | false => rw [hs] at he; cases he
    | true =>
    rw [hs, cond_true] at he
    cases he
    simp only [Bool.and_eq_true] at hs
    refine ⟨[.nsl, .nsl, s], Mem.empty, Small.of_wf fun w1 _ => ?_, ⟨List.nodup_nil, rfl, ⟨.inl ⟨rfl, rfl⟩, .inl ⟨rfl, rfl⟩, .inl ⟨hs.2, rfl⟩, trivial⟩, fun i b hb => ?_⟩, Nat.zero_le _, rfl, fun i b hb => ?_⟩
    · have := lan_small (J5 s)
      rw [← cb1, norm_eq bq7 s w1.2.2.1 (Sh.beq_eq _ _ hs.1)] at this
      exact this
    · simp only [Mem.get, Mem.empty, Tr.get_mk] at hb; cases hb
    · rcases two_get hb with ⟨rfl, rfl⟩ | ⟨rfl, rfl⟩
      · exact ⟨by show 1 < 5; omega, rfl, fun h => by cases h⟩
      · exact ⟨by show 3 < 5; omega, rfl, fun h => by cases h⟩
  · rename_i id n s
    cases hs : s.shape.beq bq7 && plain s with
    | false => rw [hs] at he; cases he
    | true =>
    rw [hs, cond_true] at he
    simp only [Bool.and_eq_true] at hs
    split at he <;> try (cases he; done)
    rename_i n' sh f hm
    cases hb : sh.beq aO9 with
    | false => rw [hb] at he; cases he
    | true =>
    rw [hb, cond_true] at he
    have hb := Sh.beq_eq _ _ hb
    subst hb
    cases he
    rcases hcc with hcc | hcc
    · cases hcc
    injection hcc with hcc
    simp only [Bool.and_eq_true, Nat.beq_eq, Nat.ble_eq] at hcc
    obtain ⟨hn, h60, hpos⟩ := hcc
    subst hn
    have hget : ∀ {i : Nat} {b : Blk}, Mem.get { n := 1, t := (Tr.mk 12).set (some (.cells (.arr n aO9 f) false)) 0 } i = some b → i = 0 ∧ b = .cells (.arr n aO9 f) false := fun {i b} h => by
      rcases Tr.get_set _ _ _ _ _ (show ((Tr.mk 12).set (some (.cells (.arr n aO9 f) false)) 0).get i = some b from h) with ⟨rfl, h⟩ | ⟨_, h⟩
      · cases h; exact ⟨rfl, rfl⟩
      · rw [Tr.get_mk] at h; cases h
    have hpl : plain (.arr n aO9 f) = true := rfl
    refine ⟨[.sl 0 [] 0 n false, .nsl, s], { n := 1, t := (Tr.mk 12).set (some (.cells (.arr n aO9 f) false)) 0 }, Small.of_wf fun w1 w2 => ?_, ⟨by simp, rfl, ⟨?_, .inl ⟨rfl, rfl⟩, .inl ⟨hs.2, rfl⟩, trivial⟩, fun i b hb => ?_⟩, by show 1 ≤ 10; omega, rfl, fun i b hb => ?_⟩
    · have := lai_small (n := n) (pa := fun i => ((f i).fld 0).num) (pv := fun i => ((f i).fld 1).num) (J5 s) h60 hpos
      rw [← cb1, norm_eq bq7 s w1.2.2.1 (Sh.beq_eq _ _ hs.1)] at this
      have hf : cs9 n (fun i => ((f i).fld 0).num) (fun i => ((f i).fld 1).num) = .arr n aO9 f := norm_eq (.arr n aO9) (.arr n aO9 f) (w2 0 _ _ rfl) rfl
      unfold putM at this
      rw [hf] at this
      exact this
    · exact .inr (.inr ⟨0, [], 0, n, false, rfl, rfl, Nat.one_pos⟩)
    · obtain ⟨rfl, rfl⟩ := hget hb
      refine ⟨Nat.one_pos, rfl, fun t wr e => ?_, ?_⟩
      · cases e; exact .inr hpl
      · rw [bJ5 _ hpl]; exact hm
    · rcases laI_get hb with ⟨rfl, rfl⟩ | ⟨rfl, rfl⟩ | ⟨rfl, rfl⟩
      · exact ⟨by show 0 < 10; omega, rfl, fun _ => rfl⟩
      · exact ⟨by show 2 < 10; omega, rfl, fun h => by cases h⟩
      · exact ⟨by show 4 < 10; omega, rfl, fun h => by cases h⟩
  · cases he
structure TtW where
  S : StW
  c : CcW
def ROt : FuncId → Bool := fun f => !(memN f [10, 11, 13, 38, 39, 40])
def boA (n : Nat) (f : Nat → Bool) : AV := .arr n .bool fun j => .bl (f j)
noncomputable def ttS (ma bu me ln n : Nat) (f : Nat → Bool) (M : Mc) (i : Int) : List AV := [.sl ln [] 0 n false, .pt ma [] cs0, .it .i64 i, mcA bu (staA M.s) M.n, busA M.B.t M.B.a M.B.o, byA 32768 M.B.f, boA n f]
noncomputable def ttL (n0 ma bu me ln : Nat) : Lq := { n := 104, n0 := n0, ts := [2, 9, 10], mv := [], ids := [(ma, .ce true), (bu, .ob 1 [(me, E5)]), (me, .ob 0 []), (ln, .ce false)] }
noncomputable def eqSt (s t : Sta) : Bool := match evEq Tryz.prog okT 8 34 (staA s) (staA t) with | some b => b | none => false
noncomputable def eqF (r : Ret) : Bool := match evEq Tryz.prog okT 8 43 (.agg [.it .u64 r.fc, .it .u64 r.fv, .it .u64 r.fg, .bl r.fb]) (.agg [.it .u64 0, .it .u64 0, .it .u64 0, .bl false]) with | some b => b | none => false
noncomputable def cy1 (W : TtW) (s : Sta) : Bool := bif bif bif iNe (s.X 0) 0 then true else bif bif iNe s.lv 0 then iNe s.lv 1 else false then iNe s.lv 3 else false then true else bif s.V then iEq s.lv 3 else false then true else !eqSt s (W.c.cl s)
noncomputable def cl6 (W : TtW) (s : Sta) (r : Ret) (l : Bool) : Bool := bif cy1 W s then true else !(r.ln == l)
noncomputable def cv3 (W : TtW) (s : Sta) (r : Ret) (l : Bool) : Bool := bif cl6 W s r l then true else !(r.tr == bif !eqF r then true else iNe r.lv 0)
end
end Go.Proofs.YtbkdnehnhbaieaaGreat.PV
set_option linter.unusedVariables false
set_option linter.unusedSimpArgs false
set_option maxRecDepth 100000
namespace Go.Proofs.YtbkdnehnhbaieaaGreat.PV
noncomputable section
open Go Go.Ev
structure Flt where
  c : Int
  v : Int
  g : Int
  b : Bool
structure Ins where
  op : Int
  rd : Int
  r1 : Int
  r2 : Int
  im : Int
  cs : Int
structure Res where
  s : Sta
  val : Int
  f : Flt
  ok : Bool
structure Acc where
  v : Int
  f : Flt
  ok : Bool
def decI (w : Int) : Ins := ⟨d1 w, d4 w, d5 w, d6 w, d3 w, d7 w⟩
def cU2 (s : Sta) (f : Flt) (l : Int) (v : Bool) : Sta := ⟨s.X, L2 s.X s.pc s.lv s.V s.C s.dn f.c f.v f.g f.b l v, R7 s.X s.pc s.lv s.V s.C s.dn f.c f.v f.g f.b l v, az8 s.X s.pc s.lv s.V s.C s.dn f.c f.v f.g f.b l v, I1 s.X s.pc s.lv s.V s.C s.dn f.c f.v f.g f.b l v, s.dn⟩
def excL (s : Sta) (c : Int) : Int := J3 s.X s.pc s.lv s.V s.C s.dn c
def excV (s : Sta) (c : Int) : Bool := N8 s.X s.pc s.lv s.V s.C s.dn c
def faultS (s : Sta) (f : Flt) : Sta := cU2 s f (excL s f.c) (excV s f.c)
def faultR (s : Sta) (f : Flt) (w : Int) : Ret := ⟨s.pc, w, 0, 0, true, f.c, f.v, f.g, f.b, excL s f.c, excV s f.c, false⟩
def intrR (s : Sta) (c l : Int) (v : Bool) : Ret := ⟨s.pc, 0, 0, 0, true, c, 0, 0, false, l, v, false⟩
def accS (B : BusS) (s : Sta) (i : Ins) : Acc := ⟨bD9 B.t B.a B.o B.f s.X s.pc s.lv s.V s.C s.dn i.op i.rd i.r1 i.r2 i.im i.cs, ⟨aX7 B.t B.a B.o B.f s.X s.pc s.lv s.V s.C s.dn i.op i.rd i.r1 i.r2 i.im i.cs, ba4 B.t B.a B.o B.f s.X s.pc s.lv s.V s.C s.dn i.op i.rd i.r1 i.r2 i.im i.cs, aV5 B.t B.a B.o B.f s.X s.pc s.lv s.V s.C s.dn i.op i.rd i.r1 i.r2 i.im i.cs, aF4 B.t B.a B.o B.f s.X s.pc s.lv s.V s.C s.dn i.op i.rd i.r1 i.r2 i.im i.cs⟩, r8 B.t B.a B.o B.f s.X s.pc s.lv s.V s.C s.dn i.op i.rd i.r1 i.r2 i.im i.cs⟩
def doesS (B : BusS) (s : Sta) (i : Ins) : Res := ⟨⟨bN2 B.t B.a B.o B.f s.X s.pc s.lv s.V s.C s.dn i.op i.rd i.r1 i.r2 i.im i.cs, bB1 B.t B.a B.o B.f s.X s.pc s.lv s.V s.C s.dn i.op i.rd i.r1 i.r2 i.im i.cs, bv6 B.t B.a B.o B.f s.X s.pc s.lv s.V s.C s.dn i.op i.rd i.r1 i.r2 i.im i.cs, bw4 B.t B.a B.o B.f s.X s.pc s.lv s.V s.C s.dn i.op i.rd i.r1 i.r2 i.im i.cs, bA0 B.t B.a B.o B.f s.X s.pc s.lv s.V s.C s.dn i.op i.rd i.r1 i.r2 i.im i.cs, bz1 B.t B.a B.o B.f s.X s.pc s.lv s.V s.C s.dn i.op i.rd i.r1 i.r2 i.im i.cs⟩, bP8 B.t B.a B.o B.f s.X s.pc s.lv s.V s.C s.dn i.op i.rd i.r1 i.r2 i.im i.cs, ⟨ae9 B.t B.a B.o B.f s.X s.pc s.lv s.V s.C s.dn i.op i.rd i.r1 i.r2 i.im i.cs, ae7 B.t B.a B.o B.f s.X s.pc s.lv s.V s.C s.dn i.op i.rd i.r1 i.r2 i.im i.cs, U4 B.t B.a B.o B.f s.X s.pc s.lv s.V s.C s.dn i.op i.rd i.r1 i.r2 i.im i.cs, U3 B.t B.a B.o B.f s.X s.pc s.lv s.V s.C s.dn i.op i.rd i.r1 i.r2 i.im i.cs⟩, D8 B.t B.a B.o B.f s.X s.pc s.lv s.V s.C s.dn i.op i.rd i.r1 i.r2 i.im i.cs⟩
def doesB (B : BusS) (s : Sta) (i : Ins) : BusS := ⟨B.t, aY5 B.t B.a B.o B.f s.X s.pc s.lv s.V s.C s.dn i.op i.rd i.r1 i.r2 i.im i.cs, ba2 B.t B.a B.o B.f s.X s.pc s.lv s.V s.C s.dn i.op i.rd i.r1 i.r2 i.im i.cs, aW1 B.t B.a B.o B.f s.X s.pc s.lv s.V s.C s.dn i.op i.rd i.r1 i.r2 i.im i.cs⟩
def dW8 (s : Sta) (i : Ins) : Res := ⟨⟨ab9 s.X s.pc s.lv s.V s.C s.dn i.op i.rd i.r1 i.r2 i.im i.cs, X6 s.X s.pc s.lv s.V s.C s.dn i.op i.rd i.r1 i.r2 i.im i.cs, ac5 s.X s.pc s.lv s.V s.C s.dn i.op i.rd i.r1 i.r2 i.im i.cs, ab2 s.X s.pc s.lv s.V s.C s.dn i.op i.rd i.r1 i.r2 i.im i.cs, ab5 s.X s.pc s.lv s.V s.C s.dn i.op i.rd i.r1 i.r2 i.im i.cs, aa9 s.X s.pc s.lv s.V s.C s.dn i.op i.rd i.r1 i.r2 i.im i.cs⟩, ao9 s.X s.pc s.lv s.V s.C s.dn i.op i.rd i.r1 i.r2 i.im i.cs, ⟨0, X1 s.X s.pc s.lv s.V s.C s.dn i.op i.rd i.r1 i.r2 i.im i.cs, 0, ai7 s.X s.pc s.lv s.V s.C s.dn i.op i.rd i.r1 i.r2 i.im i.cs⟩, U6 s.X s.pc s.lv s.V s.C s.dn i.op i.rd i.r1 i.r2 i.im i.cs⟩
def nilF : Flt := ⟨0, 0, 0, false⟩
def nilS : Sta := ⟨fun _ => 0, 0, 0, false, fun _ => 0, 0⟩
def nextS (s : Sta) (v : Int) : Res := ⟨⟨s.X, iAdd .u64 s.pc 4, s.lv, s.V, s.C, s.dn⟩, v, nilF, true⟩
def failS (f : Flt) : Res := ⟨nilS, 0, f, false⟩
def ctrlS (s : Sta) (i : Ins) : Res := ⟨⟨s.X, aj6 s.X s.pc s.lv s.V s.C s.dn i.op i.rd i.r1 i.r2 i.im i.cs, s.lv, s.V, J9 s.X s.pc s.lv s.V s.C s.dn i.op i.rd i.r1 i.r2 i.im i.cs, s.dn⟩, av7 s.X s.pc s.lv s.V s.C s.dn i.op i.rd i.r1 i.r2 i.im i.cs, nilF, true⟩
def retnS (s : Sta) (i : Ins) : Res := ⟨⟨s.X, ak6 s.X s.pc s.lv s.V s.C s.dn i.op i.rd i.r1 i.r2 i.im i.cs, ak1 s.X s.pc s.lv s.V s.C s.dn i.op i.rd i.r1 i.r2 i.im i.cs, aj7 s.X s.pc s.lv s.V s.C s.dn i.op i.rd i.r1 i.r2 i.im i.cs, K7 s.X s.pc s.lv s.V s.C s.dn i.op i.rd i.r1 i.r2 i.im i.cs, s.dn⟩, 0, nilF, true⟩
def callF (s : Sta) (i : Ins) : Flt := ⟨ai3 s.X s.pc s.lv s.V s.C s.dn i.op i.rd i.r1 i.r2 i.im i.cs, ai4 s.X s.pc s.lv s.V s.C s.dn i.op i.rd i.r1 i.r2 i.im i.cs, 0, false⟩
def legC (s : Sta) (i : Ins) : Int := F5 s.X s.pc s.lv s.V s.C s.dn i.op i.rd i.r1 i.r2 i.im i.cs
def legOk (s : Sta) (i : Ins) : Bool := o6 s.X s.pc s.lv s.V s.C s.dn i.op i.rd i.r1 i.r2 i.im i.cs
def wrR (i : Ins) : Int := x5 i.op i.rd i.r1 i.r2 i.im i.cs
def accR (B : BusS) (s : Sta) (i : Ins) : Res := bif (accS B s i).ok then nextS s (accS B s i).v else failS (accS B s i).f
def cf5 (B : BusS) (s : Sta) (i : Ins) : Res :=
  bif iEq (a8 i.op) 1 then dW8 s i else bif iEq (a8 i.op) 2 then dW8 s i else
  bif iEq (a8 i.op) 3 then accR B s i else bif iEq (a8 i.op) 4 then accR B s i else bif iEq (a8 i.op) 12 then accR B s i else
  bif iEq (a8 i.op) 5 then nextS s (aM8 i.op (s.X i.r1.toNat) (g8 .u64 i.im)) else bif iEq (a8 i.op) 6 then nextS s (aM8 i.op (s.X i.r1.toNat) (s.X i.r2.toNat)) else
  bif iEq (a8 i.op) 8 then failS (callF s i) else bif iEq (a8 i.op) 9 then ctrlS s i else bif iEq (a8 i.op) 10 then retnS s i else nextS s 0
theorem dD6 (B : BusS) (s : Sta) (i : Ins) : doesS B s i = cf5 B s i := by
  unfold doesS cf5 accR
  unfold bN2 bB1 bv6 bw4 bA0 bz1 bP8 ae9 ae7 U4 U3 D8 bh9 aQ6 aR7 aR4 aT9 aG9
  cases iEq (a8 i.op) 1 with
  | true => rfl
  | false =>
  cases iEq (a8 i.op) 2 with
  | true => rfl
  | false =>
  cases h3 : iEq (a8 i.op) 3 with
  | true =>
    unfold an4 Z9 Y8 Z7 Z1
    show _ = cond (r8 B.t B.a B.o B.f s.X s.pc s.lv s.V s.C s.dn i.op i.rd i.r1 i.r2 i.im i.cs) _ _
    cases r8 B.t B.a B.o B.f s.X s.pc s.lv s.V s.C s.dn i.op i.rd i.r1 i.r2 i.im i.cs <;> rfl
  | false =>
  cases h4 : iEq (a8 i.op) 4 with
  | true =>
    unfold an4 Z9 Y8 Z7 Z1
    show _ = cond (r8 B.t B.a B.o B.f s.X s.pc s.lv s.V s.C s.dn i.op i.rd i.r1 i.r2 i.im i.cs) _ _
    cases r8 B.t B.a B.o B.f s.X s.pc s.lv s.V s.C s.dn i.op i.rd i.r1 i.r2 i.im i.cs <;> rfl
  | false =>
  cases h12 : iEq (a8 i.op) 12 with
  | true =>
    unfold an4 Z9 Y8 Z7 Z1
    show _ = cond (r8 B.t B.a B.o B.f s.X s.pc s.lv s.V s.C s.dn i.op i.rd i.r1 i.r2 i.im i.cs) _ _
    cases r8 B.t B.a B.o B.f s.X s.pc s.lv s.V s.C s.dn i.op i.rd i.r1 i.r2 i.im i.cs <;> rfl
  | false =>
  cases iEq (a8 i.op) 5 with
  | true => rfl
  | false =>
  cases iEq (a8 i.op) 6 with
  | true => rfl
  | false =>
  cases iEq (a8 i.op) 8 with
  | true => rfl
  | false =>
  cases iEq (a8 i.op) 9 with
  | true => rfl
  | false =>
  cases iEq (a8 i.op) 10 with
  | true => rfl
  | false => rfl
def doS (B : BusS) (s : Sta) (w : Int) : Sta := ⟨exDo1 B.t B.a B.o B.f s.X s.pc s.lv s.V s.C s.dn w, exDo2 B.t B.a B.o B.f s.X s.pc s.lv s.V s.C s.dn w, exDo3 B.t B.a B.o B.f s.X s.pc s.lv s.V s.C s.dn w, exDo4 B.t B.a B.o B.f s.X s.pc s.lv s.V s.C s.dn w, exDo5 B.t B.a B.o B.f s.X s.pc s.lv s.V s.C s.dn w, exDo6 B.t B.a B.o B.f s.X s.pc s.lv s.V s.C s.dn w⟩
def doR (B : BusS) (s : Sta) (w : Int) : Ret := ⟨s.pc, w, exDo9 B.t B.a B.o B.f s.X s.pc s.lv s.V s.C s.dn w, cV6 B.t B.a B.o B.f s.X s.pc s.lv s.V s.C s.dn w, dc0 B.t B.a B.o B.f s.X s.pc s.lv s.V s.C s.dn w, cY5 B.t B.a B.o B.f s.X s.pc s.lv s.V s.C s.dn w, cU1 B.t B.a B.o B.f s.X s.pc s.lv s.V s.C s.dn w, cV2 B.t B.a B.o B.f s.X s.pc s.lv s.V s.C s.dn w, cN5 B.t B.a B.o B.f s.X s.pc s.lv s.V s.C s.dn w, cT9 B.t B.a B.o B.f s.X s.pc s.lv s.V s.C s.dn w, cT1 B.t B.a B.o B.f s.X s.pc s.lv s.V s.C s.dn w, false⟩
def doB (B : BusS) (s : Sta) (w : Int) : BusS := ⟨B.t, dE7 B.t B.a B.o B.f s.X s.pc s.lv s.V s.C s.dn w, dH4 B.t B.a B.o B.f s.X s.pc s.lv s.V s.C s.dn w, dB6 B.t B.a B.o B.f s.X s.pc s.lv s.V s.C s.dn w⟩
def endS (r : Res) (rd : Int) : Sta := ⟨fun j => bif iNe rd 0 then (bif j == rd.toNat then r.val else r.s.X j) else r.s.X j, r.s.pc, r.s.lv, r.s.V, r.s.C, iAdd .u64 r.s.dn 1⟩
def endR (s : Sta) (w rd val : Int) : Ret := ⟨s.pc, w, bif iNe rd 0 then rd else 0, bif iNe rd 0 then val else 0, false, 0, 0, 0, false, 0, false, false⟩
inductive Out3 where
  | flt (f : Flt)
  | fin (r : Res)
def doT (B : BusS) (s : Sta) (w : Int) : Out3 × BusS :=
  bif iNe (o8 w) 0 then (.flt ⟨2, g8 .u64 w, 0, false⟩, B) else
  bif !legOk s (decI w) then (.flt ⟨legC s (decI w), g8 .u64 w, 0, false⟩, B) else
  bif !(cf5 B s (decI w)).ok then (.flt (cf5 B s (decI w)).f, doesB B s (decI w)) else (.fin (cf5 B s (decI w)), doesB B s (decI w))
def out3S (s : Sta) (w : Int) : Out3 → Sta
  | .flt f => faultS s f
  | .fin r => endS r (wrR (decI w))
def out3R (s : Sta) (w : Int) : Out3 → Ret
  | .flt f => faultR s f w
  | .fin r => endR s w (wrR (decI w)) r.val
theorem doS_eq (B : BusS) (s : Sta) (w : Int) : doS B s w = out3S s w (doT B s w).1 := by
  unfold doS doT
  unfold exDo1 exDo2 exDo3 exDo4 exDo5 exDo6
  cases iNe (o8 w) 0 with
  | true => rfl
  | false =>
  show _ = out3S s w (cond (α := Out3 × BusS) false _ (cond (!o6 s.X s.pc s.lv s.V s.C s.dn (d1 w) (d4 w) (d5 w) (d6 w) (d3 w) (d7 w)) _ _)).1
  cases o6 s.X s.pc s.lv s.V s.C s.dn (d1 w) (d4 w) (d5 w) (d6 w) (d3 w) (d7 w) with
  | false => rfl
  | true =>
  rw [← dD6]
  show _ = out3S s w (cond (α := Out3 × BusS) false _ (cond (!true) _ (cond (!D8 B.t B.a B.o B.f s.X s.pc s.lv s.V s.C s.dn (d1 w) (d4 w) (d5 w) (d6 w) (d3 w) (d7 w)) _ _))).1
  cases D8 B.t B.a B.o B.f s.X s.pc s.lv s.V s.C s.dn (d1 w) (d4 w) (d5 w) (d6 w) (d3 w) (d7 w) with
  | false => rfl
  | true => rfl
theorem doR_eq (B : BusS) (s : Sta) (w : Int) : doR B s w = out3R s w (doT B s w).1 := by
  unfold doR doT
  unfold exDo9 cV6 dc0 cY5 cU1 cV2 cN5 cT9 cT1
  cases iNe (o8 w) 0 with
  | true => rfl
  | false =>
  show _ = out3R s w (cond (α := Out3 × BusS) false _ (cond (!o6 s.X s.pc s.lv s.V s.C s.dn (d1 w) (d4 w) (d5 w) (d6 w) (d3 w) (d7 w)) _ _)).1
  cases o6 s.X s.pc s.lv s.V s.C s.dn (d1 w) (d4 w) (d5 w) (d6 w) (d3 w) (d7 w) with
  | false => rfl
  | true =>
  rw [← dD6]
  show _ = out3R s w (cond (α := Out3 × BusS) false _ (cond (!true) _ (cond (!D8 B.t B.a B.o B.f s.X s.pc s.lv s.V s.C s.dn (d1 w) (d4 w) (d5 w) (d6 w) (d3 w) (d7 w)) _ _))).1
  cases D8 B.t B.a B.o B.f s.X s.pc s.lv s.V s.C s.dn (d1 w) (d4 w) (d5 w) (d6 w) (d3 w) (d7 w) with
  | false => rfl
  | true => rfl
def dT1 (M : Mc) : BusS := ⟨M.s.dn, M.B.a, M.B.o, M.B.f⟩
def intOk (B : BusS) (s : Sta) (l : Bool) : Bool := r4 s.X s.pc s.lv s.V s.C s.dn (iLe B.a B.t) l
def intC (B : BusS) (s : Sta) (l : Bool) : Int := H4 s.X s.pc s.lv s.V s.C s.dn (iLe B.a B.t) l
def intL (B : BusS) (s : Sta) (l : Bool) : Int := S2 s.X s.pc s.lv s.V s.C s.dn (iLe B.a B.t) l
def intV (B : BusS) (s : Sta) (l : Bool) : Bool := S3 s.X s.pc s.lv s.V s.C s.dn (iLe B.a B.t) l
def cb9 (B : BusS) (s : Sta) : Acc := ⟨O5 B.t B.a B.o B.f s.X s.pc s.lv s.V s.C s.dn, ⟨aF2 B.t B.a B.o B.f s.X s.pc s.lv s.V s.C s.dn, aG1 B.t B.a B.o B.f s.X s.pc s.lv s.V s.C s.dn, aF7 B.t B.a B.o B.f s.X s.pc s.lv s.V s.C s.dn, aG2 B.t B.a B.o B.f s.X s.pc s.lv s.V s.C s.dn⟩, H6 B.t B.a B.o B.f s.X s.pc s.lv s.V s.C s.dn⟩
def dS5 (B : BusS) (s : Sta) : BusS := ⟨B.t, O6 B.t B.a B.o B.f s.X s.pc s.lv s.V s.C s.dn, O0 B.t B.a B.o B.f s.X s.pc s.lv s.V s.C s.dn, O3 B.t B.a B.o B.f s.X s.pc s.lv s.V s.C s.dn⟩
structure Stp where
  s : Sta
  r : Ret
  B : BusS
def cV3 (r : Ret) (l : Bool) : Ret := ⟨r.pc, r.w, r.rd, r.val, r.tr, r.fc, r.fv, r.fg, r.fb, r.lv, r.v, l⟩
def stepT (B : BusS) (s : Sta) (l : Bool) : Stp :=
  bif intOk B s l then ⟨cU2 s ⟨intC B s l, 0, 0, false⟩ (intL B s l) (intV B s l), cV3 (intrR s (intC B s l) (intL B s l) (intV B s l)) l, B⟩ else
  bif !(cb9 B s).ok then ⟨faultS s (cb9 B s).f, cV3 (faultR s (cb9 B s).f 0) l, dS5 B s⟩ else
  ⟨doS (dS5 B s) s (cb9 B s).v, cV3 (doR (dS5 B s) s (cb9 B s).v) l, doB (dS5 B s) s (cb9 B s).v⟩
theorem step_eq (M : Mc) (l : Bool) : stepM M l = ⟨(stepT (dT1 M) M.s l).s, iAdd .i64 M.n 1, (stepT (dT1 M) M.s l).B⟩ ∧ cF4 M l = (stepT (dT1 M) M.s l).r := by
  have h1 : stepM M l = ⟨⟨bC6 M.B.t M.B.a M.B.o M.B.f M.s.X M.s.pc M.s.lv M.s.V M.s.C M.s.dn M.n l, bF9 M.B.t M.B.a M.B.o M.B.f M.s.X M.s.pc M.s.lv M.s.V M.s.C M.s.dn M.n l, bH0 M.B.t M.B.a M.B.o M.B.f M.s.X M.s.pc M.s.lv M.s.V M.s.C M.s.dn M.n l, bF5 M.B.t M.B.a M.B.o M.B.f M.s.X M.s.pc M.s.lv M.s.V M.s.C M.s.dn M.n l, bI9 M.B.t M.B.a M.B.o M.B.f M.s.X M.s.pc M.s.lv M.s.V M.s.C M.s.dn M.n l, bI0 M.B.t M.B.a M.B.o M.B.f M.s.X M.s.pc M.s.lv M.s.V M.s.C M.s.dn M.n l⟩, iAdd .i64 M.n 1, ⟨M.s.dn, bF3 M.B.t M.B.a M.B.o M.B.f M.s.X M.s.pc M.s.lv M.s.V M.s.C M.s.dn M.n l, bH7 M.B.t M.B.a M.B.o M.B.f M.s.X M.s.pc M.s.lv M.s.V M.s.C M.s.dn M.n l, bH1 M.B.t M.B.a M.B.o M.B.f M.s.X M.s.pc M.s.lv M.s.V M.s.C M.s.dn M.n l⟩⟩ := rfl
  have h2 : cF4 M l = ⟨M.s.pc, bZ8 M.B.t M.B.a M.B.o M.B.f M.s.X M.s.pc M.s.lv M.s.V M.s.C M.s.dn M.n l, bY7 M.B.t M.B.a M.B.o M.B.f M.s.X M.s.pc M.s.lv M.s.V M.s.C M.s.dn M.n l, bX8 M.B.t M.B.a M.B.o M.B.f M.s.X M.s.pc M.s.lv M.s.V M.s.C M.s.dn M.n l, bX7 M.B.t M.B.a M.B.o M.B.f M.s.X M.s.pc M.s.lv M.s.V M.s.C M.s.dn M.n l, bY1 M.B.t M.B.a M.B.o M.B.f M.s.X M.s.pc M.s.lv M.s.V M.s.C M.s.dn M.n l, ca3 M.B.t M.B.a M.B.o M.B.f M.s.X M.s.pc M.s.lv M.s.V M.s.C M.s.dn M.n l, bY0 M.B.t M.B.a M.B.o M.B.f M.s.X M.s.pc M.s.lv M.s.V M.s.C M.s.dn M.n l, ca6 M.B.t M.B.a M.B.o M.B.f M.s.X M.s.pc M.s.lv M.s.V M.s.C M.s.dn M.n l, bF7 M.B.t M.B.a M.B.o M.B.f M.s.X M.s.pc M.s.lv M.s.V M.s.C M.s.dn M.n l, bC7 M.B.t M.B.a M.B.o M.B.f M.s.X M.s.pc M.s.lv M.s.V M.s.C M.s.dn M.n l, l⟩ := rfl
  rw [h1, h2]
  unfold bZ8 bY7 bX8 bX7 bY1 ca3 bY0 ca6 bF7 bC7 bC6 bF9 bH0 bF5 bI9 bI0 bF3 bH7 bH1
  unfold stepT
  show _ ∧ _ = Stp.r (cond (r4 M.s.X M.s.pc M.s.lv M.s.V M.s.C M.s.dn (iLe M.B.a M.s.dn) l) _ (cond (!H6 M.s.dn M.B.a M.B.o M.B.f M.s.X M.s.pc M.s.lv M.s.V M.s.C M.s.dn) _ _))
  have e : intOk (dT1 M) M.s l = r4 M.s.X M.s.pc M.s.lv M.s.V M.s.C M.s.dn (iLe M.B.a M.s.dn) l := rfl
  have e2 : (cb9 (dT1 M) M.s).ok = H6 M.s.dn M.B.a M.B.o M.B.f M.s.X M.s.pc M.s.lv M.s.V M.s.C M.s.dn := rfl
  rw [e, e2]
  cases r4 M.s.X M.s.pc M.s.lv M.s.V M.s.C M.s.dn (iLe M.B.a M.s.dn) l with
  | true => exact ⟨rfl, rfl⟩
  | false =>
  cases H6 M.s.dn M.B.a M.B.o M.B.f M.s.X M.s.pc M.s.lv M.s.V M.s.C M.s.dn with
  | false => exact ⟨rfl, rfl⟩
  | true => exact ⟨rfl, rfl⟩
end
end Go.Proofs.YtbkdnehnhbaieaaGreat.PV
set_option linter.unusedVariables false
set_option linter.unusedSimpArgs false
set_option maxRecDepth 100000
namespace Go.Proofs.YtbkdnehnhbaieaaGreat.PV
noncomputable section
open Go Go.Ev
def Cl (m x : Int) : Prop := iAnd .u64 x m = x
theorem Cl.mk {m x : Int} (h : iAnd .u64 x m = x) : Cl m x := h
theorem Cl.u {m x : Int} (h : Cl m x) : U x := by
  have := U_and x m
  rw [show iAnd .u64 x m = x from h] at this
  exact this
theorem Cl.bit {m x : Int} (h : Cl m x) {k : Nat} (hk : (W x).getLsbD k = true) : (W m).getLsbD k = true := by
  have h2 : W (iAnd .u64 x m) = W x := by rw [show iAnd .u64 x m = x from h]
  rw [W_and] at h2
  have h3 : (W x &&& W m).getLsbD k = (W x).getLsbD k := by rw [h2]
  rw [BitVec.getLsbD_and, hk, Bool.true_and] at h3
  exact h3
theorem Cl.of {m x : Int} (hu : U x) (h : ∀ k, k < 64 → (W x).getLsbD k = true → (W m).getLsbD k = true) : Cl m x := by
  refine W_inj (U_and _ _) hu ?_
  rw [W_and]
  refine bits64 fun k hk => ?_
  rw [BitVec.getLsbD_and]
  cases hx : (W x).getLsbD k with
  | false => rfl
  | true => rw [h k hk hx]; rfl
theorem Cl.or {m x y : Int} (h : Cl m x) (h' : Cl m y) : Cl m (iOr .u64 x y) := Cl.of (U_or _ _) fun k hk hb => by
  rw [W_or, BitVec.getLsbD_or] at hb
  cases hx : (W x).getLsbD k with
  | true => exact h.bit hx
  | false => rw [hx, Bool.false_or] at hb; exact h'.bit hb
theorem Cl.andNot {m x : Int} (h : Cl m x) (y : Int) : Cl m (T1 .u64 x y) := Cl.of (bY3 _ _) fun k hk hb => by
  rw [bq0, BitVec.getLsbD_and] at hb
  simp only [Bool.and_eq_true] at hb
  exact h.bit hb.1
theorem Cl.and {m m' : Int} (h : Cl m' m) (x : Int) : Cl m' (iAnd .u64 x m) := Cl.of (U_and _ _) fun k hk hb => by
  rw [W_and, BitVec.getLsbD_and] at hb
  simp only [Bool.and_eq_true] at hb
  exact h.bit hb.2
theorem Cl.all {x : Int} (h : U x) : Cl 18446744073709551615 x := Cl.of h fun k hk _ => by
  have : ∀ k, k < 64 → (W 18446744073709551615).getLsbD k = true := by decide
  exact this k hk
theorem cg4 : ∀ k, k < 64 → (W 18446744073709551612).getLsbD k = !(k == 0 || k == 1) := by decide
theorem cl4 {x : Int} : Cl 18446744073709551612 x ↔ U x ∧ x % 4 = 0 := by
  have key : ∀ {x : Int}, U x → ((W x).getLsbD 0 = decide (x % 2 = 1) ∧ (W x).getLsbD 1 = decide (x / 2 % 2 = 1)) := fun {x} hu => by
    have h := of_W hu
    obtain ⟨n, hn⟩ : ∃ n : Nat, (W x).toNat = n := ⟨_, rfl⟩
    rw [hn] at h
    subst h
    rw [bO5, bO5, hn]
    refine ⟨?_, ?_⟩
    · rw [Nat.testBit_zero, decide_eq_decide]; omega
    · rw [Nat.testBit_succ, Nat.testBit_zero, decide_eq_decide]; omega
  constructor
  · intro h
    refine ⟨h.u, ?_⟩
    obtain ⟨k0, k1⟩ := key h.u
    have a0 : (W x).getLsbD 0 = false := by
      cases e : (W x).getLsbD 0 with
      | false => rfl
      | true => have := h.bit e; rw [cg4 0 (by omega)] at this; cases this
    have a1 : (W x).getLsbD 1 = false := by
      cases e : (W x).getLsbD 1 with
      | false => rfl
      | true => have := h.bit e; rw [cg4 1 (by omega)] at this; cases this
    rw [a0] at k0
    rw [a1] at k1
    have k0 := of_decide_eq_false k0.symm
    have k1 := of_decide_eq_false k1.symm
    omega
  · rintro ⟨hu, h4⟩
    obtain ⟨k0, k1⟩ := key hu
    refine Cl.of hu fun k hk hb => ?_
    rw [cg4 k hk]
    cases h0 : k == 0 with
    | true =>
      rw [beq_iff_eq] at h0
      subst h0
      rw [k0] at hb
      have := of_decide_eq_true hb
      omega
    | false =>
      cases h1 : k == 1 with
      | true =>
        rw [beq_iff_eq] at h1
        subst h1
        rw [k1] at hb
        have := of_decide_eq_true hb
        omega
      | false => rfl
theorem bP7 {x : Int} (h : Cl 18446744073709551612 x) : Cl 18446744073709551612 (iAdd .u64 x 4) := by
  rw [cl4] at h ⊢
  refine ⟨cY3 _ _, ?_⟩
  have : iAdd .u64 x 4 = (x + 4) % 18446744073709551616 := dC9 _
  rw [this]
  omega
theorem cl4_not {x : Int} (h : Cl 18446744073709551612 x) : T1 .u64 x 3 = x := by
  refine W_inj (bY3 _ _) h.u ?_
  rw [bq0]
  refine bits64 fun k hk => ?_
  rw [BitVec.getLsbD_and]
  have h3 : ∀ k, k < 64 → (~~~ W 3).getLsbD k = !(k == 0 || k == 1) := by decide
  cases hx : (W x).getLsbD k with
  | false => rfl
  | true => rw [h3 k hk, ← cg4 k hk, h.bit hx]; rfl
theorem cl4_mk (x : Int) : Cl 18446744073709551612 (T1 .u64 x 3) := Cl.of (bY3 _ _) fun k hk hb => by
  rw [bq0, BitVec.getLsbD_and] at hb
  simp only [Bool.and_eq_true] at hb
  have h3 : ∀ k, k < 64 → (~~~ W 3).getLsbD k = !(k == 0 || k == 1) := by decide
  rw [cg4 k hk, ← h3 k hk]
  exact hb.2
def bitM (b n : Int) : Int := iShl .u64 (ap4 (T6 b n)) (P4 b n)
def bitV (b n v : Int) : Int := iShl .u64 (iAnd .u64 v (ap4 (T6 b n))) (P4 b n)
theorem set_eq (x b n v : Int) : F9 x b n v = iOr .u64 (T1 .u64 x (bitM b n)) (bitV b n v) := rfl
theorem W_set (x b n v : Int) : W (F9 x b n v) = (W x &&& ~~~ W (bitM b n)) ||| W (bitV b n v) := by rw [set_eq, W_or, bq0]
theorem Cl.set {m x : Int} (h : Cl m x) {b n v : Int} (hv : Cl m (bitV b n v)) : Cl m (F9 x b n v) := (h.andNot _).or hv
def ClC (C : Nat → Int) : Prop := ∀ j, j < 29 → Cl (U2 j) (C j)
def Mp (x : Int) : Prop := ¬((W x).getLsbD 12 = true ∧ (W x).getLsbD 11 = false)
theorem cJ0 {x b n v : Int} {k : Nat} (hM : (W (bitM b n)).getLsbD k = false) (hV : (W (bitV b n v)).getLsbD k = false) (hk : k < 64) : (W (F9 x b n v)).getLsbD k = (W x).getLsbD k := by
  rw [W_set, BitVec.getLsbD_or, BitVec.getLsbD_and, BitVec.getLsbD_not, hM, hV]
  simp [hk]
theorem dM8 : ∀ i, i < 64 → (3#64).getLsbD i = (i == 0 || i == 1) := by decide
theorem dF9 {x : Int} (hx : U x) : g9 x 11 2 = (bif (W x).getLsbD 12 then 2 else 0) + (bif (W x).getLsbD 11 then 1 else 0) := by
  have e : g9 x 11 2 = iAnd .u64 (iShr .u64 x ((11 : Nat) : Int)) 3 := rfl
  rw [e, dI7, W_shr hx 11 (by omega)]
  have h3 : W 3 = 3#64 := rfl
  rw [h3]
  have hb : W x >>> 11 &&& 3#64 = (bif (W x).getLsbD 12 then 2#64 else 0#64) ||| (bif (W x).getLsbD 11 then 1#64 else 0#64) := by
    refine bits64 fun i hi => ?_
    rw [BitVec.getLsbD_and, dM8 i hi, BitVec.getLsbD_ushiftRight, BitVec.getLsbD_or]
    match i, hi with
    | 0, _ => cases (W x).getLsbD 12 <;> cases (W x).getLsbD 11 <;> rfl
    | 1, _ => cases (W x).getLsbD 12 <;> cases (W x).getLsbD 11 <;> rfl
    | i + 2, hi =>
      have z : ((i + 2 == 0) || (i + 2 == 1)) = false := by simp
      rw [z, Bool.and_false]
      have z1 : ∀ i, i < 64 → 2 ≤ i → (2#64).getLsbD i = false ∧ (1#64).getLsbD i = false := by decide
      obtain ⟨q1, q2⟩ := z1 (i + 2) hi (by omega)
      cases (W x).getLsbD 12 <;> cases (W x).getLsbD 11 <;> simp only [cond_true, cond_false, q1, q2, BitVec.getLsbD_zero, Bool.or_self]
  rw [hb]
  cases (W x).getLsbD 12 <;> cases (W x).getLsbD 11 <;> rfl
theorem mp_iff {x : Int} (hx : U x) : Mp x ↔ g9 x 11 2 ≠ 2 := by
  rw [dF9 hx]
  unfold Mp
  cases (W x).getLsbD 12 <;> cases (W x).getLsbD 11 <;> simp
theorem mp_lv {x : Int} (hx : U x) (h : Mp x) : g9 x 11 2 = 0 ∨ g9 x 11 2 = 1 ∨ g9 x 11 2 = 3 := by
  have h2 := (mp_iff hx).1 h
  rw [dF9 hx] at h2 ⊢
  revert h2
  generalize (W x).getLsbD 12 = p
  generalize (W x).getLsbD 11 = q
  cases p <;> cases q <;> simp
structure Good (s : Sta) : Prop where
  x0 : s.X 0 = 0
  lv : s.lv = 0 ∨ s.lv = 1 ∨ s.lv = 3
  v : s.V = true → s.lv ≠ 3
  c : ClC s.C
  mp : Mp (s.C 0)
  pc : Cl 18446744073709551612 s.pc
structure FltU (f : Flt) : Prop where
  c : U f.c
  v : U f.v
  g : U f.g
theorem put_cl {X : Nat → Int} {pc l : Int} {v : Bool} {C : Nat → Int} {d i b : Int} {on : Bool} (hC : ClC C) (h1 : Cl (U2 i.toNat) (bitV b 1 1)) (h0 : Cl (U2 i.toNat) (bitV b 1 0)) (hi : i.toNat < 29) : ClC (D6 X pc l v C d i b on) := fun j hj => by
  unfold D6
  cases e : j == i.toNat with
  | false => cases on <;> exact hC j hj
  | true =>
    rw [beq_iff_eq] at e
    subst e
    cases on
    · exact (hC _ hi).set h0
    · exact (hC _ hi).set h1
theorem put_mp {X : Nat → Int} {pc l : Int} {v : Bool} {C : Nat → Int} {d i b : Int} {on : Bool} (h : Mp (C 0)) (hb : i.toNat ≠ 0 ∨ (((W (bitM b 1)).getLsbD 11 = false ∧ (W (bitM b 1)).getLsbD 12 = false) ∧ ((W (bitV b 1 1)).getLsbD 11 = false ∧ (W (bitV b 1 1)).getLsbD 12 = false) ∧ (W (bitV b 1 0)).getLsbD 11 = false ∧ (W (bitV b 1 0)).getLsbD 12 = false)) : Mp (D6 X pc l v C d i b on 0) := by
  unfold D6
  cases e : (0 : Nat) == i.toNat with
  | false => cases on <;> exact h
  | true =>
    rw [beq_iff_eq] at e
    rcases hb with hb | ⟨⟨a1, a2⟩, ⟨b1, b2⟩, c1, c2⟩
    · exact absurd e.symm hb
    · rw [← e]
      unfold Mp at h ⊢
      cases on
      · show ¬((W (F9 (C 0) b 1 0)).getLsbD 12 = true ∧ (W (F9 (C 0) b 1 0)).getLsbD 11 = false)
        rw [cJ0 a2 c2 (by omega), cJ0 a1 c1 (by omega)]; exact h
      · show ¬((W (F9 (C 0) b 1 1)).getLsbD 12 = true ∧ (W (F9 (C 0) b 1 1)).getLsbD 11 = false)
        rw [cJ0 a2 b2 (by omega), cJ0 a1 b1 (by omega)]; exact h
theorem set_mp {x lv : Int} (hl : lv = 0 ∨ lv = 1 ∨ lv = 3) : Mp (F9 x 11 2 (g8 .u64 lv)) ∧ Cl 824641853866 (bitV 11 2 (g8 .u64 lv)) := by
  unfold Mp
  rw [W_set, BitVec.getLsbD_or, BitVec.getLsbD_or, BitVec.getLsbD_and, BitVec.getLsbD_and, BitVec.getLsbD_not, BitVec.getLsbD_not]
  have m1 : (W (bitM 11 2)).getLsbD 11 = true := by decide
  have m2 : (W (bitM 11 2)).getLsbD 12 = true := by decide
  rw [m1, m2]
  simp only [Bool.not_true, Bool.and_false, Bool.false_or]
  rcases hl with rfl | rfl | rfl
  · exact ⟨by decide, Cl.mk (by kernel_rfl)⟩
  · exact ⟨by decide, Cl.mk (by kernel_rfl)⟩
  · exact ⟨by decide, Cl.mk (by kernel_rfl)⟩
end
end Go.Proofs.YtbkdnehnhbaieaaGreat.PV
set_option linter.unusedVariables false
set_option linter.unusedSimpArgs false
set_option maxRecDepth 100000
namespace Go.Proofs.YtbkdnehnhbaieaaGreat.PV
noncomputable section
open Go Go.Ev
theorem put0 {X : Nat → Int} {pc l : Int} {v : Bool} {C : Nat → Int} {d b : Int} {on : Bool} (hb : b = 1 ∨ b = 3 ∨ b = 5 ∨ b = 7 ∨ b = 8 ∨ b = 38 ∨ b = 39) (hC : ClC C) (hm : Mp (C 0)) : ClC (D6 X pc l v C d 0 b on) ∧ Mp (D6 X pc l v C d 0 b on 0) := by
  rcases hb with rfl | rfl | rfl | rfl | rfl | rfl | rfl
  all_goals exact ⟨put_cl hC (Cl.mk (by kernel_rfl)) (Cl.mk (by kernel_rfl)) (by decide), put_mp hm (.inr (by decide +kernel))⟩
theorem put16 {X : Nat → Int} {pc l : Int} {v : Bool} {C : Nat → Int} {d b : Int} {on : Bool} (hb : b = 6 ∨ b = 7 ∨ b = 8) (hC : ClC C) (hm : Mp (C 0)) : ClC (D6 X pc l v C d 16 b on) ∧ Mp (D6 X pc l v C d 16 b on 0) := by
  rcases hb with rfl | rfl | rfl
  all_goals exact ⟨put_cl hC (Cl.mk (by kernel_rfl)) (Cl.mk (by kernel_rfl)) (by decide), put_mp hm (.inl (by decide))⟩
theorem dW4 {X : Nat → Int} {pc l : Int} {v : Bool} {C : Nat → Int} {d b : Int} {on : Bool} (hb : b = 1 ∨ b = 5 ∨ b = 8) (hC : ClC C) (hm : Mp (C 0)) : ClC (D6 X pc l v C d 22 b on) ∧ Mp (D6 X pc l v C d 22 b on 0) := by
  rcases hb with rfl | rfl | rfl
  all_goals exact ⟨put_cl hC (Cl.mk (by kernel_rfl)) (Cl.mk (by kernel_rfl)) (by decide), put_mp hm (.inl (by decide))⟩
theorem told_m {s : Sta} {f : Flt} (hs : Good s) (hf : FltU f) : ClC (q9 6 7 8 9 4 s.X s.pc s.lv s.V s.C s.dn f.c f.v f.g f.b) ∧ Mp (q9 6 7 8 9 4 s.X s.pc s.lv s.V s.C s.dn f.c f.v f.g f.b 0) ∧ Cl 18446744073709551612 (n4 6 7 8 9 4 s.X s.pc s.lv s.V s.C s.dn f.c f.v f.g f.b) := by
  refine ⟨fun j hj => ?_, hs.mp, hs.c 4 (by omega)⟩
  show Cl _ (bif j == 9 then f.g else bif j == 8 then f.v else bif j == 7 then f.c else bif j == 6 then s.pc else s.C j)
  cases h9 : j == 9 with
  | true => rw [beq_iff_eq] at h9; subst h9; exact Cl.all hf.g
  | false =>
  cases h8 : j == 8 with
  | true => rw [beq_iff_eq] at h8; subst h8; exact Cl.all hf.v
  | false =>
  cases h7 : j == 7 with
  | true => rw [beq_iff_eq] at h7; subst h7; exact Cl.all hf.c
  | false =>
  cases h6 : j == 6 with
  | true => rw [beq_iff_eq] at h6; subst h6; exact hs.pc
  | false => exact hs.c j hj
theorem told_s {s : Sta} {f : Flt} (hs : Good s) (hf : FltU f) : ClC (q9 12 13 14 20 10 s.X s.pc s.lv s.V s.C s.dn f.c f.v f.g f.b) ∧ Mp (q9 12 13 14 20 10 s.X s.pc s.lv s.V s.C s.dn f.c f.v f.g f.b 0) ∧ Cl 18446744073709551612 (n4 12 13 14 20 10 s.X s.pc s.lv s.V s.C s.dn f.c f.v f.g f.b) := by
  refine ⟨fun j hj => ?_, hs.mp, hs.c 10 (by omega)⟩
  show Cl _ (bif j == 20 then f.g else bif j == 14 then f.v else bif j == 13 then f.c else bif j == 12 then s.pc else s.C j)
  cases h9 : j == 20 with
  | true => rw [beq_iff_eq] at h9; subst h9; exact Cl.all hf.g
  | false =>
  cases h8 : j == 14 with
  | true => rw [beq_iff_eq] at h8; subst h8; exact Cl.all hf.v
  | false =>
  cases h7 : j == 13 with
  | true => rw [beq_iff_eq] at h7; subst h7; exact Cl.all hf.c
  | false =>
  cases h6 : j == 12 with
  | true => rw [beq_iff_eq] at h6; subst h6; exact hs.pc
  | false => exact hs.c j hj
theorem told_g {s : Sta} {f : Flt} (hs : Good s) (hf : FltU f) : ClC (q9 25 26 27 (-1) 23 s.X s.pc s.lv s.V s.C s.dn f.c f.v f.g f.b) ∧ Mp (q9 25 26 27 (-1) 23 s.X s.pc s.lv s.V s.C s.dn f.c f.v f.g f.b 0) ∧ Cl 18446744073709551612 (n4 25 26 27 (-1) 23 s.X s.pc s.lv s.V s.C s.dn f.c f.v f.g f.b) := by
  refine ⟨fun j hj => ?_, hs.mp, hs.c 23 (by omega)⟩
  show Cl _ (bif j == 27 then f.v else bif j == 26 then f.c else bif j == 25 then s.pc else s.C j)
  cases h8 : j == 27 with
  | true => rw [beq_iff_eq] at h8; subst h8; exact Cl.all hf.v
  | false =>
  cases h7 : j == 26 with
  | true => rw [beq_iff_eq] at h7; subst h7; exact Cl.all hf.c
  | false =>
  cases h6 : j == 25 with
  | true => rw [beq_iff_eq] at h6; subst h6; exact hs.pc
  | false => exact hs.c j hj
theorem kept0 {n w : Int} {X : Nat → Int} {pc l : Int} {v : Bool} {C : Nat → Int} {d : Int} (hn : n = 1 ∨ n = 3) (hw : w = 5 ∨ w = 7) (hC : ClC C) (hm : Mp (C 0)) : ClC (J8 0 n w X pc l v C d) ∧ Mp (J8 0 n w X pc l v C d 0) := by
  obtain ⟨a, b⟩ := put0 (X := X) (pc := pc) (l := l) (v := v) (d := d) (on := o7 X pc l v C d 0 n) (b := w) (by omega) hC hm
  exact put0 (X := X) (pc := pc) (l := l) (v := v) (d := d) (on := false) (b := n) (by omega) a b
theorem kept22 {X : Nat → Int} {pc l : Int} {v : Bool} {C : Nat → Int} {d : Int} (hC : ClC C) (hm : Mp (C 0)) : ClC (J8 22 1 5 X pc l v C d) ∧ Mp (J8 22 1 5 X pc l v C d 0) := by
  obtain ⟨a, b⟩ := dW4 (X := X) (pc := pc) (l := l) (v := v) (d := d) (on := o7 X pc l v C d 22 1) (b := 5) (by omega) hC hm
  exact dW4 (X := X) (pc := pc) (l := l) (v := v) (d := d) (on := false) (b := 1) (by omega) a b
theorem back0 {n w : Int} {X : Nat → Int} {pc l : Int} {v : Bool} {C : Nat → Int} {d : Int} (hn : n = 1 ∨ n = 3) (hw : w = 5 ∨ w = 7) (hC : ClC C) (hm : Mp (C 0)) : ClC (J4 0 n w X pc l v C d) ∧ Mp (J4 0 n w X pc l v C d 0) := by
  obtain ⟨a, b⟩ := put0 (X := X) (pc := pc) (l := l) (v := v) (d := d) (on := o7 X pc l v C d 0 w) (b := n) (by omega) hC hm
  exact put0 (X := X) (pc := pc) (l := l) (v := v) (d := d) (on := true) (b := w) (by omega) a b
theorem back22 {X : Nat → Int} {pc l : Int} {v : Bool} {C : Nat → Int} {d : Int} (hC : ClC C) (hm : Mp (C 0)) : ClC (J4 22 1 5 X pc l v C d) ∧ Mp (J4 22 1 5 X pc l v C d 0) := by
  obtain ⟨a, b⟩ := dW4 (X := X) (pc := pc) (l := l) (v := v) (d := d) (on := o7 X pc l v C d 22 5) (b := 1) (by omega) hC hm
  exact dW4 (X := X) (pc := pc) (l := l) (v := v) (d := d) (on := true) (b := 5) (by omega) a b
theorem set0 {C : Nat → Int} {lv : Int} (hC : ClC C) (hl : lv = 0 ∨ lv = 1 ∨ lv = 3) : ClC (fun i => bif i == 0 then F9 (C 0) 11 2 (g8 .u64 lv) else C i) ∧ Mp (F9 (C 0) 11 2 (g8 .u64 lv)) := by
  obtain ⟨a, b⟩ := set_mp (x := C 0) hl
  refine ⟨fun j hj => ?_, a⟩
  show Cl _ (bif j == 0 then _ else _)
  cases e : j == 0 with
  | false => exact hC j hj
  | true => rw [beq_iff_eq] at e; subst e; exact (hC 0 hj).set b
theorem enter_m {s : Sta} {f : Flt} (hs : Good s) (hf : FltU f) : ClC (I1 s.X s.pc s.lv s.V s.C s.dn f.c f.v f.g f.b 3 false) ∧ Mp (I1 s.X s.pc s.lv s.V s.C s.dn f.c f.v f.g f.b 3 false 0) := by
  have e : I1 s.X s.pc s.lv s.V s.C s.dn f.c f.v f.g f.b 3 false = J8 0 3 7 s.X (n4 6 7 8 9 4 s.X s.pc s.lv s.V s.C s.dn f.c f.v f.g f.b) s.lv s.V
      (D6 s.X (n4 6 7 8 9 4 s.X s.pc s.lv s.V s.C s.dn f.c f.v f.g f.b) s.lv s.V
        (D6 s.X (n4 6 7 8 9 4 s.X s.pc s.lv s.V s.C s.dn f.c f.v f.g f.b) s.lv s.V
          (fun i => bif i == 0 then F9 (q9 6 7 8 9 4 s.X s.pc s.lv s.V s.C s.dn f.c f.v f.g f.b 0) 11 2 (g8 .u64 s.lv) else q9 6 7 8 9 4 s.X s.pc s.lv s.V s.C s.dn f.c f.v f.g f.b i) s.dn 0 39 s.V) s.dn 0 38 f.b) s.dn := by
    unfold I1
    rfl
  rw [e]
  obtain ⟨a, b, c⟩ := told_m hs hf
  generalize n4 6 7 8 9 4 s.X s.pc s.lv s.V s.C s.dn f.c f.v f.g f.b = p at *
  generalize q9 6 7 8 9 4 s.X s.pc s.lv s.V s.C s.dn f.c f.v f.g f.b = T at *
  obtain ⟨a1, b1⟩ := set0 a hs.lv
  obtain ⟨a2, b2⟩ := put0 (X := s.X) (pc := p) (l := s.lv) (v := s.V) (d := s.dn) (on := s.V) (b := 39) (by omega) a1 b1
  obtain ⟨a3, b3⟩ := put0 (X := s.X) (pc := p) (l := s.lv) (v := s.V) (d := s.dn) (on := f.b) (b := 38) (by omega) a2 b2
  exact kept0 (n := 3) (w := 7) (X := s.X) (pc := p) (l := s.lv) (v := s.V) (d := s.dn) (by omega) (by omega) a3 b3
theorem enter_c0 {s : Sta} {f : Flt} (hs : Good s) (hf : FltU f) (l : Int) (v : Bool) : ClC (D0 s.X s.pc s.lv s.V s.C s.dn f.c f.v f.g f.b l v) ∧ Mp (D0 s.X s.pc s.lv s.V s.C s.dn f.c f.v f.g f.b l v 0) := by
  have e : D0 s.X s.pc s.lv s.V s.C s.dn f.c f.v f.g f.b l v = D6 s.X (n4 12 13 14 20 10 s.X s.pc s.lv s.V s.C s.dn f.c f.v f.g f.b) s.lv s.V
      (D6 s.X (n4 12 13 14 20 10 s.X s.pc s.lv s.V s.C s.dn f.c f.v f.g f.b) s.lv s.V
        (T9 s.X (n4 12 13 14 20 10 s.X s.pc s.lv s.V s.C s.dn f.c f.v f.g f.b) s.lv s.V (q9 12 13 14 20 10 s.X s.pc s.lv s.V s.C s.dn f.c f.v f.g f.b) s.dn 0 s.lv) s.dn 16 7 s.V) s.dn 16 6 f.b := by
    unfold D0
    rfl
  rw [e]
  obtain ⟨a, b, c⟩ := told_s hs hf
  generalize n4 12 13 14 20 10 s.X s.pc s.lv s.V s.C s.dn f.c f.v f.g f.b = p at *
  generalize q9 12 13 14 20 10 s.X s.pc s.lv s.V s.C s.dn f.c f.v f.g f.b = T at *
  obtain ⟨a1, b1⟩ := put0 (X := s.X) (pc := p) (l := s.lv) (v := s.V) (d := s.dn) (on := iEq (iAnd .i64 s.lv 1) 1) (b := 8) (by omega) a b
  obtain ⟨a2, b2⟩ := kept0 (n := 1) (w := 5) (X := s.X) (pc := p) (l := s.lv) (v := s.V) (d := s.dn) (by omega) (by omega) a1 b1
  obtain ⟨a3, b3⟩ := put16 (X := s.X) (pc := p) (l := s.lv) (v := s.V) (d := s.dn) (on := s.V) (b := 7) (by omega) a2 b2
  exact put16 (X := s.X) (pc := p) (l := s.lv) (v := s.V) (d := s.dn) (on := f.b) (b := 6) (by omega) a3 b3
theorem enter_s {s : Sta} {f : Flt} (hs : Good s) (hf : FltU f) : ClC (I1 s.X s.pc s.lv s.V s.C s.dn f.c f.v f.g f.b 1 false) ∧ Mp (I1 s.X s.pc s.lv s.V s.C s.dn f.c f.v f.g f.b 1 false 0) := by
  have e : I1 s.X s.pc s.lv s.V s.C s.dn f.c f.v f.g f.b 1 false = fun i => bif s.V then D6 s.X (n4 12 13 14 20 10 s.X s.pc s.lv s.V s.C s.dn f.c f.v f.g f.b) s.lv s.V (D0 s.X s.pc s.lv s.V s.C s.dn f.c f.v f.g f.b 1 false) s.dn 16 8 (iEq (iAnd .i64 s.lv 1) 1) i
      else D0 s.X s.pc s.lv s.V s.C s.dn f.c f.v f.g f.b 1 false i := by
    unfold I1
    rfl
  rw [e]
  obtain ⟨a, b⟩ := enter_c0 hs hf 1 false
  generalize n4 12 13 14 20 10 s.X s.pc s.lv s.V s.C s.dn f.c f.v f.g f.b = p at *
  generalize D0 s.X s.pc s.lv s.V s.C s.dn f.c f.v f.g f.b 1 false = T at *
  obtain ⟨a1, b1⟩ := put16 (X := s.X) (pc := p) (l := s.lv) (v := s.V) (d := s.dn) (on := iEq (iAnd .i64 s.lv 1) 1) (b := 8) (by omega) a b
  generalize D6 s.X p s.lv s.V T s.dn 16 8 (iEq (iAnd .i64 s.lv 1) 1) = Q at *
  cases s.V
  · exact ⟨a, b⟩
  · exact ⟨a1, b1⟩
theorem enter_g {s : Sta} {f : Flt} (hs : Good s) (hf : FltU f) (hV : s.V = true) : ClC (I1 s.X s.pc s.lv s.V s.C s.dn f.c f.v f.g f.b 1 true) ∧ Mp (I1 s.X s.pc s.lv s.V s.C s.dn f.c f.v f.g f.b 1 true 0) := by
  have e : I1 s.X s.pc s.lv s.V s.C s.dn f.c f.v f.g f.b 1 true = fun i => bif s.V then T9 s.X (n4 25 26 27 (-1) 23 s.X s.pc s.lv s.V s.C s.dn f.c f.v f.g f.b) s.lv s.V (q9 25 26 27 (-1) 23 s.X s.pc s.lv s.V s.C s.dn f.c f.v f.g f.b) s.dn 22 s.lv i
      else s.C i := by
    unfold I1
    rfl
  rw [e]
  obtain ⟨a, b, c⟩ := told_g hs hf
  generalize n4 25 26 27 (-1) 23 s.X s.pc s.lv s.V s.C s.dn f.c f.v f.g f.b = p at *
  generalize q9 25 26 27 (-1) 23 s.X s.pc s.lv s.V s.C s.dn f.c f.v f.g f.b = T at *
  obtain ⟨a1, b1⟩ := dW4 (X := s.X) (pc := p) (l := s.lv) (v := s.V) (d := s.dn) (on := iEq (iAnd .i64 s.lv 1) 1) (b := 8) (by omega) a b
  obtain ⟨a2, b2⟩ := kept22 (X := s.X) (pc := p) (l := s.lv) (v := s.V) (d := s.dn) a1 b1
  have hL : ClC (T9 s.X p s.lv s.V T s.dn 22 s.lv) ∧ Mp (T9 s.X p s.lv s.V T s.dn 22 s.lv 0) := ⟨a2, b2⟩
  generalize T9 s.X p s.lv s.V T s.dn 22 s.lv = Q at *
  rw [hV]
  exact hL
theorem aU2 {s : Sta} {f : Flt} (hs : Good s) (hf : FltU f) (l : Int) (v : Bool) : Good (cU2 s f l v) := by
  by_cases h1 : l = 3 ∧ v = false
  · obtain ⟨rfl, rfl⟩ := h1
    obtain ⟨a, b⟩ := enter_m hs hf
    have hp : L2 s.X s.pc s.lv s.V s.C s.dn f.c f.v f.g f.b 3 false = n4 6 7 8 9 4 s.X s.pc s.lv s.V s.C s.dn f.c f.v f.g f.b := by unfold L2; rfl
    exact ⟨hs.x0, .inr (.inr rfl), (fun h => by cases h), a, b, (show Cl _ (L2 s.X s.pc s.lv s.V s.C s.dn f.c f.v f.g f.b 3 false) by rw [hp]; exact (told_m hs hf).2.2)⟩
  by_cases h2 : l = 1 ∧ v = false
  · obtain ⟨rfl, rfl⟩ := h2
    obtain ⟨a, b⟩ := enter_s hs hf
    have hp : L2 s.X s.pc s.lv s.V s.C s.dn f.c f.v f.g f.b 1 false = n4 12 13 14 20 10 s.X s.pc s.lv s.V s.C s.dn f.c f.v f.g f.b := by unfold L2; rfl
    exact ⟨hs.x0, .inr (.inl rfl), (fun h => by cases h), a, b, (show Cl _ (L2 s.X s.pc s.lv s.V s.C s.dn f.c f.v f.g f.b 1 false) by rw [hp]; exact (told_s hs hf).2.2)⟩
  by_cases h3 : (l = 1 ∧ v = true) ∧ s.V = true
  · obtain ⟨⟨rfl, rfl⟩, hV⟩ := h3
    obtain ⟨a, b⟩ := enter_g hs hf hV
    have hp : L2 s.X s.pc s.lv s.V s.C s.dn f.c f.v f.g f.b 1 true = bif s.V then n4 25 26 27 (-1) 23 s.X s.pc s.lv s.V s.C s.dn f.c f.v f.g f.b else s.pc := by unfold L2; rfl
    have hl : R7 s.X s.pc s.lv s.V s.C s.dn f.c f.v f.g f.b 1 true = bif s.V then 1 else s.lv := by unfold R7; rfl
    refine ⟨hs.x0, ?_, ?_, a, b, (show Cl _ (L2 s.X s.pc s.lv s.V s.C s.dn f.c f.v f.g f.b 1 true) by rw [hp]; exact t8 (p := Cl 18446744073709551612) (told_g hs hf).2.2 hs.pc)⟩
    · show R7 s.X s.pc s.lv s.V s.C s.dn f.c f.v f.g f.b 1 true = 0 ∨ R7 s.X s.pc s.lv s.V s.C s.dn f.c f.v f.g f.b 1 true = 1 ∨ R7 s.X s.pc s.lv s.V s.C s.dn f.c f.v f.g f.b 1 true = 3
      rw [hl, hV]; exact .inr (.inl rfl)
    · intro _
      show R7 s.X s.pc s.lv s.V s.C s.dn f.c f.v f.g f.b 1 true ≠ 3
      rw [hl, hV]; exact (by decide : (1 : Int) ≠ 3)
  · have c1 : (iEq l 3 && v == false) = false := by
      rw [← Bool.not_eq_true, Bool.and_eq_true, O2, beq_iff_eq]; exact h1
    have c2 : (iEq l 1 && v == false) = false := by
      rw [← Bool.not_eq_true, Bool.and_eq_true, O2, beq_iff_eq]; exact h2
    have c3 : (bif iEq l 1 && v == true then s.V else false) = false := by
      cases h5 : iEq l 1 && v == true with
      | false => rfl
      | true =>
        rw [Bool.and_eq_true, O2, beq_iff_eq] at h5
        cases hV : s.V with
        | false => rfl
        | true => exact absurd ⟨h5, hV⟩ h3
    have e : cU2 s f l v = s := by
      unfold cU2 L2 R7 az8 I1
      rw [c1, c2, c3]
      rfl
    rw [e]; exact hs
theorem iBit_in {x : Int} (hx : U x) (k : Nat) (hk : k ≤ 64) {p n : Int} (e : g9 x p n = iAnd .u64 (iShr .u64 x (k : Int)) 1) : g8 .i64 (g9 x p n) = 0 ∨ g8 .i64 (g9 x p n) = 1 := by
  rw [e, bit_at hx k hk]
  cases (W x).getLsbD k
  · exact .inl rfl
  · exact .inr rfl
theorem mret_good {s : Sta} (hs : Good s) : Good ⟨s.X, ap3 s.X s.pc s.lv s.V s.C s.dn, aq5 s.X s.pc s.lv s.V s.C s.dn, aq0 s.X s.pc s.lv s.V s.C s.dn, ar1 s.X s.pc s.lv s.V s.C s.dn, s.dn⟩ := by
  unfold ap3 aq5 aq0 ar1
  cases o6 s.X s.pc s.lv s.V s.C s.dn 60 0 0 0 0 0 with
  | false => exact hs
  | true =>
    have hl : g8 .i64 (g9 (s.C 0) 11 2) = 0 ∨ g8 .i64 (g9 (s.C 0) 11 2) = 1 ∨ g8 .i64 (g9 (s.C 0) 11 2) = 3 := by
      rcases mp_lv (hs.c 0 (by omega)).u hs.mp with h | h | h <;> rw [h]
      · exact .inl rfl
      · exact .inr (.inl rfl)
      · exact .inr (.inr rfl)
    obtain ⟨a, b⟩ := back0 (n := 3) (w := 7) (X := s.X) (pc := s.pc) (l := g8 .i64 (g9 (s.C 0) 11 2)) (v := L8 s.X s.pc s.lv s.V s.C s.dn) (d := s.dn) (by omega) (by omega) hs.c hs.mp
    obtain ⟨a1, b1⟩ := set0 (lv := 0) a (.inl rfl)
    obtain ⟨a2, b2⟩ := put0 (X := s.X) (pc := s.pc) (l := g8 .i64 (g9 (s.C 0) 11 2)) (v := L8 s.X s.pc s.lv s.V s.C s.dn) (d := s.dn) (on := false) (b := 39) (by omega) a1 b1
    refine ⟨hs.x0, hl, fun h => ?_, a2, b2, a2 6 (by omega)⟩
    have h : L8 s.X s.pc s.lv s.V s.C s.dn = true := h
    show g8 .i64 (g9 (s.C 0) 11 2) ≠ 3
    unfold L8 at h
    cases hb : o7 s.X s.pc (g8 .i64 (g9 (s.C 0) 11 2)) s.V s.C s.dn 0 39 with
    | false => rw [hb] at h; cases h
    | true => rw [hb] at h; exact bZ6.1 h
theorem sret_good {s : Sta} (hs : Good s) : Good ⟨s.X, ar7 s.X s.pc s.lv s.V s.C s.dn, aq6 s.X s.pc s.lv s.V s.C s.dn, ap9 s.X s.pc s.lv s.V s.C s.dn, aq8 s.X s.pc s.lv s.V s.C s.dn, s.dn⟩ := by
  unfold ar7 aq6 ap9 aq8
  cases o6 s.X s.pc s.lv s.V s.C s.dn 61 0 0 0 0 0 with
  | false => exact hs
  | true =>
  cases hV : s.V with
  | true =>
    have hl := iBit_in (hs.c 22 (by omega)).u 8 (by omega) (p := 8) (n := 1) rfl
    obtain ⟨a, b⟩ := back22 (X := s.X) (pc := s.pc) (l := g8 .i64 (g9 (s.C 22) 8 1)) (v := true) (d := s.dn) hs.c hs.mp
    obtain ⟨a2, b2⟩ := dW4 (X := s.X) (pc := s.pc) (l := g8 .i64 (g9 (s.C 22) 8 1)) (v := true) (d := s.dn) (on := false) (b := 8) (by omega) a b
    refine ⟨hs.x0, ?_, fun _ => ?_, a2, b2, a2 25 (by omega)⟩
    · show g8 .i64 (g9 (s.C 22) 8 1) = 0 ∨ g8 .i64 (g9 (s.C 22) 8 1) = 1 ∨ g8 .i64 (g9 (s.C 22) 8 1) = 3
      omega
    · show g8 .i64 (g9 (s.C 22) 8 1) ≠ 3
      omega
  | false =>
    obtain ⟨a, b⟩ := put16 (X := s.X) (pc := s.pc) (l := s.lv) (v := o7 s.X s.pc s.lv false s.C s.dn 16 7) (d := s.dn) (on := false) (b := 7) (by omega) hs.c hs.mp
    have hl := iBit_in (a 0 (by omega)).u 8 (by omega) (p := 8) (n := 1) rfl
    obtain ⟨a1, b1⟩ := back0 (n := 1) (w := 5) (X := s.X) (pc := s.pc) (l := E7 s.X s.pc s.lv false s.C s.dn) (v := o7 s.X s.pc s.lv false s.C s.dn 16 7) (d := s.dn) (by omega) (by omega) a b
    obtain ⟨a2, b2⟩ := put0 (X := s.X) (pc := s.pc) (l := E7 s.X s.pc s.lv false s.C s.dn) (v := o7 s.X s.pc s.lv false s.C s.dn 16 7) (d := s.dn) (on := false) (b := 8) (by omega) a1 b1
    have hl : E7 s.X s.pc s.lv false s.C s.dn = 0 ∨ E7 s.X s.pc s.lv false s.C s.dn = 1 := hl
    refine ⟨hs.x0, ?_, fun _ => ?_, a2, b2, a2 12 (by omega)⟩
    · show E7 s.X s.pc s.lv false s.C s.dn = 0 ∨ E7 s.X s.pc s.lv false s.C s.dn = 1 ∨ E7 s.X s.pc s.lv false s.C s.dn = 3
      omega
    · show E7 s.X s.pc s.lv false s.C s.dn ≠ 3
      omega
theorem bk8 {X : Nat → Int} {pc l : Int} {v : Bool} {C : Nat → Int} {d i m x : Int} (hC : ClC C) (hi : i.toNat < 29) (hi0 : 0 ≤ i) (hm : Cl (U2 i.toNat) m) (hz : Cl (U2 i.toNat) (bitV 11 2 0)) : ClC (M9 X pc l v C d i m x) := fun j hj => by
  unfold M9
  cases e : j == i.toNat with
  | false => cases (bif iEq i 0 then iEq (g9 (iAnd .u64 x m) 11 2) 2 else false) <;> exact hC j hj
  | true =>
    rw [beq_iff_eq] at e
    subst e
    cases (bif iEq i 0 then iEq (g9 (iAnd .u64 x m) 11 2) 2 else false)
    · exact ((hC _ hj).andNot _).or (hm.and x)
    · exact ((hC _ hj).andNot _).or ((hm.and x).set hz)
theorem cd0 {X : Nat → Int} {pc l : Int} {v : Bool} {C : Nat → Int} {d i m x : Int} (h : Mp (C 0)) (hi : 0 ≤ i) (hm : i ≠ 0 ∨ ((W m).getLsbD 11 = true ∧ (W m).getLsbD 12 = true) ∨ ((W m).getLsbD 11 = false ∧ (W m).getLsbD 12 = false)) : Mp (M9 X pc l v C d i m x 0) := by
  unfold M9
  cases e0 : iEq i 0 with
  | false =>
    rw [bd2] at e0
    have e : ((0 : Nat) == i.toNat) = false := by
      rw [beq_eq_false_iff_ne]; omega
    rw [e]; exact h
  | true =>
    rw [O2] at e0
    subst e0
    have hm : ((W m).getLsbD 11 = true ∧ (W m).getLsbD 12 = true) ∨ ((W m).getLsbD 11 = false ∧ (W m).getLsbD 12 = false) := by
      rcases hm with hm | hm
      · exact absurd rfl hm
      · exact hm
    have hb : ∀ k, (W (iAnd .u64 x m)).getLsbD k = ((W x).getLsbD k && (W m).getLsbD k) := fun k => by rw [W_and, BitVec.getLsbD_and]
    have m1 : ∀ v, (W (F9 v 11 2 0)).getLsbD 11 = false := fun v => by
      rw [W_set, BitVec.getLsbD_or, BitVec.getLsbD_and, BitVec.getLsbD_not]
      have q1 : (W (bitM 11 2)).getLsbD 11 = true := by decide
      have q2 : (W (bitV 11 2 0)).getLsbD 11 = false := by decide
      rw [q1, q2]; simp
    have m2 : ∀ v, (W (F9 v 11 2 0)).getLsbD 12 = false := fun v => by
      rw [W_set, BitVec.getLsbD_or, BitVec.getLsbD_and, BitVec.getLsbD_not]
      have q1 : (W (bitM 11 2)).getLsbD 12 = true := by decide
      have q2 : (W (bitV 11 2 0)).getLsbD 12 = false := by decide
      rw [q1, q2]; simp
    cases e2 : iEq (g9 (iAnd .u64 x m) 11 2) 2 with
    | true =>
      show Mp (iOr .u64 (T1 .u64 (C 0) m) (F9 (iAnd .u64 x m) 11 2 0))
      unfold Mp at h ⊢
      rw [W_or, bq0, BitVec.getLsbD_or, BitVec.getLsbD_or, BitVec.getLsbD_and, BitVec.getLsbD_and, BitVec.getLsbD_not, BitVec.getLsbD_not, m1, m2]
      rcases hm with ⟨p, q⟩ | ⟨p, q⟩ <;> rw [p, q]
      · simp
      · simpa using h
    | false =>
      have e3 : Mp (iAnd .u64 x m) := (mp_iff (U_and _ _)).2 (bd2.1 e2)
      show Mp (iOr .u64 (T1 .u64 (C 0) m) (iAnd .u64 x m))
      unfold Mp at h e3 ⊢
      rw [hb, hb] at e3
      rw [W_or, bq0, BitVec.getLsbD_or, BitVec.getLsbD_or, BitVec.getLsbD_and, BitVec.getLsbD_and, BitVec.getLsbD_not, BitVec.getLsbD_not, hb, hb]
      rcases hm with ⟨p, q⟩ | ⟨p, q⟩ <;> rw [p, q] at e3 ⊢
      · simpa using e3
      · simpa using h
end
end Go.Proofs.YtbkdnehnhbaieaaGreat.PV
set_option linter.unusedVariables false
set_option linter.unusedSimpArgs false
set_option maxRecDepth 100000
namespace Go.Proofs.YtbkdnehnhbaieaaGreat.PV
noncomputable section
open Go Go.Ev
theorem index_bd (n : Int) : -1 ≤ z9 n ∧ z9 n < 29 := by
  show (fun x : Int => -1 ≤ x ∧ x < 29) (z9 n)
  unfold z9
  repeat' (refine t8 (p := fun x : Int => -1 ≤ x ∧ x < 29) ?_ ?_)
  all_goals decide
theorem rows_z : ∀ j, j < 29 → Cl (U2 j) (U2 j) := fun j hj => by
  have h : ∀ j, j < 29 → iAnd .u64 (U2 j) (U2 j) = U2 j := by decide +kernel
  exact Cl.mk (h j hj)
theorem da4 (m : Int) : Cl m (bitV 11 2 0) := Cl.of ⟨by decide, by decide⟩ fun k hk hb => by
  have : bitV 11 2 0 = 0 := by kernel_rfl
  rw [this] at hb
  have h0 : W 0 = 0#64 := rfl
  rw [h0, BitVec.getLsbD_zero] at hb
  cases hb
theorem dK0 {X : Nat → Int} {pc l : Int} {v : Bool} {C : Nat → Int} {d n x : Int} (hC : ClC C) (hm : Mp (C 0)) : ClC (Q7 X pc l v C d n x) ∧ Mp (Q7 X pc l v C d n x 0) := by
  have e : Q7 X pc l v C d n x = bif iEq n 256 then M9 X pc l v C d 0 786722 x else bif iEq n 260 then M9 X pc l v C d 3 544 x else bif iEq n 516 then M9 X pc l v C d 3 1088 (iShl .u64 x 1) else bif iEq n 3074 then C else
      bif iLt (z9 n) 0 then C else M9 X pc l v C d (z9 n) (ai0 (z9 n)) x := by
    unfold Q7
    generalize M9 X pc l v C d 0 786722 x = A
    generalize M9 X pc l v C d 3 544 x = B
    generalize M9 X pc l v C d 3 1088 (iShl .u64 x 1) = D
    generalize M9 X pc l v C d (z9 n) (ai0 (z9 n)) x = E
    cases iEq n 256 <;> cases iEq n 260 <;> cases iEq n 516 <;> cases iEq n 3074 <;> cases iLt (z9 n) 0 <;> rfl
  rw [e]
  refine t8 (p := fun C' : Nat → Int => ClC C' ∧ Mp (C' 0)) ⟨bk8 hC (by decide) (by decide) (Cl.mk (by kernel_rfl)) (da4 _), cd0 hm (by decide) (.inr (.inr (by decide +kernel)))⟩ ?_
  refine t8 (p := fun C' : Nat → Int => ClC C' ∧ Mp (C' 0)) ⟨bk8 hC (by decide) (by decide) (Cl.mk (by kernel_rfl)) (da4 _), cd0 hm (by decide) (.inl (by decide))⟩ ?_
  refine t8 (p := fun C' : Nat → Int => ClC C' ∧ Mp (C' 0)) ⟨bk8 hC (by decide) (by decide) (Cl.mk (by kernel_rfl)) (da4 _), cd0 hm (by decide) (.inl (by decide))⟩ ?_
  refine t8 (p := fun C' : Nat → Int => ClC C' ∧ Mp (C' 0)) ⟨hC, hm⟩ ?_
  cases h : iLt (z9 n) 0 with
  | true => exact ⟨hC, hm⟩
  | false =>
    rw [Q2] at h
    have hb := (index_bd n).2
    have hM : ai0 (z9 n) = U2 (z9 n).toNat := by
      unfold ai0
      rw [Q2.2 h, aD1.2 hb]; rfl
    rw [cond_false, hM]
    refine ⟨bk8 hC (by omega) h (rows_z _ (by omega)) (da4 _), cd0 hm h ?_⟩
    by_cases h0 : z9 n = 0
    · rw [h0]
      exact .inr (.inl (by decide +kernel))
    · exact .inl h0
theorem az4 (x : Int) (h : decide (0 ≤ x ∧ x < 18446744073709551616) = true) : U x := (of_decide_eq_true h : 0 ≤ x ∧ x < 18446744073709551616)
theorem cl4_rem {x : Int} (hu : U x) (h : iNe (iRem x 4) 0 = false) : Cl 18446744073709551612 x := by
  rw [O7] at h
  refine cl4.2 ⟨hu, ?_⟩
  have : x.tmod 4 = x % 4 := Int.tmod_eq_emod_of_nonneg hu.1
  rw [← this]; exact h
theorem U_conv (x : Int) : U (g8 .u64 x) := U_wrap x
theorem U_cause (k : Int) {f : Nat → Int} (h : ∀ i, U (f i)) : U (av3 k f) := h _
theorem cL4 (a k : Int) (v : Bool) : U (aa6 a k v) := U_cause k fun i => by
  repeat' (first | (with_reducible refine t8 (p := U) ?_ ?_) | exact az4 _ (by decide))
theorem cU6 (a n k : Int) (v : Bool) : U (Y9 a n k v) := by
  unfold Y9
  refine t8 (p := U) (cL4 _ _ _) (t8 (p := U) (U_cause k fun i => ?_) ⟨by decide, by decide⟩)
  repeat' (first | (with_reducible refine t8 (p := U) ?_ ?_) | exact az4 _ (by decide))
theorem dy4 {a : Int} (ha : U a) (n k : Int) (v : Bool) : U (Z6 a n k v) := by
  unfold Z6
  exact t8 (p := U) ha (t8 (p := U) ha ⟨by decide, by decide⟩)
theorem cC6 (a k : Int) (v : Bool) (p : Int) {f : Nat → Int} (h : ∀ i, U (f i)) : U (V2 a k v p f) := h _
theorem cE1 (a k : Int) (v : Bool) (p : Int) (f : Nat → Int) : U (W9 a k v p f) := U_wrap _
theorem bO0 (a k : Int) (v : Bool) : U (D9 a k v) := cC6 _ _ _ _ fun i => by
  repeat' (first | (with_reducible refine t8 (p := U) ?_ ?_) | exact az4 _ (by decide))
theorem bN6 (a k : Int) (v : Bool) : U (E0 a k v) := cE1 _ _ _ _ _
theorem aZ6 (a k : Int) (v : Bool) (p : Int) : U (V5 a k v p) := cC6 _ _ _ _ fun i => by
  repeat' (first | (with_reducible refine t8 (p := U) ?_ ?_) | exact az4 _ (by decide))
theorem aV9 (a k : Int) (v : Bool) (p : Int) : U (W1 a k v p) := cE1 _ _ _ _ _
theorem U_access0 (a k : Int) (v : Bool) : U (ao5 a k v) := cC6 _ _ _ _ fun i => by
  repeat' (first | (with_reducible refine t8 (p := U) ?_ ?_) | exact az4 _ (by decide))
theorem U_access1 (a k : Int) (v : Bool) : U (ap0 a k v) := cE1 _ _ _ _ _
theorem dO3 (a k : Int) (v : Bool) (c p : Int) : U (M5 a k v c p) := by
  unfold M5
  repeat' (first | with_reducible exact aZ6 _ _ _ _ | with_reducible exact U_access0 _ _ _ | (with_reducible refine t8 (p := U) ?_ ?_))
theorem dL0 (a k : Int) (v : Bool) (c p : Int) : U (M7 a k v c p) := by
  unfold M7
  repeat' (first | with_reducible exact aV9 _ _ _ _ | with_reducible exact U_access1 _ _ _ | (with_reducible refine t8 (p := U) ?_ ?_))
theorem cK3 (f : Nat → Int) (d0 e8 d8 d9 : Bool) (e6 e7 B2 B0 : Int) {a : Int} (ha : U a) (k : Int) (v u : Bool) : U (dG8 f d0 e8 d8 d9 e6 e7 B2 B0 a k v u) := by
  unfold dG8
  repeat' (first | with_reducible assumption | with_reducible exact bO0 _ _ _ | with_reducible exact bN6 _ _ _ | with_reducible exact aZ6 _ _ _ _ | with_reducible exact aV9 _ _ _ _ | with_reducible exact dO3 _ _ _ _ _ | with_reducible exact dL0 _ _ _ _ _ | (with_reducible refine t8 (p := U) ?_ ?_) | exact az4 _ (by decide))
theorem cG4 (f : Nat → Int) (d0 e8 d8 d9 : Bool) (e6 e7 B2 B0 : Int) {a : Int} (ha : U a) (k : Int) (v u : Bool) : U (dJ4 f d0 e8 d8 d9 e6 e7 B2 B0 a k v u) := by
  unfold dJ4
  repeat' (first | with_reducible assumption | with_reducible exact bO0 _ _ _ | with_reducible exact bN6 _ _ _ | with_reducible exact aZ6 _ _ _ _ | with_reducible exact aV9 _ _ _ _ | with_reducible exact dO3 _ _ _ _ _ | with_reducible exact dL0 _ _ _ _ _ | (with_reducible refine t8 (p := U) ?_ ?_) | exact az4 _ (by decide))
theorem cH5 (f : Nat → Int) (d0 e8 d8 d9 : Bool) (e6 e7 B2 B0 : Int) {a : Int} (ha : U a) (k : Int) (v u : Bool) : U (dF3 f d0 e8 d8 d9 e6 e7 B2 B0 a k v u) := by
  unfold dF3
  repeat' (first | with_reducible assumption | with_reducible exact bO0 _ _ _ | with_reducible exact bN6 _ _ _ | with_reducible exact aZ6 _ _ _ _ | with_reducible exact aV9 _ _ _ _ | with_reducible exact dO3 _ _ _ _ _ | with_reducible exact dL0 _ _ _ _ _ | (with_reducible refine t8 (p := U) ?_ ?_) | exact az4 _ (by decide))
theorem ch0 (f : Nat → Int) (X : Nat → Int) (pc l : Int) (V : Bool) (C : Nat → Int) (d : Int) {a : Int} (ha : U a) (k lv : Int) (v : Bool) : U (ac6 f X pc l V C d a k lv v) := by
  unfold ac6 aj9
  repeat' (first | with_reducible assumption | with_reducible exact bO0 _ _ _ | with_reducible exact bN6 _ _ _ | with_reducible exact aZ6 _ _ _ _ | with_reducible exact aV9 _ _ _ _ | with_reducible exact dO3 _ _ _ _ _ | with_reducible exact dL0 _ _ _ _ _ | (with_reducible refine t8 (p := U) ?_ ?_) | exact az4 _ (by decide) | with_reducible exact cK3 _ _ _ _ _ _ _ _ _ ha _ _ _ | with_reducible exact cG4 _ _ _ _ _ _ _ _ _ ha _ _ _ | with_reducible exact cH5 _ _ _ _ _ _ _ _ _ ha _ _ _)
theorem co4 (f : Nat → Int) (X : Nat → Int) (pc l : Int) (V : Bool) (C : Nat → Int) (d : Int) {a : Int} (ha : U a) (k lv : Int) (v : Bool) : U (ax5 f X pc l V C d a k lv v) := by
  unfold ax5 ak0
  repeat' (first | with_reducible assumption | with_reducible exact bO0 _ _ _ | with_reducible exact bN6 _ _ _ | with_reducible exact aZ6 _ _ _ _ | with_reducible exact aV9 _ _ _ _ | with_reducible exact dO3 _ _ _ _ _ | with_reducible exact dL0 _ _ _ _ _ | (with_reducible refine t8 (p := U) ?_ ?_) | exact az4 _ (by decide) | with_reducible exact cK3 _ _ _ _ _ _ _ _ _ ha _ _ _ | with_reducible exact cG4 _ _ _ _ _ _ _ _ _ ha _ _ _ | with_reducible exact cH5 _ _ _ _ _ _ _ _ _ ha _ _ _)
theorem ci7 (f : Nat → Int) (X : Nat → Int) (pc l : Int) (V : Bool) (C : Nat → Int) (d : Int) {a : Int} (ha : U a) (k lv : Int) (v : Bool) : U (az0 f X pc l V C d a k lv v) := by
  unfold az0 aj3
  repeat' (first | with_reducible assumption | with_reducible exact bO0 _ _ _ | with_reducible exact bN6 _ _ _ | with_reducible exact aZ6 _ _ _ _ | with_reducible exact aV9 _ _ _ _ | with_reducible exact dO3 _ _ _ _ _ | with_reducible exact dL0 _ _ _ _ _ | (with_reducible refine t8 (p := U) ?_ ?_) | exact az4 _ (by decide) | with_reducible exact cK3 _ _ _ _ _ _ _ _ _ ha _ _ _ | with_reducible exact cG4 _ _ _ _ _ _ _ _ _ ha _ _ _ | with_reducible exact cH5 _ _ _ _ _ _ _ _ _ ha _ _ _)
theorem dN9 (t al : Int) (o : Nat → List UInt8) (f : Nat → Int) (p a n k x : Int) (v : Bool) : U (cv7 t al o f p a n k x v) := by
  unfold cv7
  repeat' (first | with_reducible assumption | with_reducible exact cL4 _ _ _ | with_reducible exact cU6 _ _ _ _ | (with_reducible refine t8 (p := U) ?_ ?_) | exact az4 _ (by decide))
theorem dL9 (t al : Int) (o : Nat → List UInt8) (f : Nat → Int) (p : Int) {a : Int} (ha : U a) (n k x : Int) (v : Bool) : U (cv0 t al o f p a n k x v) := by
  unfold cv0
  repeat' (first | with_reducible assumption | with_reducible exact cL4 _ _ _ | with_reducible exact cU6 _ _ _ _ | with_reducible exact dy4 ha _ _ _ | with_reducible exact ch0 _ _ _ _ _ _ _ ha _ _ _ | with_reducible exact co4 _ _ _ _ _ _ _ ha _ _ _ | with_reducible exact ci7 _ _ _ _ _ _ _ ha _ _ _ | (with_reducible refine t8 (p := U) ?_ ?_) | exact az4 _ (by decide))
theorem U_do2 (t al : Int) (o : Nat → List UInt8) (f : Nat → Int) (X : Nat → Int) (pc l : Int) (V : Bool) (C : Nat → Int) (d : Int) {a : Int} (ha : U a) (n k x lv : Int) (v : Bool) : U (af3 t al o f X pc l V C d a n k x lv v) := by
  unfold af3
  repeat' (first | with_reducible assumption | with_reducible exact cL4 _ _ _ | with_reducible exact cU6 _ _ _ _ | with_reducible exact dy4 ha _ _ _ | with_reducible exact ch0 _ _ _ _ _ _ _ ha _ _ _ | with_reducible exact co4 _ _ _ _ _ _ _ ha _ _ _ | with_reducible exact ci7 _ _ _ _ _ _ _ ha _ _ _ | (with_reducible refine t8 (p := U) ?_ ?_) | exact az4 _ (by decide) | with_reducible exact dN9 _ _ _ _ _ _ _ _ _ _ | with_reducible exact dL9 _ _ _ _ _ ha _ _ _ _)
theorem U_run2 (t al : Int) (o : Nat → List UInt8) (f : Nat → Int) (X : Nat → Int) (pc l : Int) (V : Bool) (C : Nat → Int) (d : Int) {a : Int} (ha : U a) (lv : Int) : U (am2 t al o f X pc l V C d a lv) := by
  unfold am2
  repeat' (first | with_reducible assumption | with_reducible exact cL4 _ _ _ | with_reducible exact cU6 _ _ _ _ | with_reducible exact dy4 ha _ _ _ | with_reducible exact ch0 _ _ _ _ _ _ _ ha _ _ _ | with_reducible exact co4 _ _ _ _ _ _ _ ha _ _ _ | with_reducible exact ci7 _ _ _ _ _ _ _ ha _ _ _ | (with_reducible refine t8 (p := U) ?_ ?_) | exact az4 _ (by decide) | with_reducible exact dN9 _ _ _ _ _ _ _ _ _ _ | with_reducible exact dL9 _ _ _ _ _ ha _ _ _ _)
theorem U_do3 (t al : Int) (o : Nat → List UInt8) (f : Nat → Int) (X : Nat → Int) (pc l : Int) (V : Bool) (C : Nat → Int) (d : Int) {a : Int} (ha : U a) (n k x lv : Int) (v : Bool) : U (af4 t al o f X pc l V C d a n k x lv v) := by
  unfold af4
  repeat' (first | with_reducible assumption | with_reducible exact cL4 _ _ _ | with_reducible exact cU6 _ _ _ _ | with_reducible exact dy4 ha _ _ _ | with_reducible exact ch0 _ _ _ _ _ _ _ ha _ _ _ | with_reducible exact co4 _ _ _ _ _ _ _ ha _ _ _ | with_reducible exact ci7 _ _ _ _ _ _ _ ha _ _ _ | (with_reducible refine t8 (p := U) ?_ ?_) | exact az4 _ (by decide) | with_reducible exact dN9 _ _ _ _ _ _ _ _ _ _ | with_reducible exact dL9 _ _ _ _ _ ha _ _ _ _)
theorem U_run3 (t al : Int) (o : Nat → List UInt8) (f : Nat → Int) (X : Nat → Int) (pc l : Int) (V : Bool) (C : Nat → Int) (d : Int) {a : Int} (ha : U a) (lv : Int) : U (al4 t al o f X pc l V C d a lv) := by
  unfold al4
  repeat' (first | with_reducible assumption | with_reducible exact cL4 _ _ _ | with_reducible exact cU6 _ _ _ _ | with_reducible exact dy4 ha _ _ _ | with_reducible exact ch0 _ _ _ _ _ _ _ ha _ _ _ | with_reducible exact co4 _ _ _ _ _ _ _ ha _ _ _ | with_reducible exact ci7 _ _ _ _ _ _ _ ha _ _ _ | (with_reducible refine t8 (p := U) ?_ ?_) | exact az4 _ (by decide) | with_reducible exact dN9 _ _ _ _ _ _ _ _ _ _ | with_reducible exact dL9 _ _ _ _ _ ha _ _ _ _)
theorem U_do4 (t al : Int) (o : Nat → List UInt8) (f : Nat → Int) (X : Nat → Int) (pc l : Int) (V : Bool) (C : Nat → Int) (d : Int) {a : Int} (ha : U a) (n k x lv : Int) (v : Bool) : U (af7 t al o f X pc l V C d a n k x lv v) := by
  unfold af7
  repeat' (first | with_reducible assumption | with_reducible exact cL4 _ _ _ | with_reducible exact cU6 _ _ _ _ | with_reducible exact dy4 ha _ _ _ | with_reducible exact ch0 _ _ _ _ _ _ _ ha _ _ _ | with_reducible exact co4 _ _ _ _ _ _ _ ha _ _ _ | with_reducible exact ci7 _ _ _ _ _ _ _ ha _ _ _ | (with_reducible refine t8 (p := U) ?_ ?_) | exact az4 _ (by decide) | with_reducible exact dN9 _ _ _ _ _ _ _ _ _ _ | with_reducible exact dL9 _ _ _ _ _ ha _ _ _ _)
theorem U_run4 (t al : Int) (o : Nat → List UInt8) (f : Nat → Int) (X : Nat → Int) (pc l : Int) (V : Bool) (C : Nat → Int) (d : Int) {a : Int} (ha : U a) (lv : Int) : U (am7 t al o f X pc l V C d a lv) := by
  unfold am7
  repeat' (first | with_reducible assumption | with_reducible exact cL4 _ _ _ | with_reducible exact cU6 _ _ _ _ | with_reducible exact dy4 ha _ _ _ | with_reducible exact ch0 _ _ _ _ _ _ _ ha _ _ _ | with_reducible exact co4 _ _ _ _ _ _ _ ha _ _ _ | with_reducible exact ci7 _ _ _ _ _ _ _ ha _ _ _ | (with_reducible refine t8 (p := U) ?_ ?_) | exact az4 _ (by decide) | with_reducible exact dN9 _ _ _ _ _ _ _ _ _ _ | with_reducible exact dL9 _ _ _ _ _ ha _ _ _ _)
theorem U_insn2 (t al : Int) (o : Nat → List UInt8) (f : Nat → Int) (X : Nat → Int) (pc l : Int) (V : Bool) (C : Nat → Int) (d op rd r1 r2 im cs : Int) : U (aX7 t al o f X pc l V C d op rd r1 r2 im cs) := by
  unfold aX7
  repeat' (first | with_reducible exact U_do2 _ _ _ _ _ _ _ _ _ _ (cY3 _ _) _ _ _ _ _ | with_reducible exact U_run2 _ _ _ _ _ _ _ _ _ _ (cY3 _ _) _ | (with_reducible refine t8 (p := U) ?_ ?_) | exact az4 _ (by decide))
theorem U_insn3 (t al : Int) (o : Nat → List UInt8) (f : Nat → Int) (X : Nat → Int) (pc l : Int) (V : Bool) (C : Nat → Int) (d op rd r1 r2 im cs : Int) : U (ba4 t al o f X pc l V C d op rd r1 r2 im cs) := by
  unfold ba4
  repeat' (first | with_reducible exact U_do3 _ _ _ _ _ _ _ _ _ _ (cY3 _ _) _ _ _ _ _ | with_reducible exact U_run3 _ _ _ _ _ _ _ _ _ _ (cY3 _ _) _ | (with_reducible refine t8 (p := U) ?_ ?_) | exact az4 _ (by decide))
theorem U_insn4 (t al : Int) (o : Nat → List UInt8) (f : Nat → Int) (X : Nat → Int) (pc l : Int) (V : Bool) (C : Nat → Int) (d op rd r1 r2 im cs : Int) : U (aV5 t al o f X pc l V C d op rd r1 r2 im cs) := by
  unfold aV5
  repeat' (first | with_reducible exact U_do4 _ _ _ _ _ _ _ _ _ _ (cY3 _ _) _ _ _ _ _ | with_reducible exact U_run4 _ _ _ _ _ _ _ _ _ _ (cY3 _ _) _ | (with_reducible refine t8 (p := U) ?_ ?_) | exact az4 _ (by decide))
end
end Go.Proofs.YtbkdnehnhbaieaaGreat.PV
set_option linter.unusedVariables false
set_option linter.unusedSimpArgs false
set_option maxRecDepth 100000
namespace Go.Proofs.YtbkdnehnhbaieaaGreat.PV
noncomputable section
open Go Go.Ev
theorem U_z : U 0 := az4 _ (by decide)
theorem word_U (B : BusS) {s : Sta} (hs : Good s) : FltU (cb9 B s).f :=
  ⟨show U (af3 B.t B.a B.o B.f s.X s.pc s.lv s.V s.C s.dn s.pc 4 0 0 s.lv s.V) from U_do2 _ _ _ _ _ _ _ _ _ _ hs.pc.u _ _ _ _ _, show U (af4 B.t B.a B.o B.f s.X s.pc s.lv s.V s.C s.dn s.pc 4 0 0 s.lv s.V) from U_do3 _ _ _ _ _ _ _ _ _ _ hs.pc.u _ _ _ _ _, show U (af7 B.t B.a B.o B.f s.X s.pc s.lv s.V s.C s.dn s.pc 4 0 0 s.lv s.V) from U_do4 _ _ _ _ _ _ _ _ _ _ hs.pc.u _ _ _ _ _⟩
theorem acc_U (B : BusS) (s : Sta) (i : Ins) : FltU (accS B s i).f := ⟨show U (aX7 B.t B.a B.o B.f s.X s.pc s.lv s.V s.C s.dn i.op i.rd i.r1 i.r2 i.im i.cs) from U_insn2 _ _ _ _ _ _ _ _ _ _ _ _ _ _ _ _, show U (ba4 B.t B.a B.o B.f s.X s.pc s.lv s.V s.C s.dn i.op i.rd i.r1 i.r2 i.im i.cs) from U_insn3 _ _ _ _ _ _ _ _ _ _ _ _ _ _ _ _, show U (aV5 B.t B.a B.o B.f s.X s.pc s.lv s.V s.C s.dn i.op i.rd i.r1 i.r2 i.im i.cs) from U_insn4 _ _ _ _ _ _ _ _ _ _ _ _ _ _ _ _⟩
theorem U_goes (X : Nat → Int) (pc l : Int) (V : Bool) (C : Nat → Int) (d op rd r1 r2 im cs : Int) : U (J7 X pc l V C d op rd r1 r2 im cs) := by
  unfold J7 aB3
  repeat' (first | with_reducible exact cY3 _ _ | with_reducible exact bY3 _ _ | (with_reducible refine t8 (p := U) ?_ ?_))
theorem U_jump8 (X : Nat → Int) (pc l : Int) (V : Bool) (C : Nat → Int) (d op rd r1 r2 im cs : Int) : U (X1 X pc l V C d op rd r1 r2 im cs) := by
  unfold X1
  repeat' (first | with_reducible exact U_goes _ _ _ _ _ _ _ _ _ _ _ _ | (with_reducible refine t8 (p := U) ?_ ?_) | exact U_z)
theorem jump_U (s : Sta) (i : Ins) : FltU (dW8 s i).f := ⟨U_z, show U (X1 s.X s.pc s.lv s.V s.C s.dn i.op i.rd i.r1 i.r2 i.im i.cs) from U_jump8 _ _ _ _ _ _ _ _ _ _ _ _, U_z⟩
theorem U_call0 (X : Nat → Int) (pc l : Int) (V : Bool) (C : Nat → Int) (d op rd r1 r2 im cs : Int) : U (ai3 X pc l V C d op rd r1 r2 im cs) := by
  unfold ai3
  repeat' (first | (with_reducible refine t8 (p := U) ?_ ?_) | exact az4 _ (by decide))
theorem U_call1 {X : Nat → Int} {pc l : Int} {V : Bool} {C : Nat → Int} {d op rd r1 r2 im cs : Int} (h : U pc) : U (ai4 X pc l V C d op rd r1 r2 im cs) := by
  unfold ai4
  exact t8 (p := U) h U_z
theorem call_U {s : Sta} (hs : Good s) (i : Ins) : FltU (callF s i) := ⟨show U (ai3 s.X s.pc s.lv s.V s.C s.dn i.op i.rd i.r1 i.r2 i.im i.cs) from U_call0 _ _ _ _ _ _ _ _ _ _ _ _, show U (ai4 s.X s.pc s.lv s.V s.C s.dn i.op i.rd i.r1 i.r2 i.im i.cs) from U_call1 hs.pc.u, U_z⟩
theorem dU3 : FltU nilF := ⟨U_z, U_z, U_z⟩
theorem does_U (B : BusS) {s : Sta} (hs : Good s) (i : Ins) : FltU (cf5 B s i).f := by
  have hr : FltU (accR B s i).f := by
    unfold accR
    exact t8 (p := fun r : Res => FltU r.f) dU3 (acc_U _ _ _)
  unfold cf5
  refine t8 (p := fun r : Res => FltU r.f) (jump_U _ _) (t8 (p := fun r : Res => FltU r.f) (jump_U _ _) (t8 (p := fun r : Res => FltU r.f) hr (t8 (p := fun r : Res => FltU r.f) hr (t8 (p := fun r : Res => FltU r.f) hr ?_))))
  refine t8 (p := fun r : Res => FltU r.f) dU3 (t8 (p := fun r : Res => FltU r.f) dU3 (t8 (p := fun r : Res => FltU r.f) (call_U hs _) ?_))
  exact t8 (p := fun r : Res => FltU r.f) dU3 (t8 (p := fun r : Res => FltU r.f) dU3 dU3)
structure ResG (s : Sta) (r : Res) : Prop where
  x0 : r.s.X 0 = 0
  good : Good r.s
theorem bE8 {s : Sta} (hs : Good s) (v : Int) : ResG s (nextS s v) := ⟨hs.x0, ⟨hs.x0, hs.lv, hs.v, hs.c, hs.mp, bP7 hs.pc⟩⟩
theorem cT8 {s : Sta} (hs : Good s) (i : Ins) (hok : (dW8 s i).ok = true) : ResG s (dW8 s i) := by
  have hok : U6 s.X s.pc s.lv s.V s.C s.dn i.op i.rd i.r1 i.r2 i.im i.cs = true := hok
  have key : ab9 s.X s.pc s.lv s.V s.C s.dn i.op i.rd i.r1 i.r2 i.im i.cs = s.X ∧ ac5 s.X s.pc s.lv s.V s.C s.dn i.op i.rd i.r1 i.r2 i.im i.cs = s.lv ∧ ab2 s.X s.pc s.lv s.V s.C s.dn i.op i.rd i.r1 i.r2 i.im i.cs = s.V ∧ ab5 s.X s.pc s.lv s.V s.C s.dn i.op i.rd i.r1 i.r2 i.im i.cs = s.C ∧ aa9 s.X s.pc s.lv s.V s.C s.dn i.op i.rd i.r1 i.r2 i.im i.cs = s.dn ∧ Cl 18446744073709551612 (X6 s.X s.pc s.lv s.V s.C s.dn i.op i.rd i.r1 i.r2 i.im i.cs) := by
    revert hok
    unfold U6
    unfold ab9 X6 ac5 ab2 ab5 aa9 H7
    cases iEq i.op 1 with
    | true => exact fun _ => ⟨rfl, rfl, rfl, rfl, rfl, bP7 hs.pc⟩
    | false =>
    cases iEq i.op 2 with
    | true => exact fun _ => ⟨rfl, rfl, rfl, rfl, rfl, bP7 hs.pc⟩
    | false =>
    cases h1 : (bif iEq (a8 i.op) 2 then !N4 i.op (s.X i.r1.toNat) (s.X i.r2.toNat) else false) with
    | true => exact fun _ => ⟨rfl, rfl, rfl, rfl, rfl, bP7 hs.pc⟩
    | false =>
    cases h2 : iNe (iRem (J7 s.X s.pc s.lv s.V s.C s.dn i.op i.rd i.r1 i.r2 i.im i.cs) 4) 0 with
    | true => exact fun h => Bool.noConfusion h
    | false => exact fun _ => ⟨rfl, rfl, rfl, rfl, rfl, cl4_rem (U_goes _ _ _ _ _ _ _ _ _ _ _ _) h2⟩
  obtain ⟨e0, e2, e3, e4, e5, e1⟩ := key
  have hr : (dW8 s i).s = ⟨s.X, X6 s.X s.pc s.lv s.V s.C s.dn i.op i.rd i.r1 i.r2 i.im i.cs, s.lv, s.V, s.C, s.dn⟩ := by
    show Sta.mk _ _ _ _ _ _ = _
    rw [e0, e2, e3, e4, e5]
  refine ⟨?_, ?_⟩
  · rw [hr]; exact hs.x0
  · rw [hr]; exact ⟨hs.x0, hs.lv, hs.v, hs.c, hs.mp, e1⟩
theorem ctrl_good {s : Sta} (hs : Good s) (i : Ins) : ResG s (ctrlS s i) := by
  have h4 : ClC (J9 s.X s.pc s.lv s.V s.C s.dn i.op i.rd i.r1 i.r2 i.im i.cs) ∧ Mp (J9 s.X s.pc s.lv s.V s.C s.dn i.op i.rd i.r1 i.r2 i.im i.cs 0) := by
    unfold J9
    cases s.V <;> cases iLt i.op 57 <;> cases p7 i.op i.rd i.r1 i.r2 i.im i.cs <;> first | exact ⟨hs.c, hs.mp⟩ | exact dK0 hs.c hs.mp
  have h1 : Cl 18446744073709551612 (aj6 s.X s.pc s.lv s.V s.C s.dn i.op i.rd i.r1 i.r2 i.im i.cs) := by
    unfold aj6 H7
    repeat' (first | with_reducible exact bP7 hs.pc | (with_reducible refine t8 (p := Cl 18446744073709551612) ?_ ?_))
  exact ⟨hs.x0, hs.x0, hs.lv, hs.v, h4.1, h4.2, h1⟩
theorem retn_good {s : Sta} (hs : Good s) (i : Ins) : ResG s (retnS s i) := by
  have : Good (retnS s i).s := by
    show Good ⟨s.X, ak6 s.X s.pc s.lv s.V s.C s.dn i.op i.rd i.r1 i.r2 i.im i.cs, ak1 s.X s.pc s.lv s.V s.C s.dn i.op i.rd i.r1 i.r2 i.im i.cs, aj7 s.X s.pc s.lv s.V s.C s.dn i.op i.rd i.r1 i.r2 i.im i.cs, K7 s.X s.pc s.lv s.V s.C s.dn i.op i.rd i.r1 i.r2 i.im i.cs, s.dn⟩
    unfold ak6 ak1 aj7 K7 H7
    cases iEq i.op 60 with
    | true =>
      cases s7 s.X s.pc s.lv s.V s.C s.dn i.op i.rd i.r1 i.r2 i.im i.cs with
      | true => exact hs
      | false => exact mret_good hs
    | false =>
    cases iEq i.op 61 with
    | true =>
      cases s6 s.X s.pc s.lv s.V s.C s.dn i.op i.rd i.r1 i.r2 i.im i.cs with
      | true => exact hs
      | false => exact sret_good hs
    | false => exact ⟨hs.x0, hs.lv, hs.v, hs.c, hs.mp, bP7 hs.pc⟩
  exact ⟨this.x0, this⟩
theorem does_good (B : BusS) {s : Sta} (hs : Good s) (i : Ins) (hok : (cf5 B s i).ok = true) : ResG s (cf5 B s i) := by
  have ha : ∀ r, r = accR B s i → r.ok = true → ResG s r := fun r hr h => by
    subst hr
    unfold accR at h ⊢
    cases e : (accS B s i).ok with
    | false => rw [e] at h; cases h
    | true => exact bE8 hs _
  revert hok
  unfold cf5
  refine t8 (p := fun r : Res => r.ok = true → ResG s r) (cT8 hs i) (t8 (p := fun r : Res => r.ok = true → ResG s r) (cT8 hs i) ?_)
  refine t8 (p := fun r : Res => r.ok = true → ResG s r) (ha _ rfl) (t8 (p := fun r : Res => r.ok = true → ResG s r) (ha _ rfl) (t8 (p := fun r : Res => r.ok = true → ResG s r) (ha _ rfl) ?_))
  refine t8 (p := fun r : Res => r.ok = true → ResG s r) (fun _ => bE8 hs _) (t8 (p := fun r : Res => r.ok = true → ResG s r) (fun _ => bE8 hs _) ?_)
  refine t8 (p := fun r : Res => r.ok = true → ResG s r) (fun h => by cases h) (t8 (p := fun r : Res => r.ok = true → ResG s r) (fun _ => ctrl_good hs i) ?_)
  exact t8 (p := fun r : Res => r.ok = true → ResG s r) (fun _ => retn_good hs i) (fun _ => bE8 hs _)
theorem end_good {s : Sta} {r : Res} (h : ResG s r) (rd : Int) (h0 : 0 ≤ rd) : Good (endS r rd) := by
  refine ⟨?_, h.good.lv, h.good.v, h.good.c, h.good.mp, h.good.pc⟩
  show (bif iNe rd 0 then (bif 0 == rd.toNat then r.val else r.s.X 0) else r.s.X 0) = 0
  cases e : iNe rd 0 with
  | false => exact h.x0
  | true =>
    rw [bZ6] at e
    have : ((0 : Nat) == rd.toNat) = false := by rw [beq_eq_false_iff_ne]; omega
    rw [this]; exact h.x0
theorem U_legC (s : Sta) (i : Ins) : U (legC s i) := by
  show U (F5 s.X s.pc s.lv s.V s.C s.dn i.op i.rd i.r1 i.r2 i.im i.cs)
  have hb : ∀ (b : Bool) (c : Int), c = 2 ∨ c = 22 → U (F8 b c) := fun b c hc => by
    unfold F8
    rcases hc with rfl | rfl <;> exact t8 (p := U) ⟨by decide, by decide⟩ ⟨by decide, by decide⟩
  unfold F5 aS3 at7 aq2 aU4 W0
  repeat' (first | with_reducible exact hb _ _ (.inl rfl) | with_reducible exact hb _ _ (.inr rfl) | (with_reducible refine t8 (p := U) ?_ ?_) | exact az4 _ (by decide))
theorem wr_pos {s : Sta} {i : Ins} (h : legOk s i = true) : 0 ≤ wrR i := by
  have h1 := dH8 h
  obtain ⟨h2, -, -⟩ := co3 h1
  unfold wrR x5
  rw [h1]
  exact (V8.1 h2).1
theorem do_good (B : BusS) {s : Sta} (hs : Good s) (w : Int) : Good (doS B s w) := by
  rw [doS_eq]
  unfold doT
  cases iNe (o8 w) 0 with
  | true => exact aU2 hs ⟨az4 2 (by decide), U_conv _, U_z⟩ _ _
  | false =>
  cases hl : legOk s (decI w) with
  | false => exact aU2 hs ⟨U_legC _ _, U_conv _, U_z⟩ _ _
  | true =>
  cases hd : (cf5 B s (decI w)).ok with
  | false => exact aU2 hs (does_U B hs _) _ _
  | true => exact end_good (does_good B hs _ hd) _ (wr_pos hl)
theorem U_intC (B : BusS) (s : Sta) (l : Bool) : U (intC B s l) := by
  show U (H4 s.X s.pc s.lv s.V s.C s.dn (iLe B.a B.t) l)
  unfold H4
  repeat' (first | (with_reducible refine t8 (p := U) ?_ ?_) | exact az4 _ (by decide))
theorem step_good (B : BusS) {s : Sta} (hs : Good s) (l : Bool) : Good (stepT B s l).s := by
  unfold stepT
  refine t8 (p := fun r : Stp => Good r.s) (aU2 hs ⟨U_intC _ _ _, U_z, U_z⟩ _ _) (t8 (p := fun r : Stp => Good r.s) ?_ ?_)
  · exact aU2 hs (word_U B hs) _ _
  · exact do_good _ hs _
end
end Go.Proofs.YtbkdnehnhbaieaaGreat.PV
set_option linter.unusedVariables false
set_option linter.unusedSimpArgs false
set_option maxRecDepth 100000
namespace Go.Proofs.YtbkdnehnhbaieaaGreat.PV
noncomputable section
open Go Go.Ev
noncomputable def HTx (W : TtW) : Hd := inlO Tryz.prog okT (m5 (Tcc W.c)) ROt [38, 40] 400 SK (fun _ => hGr [(39, cD2 W.S)] (hMem [(10, bZ1), (11, cD6), (13, bK5)] NOH)) 8
def ttW : TtW := ⟨stW, ccW⟩
theorem bl3 : N6 Tryz.prog (HTx ttW) := o9 mix A7 bG4 (aA8 (by kernel_rfl)) (fun h hh => au3 (ap2 E9 (show MOk Tryz.prog [(10, bZ1), (11, cD6), (13, bK5)] from ⟨dx9, dV0, cx3, trivial⟩)) (show GOk Tryz.prog [(39, cD2 stW)] from ⟨dM1, trivial⟩)) 8
def ttR (W : TtW) (s : Sta) (r : Ret) (l : Bool) : Bool := (!cy1 W s) && ((!cl6 W s r l) && !cv3 W s r l)
def ttG (W : TtW) (n : Nat) (f : Nat → Bool) (M : Mc) (i : Int) : Bool :=
  iLt i n && (iIn i n && (iIn 0 32 && ((!gB false (cy1 W (W.S.st M (f (i.toNat + 0))).s) || iIn i n) && (gB false (cl6 W (W.S.st M (f (i.toNat + 0))).s (W.S.re M (f (i.toNat + 0))) (f (i.toNat + 0))) && (!(cv3 W (W.S.st M (f (i.toNat + 0))).s (W.S.re M (f (i.toNat + 0))) (f (i.toNat + 0))) && true)))))
structure TtV where
  W : TtW
  fs : Mc → (Nat → Bool) → Nat → Mc
  ok : Mc → (Nat → Bool) → Nat → Bool
def ttMs (M : Mc) (f : Nat → Bool) : Nat → Mc
  | 0 => M
  | j + 1 => stepM (ttMs M f j) (f j)
def ttV : TtV := ⟨ttW, ttMs, fun M f n => bU7 (fun j => ttR ttW (stepM (ttMs M f j) (f j)).s (cF4 (ttMs M f j) (f j)) (f j)) n⟩
theorem turnT {H : Hd} (hH : N6 Tryz.prog H) {ro : FuncId → Bool} {b : Code} {L : Lq} (hL : L.wf = true) {K : Kc} (hK : Part L K) {fr : Fr} {m : Mem} (hg0 : NoGd fr) {c : Int} {r : List AV} {g : Bool}
    (he : evC Tryz.prog okT (m5 (Tcc ccW)) H ro NOV 101 false b fr m K = some (g, .tup (.it .i64 c :: r))) (hg : g = true) (hr : L.ok r = true) : Turn Tryz.prog L.n0 b fr m c (L.F r) (L.M r) :=
  cM1 mix A7 bG4 hH (m7 _) hL hK hg0 he hg hr
def ttTs : List Tm := [.fx .ref, .fx .ref, .fx (.int .i64), .fx cs0, .fx (.agg [.int .u64, .int .u64, .arr 4 .str]), .fx (.arr 32768 (.int .u8)), .ar .bool]
def ttMc (g : Nat → AV) : Mc := ⟨J5 ((g 3).fld 0), (((g 3).fld 2).fld 2).num, ⟨tmOf (g 4), alOf (g 4), oOf (g 4), fOf (g 5)⟩⟩
def boOf (a : AV) : Nat → Bool := fun j => (a.ix j).bool
def ttL0 : Lq := ttL 11 10 7 3 0
theorem ttA0 (W : TtW) (n : Nat) (f : Nat → Bool) (M : Mc) (i : Int) : evC Tryz.prog okT (m5 (Tcc W.c)) (HTx W) ROt NOV 101 false (ai1 Tryz.f7.body 0) (ttL0.F (ttS 10 7 3 0 n f M i)) (ttL0.M (ttS 10 7 3 0 n f M i)) (bH8 0 (aZ3 ttL0)) =
    some (ttG W n f M i, .tup (.it .i64 0 :: ttS 10 7 3 0 n f (W.S.st M (f (i.toNat + 0))) (iAdd .i64 i 1))) := by kernel_rfl
theorem ttX0 (W : TtW) (n : Nat) (f : Nat → Bool) (M : Mc) (i : Int) : evC Tryz.prog okT (m5 (Tcc W.c)) (HTx W) ROt NOV 101 false (ai1 Tryz.f7.body 0) (ttL0.F (ttS 10 7 3 0 n f M i)) (ttL0.M (ttS 10 7 3 0 n f M i)) (bH8 2 (aZ3 ttL0)) =
    some (!iLt i n && true, .tup (.it .i64 2 :: ttS 10 7 3 0 n f M i)) := by kernel_rfl
def ttE0 (V : TtV) (g : Nat → AV) : List AV := ttS 10 7 3 0 (lenA (g 6)) (boOf (g 6)) (V.fs (ttMc g) (boOf (g 6)) (lenA (g 6))) (lenA (g 6) : Nat)
def ttGo0 (V : TtV) : (Nat → AV) → Kc → Option Out := goJ (fun g => isSl 0 false (g 0) && (bB5 10 cs0 (g 1) && bB5 7 J6 ((g 3).fld 1))) (fun g => iEq (g 2).num 0 && (Nat.beq (lenSl (g 0)) (lenA (g 6)) && (Nat.ble (lenA (g 6)) 60 && V.ok (ttMc g) (boOf (g 6)) (lenA (g 6))))) .normal
  (fun g => ttL0.F (ttE0 V g)) (fun g => ttL0.M (ttE0 V g))
theorem ttGo0_ok : GoesT Tryz.prog 0 (.loop (ai1 Tryz.f7.body 0)) ttL0 ttTs (ttGo0 ttV) := goT_ok fun g h1 h2 => by
  simp only [Bool.and_eq_true, Nat.beq_eq, Nat.ble_eq] at h1 h2
  obtain ⟨c0, c1, c2⟩ := h1
  obtain ⟨hi, hlen, h60, hok⟩ := h2
  refine ⟨aX1 (L := ttL0) rfl, fun fr m hm hb => ?_⟩
  have hst : r7 (tmS g ttTs 0) 0 g = ttS 10 7 3 0 (lenA (g 6)) (boOf (g 6)) (ttMc g) 0 := by
    have : r7 (tmS g ttTs 0) 0 g = [g 0, g 1, .it .i64 (g 2).num, .agg [staA (J5 ((g 3).fld 0)), (g 3).fld 1, .agg [.agg [], .agg [], .it .i64 (((g 3).fld 2).fld 2).num]], busA (tmOf (g 4)) (alOf (g 4)) (oOf (g 4)), byA 32768 (fOf (g 5)), boA (lenA (g 6)) (boOf (g 6))] := rfl
    rw [this, cD7 c0, an9 c1, an9 c2, O2.1 hi, hlen]
    rfl
  rw [hst] at hb
  refine aA1 (F := fun j => ttL0.F (ttS 10 7 3 0 (lenA (g 6)) (boOf (g 6)) (ttMs (ttMc g) (boOf (g 6)) j) (j : Nat))) (M := fun j => ttL0.M (ttS 10 7 3 0 (lenA (g 6)) (boOf (g 6)) (ttMs (ttMc g) (boOf (g 6)) j) (j : Nat))) (n := lenA (g 6)) (c := 2) (fun j hj => ?_) ?_ (by decide) hm hb (e := .exit 0) rfl
  · have hE := ttA0 ttW (lenA (g 6)) (boOf (g 6)) (ttMs (ttMc g) (boOf (g 6)) j) ((j : Nat) : Int)
    have hr := ca7 hok j hj
    have hg : ttG ttW (lenA (g 6)) (boOf (g 6)) (ttMs (ttMc g) (boOf (g 6)) j) ((j : Nat) : Int) = true := by
      unfold ttG
      rw [ba5.2 (show (j : Int) < (lenA (g 6) : Nat) by omega), V8.2 (show 0 ≤ (j : Int) ∧ (j : Int) < (lenA (g 6) : Nat) by omega)]
      have ej : ((j : Int).toNat + 0) = j := by simp
      rw [ej]
      unfold ttR at hr
      simp only [Bool.and_eq_true, Bool.not_eq_true'] at hr
      obtain ⟨r1, r2, r3⟩ := hr
      have r2 : cl6 ttW (ttW.S.st (ttMs (ttMc g) (boOf (g 6)) j) (boOf (g 6) j)).s (ttW.S.re (ttMs (ttMc g) (boOf (g 6)) j) (boOf (g 6) j)) (boOf (g 6) j) = false := r2
      have r3 : cv3 ttW (ttW.S.st (ttMs (ttMc g) (boOf (g 6)) j) (boOf (g 6) j)).s (ttW.S.re (ttMs (ttMc g) (boOf (g 6)) j) (boOf (g 6) j)) (boOf (g 6) j) = false := r3
      rw [r2, r3, Bool.or_true]
      rfl
    rw [bn9 j (by omega), hg] at hE
    have ej : ((j : Int).toNat + 0) = j := by simp
    rw [ej] at hE
    exact turnT bl3 (L := ttL0) rfl (T5 0 (Part.refl _)) (aX1 (L := ttL0) rfl) hE rfl rfl
  · refine turnT bl3 (L := ttL0) rfl (T5 2 (Part.refl _)) (aX1 (L := ttL0) rfl) (ttX0 ttW _ _ _ ((lenA (g 6) : Nat) : Int)) ?_ rfl
    rw [Q2.2 (by omega)]; rfl
def ttL1 : Lq := ttL 16 15 12 4 1
theorem ttA1 (W : TtW) (n : Nat) (f : Nat → Bool) (M : Mc) (i : Int) : evC Tryz.prog okT (m5 (Tcc W.c)) (HTx W) ROt NOV 101 false (ai1 Tryz.f7.body 0) (ttL1.F (ttS 15 12 4 1 n f M i)) (ttL1.M (ttS 15 12 4 1 n f M i)) (bH8 0 (aZ3 ttL1)) =
    some (ttG W n f M i, .tup (.it .i64 0 :: ttS 15 12 4 1 n f (W.S.st M (f (i.toNat + 0))) (iAdd .i64 i 1))) := by kernel_rfl
theorem ttX1 (W : TtW) (n : Nat) (f : Nat → Bool) (M : Mc) (i : Int) : evC Tryz.prog okT (m5 (Tcc W.c)) (HTx W) ROt NOV 101 false (ai1 Tryz.f7.body 0) (ttL1.F (ttS 15 12 4 1 n f M i)) (ttL1.M (ttS 15 12 4 1 n f M i)) (bH8 2 (aZ3 ttL1)) =
    some (!iLt i n && true, .tup (.it .i64 2 :: ttS 15 12 4 1 n f M i)) := by kernel_rfl
def ttE1 (V : TtV) (g : Nat → AV) : List AV := ttS 15 12 4 1 (lenA (g 6)) (boOf (g 6)) (V.fs (ttMc g) (boOf (g 6)) (lenA (g 6))) (lenA (g 6) : Nat)
def ttGo1 (V : TtV) : (Nat → AV) → Kc → Option Out := goJ (fun g => isSl 1 false (g 0) && (bB5 15 cs0 (g 1) && bB5 12 J6 ((g 3).fld 1))) (fun g => iEq (g 2).num 0 && (Nat.beq (lenSl (g 0)) (lenA (g 6)) && (Nat.ble (lenA (g 6)) 60 && V.ok (ttMc g) (boOf (g 6)) (lenA (g 6))))) .normal
  (fun g => ttL1.F (ttE1 V g)) (fun g => ttL1.M (ttE1 V g))
theorem ttGo1_ok : GoesT Tryz.prog 0 (.loop (ai1 Tryz.f7.body 0)) ttL1 ttTs (ttGo1 ttV) := goT_ok fun g h1 h2 => by
  simp only [Bool.and_eq_true, Nat.beq_eq, Nat.ble_eq] at h1 h2
  obtain ⟨c0, c1, c2⟩ := h1
  obtain ⟨hi, hlen, h60, hok⟩ := h2
  refine ⟨aX1 (L := ttL1) rfl, fun fr m hm hb => ?_⟩
  have hst : r7 (tmS g ttTs 0) 0 g = ttS 15 12 4 1 (lenA (g 6)) (boOf (g 6)) (ttMc g) 0 := by
    have : r7 (tmS g ttTs 0) 0 g = [g 0, g 1, .it .i64 (g 2).num, .agg [staA (J5 ((g 3).fld 0)), (g 3).fld 1, .agg [.agg [], .agg [], .it .i64 (((g 3).fld 2).fld 2).num]], busA (tmOf (g 4)) (alOf (g 4)) (oOf (g 4)), byA 32768 (fOf (g 5)), boA (lenA (g 6)) (boOf (g 6))] := rfl
    rw [this, cD7 c0, an9 c1, an9 c2, O2.1 hi, hlen]
    rfl
  rw [hst] at hb
  refine aA1 (F := fun j => ttL1.F (ttS 15 12 4 1 (lenA (g 6)) (boOf (g 6)) (ttMs (ttMc g) (boOf (g 6)) j) (j : Nat))) (M := fun j => ttL1.M (ttS 15 12 4 1 (lenA (g 6)) (boOf (g 6)) (ttMs (ttMc g) (boOf (g 6)) j) (j : Nat))) (n := lenA (g 6)) (c := 2) (fun j hj => ?_) ?_ (by decide) hm hb (e := .exit 0) rfl
  · have hE := ttA1 ttW (lenA (g 6)) (boOf (g 6)) (ttMs (ttMc g) (boOf (g 6)) j) ((j : Nat) : Int)
    have hr := ca7 hok j hj
    have hg : ttG ttW (lenA (g 6)) (boOf (g 6)) (ttMs (ttMc g) (boOf (g 6)) j) ((j : Nat) : Int) = true := by
      unfold ttG
      rw [ba5.2 (show (j : Int) < (lenA (g 6) : Nat) by omega), V8.2 (show 0 ≤ (j : Int) ∧ (j : Int) < (lenA (g 6) : Nat) by omega)]
      have ej : ((j : Int).toNat + 0) = j := by simp
      rw [ej]
      unfold ttR at hr
      simp only [Bool.and_eq_true, Bool.not_eq_true'] at hr
      obtain ⟨r1, r2, r3⟩ := hr
      have r2 : cl6 ttW (ttW.S.st (ttMs (ttMc g) (boOf (g 6)) j) (boOf (g 6) j)).s (ttW.S.re (ttMs (ttMc g) (boOf (g 6)) j) (boOf (g 6) j)) (boOf (g 6) j) = false := r2
      have r3 : cv3 ttW (ttW.S.st (ttMs (ttMc g) (boOf (g 6)) j) (boOf (g 6) j)).s (ttW.S.re (ttMs (ttMc g) (boOf (g 6)) j) (boOf (g 6) j)) (boOf (g 6) j) = false := r3
      rw [r2, r3, Bool.or_true]
      rfl
    rw [bn9 j (by omega), hg] at hE
    have ej : ((j : Int).toNat + 0) = j := by simp
    rw [ej] at hE
    exact turnT bl3 (L := ttL1) rfl (T5 0 (Part.refl _)) (aX1 (L := ttL1) rfl) hE rfl rfl
  · refine turnT bl3 (L := ttL1) rfl (T5 2 (Part.refl _)) (aX1 (L := ttL1) rfl) (ttX1 ttW _ _ _ ((lenA (g 6) : Nat) : Int)) ?_ rfl
    rw [Q2.2 (by omega)]; rfl
theorem tt_blk (c : Code) (hc : Tryz.f7.body = some c) : blks c = [(0, .loop (ai1 Tryz.f7.body 0)), (1, cM8 ((Tryz.f7.body).getD .skip) 1)] := by
  rw [show c = (Tryz.f7.body).getD .skip by rw [hc]; rfl]
  kernel_rfl
theorem tt_ov0 : ∀ c, Tryz.f7.body = some c → OvOk Tryz.prog (ovT 0 ttL0 ttTs (ttGo0 ttV)) c := fun c hc => ovT_ok rfl ttGo0_ok fun x hx h => by
  rw [tt_blk c hc] at hx
  simp only [List.mem_cons, List.not_mem_nil, or_false] at hx
  rcases hx with rfl | rfl <;> first | rfl | (cases h; done)
theorem tt_ov1 : ∀ c, Tryz.f7.body = some c → OvOk Tryz.prog (ovT 0 ttL1 ttTs (ttGo1 ttV)) c := fun c hc => ovT_ok rfl ttGo1_ok fun x hx h => by
  rw [tt_blk c hc] at hx
  simp only [List.mem_cons, List.not_mem_nil, or_false] at hx
  rcases hx with rfl | rfl <;> first | rfl | (cases h; done)
end
end Go.Proofs.YtbkdnehnhbaieaaGreat.PV
set_option linter.unusedVariables false
set_option linter.unusedSimpArgs false
set_option maxRecDepth 100000
namespace Go.Proofs.YtbkdnehnhbaieaaGreat.PV
noncomputable section
open Go Go.Ev
theorem mask_rows : ∀ j, j < 29 → T7 ((j : Nat) : Int) = U2 j := by decide +kernel
theorem clN_eq {s : Sta} {j : Nat} (hj : j < 29) (hc : ClC s.C) : clN s (j : Nat) = s := by
  unfold clN
  have : (fun i => bif i == ((j : Nat) : Int).toNat then iAnd .u64 (s.C ((j : Nat) : Int).toNat) (T7 (j : Nat)) else s.C i) = s.C := by
    funext i
    rw [mask_rows j hj, Int.toNat_natCast]
    cases e : i == j with
    | false => rfl
    | true => rw [beq_iff_eq] at e; subst e; exact hc i hj
  rw [this]
theorem clCs_eq {s : Sta} (hc : ClC s.C) : ∀ j, j ≤ 29 → clCs s j = s
  | 0, _ => rfl
  | j + 1, h => by
    show clN (clCs s j) (j : Nat) = s
    rw [clCs_eq hc j (by omega)]
    exact clN_eq (by omega) hc
theorem mpp_good {x : Int} (hu : U x) (h : Mp x) : W8 x = x := by
  unfold W8
  have h2 : iAnd .u64 (iShr .u64 x 11) 3 ≠ 2 := (mp_iff hu).1 h
  rw [bd2.2 h2, cond_false]
theorem dT9 {s : Sta} (hs : Good s) : cu6 s = s := by
  have hb : dl0 s = false := by
    unfold dl0
    rcases hs.lv with h | h | h <;> rw [h] <;> rfl
  have hV : (bif (bif dl0 s then true else iEq s.lv 3) then false else s.V) = s.V := by
    rw [hb, cond_false]
    cases e : iEq s.lv 3 with
    | false => rfl
    | true =>
      rw [O2] at e
      cases hv : s.V with
      | false => rfl
      | true => exact absurd e (hs.v hv)
  have hp : dc6 s s.lv s.V = s := by
    unfold dc6
    have : (fun j => bif j == 0 then 0 else s.X j) = s.X := by
      funext j
      cases e : j == 0 with
      | false => rfl
      | true => rw [beq_iff_eq] at e; subst e; exact hs.x0.symm
    rw [this]
  unfold cu6
  rw [hV, hb, cond_false, hp, clCs_eq hs.c 29 (by omega)]
  unfold cy7
  rw [cl4_not hs.pc]
  have : (fun j => bif j == 0 then W8 (s.C 0) else s.C j) = s.C := by
    funext j
    cases e : j == 0 with
    | false => rfl
    | true =>
      rw [beq_iff_eq] at e
      subst e
      exact mpp_good (hs.c 0 (by omega)).u hs.mp
  rw [this]
theorem eqSt_self (s : Sta) : eqSt s s = true := by
  have h : ∀ t, eqSt s t = (((List.range 32).all fun i => iEq (s.X i) (t.X i)) && (iEq s.pc t.pc && (iEq s.lv t.lv && ((s.V == t.V) && (((List.range 29).all fun i => iEq (s.C i) (t.C i)) && (iEq s.dn t.dn && true)))))) := fun t => by kernel_rfl
  rw [h]
  simp [iEq_self]
theorem eqF_eq (r : Ret) : eqF r = (iEq r.fc 0 && (iEq r.fv 0 && (iEq r.fg 0 && ((r.fb == false) && true)))) := by kernel_rfl
theorem bad1_good {s : Sta} (hs : Good s) : cy1 ttW s = false := by
  unfold cy1
  have h0 : iNe (s.X 0) 0 = false := O7.2 hs.x0
  have h1 : (bif bif iNe s.lv 0 then iNe s.lv 1 else false then iNe s.lv 3 else false) = false := by
    rcases hs.lv with h | h | h <;> rw [h] <;> rfl
  have h2 : (bif s.V then iEq s.lv 3 else false) = false := by
    cases hv : s.V with
    | false => rfl
    | true => exact bd2.2 (hs.v hv)
  have h3 : eqSt s (ttW.c.cl s) = true := by
    show eqSt s (cu6 s) = true
    rw [dT9 hs]; exact eqSt_self s
  rw [h0, h1, h2, h3]
  rfl
theorem excL_ne (s : Sta) (c : Int) : excL s c ≠ 0 := by
  show J3 s.X s.pc s.lv s.V s.C s.dn c ≠ 0
  unfold J3
  exact t8 (p := fun x : Int => x ≠ 0) (by decide) (by decide)
theorem intC_ne {B : BusS} {s : Sta} {l : Bool} (h : intOk B s l = true) : intC B s l ≠ 0 := by
  have h : r4 s.X s.pc s.lv s.V s.C s.dn (iLe B.a B.t) l = true := h
  show H4 s.X s.pc s.lv s.V s.C s.dn (iLe B.a B.t) l ≠ 0
  unfold r4 at h
  unfold H4
  revert h
  generalize Q9 s.X s.pc s.lv s.V s.C s.dn (iLe B.a B.t) l = c0
  generalize R1 s.X s.pc s.lv s.V s.C s.dn (iLe B.a B.t) l = c1
  generalize R5 s.X s.pc s.lv s.V s.C s.dn (iLe B.a B.t) l = c2
  generalize Q8 s.X s.pc s.lv s.V s.C s.dn (iLe B.a B.t) l = c3
  generalize R4 s.X s.pc s.lv s.V s.C s.dn (iLe B.a B.t) l = c4
  generalize R2 s.X s.pc s.lv s.V s.C s.dn (iLe B.a B.t) l = c5
  generalize R6 s.X s.pc s.lv s.V s.C s.dn (iLe B.a B.t) l = c6
  generalize R3 s.X s.pc s.lv s.V s.C s.dn (iLe B.a B.t) l = c7
  revert c0 c1 c2 c3 c4 c5 c6 c7
  decide
def RetOk (r : Ret) : Prop := r.tr = (bif !eqF r then true else iNe r.lv 0)
theorem cN3 (s : Sta) (f : Flt) (w : Int) (l : Bool) : RetOk (cV3 (faultR s f w) l) := by
  show true = (bif !eqF _ then true else iNe (excL s f.c) 0)
  rw [bZ6.2 (excL_ne s f.c), Bool.cond_self]
theorem retOk_end (s : Sta) (w rd v : Int) (l : Bool) : RetOk (cV3 (endR s w rd v) l) := by
  show false = (bif !eqF _ then true else iNe 0 0)
  rw [eqF_eq]
  rfl
theorem step_ret (B : BusS) (s : Sta) (l : Bool) : (stepT B s l).r.ln = l ∧ RetOk (stepT B s l).r := by
  unfold stepT
  cases h : intOk B s l with
  | true =>
    refine ⟨rfl, ?_⟩
    show true = (bif !eqF (cV3 (intrR s (intC B s l) (intL B s l) (intV B s l)) l) then true else _)
    rw [eqF_eq]
    have : iEq (cV3 (intrR s (intC B s l) (intL B s l) (intV B s l)) l).fc 0 = false := bd2.2 (intC_ne h)
    rw [this]
    rfl
  | false =>
  cases (cb9 B s).ok with
  | false => exact ⟨rfl, cN3 _ _ _ _⟩
  | true =>
    refine ⟨rfl, ?_⟩
    show RetOk (cV3 (doR (dS5 B s) s (cb9 B s).v) l)
    rw [doR_eq]
    cases (doT (dS5 B s) s (cb9 B s).v).1 with
    | flt f => exact cN3 _ _ _ _
    | fin r => exact retOk_end _ _ _ _ _
theorem cT6 {M : Mc} (hM : Good M.s) (f : Nat → Bool) : ∀ j, Good (ttMs M f j).s
  | 0 => hM
  | j + 1 => by
    show Good (stepM (ttMs M f j) (f j)).s
    rw [(step_eq _ _).1]
    exact step_good _ (cT6 hM f j) _
theorem ttOk {M : Mc} (hM : Good M.s) (f : Nat → Bool) (n : Nat) : ttV.ok M f n = true := bD6 fun j hj => by
  have h1 := bad1_good (cT6 hM f (j + 1))
  have h1 : cy1 ttW (stepM (ttMs M f j) (f j)).s = false := h1
  obtain ⟨h2, h3⟩ := step_ret (dT1 (ttMs M f j)) (ttMs M f j).s (f j)
  rw [← (step_eq (ttMs M f j) (f j)).2] at h2 h3
  have b2 : cl6 ttW (stepM (ttMs M f j) (f j)).s (cF4 (ttMs M f j) (f j)) (f j) = false := by
    unfold cl6
    rw [h1, h2]
    simp
  have b3 : cv3 ttW (stepM (ttMs M f j) (f j)).s (cF4 (ttMs M f j) (f j)) (f j) = false := by
    unfold cv3
    rw [b2, ← h3]
    simp
  show ttR ttW _ _ _ = true
  unfold ttR
  rw [h1, b2, b3]
  rfl
theorem cd3 {s : Sta} (h0 : s.X 0 = 0) (hl : s.lv = 0 ∨ s.lv = 1 ∨ s.lv = 3) (hv : s.V = true → s.lv ≠ 3) (hp : Cl 18446744073709551612 s.pc) (hC : ∀ j, s.C j = 0) (r : Nat → Int) : ∀ j, j ≤ 29 → Good (icCs s r j)
  | 0, _ => by
    have z : W 0 = 0#64 := rfl
    refine ⟨h0, hl, hv, fun j hj => ?_, ?_, hp⟩
    · rw [show (icCs s r 0).C j = 0 from hC j]
      refine Cl.of U_z fun k hk hb => ?_
      rw [z, BitVec.getLsbD_zero] at hb
      cases hb
    · rw [show (icCs s r 0).C 0 = 0 from hC 0]
      intro h
      rw [z, BitVec.getLsbD_zero] at h
      cases h.1
  | j + 1, hj => by
    have ih := cd3 h0 hl hv hp hC r j (by omega)
    generalize hT : icCs s r j = T at ih
    show Good (icN (icCs s r j) r (j : Nat))
    rw [hT]
    have hM : ai0 ((j : Nat) : Int) = U2 j := by
      unfold ai0
      rw [Q2.2 (show (0 : Int) ≤ (j : Nat) by omega), aD1.2 (show ((j : Nat) : Int) < 29 by omega), Int.toNat_natCast]; rfl
    unfold icN
    rw [hM]
    refine ⟨ih.x0, ih.lv, ih.v, bk8 (X := T.X) (pc := T.pc) (l := T.lv) (v := T.V) (d := T.dn) ih.c (by rw [Int.toNat_natCast]; omega) (by omega) (by rw [Int.toNat_natCast]; exact rows_z j (by omega)) (da4 _), cd0 (X := T.X) (pc := T.pc) (l := T.lv) (v := T.V) (d := T.dn) ih.mp (by omega) ?_, ih.pc⟩
    by_cases h0 : j = 0
    · subst h0
      exact .inr (.inl (by decide +kernel))
    · exact .inl (by omega)
theorem ck6 (s : Sta) : Good (bd6 s) := by
  unfold bd6
  cases h : cN2 s with
  | true =>
    exact cd3 (s := dn5 s 3 false) rfl (.inr (.inr rfl)) (fun h => by cases h) (cl4_mk _) (fun _ => rfl) _ 29 (by omega)
  | false =>
    have hl : s.lv = 0 ∨ s.lv = 1 := by
      unfold cN2 at h
      cases e0 : iNe s.lv 0 with
      | false => exact .inl (O7.1 e0)
      | true => rw [e0] at h; exact .inr (O7.1 h)
    refine cd3 (s := dn5 s s.lv s.V) rfl ?_ ?_ (cl4_mk _) (fun _ => rfl) _ 29 (by omega)
    · show s.lv = 0 ∨ s.lv = 1 ∨ s.lv = 3
      omega
    · intro _
      show s.lv ≠ 3
      omega
end
end Go.Proofs.YtbkdnehnhbaieaaGreat.PV
set_option linter.unusedVariables false
set_option linter.unusedSimpArgs false
set_option maxRecDepth 100000
namespace Go.Proofs.YtbkdnehnhbaieaaGreat.PV
noncomputable section
open Go Go.Ev
def Lx2 : Lq := { n := 1, n0 := 2, ts := [0], mv := [], ids := [] }
def Lx1 : Lq := { n := 1, n0 := 1, ts := [0], mv := [], ids := [] }
def mem1 (a : AV) : Mem := { n := 1, t := (Tr.mk 12).set (some (.cells a false)) 0 }
def mem2 (a b : AV) : Mem := { n := 2, t := ((Tr.mk 12).set (some (.cells a false)) 0).set (some (.cells b false)) 1 }
def newMc (s : Sta) (F : Nat → Int) : Mc := ⟨s, 0, ⟨0, 18446744073709551615, fun _ => [], F⟩⟩
theorem ttLaw1 (V : TtV) (n k : Nat) (pa pv : Nat → Int) (s : Sta) (f : Nat → Bool) : evFn Tryz.prog okT (m5 (Tcc V.W.c)) (HTx V.W) ROt (ovT 0 ttL1 ttTs (ttGo1 V)) 101 false Tryz.f7 [.sl 0 [] 0 n false, staA s, .sl 1 [] 0 k false] (mem2 (cs9 n pa pv) (boA k f)) (finQ Lx2) =
    some (Om.pick (!true) (true, .tup [.it .i64 0, .bl false]) (Om.pick (bif iLt 60 (n : Int) then true else iLt 60 (k : Int)) (true, .tup [.it .i64 0, .bl true])
      ((Nat.beq n n && (Nat.ble n 60 && bU7 (fun i => iLe 0 (pa i)) n)) && ((iEq 0 0 && (Nat.beq k k && (Nat.ble k 60 && V.ok (newMc (V.W.c.ic s) (laFs pa pv (fun _ => 0) n)) f k))) && true), .tup [.it .i64 0, .bl true]))) := by kernel_rfl
theorem ttLaw0 (V : TtV) (k : Nat) (s : Sta) (f : Nat → Bool) : evFn Tryz.prog okT (m5 (Tcc V.W.c)) (HTx V.W) ROt (ovT 0 ttL0 ttTs (ttGo0 V)) 101 false Tryz.f7 [.nsl, staA s, .sl 0 [] 0 k false] (mem1 (boA k f)) (finQ Lx1) =
    some (Om.pick (!true) (true, .tup [.it .i64 0, .bl false]) (Om.pick (bif iLt 60 0 then true else iLt 60 (k : Int)) (true, .tup [.it .i64 0, .bl true])
      ((iEq 0 0 && (Nat.beq k k && (Nat.ble k 60 && V.ok (newMc (V.W.c.ic s) (fun _ => 0)) f k))) && true, .tup [.it .i64 0, .bl true]))) := by kernel_rfl
theorem ttLaw2 (V : TtV) (n : Nat) (pa pv : Nat → Int) (s : Sta) : evFn Tryz.prog okT (m5 (Tcc V.W.c)) (HTx V.W) ROt NOV 100 false Tryz.f7 [.sl 0 [] 0 n false, staA s, .nsl] (mem1 (cs9 n pa pv)) (finQ Lx1) =
    some (Om.pick (!true) (true, .tup [.it .i64 0, .bl false]) (Om.pick (bif iLt 60 (n : Int) then true else iLt 60 0) (true, .tup [.it .i64 0, .bl true])
      ((Nat.beq n n && (Nat.ble n 60 && bU7 (fun i => iLe 0 (pa i)) n)) && true, .tup [.it .i64 0, .bl true]))) := by kernel_rfl
theorem ttLaw3 (V : TtV) (s : Sta) : evFn Tryz.prog okT (m5 (Tcc V.W.c)) (HTx V.W) ROt NOV 100 false Tryz.f7 [.nsl, staA s, .nsl] Mem.empty (finQ L0) =
    some (Om.pick (!true) (true, .tup [.it .i64 0, .bl false]) (Om.pick (bif iLt 60 0 then true else iLt 60 0) (true, .tup [.it .i64 0, .bl true])
      (true, .tup [.it .i64 0, .bl true]))) := by kernel_rfl
theorem cc4 : Plain Tryz.prog 7 Tryz.f7 := ⟨Tryz.func7, of_decide_eq_true (by kernel_rfl)⟩
theorem of_bl {a : AV} (h : Of .bool a) : ∃ b, a = .bl b := by
  obtain ⟨_, h2, _⟩ := h
  cases a with
  | bl b => exact ⟨b, rfl⟩
  | _ => simp [AV.shape] at h2
theorem dB5 {a : AV} (h : Of bq7 a) : staA (J5 a) = a := by
  rw [← cb1]
  exact norm_eq bq7 a h.1 h.2.1
theorem puts_of {f : Nat → AV} (h : ∀ i, Of aO9 (f i)) (n : Nat) : AV.arr n aO9 f = cs9 n (fun i => ((f i).fld 0).num) (fun i => ((f i).fld 1).num) ∧ ∀ i, 0 ≤ ((f i).fld 0).num := by
  have e : ∀ i, f i = .agg [.it .u64 ((f i).fld 0).num, .it .u64 ((f i).fld 1).num] := fun i => (norm_eq aO9 (f i) (h i).1 (h i).2.1).symm
  refine ⟨?_, fun i => ?_⟩
  · show _ = AV.arr n aO9 fun j => _
    congr 1
    funext i
    exact e i
  · have h3 := (h i).2.2
    rw [e i] at h3
    exact h3.1.1
theorem bos_of {f : Nat → AV} (h : ∀ i, Of .bool (f i)) (n : Nat) : AV.arr n .bool f = boA n fun i => (f i).bool := by
  show _ = AV.arr n .bool fun j => _
  congr 1
  funext i
  obtain ⟨b, e⟩ := of_bl (h i)
  show f i = .bl (f i).bool
  rw [e]
  rfl
theorem total_law (es : List Dat) (h : All2 Dat.Is [.sli aO9, .pl bq7, .sli .bool] es) : ∃ m', Small Tryz.prog 7 (opA es 0) (opM [.sli aO9, .pl bq7, .sli .bool] es Mem.empty) (.bl true) m' := by
  match es, h with
  | [.no, .pl a, .no], ⟨_, ha, _, _⟩ =>
    show ∃ m', Small Tryz.prog 7 [.nsl, a, .nsl] Mem.empty (.bl true) m'
    rw [← dB5 ha]
    exact ⟨_, ag0 mix A7 bG4 bl3 cc4 (fun c _ => m7 c) (ttLaw3 ttV (J5 a)) rfl rfl rfl rfl rfl rfl⟩
  | [.sl n f, .pl a, .no], ⟨⟨_, hf⟩, ha, _, _⟩ =>
    obtain ⟨e, hp⟩ := puts_of hf n
    show ∃ m', Small Tryz.prog 7 [.sl 0 [] 0 n false, a, .nsl] (mem1 (.arr n aO9 f)) (.bl true) m'
    rw [← dB5 ha, e]
    have hE := ttLaw2 ttV n (fun i => ((f i).fld 0).num) (fun i => ((f i).fld 1).num) (J5 a)
    rw [show (!true) = false from rfl, Om.pick_f] at hE
    cases hc : (bif iLt 60 (n : Int) then true else iLt 60 0) with
    | true =>
      rw [hc, Om.pick_t] at hE
      exact ⟨_, ag0 mix A7 bG4 bl3 cc4 (fun c _ => m7 c) hE rfl rfl rfl rfl rfl rfl⟩
    | false =>
      rw [hc, Om.pick_f] at hE
      have h60 : n ≤ 60 := by
        cases h6 : iLt 60 (n : Int) with
        | true => rw [h6] at hc; cases hc
        | false => have := Q2.1 h6; omega
      refine ⟨_, ag0 mix A7 bG4 bl3 cc4 (fun c _ => m7 c) hE ?_ rfl rfl rfl rfl rfl⟩
      rw [Nat.ble_eq_true_of_le h60, Nat.beq_refl, bD6 fun i _ => J1.2 (hp i)]; rfl
  | [.no, .pl a, .sl k b], ⟨_, ha, ⟨_, hb⟩, _⟩ =>
    show ∃ m', Small Tryz.prog 7 [.nsl, a, .sl 0 [] 0 k false] (mem1 (.arr k .bool b)) (.bl true) m'
    rw [← dB5 ha, bos_of hb k]
    have hE := ttLaw0 ttV k (J5 a) fun i => (b i).bool
    rw [show (!true) = false from rfl, Om.pick_f] at hE
    cases hc : (bif iLt 60 0 then true else iLt 60 (k : Int)) with
    | true =>
      rw [hc, Om.pick_t] at hE
      exact ⟨_, ag0 mix A7 bG4 bl3 cc4 tt_ov0 hE rfl rfl rfl rfl rfl rfl⟩
    | false =>
      rw [hc, Om.pick_f] at hE
      have h60 : k ≤ 60 := by have := Q2.1 (show iLt 60 (k : Int) = false from hc); omega
      refine ⟨_, ag0 mix A7 bG4 bl3 cc4 tt_ov0 hE ?_ rfl rfl rfl rfl rfl⟩
      rw [Nat.ble_eq_true_of_le h60, Nat.beq_refl, ttOk (M := newMc (ttV.W.c.ic (J5 a)) (fun _ => 0)) (ck6 _)]; rfl
  | [.sl n f, .pl a, .sl k b], ⟨⟨_, hf⟩, ha, ⟨_, hb⟩, _⟩ =>
    obtain ⟨e, hp⟩ := puts_of hf n
    show ∃ m', Small Tryz.prog 7 [.sl 0 [] 0 n false, a, .sl 1 [] 0 k false] (mem2 (.arr n aO9 f) (.arr k .bool b)) (.bl true) m'
    rw [← dB5 ha, e, bos_of hb k]
    have hE := ttLaw1 ttV n k (fun i => ((f i).fld 0).num) (fun i => ((f i).fld 1).num) (J5 a) fun i => (b i).bool
    rw [show (!true) = false from rfl, Om.pick_f] at hE
    cases hc : (bif iLt 60 (n : Int) then true else iLt 60 (k : Int)) with
    | true =>
      rw [hc, Om.pick_t] at hE
      exact ⟨_, ag0 mix A7 bG4 bl3 cc4 tt_ov1 hE rfl rfl rfl rfl rfl rfl⟩
    | false =>
      rw [hc, Om.pick_f] at hE
      have h60 : n ≤ 60 ∧ k ≤ 60 := by
        cases h6 : iLt 60 (n : Int) with
        | true => rw [h6] at hc; cases hc
        | false => rw [h6] at hc; have h1 := Q2.1 h6; have h2 := Q2.1 (show iLt 60 (k : Int) = false from hc); omega
      refine ⟨_, ag0 mix A7 bG4 bl3 cc4 tt_ov1 hE ?_ rfl rfl rfl rfl rfl⟩
      rw [Nat.ble_eq_true_of_le h60.1, Nat.ble_eq_true_of_le h60.2, Nat.beq_refl, Nat.beq_refl, bD6 fun i _ => J1.2 (hp i), ttOk (M := newMc (ttV.W.c.ic (J5 a)) _) (ck6 _)]; rfl
end
end Go.Proofs.YtbkdnehnhbaieaaGreat.PV
set_option linter.unusedVariables false
set_option maxRecDepth 100000
namespace Go.Proofs.YtbkdnehnhbaieaaGreat
open Go Go.Ev PV
theorem Tryz.own : ownKnob Tryz.prog.godebug = none := by kernel_rfl
theorem Tryz.lay : laidOutB Tryz.prog = true := by kernel_rfl
theorem bQ0 (os : Os) (started : os.Started) (H : Type) (enc : TypeId × Value → H) :
    ReturnsInHanded {} Tryz.checked os 7 .any (Rows.wholeTotalSpec.pre6 enc Tryz.prog Tryz.f7 Rows.wholeTotalRow.domain false) (Rows.wholeTotalSpec.post enc Tryz.prog Tryz.f7 false true false false) := by
  refine returnsInHanded_of_change (C := Tryz.checked) Tryz.own started (by kernel_rfl) Tryz.func7
    (ChangeSpec.witness6 (enc := enc) (C := Tryz.checked) false ⟨#[], #[.slice none 0 0, .agg (Array.replicate 32 (.int .u64 0) ++ #[.int .u64 0, .int .i64 0, .bool false] ++ Array.replicate 29 (.int .u64 0) ++ #[.int .u64 0]), .slice none 0 0], []⟩ 8
      (by kernel_rfl) (by kernel_rfl) (by kernel_rfl) (by kernel_rfl)) ?_
  intro W base args ds gs before hval hW _ _
  refine cO5 (P := Tryz.prog) (f := 7) ⟨Tryz.func7, of_decide_eq_true (by kernel_rfl)⟩ (c := (Tryz.f7.body).getD .skip) (by kernel_rfl) (d := 8) (by kernel_rfl) (tb := 4) (by kernel_rfl) Tryz.underlying4 (by kernel_rfl) ?_
    Tryz.lay (of_decide_eq_true (by kernel_rfl)) total_law W args ds gs before hval hW
  intro ds hds
  match ds, hds with
  | [_, _, _], _ => rfl
theorem cr3 : Tryz.prog.closure 7 = [7, 10, 11, 24, 46, 47, 48, 87, 88, 20, 49, 89, 92, 145, 146, 147, 213, 90, 91, 13, 12, 50, 33, 74, 131, 186, 255, 256, 130, 135, 188, 152, 150, 75, 132, 76, 30, 65, 111, 67, 68, 77, 85, 144, 114, 79, 51, 93, 78, 133, 187, 134, 101, 136, 80, 137, 189, 190, 191, 192, 82, 139, 194, 83, 140, 195, 258, 196, 259, 260, 279, 261, 262, 263, 264, 310, 329, 66, 112, 155, 113, 156, 214, 286, 287, 288, 289, 290, 319, 320, 321, 322, 323, 292, 157, 215, 291, 293, 324, 325, 158, 217, 216, 265, 311, 312, 197, 161, 266, 313, 314, 267, 141, 198, 200, 199, 268, 223, 269, 270, 201, 202, 203, 204, 142, 205, 208, 273, 271, 272, 315, 207, 206, 274, 193, 230, 257, 35, 26, 59, 100, 60, 102, 61, 62, 104, 63, 109, 154, 151, 53, 94, 103, 148, 149, 108, 105, 106, 153, 107, 64, 110, 316, 165, 228, 229, 52, 73, 17, 275, 163, 138, 209, 276, 278, 277, 317, 210, 211, 280, 281, 283, 282, 212, 284, 318, 285, 143, 159, 219, 218, 220, 297, 298, 296, 294, 326, 302, 301, 295, 221, 299, 222, 119, 160, 118, 69, 115, 162, 224, 300, 116, 70, 117, 164, 225, 226, 227, 15, 38, 39, 81, 40, 22, 57, 99, 58] := by kernel_rfl
theorem bX0 : joinedFacts Tryz.prog 7 Tryz.f7 Rows.wholeTotalSpec Rows.wholeTotalRow = true := by
  unfold joinedFacts Program.recurses Program.inPlace Program.unfollowed Program.varsNamed
  rw [cr3]
  kernel_rfl
theorem wholeTotal_holds : Rows.WholeTotalSaid :=
  OpenClaim.holds_of_wide 7 Tryz.f7 rfl rfl rfl rfl rfl rfl rfl ⟨rfl, rfl, rfl, rfl, rfl⟩ rfl rfl rfl rfl rfl (by kernel_rfl) Tryz.func7 bX0
    (of_decide_eq_true (by kernel_rfl)) (by unfold Func.isWrapper; first | (rw [if_pos (by decide +kernel)]; kernel_rfl) | (rw [if_neg (by decide +kernel)]; exact ⟨rfl, rfl⟩))
    (fun os started H enc _ => bQ0 os started H enc)
end Go.Proofs.YtbkdnehnhbaieaaGreat
