/-
  Rounds of loops, evaluated. Printed by a program of the prover's own (wip/prt).
-/
import Derived.Test.YtcmknfnnapnecaaRows
import Derived.Test.YtcmknfnnapnecaaEvW
import Derived.Test.YtcmknfnnapnecaaUa
set_option linter.unusedVariables false
set_option linter.unusedSimpArgs false
namespace Go.Proofs.Ytcmknfnnapnecaa.PV
noncomputable section
open Go Go.Ev
def T0 : List Row := []
theorem T0_ok : PSound Try.prog (lookR T0) := lookR_nil
def findL : Lq := { n := 25, n0 := 2, ts := [3, 4, 10, 11], mv := [], ids := [(0, true), (1, true)] }
def atL : Lq := { n := 50, n0 := 1, ts := [0, 1, 2, 3, 4, 10, 11], mv := [], ids := [(0, true)] }
def fillL : Lq := { n := 44, n0 := 4, ts := [0, 2, 4, 6, 7], mv := [], ids := [(0, true), (1, true)] }
def rfillL : Lq := { n := 48, n0 := 2, ts := [0, 2, 4, 6, 7], mv := [], ids := [(0, true), (1, true)] }
def rdropL : Lq := { n := 33, n0 := 2, ts := [0, 3, 4, 5], mv := [], ids := [(0, true), (1, true)] }
def all0L : Lq := { n := 21, n0 := 1, ts := [3, 9, 10], mv := [], ids := [(0, true)] }
def all1L : Lq := { n := 21, n0 := 1, ts := [9, 10], mv := [3], ids := [(0, true)] }
def rall0L : Lq := { n := 26, n0 := 1, ts := [0, 3, 4], mv := [], ids := [(0, true)] }
def rall1L : Lq := { n := 26, n0 := 1, ts := [0, 4], mv := [3], ids := [(0, true)] }
/- findR -/
def findR0 (T : Tab) (S : Tab) (page : Int) (v : Bool) (asid : Int) (vmid : Int) (r : Int) (i : Int) : Int :=
  bif iLt i 16 then
    bif (T i.toNat).ok then bif bif (T i.toNat).ok then iEq (T i.toNat).page page && ((T i.toNat).v == v && (iEq (T i.toNat).asid asid && iEq (T i.toNat).vmid vmid)) else false then 1 else 0 else 0
  else 2
def findR0r (T : Tab) (S : Tab) (page : Int) (v : Bool) (asid : Int) (vmid : Int) (r : Int) (i : Int) : Int :=
  bif iLt i 16 then
    bif (T i.toNat).ok then bif bif (T i.toNat).ok then iEq (T i.toNat).page page && ((T i.toNat).v == v && (iEq (T i.toNat).asid asid && (iEq (T i.toNat).vmid vmid && true))) else false then 1 else 0
    else 0
  else 2
def findR1 (T : Tab) (S : Tab) (page : Int) (v : Bool) (asid : Int) (vmid : Int) (r : Int) (i : Int) : Int :=
  bif iLt i 16 then
    bif (T i.toNat).ok then bif bif (T i.toNat).ok then iEq (T i.toNat).page page && ((T i.toNat).v == v && (iEq (T i.toNat).asid asid && iEq (T i.toNat).vmid vmid)) else false then i else r else r
  else r
def findR1r (T : Tab) (S : Tab) (page : Int) (v : Bool) (asid : Int) (vmid : Int) (r : Int) (i : Int) : Int :=
  bif iLt i 16 then
    bif (T i.toNat).ok then bif bif (T i.toNat).ok then iEq (T i.toNat).page page && ((T i.toNat).v == v && (iEq (T i.toNat).asid asid && (iEq (T i.toNat).vmid vmid && true))) else false then i else r
    else r
  else r
def findR2r (T : Tab) (S : Tab) (page : Int) (v : Bool) (asid : Int) (vmid : Int) (r : Int) (i : Int) : Nat → Bool :=
  fun i0 => bif iLt i 16 then
    bif (T i.toNat).ok then
      bif bif (T i.toNat).ok then iEq (T i.toNat).page page && ((T i.toNat).v == v && (iEq (T i.toNat).asid asid && (iEq (T i.toNat).vmid vmid && true))) else false then (T i0).ok else (T i0).ok
    else (T i0).ok
  else (T i0).ok
def findR3r (T : Tab) (S : Tab) (page : Int) (v : Bool) (asid : Int) (vmid : Int) (r : Int) (i : Int) : Nat → Bool :=
  fun i0 => bif iLt i 16 then
    bif (T i.toNat).ok then
      bif bif (T i.toNat).ok then iEq (T i.toNat).page page && ((T i.toNat).v == v && (iEq (T i.toNat).asid asid && (iEq (T i.toNat).vmid vmid && true))) else false then (T i0).v else (T i0).v
    else (T i0).v
  else (T i0).v
def findR4r (T : Tab) (S : Tab) (page : Int) (v : Bool) (asid : Int) (vmid : Int) (r : Int) (i : Int) : Nat → Int :=
  fun i0 => bif iLt i 16 then
    bif (T i.toNat).ok then
      bif bif (T i.toNat).ok then iEq (T i.toNat).page page && ((T i.toNat).v == v && (iEq (T i.toNat).asid asid && (iEq (T i.toNat).vmid vmid && true))) else false then (T i0).page else (T i0).page
    else (T i0).page
  else (T i0).page
def findR5r (T : Tab) (S : Tab) (page : Int) (v : Bool) (asid : Int) (vmid : Int) (r : Int) (i : Int) : Nat → Int :=
  fun i0 => bif iLt i 16 then
    bif (T i.toNat).ok then
      bif bif (T i.toNat).ok then iEq (T i.toNat).page page && ((T i.toNat).v == v && (iEq (T i.toNat).asid asid && (iEq (T i.toNat).vmid vmid && true))) else false then (T i0).asid else (T i0).asid
    else (T i0).asid
  else (T i0).asid
def findR6r (T : Tab) (S : Tab) (page : Int) (v : Bool) (asid : Int) (vmid : Int) (r : Int) (i : Int) : Nat → Int :=
  fun i0 => bif iLt i 16 then
    bif (T i.toNat).ok then
      bif bif (T i.toNat).ok then iEq (T i.toNat).page page && ((T i.toNat).v == v && (iEq (T i.toNat).asid asid && (iEq (T i.toNat).vmid vmid && true))) else false then (T i0).vmid else (T i0).vmid
    else (T i0).vmid
  else (T i0).vmid
def findR7r (T : Tab) (S : Tab) (page : Int) (v : Bool) (asid : Int) (vmid : Int) (r : Int) (i : Int) : Nat → Int :=
  fun i0 => bif iLt i 16 then
    bif (T i.toNat).ok then
      bif bif (T i.toNat).ok then iEq (T i.toNat).page page && ((T i.toNat).v == v && (iEq (T i.toNat).asid asid && (iEq (T i.toNat).vmid vmid && true))) else false then (T i0).frame else (T i0).frame
    else (T i0).frame
  else (T i0).frame
def findR8r (T : Tab) (S : Tab) (page : Int) (v : Bool) (asid : Int) (vmid : Int) (r : Int) (i : Int) : Nat → Int :=
  fun i0 => bif iLt i 16 then
    bif (T i.toNat).ok then
      bif bif (T i.toNat).ok then iEq (T i.toNat).page page && ((T i.toNat).v == v && (iEq (T i.toNat).asid asid && (iEq (T i.toNat).vmid vmid && true))) else false then (T i0).bits else (T i0).bits
    else (T i0).bits
  else (T i0).bits
def findR9r (T : Tab) (S : Tab) (page : Int) (v : Bool) (asid : Int) (vmid : Int) (r : Int) (i : Int) : Nat → Int :=
  fun i0 => bif iLt i 16 then
    bif (T i.toNat).ok then
      bif bif (T i.toNat).ok then iEq (T i.toNat).page page && ((T i.toNat).v == v && (iEq (T i.toNat).asid asid && (iEq (T i.toNat).vmid vmid && true))) else false then (T i0).host else (T i0).host
    else (T i0).host
  else (T i0).host
def findR10r (T : Tab) (S : Tab) (page : Int) (v : Bool) (asid : Int) (vmid : Int) (r : Int) (i : Int) : Nat → Int :=
  fun i0 => bif iLt i 16 then
    bif (T i.toNat).ok then
      bif bif (T i.toNat).ok then iEq (T i.toNat).page page && ((T i.toNat).v == v && (iEq (T i.toNat).asid asid && (iEq (T i.toNat).vmid vmid && true))) else false then (T i0).guest else (T i0).guest
    else (T i0).guest
  else (T i0).guest
def findR11 (T : Tab) (S : Tab) (page : Int) (v : Bool) (asid : Int) (vmid : Int) (r : Int) (i : Int) : Int :=
  bif iLt i 16 then
    bif (T i.toNat).ok then
      bif bif (T i.toNat).ok then iEq (T i.toNat).page page && ((T i.toNat).v == v && (iEq (T i.toNat).asid asid && iEq (T i.toNat).vmid vmid)) else false then i else iAdd IntKind.i64 i 1
    else iAdd IntKind.i64 i 1
  else i
def findR11r (T : Tab) (S : Tab) (page : Int) (v : Bool) (asid : Int) (vmid : Int) (r : Int) (i : Int) : Int :=
  bif iLt i 16 then
    bif (T i.toNat).ok then
      bif bif (T i.toNat).ok then iEq (T i.toNat).page page && ((T i.toNat).v == v && (iEq (T i.toNat).asid asid && (iEq (T i.toNat).vmid vmid && true))) else false then i else iAdd IntKind.i64 i 1
    else iAdd IntKind.i64 i 1
  else i
def findR12r (T : Tab) (S : Tab) (page : Int) (v : Bool) (asid : Int) (vmid : Int) (r : Int) (i : Int) : Nat → Bool :=
  fun i0 => bif iLt i 16 then
    bif (T i.toNat).ok then
      bif bif (T i.toNat).ok then iEq (T i.toNat).page page && ((T i.toNat).v == v && (iEq (T i.toNat).asid asid && (iEq (T i.toNat).vmid vmid && true))) else false then (S i0).ok else (S i0).ok
    else (S i0).ok
  else (S i0).ok
def findR13r (T : Tab) (S : Tab) (page : Int) (v : Bool) (asid : Int) (vmid : Int) (r : Int) (i : Int) : Nat → Bool :=
  fun i0 => bif iLt i 16 then
    bif (T i.toNat).ok then
      bif bif (T i.toNat).ok then iEq (T i.toNat).page page && ((T i.toNat).v == v && (iEq (T i.toNat).asid asid && (iEq (T i.toNat).vmid vmid && true))) else false then (S i0).v else (S i0).v
    else (S i0).v
  else (S i0).v
def findR14r (T : Tab) (S : Tab) (page : Int) (v : Bool) (asid : Int) (vmid : Int) (r : Int) (i : Int) : Nat → Int :=
  fun i0 => bif iLt i 16 then
    bif (T i.toNat).ok then
      bif bif (T i.toNat).ok then iEq (T i.toNat).page page && ((T i.toNat).v == v && (iEq (T i.toNat).asid asid && (iEq (T i.toNat).vmid vmid && true))) else false then (S i0).page else (S i0).page
    else (S i0).page
  else (S i0).page
def findR15r (T : Tab) (S : Tab) (page : Int) (v : Bool) (asid : Int) (vmid : Int) (r : Int) (i : Int) : Nat → Int :=
  fun i0 => bif iLt i 16 then
    bif (T i.toNat).ok then
      bif bif (T i.toNat).ok then iEq (T i.toNat).page page && ((T i.toNat).v == v && (iEq (T i.toNat).asid asid && (iEq (T i.toNat).vmid vmid && true))) else false then (S i0).asid else (S i0).asid
    else (S i0).asid
  else (S i0).asid
def findR16r (T : Tab) (S : Tab) (page : Int) (v : Bool) (asid : Int) (vmid : Int) (r : Int) (i : Int) : Nat → Int :=
  fun i0 => bif iLt i 16 then
    bif (T i.toNat).ok then
      bif bif (T i.toNat).ok then iEq (T i.toNat).page page && ((T i.toNat).v == v && (iEq (T i.toNat).asid asid && (iEq (T i.toNat).vmid vmid && true))) else false then (S i0).vmid else (S i0).vmid
    else (S i0).vmid
  else (S i0).vmid
def findR17r (T : Tab) (S : Tab) (page : Int) (v : Bool) (asid : Int) (vmid : Int) (r : Int) (i : Int) : Nat → Int :=
  fun i0 => bif iLt i 16 then
    bif (T i.toNat).ok then
      bif bif (T i.toNat).ok then iEq (T i.toNat).page page && ((T i.toNat).v == v && (iEq (T i.toNat).asid asid && (iEq (T i.toNat).vmid vmid && true))) else false then (S i0).frame else (S i0).frame
    else (S i0).frame
  else (S i0).frame
def findR18r (T : Tab) (S : Tab) (page : Int) (v : Bool) (asid : Int) (vmid : Int) (r : Int) (i : Int) : Nat → Int :=
  fun i0 => bif iLt i 16 then
    bif (T i.toNat).ok then
      bif bif (T i.toNat).ok then iEq (T i.toNat).page page && ((T i.toNat).v == v && (iEq (T i.toNat).asid asid && (iEq (T i.toNat).vmid vmid && true))) else false then (S i0).bits else (S i0).bits
    else (S i0).bits
  else (S i0).bits
def findR19r (T : Tab) (S : Tab) (page : Int) (v : Bool) (asid : Int) (vmid : Int) (r : Int) (i : Int) : Nat → Int :=
  fun i0 => bif iLt i 16 then
    bif (T i.toNat).ok then
      bif bif (T i.toNat).ok then iEq (T i.toNat).page page && ((T i.toNat).v == v && (iEq (T i.toNat).asid asid && (iEq (T i.toNat).vmid vmid && true))) else false then (S i0).host else (S i0).host
    else (S i0).host
  else (S i0).host
def findR20r (T : Tab) (S : Tab) (page : Int) (v : Bool) (asid : Int) (vmid : Int) (r : Int) (i : Int) : Nat → Int :=
  fun i0 => bif iLt i 16 then
    bif (T i.toNat).ok then
      bif bif (T i.toNat).ok then iEq (T i.toNat).page page && ((T i.toNat).v == v && (iEq (T i.toNat).asid asid && (iEq (T i.toNat).vmid vmid && true))) else false then (S i0).guest else (S i0).guest
    else (S i0).guest
  else (S i0).guest
def findR21r (T : Tab) (S : Tab) (page : Int) (v : Bool) (asid : Int) (vmid : Int) (r : Int) (i : Int) : Int :=
  bif iLt i 16 then
    bif (T i.toNat).ok then
      bif bif (T i.toNat).ok then iEq (T i.toNat).page page && ((T i.toNat).v == v && (iEq (T i.toNat).asid asid && (iEq (T i.toNat).vmid vmid && true))) else false then page else page
    else page
  else page
def findR22r (T : Tab) (S : Tab) (page : Int) (v : Bool) (asid : Int) (vmid : Int) (r : Int) (i : Int) : Bool :=
  bif iLt i 16 then
    bif (T i.toNat).ok then bif bif (T i.toNat).ok then iEq (T i.toNat).page page && ((T i.toNat).v == v && (iEq (T i.toNat).asid asid && (iEq (T i.toNat).vmid vmid && true))) else false then v else v
    else v
  else v
def findR23r (T : Tab) (S : Tab) (page : Int) (v : Bool) (asid : Int) (vmid : Int) (r : Int) (i : Int) : Int :=
  bif iLt i 16 then
    bif (T i.toNat).ok then
      bif bif (T i.toNat).ok then iEq (T i.toNat).page page && ((T i.toNat).v == v && (iEq (T i.toNat).asid asid && (iEq (T i.toNat).vmid vmid && true))) else false then asid else asid
    else asid
  else asid
def findR24r (T : Tab) (S : Tab) (page : Int) (v : Bool) (asid : Int) (vmid : Int) (r : Int) (i : Int) : Int :=
  bif iLt i 16 then
    bif (T i.toNat).ok then
      bif bif (T i.toNat).ok then iEq (T i.toNat).page page && ((T i.toNat).v == v && (iEq (T i.toNat).asid asid && (iEq (T i.toNat).vmid vmid && true))) else false then vmid else vmid
    else vmid
  else vmid
def findRG (T : Tab) (S : Tab) (page : Int) (v : Bool) (asid : Int) (vmid : Int) (r : Int) (i : Int) : Bool :=
  bif iLt i 16 then
    iIn i 16 &&
      bif (T i.toNat).ok then
        bif bif (T i.toNat).ok then iEq (T i.toNat).page page && ((T i.toNat).v == v && (iEq (T i.toNat).asid asid && (iEq (T i.toNat).vmid vmid && true))) else false then true else true
      else !(T i.toNat).ok && (!(T i.toNat).ok && true)
  else true
def findRV (T : Tab) (S : Tab) (page : Int) (v : Bool) (asid : Int) (vmid : Int) (r : Int) (i : Int) : AV := .tup [.it .i64 (findR0 T S page v asid vmid r i), .pt 1 [] (.agg [(.int .i64), .bool, (.int .i64), (.int .i64)]), .it .i64 (findR1 T S page v asid vmid r i), .arr 16 (.agg [.bool, .bool, (.int .i64), (.int .i64), (.int .i64), (.int .i64), (.int .i64), (.int .i64), (.int .i64)]) fun i0 => .agg [.bl ((T i0).ok), .bl ((T i0).v), .it .i64 ((T i0).page), .it .i64 ((T i0).asid), .it .i64 ((T i0).vmid), .it .i64 ((T i0).frame), .it .i64 ((T i0).bits), .it .i64 ((T i0).host), .it .i64 ((T i0).guest)], .it .i64 (findR11 T S page v asid vmid r i), .agg [.arr 16 (.agg [.bool, .bool, (.int .i64), (.int .i64), (.int .i64), (.int .i64), (.int .i64), (.int .i64), (.int .i64)]) fun i0 => .agg [.bl ((S i0).ok), .bl ((S i0).v), .it .i64 ((S i0).page), .it .i64 ((S i0).asid), .it .i64 ((S i0).vmid), .it .i64 ((S i0).frame), .it .i64 ((S i0).bits), .it .i64 ((S i0).host), .it .i64 ((S i0).guest)]], .agg [.it .i64 page, .bl v, .it .i64 asid, .it .i64 vmid]]
def findRVr (T : Tab) (S : Tab) (page : Int) (v : Bool) (asid : Int) (vmid : Int) (r : Int) (i : Int) : AV := .tup [.it .i64 (findR0r T S page v asid vmid r i), .pt 1 [] (.agg [(.int .i64), .bool, (.int .i64), (.int .i64)]), .it .i64 (findR1r T S page v asid vmid r i), .arr 16 (.agg [.bool, .bool, (.int .i64), (.int .i64), (.int .i64), (.int .i64), (.int .i64), (.int .i64), (.int .i64)]) fun i0 => .agg [.bl (findR2r T S page v asid vmid r i i0), .bl (findR3r T S page v asid vmid r i i0), .it .i64 (findR4r T S page v asid vmid r i i0), .it .i64 (findR5r T S page v asid vmid r i i0), .it .i64 (findR6r T S page v asid vmid r i i0), .it .i64 (findR7r T S page v asid vmid r i i0), .it .i64 (findR8r T S page v asid vmid r i i0), .it .i64 (findR9r T S page v asid vmid r i i0), .it .i64 (findR10r T S page v asid vmid r i i0)], .it .i64 (findR11r T S page v asid vmid r i), .agg [.arr 16 (.agg [.bool, .bool, (.int .i64), (.int .i64), (.int .i64), (.int .i64), (.int .i64), (.int .i64), (.int .i64)]) fun i0 => .agg [.bl (findR12r T S page v asid vmid r i i0), .bl (findR13r T S page v asid vmid r i i0), .it .i64 (findR14r T S page v asid vmid r i i0), .it .i64 (findR15r T S page v asid vmid r i i0), .it .i64 (findR16r T S page v asid vmid r i i0), .it .i64 (findR17r T S page v asid vmid r i i0), .it .i64 (findR18r T S page v asid vmid r i i0), .it .i64 (findR19r T S page v asid vmid r i i0), .it .i64 (findR20r T S page v asid vmid r i i0)]], .agg [.it .i64 (findR21r T S page v asid vmid r i), .bl (findR22r T S page v asid vmid r i), .it .i64 (findR23r T S page v asid vmid r i), .it .i64 (findR24r T S page v asid vmid r i)]]
theorem findRV_eq (T : Tab) (S : Tab) (page : Int) (v : Bool) (asid : Int) (vmid : Int) (r : Int) (i : Int) : findRVr T S page v asid vmid r i = findRV T S page v asid vmid r i := by
  unfold findRVr findRV findR0r findR0 findR1r findR1 findR2r findR3r findR4r findR5r findR6r findR7r findR8r findR9r findR10r findR11r findR11 findR12r findR13r findR14r findR15r findR16r findR17r findR18r findR19r findR20r findR21r findR22r findR23r findR24r
  first | (simp only [Go.Ev.cS1, Go.Ev.cS2, Go.Ev.cS3, Go.Ev.cS4, Go.Ev.cS6, Go.Ev.cS7]; done) | (simp only [Go.Ev.cS1, Go.Ev.cS2, Go.Ev.cS3, Go.Ev.cS4, Go.Ev.cS6, Go.Ev.cS7]; kernel_rfl)
theorem findRE (T : Tab) (S : Tab) (page : Int) (v : Bool) (asid : Int) (vmid : Int) (r : Int) (i : Int) : evC Try.prog okT NPC (HH []) RO NOV 101 false (bodyOf Try.f35.body 0) (findL.F [.pt 1 [] keySh, .it .i64 r, .arr 16 entSh fun j => enA (T j), .it .i64 i, tlbA S, keyA page v asid vmid]) (findL.M [.pt 1 [] keySh, .it .i64 r, .arr 16 entSh fun j => enA (T j), .it .i64 i, tlbA S, keyA page v asid vmid]) (grabQ findL) = some (findRG T S page v asid vmid r i, findRV T S page v asid vmid r i) :=
  (by kernel_rfl : evC Try.prog okT NPC (HH []) RO NOV 101 false (bodyOf Try.f35.body 0) (findL.F [.pt 1 [] keySh, .it .i64 r, .arr 16 entSh fun j => enA (T j), .it .i64 i, tlbA S, keyA page v asid vmid]) (findL.M [.pt 1 [] keySh, .it .i64 r, .arr 16 entSh fun j => enA (T j), .it .i64 i, tlbA S, keyA page v asid vmid]) (grabQ findL) = some (findRG T S page v asid vmid r i, findRVr T S page v asid vmid r i)).trans (by rw [findRV_eq])

/- atR -/
def atR0 (T : Tab) (page : Int) (v : Bool) (asid : Int) (vmid : Int) (r : Int) (i : Int) : Int :=
  bif iLt i 16 then
    bif
        bif bif bif bif (T i.toNat).ok then iEq (T i.toNat).page page else false then (T i.toNat).v == v else false then iEq (T i.toNat).asid asid else false then iEq (T i.toNat).vmid vmid
        else false then
      1
    else 0
  else 2
def atR1r (T : Tab) (page : Int) (v : Bool) (asid : Int) (vmid : Int) (r : Int) (i : Int) : Int :=
  bif iLt i 16 then
    bif
        bif bif bif bif (T i.toNat).ok then iEq (T i.toNat).page page else false then (T i.toNat).v == v else false then iEq (T i.toNat).asid asid else false then iEq (T i.toNat).vmid vmid
        else false then
      page
    else page
  else page
def atR2r (T : Tab) (page : Int) (v : Bool) (asid : Int) (vmid : Int) (r : Int) (i : Int) : Bool :=
  bif iLt i 16 then
    bif
        bif bif bif bif (T i.toNat).ok then iEq (T i.toNat).page page else false then (T i.toNat).v == v else false then iEq (T i.toNat).asid asid else false then iEq (T i.toNat).vmid vmid
        else false then
      v
    else v
  else v
def atR3r (T : Tab) (page : Int) (v : Bool) (asid : Int) (vmid : Int) (r : Int) (i : Int) : Int :=
  bif iLt i 16 then
    bif
        bif bif bif bif (T i.toNat).ok then iEq (T i.toNat).page page else false then (T i.toNat).v == v else false then iEq (T i.toNat).asid asid else false then iEq (T i.toNat).vmid vmid
        else false then
      asid
    else asid
  else asid
def atR4r (T : Tab) (page : Int) (v : Bool) (asid : Int) (vmid : Int) (r : Int) (i : Int) : Int :=
  bif iLt i 16 then
    bif
        bif bif bif bif (T i.toNat).ok then iEq (T i.toNat).page page else false then (T i.toNat).v == v else false then iEq (T i.toNat).asid asid else false then iEq (T i.toNat).vmid vmid
        else false then
      vmid
    else vmid
  else vmid
def atR5 (T : Tab) (page : Int) (v : Bool) (asid : Int) (vmid : Int) (r : Int) (i : Int) : Int :=
  bif iLt i 16 then
    bif
        bif bif bif bif (T i.toNat).ok then iEq (T i.toNat).page page else false then (T i.toNat).v == v else false then iEq (T i.toNat).asid asid else false then iEq (T i.toNat).vmid vmid
        else false then
      i
    else r
  else r
def atR6 (T : Tab) (page : Int) (v : Bool) (asid : Int) (vmid : Int) (r : Int) (i : Int) : Int :=
  bif iLt i 16 then
    bif
        bif bif bif bif (T i.toNat).ok then iEq (T i.toNat).page page else false then (T i.toNat).v == v else false then iEq (T i.toNat).asid asid else false then iEq (T i.toNat).vmid vmid
        else false then
      i
    else iAdd IntKind.i64 i 1
  else i
def atR7r (T : Tab) (page : Int) (v : Bool) (asid : Int) (vmid : Int) (r : Int) (i : Int) : Nat → Bool :=
  fun i0 => bif iLt i 16 then
    bif
        bif bif bif bif (T i.toNat).ok then iEq (T i.toNat).page page else false then (T i.toNat).v == v else false then iEq (T i.toNat).asid asid else false then iEq (T i.toNat).vmid vmid
        else false then
      (T i0).ok
    else (T i0).ok
  else (T i0).ok
def atR8r (T : Tab) (page : Int) (v : Bool) (asid : Int) (vmid : Int) (r : Int) (i : Int) : Nat → Bool :=
  fun i0 => bif iLt i 16 then
    bif
        bif bif bif bif (T i.toNat).ok then iEq (T i.toNat).page page else false then (T i.toNat).v == v else false then iEq (T i.toNat).asid asid else false then iEq (T i.toNat).vmid vmid
        else false then
      (T i0).v
    else (T i0).v
  else (T i0).v
def atR9r (T : Tab) (page : Int) (v : Bool) (asid : Int) (vmid : Int) (r : Int) (i : Int) : Nat → Int :=
  fun i0 => bif iLt i 16 then
    bif
        bif bif bif bif (T i.toNat).ok then iEq (T i.toNat).page page else false then (T i.toNat).v == v else false then iEq (T i.toNat).asid asid else false then iEq (T i.toNat).vmid vmid
        else false then
      (T i0).page
    else (T i0).page
  else (T i0).page
def atR10r (T : Tab) (page : Int) (v : Bool) (asid : Int) (vmid : Int) (r : Int) (i : Int) : Nat → Int :=
  fun i0 => bif iLt i 16 then
    bif
        bif bif bif bif (T i.toNat).ok then iEq (T i.toNat).page page else false then (T i.toNat).v == v else false then iEq (T i.toNat).asid asid else false then iEq (T i.toNat).vmid vmid
        else false then
      (T i0).asid
    else (T i0).asid
  else (T i0).asid
def atR11r (T : Tab) (page : Int) (v : Bool) (asid : Int) (vmid : Int) (r : Int) (i : Int) : Nat → Int :=
  fun i0 => bif iLt i 16 then
    bif
        bif bif bif bif (T i.toNat).ok then iEq (T i.toNat).page page else false then (T i.toNat).v == v else false then iEq (T i.toNat).asid asid else false then iEq (T i.toNat).vmid vmid
        else false then
      (T i0).vmid
    else (T i0).vmid
  else (T i0).vmid
def atR12r (T : Tab) (page : Int) (v : Bool) (asid : Int) (vmid : Int) (r : Int) (i : Int) : Nat → Int :=
  fun i0 => bif iLt i 16 then
    bif
        bif bif bif bif (T i.toNat).ok then iEq (T i.toNat).page page else false then (T i.toNat).v == v else false then iEq (T i.toNat).asid asid else false then iEq (T i.toNat).vmid vmid
        else false then
      (T i0).frame
    else (T i0).frame
  else (T i0).frame
def atR13r (T : Tab) (page : Int) (v : Bool) (asid : Int) (vmid : Int) (r : Int) (i : Int) : Nat → Int :=
  fun i0 => bif iLt i 16 then
    bif
        bif bif bif bif (T i.toNat).ok then iEq (T i.toNat).page page else false then (T i.toNat).v == v else false then iEq (T i.toNat).asid asid else false then iEq (T i.toNat).vmid vmid
        else false then
      (T i0).bits
    else (T i0).bits
  else (T i0).bits
def atR14r (T : Tab) (page : Int) (v : Bool) (asid : Int) (vmid : Int) (r : Int) (i : Int) : Nat → Int :=
  fun i0 => bif iLt i 16 then
    bif
        bif bif bif bif (T i.toNat).ok then iEq (T i.toNat).page page else false then (T i.toNat).v == v else false then iEq (T i.toNat).asid asid else false then iEq (T i.toNat).vmid vmid
        else false then
      (T i0).host
    else (T i0).host
  else (T i0).host
def atR15r (T : Tab) (page : Int) (v : Bool) (asid : Int) (vmid : Int) (r : Int) (i : Int) : Nat → Int :=
  fun i0 => bif iLt i 16 then
    bif
        bif bif bif bif (T i.toNat).ok then iEq (T i.toNat).page page else false then (T i.toNat).v == v else false then iEq (T i.toNat).asid asid else false then iEq (T i.toNat).vmid vmid
        else false then
      (T i0).guest
    else (T i0).guest
  else (T i0).guest
def atRG (T : Tab) (page : Int) (v : Bool) (asid : Int) (vmid : Int) (r : Int) (i : Int) : Bool :=
  bif iLt i 16 then
    iIn i 16 &&
      bif
          bif bif bif bif (T i.toNat).ok then iEq (T i.toNat).page page else false then (T i.toNat).v == v else false then iEq (T i.toNat).asid asid else false then iEq (T i.toNat).vmid vmid
          else false then
        true
      else true
  else true
def atRV (T : Tab) (page : Int) (v : Bool) (asid : Int) (vmid : Int) (r : Int) (i : Int) : AV := .tup [.it .i64 (atR0 T page v asid vmid r i), .pt 0 [] (.agg [(.arr 16 (.agg [.bool, .bool, (.int .i64), (.int .i64), (.int .i64), (.int .i64), (.int .i64), (.int .i64), (.int .i64)]))]), .it .i64 page, .bl v, .it .i64 asid, .it .i64 vmid, .it .i64 (atR5 T page v asid vmid r i), .it .i64 (atR6 T page v asid vmid r i), .agg [.arr 16 (.agg [.bool, .bool, (.int .i64), (.int .i64), (.int .i64), (.int .i64), (.int .i64), (.int .i64), (.int .i64)]) fun i0 => .agg [.bl ((T i0).ok), .bl ((T i0).v), .it .i64 ((T i0).page), .it .i64 ((T i0).asid), .it .i64 ((T i0).vmid), .it .i64 ((T i0).frame), .it .i64 ((T i0).bits), .it .i64 ((T i0).host), .it .i64 ((T i0).guest)]]]
def atRVr (T : Tab) (page : Int) (v : Bool) (asid : Int) (vmid : Int) (r : Int) (i : Int) : AV := .tup [.it .i64 (atR0 T page v asid vmid r i), .pt 0 [] (.agg [(.arr 16 (.agg [.bool, .bool, (.int .i64), (.int .i64), (.int .i64), (.int .i64), (.int .i64), (.int .i64), (.int .i64)]))]), .it .i64 (atR1r T page v asid vmid r i), .bl (atR2r T page v asid vmid r i), .it .i64 (atR3r T page v asid vmid r i), .it .i64 (atR4r T page v asid vmid r i), .it .i64 (atR5 T page v asid vmid r i), .it .i64 (atR6 T page v asid vmid r i), .agg [.arr 16 (.agg [.bool, .bool, (.int .i64), (.int .i64), (.int .i64), (.int .i64), (.int .i64), (.int .i64), (.int .i64)]) fun i0 => .agg [.bl (atR7r T page v asid vmid r i i0), .bl (atR8r T page v asid vmid r i i0), .it .i64 (atR9r T page v asid vmid r i i0), .it .i64 (atR10r T page v asid vmid r i i0), .it .i64 (atR11r T page v asid vmid r i i0), .it .i64 (atR12r T page v asid vmid r i i0), .it .i64 (atR13r T page v asid vmid r i i0), .it .i64 (atR14r T page v asid vmid r i i0), .it .i64 (atR15r T page v asid vmid r i i0)]]]
theorem atRV_eq (T : Tab) (page : Int) (v : Bool) (asid : Int) (vmid : Int) (r : Int) (i : Int) : atRVr T page v asid vmid r i = atRV T page v asid vmid r i := by
  unfold atRVr atRV atR1r atR2r atR3r atR4r atR7r atR8r atR9r atR10r atR11r atR12r atR13r atR14r atR15r
  first | (simp only [Go.Ev.cS1, Go.Ev.cS2, Go.Ev.cS3, Go.Ev.cS4, Go.Ev.cS6, Go.Ev.cS7]; done) | (simp only [Go.Ev.cS1, Go.Ev.cS2, Go.Ev.cS3, Go.Ev.cS4, Go.Ev.cS6, Go.Ev.cS7]; kernel_rfl)
theorem atRE (T : Tab) (page : Int) (v : Bool) (asid : Int) (vmid : Int) (r : Int) (i : Int) : evC Try.prog okT NPC (HH []) RO NOV 101 false (bodyOf Try.f37.body 0) (atL.F [.pt 0 [] tlbSh, .it .i64 page, .bl v, .it .i64 asid, .it .i64 vmid, .it .i64 r, .it .i64 i, tlbA T]) (atL.M [.pt 0 [] tlbSh, .it .i64 page, .bl v, .it .i64 asid, .it .i64 vmid, .it .i64 r, .it .i64 i, tlbA T]) (grabQ atL) = some (atRG T page v asid vmid r i, atRV T page v asid vmid r i) :=
  (by kernel_rfl : evC Try.prog okT NPC (HH []) RO NOV 101 false (bodyOf Try.f37.body 0) (atL.F [.pt 0 [] tlbSh, .it .i64 page, .bl v, .it .i64 asid, .it .i64 vmid, .it .i64 r, .it .i64 i, tlbA T]) (atL.M [.pt 0 [] tlbSh, .it .i64 page, .bl v, .it .i64 asid, .it .i64 vmid, .it .i64 r, .it .i64 i, tlbA T]) (grabQ atL) = some (atRG T page v asid vmid r i, atRVr T page v asid vmid r i)).trans (by rw [atRV_eq])

/- fillR -/
def fillR0 (T : Tab) (pick : Int) (e : En) (r : Int) (i : Int) : Int :=
  bif bif iLt r 0 then iLt i 16 else false then 0 else 2
def fillR0r (T : Tab) (pick : Int) (e : En) (r : Int) (i : Int) : Int :=
  bif bif iLt r 0 then iLt i 16 else false then bif !(T i.toNat).ok then 0 else 0 else 2
def fillR1r (T : Tab) (pick : Int) (e : En) (r : Int) (i : Int) : Int :=
  bif bif iLt r 0 then iLt i 16 else false then bif !(T i.toNat).ok then pick else pick else pick
def fillR2 (T : Tab) (pick : Int) (e : En) (r : Int) (i : Int) : Int :=
  bif bif iLt r 0 then iLt i 16 else false then bif !(T i.toNat).ok then i else r else r
def fillR3 (T : Tab) (pick : Int) (e : En) (r : Int) (i : Int) : Int :=
  bif bif iLt r 0 then iLt i 16 else false then iAdd IntKind.i64 i 1 else i
def fillR3r (T : Tab) (pick : Int) (e : En) (r : Int) (i : Int) : Int :=
  bif bif iLt r 0 then iLt i 16 else false then bif !(T i.toNat).ok then iAdd IntKind.i64 i 1 else iAdd IntKind.i64 i 1 else i
def fillR4r (T : Tab) (pick : Int) (e : En) (r : Int) (i : Int) : Nat → Bool :=
  fun i0 => bif bif iLt r 0 then iLt i 16 else false then bif !(T i.toNat).ok then (T i0).ok else (T i0).ok else (T i0).ok
def fillR5r (T : Tab) (pick : Int) (e : En) (r : Int) (i : Int) : Nat → Bool :=
  fun i0 => bif bif iLt r 0 then iLt i 16 else false then bif !(T i.toNat).ok then (T i0).v else (T i0).v else (T i0).v
def fillR6r (T : Tab) (pick : Int) (e : En) (r : Int) (i : Int) : Nat → Int :=
  fun i0 => bif bif iLt r 0 then iLt i 16 else false then bif !(T i.toNat).ok then (T i0).page else (T i0).page else (T i0).page
def fillR7r (T : Tab) (pick : Int) (e : En) (r : Int) (i : Int) : Nat → Int :=
  fun i0 => bif bif iLt r 0 then iLt i 16 else false then bif !(T i.toNat).ok then (T i0).asid else (T i0).asid else (T i0).asid
def fillR8r (T : Tab) (pick : Int) (e : En) (r : Int) (i : Int) : Nat → Int :=
  fun i0 => bif bif iLt r 0 then iLt i 16 else false then bif !(T i.toNat).ok then (T i0).vmid else (T i0).vmid else (T i0).vmid
def fillR9r (T : Tab) (pick : Int) (e : En) (r : Int) (i : Int) : Nat → Int :=
  fun i0 => bif bif iLt r 0 then iLt i 16 else false then bif !(T i.toNat).ok then (T i0).frame else (T i0).frame else (T i0).frame
def fillR10r (T : Tab) (pick : Int) (e : En) (r : Int) (i : Int) : Nat → Int :=
  fun i0 => bif bif iLt r 0 then iLt i 16 else false then bif !(T i.toNat).ok then (T i0).bits else (T i0).bits else (T i0).bits
def fillR11r (T : Tab) (pick : Int) (e : En) (r : Int) (i : Int) : Nat → Int :=
  fun i0 => bif bif iLt r 0 then iLt i 16 else false then bif !(T i.toNat).ok then (T i0).host else (T i0).host else (T i0).host
def fillR12r (T : Tab) (pick : Int) (e : En) (r : Int) (i : Int) : Nat → Int :=
  fun i0 => bif bif iLt r 0 then iLt i 16 else false then bif !(T i.toNat).ok then (T i0).guest else (T i0).guest else (T i0).guest
def fillR13r (T : Tab) (pick : Int) (e : En) (r : Int) (i : Int) : Bool :=
  bif bif iLt r 0 then iLt i 16 else false then bif !(T i.toNat).ok then e.ok else e.ok else e.ok
def fillR14r (T : Tab) (pick : Int) (e : En) (r : Int) (i : Int) : Bool :=
  bif bif iLt r 0 then iLt i 16 else false then bif !(T i.toNat).ok then e.v else e.v else e.v
def fillR15r (T : Tab) (pick : Int) (e : En) (r : Int) (i : Int) : Int :=
  bif bif iLt r 0 then iLt i 16 else false then bif !(T i.toNat).ok then e.page else e.page else e.page
def fillR16r (T : Tab) (pick : Int) (e : En) (r : Int) (i : Int) : Int :=
  bif bif iLt r 0 then iLt i 16 else false then bif !(T i.toNat).ok then e.asid else e.asid else e.asid
def fillR17r (T : Tab) (pick : Int) (e : En) (r : Int) (i : Int) : Int :=
  bif bif iLt r 0 then iLt i 16 else false then bif !(T i.toNat).ok then e.vmid else e.vmid else e.vmid
def fillR18r (T : Tab) (pick : Int) (e : En) (r : Int) (i : Int) : Int :=
  bif bif iLt r 0 then iLt i 16 else false then bif !(T i.toNat).ok then e.frame else e.frame else e.frame
def fillR19r (T : Tab) (pick : Int) (e : En) (r : Int) (i : Int) : Int :=
  bif bif iLt r 0 then iLt i 16 else false then bif !(T i.toNat).ok then e.bits else e.bits else e.bits
def fillR20r (T : Tab) (pick : Int) (e : En) (r : Int) (i : Int) : Int :=
  bif bif iLt r 0 then iLt i 16 else false then bif !(T i.toNat).ok then e.host else e.host else e.host
def fillR21r (T : Tab) (pick : Int) (e : En) (r : Int) (i : Int) : Int :=
  bif bif iLt r 0 then iLt i 16 else false then bif !(T i.toNat).ok then e.guest else e.guest else e.guest
def fillRG (T : Tab) (pick : Int) (e : En) (r : Int) (i : Int) : Bool :=
  bif bif iLt r 0 then iLt i 16 else false then iIn i 16 && bif !(T i.toNat).ok then true else true else true
def fillRV (T : Tab) (pick : Int) (e : En) (r : Int) (i : Int) : AV := .tup [.it .i64 (fillR0 T pick e r i), .pt 0 [] (.agg [(.arr 16 (.agg [.bool, .bool, (.int .i64), (.int .i64), (.int .i64), (.int .i64), (.int .i64), (.int .i64), (.int .i64)]))]), .it .i64 pick, .pt 1 [] (.agg [.bool, .bool, (.int .i64), (.int .i64), (.int .i64), (.int .i64), (.int .i64), (.int .i64), (.int .i64)]), .it .i64 (fillR2 T pick e r i), .it .i64 (fillR3 T pick e r i), .agg [.arr 16 (.agg [.bool, .bool, (.int .i64), (.int .i64), (.int .i64), (.int .i64), (.int .i64), (.int .i64), (.int .i64)]) fun i0 => .agg [.bl ((T i0).ok), .bl ((T i0).v), .it .i64 ((T i0).page), .it .i64 ((T i0).asid), .it .i64 ((T i0).vmid), .it .i64 ((T i0).frame), .it .i64 ((T i0).bits), .it .i64 ((T i0).host), .it .i64 ((T i0).guest)]], .agg [.bl (e.ok), .bl (e.v), .it .i64 (e.page), .it .i64 (e.asid), .it .i64 (e.vmid), .it .i64 (e.frame), .it .i64 (e.bits), .it .i64 (e.host), .it .i64 (e.guest)]]
def fillRVr (T : Tab) (pick : Int) (e : En) (r : Int) (i : Int) : AV := .tup [.it .i64 (fillR0r T pick e r i), .pt 0 [] (.agg [(.arr 16 (.agg [.bool, .bool, (.int .i64), (.int .i64), (.int .i64), (.int .i64), (.int .i64), (.int .i64), (.int .i64)]))]), .it .i64 (fillR1r T pick e r i), .pt 1 [] (.agg [.bool, .bool, (.int .i64), (.int .i64), (.int .i64), (.int .i64), (.int .i64), (.int .i64), (.int .i64)]), .it .i64 (fillR2 T pick e r i), .it .i64 (fillR3r T pick e r i), .agg [.arr 16 (.agg [.bool, .bool, (.int .i64), (.int .i64), (.int .i64), (.int .i64), (.int .i64), (.int .i64), (.int .i64)]) fun i0 => .agg [.bl (fillR4r T pick e r i i0), .bl (fillR5r T pick e r i i0), .it .i64 (fillR6r T pick e r i i0), .it .i64 (fillR7r T pick e r i i0), .it .i64 (fillR8r T pick e r i i0), .it .i64 (fillR9r T pick e r i i0), .it .i64 (fillR10r T pick e r i i0), .it .i64 (fillR11r T pick e r i i0), .it .i64 (fillR12r T pick e r i i0)]], .agg [.bl (fillR13r T pick e r i), .bl (fillR14r T pick e r i), .it .i64 (fillR15r T pick e r i), .it .i64 (fillR16r T pick e r i), .it .i64 (fillR17r T pick e r i), .it .i64 (fillR18r T pick e r i), .it .i64 (fillR19r T pick e r i), .it .i64 (fillR20r T pick e r i), .it .i64 (fillR21r T pick e r i)]]
theorem fillRV_eq (T : Tab) (pick : Int) (e : En) (r : Int) (i : Int) : fillRVr T pick e r i = fillRV T pick e r i := by
  unfold fillRVr fillRV fillR0r fillR0 fillR1r fillR3r fillR3 fillR4r fillR5r fillR6r fillR7r fillR8r fillR9r fillR10r fillR11r fillR12r fillR13r fillR14r fillR15r fillR16r fillR17r fillR18r fillR19r fillR20r fillR21r
  first | (simp only [Go.Ev.cS1, Go.Ev.cS2, Go.Ev.cS3, Go.Ev.cS4, Go.Ev.cS6, Go.Ev.cS7]; done) | (simp only [Go.Ev.cS1, Go.Ev.cS2, Go.Ev.cS3, Go.Ev.cS4, Go.Ev.cS6, Go.Ev.cS7]; kernel_rfl)
theorem fillRE (T : Tab) (pick : Int) (e : En) (r : Int) (i : Int) : evC Try.prog okT NPC (HH []) RO NOV 101 false (bodyOf Try.f12.body 0) (fillL.F [.pt 0 [] tlbSh, .it .i64 pick, .pt 1 [] entSh, .it .i64 r, .it .i64 i, tlbA T, enA e]) (fillL.M [.pt 0 [] tlbSh, .it .i64 pick, .pt 1 [] entSh, .it .i64 r, .it .i64 i, tlbA T, enA e]) (grabQ fillL) = some (fillRG T pick e r i, fillRV T pick e r i) :=
  (by kernel_rfl : evC Try.prog okT NPC (HH []) RO NOV 101 false (bodyOf Try.f12.body 0) (fillL.F [.pt 0 [] tlbSh, .it .i64 pick, .pt 1 [] entSh, .it .i64 r, .it .i64 i, tlbA T, enA e]) (fillL.M [.pt 0 [] tlbSh, .it .i64 pick, .pt 1 [] entSh, .it .i64 r, .it .i64 i, tlbA T, enA e]) (grabQ fillL) = some (fillRG T pick e r i, fillRVr T pick e r i)).trans (by rw [fillRV_eq])

/- rfillR -/
def rfillR0 (T : Tab) (pick : Int) (e : En) (r : Int) (i : Int) : Int :=
  bif bif iLt i 16 then iLt r 0 else false then 0 else 2
def rfillR0r (T : Tab) (pick : Int) (e : En) (r : Int) (i : Int) : Int :=
  bif bif iLt i 16 then iLt r 0 else false then bif !(T i.toNat).ok then 0 else 0 else 2
def rfillR1r (T : Tab) (pick : Int) (e : En) (r : Int) (i : Int) : Int :=
  bif bif iLt i 16 then iLt r 0 else false then bif !(T i.toNat).ok then pick else pick else pick
def rfillR2 (T : Tab) (pick : Int) (e : En) (r : Int) (i : Int) : Int :=
  bif bif iLt i 16 then iLt r 0 else false then bif !(T i.toNat).ok then i else r else r
def rfillR3 (T : Tab) (pick : Int) (e : En) (r : Int) (i : Int) : Int :=
  bif bif iLt i 16 then iLt r 0 else false then iAdd IntKind.i64 i 1 else i
def rfillR3r (T : Tab) (pick : Int) (e : En) (r : Int) (i : Int) : Int :=
  bif bif iLt i 16 then iLt r 0 else false then bif !(T i.toNat).ok then iAdd IntKind.i64 i 1 else iAdd IntKind.i64 i 1 else i
def rfillR4r (T : Tab) (pick : Int) (e : En) (r : Int) (i : Int) : Nat → Bool :=
  fun i0 => bif bif iLt i 16 then iLt r 0 else false then bif !(T i.toNat).ok then (T i0).ok else (T i0).ok else (T i0).ok
def rfillR5r (T : Tab) (pick : Int) (e : En) (r : Int) (i : Int) : Nat → Bool :=
  fun i0 => bif bif iLt i 16 then iLt r 0 else false then bif !(T i.toNat).ok then (T i0).v else (T i0).v else (T i0).v
def rfillR6r (T : Tab) (pick : Int) (e : En) (r : Int) (i : Int) : Nat → Int :=
  fun i0 => bif bif iLt i 16 then iLt r 0 else false then bif !(T i.toNat).ok then (T i0).page else (T i0).page else (T i0).page
def rfillR7r (T : Tab) (pick : Int) (e : En) (r : Int) (i : Int) : Nat → Int :=
  fun i0 => bif bif iLt i 16 then iLt r 0 else false then bif !(T i.toNat).ok then (T i0).asid else (T i0).asid else (T i0).asid
def rfillR8r (T : Tab) (pick : Int) (e : En) (r : Int) (i : Int) : Nat → Int :=
  fun i0 => bif bif iLt i 16 then iLt r 0 else false then bif !(T i.toNat).ok then (T i0).vmid else (T i0).vmid else (T i0).vmid
def rfillR9r (T : Tab) (pick : Int) (e : En) (r : Int) (i : Int) : Nat → Int :=
  fun i0 => bif bif iLt i 16 then iLt r 0 else false then bif !(T i.toNat).ok then (T i0).frame else (T i0).frame else (T i0).frame
def rfillR10r (T : Tab) (pick : Int) (e : En) (r : Int) (i : Int) : Nat → Int :=
  fun i0 => bif bif iLt i 16 then iLt r 0 else false then bif !(T i.toNat).ok then (T i0).bits else (T i0).bits else (T i0).bits
def rfillR11r (T : Tab) (pick : Int) (e : En) (r : Int) (i : Int) : Nat → Int :=
  fun i0 => bif bif iLt i 16 then iLt r 0 else false then bif !(T i.toNat).ok then (T i0).host else (T i0).host else (T i0).host
def rfillR12r (T : Tab) (pick : Int) (e : En) (r : Int) (i : Int) : Nat → Int :=
  fun i0 => bif bif iLt i 16 then iLt r 0 else false then bif !(T i.toNat).ok then (T i0).guest else (T i0).guest else (T i0).guest
def rfillR13r (T : Tab) (pick : Int) (e : En) (r : Int) (i : Int) : Bool :=
  bif bif iLt i 16 then iLt r 0 else false then bif !(T i.toNat).ok then e.ok else e.ok else e.ok
def rfillR14r (T : Tab) (pick : Int) (e : En) (r : Int) (i : Int) : Bool :=
  bif bif iLt i 16 then iLt r 0 else false then bif !(T i.toNat).ok then e.v else e.v else e.v
def rfillR15r (T : Tab) (pick : Int) (e : En) (r : Int) (i : Int) : Int :=
  bif bif iLt i 16 then iLt r 0 else false then bif !(T i.toNat).ok then e.page else e.page else e.page
def rfillR16r (T : Tab) (pick : Int) (e : En) (r : Int) (i : Int) : Int :=
  bif bif iLt i 16 then iLt r 0 else false then bif !(T i.toNat).ok then e.asid else e.asid else e.asid
def rfillR17r (T : Tab) (pick : Int) (e : En) (r : Int) (i : Int) : Int :=
  bif bif iLt i 16 then iLt r 0 else false then bif !(T i.toNat).ok then e.vmid else e.vmid else e.vmid
def rfillR18r (T : Tab) (pick : Int) (e : En) (r : Int) (i : Int) : Int :=
  bif bif iLt i 16 then iLt r 0 else false then bif !(T i.toNat).ok then e.frame else e.frame else e.frame
def rfillR19r (T : Tab) (pick : Int) (e : En) (r : Int) (i : Int) : Int :=
  bif bif iLt i 16 then iLt r 0 else false then bif !(T i.toNat).ok then e.bits else e.bits else e.bits
def rfillR20r (T : Tab) (pick : Int) (e : En) (r : Int) (i : Int) : Int :=
  bif bif iLt i 16 then iLt r 0 else false then bif !(T i.toNat).ok then e.host else e.host else e.host
def rfillR21r (T : Tab) (pick : Int) (e : En) (r : Int) (i : Int) : Int :=
  bif bif iLt i 16 then iLt r 0 else false then bif !(T i.toNat).ok then e.guest else e.guest else e.guest
def rfillRG (T : Tab) (pick : Int) (e : En) (r : Int) (i : Int) : Bool :=
  bif bif iLt i 16 then iLt r 0 else false then iIn i 16 && bif !(T i.toNat).ok then true else true else true
def rfillRV (T : Tab) (pick : Int) (e : En) (r : Int) (i : Int) : AV := .tup [.it .i64 (rfillR0 T pick e r i), .pt 0 [] (.agg [(.arr 16 (.agg [.bool, .bool, (.int .i64), (.int .i64), (.int .i64), (.int .i64), (.int .i64), (.int .i64), (.int .i64)]))]), .it .i64 pick, .pt 1 [] (.agg [.bool, .bool, (.int .i64), (.int .i64), (.int .i64), (.int .i64), (.int .i64), (.int .i64), (.int .i64)]), .it .i64 (rfillR2 T pick e r i), .it .i64 (rfillR3 T pick e r i), .agg [.arr 16 (.agg [.bool, .bool, (.int .i64), (.int .i64), (.int .i64), (.int .i64), (.int .i64), (.int .i64), (.int .i64)]) fun i0 => .agg [.bl ((T i0).ok), .bl ((T i0).v), .it .i64 ((T i0).page), .it .i64 ((T i0).asid), .it .i64 ((T i0).vmid), .it .i64 ((T i0).frame), .it .i64 ((T i0).bits), .it .i64 ((T i0).host), .it .i64 ((T i0).guest)]], .agg [.bl (e.ok), .bl (e.v), .it .i64 (e.page), .it .i64 (e.asid), .it .i64 (e.vmid), .it .i64 (e.frame), .it .i64 (e.bits), .it .i64 (e.host), .it .i64 (e.guest)]]
def rfillRVr (T : Tab) (pick : Int) (e : En) (r : Int) (i : Int) : AV := .tup [.it .i64 (rfillR0r T pick e r i), .pt 0 [] (.agg [(.arr 16 (.agg [.bool, .bool, (.int .i64), (.int .i64), (.int .i64), (.int .i64), (.int .i64), (.int .i64), (.int .i64)]))]), .it .i64 (rfillR1r T pick e r i), .pt 1 [] (.agg [.bool, .bool, (.int .i64), (.int .i64), (.int .i64), (.int .i64), (.int .i64), (.int .i64), (.int .i64)]), .it .i64 (rfillR2 T pick e r i), .it .i64 (rfillR3r T pick e r i), .agg [.arr 16 (.agg [.bool, .bool, (.int .i64), (.int .i64), (.int .i64), (.int .i64), (.int .i64), (.int .i64), (.int .i64)]) fun i0 => .agg [.bl (rfillR4r T pick e r i i0), .bl (rfillR5r T pick e r i i0), .it .i64 (rfillR6r T pick e r i i0), .it .i64 (rfillR7r T pick e r i i0), .it .i64 (rfillR8r T pick e r i i0), .it .i64 (rfillR9r T pick e r i i0), .it .i64 (rfillR10r T pick e r i i0), .it .i64 (rfillR11r T pick e r i i0), .it .i64 (rfillR12r T pick e r i i0)]], .agg [.bl (rfillR13r T pick e r i), .bl (rfillR14r T pick e r i), .it .i64 (rfillR15r T pick e r i), .it .i64 (rfillR16r T pick e r i), .it .i64 (rfillR17r T pick e r i), .it .i64 (rfillR18r T pick e r i), .it .i64 (rfillR19r T pick e r i), .it .i64 (rfillR20r T pick e r i), .it .i64 (rfillR21r T pick e r i)]]
theorem rfillRV_eq (T : Tab) (pick : Int) (e : En) (r : Int) (i : Int) : rfillRVr T pick e r i = rfillRV T pick e r i := by
  unfold rfillRVr rfillRV rfillR0r rfillR0 rfillR1r rfillR3r rfillR3 rfillR4r rfillR5r rfillR6r rfillR7r rfillR8r rfillR9r rfillR10r rfillR11r rfillR12r rfillR13r rfillR14r rfillR15r rfillR16r rfillR17r rfillR18r rfillR19r rfillR20r rfillR21r
  first | (simp only [Go.Ev.cS1, Go.Ev.cS2, Go.Ev.cS3, Go.Ev.cS4, Go.Ev.cS6, Go.Ev.cS7]; done) | (simp only [Go.Ev.cS1, Go.Ev.cS2, Go.Ev.cS3, Go.Ev.cS4, Go.Ev.cS6, Go.Ev.cS7]; kernel_rfl)
theorem rfillRE (T : Tab) (pick : Int) (e : En) (r : Int) (i : Int) : evC Try.prog okT NPC (HH []) RO NOV 101 false (bodyOf Try.f18.body 0) (rfillL.F [.pt 0 [] tlbSh, .it .i64 pick, .pt 1 [] entSh, .it .i64 r, .it .i64 i, tlbA T, enA e]) (rfillL.M [.pt 0 [] tlbSh, .it .i64 pick, .pt 1 [] entSh, .it .i64 r, .it .i64 i, tlbA T, enA e]) (grabQ rfillL) = some (rfillRG T pick e r i, rfillRV T pick e r i) :=
  (by kernel_rfl : evC Try.prog okT NPC (HH []) RO NOV 101 false (bodyOf Try.f18.body 0) (rfillL.F [.pt 0 [] tlbSh, .it .i64 pick, .pt 1 [] entSh, .it .i64 r, .it .i64 i, tlbA T, enA e]) (rfillL.M [.pt 0 [] tlbSh, .it .i64 pick, .pt 1 [] entSh, .it .i64 r, .it .i64 i, tlbA T, enA e]) (grabQ rfillL) = some (rfillRG T pick e r i, rfillRVr T pick e r i)).trans (by rw [rfillRV_eq])

/- rdropR -/
def rdropR_c0 (e : En) (b : Bool) (i : Int) (T : Tab) : Bool :=
  bif (T i.toNat).ok then
    (T i.toNat).ok == e.ok &&
      ((T i.toNat).v == e.v &&
        (iEq (T i.toNat).page e.page &&
          (iEq (T i.toNat).asid e.asid &&
            (iEq (T i.toNat).vmid e.vmid && (iEq (T i.toNat).frame e.frame && (iEq (T i.toNat).bits e.bits && (iEq (T i.toNat).host e.host && (iEq (T i.toNat).guest e.guest && true))))))))
  else false
def rdropR_c1 (e : En) (b : Bool) (i : Int) (T : Tab) : Bool :=
  bif (T i.toNat).ok then
    (T i.toNat).ok == e.ok &&
      ((T i.toNat).v == e.v &&
        (iEq (T i.toNat).page e.page &&
          (iEq (T i.toNat).asid e.asid &&
            (iEq (T i.toNat).vmid e.vmid && (iEq (T i.toNat).frame e.frame && (iEq (T i.toNat).bits e.bits && (iEq (T i.toNat).host e.host && iEq (T i.toNat).guest e.guest)))))))
  else false
def rdropR0 (e : En) (b : Bool) (i : Int) (T : Tab) : Int :=
  bif iLt i 16 then bif rdropR_c1 e b i T then 1 else 0 else 2
def rdropR0r (e : En) (b : Bool) (i : Int) (T : Tab) : Int :=
  bif iLt i 16 then bif rdropR_c0 e b i T then 1 else 0 else 2
def rdropR1 (e : En) (b : Bool) (i : Int) (T : Tab) : Bool :=
  bif iLt i 16 then bif rdropR_c1 e b i T then true else b else b
def rdropR1r (e : En) (b : Bool) (i : Int) (T : Tab) : Bool :=
  bif iLt i 16 then bif rdropR_c0 e b i T then true else b else b
def rdropR2 (e : En) (b : Bool) (i : Int) (T : Tab) : Int :=
  bif iLt i 16 then bif rdropR_c1 e b i T then i else iAdd IntKind.i64 i 1 else i
def rdropR2r (e : En) (b : Bool) (i : Int) (T : Tab) : Int :=
  bif iLt i 16 then bif rdropR_c0 e b i T then i else iAdd IntKind.i64 i 1 else i
def rdropR3 (e : En) (b : Bool) (i : Int) (T : Tab) : Nat → Bool :=
  fun i0 => bif iLt i 16 then bif rdropR_c1 e b i T then bif i0 == i.toNat then false else (T i0).ok else (T i0).ok else (T i0).ok
def rdropR3r (e : En) (b : Bool) (i : Int) (T : Tab) : Nat → Bool :=
  fun i0 => bif iLt i 16 then bif rdropR_c0 e b i T then bif i0 == i.toNat then false else (T i0).ok else (T i0).ok else (T i0).ok
def rdropR4 (e : En) (b : Bool) (i : Int) (T : Tab) : Nat → Bool :=
  fun i0 => bif iLt i 16 then bif rdropR_c1 e b i T then bif i0 == i.toNat then false else (T i0).v else (T i0).v else (T i0).v
def rdropR4r (e : En) (b : Bool) (i : Int) (T : Tab) : Nat → Bool :=
  fun i0 => bif iLt i 16 then bif rdropR_c0 e b i T then bif i0 == i.toNat then false else (T i0).v else (T i0).v else (T i0).v
def rdropR5 (e : En) (b : Bool) (i : Int) (T : Tab) : Nat → Int :=
  fun i0 => bif iLt i 16 then bif rdropR_c1 e b i T then bif i0 == i.toNat then 0 else (T i0).page else (T i0).page else (T i0).page
def rdropR5r (e : En) (b : Bool) (i : Int) (T : Tab) : Nat → Int :=
  fun i0 => bif iLt i 16 then bif rdropR_c0 e b i T then bif i0 == i.toNat then 0 else (T i0).page else (T i0).page else (T i0).page
def rdropR6 (e : En) (b : Bool) (i : Int) (T : Tab) : Nat → Int :=
  fun i0 => bif iLt i 16 then bif rdropR_c1 e b i T then bif i0 == i.toNat then 0 else (T i0).asid else (T i0).asid else (T i0).asid
def rdropR6r (e : En) (b : Bool) (i : Int) (T : Tab) : Nat → Int :=
  fun i0 => bif iLt i 16 then bif rdropR_c0 e b i T then bif i0 == i.toNat then 0 else (T i0).asid else (T i0).asid else (T i0).asid
def rdropR7 (e : En) (b : Bool) (i : Int) (T : Tab) : Nat → Int :=
  fun i0 => bif iLt i 16 then bif rdropR_c1 e b i T then bif i0 == i.toNat then 0 else (T i0).vmid else (T i0).vmid else (T i0).vmid
def rdropR7r (e : En) (b : Bool) (i : Int) (T : Tab) : Nat → Int :=
  fun i0 => bif iLt i 16 then bif rdropR_c0 e b i T then bif i0 == i.toNat then 0 else (T i0).vmid else (T i0).vmid else (T i0).vmid
def rdropR8 (e : En) (b : Bool) (i : Int) (T : Tab) : Nat → Int :=
  fun i0 => bif iLt i 16 then bif rdropR_c1 e b i T then bif i0 == i.toNat then 0 else (T i0).frame else (T i0).frame else (T i0).frame
def rdropR8r (e : En) (b : Bool) (i : Int) (T : Tab) : Nat → Int :=
  fun i0 => bif iLt i 16 then bif rdropR_c0 e b i T then bif i0 == i.toNat then 0 else (T i0).frame else (T i0).frame else (T i0).frame
def rdropR9 (e : En) (b : Bool) (i : Int) (T : Tab) : Nat → Int :=
  fun i0 => bif iLt i 16 then bif rdropR_c1 e b i T then bif i0 == i.toNat then 0 else (T i0).bits else (T i0).bits else (T i0).bits
def rdropR9r (e : En) (b : Bool) (i : Int) (T : Tab) : Nat → Int :=
  fun i0 => bif iLt i 16 then bif rdropR_c0 e b i T then bif i0 == i.toNat then 0 else (T i0).bits else (T i0).bits else (T i0).bits
def rdropR10 (e : En) (b : Bool) (i : Int) (T : Tab) : Nat → Int :=
  fun i0 => bif iLt i 16 then bif rdropR_c1 e b i T then bif i0 == i.toNat then 0 else (T i0).host else (T i0).host else (T i0).host
def rdropR10r (e : En) (b : Bool) (i : Int) (T : Tab) : Nat → Int :=
  fun i0 => bif iLt i 16 then bif rdropR_c0 e b i T then bif i0 == i.toNat then 0 else (T i0).host else (T i0).host else (T i0).host
def rdropR11 (e : En) (b : Bool) (i : Int) (T : Tab) : Nat → Int :=
  fun i0 => bif iLt i 16 then bif rdropR_c1 e b i T then bif i0 == i.toNat then 0 else (T i0).guest else (T i0).guest else (T i0).guest
def rdropR11r (e : En) (b : Bool) (i : Int) (T : Tab) : Nat → Int :=
  fun i0 => bif iLt i 16 then bif rdropR_c0 e b i T then bif i0 == i.toNat then 0 else (T i0).guest else (T i0).guest else (T i0).guest
def rdropR12r (e : En) (b : Bool) (i : Int) (T : Tab) : Bool :=
  bif iLt i 16 then bif rdropR_c0 e b i T then e.ok else e.ok else e.ok
def rdropR13r (e : En) (b : Bool) (i : Int) (T : Tab) : Bool :=
  bif iLt i 16 then bif rdropR_c0 e b i T then e.v else e.v else e.v
def rdropR14r (e : En) (b : Bool) (i : Int) (T : Tab) : Int :=
  bif iLt i 16 then bif rdropR_c0 e b i T then e.page else e.page else e.page
def rdropR15r (e : En) (b : Bool) (i : Int) (T : Tab) : Int :=
  bif iLt i 16 then bif rdropR_c0 e b i T then e.asid else e.asid else e.asid
def rdropR16r (e : En) (b : Bool) (i : Int) (T : Tab) : Int :=
  bif iLt i 16 then bif rdropR_c0 e b i T then e.vmid else e.vmid else e.vmid
def rdropR17r (e : En) (b : Bool) (i : Int) (T : Tab) : Int :=
  bif iLt i 16 then bif rdropR_c0 e b i T then e.frame else e.frame else e.frame
def rdropR18r (e : En) (b : Bool) (i : Int) (T : Tab) : Int :=
  bif iLt i 16 then bif rdropR_c0 e b i T then e.bits else e.bits else e.bits
def rdropR19r (e : En) (b : Bool) (i : Int) (T : Tab) : Int :=
  bif iLt i 16 then bif rdropR_c0 e b i T then e.host else e.host else e.host
def rdropR20r (e : En) (b : Bool) (i : Int) (T : Tab) : Int :=
  bif iLt i 16 then bif rdropR_c0 e b i T then e.guest else e.guest else e.guest
def rdropRG (e : En) (b : Bool) (i : Int) (T : Tab) : Bool :=
  bif iLt i 16 then iIn i 16 && ((!(T i.toNat).ok || iIn i 16) && bif rdropR_c0 e b i T then iIn i 16 && true else true) else true
def rdropRV (e : En) (b : Bool) (i : Int) (T : Tab) : AV := .tup [.it .i64 (rdropR0 e b i T), .pt 0 [] (.agg [(.arr 16 (.agg [.bool, .bool, (.int .i64), (.int .i64), (.int .i64), (.int .i64), (.int .i64), (.int .i64), (.int .i64)]))]), .pt 1 [] (.agg [.bool, .bool, (.int .i64), (.int .i64), (.int .i64), (.int .i64), (.int .i64), (.int .i64), (.int .i64)]), .bl (rdropR1 e b i T), .it .i64 (rdropR2 e b i T), .agg [.arr 16 (.agg [.bool, .bool, (.int .i64), (.int .i64), (.int .i64), (.int .i64), (.int .i64), (.int .i64), (.int .i64)]) fun i0 => .agg [.bl (rdropR3 e b i T i0), .bl (rdropR4 e b i T i0), .it .i64 (rdropR5 e b i T i0), .it .i64 (rdropR6 e b i T i0), .it .i64 (rdropR7 e b i T i0), .it .i64 (rdropR8 e b i T i0), .it .i64 (rdropR9 e b i T i0), .it .i64 (rdropR10 e b i T i0), .it .i64 (rdropR11 e b i T i0)]], .agg [.bl (e.ok), .bl (e.v), .it .i64 (e.page), .it .i64 (e.asid), .it .i64 (e.vmid), .it .i64 (e.frame), .it .i64 (e.bits), .it .i64 (e.host), .it .i64 (e.guest)]]
def rdropRVr (e : En) (b : Bool) (i : Int) (T : Tab) : AV := .tup [.it .i64 (rdropR0r e b i T), .pt 0 [] (.agg [(.arr 16 (.agg [.bool, .bool, (.int .i64), (.int .i64), (.int .i64), (.int .i64), (.int .i64), (.int .i64), (.int .i64)]))]), .pt 1 [] (.agg [.bool, .bool, (.int .i64), (.int .i64), (.int .i64), (.int .i64), (.int .i64), (.int .i64), (.int .i64)]), .bl (rdropR1r e b i T), .it .i64 (rdropR2r e b i T), .agg [.arr 16 (.agg [.bool, .bool, (.int .i64), (.int .i64), (.int .i64), (.int .i64), (.int .i64), (.int .i64), (.int .i64)]) fun i0 => .agg [.bl (rdropR3r e b i T i0), .bl (rdropR4r e b i T i0), .it .i64 (rdropR5r e b i T i0), .it .i64 (rdropR6r e b i T i0), .it .i64 (rdropR7r e b i T i0), .it .i64 (rdropR8r e b i T i0), .it .i64 (rdropR9r e b i T i0), .it .i64 (rdropR10r e b i T i0), .it .i64 (rdropR11r e b i T i0)]], .agg [.bl (rdropR12r e b i T), .bl (rdropR13r e b i T), .it .i64 (rdropR14r e b i T), .it .i64 (rdropR15r e b i T), .it .i64 (rdropR16r e b i T), .it .i64 (rdropR17r e b i T), .it .i64 (rdropR18r e b i T), .it .i64 (rdropR19r e b i T), .it .i64 (rdropR20r e b i T)]]
theorem rdropRV_eq (e : En) (b : Bool) (i : Int) (T : Tab) : rdropRVr e b i T = rdropRV e b i T := by
  unfold rdropRVr rdropRV rdropR0r rdropR0 rdropR1r rdropR1 rdropR2r rdropR2 rdropR3r rdropR3 rdropR4r rdropR4 rdropR5r rdropR5 rdropR6r rdropR6 rdropR7r rdropR7 rdropR8r rdropR8 rdropR9r rdropR9 rdropR10r rdropR10 rdropR11r rdropR11 rdropR12r rdropR13r rdropR14r rdropR15r rdropR16r rdropR17r rdropR18r rdropR19r rdropR20r
  first | (simp only [rdropR_c0, rdropR_c1, Go.Ev.cS1, Go.Ev.cS2, Go.Ev.cS3, Go.Ev.cS4, Go.Ev.cS6, Go.Ev.cS7]; done) | (simp only [rdropR_c0, rdropR_c1, Go.Ev.cS1, Go.Ev.cS2, Go.Ev.cS3, Go.Ev.cS4, Go.Ev.cS6, Go.Ev.cS7]; kernel_rfl)
theorem rdropRE (e : En) (b : Bool) (i : Int) (T : Tab) : evC Try.prog okT NPC (HH []) RO NOV 101 false (bodyOf Try.f19.body 0) (rdropL.F [.pt 0 [] tlbSh, .pt 1 [] entSh, .bl b, .it .i64 i, tlbA T, enA e]) (rdropL.M [.pt 0 [] tlbSh, .pt 1 [] entSh, .bl b, .it .i64 i, tlbA T, enA e]) (grabQ rdropL) = some (rdropRG e b i T, rdropRV e b i T) :=
  (by kernel_rfl : evC Try.prog okT NPC (HH []) RO NOV 101 false (bodyOf Try.f19.body 0) (rdropL.F [.pt 0 [] tlbSh, .pt 1 [] entSh, .bl b, .it .i64 i, tlbA T, enA e]) (rdropL.M [.pt 0 [] tlbSh, .pt 1 [] entSh, .bl b, .it .i64 i, tlbA T, enA e]) (grabQ rdropL) = some (rdropRG e b i T, rdropRVr e b i T)).trans (by rw [rdropRV_eq])

/- allA -/
def allA0 (T : Tab) (S : Tab) (i : Int) : Int :=
  bif iLt i 16 then 0 else 2
def allA1r (T : Tab) (S : Tab) (i : Int) : Nat → Bool :=
  fun i0 => bif iLt i 16 then (T i0).ok else (T i0).ok
def allA2r (T : Tab) (S : Tab) (i : Int) : Nat → Bool :=
  fun i0 => bif iLt i 16 then (T i0).v else (T i0).v
def allA3r (T : Tab) (S : Tab) (i : Int) : Nat → Int :=
  fun i0 => bif iLt i 16 then (T i0).page else (T i0).page
def allA4r (T : Tab) (S : Tab) (i : Int) : Nat → Int :=
  fun i0 => bif iLt i 16 then (T i0).asid else (T i0).asid
def allA5r (T : Tab) (S : Tab) (i : Int) : Nat → Int :=
  fun i0 => bif iLt i 16 then (T i0).vmid else (T i0).vmid
def allA6r (T : Tab) (S : Tab) (i : Int) : Nat → Int :=
  fun i0 => bif iLt i 16 then (T i0).frame else (T i0).frame
def allA7r (T : Tab) (S : Tab) (i : Int) : Nat → Int :=
  fun i0 => bif iLt i 16 then (T i0).bits else (T i0).bits
def allA8r (T : Tab) (S : Tab) (i : Int) : Nat → Int :=
  fun i0 => bif iLt i 16 then (T i0).host else (T i0).host
def allA9r (T : Tab) (S : Tab) (i : Int) : Nat → Int :=
  fun i0 => bif iLt i 16 then (T i0).guest else (T i0).guest
def allA10 (T : Tab) (S : Tab) (i : Int) : Int :=
  bif iLt i 16 then iAdd IntKind.i64 i 1 else i
def allA11r (T : Tab) (S : Tab) (i : Int) : Nat → Bool :=
  fun i0 => bif iLt i 16 then (S i0).ok else (S i0).ok
def allA12r (T : Tab) (S : Tab) (i : Int) : Nat → Bool :=
  fun i0 => bif iLt i 16 then (S i0).v else (S i0).v
def allA13r (T : Tab) (S : Tab) (i : Int) : Nat → Int :=
  fun i0 => bif iLt i 16 then (S i0).page else (S i0).page
def allA14r (T : Tab) (S : Tab) (i : Int) : Nat → Int :=
  fun i0 => bif iLt i 16 then (S i0).asid else (S i0).asid
def allA15r (T : Tab) (S : Tab) (i : Int) : Nat → Int :=
  fun i0 => bif iLt i 16 then (S i0).vmid else (S i0).vmid
def allA16r (T : Tab) (S : Tab) (i : Int) : Nat → Int :=
  fun i0 => bif iLt i 16 then (S i0).frame else (S i0).frame
def allA17r (T : Tab) (S : Tab) (i : Int) : Nat → Int :=
  fun i0 => bif iLt i 16 then (S i0).bits else (S i0).bits
def allA18r (T : Tab) (S : Tab) (i : Int) : Nat → Int :=
  fun i0 => bif iLt i 16 then (S i0).host else (S i0).host
def allA19r (T : Tab) (S : Tab) (i : Int) : Nat → Int :=
  fun i0 => bif iLt i 16 then (S i0).guest else (S i0).guest
def allAG (T : Tab) (S : Tab) (i : Int) : Bool :=
  bif iLt i 16 then iIn i 16 && (!(T i.toNat).ok && true) else true
def allAV (T : Tab) (S : Tab) (i : Int) : AV := .tup [.it .i64 (allA0 T S i), .nsl, .arr 16 (.agg [.bool, .bool, (.int .i64), (.int .i64), (.int .i64), (.int .i64), (.int .i64), (.int .i64), (.int .i64)]) fun i0 => .agg [.bl ((T i0).ok), .bl ((T i0).v), .it .i64 ((T i0).page), .it .i64 ((T i0).asid), .it .i64 ((T i0).vmid), .it .i64 ((T i0).frame), .it .i64 ((T i0).bits), .it .i64 ((T i0).host), .it .i64 ((T i0).guest)], .it .i64 (allA10 T S i), .agg [.arr 16 (.agg [.bool, .bool, (.int .i64), (.int .i64), (.int .i64), (.int .i64), (.int .i64), (.int .i64), (.int .i64)]) fun i0 => .agg [.bl ((S i0).ok), .bl ((S i0).v), .it .i64 ((S i0).page), .it .i64 ((S i0).asid), .it .i64 ((S i0).vmid), .it .i64 ((S i0).frame), .it .i64 ((S i0).bits), .it .i64 ((S i0).host), .it .i64 ((S i0).guest)]]]
def allAVr (T : Tab) (S : Tab) (i : Int) : AV := .tup [.it .i64 (allA0 T S i), .nsl, .arr 16 (.agg [.bool, .bool, (.int .i64), (.int .i64), (.int .i64), (.int .i64), (.int .i64), (.int .i64), (.int .i64)]) fun i0 => .agg [.bl (allA1r T S i i0), .bl (allA2r T S i i0), .it .i64 (allA3r T S i i0), .it .i64 (allA4r T S i i0), .it .i64 (allA5r T S i i0), .it .i64 (allA6r T S i i0), .it .i64 (allA7r T S i i0), .it .i64 (allA8r T S i i0), .it .i64 (allA9r T S i i0)], .it .i64 (allA10 T S i), .agg [.arr 16 (.agg [.bool, .bool, (.int .i64), (.int .i64), (.int .i64), (.int .i64), (.int .i64), (.int .i64), (.int .i64)]) fun i0 => .agg [.bl (allA11r T S i i0), .bl (allA12r T S i i0), .it .i64 (allA13r T S i i0), .it .i64 (allA14r T S i i0), .it .i64 (allA15r T S i i0), .it .i64 (allA16r T S i i0), .it .i64 (allA17r T S i i0), .it .i64 (allA18r T S i i0), .it .i64 (allA19r T S i i0)]]]
theorem allAV_eq (T : Tab) (S : Tab) (i : Int) : allAVr T S i = allAV T S i := by
  unfold allAVr allAV allA1r allA2r allA3r allA4r allA5r allA6r allA7r allA8r allA9r allA11r allA12r allA13r allA14r allA15r allA16r allA17r allA18r allA19r
  first | (simp only [Go.Ev.cS1, Go.Ev.cS2, Go.Ev.cS3, Go.Ev.cS4, Go.Ev.cS6, Go.Ev.cS7]; done) | (simp only [Go.Ev.cS1, Go.Ev.cS2, Go.Ev.cS3, Go.Ev.cS4, Go.Ev.cS6, Go.Ev.cS7]; kernel_rfl)
theorem allAE (T : Tab) (S : Tab) (i : Int) : evC Try.prog okT NPC (HH []) RO NOV 101 false (bodyOf Try.f14.body 0) (all0L.F [.nsl, .arr 16 entSh fun j => enA (T j), .it .i64 i, tlbA S]) (all0L.M [.nsl, .arr 16 entSh fun j => enA (T j), .it .i64 i, tlbA S]) (grabN 3 all0L) = some (allAG T S i, allAV T S i) :=
  (by kernel_rfl : evC Try.prog okT NPC (HH []) RO NOV 101 false (bodyOf Try.f14.body 0) (all0L.F [.nsl, .arr 16 entSh fun j => enA (T j), .it .i64 i, tlbA S]) (all0L.M [.nsl, .arr 16 entSh fun j => enA (T j), .it .i64 i, tlbA S]) (grabN 3 all0L) = some (allAG T S i, allAVr T S i)).trans (by rw [allAV_eq])

/- allB -/
def allB0 (T : Tab) (S : Tab) (i : Int) : Int :=
  iAdd IntKind.i64 i 1
def allB1 (T : Tab) (S : Tab) (i : Int) : Nat → Bool :=
  fun i0 => bif i0 + 0 == 0 then (T i.toNat).ok else false
def allB2 (T : Tab) (S : Tab) (i : Int) : Nat → Bool :=
  fun i0 => bif i0 + 0 == 0 then (T i.toNat).v else false
def allB3 (T : Tab) (S : Tab) (i : Int) : Nat → Int :=
  fun i0 => bif i0 + 0 == 0 then (T i.toNat).page else 0
def allB4 (T : Tab) (S : Tab) (i : Int) : Nat → Int :=
  fun i0 => bif i0 + 0 == 0 then (T i.toNat).asid else 0
def allB5 (T : Tab) (S : Tab) (i : Int) : Nat → Int :=
  fun i0 => bif i0 + 0 == 0 then (T i.toNat).vmid else 0
def allB6 (T : Tab) (S : Tab) (i : Int) : Nat → Int :=
  fun i0 => bif i0 + 0 == 0 then (T i.toNat).frame else 0
def allB7 (T : Tab) (S : Tab) (i : Int) : Nat → Int :=
  fun i0 => bif i0 + 0 == 0 then (T i.toNat).bits else 0
def allB8 (T : Tab) (S : Tab) (i : Int) : Nat → Int :=
  fun i0 => bif i0 + 0 == 0 then (T i.toNat).host else 0
def allB9 (T : Tab) (S : Tab) (i : Int) : Nat → Int :=
  fun i0 => bif i0 + 0 == 0 then (T i.toNat).guest else 0
def allBG (T : Tab) (S : Tab) (i : Int) : Bool :=
  iLt i 16 && (iIn i 16 && ((T i.toNat).ok && true))
def allBV (T : Tab) (S : Tab) (i : Int) : AV := .tup [.it .i64 0, .arr 16 (.agg [.bool, .bool, (.int .i64), (.int .i64), (.int .i64), (.int .i64), (.int .i64), (.int .i64), (.int .i64)]) fun i0 => .agg [.bl ((T i0).ok), .bl ((T i0).v), .it .i64 ((T i0).page), .it .i64 ((T i0).asid), .it .i64 ((T i0).vmid), .it .i64 ((T i0).frame), .it .i64 ((T i0).bits), .it .i64 ((T i0).host), .it .i64 ((T i0).guest)], .it .i64 (allB0 T S i), .sl 1 [] (0) (1) true, .agg [.arr 16 (.agg [.bool, .bool, (.int .i64), (.int .i64), (.int .i64), (.int .i64), (.int .i64), (.int .i64), (.int .i64)]) fun i0 => .agg [.bl ((S i0).ok), .bl ((S i0).v), .it .i64 ((S i0).page), .it .i64 ((S i0).asid), .it .i64 ((S i0).vmid), .it .i64 ((S i0).frame), .it .i64 ((S i0).bits), .it .i64 ((S i0).host), .it .i64 ((S i0).guest)]], .arr 1 (.agg [.bool, .bool, (.int .i64), (.int .i64), (.int .i64), (.int .i64), (.int .i64), (.int .i64), (.int .i64)]) fun i0 => .agg [.bl (allB1 T S i i0), .bl (allB2 T S i i0), .it .i64 (allB3 T S i i0), .it .i64 (allB4 T S i i0), .it .i64 (allB5 T S i i0), .it .i64 (allB6 T S i i0), .it .i64 (allB7 T S i i0), .it .i64 (allB8 T S i i0), .it .i64 (allB9 T S i i0)]]
theorem allBE (T : Tab) (S : Tab) (i : Int) : evC Try.prog okT NPC (HH []) RO NOV 101 false (bodyOf Try.f14.body 0) (all0L.F [.nsl, .arr 16 entSh fun j => enA (T j), .it .i64 i, tlbA S]) (all0L.M [.nsl, .arr 16 entSh fun j => enA (T j), .it .i64 i, tlbA S]) (grabQ all1L) = some (allBG T S i, allBV T S i) := by kernel_rfl

/- allC -/
def allC0 (T : Tab) (S : Tab) (i : Int) (n : Nat) (E : Tab) : Int :=
  iAdd IntKind.i64 i 1
def allCG (T : Tab) (S : Tab) (i : Int) (n : Nat) (E : Tab) : Bool :=
  iLt i 16 && (iIn i 16 && (!(T i.toNat).ok && true))
def allCV (T : Tab) (S : Tab) (i : Int) (n : Nat) (E : Tab) : AV := .tup [.it .i64 0, .arr 16 (.agg [.bool, .bool, (.int .i64), (.int .i64), (.int .i64), (.int .i64), (.int .i64), (.int .i64), (.int .i64)]) fun i0 => .agg [.bl ((T i0).ok), .bl ((T i0).v), .it .i64 ((T i0).page), .it .i64 ((T i0).asid), .it .i64 ((T i0).vmid), .it .i64 ((T i0).frame), .it .i64 ((T i0).bits), .it .i64 ((T i0).host), .it .i64 ((T i0).guest)], .it .i64 (allC0 T S i n E), .sl 1 [] (0) (n) true, .agg [.arr 16 (.agg [.bool, .bool, (.int .i64), (.int .i64), (.int .i64), (.int .i64), (.int .i64), (.int .i64), (.int .i64)]) fun i0 => .agg [.bl ((S i0).ok), .bl ((S i0).v), .it .i64 ((S i0).page), .it .i64 ((S i0).asid), .it .i64 ((S i0).vmid), .it .i64 ((S i0).frame), .it .i64 ((S i0).bits), .it .i64 ((S i0).host), .it .i64 ((S i0).guest)]], .arr (n) (.agg [.bool, .bool, (.int .i64), (.int .i64), (.int .i64), (.int .i64), (.int .i64), (.int .i64), (.int .i64)]) fun i0 => .agg [.bl ((E i0).ok), .bl ((E i0).v), .it .i64 ((E i0).page), .it .i64 ((E i0).asid), .it .i64 ((E i0).vmid), .it .i64 ((E i0).frame), .it .i64 ((E i0).bits), .it .i64 ((E i0).host), .it .i64 ((E i0).guest)]]
theorem allCE (T : Tab) (S : Tab) (i : Int) (n : Nat) (E : Tab) : evC Try.prog okT NPC (HH []) RO NOV 101 false (bodyOf Try.f14.body 0) (all1L.F [.arr 16 entSh fun j => enA (T j), .it .i64 i, .sl 1 [] 0 n true, tlbA S, .arr n entSh fun j => enA (E j)]) (all1L.M [.arr 16 entSh fun j => enA (T j), .it .i64 i, .sl 1 [] 0 n true, tlbA S, .arr n entSh fun j => enA (E j)]) (grabJ 0 (grabI 3 1 true all1L)) = some (allCG T S i n E, allCV T S i n E) := by kernel_rfl

/- allD -/
def allD0 (T : Tab) (S : Tab) (i : Int) (n : Nat) (E : Tab) : Int :=
  iAdd IntKind.i64 i 1
def allD1 (T : Tab) (S : Tab) (i : Int) (n : Nat) (E : Tab) : Nat → Bool :=
  fun i0 => bif decide (i0 < n) then (E (i0 + 0)).ok else bif i0 - n + 0 == 0 then (T i.toNat).ok else false
def allD2 (T : Tab) (S : Tab) (i : Int) (n : Nat) (E : Tab) : Nat → Bool :=
  fun i0 => bif decide (i0 < n) then (E (i0 + 0)).v else bif i0 - n + 0 == 0 then (T i.toNat).v else false
def allD3 (T : Tab) (S : Tab) (i : Int) (n : Nat) (E : Tab) : Nat → Int :=
  fun i0 => bif decide (i0 < n) then (E (i0 + 0)).page else bif i0 - n + 0 == 0 then (T i.toNat).page else 0
def allD4 (T : Tab) (S : Tab) (i : Int) (n : Nat) (E : Tab) : Nat → Int :=
  fun i0 => bif decide (i0 < n) then (E (i0 + 0)).asid else bif i0 - n + 0 == 0 then (T i.toNat).asid else 0
def allD5 (T : Tab) (S : Tab) (i : Int) (n : Nat) (E : Tab) : Nat → Int :=
  fun i0 => bif decide (i0 < n) then (E (i0 + 0)).vmid else bif i0 - n + 0 == 0 then (T i.toNat).vmid else 0
def allD6 (T : Tab) (S : Tab) (i : Int) (n : Nat) (E : Tab) : Nat → Int :=
  fun i0 => bif decide (i0 < n) then (E (i0 + 0)).frame else bif i0 - n + 0 == 0 then (T i.toNat).frame else 0
def allD7 (T : Tab) (S : Tab) (i : Int) (n : Nat) (E : Tab) : Nat → Int :=
  fun i0 => bif decide (i0 < n) then (E (i0 + 0)).bits else bif i0 - n + 0 == 0 then (T i.toNat).bits else 0
def allD8 (T : Tab) (S : Tab) (i : Int) (n : Nat) (E : Tab) : Nat → Int :=
  fun i0 => bif decide (i0 < n) then (E (i0 + 0)).host else bif i0 - n + 0 == 0 then (T i.toNat).host else 0
def allD9 (T : Tab) (S : Tab) (i : Int) (n : Nat) (E : Tab) : Nat → Int :=
  fun i0 => bif decide (i0 < n) then (E (i0 + 0)).guest else bif i0 - n + 0 == 0 then (T i.toNat).guest else 0
def allDG (T : Tab) (S : Tab) (i : Int) (n : Nat) (E : Tab) : Bool :=
  iLt i 16 && (iIn i 16 && ((T i.toNat).ok && ((n + 1).ble 4294967296 && true)))
def allDV (T : Tab) (S : Tab) (i : Int) (n : Nat) (E : Tab) : AV := .tup [.it .i64 0, .arr 16 (.agg [.bool, .bool, (.int .i64), (.int .i64), (.int .i64), (.int .i64), (.int .i64), (.int .i64), (.int .i64)]) fun i0 => .agg [.bl ((T i0).ok), .bl ((T i0).v), .it .i64 ((T i0).page), .it .i64 ((T i0).asid), .it .i64 ((T i0).vmid), .it .i64 ((T i0).frame), .it .i64 ((T i0).bits), .it .i64 ((T i0).host), .it .i64 ((T i0).guest)], .it .i64 (allD0 T S i n E), .sl 1 [] (0) (n + 1) true, .agg [.arr 16 (.agg [.bool, .bool, (.int .i64), (.int .i64), (.int .i64), (.int .i64), (.int .i64), (.int .i64), (.int .i64)]) fun i0 => .agg [.bl ((S i0).ok), .bl ((S i0).v), .it .i64 ((S i0).page), .it .i64 ((S i0).asid), .it .i64 ((S i0).vmid), .it .i64 ((S i0).frame), .it .i64 ((S i0).bits), .it .i64 ((S i0).host), .it .i64 ((S i0).guest)]], .arr (n + 1) (.agg [.bool, .bool, (.int .i64), (.int .i64), (.int .i64), (.int .i64), (.int .i64), (.int .i64), (.int .i64)]) fun i0 => .agg [.bl (allD1 T S i n E i0), .bl (allD2 T S i n E i0), .it .i64 (allD3 T S i n E i0), .it .i64 (allD4 T S i n E i0), .it .i64 (allD5 T S i n E i0), .it .i64 (allD6 T S i n E i0), .it .i64 (allD7 T S i n E i0), .it .i64 (allD8 T S i n E i0), .it .i64 (allD9 T S i n E i0)]]
theorem allDE (T : Tab) (S : Tab) (i : Int) (n : Nat) (E : Tab) : evC Try.prog okT NPC (HH []) RO NOV 101 false (bodyOf Try.f14.body 0) (all1L.F [.arr 16 entSh fun j => enA (T j), .it .i64 i, .sl 1 [] 0 n true, tlbA S, .arr n entSh fun j => enA (E j)]) (all1L.M [.arr 16 entSh fun j => enA (T j), .it .i64 i, .sl 1 [] 0 n true, tlbA S, .arr n entSh fun j => enA (E j)]) (grabJ 0 (grabI 3 1 false all1L)) = some (allDG T S i n E, allDV T S i n E) := by kernel_rfl

/- allX -/
def allXG (T : Tab) (S : Tab) (i : Int) (n : Nat) (E : Tab) : Bool :=
  !iLt i 16 && true
def allXV (T : Tab) (S : Tab) (i : Int) (n : Nat) (E : Tab) : AV := .tup [.it .i64 2, .arr 16 (.agg [.bool, .bool, (.int .i64), (.int .i64), (.int .i64), (.int .i64), (.int .i64), (.int .i64), (.int .i64)]) fun i0 => .agg [.bl ((T i0).ok), .bl ((T i0).v), .it .i64 ((T i0).page), .it .i64 ((T i0).asid), .it .i64 ((T i0).vmid), .it .i64 ((T i0).frame), .it .i64 ((T i0).bits), .it .i64 ((T i0).host), .it .i64 ((T i0).guest)], .it .i64 i, .sl 1 [] (0) (n) true, .agg [.arr 16 (.agg [.bool, .bool, (.int .i64), (.int .i64), (.int .i64), (.int .i64), (.int .i64), (.int .i64), (.int .i64)]) fun i0 => .agg [.bl ((S i0).ok), .bl ((S i0).v), .it .i64 ((S i0).page), .it .i64 ((S i0).asid), .it .i64 ((S i0).vmid), .it .i64 ((S i0).frame), .it .i64 ((S i0).bits), .it .i64 ((S i0).host), .it .i64 ((S i0).guest)]], .arr (n) (.agg [.bool, .bool, (.int .i64), (.int .i64), (.int .i64), (.int .i64), (.int .i64), (.int .i64), (.int .i64)]) fun i0 => .agg [.bl ((E i0).ok), .bl ((E i0).v), .it .i64 ((E i0).page), .it .i64 ((E i0).asid), .it .i64 ((E i0).vmid), .it .i64 ((E i0).frame), .it .i64 ((E i0).bits), .it .i64 ((E i0).host), .it .i64 ((E i0).guest)]]
theorem allXE (T : Tab) (S : Tab) (i : Int) (n : Nat) (E : Tab) : evC Try.prog okT NPC (HH []) RO NOV 101 false (bodyOf Try.f14.body 0) (all1L.F [.arr 16 entSh fun j => enA (T j), .it .i64 i, .sl 1 [] 0 n true, tlbA S, .arr n entSh fun j => enA (E j)]) (all1L.M [.arr 16 entSh fun j => enA (T j), .it .i64 i, .sl 1 [] 0 n true, tlbA S, .arr n entSh fun j => enA (E j)]) (grabJ 2 (grabI 3 1 true all1L)) = some (allXG T S i n E, allXV T S i n E) := by kernel_rfl

/- rallA -/
def rallA0 (T : Tab) (i : Int) : Int :=
  bif iLt i 16 then 0 else 2
def rallA1 (T : Tab) (i : Int) : Int :=
  bif iLt i 16 then iAdd IntKind.i64 i 1 else i
def rallA2r (T : Tab) (i : Int) : Nat → Bool :=
  fun i0 => bif iLt i 16 then (T i0).ok else (T i0).ok
def rallA3r (T : Tab) (i : Int) : Nat → Bool :=
  fun i0 => bif iLt i 16 then (T i0).v else (T i0).v
def rallA4r (T : Tab) (i : Int) : Nat → Int :=
  fun i0 => bif iLt i 16 then (T i0).page else (T i0).page
def rallA5r (T : Tab) (i : Int) : Nat → Int :=
  fun i0 => bif iLt i 16 then (T i0).asid else (T i0).asid
def rallA6r (T : Tab) (i : Int) : Nat → Int :=
  fun i0 => bif iLt i 16 then (T i0).vmid else (T i0).vmid
def rallA7r (T : Tab) (i : Int) : Nat → Int :=
  fun i0 => bif iLt i 16 then (T i0).frame else (T i0).frame
def rallA8r (T : Tab) (i : Int) : Nat → Int :=
  fun i0 => bif iLt i 16 then (T i0).bits else (T i0).bits
def rallA9r (T : Tab) (i : Int) : Nat → Int :=
  fun i0 => bif iLt i 16 then (T i0).host else (T i0).host
def rallA10r (T : Tab) (i : Int) : Nat → Int :=
  fun i0 => bif iLt i 16 then (T i0).guest else (T i0).guest
def rallAG (T : Tab) (i : Int) : Bool :=
  bif iLt i 16 then iIn i 16 && (!(T i.toNat).ok && true) else true
def rallAV (T : Tab) (i : Int) : AV := .tup [.it .i64 (rallA0 T i), .pt 0 [] (.agg [(.arr 16 (.agg [.bool, .bool, (.int .i64), (.int .i64), (.int .i64), (.int .i64), (.int .i64), (.int .i64), (.int .i64)]))]), .nsl, .it .i64 (rallA1 T i), .agg [.arr 16 (.agg [.bool, .bool, (.int .i64), (.int .i64), (.int .i64), (.int .i64), (.int .i64), (.int .i64), (.int .i64)]) fun i0 => .agg [.bl ((T i0).ok), .bl ((T i0).v), .it .i64 ((T i0).page), .it .i64 ((T i0).asid), .it .i64 ((T i0).vmid), .it .i64 ((T i0).frame), .it .i64 ((T i0).bits), .it .i64 ((T i0).host), .it .i64 ((T i0).guest)]]]
def rallAVr (T : Tab) (i : Int) : AV := .tup [.it .i64 (rallA0 T i), .pt 0 [] (.agg [(.arr 16 (.agg [.bool, .bool, (.int .i64), (.int .i64), (.int .i64), (.int .i64), (.int .i64), (.int .i64), (.int .i64)]))]), .nsl, .it .i64 (rallA1 T i), .agg [.arr 16 (.agg [.bool, .bool, (.int .i64), (.int .i64), (.int .i64), (.int .i64), (.int .i64), (.int .i64), (.int .i64)]) fun i0 => .agg [.bl (rallA2r T i i0), .bl (rallA3r T i i0), .it .i64 (rallA4r T i i0), .it .i64 (rallA5r T i i0), .it .i64 (rallA6r T i i0), .it .i64 (rallA7r T i i0), .it .i64 (rallA8r T i i0), .it .i64 (rallA9r T i i0), .it .i64 (rallA10r T i i0)]]]
theorem rallAV_eq (T : Tab) (i : Int) : rallAVr T i = rallAV T i := by
  unfold rallAVr rallAV rallA2r rallA3r rallA4r rallA5r rallA6r rallA7r rallA8r rallA9r rallA10r
  first | (simp only [Go.Ev.cS1, Go.Ev.cS2, Go.Ev.cS3, Go.Ev.cS4, Go.Ev.cS6, Go.Ev.cS7]; done) | (simp only [Go.Ev.cS1, Go.Ev.cS2, Go.Ev.cS3, Go.Ev.cS4, Go.Ev.cS6, Go.Ev.cS7]; kernel_rfl)
theorem rallAE (T : Tab) (i : Int) : evC Try.prog okT NPC (HH []) RO NOV 101 false (bodyOf Try.f20.body 0) (rall0L.F [.pt 0 [] tlbSh, .nsl, .it .i64 i, tlbA T]) (rall0L.M [.pt 0 [] tlbSh, .nsl, .it .i64 i, tlbA T]) (grabN 3 rall0L) = some (rallAG T i, rallAV T i) :=
  (by kernel_rfl : evC Try.prog okT NPC (HH []) RO NOV 101 false (bodyOf Try.f20.body 0) (rall0L.F [.pt 0 [] tlbSh, .nsl, .it .i64 i, tlbA T]) (rall0L.M [.pt 0 [] tlbSh, .nsl, .it .i64 i, tlbA T]) (grabN 3 rall0L) = some (rallAG T i, rallAVr T i)).trans (by rw [rallAV_eq])

/- rallB -/
def rallB0 (T : Tab) (i : Int) : Int :=
  iAdd IntKind.i64 i 1
def rallB1 (T : Tab) (i : Int) : Nat → Bool :=
  fun i0 => bif i0 + 0 == 0 then (T i.toNat).ok else false
def rallB2 (T : Tab) (i : Int) : Nat → Bool :=
  fun i0 => bif i0 + 0 == 0 then (T i.toNat).v else false
def rallB3 (T : Tab) (i : Int) : Nat → Int :=
  fun i0 => bif i0 + 0 == 0 then (T i.toNat).page else 0
def rallB4 (T : Tab) (i : Int) : Nat → Int :=
  fun i0 => bif i0 + 0 == 0 then (T i.toNat).asid else 0
def rallB5 (T : Tab) (i : Int) : Nat → Int :=
  fun i0 => bif i0 + 0 == 0 then (T i.toNat).vmid else 0
def rallB6 (T : Tab) (i : Int) : Nat → Int :=
  fun i0 => bif i0 + 0 == 0 then (T i.toNat).frame else 0
def rallB7 (T : Tab) (i : Int) : Nat → Int :=
  fun i0 => bif i0 + 0 == 0 then (T i.toNat).bits else 0
def rallB8 (T : Tab) (i : Int) : Nat → Int :=
  fun i0 => bif i0 + 0 == 0 then (T i.toNat).host else 0
def rallB9 (T : Tab) (i : Int) : Nat → Int :=
  fun i0 => bif i0 + 0 == 0 then (T i.toNat).guest else 0
def rallBG (T : Tab) (i : Int) : Bool :=
  iLt i 16 && (iIn i 16 && ((T i.toNat).ok && (iIn i 16 && true)))
def rallBV (T : Tab) (i : Int) : AV := .tup [.it .i64 0, .pt 0 [] (.agg [(.arr 16 (.agg [.bool, .bool, (.int .i64), (.int .i64), (.int .i64), (.int .i64), (.int .i64), (.int .i64), (.int .i64)]))]), .it .i64 (rallB0 T i), .sl 1 [] (0) (1) true, .agg [.arr 16 (.agg [.bool, .bool, (.int .i64), (.int .i64), (.int .i64), (.int .i64), (.int .i64), (.int .i64), (.int .i64)]) fun i0 => .agg [.bl ((T i0).ok), .bl ((T i0).v), .it .i64 ((T i0).page), .it .i64 ((T i0).asid), .it .i64 ((T i0).vmid), .it .i64 ((T i0).frame), .it .i64 ((T i0).bits), .it .i64 ((T i0).host), .it .i64 ((T i0).guest)]], .arr 1 (.agg [.bool, .bool, (.int .i64), (.int .i64), (.int .i64), (.int .i64), (.int .i64), (.int .i64), (.int .i64)]) fun i0 => .agg [.bl (rallB1 T i i0), .bl (rallB2 T i i0), .it .i64 (rallB3 T i i0), .it .i64 (rallB4 T i i0), .it .i64 (rallB5 T i i0), .it .i64 (rallB6 T i i0), .it .i64 (rallB7 T i i0), .it .i64 (rallB8 T i i0), .it .i64 (rallB9 T i i0)]]
theorem rallBE (T : Tab) (i : Int) : evC Try.prog okT NPC (HH []) RO NOV 101 false (bodyOf Try.f20.body 0) (rall0L.F [.pt 0 [] tlbSh, .nsl, .it .i64 i, tlbA T]) (rall0L.M [.pt 0 [] tlbSh, .nsl, .it .i64 i, tlbA T]) (grabQ rall1L) = some (rallBG T i, rallBV T i) := by kernel_rfl

/- rallC -/
def rallC0 (T : Tab) (i : Int) (n : Nat) (E : Tab) : Int :=
  iAdd IntKind.i64 i 1
def rallCG (T : Tab) (i : Int) (n : Nat) (E : Tab) : Bool :=
  iLt i 16 && (iIn i 16 && (!(T i.toNat).ok && true))
def rallCV (T : Tab) (i : Int) (n : Nat) (E : Tab) : AV := .tup [.it .i64 0, .pt 0 [] (.agg [(.arr 16 (.agg [.bool, .bool, (.int .i64), (.int .i64), (.int .i64), (.int .i64), (.int .i64), (.int .i64), (.int .i64)]))]), .it .i64 (rallC0 T i n E), .sl 1 [] (0) (n) true, .agg [.arr 16 (.agg [.bool, .bool, (.int .i64), (.int .i64), (.int .i64), (.int .i64), (.int .i64), (.int .i64), (.int .i64)]) fun i0 => .agg [.bl ((T i0).ok), .bl ((T i0).v), .it .i64 ((T i0).page), .it .i64 ((T i0).asid), .it .i64 ((T i0).vmid), .it .i64 ((T i0).frame), .it .i64 ((T i0).bits), .it .i64 ((T i0).host), .it .i64 ((T i0).guest)]], .arr (n) (.agg [.bool, .bool, (.int .i64), (.int .i64), (.int .i64), (.int .i64), (.int .i64), (.int .i64), (.int .i64)]) fun i0 => .agg [.bl ((E i0).ok), .bl ((E i0).v), .it .i64 ((E i0).page), .it .i64 ((E i0).asid), .it .i64 ((E i0).vmid), .it .i64 ((E i0).frame), .it .i64 ((E i0).bits), .it .i64 ((E i0).host), .it .i64 ((E i0).guest)]]
theorem rallCE (T : Tab) (i : Int) (n : Nat) (E : Tab) : evC Try.prog okT NPC (HH []) RO NOV 101 false (bodyOf Try.f20.body 0) (rall1L.F [.pt 0 [] tlbSh, .it .i64 i, .sl 1 [] 0 n true, tlbA T, .arr n entSh fun j => enA (E j)]) (rall1L.M [.pt 0 [] tlbSh, .it .i64 i, .sl 1 [] 0 n true, tlbA T, .arr n entSh fun j => enA (E j)]) (grabJ 0 (grabI 3 1 true rall1L)) = some (rallCG T i n E, rallCV T i n E) := by kernel_rfl

/- rallD -/
def rallD0 (T : Tab) (i : Int) (n : Nat) (E : Tab) : Int :=
  iAdd IntKind.i64 i 1
def rallD1 (T : Tab) (i : Int) (n : Nat) (E : Tab) : Nat → Bool :=
  fun i0 => bif decide (i0 < n) then (E (i0 + 0)).ok else bif i0 - n + 0 == 0 then (T i.toNat).ok else false
def rallD2 (T : Tab) (i : Int) (n : Nat) (E : Tab) : Nat → Bool :=
  fun i0 => bif decide (i0 < n) then (E (i0 + 0)).v else bif i0 - n + 0 == 0 then (T i.toNat).v else false
def rallD3 (T : Tab) (i : Int) (n : Nat) (E : Tab) : Nat → Int :=
  fun i0 => bif decide (i0 < n) then (E (i0 + 0)).page else bif i0 - n + 0 == 0 then (T i.toNat).page else 0
def rallD4 (T : Tab) (i : Int) (n : Nat) (E : Tab) : Nat → Int :=
  fun i0 => bif decide (i0 < n) then (E (i0 + 0)).asid else bif i0 - n + 0 == 0 then (T i.toNat).asid else 0
def rallD5 (T : Tab) (i : Int) (n : Nat) (E : Tab) : Nat → Int :=
  fun i0 => bif decide (i0 < n) then (E (i0 + 0)).vmid else bif i0 - n + 0 == 0 then (T i.toNat).vmid else 0
def rallD6 (T : Tab) (i : Int) (n : Nat) (E : Tab) : Nat → Int :=
  fun i0 => bif decide (i0 < n) then (E (i0 + 0)).frame else bif i0 - n + 0 == 0 then (T i.toNat).frame else 0
def rallD7 (T : Tab) (i : Int) (n : Nat) (E : Tab) : Nat → Int :=
  fun i0 => bif decide (i0 < n) then (E (i0 + 0)).bits else bif i0 - n + 0 == 0 then (T i.toNat).bits else 0
def rallD8 (T : Tab) (i : Int) (n : Nat) (E : Tab) : Nat → Int :=
  fun i0 => bif decide (i0 < n) then (E (i0 + 0)).host else bif i0 - n + 0 == 0 then (T i.toNat).host else 0
def rallD9 (T : Tab) (i : Int) (n : Nat) (E : Tab) : Nat → Int :=
  fun i0 => bif decide (i0 < n) then (E (i0 + 0)).guest else bif i0 - n + 0 == 0 then (T i.toNat).guest else 0
def rallDG (T : Tab) (i : Int) (n : Nat) (E : Tab) : Bool :=
  iLt i 16 && (iIn i 16 && ((T i.toNat).ok && (iIn i 16 && ((n + 1).ble 4294967296 && true))))
def rallDV (T : Tab) (i : Int) (n : Nat) (E : Tab) : AV := .tup [.it .i64 0, .pt 0 [] (.agg [(.arr 16 (.agg [.bool, .bool, (.int .i64), (.int .i64), (.int .i64), (.int .i64), (.int .i64), (.int .i64), (.int .i64)]))]), .it .i64 (rallD0 T i n E), .sl 1 [] (0) (n + 1) true, .agg [.arr 16 (.agg [.bool, .bool, (.int .i64), (.int .i64), (.int .i64), (.int .i64), (.int .i64), (.int .i64), (.int .i64)]) fun i0 => .agg [.bl ((T i0).ok), .bl ((T i0).v), .it .i64 ((T i0).page), .it .i64 ((T i0).asid), .it .i64 ((T i0).vmid), .it .i64 ((T i0).frame), .it .i64 ((T i0).bits), .it .i64 ((T i0).host), .it .i64 ((T i0).guest)]], .arr (n + 1) (.agg [.bool, .bool, (.int .i64), (.int .i64), (.int .i64), (.int .i64), (.int .i64), (.int .i64), (.int .i64)]) fun i0 => .agg [.bl (rallD1 T i n E i0), .bl (rallD2 T i n E i0), .it .i64 (rallD3 T i n E i0), .it .i64 (rallD4 T i n E i0), .it .i64 (rallD5 T i n E i0), .it .i64 (rallD6 T i n E i0), .it .i64 (rallD7 T i n E i0), .it .i64 (rallD8 T i n E i0), .it .i64 (rallD9 T i n E i0)]]
theorem rallDE (T : Tab) (i : Int) (n : Nat) (E : Tab) : evC Try.prog okT NPC (HH []) RO NOV 101 false (bodyOf Try.f20.body 0) (rall1L.F [.pt 0 [] tlbSh, .it .i64 i, .sl 1 [] 0 n true, tlbA T, .arr n entSh fun j => enA (E j)]) (rall1L.M [.pt 0 [] tlbSh, .it .i64 i, .sl 1 [] 0 n true, tlbA T, .arr n entSh fun j => enA (E j)]) (grabJ 0 (grabI 3 1 false rall1L)) = some (rallDG T i n E, rallDV T i n E) := by kernel_rfl

/- rallX -/
def rallXG (T : Tab) (i : Int) (n : Nat) (E : Tab) : Bool :=
  !iLt i 16 && true
def rallXV (T : Tab) (i : Int) (n : Nat) (E : Tab) : AV := .tup [.it .i64 2, .pt 0 [] (.agg [(.arr 16 (.agg [.bool, .bool, (.int .i64), (.int .i64), (.int .i64), (.int .i64), (.int .i64), (.int .i64), (.int .i64)]))]), .it .i64 i, .sl 1 [] (0) (n) true, .agg [.arr 16 (.agg [.bool, .bool, (.int .i64), (.int .i64), (.int .i64), (.int .i64), (.int .i64), (.int .i64), (.int .i64)]) fun i0 => .agg [.bl ((T i0).ok), .bl ((T i0).v), .it .i64 ((T i0).page), .it .i64 ((T i0).asid), .it .i64 ((T i0).vmid), .it .i64 ((T i0).frame), .it .i64 ((T i0).bits), .it .i64 ((T i0).host), .it .i64 ((T i0).guest)]], .arr (n) (.agg [.bool, .bool, (.int .i64), (.int .i64), (.int .i64), (.int .i64), (.int .i64), (.int .i64), (.int .i64)]) fun i0 => .agg [.bl ((E i0).ok), .bl ((E i0).v), .it .i64 ((E i0).page), .it .i64 ((E i0).asid), .it .i64 ((E i0).vmid), .it .i64 ((E i0).frame), .it .i64 ((E i0).bits), .it .i64 ((E i0).host), .it .i64 ((E i0).guest)]]
theorem rallXE (T : Tab) (i : Int) (n : Nat) (E : Tab) : evC Try.prog okT NPC (HH []) RO NOV 101 false (bodyOf Try.f20.body 0) (rall1L.F [.pt 0 [] tlbSh, .it .i64 i, .sl 1 [] 0 n true, tlbA T, .arr n entSh fun j => enA (E j)]) (rall1L.M [.pt 0 [] tlbSh, .it .i64 i, .sl 1 [] 0 n true, tlbA T, .arr n entSh fun j => enA (E j)]) (grabJ 2 (grabI 3 1 true rall1L)) = some (rallXG T i n E, rallXV T i n E) := by kernel_rfl

end
end Go.Proofs.Ytcmknfnnapnecaa.PV
