/-
  What Fill, Look, Drop leave, evaluated. Printed by a program of the prover's own (wip/prt).
-/
import Derived.Test.YtcmknfnnapnecaaRows
import Derived.Test.YtcmknfnnapnecaaEvW
import Derived.Test.YtcmknfnnapnecaaUd
set_option linter.unusedVariables false
set_option linter.unusedSimpArgs false
namespace Go.Proofs.Ytcmknfnnapnecaa.PV
noncomputable section
open Go Go.Ev
/- fillV -/
def fillV0r (T : Tab) (e : En) (pick : Int) : Int :=
  bif !e.ok then 0 else bif iLt (fillE1 T (findF T e.page e.v e.asid e.vmid)) 0 then 0 else 0
def fillV1 (T : Tab) (e : En) (pick : Int) : Nat → Bool :=
  fun i0 => bif !e.ok then (T i0).ok
  else
    bif iLt (fillE1 T (findF T e.page e.v e.asid e.vmid)) 0 then bif i0 == (iRem (iAdd IntKind.i64 (iRem pick 16) 16) 16).toNat then e.ok else (T i0).ok
    else bif i0 == (fillE1 T (findF T e.page e.v e.asid e.vmid)).toNat then e.ok else (T i0).ok
def fillV2 (T : Tab) (e : En) (pick : Int) : Nat → Bool :=
  fun i0 => bif !e.ok then (T i0).v
  else
    bif iLt (fillE1 T (findF T e.page e.v e.asid e.vmid)) 0 then bif i0 == (iRem (iAdd IntKind.i64 (iRem pick 16) 16) 16).toNat then e.v else (T i0).v
    else bif i0 == (fillE1 T (findF T e.page e.v e.asid e.vmid)).toNat then e.v else (T i0).v
def fillV3 (T : Tab) (e : En) (pick : Int) : Nat → Int :=
  fun i0 => bif !e.ok then (T i0).page
  else
    bif iLt (fillE1 T (findF T e.page e.v e.asid e.vmid)) 0 then bif i0 == (iRem (iAdd IntKind.i64 (iRem pick 16) 16) 16).toNat then e.page else (T i0).page
    else bif i0 == (fillE1 T (findF T e.page e.v e.asid e.vmid)).toNat then e.page else (T i0).page
def fillV4 (T : Tab) (e : En) (pick : Int) : Nat → Int :=
  fun i0 => bif !e.ok then (T i0).asid
  else
    bif iLt (fillE1 T (findF T e.page e.v e.asid e.vmid)) 0 then bif i0 == (iRem (iAdd IntKind.i64 (iRem pick 16) 16) 16).toNat then e.asid else (T i0).asid
    else bif i0 == (fillE1 T (findF T e.page e.v e.asid e.vmid)).toNat then e.asid else (T i0).asid
def fillV5 (T : Tab) (e : En) (pick : Int) : Nat → Int :=
  fun i0 => bif !e.ok then (T i0).vmid
  else
    bif iLt (fillE1 T (findF T e.page e.v e.asid e.vmid)) 0 then bif i0 == (iRem (iAdd IntKind.i64 (iRem pick 16) 16) 16).toNat then e.vmid else (T i0).vmid
    else bif i0 == (fillE1 T (findF T e.page e.v e.asid e.vmid)).toNat then e.vmid else (T i0).vmid
def fillV6 (T : Tab) (e : En) (pick : Int) : Nat → Int :=
  fun i0 => bif !e.ok then (T i0).frame
  else
    bif iLt (fillE1 T (findF T e.page e.v e.asid e.vmid)) 0 then bif i0 == (iRem (iAdd IntKind.i64 (iRem pick 16) 16) 16).toNat then e.frame else (T i0).frame
    else bif i0 == (fillE1 T (findF T e.page e.v e.asid e.vmid)).toNat then e.frame else (T i0).frame
def fillV7 (T : Tab) (e : En) (pick : Int) : Nat → Int :=
  fun i0 => bif !e.ok then (T i0).bits
  else
    bif iLt (fillE1 T (findF T e.page e.v e.asid e.vmid)) 0 then bif i0 == (iRem (iAdd IntKind.i64 (iRem pick 16) 16) 16).toNat then e.bits else (T i0).bits
    else bif i0 == (fillE1 T (findF T e.page e.v e.asid e.vmid)).toNat then e.bits else (T i0).bits
def fillV8 (T : Tab) (e : En) (pick : Int) : Nat → Int :=
  fun i0 => bif !e.ok then (T i0).host
  else
    bif iLt (fillE1 T (findF T e.page e.v e.asid e.vmid)) 0 then bif i0 == (iRem (iAdd IntKind.i64 (iRem pick 16) 16) 16).toNat then e.host else (T i0).host
    else bif i0 == (fillE1 T (findF T e.page e.v e.asid e.vmid)).toNat then e.host else (T i0).host
def fillV9 (T : Tab) (e : En) (pick : Int) : Nat → Int :=
  fun i0 => bif !e.ok then (T i0).guest
  else
    bif iLt (fillE1 T (findF T e.page e.v e.asid e.vmid)) 0 then bif i0 == (iRem (iAdd IntKind.i64 (iRem pick 16) 16) 16).toNat then e.guest else (T i0).guest
    else bif i0 == (fillE1 T (findF T e.page e.v e.asid e.vmid)).toNat then e.guest else (T i0).guest
def fillVG (T : Tab) (e : En) (pick : Int) : Bool :=
  bif !e.ok then true
  else
    iLe (-1) (findF T e.page e.v e.asid e.vmid) && iLt (findF T e.page e.v e.asid e.vmid) 16 && iEq 0 0 &&
      bif iLt (fillE1 T (findF T e.page e.v e.asid e.vmid)) 0 then iIn (iRem (iAdd IntKind.i64 (iRem pick 16) 16) 16) 16 && true else iIn (fillE1 T (findF T e.page e.v e.asid e.vmid)) 16 && true
def fillVV (T : Tab) (e : En) (pick : Int) : AV := .tup [.it .i64 0, .tup [], .agg [.arr 16 (.agg [.bool, .bool, (.int .i64), (.int .i64), (.int .i64), (.int .i64), (.int .i64), (.int .i64), (.int .i64)]) fun i0 => .agg [.bl (fillV1 T e pick i0), .bl (fillV2 T e pick i0), .it .i64 (fillV3 T e pick i0), .it .i64 (fillV4 T e pick i0), .it .i64 (fillV5 T e pick i0), .it .i64 (fillV6 T e pick i0), .it .i64 (fillV7 T e pick i0), .it .i64 (fillV8 T e pick i0), .it .i64 (fillV9 T e pick i0)]]]
def fillVVr (T : Tab) (e : En) (pick : Int) : AV := .tup [.it .i64 (fillV0r T e pick), .tup [], .agg [.arr 16 (.agg [.bool, .bool, (.int .i64), (.int .i64), (.int .i64), (.int .i64), (.int .i64), (.int .i64), (.int .i64)]) fun i0 => .agg [.bl (fillV1 T e pick i0), .bl (fillV2 T e pick i0), .it .i64 (fillV3 T e pick i0), .it .i64 (fillV4 T e pick i0), .it .i64 (fillV5 T e pick i0), .it .i64 (fillV6 T e pick i0), .it .i64 (fillV7 T e pick i0), .it .i64 (fillV8 T e pick i0), .it .i64 (fillV9 T e pick i0)]]]
theorem fillVV_eq (T : Tab) (e : En) (pick : Int) : fillVVr T e pick = fillVV T e pick := by
  unfold fillVVr fillVV fillV0r
  first | (simp only [Go.Ev.cS1, Go.Ev.cS2, Go.Ev.cS3, Go.Ev.cS4, Go.Ev.cS6, Go.Ev.cS7]; done) | (simp only [Go.Ev.cS1, Go.Ev.cS2, Go.Ev.cS3, Go.Ev.cS4, Go.Ev.cS6, Go.Ev.cS7]; kernel_rfl)
theorem fillVE (T : Tab) (e : En) (pick : Int) : evFn Try.prog okT NPC (HH MT1) RO fillOv 101 false Try.f12 [.pt 0 [] tlbSh, enA e, .it .i64 pick] (mem1 (tlbA T)) (finQ L1) = some (fillVG T e pick, fillVV T e pick) :=
  (by kernel_rfl : evFn Try.prog okT NPC (HH MT1) RO fillOv 101 false Try.f12 [.pt 0 [] tlbSh, enA e, .it .i64 pick] (mem1 (tlbA T)) (finQ L1) = some (fillVG T e pick, fillVVr T e pick)).trans (by rw [fillVV_eq])

/- rfillV -/
def rfillV0r (T : Tab) (e : En) (pick : Int) : Int :=
  bif !e.ok then 0 else bif iLt (rfillE1 T (findF T e.page e.v e.asid e.vmid)) 0 then 0 else 0
def rfillV1 (T : Tab) (e : En) (pick : Int) : Nat → Bool :=
  fun i0 => bif !e.ok then (T i0).ok
  else
    bif iLt (rfillE1 T (findF T e.page e.v e.asid e.vmid)) 0 then bif i0 == (iAnd IntKind.i64 pick 15).toNat then e.ok else (T i0).ok
    else bif i0 == (rfillE1 T (findF T e.page e.v e.asid e.vmid)).toNat then e.ok else (T i0).ok
def rfillV2 (T : Tab) (e : En) (pick : Int) : Nat → Bool :=
  fun i0 => bif !e.ok then (T i0).v
  else
    bif iLt (rfillE1 T (findF T e.page e.v e.asid e.vmid)) 0 then bif i0 == (iAnd IntKind.i64 pick 15).toNat then e.v else (T i0).v
    else bif i0 == (rfillE1 T (findF T e.page e.v e.asid e.vmid)).toNat then e.v else (T i0).v
def rfillV3 (T : Tab) (e : En) (pick : Int) : Nat → Int :=
  fun i0 => bif !e.ok then (T i0).page
  else
    bif iLt (rfillE1 T (findF T e.page e.v e.asid e.vmid)) 0 then bif i0 == (iAnd IntKind.i64 pick 15).toNat then e.page else (T i0).page
    else bif i0 == (rfillE1 T (findF T e.page e.v e.asid e.vmid)).toNat then e.page else (T i0).page
def rfillV4 (T : Tab) (e : En) (pick : Int) : Nat → Int :=
  fun i0 => bif !e.ok then (T i0).asid
  else
    bif iLt (rfillE1 T (findF T e.page e.v e.asid e.vmid)) 0 then bif i0 == (iAnd IntKind.i64 pick 15).toNat then e.asid else (T i0).asid
    else bif i0 == (rfillE1 T (findF T e.page e.v e.asid e.vmid)).toNat then e.asid else (T i0).asid
def rfillV5 (T : Tab) (e : En) (pick : Int) : Nat → Int :=
  fun i0 => bif !e.ok then (T i0).vmid
  else
    bif iLt (rfillE1 T (findF T e.page e.v e.asid e.vmid)) 0 then bif i0 == (iAnd IntKind.i64 pick 15).toNat then e.vmid else (T i0).vmid
    else bif i0 == (rfillE1 T (findF T e.page e.v e.asid e.vmid)).toNat then e.vmid else (T i0).vmid
def rfillV6 (T : Tab) (e : En) (pick : Int) : Nat → Int :=
  fun i0 => bif !e.ok then (T i0).frame
  else
    bif iLt (rfillE1 T (findF T e.page e.v e.asid e.vmid)) 0 then bif i0 == (iAnd IntKind.i64 pick 15).toNat then e.frame else (T i0).frame
    else bif i0 == (rfillE1 T (findF T e.page e.v e.asid e.vmid)).toNat then e.frame else (T i0).frame
def rfillV7 (T : Tab) (e : En) (pick : Int) : Nat → Int :=
  fun i0 => bif !e.ok then (T i0).bits
  else
    bif iLt (rfillE1 T (findF T e.page e.v e.asid e.vmid)) 0 then bif i0 == (iAnd IntKind.i64 pick 15).toNat then e.bits else (T i0).bits
    else bif i0 == (rfillE1 T (findF T e.page e.v e.asid e.vmid)).toNat then e.bits else (T i0).bits
def rfillV8 (T : Tab) (e : En) (pick : Int) : Nat → Int :=
  fun i0 => bif !e.ok then (T i0).host
  else
    bif iLt (rfillE1 T (findF T e.page e.v e.asid e.vmid)) 0 then bif i0 == (iAnd IntKind.i64 pick 15).toNat then e.host else (T i0).host
    else bif i0 == (rfillE1 T (findF T e.page e.v e.asid e.vmid)).toNat then e.host else (T i0).host
def rfillV9 (T : Tab) (e : En) (pick : Int) : Nat → Int :=
  fun i0 => bif !e.ok then (T i0).guest
  else
    bif iLt (rfillE1 T (findF T e.page e.v e.asid e.vmid)) 0 then bif i0 == (iAnd IntKind.i64 pick 15).toNat then e.guest else (T i0).guest
    else bif i0 == (rfillE1 T (findF T e.page e.v e.asid e.vmid)).toNat then e.guest else (T i0).guest
def rfillVG (T : Tab) (e : En) (pick : Int) : Bool :=
  bif !e.ok then true
  else
    iLe (-1) (findF T e.page e.v e.asid e.vmid) && iLt (findF T e.page e.v e.asid e.vmid) 16 && iEq 0 0 &&
      bif iLt (rfillE1 T (findF T e.page e.v e.asid e.vmid)) 0 then iIn (iAnd IntKind.i64 pick 15) 16 && true else iIn (rfillE1 T (findF T e.page e.v e.asid e.vmid)) 16 && true
def rfillVV (T : Tab) (e : En) (pick : Int) : AV := .tup [.it .i64 0, .tup [], .agg [.arr 16 (.agg [.bool, .bool, (.int .i64), (.int .i64), (.int .i64), (.int .i64), (.int .i64), (.int .i64), (.int .i64)]) fun i0 => .agg [.bl (rfillV1 T e pick i0), .bl (rfillV2 T e pick i0), .it .i64 (rfillV3 T e pick i0), .it .i64 (rfillV4 T e pick i0), .it .i64 (rfillV5 T e pick i0), .it .i64 (rfillV6 T e pick i0), .it .i64 (rfillV7 T e pick i0), .it .i64 (rfillV8 T e pick i0), .it .i64 (rfillV9 T e pick i0)]]]
def rfillVVr (T : Tab) (e : En) (pick : Int) : AV := .tup [.it .i64 (rfillV0r T e pick), .tup [], .agg [.arr 16 (.agg [.bool, .bool, (.int .i64), (.int .i64), (.int .i64), (.int .i64), (.int .i64), (.int .i64), (.int .i64)]) fun i0 => .agg [.bl (rfillV1 T e pick i0), .bl (rfillV2 T e pick i0), .it .i64 (rfillV3 T e pick i0), .it .i64 (rfillV4 T e pick i0), .it .i64 (rfillV5 T e pick i0), .it .i64 (rfillV6 T e pick i0), .it .i64 (rfillV7 T e pick i0), .it .i64 (rfillV8 T e pick i0), .it .i64 (rfillV9 T e pick i0)]]]
theorem rfillVV_eq (T : Tab) (e : En) (pick : Int) : rfillVVr T e pick = rfillVV T e pick := by
  unfold rfillVVr rfillVV rfillV0r
  first | (simp only [Go.Ev.cS1, Go.Ev.cS2, Go.Ev.cS3, Go.Ev.cS4, Go.Ev.cS6, Go.Ev.cS7]; done) | (simp only [Go.Ev.cS1, Go.Ev.cS2, Go.Ev.cS3, Go.Ev.cS4, Go.Ev.cS6, Go.Ev.cS7]; kernel_rfl)
theorem rfillVE (T : Tab) (e : En) (pick : Int) : evFn Try.prog okT NPC (HH MT1) RO rfillOv 101 false Try.f18 [.pt 0 [] tlbSh, enA e, .it .i64 pick] (mem1 (tlbA T)) (finQ L1) = some (rfillVG T e pick, rfillVV T e pick) :=
  (by kernel_rfl : evFn Try.prog okT NPC (HH MT1) RO rfillOv 101 false Try.f18 [.pt 0 [] tlbSh, enA e, .it .i64 pick] (mem1 (tlbA T)) (finQ L1) = some (rfillVG T e pick, rfillVVr T e pick)).trans (by rw [rfillVV_eq])

/- lookV -/
def lookV0r (T : Tab) (page : Int) (v : Bool) (asid : Int) (vmid : Int) : Int :=
  bif iLt (findF T page v asid vmid) 0 then 0 else 0
def lookV1 (T : Tab) (page : Int) (v : Bool) (asid : Int) (vmid : Int) : Bool :=
  bif iLt (findF T page v asid vmid) 0 then false else (T (findF T page v asid vmid).toNat).ok
def lookV2 (T : Tab) (page : Int) (v : Bool) (asid : Int) (vmid : Int) : Bool :=
  bif iLt (findF T page v asid vmid) 0 then false else (T (findF T page v asid vmid).toNat).v
def lookV3 (T : Tab) (page : Int) (v : Bool) (asid : Int) (vmid : Int) : Int :=
  bif iLt (findF T page v asid vmid) 0 then 0 else (T (findF T page v asid vmid).toNat).page
def lookV4 (T : Tab) (page : Int) (v : Bool) (asid : Int) (vmid : Int) : Int :=
  bif iLt (findF T page v asid vmid) 0 then 0 else (T (findF T page v asid vmid).toNat).asid
def lookV5 (T : Tab) (page : Int) (v : Bool) (asid : Int) (vmid : Int) : Int :=
  bif iLt (findF T page v asid vmid) 0 then 0 else (T (findF T page v asid vmid).toNat).vmid
def lookV6 (T : Tab) (page : Int) (v : Bool) (asid : Int) (vmid : Int) : Int :=
  bif iLt (findF T page v asid vmid) 0 then 0 else (T (findF T page v asid vmid).toNat).frame
def lookV7 (T : Tab) (page : Int) (v : Bool) (asid : Int) (vmid : Int) : Int :=
  bif iLt (findF T page v asid vmid) 0 then 0 else (T (findF T page v asid vmid).toNat).bits
def lookV8 (T : Tab) (page : Int) (v : Bool) (asid : Int) (vmid : Int) : Int :=
  bif iLt (findF T page v asid vmid) 0 then 0 else (T (findF T page v asid vmid).toNat).host
def lookV9 (T : Tab) (page : Int) (v : Bool) (asid : Int) (vmid : Int) : Int :=
  bif iLt (findF T page v asid vmid) 0 then 0 else (T (findF T page v asid vmid).toNat).guest
def lookV10 (T : Tab) (page : Int) (v : Bool) (asid : Int) (vmid : Int) : Bool :=
  bif iLt (findF T page v asid vmid) 0 then false else true
def lookV11r (T : Tab) (page : Int) (v : Bool) (asid : Int) (vmid : Int) : Nat → Bool :=
  fun i0 => bif iLt (findF T page v asid vmid) 0 then (T i0).ok else (T i0).ok
def lookV12r (T : Tab) (page : Int) (v : Bool) (asid : Int) (vmid : Int) : Nat → Bool :=
  fun i0 => bif iLt (findF T page v asid vmid) 0 then (T i0).v else (T i0).v
def lookV13r (T : Tab) (page : Int) (v : Bool) (asid : Int) (vmid : Int) : Nat → Int :=
  fun i0 => bif iLt (findF T page v asid vmid) 0 then (T i0).page else (T i0).page
def lookV14r (T : Tab) (page : Int) (v : Bool) (asid : Int) (vmid : Int) : Nat → Int :=
  fun i0 => bif iLt (findF T page v asid vmid) 0 then (T i0).asid else (T i0).asid
def lookV15r (T : Tab) (page : Int) (v : Bool) (asid : Int) (vmid : Int) : Nat → Int :=
  fun i0 => bif iLt (findF T page v asid vmid) 0 then (T i0).vmid else (T i0).vmid
def lookV16r (T : Tab) (page : Int) (v : Bool) (asid : Int) (vmid : Int) : Nat → Int :=
  fun i0 => bif iLt (findF T page v asid vmid) 0 then (T i0).frame else (T i0).frame
def lookV17r (T : Tab) (page : Int) (v : Bool) (asid : Int) (vmid : Int) : Nat → Int :=
  fun i0 => bif iLt (findF T page v asid vmid) 0 then (T i0).bits else (T i0).bits
def lookV18r (T : Tab) (page : Int) (v : Bool) (asid : Int) (vmid : Int) : Nat → Int :=
  fun i0 => bif iLt (findF T page v asid vmid) 0 then (T i0).host else (T i0).host
def lookV19r (T : Tab) (page : Int) (v : Bool) (asid : Int) (vmid : Int) : Nat → Int :=
  fun i0 => bif iLt (findF T page v asid vmid) 0 then (T i0).guest else (T i0).guest
def lookVG (T : Tab) (page : Int) (v : Bool) (asid : Int) (vmid : Int) : Bool :=
  bif iLt (findF T page v asid vmid) 0 then true else iIn (findF T page v asid vmid) 16 && true
def lookVV (T : Tab) (page : Int) (v : Bool) (asid : Int) (vmid : Int) : AV := .tup [.it .i64 0, .tup [.agg [.bl (lookV1 T page v asid vmid), .bl (lookV2 T page v asid vmid), .it .i64 (lookV3 T page v asid vmid), .it .i64 (lookV4 T page v asid vmid), .it .i64 (lookV5 T page v asid vmid), .it .i64 (lookV6 T page v asid vmid), .it .i64 (lookV7 T page v asid vmid), .it .i64 (lookV8 T page v asid vmid), .it .i64 (lookV9 T page v asid vmid)], .bl (lookV10 T page v asid vmid)], .agg [.arr 16 (.agg [.bool, .bool, (.int .i64), (.int .i64), (.int .i64), (.int .i64), (.int .i64), (.int .i64), (.int .i64)]) fun i0 => .agg [.bl ((T i0).ok), .bl ((T i0).v), .it .i64 ((T i0).page), .it .i64 ((T i0).asid), .it .i64 ((T i0).vmid), .it .i64 ((T i0).frame), .it .i64 ((T i0).bits), .it .i64 ((T i0).host), .it .i64 ((T i0).guest)]]]
def lookVVr (T : Tab) (page : Int) (v : Bool) (asid : Int) (vmid : Int) : AV := .tup [.it .i64 (lookV0r T page v asid vmid), .tup [.agg [.bl (lookV1 T page v asid vmid), .bl (lookV2 T page v asid vmid), .it .i64 (lookV3 T page v asid vmid), .it .i64 (lookV4 T page v asid vmid), .it .i64 (lookV5 T page v asid vmid), .it .i64 (lookV6 T page v asid vmid), .it .i64 (lookV7 T page v asid vmid), .it .i64 (lookV8 T page v asid vmid), .it .i64 (lookV9 T page v asid vmid)], .bl (lookV10 T page v asid vmid)], .agg [.arr 16 (.agg [.bool, .bool, (.int .i64), (.int .i64), (.int .i64), (.int .i64), (.int .i64), (.int .i64), (.int .i64)]) fun i0 => .agg [.bl (lookV11r T page v asid vmid i0), .bl (lookV12r T page v asid vmid i0), .it .i64 (lookV13r T page v asid vmid i0), .it .i64 (lookV14r T page v asid vmid i0), .it .i64 (lookV15r T page v asid vmid i0), .it .i64 (lookV16r T page v asid vmid i0), .it .i64 (lookV17r T page v asid vmid i0), .it .i64 (lookV18r T page v asid vmid i0), .it .i64 (lookV19r T page v asid vmid i0)]]]
theorem lookVV_eq (T : Tab) (page : Int) (v : Bool) (asid : Int) (vmid : Int) : lookVVr T page v asid vmid = lookVV T page v asid vmid := by
  unfold lookVVr lookVV lookV0r lookV11r lookV12r lookV13r lookV14r lookV15r lookV16r lookV17r lookV18r lookV19r
  first | (simp only [Go.Ev.cS1, Go.Ev.cS2, Go.Ev.cS3, Go.Ev.cS4, Go.Ev.cS6, Go.Ev.cS7]; done) | (simp only [Go.Ev.cS1, Go.Ev.cS2, Go.Ev.cS3, Go.Ev.cS4, Go.Ev.cS6, Go.Ev.cS7]; kernel_rfl)
theorem lookVE (T : Tab) (page : Int) (v : Bool) (asid : Int) (vmid : Int) : evFn Try.prog okT NPC (HH MT1) RO NOV 101 false Try.f13 [.pt 0 [] tlbSh, .it .i64 page, .bl v, .it .i64 asid, .it .i64 vmid] (mem1 (tlbA T)) (finQ L1) = some (lookVG T page v asid vmid, lookVV T page v asid vmid) :=
  (by kernel_rfl : evFn Try.prog okT NPC (HH MT1) RO NOV 101 false Try.f13 [.pt 0 [] tlbSh, .it .i64 page, .bl v, .it .i64 asid, .it .i64 vmid] (mem1 (tlbA T)) (finQ L1) = some (lookVG T page v asid vmid, lookVVr T page v asid vmid)).trans (by rw [lookVV_eq])

/- rlookV -/
def rlookV0r (T : Tab) (page : Int) (v : Bool) (asid : Int) (vmid : Int) : Int :=
  bif iLt (findF T page v asid vmid) 0 then 0 else 0
def rlookV1 (T : Tab) (page : Int) (v : Bool) (asid : Int) (vmid : Int) : Bool :=
  bif iLt (findF T page v asid vmid) 0 then false else (T (findF T page v asid vmid).toNat).ok
def rlookV2 (T : Tab) (page : Int) (v : Bool) (asid : Int) (vmid : Int) : Bool :=
  bif iLt (findF T page v asid vmid) 0 then false else (T (findF T page v asid vmid).toNat).v
def rlookV3 (T : Tab) (page : Int) (v : Bool) (asid : Int) (vmid : Int) : Int :=
  bif iLt (findF T page v asid vmid) 0 then 0 else (T (findF T page v asid vmid).toNat).page
def rlookV4 (T : Tab) (page : Int) (v : Bool) (asid : Int) (vmid : Int) : Int :=
  bif iLt (findF T page v asid vmid) 0 then 0 else (T (findF T page v asid vmid).toNat).asid
def rlookV5 (T : Tab) (page : Int) (v : Bool) (asid : Int) (vmid : Int) : Int :=
  bif iLt (findF T page v asid vmid) 0 then 0 else (T (findF T page v asid vmid).toNat).vmid
def rlookV6 (T : Tab) (page : Int) (v : Bool) (asid : Int) (vmid : Int) : Int :=
  bif iLt (findF T page v asid vmid) 0 then 0 else (T (findF T page v asid vmid).toNat).frame
def rlookV7 (T : Tab) (page : Int) (v : Bool) (asid : Int) (vmid : Int) : Int :=
  bif iLt (findF T page v asid vmid) 0 then 0 else (T (findF T page v asid vmid).toNat).bits
def rlookV8 (T : Tab) (page : Int) (v : Bool) (asid : Int) (vmid : Int) : Int :=
  bif iLt (findF T page v asid vmid) 0 then 0 else (T (findF T page v asid vmid).toNat).host
def rlookV9 (T : Tab) (page : Int) (v : Bool) (asid : Int) (vmid : Int) : Int :=
  bif iLt (findF T page v asid vmid) 0 then 0 else (T (findF T page v asid vmid).toNat).guest
def rlookV10 (T : Tab) (page : Int) (v : Bool) (asid : Int) (vmid : Int) : Bool :=
  bif iLt (findF T page v asid vmid) 0 then false else true
def rlookV11r (T : Tab) (page : Int) (v : Bool) (asid : Int) (vmid : Int) : Nat → Bool :=
  fun i0 => bif iLt (findF T page v asid vmid) 0 then (T i0).ok else (T i0).ok
def rlookV12r (T : Tab) (page : Int) (v : Bool) (asid : Int) (vmid : Int) : Nat → Bool :=
  fun i0 => bif iLt (findF T page v asid vmid) 0 then (T i0).v else (T i0).v
def rlookV13r (T : Tab) (page : Int) (v : Bool) (asid : Int) (vmid : Int) : Nat → Int :=
  fun i0 => bif iLt (findF T page v asid vmid) 0 then (T i0).page else (T i0).page
def rlookV14r (T : Tab) (page : Int) (v : Bool) (asid : Int) (vmid : Int) : Nat → Int :=
  fun i0 => bif iLt (findF T page v asid vmid) 0 then (T i0).asid else (T i0).asid
def rlookV15r (T : Tab) (page : Int) (v : Bool) (asid : Int) (vmid : Int) : Nat → Int :=
  fun i0 => bif iLt (findF T page v asid vmid) 0 then (T i0).vmid else (T i0).vmid
def rlookV16r (T : Tab) (page : Int) (v : Bool) (asid : Int) (vmid : Int) : Nat → Int :=
  fun i0 => bif iLt (findF T page v asid vmid) 0 then (T i0).frame else (T i0).frame
def rlookV17r (T : Tab) (page : Int) (v : Bool) (asid : Int) (vmid : Int) : Nat → Int :=
  fun i0 => bif iLt (findF T page v asid vmid) 0 then (T i0).bits else (T i0).bits
def rlookV18r (T : Tab) (page : Int) (v : Bool) (asid : Int) (vmid : Int) : Nat → Int :=
  fun i0 => bif iLt (findF T page v asid vmid) 0 then (T i0).host else (T i0).host
def rlookV19r (T : Tab) (page : Int) (v : Bool) (asid : Int) (vmid : Int) : Nat → Int :=
  fun i0 => bif iLt (findF T page v asid vmid) 0 then (T i0).guest else (T i0).guest
def rlookVG (T : Tab) (page : Int) (v : Bool) (asid : Int) (vmid : Int) : Bool :=
  bif iLt (findF T page v asid vmid) 0 then true else iIn (findF T page v asid vmid) 16 && true
def rlookVV (T : Tab) (page : Int) (v : Bool) (asid : Int) (vmid : Int) : AV := .tup [.it .i64 0, .tup [.agg [.bl (rlookV1 T page v asid vmid), .bl (rlookV2 T page v asid vmid), .it .i64 (rlookV3 T page v asid vmid), .it .i64 (rlookV4 T page v asid vmid), .it .i64 (rlookV5 T page v asid vmid), .it .i64 (rlookV6 T page v asid vmid), .it .i64 (rlookV7 T page v asid vmid), .it .i64 (rlookV8 T page v asid vmid), .it .i64 (rlookV9 T page v asid vmid)], .bl (rlookV10 T page v asid vmid)], .agg [.arr 16 (.agg [.bool, .bool, (.int .i64), (.int .i64), (.int .i64), (.int .i64), (.int .i64), (.int .i64), (.int .i64)]) fun i0 => .agg [.bl ((T i0).ok), .bl ((T i0).v), .it .i64 ((T i0).page), .it .i64 ((T i0).asid), .it .i64 ((T i0).vmid), .it .i64 ((T i0).frame), .it .i64 ((T i0).bits), .it .i64 ((T i0).host), .it .i64 ((T i0).guest)]]]
def rlookVVr (T : Tab) (page : Int) (v : Bool) (asid : Int) (vmid : Int) : AV := .tup [.it .i64 (rlookV0r T page v asid vmid), .tup [.agg [.bl (rlookV1 T page v asid vmid), .bl (rlookV2 T page v asid vmid), .it .i64 (rlookV3 T page v asid vmid), .it .i64 (rlookV4 T page v asid vmid), .it .i64 (rlookV5 T page v asid vmid), .it .i64 (rlookV6 T page v asid vmid), .it .i64 (rlookV7 T page v asid vmid), .it .i64 (rlookV8 T page v asid vmid), .it .i64 (rlookV9 T page v asid vmid)], .bl (rlookV10 T page v asid vmid)], .agg [.arr 16 (.agg [.bool, .bool, (.int .i64), (.int .i64), (.int .i64), (.int .i64), (.int .i64), (.int .i64), (.int .i64)]) fun i0 => .agg [.bl (rlookV11r T page v asid vmid i0), .bl (rlookV12r T page v asid vmid i0), .it .i64 (rlookV13r T page v asid vmid i0), .it .i64 (rlookV14r T page v asid vmid i0), .it .i64 (rlookV15r T page v asid vmid i0), .it .i64 (rlookV16r T page v asid vmid i0), .it .i64 (rlookV17r T page v asid vmid i0), .it .i64 (rlookV18r T page v asid vmid i0), .it .i64 (rlookV19r T page v asid vmid i0)]]]
theorem rlookVV_eq (T : Tab) (page : Int) (v : Bool) (asid : Int) (vmid : Int) : rlookVVr T page v asid vmid = rlookVV T page v asid vmid := by
  unfold rlookVVr rlookVV rlookV0r rlookV11r rlookV12r rlookV13r rlookV14r rlookV15r rlookV16r rlookV17r rlookV18r rlookV19r
  first | (simp only [Go.Ev.cS1, Go.Ev.cS2, Go.Ev.cS3, Go.Ev.cS4, Go.Ev.cS6, Go.Ev.cS7]; done) | (simp only [Go.Ev.cS1, Go.Ev.cS2, Go.Ev.cS3, Go.Ev.cS4, Go.Ev.cS6, Go.Ev.cS7]; kernel_rfl)
theorem rlookVE (T : Tab) (page : Int) (v : Bool) (asid : Int) (vmid : Int) : evFn Try.prog okT NPC (HH MT1) RO NOV 101 false Try.f21 [.pt 0 [] tlbSh, .it .i64 page, .bl v, .it .i64 asid, .it .i64 vmid] (mem1 (tlbA T)) (finQ L1) = some (rlookVG T page v asid vmid, rlookVV T page v asid vmid) :=
  (by kernel_rfl : evFn Try.prog okT NPC (HH MT1) RO NOV 101 false Try.f21 [.pt 0 [] tlbSh, .it .i64 page, .bl v, .it .i64 asid, .it .i64 vmid] (mem1 (tlbA T)) (finQ L1) = some (rlookVG T page v asid vmid, rlookVVr T page v asid vmid)).trans (by rw [rlookVV_eq])

/- dropV -/
def dropV_c0 (T : Tab) (e : En) : Bool :=
  bif bif e.ok then iLe 0 (findF T e.page e.v e.asid e.vmid) else false then
    (T (findF T e.page e.v e.asid e.vmid).toNat).ok == e.ok &&
      ((T (findF T e.page e.v e.asid e.vmid).toNat).v == e.v &&
        (iEq (T (findF T e.page e.v e.asid e.vmid).toNat).page e.page &&
          (iEq (T (findF T e.page e.v e.asid e.vmid).toNat).asid e.asid &&
            (iEq (T (findF T e.page e.v e.asid e.vmid).toNat).vmid e.vmid &&
              (iEq (T (findF T e.page e.v e.asid e.vmid).toNat).frame e.frame &&
                (iEq (T (findF T e.page e.v e.asid e.vmid).toNat).bits e.bits &&
                  (iEq (T (findF T e.page e.v e.asid e.vmid).toNat).host e.host && (iEq (T (findF T e.page e.v e.asid e.vmid).toNat).guest e.guest && true))))))))
  else false
def dropV_c1 (T : Tab) (e : En) : Bool :=
  bif bif e.ok then iLe 0 (findF T e.page e.v e.asid e.vmid) else false then
    (T (findF T e.page e.v e.asid e.vmid).toNat).ok == e.ok &&
      ((T (findF T e.page e.v e.asid e.vmid).toNat).v == e.v &&
        (iEq (T (findF T e.page e.v e.asid e.vmid).toNat).page e.page &&
          (iEq (T (findF T e.page e.v e.asid e.vmid).toNat).asid e.asid &&
            (iEq (T (findF T e.page e.v e.asid e.vmid).toNat).vmid e.vmid &&
              (iEq (T (findF T e.page e.v e.asid e.vmid).toNat).frame e.frame &&
                (iEq (T (findF T e.page e.v e.asid e.vmid).toNat).bits e.bits &&
                  (iEq (T (findF T e.page e.v e.asid e.vmid).toNat).host e.host && iEq (T (findF T e.page e.v e.asid e.vmid).toNat).guest e.guest)))))))
  else false
def dropV0r (T : Tab) (e : En) : Int :=
  bif dropV_c0 T e then 0 else 0
def dropV1 (T : Tab) (e : En) : Bool :=
  dropV_c1 T e
def dropV1r (T : Tab) (e : En) : Bool :=
  bif dropV_c0 T e then true else false
def dropV2 (T : Tab) (e : En) : Nat → Bool :=
  fun i0 => bif dropV_c1 T e then bif i0 == (findF T e.page e.v e.asid e.vmid).toNat then false else (T i0).ok else (T i0).ok
def dropV2r (T : Tab) (e : En) : Nat → Bool :=
  fun i0 => bif dropV_c0 T e then bif i0 == (findF T e.page e.v e.asid e.vmid).toNat then false else (T i0).ok else (T i0).ok
def dropV3 (T : Tab) (e : En) : Nat → Bool :=
  fun i0 => bif dropV_c1 T e then bif i0 == (findF T e.page e.v e.asid e.vmid).toNat then false else (T i0).v else (T i0).v
def dropV3r (T : Tab) (e : En) : Nat → Bool :=
  fun i0 => bif dropV_c0 T e then bif i0 == (findF T e.page e.v e.asid e.vmid).toNat then false else (T i0).v else (T i0).v
def dropV4 (T : Tab) (e : En) : Nat → Int :=
  fun i0 => bif dropV_c1 T e then bif i0 == (findF T e.page e.v e.asid e.vmid).toNat then 0 else (T i0).page else (T i0).page
def dropV4r (T : Tab) (e : En) : Nat → Int :=
  fun i0 => bif dropV_c0 T e then bif i0 == (findF T e.page e.v e.asid e.vmid).toNat then 0 else (T i0).page else (T i0).page
def dropV5 (T : Tab) (e : En) : Nat → Int :=
  fun i0 => bif dropV_c1 T e then bif i0 == (findF T e.page e.v e.asid e.vmid).toNat then 0 else (T i0).asid else (T i0).asid
def dropV5r (T : Tab) (e : En) : Nat → Int :=
  fun i0 => bif dropV_c0 T e then bif i0 == (findF T e.page e.v e.asid e.vmid).toNat then 0 else (T i0).asid else (T i0).asid
def dropV6 (T : Tab) (e : En) : Nat → Int :=
  fun i0 => bif dropV_c1 T e then bif i0 == (findF T e.page e.v e.asid e.vmid).toNat then 0 else (T i0).vmid else (T i0).vmid
def dropV6r (T : Tab) (e : En) : Nat → Int :=
  fun i0 => bif dropV_c0 T e then bif i0 == (findF T e.page e.v e.asid e.vmid).toNat then 0 else (T i0).vmid else (T i0).vmid
def dropV7 (T : Tab) (e : En) : Nat → Int :=
  fun i0 => bif dropV_c1 T e then bif i0 == (findF T e.page e.v e.asid e.vmid).toNat then 0 else (T i0).frame else (T i0).frame
def dropV7r (T : Tab) (e : En) : Nat → Int :=
  fun i0 => bif dropV_c0 T e then bif i0 == (findF T e.page e.v e.asid e.vmid).toNat then 0 else (T i0).frame else (T i0).frame
def dropV8 (T : Tab) (e : En) : Nat → Int :=
  fun i0 => bif dropV_c1 T e then bif i0 == (findF T e.page e.v e.asid e.vmid).toNat then 0 else (T i0).bits else (T i0).bits
def dropV8r (T : Tab) (e : En) : Nat → Int :=
  fun i0 => bif dropV_c0 T e then bif i0 == (findF T e.page e.v e.asid e.vmid).toNat then 0 else (T i0).bits else (T i0).bits
def dropV9 (T : Tab) (e : En) : Nat → Int :=
  fun i0 => bif dropV_c1 T e then bif i0 == (findF T e.page e.v e.asid e.vmid).toNat then 0 else (T i0).host else (T i0).host
def dropV9r (T : Tab) (e : En) : Nat → Int :=
  fun i0 => bif dropV_c0 T e then bif i0 == (findF T e.page e.v e.asid e.vmid).toNat then 0 else (T i0).host else (T i0).host
def dropV10 (T : Tab) (e : En) : Nat → Int :=
  fun i0 => bif dropV_c1 T e then bif i0 == (findF T e.page e.v e.asid e.vmid).toNat then 0 else (T i0).guest else (T i0).guest
def dropV10r (T : Tab) (e : En) : Nat → Int :=
  fun i0 => bif dropV_c0 T e then bif i0 == (findF T e.page e.v e.asid e.vmid).toNat then 0 else (T i0).guest else (T i0).guest
def dropVG (T : Tab) (e : En) : Bool :=
  ((!bif e.ok then iLe 0 (findF T e.page e.v e.asid e.vmid) else false) || iIn (findF T e.page e.v e.asid e.vmid) 16) && bif dropV_c0 T e then iIn (findF T e.page e.v e.asid e.vmid) 16 && true else true
def dropVV (T : Tab) (e : En) : AV := .tup [.it .i64 0, .bl (dropV1 T e), .agg [.arr 16 (.agg [.bool, .bool, (.int .i64), (.int .i64), (.int .i64), (.int .i64), (.int .i64), (.int .i64), (.int .i64)]) fun i0 => .agg [.bl (dropV2 T e i0), .bl (dropV3 T e i0), .it .i64 (dropV4 T e i0), .it .i64 (dropV5 T e i0), .it .i64 (dropV6 T e i0), .it .i64 (dropV7 T e i0), .it .i64 (dropV8 T e i0), .it .i64 (dropV9 T e i0), .it .i64 (dropV10 T e i0)]]]
def dropVVr (T : Tab) (e : En) : AV := .tup [.it .i64 (dropV0r T e), .bl (dropV1r T e), .agg [.arr 16 (.agg [.bool, .bool, (.int .i64), (.int .i64), (.int .i64), (.int .i64), (.int .i64), (.int .i64), (.int .i64)]) fun i0 => .agg [.bl (dropV2r T e i0), .bl (dropV3r T e i0), .it .i64 (dropV4r T e i0), .it .i64 (dropV5r T e i0), .it .i64 (dropV6r T e i0), .it .i64 (dropV7r T e i0), .it .i64 (dropV8r T e i0), .it .i64 (dropV9r T e i0), .it .i64 (dropV10r T e i0)]]]
theorem dropVV_eq (T : Tab) (e : En) : dropVVr T e = dropVV T e := by
  unfold dropVVr dropVV dropV0r dropV1r dropV1 dropV2r dropV2 dropV3r dropV3 dropV4r dropV4 dropV5r dropV5 dropV6r dropV6 dropV7r dropV7 dropV8r dropV8 dropV9r dropV9 dropV10r dropV10
  first | (simp only [dropV_c0, dropV_c1, Go.Ev.cS1, Go.Ev.cS2, Go.Ev.cS3, Go.Ev.cS4, Go.Ev.cS6, Go.Ev.cS7]; done) | (simp only [dropV_c0, dropV_c1, Go.Ev.cS1, Go.Ev.cS2, Go.Ev.cS3, Go.Ev.cS4, Go.Ev.cS6, Go.Ev.cS7]; kernel_rfl)
theorem dropVE (T : Tab) (e : En) : evFn Try.prog okT NPC (HH MT1) RO NOV 101 false Try.f15 [.pt 0 [] tlbSh, enA e] (mem1 (tlbA T)) (finQ L1) = some (dropVG T e, dropVV T e) :=
  (by kernel_rfl : evFn Try.prog okT NPC (HH MT1) RO NOV 101 false Try.f15 [.pt 0 [] tlbSh, enA e] (mem1 (tlbA T)) (finQ L1) = some (dropVG T e, dropVVr T e)).trans (by rw [dropVV_eq])

end
end Go.Proofs.Ytcmknfnnapnecaa.PV
