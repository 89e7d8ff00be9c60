/-
  No cell of these rows narrows 'for every input' (looked for: loops, veiled, ifaces, maps, wideKeys, modest, calm, conditions, laid).
  DERIVED. THE GIVEN ROWS OF THIS SEAT. 7 by the template 'for every input the law returns true; each argument reads behind the call as it read before'; 0 by the template 'total and deterministic' (their statements: YtbkdnehnhbaieaaGreatTotals.lean).
  GIVEN WITH THE SEED: the statements are not yours to turn. If you find one false, say at which input.
  Laid BY PROGRAM, IN A SANDBOX (cutbox-rows.mjs): the forced cells as the released guide's own fill.sh prints them over the translation bafaa9c81aefc60f… (all of the seat's roots in one cut). By AI agents, Wed Nov 11 2026. No macro, syntax, notation, axiom, sorry.
-/
import Derived.Test.YtbkdnehnhbaieaaGreatChecked
import GoSem.Claim
import GoSem.ClaimJoined
import GoSem.ClaimMapViews
import Derived.JoinedTies
import Derived.KernelRfl
namespace Go.Proofs.YtbkdnehnhbaieaaGreat
/- THE CELL 'sum', in the pinned program and in every row, IS THE sha256 OF THE DUMP (.gsa) THAT YtbkdnehnhbaieaaGreatProg.lean LOADS. Nothing in Lean hashes anything: it is a label: what it is worth is what the hold of that sum in a sandbox is worth. -/
noncomputable def Tryz.pinned : Pinned := { name := "ytbkdnehnhbaieaagreat", sum := "bafaa9c81aefc60f6d94791b26ed382dec6e22d7e582485a8847ed3faeb42c6b", checked := Tryz.checked }
namespace Rows
def none {H : Type} : Left H := { results := [], args := [] }

/-- 'sallyporttop.WholeSums': WHATEVER THE INPUT: true; the input reads as it did. -/
def wholeSumsSpec : ChangeSpec := { name := "wholeSums", fn := fun _ => fun
  | [d1, d2] => { results := [.lit (.bool true)], args := [d1, d2] }
  | _ => none }
def wholeSumsRow : OpenClaim := { program := "ytbkdnehnhbaieaagreat", sum := "bafaa9c81aefc60f6d94791b26ed382dec6e22d7e582485a8847ed3faeb42c6b", func := "sallyport/sallyporttop.WholeSums", spec := "wholeSums", inPlace := ["sync/atomic.AddInt64", "sync/atomic.StoreUint64", "sync/atomic.LoadUint64", "sync/atomic.LoadUint32", "(*internal/sync.Mutex).Lock", "internal/race.Disable", "sync/atomic.CompareAndSwapInt32", "internal/race.Enable", "internal/race.Acquire", "(*internal/sync.Mutex).lockSlow", "internal/sync.runtime_canSpin", "internal/sync.runtime_doSpin", "internal/sync.throw", "internal/sync.runtime_nanotime", "internal/sync.runtime_SemacquireMutex", "sync/atomic.AddInt32", "(*internal/sync.Mutex).Unlock", "internal/race.ReleaseMerge", "(*internal/sync.Mutex).unlockSlow", "internal/sync.fatal", "internal/sync.runtime_Semrelease", "sync/atomic.StoreUint32"], unfollowed := true, recurses := true, apart := false }
def WholeSumsSaid : Prop := wholeSumsRow.holds Tryz.pinned (OpenSpec.ofChange wholeSumsSpec)

/-- ITS FALSE NEIGHBOUR: 'it returns false'. Refute it at one input. -/
def wholeSumsWrong : ChangeSpec := { name := "wholeSums", fn := fun _ => fun
  | [d1, d2] => { results := [.lit (.bool false)], args := [d1, d2] }
  | _ => none }
def WholeSumsWrongFalsely : Prop := wholeSumsRow.holds Tryz.pinned (OpenSpec.ofChange wholeSumsWrong)

/-- 'sallyporttop.WholeTables': WHATEVER THE INPUT: true; the input reads as it did. -/
def wholeTablesSpec : ChangeSpec := { name := "wholeTables", fn := fun _ => fun
  | [d1, d2, d3, d4, d5, d6] => { results := [.lit (.bool true)], args := [d1, d2, d3, d4, d5, d6] }
  | _ => none }
def wholeTablesRow : OpenClaim := { program := "ytbkdnehnhbaieaagreat", sum := "bafaa9c81aefc60f6d94791b26ed382dec6e22d7e582485a8847ed3faeb42c6b", func := "sallyport/sallyporttop.WholeTables", spec := "wholeTables", inPlace := ["sync/atomic.AddInt64", "sync/atomic.StoreUint64", "sync/atomic.LoadUint64", "sync/atomic.LoadUint32", "(*internal/sync.Mutex).Lock", "internal/race.Disable", "sync/atomic.CompareAndSwapInt32", "internal/race.Enable", "internal/race.Acquire", "(*internal/sync.Mutex).lockSlow", "internal/sync.runtime_canSpin", "internal/sync.runtime_doSpin", "internal/sync.throw", "internal/sync.runtime_nanotime", "internal/sync.runtime_SemacquireMutex", "sync/atomic.AddInt32", "(*internal/sync.Mutex).Unlock", "internal/race.ReleaseMerge", "(*internal/sync.Mutex).unlockSlow", "internal/sync.fatal", "internal/sync.runtime_Semrelease", "sync/atomic.StoreUint32"], unfollowed := true, recurses := true, apart := false }
def WholeTablesSaid : Prop := wholeTablesRow.holds Tryz.pinned (OpenSpec.ofChange wholeTablesSpec)

/-- ITS FALSE NEIGHBOUR: 'it returns false'. Refute it at one input. -/
def wholeTablesWrong : ChangeSpec := { name := "wholeTables", fn := fun _ => fun
  | [d1, d2, d3, d4, d5, d6] => { results := [.lit (.bool false)], args := [d1, d2, d3, d4, d5, d6] }
  | _ => none }
def WholeTablesWrongFalsely : Prop := wholeTablesRow.holds Tryz.pinned (OpenSpec.ofChange wholeTablesWrong)

/-- 'sallyporttop.WholeModel': WHATEVER THE INPUT: true; the input reads as it did. -/
def wholeModelSpec : ChangeSpec := { name := "wholeModel", fn := fun _ => fun
  | [d1, d2, d3, d4] => { results := [.lit (.bool true)], args := [d1, d2, d3, d4] }
  | _ => none }
def wholeModelRow : OpenClaim := { program := "ytbkdnehnhbaieaagreat", sum := "bafaa9c81aefc60f6d94791b26ed382dec6e22d7e582485a8847ed3faeb42c6b", func := "sallyport/sallyporttop.WholeModel", spec := "wholeModel", inPlace := ["sync/atomic.AddInt64", "sync/atomic.StoreUint64", "sync/atomic.LoadUint64", "sync/atomic.LoadUint32", "(*internal/sync.Mutex).Lock", "internal/race.Disable", "sync/atomic.CompareAndSwapInt32", "internal/race.Enable", "internal/race.Acquire", "(*internal/sync.Mutex).lockSlow", "internal/sync.runtime_canSpin", "internal/sync.runtime_doSpin", "internal/sync.throw", "internal/sync.runtime_nanotime", "internal/sync.runtime_SemacquireMutex", "sync/atomic.AddInt32", "(*internal/sync.Mutex).Unlock", "internal/race.ReleaseMerge", "(*internal/sync.Mutex).unlockSlow", "internal/sync.fatal", "internal/sync.runtime_Semrelease", "sync/atomic.StoreUint32"], unfollowed := true, recurses := true, apart := false }
def WholeModelSaid : Prop := wholeModelRow.holds Tryz.pinned (OpenSpec.ofChange wholeModelSpec)

/-- ITS FALSE NEIGHBOUR: 'it returns false'. Refute it at one input. -/
def wholeModelWrong : ChangeSpec := { name := "wholeModel", fn := fun _ => fun
  | [d1, d2, d3, d4] => { results := [.lit (.bool false)], args := [d1, d2, d3, d4] }
  | _ => none }
def WholeModelWrongFalsely : Prop := wholeModelRow.holds Tryz.pinned (OpenSpec.ofChange wholeModelWrong)

/-- 'sallyporttop.WholeThrown': WHATEVER THE INPUT: true; the input reads as it did. -/
def wholeThrownSpec : ChangeSpec := { name := "wholeThrown", fn := fun _ => fun
  | [d1, d2, d3, d4] => { results := [.lit (.bool true)], args := [d1, d2, d3, d4] }
  | _ => none }
def wholeThrownRow : OpenClaim := { program := "ytbkdnehnhbaieaagreat", sum := "bafaa9c81aefc60f6d94791b26ed382dec6e22d7e582485a8847ed3faeb42c6b", func := "sallyport/sallyporttop.WholeThrown", spec := "wholeThrown", inPlace := ["sync/atomic.AddInt64", "sync/atomic.StoreUint64", "sync/atomic.LoadUint64", "sync/atomic.LoadUint32", "(*internal/sync.Mutex).Lock", "internal/race.Disable", "sync/atomic.CompareAndSwapInt32", "internal/race.Enable", "internal/race.Acquire", "(*internal/sync.Mutex).lockSlow", "internal/sync.runtime_canSpin", "internal/sync.runtime_doSpin", "internal/sync.throw", "internal/sync.runtime_nanotime", "internal/sync.runtime_SemacquireMutex", "sync/atomic.AddInt32", "(*internal/sync.Mutex).Unlock", "internal/race.ReleaseMerge", "(*internal/sync.Mutex).unlockSlow", "internal/sync.fatal", "internal/sync.runtime_Semrelease", "sync/atomic.StoreUint32"], unfollowed := true, recurses := true, apart := false }
def WholeThrownSaid : Prop := wholeThrownRow.holds Tryz.pinned (OpenSpec.ofChange wholeThrownSpec)

/-- ITS FALSE NEIGHBOUR: 'it returns false'. Refute it at one input. -/
def wholeThrownWrong : ChangeSpec := { name := "wholeThrown", fn := fun _ => fun
  | [d1, d2, d3, d4] => { results := [.lit (.bool false)], args := [d1, d2, d3, d4] }
  | _ => none }
def WholeThrownWrongFalsely : Prop := wholeThrownRow.holds Tryz.pinned (OpenSpec.ofChange wholeThrownWrong)

/-- 'sallyporttop.WholeTotal': WHATEVER THE INPUT: true; the input reads as it did. -/
def wholeTotalSpec : ChangeSpec := { name := "wholeTotal", fn := fun _ => fun
  | [d1, d2, d3] => { results := [.lit (.bool true)], args := [d1, d2, d3] }
  | _ => none }
def wholeTotalRow : OpenClaim := { program := "ytbkdnehnhbaieaagreat", sum := "bafaa9c81aefc60f6d94791b26ed382dec6e22d7e582485a8847ed3faeb42c6b", func := "sallyport/sallyporttop.WholeTotal", spec := "wholeTotal", inPlace := ["sync/atomic.AddInt64", "sync/atomic.StoreUint64", "sync/atomic.LoadUint64", "sync/atomic.LoadUint32", "(*internal/sync.Mutex).Lock", "internal/race.Disable", "sync/atomic.CompareAndSwapInt32", "internal/race.Enable", "internal/race.Acquire", "(*internal/sync.Mutex).lockSlow", "internal/sync.runtime_canSpin", "internal/sync.runtime_doSpin", "internal/sync.throw", "internal/sync.runtime_nanotime", "internal/sync.runtime_SemacquireMutex", "sync/atomic.AddInt32", "(*internal/sync.Mutex).Unlock", "internal/race.ReleaseMerge", "(*internal/sync.Mutex).unlockSlow", "internal/sync.fatal", "internal/sync.runtime_Semrelease", "sync/atomic.StoreUint32"], unfollowed := true, recurses := true, apart := false }
def WholeTotalSaid : Prop := wholeTotalRow.holds Tryz.pinned (OpenSpec.ofChange wholeTotalSpec)

/-- ITS FALSE NEIGHBOUR: 'it returns false'. Refute it at one input. -/
def wholeTotalWrong : ChangeSpec := { name := "wholeTotal", fn := fun _ => fun
  | [d1, d2, d3] => { results := [.lit (.bool false)], args := [d1, d2, d3] }
  | _ => none }
def WholeTotalWrongFalsely : Prop := wholeTotalRow.holds Tryz.pinned (OpenSpec.ofChange wholeTotalWrong)

/-- 'sallyporttop.WholeDevices': WHATEVER THE INPUT: true; the input reads as it did. -/
def wholeDevicesSpec : ChangeSpec := { name := "wholeDevices", fn := fun _ => fun
  | [d1, d2] => { results := [.lit (.bool true)], args := [d1, d2] }
  | _ => none }
def wholeDevicesRow : OpenClaim := { program := "ytbkdnehnhbaieaagreat", sum := "bafaa9c81aefc60f6d94791b26ed382dec6e22d7e582485a8847ed3faeb42c6b", func := "sallyport/sallyporttop.WholeDevices", spec := "wholeDevices", inPlace := ["sync/atomic.AddInt64", "sync/atomic.StoreUint64", "sync/atomic.LoadUint64", "sync/atomic.LoadUint32", "(*internal/sync.Mutex).Lock", "internal/race.Disable", "sync/atomic.CompareAndSwapInt32", "internal/race.Enable", "internal/race.Acquire", "(*internal/sync.Mutex).lockSlow", "internal/sync.runtime_canSpin", "internal/sync.runtime_doSpin", "internal/sync.throw", "internal/sync.runtime_nanotime", "internal/sync.runtime_SemacquireMutex", "sync/atomic.AddInt32", "(*internal/sync.Mutex).Unlock", "internal/race.ReleaseMerge", "(*internal/sync.Mutex).unlockSlow", "internal/sync.fatal", "internal/sync.runtime_Semrelease", "sync/atomic.StoreUint32"], unfollowed := true, recurses := true, apart := false }
def WholeDevicesSaid : Prop := wholeDevicesRow.holds Tryz.pinned (OpenSpec.ofChange wholeDevicesSpec)

/-- ITS FALSE NEIGHBOUR: 'it returns false'. Refute it at one input. -/
def wholeDevicesWrong : ChangeSpec := { name := "wholeDevices", fn := fun _ => fun
  | [d1, d2] => { results := [.lit (.bool false)], args := [d1, d2] }
  | _ => none }
def WholeDevicesWrongFalsely : Prop := wholeDevicesRow.holds Tryz.pinned (OpenSpec.ofChange wholeDevicesWrong)

/-- 'sallyporttop.WholeRetires': WHATEVER THE INPUT: true; the input reads as it did. -/
def wholeRetiresSpec : ChangeSpec := { name := "wholeRetires", fn := fun _ => fun
  | [d1, d2, d3, d4] => { results := [.lit (.bool true)], args := [d1, d2, d3, d4] }
  | _ => none }
def wholeRetiresRow : OpenClaim := { program := "ytbkdnehnhbaieaagreat", sum := "bafaa9c81aefc60f6d94791b26ed382dec6e22d7e582485a8847ed3faeb42c6b", func := "sallyport/sallyporttop.WholeRetires", spec := "wholeRetires", inPlace := ["sync/atomic.AddInt64", "sync/atomic.StoreUint64", "sync/atomic.LoadUint64", "sync/atomic.LoadUint32", "(*internal/sync.Mutex).Lock", "internal/race.Disable", "sync/atomic.CompareAndSwapInt32", "internal/race.Enable", "internal/race.Acquire", "(*internal/sync.Mutex).lockSlow", "internal/sync.runtime_canSpin", "internal/sync.runtime_doSpin", "internal/sync.throw", "internal/sync.runtime_nanotime", "internal/sync.runtime_SemacquireMutex", "sync/atomic.AddInt32", "(*internal/sync.Mutex).Unlock", "internal/race.ReleaseMerge", "(*internal/sync.Mutex).unlockSlow", "internal/sync.fatal", "internal/sync.runtime_Semrelease", "sync/atomic.StoreUint32"], unfollowed := true, recurses := true, apart := false }
def WholeRetiresSaid : Prop := wholeRetiresRow.holds Tryz.pinned (OpenSpec.ofChange wholeRetiresSpec)

/-- ITS FALSE NEIGHBOUR: 'it returns false'. Refute it at one input. -/
def wholeRetiresWrong : ChangeSpec := { name := "wholeRetires", fn := fun _ => fun
  | [d1, d2, d3, d4] => { results := [.lit (.bool false)], args := [d1, d2, d3, d4] }
  | _ => none }
def WholeRetiresWrongFalsely : Prop := wholeRetiresRow.holds Tryz.pinned (OpenSpec.ofChange wholeRetiresWrong)

/- THE SECOND FORM. 'bulk': how many values and letters a reading holds, each counted each time it is reached (what is shared counts as often as it is met; a slice's spare places count too). A statement '..UptoSaid' is the law's where the arguments, and the package variables that the reading takes, are together of bulk at most 1048576: NARROWER than '..Said'. Prove '..Said' where nothing that the law and all that it calls make is longer than what came in: it says more and counts as full. Else prove '..UptoSaid'. A law counts once. -/
mutual
def uptoBulk {H : Type} : DataW H → Nat
  | .lit (.string bytes) => bytes.length + 1
  | .lit _ => 1
  | .nil => 1
  | .ptr d => uptoBulk d + 1
  | .slice elems spare => uptoBulkAll elems + uptoBulkAll spare + 1
  | .agg parts => uptoBulkAll parts + 1
  | .iface _ d => uptoBulk d + 1
  | .map entries => uptoBulkEntries entries + 1
  | .held _ => 1
def uptoBulkAll {H : Type} : List (DataW H) → Nat
  | [] => 0
  | d :: r => uptoBulk d + uptoBulkAll r
def uptoBulkEntries {H : Type} : List (Lit × DataW H) → Nat
  | [] => 0
  | x :: r => uptoBulkEntry x + uptoBulkEntries r
def uptoBulkEntry {H : Type} : Lit × DataW H → Nat
  | (.string bytes, d) => bytes.length + uptoBulk d + 1
  | (_, d) => uptoBulk d + 1
 end
def uptoSmall : (H : Type) → List (DataW H) → Bool := fun _ ds => decide (uptoBulkAll ds ≤ 1048576)
def OpenSpec.upto (s : _root_.Go.ChangeSpec) : _root_.Go.OpenSpec := { _root_.Go.OpenSpec.ofChange s with cond := some uptoSmall }

/-- 'sallyporttop.WholeSums', WHERE WHAT IT READS IS OF BULK AT MOST 1048576: true; the input reads as it did. -/
def wholeSumsUptoRow : OpenClaim := { program := "ytbkdnehnhbaieaagreat", sum := "bafaa9c81aefc60f6d94791b26ed382dec6e22d7e582485a8847ed3faeb42c6b", func := "sallyport/sallyporttop.WholeSums", spec := "wholeSums", inPlace := ["sync/atomic.AddInt64", "sync/atomic.StoreUint64", "sync/atomic.LoadUint64", "sync/atomic.LoadUint32", "(*internal/sync.Mutex).Lock", "internal/race.Disable", "sync/atomic.CompareAndSwapInt32", "internal/race.Enable", "internal/race.Acquire", "(*internal/sync.Mutex).lockSlow", "internal/sync.runtime_canSpin", "internal/sync.runtime_doSpin", "internal/sync.throw", "internal/sync.runtime_nanotime", "internal/sync.runtime_SemacquireMutex", "sync/atomic.AddInt32", "(*internal/sync.Mutex).Unlock", "internal/race.ReleaseMerge", "(*internal/sync.Mutex).unlockSlow", "internal/sync.fatal", "internal/sync.runtime_Semrelease", "sync/atomic.StoreUint32"], unfollowed := true, recurses := true, apart := false, narrowed := true }
def WholeSumsUptoSaid : Prop := wholeSumsUptoRow.holds Tryz.pinned (OpenSpec.upto wholeSumsSpec)

/-- 'sallyporttop.WholeTables', WHERE WHAT IT READS IS OF BULK AT MOST 1048576: true; the input reads as it did. -/
def wholeTablesUptoRow : OpenClaim := { program := "ytbkdnehnhbaieaagreat", sum := "bafaa9c81aefc60f6d94791b26ed382dec6e22d7e582485a8847ed3faeb42c6b", func := "sallyport/sallyporttop.WholeTables", spec := "wholeTables", inPlace := ["sync/atomic.AddInt64", "sync/atomic.StoreUint64", "sync/atomic.LoadUint64", "sync/atomic.LoadUint32", "(*internal/sync.Mutex).Lock", "internal/race.Disable", "sync/atomic.CompareAndSwapInt32", "internal/race.Enable", "internal/race.Acquire", "(*internal/sync.Mutex).lockSlow", "internal/sync.runtime_canSpin", "internal/sync.runtime_doSpin", "internal/sync.throw", "internal/sync.runtime_nanotime", "internal/sync.runtime_SemacquireMutex", "sync/atomic.AddInt32", "(*internal/sync.Mutex).Unlock", "internal/race.ReleaseMerge", "(*internal/sync.Mutex).unlockSlow", "internal/sync.fatal", "internal/sync.runtime_Semrelease", "sync/atomic.StoreUint32"], unfollowed := true, recurses := true, apart := false, narrowed := true }
def WholeTablesUptoSaid : Prop := wholeTablesUptoRow.holds Tryz.pinned (OpenSpec.upto wholeTablesSpec)

/-- 'sallyporttop.WholeModel', WHERE WHAT IT READS IS OF BULK AT MOST 1048576: true; the input reads as it did. -/
def wholeModelUptoRow : OpenClaim := { program := "ytbkdnehnhbaieaagreat", sum := "bafaa9c81aefc60f6d94791b26ed382dec6e22d7e582485a8847ed3faeb42c6b", func := "sallyport/sallyporttop.WholeModel", spec := "wholeModel", inPlace := ["sync/atomic.AddInt64", "sync/atomic.StoreUint64", "sync/atomic.LoadUint64", "sync/atomic.LoadUint32", "(*internal/sync.Mutex).Lock", "internal/race.Disable", "sync/atomic.CompareAndSwapInt32", "internal/race.Enable", "internal/race.Acquire", "(*internal/sync.Mutex).lockSlow", "internal/sync.runtime_canSpin", "internal/sync.runtime_doSpin", "internal/sync.throw", "internal/sync.runtime_nanotime", "internal/sync.runtime_SemacquireMutex", "sync/atomic.AddInt32", "(*internal/sync.Mutex).Unlock", "internal/race.ReleaseMerge", "(*internal/sync.Mutex).unlockSlow", "internal/sync.fatal", "internal/sync.runtime_Semrelease", "sync/atomic.StoreUint32"], unfollowed := true, recurses := true, apart := false, narrowed := true }
def WholeModelUptoSaid : Prop := wholeModelUptoRow.holds Tryz.pinned (OpenSpec.upto wholeModelSpec)

/-- 'sallyporttop.WholeThrown', WHERE WHAT IT READS IS OF BULK AT MOST 1048576: true; the input reads as it did. -/
def wholeThrownUptoRow : OpenClaim := { program := "ytbkdnehnhbaieaagreat", sum := "bafaa9c81aefc60f6d94791b26ed382dec6e22d7e582485a8847ed3faeb42c6b", func := "sallyport/sallyporttop.WholeThrown", spec := "wholeThrown", inPlace := ["sync/atomic.AddInt64", "sync/atomic.StoreUint64", "sync/atomic.LoadUint64", "sync/atomic.LoadUint32", "(*internal/sync.Mutex).Lock", "internal/race.Disable", "sync/atomic.CompareAndSwapInt32", "internal/race.Enable", "internal/race.Acquire", "(*internal/sync.Mutex).lockSlow", "internal/sync.runtime_canSpin", "internal/sync.runtime_doSpin", "internal/sync.throw", "internal/sync.runtime_nanotime", "internal/sync.runtime_SemacquireMutex", "sync/atomic.AddInt32", "(*internal/sync.Mutex).Unlock", "internal/race.ReleaseMerge", "(*internal/sync.Mutex).unlockSlow", "internal/sync.fatal", "internal/sync.runtime_Semrelease", "sync/atomic.StoreUint32"], unfollowed := true, recurses := true, apart := false, narrowed := true }
def WholeThrownUptoSaid : Prop := wholeThrownUptoRow.holds Tryz.pinned (OpenSpec.upto wholeThrownSpec)

/-- 'sallyporttop.WholeTotal', WHERE WHAT IT READS IS OF BULK AT MOST 1048576: true; the input reads as it did. -/
def wholeTotalUptoRow : OpenClaim := { program := "ytbkdnehnhbaieaagreat", sum := "bafaa9c81aefc60f6d94791b26ed382dec6e22d7e582485a8847ed3faeb42c6b", func := "sallyport/sallyporttop.WholeTotal", spec := "wholeTotal", inPlace := ["sync/atomic.AddInt64", "sync/atomic.StoreUint64", "sync/atomic.LoadUint64", "sync/atomic.LoadUint32", "(*internal/sync.Mutex).Lock", "internal/race.Disable", "sync/atomic.CompareAndSwapInt32", "internal/race.Enable", "internal/race.Acquire", "(*internal/sync.Mutex).lockSlow", "internal/sync.runtime_canSpin", "internal/sync.runtime_doSpin", "internal/sync.throw", "internal/sync.runtime_nanotime", "internal/sync.runtime_SemacquireMutex", "sync/atomic.AddInt32", "(*internal/sync.Mutex).Unlock", "internal/race.ReleaseMerge", "(*internal/sync.Mutex).unlockSlow", "internal/sync.fatal", "internal/sync.runtime_Semrelease", "sync/atomic.StoreUint32"], unfollowed := true, recurses := true, apart := false, narrowed := true }
def WholeTotalUptoSaid : Prop := wholeTotalUptoRow.holds Tryz.pinned (OpenSpec.upto wholeTotalSpec)

/-- 'sallyporttop.WholeDevices', WHERE WHAT IT READS IS OF BULK AT MOST 1048576: true; the input reads as it did. -/
def wholeDevicesUptoRow : OpenClaim := { program := "ytbkdnehnhbaieaagreat", sum := "bafaa9c81aefc60f6d94791b26ed382dec6e22d7e582485a8847ed3faeb42c6b", func := "sallyport/sallyporttop.WholeDevices", spec := "wholeDevices", inPlace := ["sync/atomic.AddInt64", "sync/atomic.StoreUint64", "sync/atomic.LoadUint64", "sync/atomic.LoadUint32", "(*internal/sync.Mutex).Lock", "internal/race.Disable", "sync/atomic.CompareAndSwapInt32", "internal/race.Enable", "internal/race.Acquire", "(*internal/sync.Mutex).lockSlow", "internal/sync.runtime_canSpin", "internal/sync.runtime_doSpin", "internal/sync.throw", "internal/sync.runtime_nanotime", "internal/sync.runtime_SemacquireMutex", "sync/atomic.AddInt32", "(*internal/sync.Mutex).Unlock", "internal/race.ReleaseMerge", "(*internal/sync.Mutex).unlockSlow", "internal/sync.fatal", "internal/sync.runtime_Semrelease", "sync/atomic.StoreUint32"], unfollowed := true, recurses := true, apart := false, narrowed := true }
def WholeDevicesUptoSaid : Prop := wholeDevicesUptoRow.holds Tryz.pinned (OpenSpec.upto wholeDevicesSpec)

/-- 'sallyporttop.WholeRetires', WHERE WHAT IT READS IS OF BULK AT MOST 1048576: true; the input reads as it did. -/
def wholeRetiresUptoRow : OpenClaim := { program := "ytbkdnehnhbaieaagreat", sum := "bafaa9c81aefc60f6d94791b26ed382dec6e22d7e582485a8847ed3faeb42c6b", func := "sallyport/sallyporttop.WholeRetires", spec := "wholeRetires", inPlace := ["sync/atomic.AddInt64", "sync/atomic.StoreUint64", "sync/atomic.LoadUint64", "sync/atomic.LoadUint32", "(*internal/sync.Mutex).Lock", "internal/race.Disable", "sync/atomic.CompareAndSwapInt32", "internal/race.Enable", "internal/race.Acquire", "(*internal/sync.Mutex).lockSlow", "internal/sync.runtime_canSpin", "internal/sync.runtime_doSpin", "internal/sync.throw", "internal/sync.runtime_nanotime", "internal/sync.runtime_SemacquireMutex", "sync/atomic.AddInt32", "(*internal/sync.Mutex).Unlock", "internal/race.ReleaseMerge", "(*internal/sync.Mutex).unlockSlow", "internal/sync.fatal", "internal/sync.runtime_Semrelease", "sync/atomic.StoreUint32"], unfollowed := true, recurses := true, apart := false, narrowed := true }
def WholeRetiresUptoSaid : Prop := wholeRetiresUptoRow.holds Tryz.pinned (OpenSpec.upto wholeRetiresSpec)

end Rows
end Go.Proofs.YtbkdnehnhbaieaaGreat
