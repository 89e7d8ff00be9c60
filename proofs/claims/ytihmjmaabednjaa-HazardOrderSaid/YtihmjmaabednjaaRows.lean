/-
  No cell of these rows narrows 'for every input' (looked for: loops, veiled, ifaces, maps, wideKeys, modest, calm, conditions, laid).
  DERIVED. THE GIVEN ROWS OF THIS SEAT. 8 by the template 'for every input the law returns true; each argument reads behind the call as it read before'; 0 by the template 'total and deterministic' (their statements: YtihmjmaabednjaaTotals.lean).
  GIVEN WITH THE SEED: the statements are not yours to turn. If you find one false, say at which input.
  Laid BY PROGRAM, IN A SANDBOX (cutbox-rows.mjs): the forced cells as the released guide's own fill.sh prints them over the translation 136668ebc157e418… (all of the seat's roots in one cut). By AI agents, Wed Nov 11 2026. No macro, syntax, notation, axiom, sorry.
-/
import Derived.Test.YtihmjmaabednjaaChecked
import GoSem.Claim
import GoSem.ClaimJoined
import GoSem.ClaimMapViews
import Derived.JoinedTies
import Derived.KernelRfl
namespace Go.Proofs.Ytihmjmaabednjaa
/- THE CELL 'sum', in the pinned program and in every row, IS THE sha256 OF THE DUMP (.gsa) THAT YtihmjmaabednjaaProg.lean LOADS. Nothing in Lean hashes anything: it is a label: what it is worth is what the hold of that sum in a sandbox is worth. -/
noncomputable def Try.pinned : Pinned := { name := "ytihmjmaabednjaa", sum := "136668ebc157e418a3f8b1795b573c2cce4671d61f01c93f0a1d1697aaa06e05", checked := Try.checked }
namespace Rows
def none {H : Type} : Left H := { results := [], args := [] }

/-- 'sallyportlaw21.HazardTells': WHATEVER THE INPUT: true; the input reads as it did. -/
def hazardTellsSpec : ChangeSpec := { name := "hazardTells", fn := fun _ => fun
  | [d1, d2, d3] => { results := [.lit (.bool true)], args := [d1, d2, d3] }
  | _ => none }
def hazardTellsRow : OpenClaim := { program := "ytihmjmaabednjaa", sum := "136668ebc157e418a3f8b1795b573c2cce4671d61f01c93f0a1d1697aaa06e05", func := "sallyport/sallyportlaw21.HazardTells", spec := "hazardTells", apart := false }
def HazardTellsSaid : Prop := hazardTellsRow.holds Try.pinned (OpenSpec.ofChange hazardTellsSpec)

/-- ITS FALSE NEIGHBOUR: 'it returns false'. Refute it at one input. -/
def hazardTellsWrong : ChangeSpec := { name := "hazardTells", fn := fun _ => fun
  | [d1, d2, d3] => { results := [.lit (.bool false)], args := [d1, d2, d3] }
  | _ => none }
def HazardTellsWrongFalsely : Prop := hazardTellsRow.holds Try.pinned (OpenSpec.ofChange hazardTellsWrong)

/-- 'sallyportlaw21.HazardOrder': WHATEVER THE INPUT: true; the input reads as it did. -/
def hazardOrderSpec : ChangeSpec := { name := "hazardOrder", fn := fun _ => fun
  | [d] => { results := [.lit (.bool true)], args := [d] }
  | _ => none }
def hazardOrderRow : OpenClaim := { program := "ytihmjmaabednjaa", sum := "136668ebc157e418a3f8b1795b573c2cce4671d61f01c93f0a1d1697aaa06e05", func := "sallyport/sallyportlaw21.HazardOrder", spec := "hazardOrder", apart := false }
def HazardOrderSaid : Prop := hazardOrderRow.holds Try.pinned (OpenSpec.ofChange hazardOrderSpec)

/-- ITS FALSE NEIGHBOUR: 'it returns false'. Refute it at one input. -/
def hazardOrderWrong : ChangeSpec := { name := "hazardOrder", fn := fun _ => fun
  | [d] => { results := [.lit (.bool false)], args := [d] }
  | _ => none }
def HazardOrderWrongFalsely : Prop := hazardOrderRow.holds Try.pinned (OpenSpec.ofChange hazardOrderWrong)

/-- 'sallyportlaw21.HazardLaws': WHATEVER THE INPUT: true; the input reads as it did. -/
def hazardLawsSpec : ChangeSpec := { name := "hazardLaws", fn := fun _ => fun
  | [d1, d2] => { results := [.lit (.bool true)], args := [d1, d2] }
  | _ => none }
def hazardLawsRow : OpenClaim := { program := "ytihmjmaabednjaa", sum := "136668ebc157e418a3f8b1795b573c2cce4671d61f01c93f0a1d1697aaa06e05", func := "sallyport/sallyportlaw21.HazardLaws", spec := "hazardLaws", apart := false }
def HazardLawsSaid : Prop := hazardLawsRow.holds Try.pinned (OpenSpec.ofChange hazardLawsSpec)

/-- ITS FALSE NEIGHBOUR: 'it returns false'. Refute it at one input. -/
def hazardLawsWrong : ChangeSpec := { name := "hazardLaws", fn := fun _ => fun
  | [d1, d2] => { results := [.lit (.bool false)], args := [d1, d2] }
  | _ => none }
def HazardLawsWrongFalsely : Prop := hazardLawsRow.holds Try.pinned (OpenSpec.ofChange hazardLawsWrong)

/-- 'sallyportlaw2.InsnTells': WHATEVER THE INPUT: true; the input reads as it did. -/
def insnTellsSpec : ChangeSpec := { name := "insnTells", fn := fun _ => fun
  | [d1, d2, d3] => { results := [.lit (.bool true)], args := [d1, d2, d3] }
  | _ => none }
def insnTellsRow : OpenClaim := { program := "ytihmjmaabednjaa", sum := "136668ebc157e418a3f8b1795b573c2cce4671d61f01c93f0a1d1697aaa06e05", func := "sallyport/sallyportlaw2.InsnTells", spec := "insnTells", inPlace := ["sync/atomic.LoadUint32", "(*internal/sync.Mutex).Lock", "internal/race.Disable", "sync/atomic.CompareAndSwapInt32", "internal/race.Enable", "internal/race.Acquire", "(*internal/sync.Mutex).lockSlow", "internal/sync.runtime_canSpin", "internal/sync.runtime_doSpin", "internal/sync.throw", "internal/sync.runtime_nanotime", "internal/sync.runtime_SemacquireMutex", "sync/atomic.AddInt32", "(*internal/sync.Mutex).Unlock", "internal/race.ReleaseMerge", "(*internal/sync.Mutex).unlockSlow", "internal/sync.fatal", "internal/sync.runtime_Semrelease", "sync/atomic.StoreUint32"], unfollowed := true, recurses := true, apart := false }
def InsnTellsSaid : Prop := insnTellsRow.holds Try.pinned (OpenSpec.ofChange insnTellsSpec)

/-- ITS FALSE NEIGHBOUR: 'it returns false'. Refute it at one input. -/
def insnTellsWrong : ChangeSpec := { name := "insnTells", fn := fun _ => fun
  | [d1, d2, d3] => { results := [.lit (.bool false)], args := [d1, d2, d3] }
  | _ => none }
def InsnTellsWrongFalsely : Prop := insnTellsRow.holds Try.pinned (OpenSpec.ofChange insnTellsWrong)

/-- 'sallyportlaw2.InsnNames': WHATEVER THE INPUT: true; the input reads as it did. -/
def insnNamesSpec : ChangeSpec := { name := "insnNames", fn := fun _ => fun
  | [d1, d2] => { results := [.lit (.bool true)], args := [d1, d2] }
  | _ => none }
def insnNamesRow : OpenClaim := { program := "ytihmjmaabednjaa", sum := "136668ebc157e418a3f8b1795b573c2cce4671d61f01c93f0a1d1697aaa06e05", func := "sallyport/sallyportlaw2.InsnNames", spec := "insnNames", inPlace := ["sync/atomic.LoadUint32", "(*internal/sync.Mutex).Lock", "internal/race.Disable", "sync/atomic.CompareAndSwapInt32", "internal/race.Enable", "internal/race.Acquire", "(*internal/sync.Mutex).lockSlow", "internal/sync.runtime_canSpin", "internal/sync.runtime_doSpin", "internal/sync.throw", "internal/sync.runtime_nanotime", "internal/sync.runtime_SemacquireMutex", "sync/atomic.AddInt32", "(*internal/sync.Mutex).Unlock", "internal/race.ReleaseMerge", "(*internal/sync.Mutex).unlockSlow", "internal/sync.fatal", "internal/sync.runtime_Semrelease", "sync/atomic.StoreUint32"], unfollowed := true, recurses := true, apart := false }
def InsnNamesSaid : Prop := insnNamesRow.holds Try.pinned (OpenSpec.ofChange insnNamesSpec)

/-- ITS FALSE NEIGHBOUR: 'it returns false'. Refute it at one input. -/
def insnNamesWrong : ChangeSpec := { name := "insnNames", fn := fun _ => fun
  | [d1, d2] => { results := [.lit (.bool false)], args := [d1, d2] }
  | _ => none }
def InsnNamesWrongFalsely : Prop := insnNamesRow.holds Try.pinned (OpenSpec.ofChange insnNamesWrong)

/-- 'sallyportlaw2.InsnFields': WHATEVER THE INPUT: true; the input reads as it did. -/
def insnFieldsSpec : ChangeSpec := { name := "insnFields", fn := fun _ => fun
  | [d1, d2] => { results := [.lit (.bool true)], args := [d1, d2] }
  | _ => none }
def insnFieldsRow : OpenClaim := { program := "ytihmjmaabednjaa", sum := "136668ebc157e418a3f8b1795b573c2cce4671d61f01c93f0a1d1697aaa06e05", func := "sallyport/sallyportlaw2.InsnFields", spec := "insnFields", inPlace := ["sync/atomic.LoadUint32", "(*internal/sync.Mutex).Lock", "internal/race.Disable", "sync/atomic.CompareAndSwapInt32", "internal/race.Enable", "internal/race.Acquire", "(*internal/sync.Mutex).lockSlow", "internal/sync.runtime_canSpin", "internal/sync.runtime_doSpin", "internal/sync.throw", "internal/sync.runtime_nanotime", "internal/sync.runtime_SemacquireMutex", "sync/atomic.AddInt32", "(*internal/sync.Mutex).Unlock", "internal/race.ReleaseMerge", "(*internal/sync.Mutex).unlockSlow", "internal/sync.fatal", "internal/sync.runtime_Semrelease", "sync/atomic.StoreUint32"], unfollowed := true, recurses := true, apart := false }
def InsnFieldsSaid : Prop := insnFieldsRow.holds Try.pinned (OpenSpec.ofChange insnFieldsSpec)

/-- ITS FALSE NEIGHBOUR: 'it returns false'. Refute it at one input. -/
def insnFieldsWrong : ChangeSpec := { name := "insnFields", fn := fun _ => fun
  | [d1, d2] => { results := [.lit (.bool false)], args := [d1, d2] }
  | _ => none }
def InsnFieldsWrongFalsely : Prop := insnFieldsRow.holds Try.pinned (OpenSpec.ofChange insnFieldsWrong)

/-- 'sallyportlaw2.InsnReads': WHATEVER THE INPUT: true; the input reads as it did. -/
def insnReadsSpec : ChangeSpec := { name := "insnReads", fn := fun _ => fun
  | [d] => { results := [.lit (.bool true)], args := [d] }
  | _ => none }
def insnReadsRow : OpenClaim := { program := "ytihmjmaabednjaa", sum := "136668ebc157e418a3f8b1795b573c2cce4671d61f01c93f0a1d1697aaa06e05", func := "sallyport/sallyportlaw2.InsnReads", spec := "insnReads", inPlace := ["sync/atomic.LoadUint32", "(*internal/sync.Mutex).Lock", "internal/race.Disable", "sync/atomic.CompareAndSwapInt32", "internal/race.Enable", "internal/race.Acquire", "(*internal/sync.Mutex).lockSlow", "internal/sync.runtime_canSpin", "internal/sync.runtime_doSpin", "internal/sync.throw", "internal/sync.runtime_nanotime", "internal/sync.runtime_SemacquireMutex", "sync/atomic.AddInt32", "(*internal/sync.Mutex).Unlock", "internal/race.ReleaseMerge", "(*internal/sync.Mutex).unlockSlow", "internal/sync.fatal", "internal/sync.runtime_Semrelease", "sync/atomic.StoreUint32"], unfollowed := true, recurses := true, apart := false }
def InsnReadsSaid : Prop := insnReadsRow.holds Try.pinned (OpenSpec.ofChange insnReadsSpec)

/-- ITS FALSE NEIGHBOUR: 'it returns false'. Refute it at one input. -/
def insnReadsWrong : ChangeSpec := { name := "insnReads", fn := fun _ => fun
  | [d] => { results := [.lit (.bool false)], args := [d] }
  | _ => none }
def InsnReadsWrongFalsely : Prop := insnReadsRow.holds Try.pinned (OpenSpec.ofChange insnReadsWrong)

/-- 'sallyportlaw2.InsnClasses': WHATEVER THE INPUT: true; the input reads as it did. -/
def insnClassesSpec : ChangeSpec := { name := "insnClasses", fn := fun _ => fun
  | [d] => { results := [.lit (.bool true)], args := [d] }
  | _ => none }
def insnClassesRow : OpenClaim := { program := "ytihmjmaabednjaa", sum := "136668ebc157e418a3f8b1795b573c2cce4671d61f01c93f0a1d1697aaa06e05", func := "sallyport/sallyportlaw2.InsnClasses", spec := "insnClasses", inPlace := ["sync/atomic.LoadUint32", "(*internal/sync.Mutex).Lock", "internal/race.Disable", "sync/atomic.CompareAndSwapInt32", "internal/race.Enable", "internal/race.Acquire", "(*internal/sync.Mutex).lockSlow", "internal/sync.runtime_canSpin", "internal/sync.runtime_doSpin", "internal/sync.throw", "internal/sync.runtime_nanotime", "internal/sync.runtime_SemacquireMutex", "sync/atomic.AddInt32", "(*internal/sync.Mutex).Unlock", "internal/race.ReleaseMerge", "(*internal/sync.Mutex).unlockSlow", "internal/sync.fatal", "internal/sync.runtime_Semrelease", "sync/atomic.StoreUint32"], unfollowed := true, recurses := true, apart := false }
def InsnClassesSaid : Prop := insnClassesRow.holds Try.pinned (OpenSpec.ofChange insnClassesSpec)

/-- ITS FALSE NEIGHBOUR: 'it returns false'. Refute it at one input. -/
def insnClassesWrong : ChangeSpec := { name := "insnClasses", fn := fun _ => fun
  | [d] => { results := [.lit (.bool false)], args := [d] }
  | _ => none }
def InsnClassesWrongFalsely : Prop := insnClassesRow.holds Try.pinned (OpenSpec.ofChange insnClassesWrong)

/- THE SECOND FORM. 'bulk': how many values and letters a reading holds, each counted each time it is reached (what is shared counts as often as it is met; a slice's spare places count too). A statement '..UptoSaid' is the law's where the arguments, and the package variables that the reading takes, are together of bulk at most 1048576: NARROWER than '..Said'. Prove '..Said' where nothing that the law and all that it calls make is longer than what came in: it says more and counts as full. Else prove '..UptoSaid'. A law counts once. -/
mutual
def uptoBulk {H : Type} : DataW H → Nat
  | .lit (.string bytes) => bytes.length + 1
  | .lit _ => 1
  | .nil => 1
  | .ptr d => uptoBulk d + 1
  | .slice elems spare => uptoBulkAll elems + uptoBulkAll spare + 1
  | .agg parts => uptoBulkAll parts + 1
  | .iface _ d => uptoBulk d + 1
  | .map entries => uptoBulkEntries entries + 1
  | .held _ => 1
def uptoBulkAll {H : Type} : List (DataW H) → Nat
  | [] => 0
  | d :: r => uptoBulk d + uptoBulkAll r
def uptoBulkEntries {H : Type} : List (Lit × DataW H) → Nat
  | [] => 0
  | x :: r => uptoBulkEntry x + uptoBulkEntries r
def uptoBulkEntry {H : Type} : Lit × DataW H → Nat
  | (.string bytes, d) => bytes.length + uptoBulk d + 1
  | (_, d) => uptoBulk d + 1
 end
def uptoSmall : (H : Type) → List (DataW H) → Bool := fun _ ds => decide (uptoBulkAll ds ≤ 1048576)
def OpenSpec.upto (s : _root_.Go.ChangeSpec) : _root_.Go.OpenSpec := { _root_.Go.OpenSpec.ofChange s with cond := some uptoSmall }

/-- 'sallyportlaw21.HazardTells', WHERE WHAT IT READS IS OF BULK AT MOST 1048576: true; the input reads as it did. -/
def hazardTellsUptoRow : OpenClaim := { program := "ytihmjmaabednjaa", sum := "136668ebc157e418a3f8b1795b573c2cce4671d61f01c93f0a1d1697aaa06e05", func := "sallyport/sallyportlaw21.HazardTells", spec := "hazardTells", apart := false, narrowed := true }
def HazardTellsUptoSaid : Prop := hazardTellsUptoRow.holds Try.pinned (OpenSpec.upto hazardTellsSpec)

/-- 'sallyportlaw21.HazardOrder', WHERE WHAT IT READS IS OF BULK AT MOST 1048576: true; the input reads as it did. -/
def hazardOrderUptoRow : OpenClaim := { program := "ytihmjmaabednjaa", sum := "136668ebc157e418a3f8b1795b573c2cce4671d61f01c93f0a1d1697aaa06e05", func := "sallyport/sallyportlaw21.HazardOrder", spec := "hazardOrder", apart := false, narrowed := true }
def HazardOrderUptoSaid : Prop := hazardOrderUptoRow.holds Try.pinned (OpenSpec.upto hazardOrderSpec)

/-- 'sallyportlaw21.HazardLaws', WHERE WHAT IT READS IS OF BULK AT MOST 1048576: true; the input reads as it did. -/
def hazardLawsUptoRow : OpenClaim := { program := "ytihmjmaabednjaa", sum := "136668ebc157e418a3f8b1795b573c2cce4671d61f01c93f0a1d1697aaa06e05", func := "sallyport/sallyportlaw21.HazardLaws", spec := "hazardLaws", apart := false, narrowed := true }
def HazardLawsUptoSaid : Prop := hazardLawsUptoRow.holds Try.pinned (OpenSpec.upto hazardLawsSpec)

/-- 'sallyportlaw2.InsnTells', WHERE WHAT IT READS IS OF BULK AT MOST 1048576: true; the input reads as it did. -/
def insnTellsUptoRow : OpenClaim := { program := "ytihmjmaabednjaa", sum := "136668ebc157e418a3f8b1795b573c2cce4671d61f01c93f0a1d1697aaa06e05", func := "sallyport/sallyportlaw2.InsnTells", spec := "insnTells", inPlace := ["sync/atomic.LoadUint32", "(*internal/sync.Mutex).Lock", "internal/race.Disable", "sync/atomic.CompareAndSwapInt32", "internal/race.Enable", "internal/race.Acquire", "(*internal/sync.Mutex).lockSlow", "internal/sync.runtime_canSpin", "internal/sync.runtime_doSpin", "internal/sync.throw", "internal/sync.runtime_nanotime", "internal/sync.runtime_SemacquireMutex", "sync/atomic.AddInt32", "(*internal/sync.Mutex).Unlock", "internal/race.ReleaseMerge", "(*internal/sync.Mutex).unlockSlow", "internal/sync.fatal", "internal/sync.runtime_Semrelease", "sync/atomic.StoreUint32"], unfollowed := true, recurses := true, apart := false, narrowed := true }
def InsnTellsUptoSaid : Prop := insnTellsUptoRow.holds Try.pinned (OpenSpec.upto insnTellsSpec)

/-- 'sallyportlaw2.InsnNames', WHERE WHAT IT READS IS OF BULK AT MOST 1048576: true; the input reads as it did. -/
def insnNamesUptoRow : OpenClaim := { program := "ytihmjmaabednjaa", sum := "136668ebc157e418a3f8b1795b573c2cce4671d61f01c93f0a1d1697aaa06e05", func := "sallyport/sallyportlaw2.InsnNames", spec := "insnNames", inPlace := ["sync/atomic.LoadUint32", "(*internal/sync.Mutex).Lock", "internal/race.Disable", "sync/atomic.CompareAndSwapInt32", "internal/race.Enable", "internal/race.Acquire", "(*internal/sync.Mutex).lockSlow", "internal/sync.runtime_canSpin", "internal/sync.runtime_doSpin", "internal/sync.throw", "internal/sync.runtime_nanotime", "internal/sync.runtime_SemacquireMutex", "sync/atomic.AddInt32", "(*internal/sync.Mutex).Unlock", "internal/race.ReleaseMerge", "(*internal/sync.Mutex).unlockSlow", "internal/sync.fatal", "internal/sync.runtime_Semrelease", "sync/atomic.StoreUint32"], unfollowed := true, recurses := true, apart := false, narrowed := true }
def InsnNamesUptoSaid : Prop := insnNamesUptoRow.holds Try.pinned (OpenSpec.upto insnNamesSpec)

/-- 'sallyportlaw2.InsnFields', WHERE WHAT IT READS IS OF BULK AT MOST 1048576: true; the input reads as it did. -/
def insnFieldsUptoRow : OpenClaim := { program := "ytihmjmaabednjaa", sum := "136668ebc157e418a3f8b1795b573c2cce4671d61f01c93f0a1d1697aaa06e05", func := "sallyport/sallyportlaw2.InsnFields", spec := "insnFields", inPlace := ["sync/atomic.LoadUint32", "(*internal/sync.Mutex).Lock", "internal/race.Disable", "sync/atomic.CompareAndSwapInt32", "internal/race.Enable", "internal/race.Acquire", "(*internal/sync.Mutex).lockSlow", "internal/sync.runtime_canSpin", "internal/sync.runtime_doSpin", "internal/sync.throw", "internal/sync.runtime_nanotime", "internal/sync.runtime_SemacquireMutex", "sync/atomic.AddInt32", "(*internal/sync.Mutex).Unlock", "internal/race.ReleaseMerge", "(*internal/sync.Mutex).unlockSlow", "internal/sync.fatal", "internal/sync.runtime_Semrelease", "sync/atomic.StoreUint32"], unfollowed := true, recurses := true, apart := false, narrowed := true }
def InsnFieldsUptoSaid : Prop := insnFieldsUptoRow.holds Try.pinned (OpenSpec.upto insnFieldsSpec)

/-- 'sallyportlaw2.InsnReads', WHERE WHAT IT READS IS OF BULK AT MOST 1048576: true; the input reads as it did. -/
def insnReadsUptoRow : OpenClaim := { program := "ytihmjmaabednjaa", sum := "136668ebc157e418a3f8b1795b573c2cce4671d61f01c93f0a1d1697aaa06e05", func := "sallyport/sallyportlaw2.InsnReads", spec := "insnReads", inPlace := ["sync/atomic.LoadUint32", "(*internal/sync.Mutex).Lock", "internal/race.Disable", "sync/atomic.CompareAndSwapInt32", "internal/race.Enable", "internal/race.Acquire", "(*internal/sync.Mutex).lockSlow", "internal/sync.runtime_canSpin", "internal/sync.runtime_doSpin", "internal/sync.throw", "internal/sync.runtime_nanotime", "internal/sync.runtime_SemacquireMutex", "sync/atomic.AddInt32", "(*internal/sync.Mutex).Unlock", "internal/race.ReleaseMerge", "(*internal/sync.Mutex).unlockSlow", "internal/sync.fatal", "internal/sync.runtime_Semrelease", "sync/atomic.StoreUint32"], unfollowed := true, recurses := true, apart := false, narrowed := true }
def InsnReadsUptoSaid : Prop := insnReadsUptoRow.holds Try.pinned (OpenSpec.upto insnReadsSpec)

/-- 'sallyportlaw2.InsnClasses', WHERE WHAT IT READS IS OF BULK AT MOST 1048576: true; the input reads as it did. -/
def insnClassesUptoRow : OpenClaim := { program := "ytihmjmaabednjaa", sum := "136668ebc157e418a3f8b1795b573c2cce4671d61f01c93f0a1d1697aaa06e05", func := "sallyport/sallyportlaw2.InsnClasses", spec := "insnClasses", inPlace := ["sync/atomic.LoadUint32", "(*internal/sync.Mutex).Lock", "internal/race.Disable", "sync/atomic.CompareAndSwapInt32", "internal/race.Enable", "internal/race.Acquire", "(*internal/sync.Mutex).lockSlow", "internal/sync.runtime_canSpin", "internal/sync.runtime_doSpin", "internal/sync.throw", "internal/sync.runtime_nanotime", "internal/sync.runtime_SemacquireMutex", "sync/atomic.AddInt32", "(*internal/sync.Mutex).Unlock", "internal/race.ReleaseMerge", "(*internal/sync.Mutex).unlockSlow", "internal/sync.fatal", "internal/sync.runtime_Semrelease", "sync/atomic.StoreUint32"], unfollowed := true, recurses := true, apart := false, narrowed := true }
def InsnClassesUptoSaid : Prop := insnClassesUptoRow.holds Try.pinned (OpenSpec.upto insnClassesSpec)

end Rows
end Go.Proofs.Ytihmjmaabednjaa
