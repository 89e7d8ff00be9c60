/-
  No cell of these rows narrows 'for every input' (looked for: loops, veiled, ifaces, maps, wideKeys, modest, calm, conditions, laid).
  DERIVED. THE GIVEN ROWS OF THIS SEAT. 7 by the template 'for every input the law returns true; each argument reads behind the call as it read before'; 0 by the template 'total and deterministic' (their statements: YtcmknfnnapnecaaTotals.lean).
  GIVEN WITH THE SEED: the statements are not yours to turn. If you find one false, say at which input.
  Laid BY PROGRAM, IN A SANDBOX (cutbox-rows.mjs): the forced cells as the released guide's own fill.sh prints them over the translation 587f347bc7c824bd… (all of the seat's roots in one cut). By AI agents, Wed Nov 11 2026. No macro, syntax, notation, axiom, sorry.
-/
import Derived.Test.YtcmknfnnapnecaaChecked
import GoSem.Claim
import GoSem.ClaimJoined
import GoSem.ClaimMapViews
import Derived.JoinedTies
import Derived.KernelRfl
namespace Go.Proofs.Ytcmknfnnapnecaa
/- THE CELL 'sum', in the pinned program and in every row, IS THE sha256 OF THE DUMP (.gsa) THAT YtcmknfnnapnecaaProg.lean LOADS. Nothing in Lean hashes anything: it is a label: what it is worth is what the hold of that sum in a sandbox is worth. -/
noncomputable def Try.pinned : Pinned := { name := "ytcmknfnnapnecaa", sum := "587f347bc7c824bd110a16fe46888cf07ce9b5b9717681b920ddd56a9afb0ccf", checked := Try.checked }
namespace Rows
def none {H : Type} : Left H := { results := [], args := [] }

/-- 'sallyportlaw13.TlbOne': WHATEVER THE INPUT: true; the input reads as it did. -/
def tlbOneSpec : ChangeSpec := { name := "tlbOne", fn := fun _ => fun
  | [d1, d2] => { results := [.lit (.bool true)], args := [d1, d2] }
  | _ => none }
def tlbOneRow : OpenClaim := { program := "ytcmknfnnapnecaa", sum := "587f347bc7c824bd110a16fe46888cf07ce9b5b9717681b920ddd56a9afb0ccf", func := "sallyport/sallyportlaw13.TlbOne", spec := "tlbOne", apart := false }
def TlbOneSaid : Prop := tlbOneRow.holds Try.pinned (OpenSpec.ofChange tlbOneSpec)

/-- ITS FALSE NEIGHBOUR: 'it returns false'. Refute it at one input. -/
def tlbOneWrong : ChangeSpec := { name := "tlbOne", fn := fun _ => fun
  | [d1, d2] => { results := [.lit (.bool false)], args := [d1, d2] }
  | _ => none }
def TlbOneWrongFalsely : Prop := tlbOneRow.holds Try.pinned (OpenSpec.ofChange tlbOneWrong)

/-- 'sallyportlaw13.TlbMarks': WHATEVER THE INPUT: true; the input reads as it did. -/
def tlbMarksSpec : ChangeSpec := { name := "tlbMarks", fn := fun _ => fun
  | [d1, d2, d3] => { results := [.lit (.bool true)], args := [d1, d2, d3] }
  | _ => none }
def tlbMarksRow : OpenClaim := { program := "ytcmknfnnapnecaa", sum := "587f347bc7c824bd110a16fe46888cf07ce9b5b9717681b920ddd56a9afb0ccf", func := "sallyport/sallyportlaw13.TlbMarks", spec := "tlbMarks", apart := false }
def TlbMarksSaid : Prop := tlbMarksRow.holds Try.pinned (OpenSpec.ofChange tlbMarksSpec)

/-- ITS FALSE NEIGHBOUR: 'it returns false'. Refute it at one input. -/
def tlbMarksWrong : ChangeSpec := { name := "tlbMarks", fn := fun _ => fun
  | [d1, d2, d3] => { results := [.lit (.bool false)], args := [d1, d2, d3] }
  | _ => none }
def TlbMarksWrongFalsely : Prop := tlbMarksRow.holds Try.pinned (OpenSpec.ofChange tlbMarksWrong)

/-- 'sallyportlaw13.TlbFull': WHATEVER THE INPUT: true; the input reads as it did. -/
def tlbFullSpec : ChangeSpec := { name := "tlbFull", fn := fun _ => fun
  | [d] => { results := [.lit (.bool true)], args := [d] }
  | _ => none }
def tlbFullRow : OpenClaim := { program := "ytcmknfnnapnecaa", sum := "587f347bc7c824bd110a16fe46888cf07ce9b5b9717681b920ddd56a9afb0ccf", func := "sallyport/sallyportlaw13.TlbFull", spec := "tlbFull", apart := false }
def TlbFullSaid : Prop := tlbFullRow.holds Try.pinned (OpenSpec.ofChange tlbFullSpec)

/-- ITS FALSE NEIGHBOUR: 'it returns false'. Refute it at one input. -/
def tlbFullWrong : ChangeSpec := { name := "tlbFull", fn := fun _ => fun
  | [d] => { results := [.lit (.bool false)], args := [d] }
  | _ => none }
def TlbFullWrongFalsely : Prop := tlbFullRow.holds Try.pinned (OpenSpec.ofChange tlbFullWrong)

/-- 'sallyportlaw13.TlbPlays': WHATEVER THE INPUT: true; the input reads as it did. -/
def tlbPlaysSpec : ChangeSpec := { name := "tlbPlays", fn := fun _ => fun
  | [d1, d2, d3, d4, d5] => { results := [.lit (.bool true)], args := [d1, d2, d3, d4, d5] }
  | _ => none }
def tlbPlaysRow : OpenClaim := { program := "ytcmknfnnapnecaa", sum := "587f347bc7c824bd110a16fe46888cf07ce9b5b9717681b920ddd56a9afb0ccf", func := "sallyport/sallyportlaw13.TlbPlays", spec := "tlbPlays", apart := false }
def TlbPlaysSaid : Prop := tlbPlaysRow.holds Try.pinned (OpenSpec.ofChange tlbPlaysSpec)

/-- ITS FALSE NEIGHBOUR: 'it returns false'. Refute it at one input. -/
def tlbPlaysWrong : ChangeSpec := { name := "tlbPlays", fn := fun _ => fun
  | [d1, d2, d3, d4, d5] => { results := [.lit (.bool false)], args := [d1, d2, d3, d4, d5] }
  | _ => none }
def TlbPlaysWrongFalsely : Prop := tlbPlaysRow.holds Try.pinned (OpenSpec.ofChange tlbPlaysWrong)

/-- 'sallyportlaw14.FenceParts': WHATEVER THE INPUT: true; the input reads as it did. -/
def fencePartsSpec : ChangeSpec := { name := "fenceParts", fn := fun _ => fun
  | [d1, d2] => { results := [.lit (.bool true)], args := [d1, d2] }
  | _ => none }
def fencePartsRow : OpenClaim := { program := "ytcmknfnnapnecaa", sum := "587f347bc7c824bd110a16fe46888cf07ce9b5b9717681b920ddd56a9afb0ccf", func := "sallyport/sallyportlaw14.FenceParts", spec := "fenceParts", unfollowed := true, recurses := true, apart := false }
def FencePartsSaid : Prop := fencePartsRow.holds Try.pinned (OpenSpec.ofChange fencePartsSpec)

/-- ITS FALSE NEIGHBOUR: 'it returns false'. Refute it at one input. -/
def fencePartsWrong : ChangeSpec := { name := "fenceParts", fn := fun _ => fun
  | [d1, d2] => { results := [.lit (.bool false)], args := [d1, d2] }
  | _ => none }
def FencePartsWrongFalsely : Prop := fencePartsRow.holds Try.pinned (OpenSpec.ofChange fencePartsWrong)

/-- 'sallyportlaw14.FenceGuests': WHATEVER THE INPUT: true; the input reads as it did. -/
def fenceGuestsSpec : ChangeSpec := { name := "fenceGuests", fn := fun _ => fun
  | [d1, d2, d3, d4] => { results := [.lit (.bool true)], args := [d1, d2, d3, d4] }
  | _ => none }
def fenceGuestsRow : OpenClaim := { program := "ytcmknfnnapnecaa", sum := "587f347bc7c824bd110a16fe46888cf07ce9b5b9717681b920ddd56a9afb0ccf", func := "sallyport/sallyportlaw14.FenceGuests", spec := "fenceGuests", unfollowed := true, recurses := true, apart := false }
def FenceGuestsSaid : Prop := fenceGuestsRow.holds Try.pinned (OpenSpec.ofChange fenceGuestsSpec)

/-- ITS FALSE NEIGHBOUR: 'it returns false'. Refute it at one input. -/
def fenceGuestsWrong : ChangeSpec := { name := "fenceGuests", fn := fun _ => fun
  | [d1, d2, d3, d4] => { results := [.lit (.bool false)], args := [d1, d2, d3, d4] }
  | _ => none }
def FenceGuestsWrongFalsely : Prop := fenceGuestsRow.holds Try.pinned (OpenSpec.ofChange fenceGuestsWrong)

/-- 'sallyportlaw14.FenceTells': WHATEVER THE INPUT: true; the input reads as it did. -/
def fenceTellsSpec : ChangeSpec := { name := "fenceTells", fn := fun _ => fun
  | [d1, d2, d3, d4, d5, d6] => { results := [.lit (.bool true)], args := [d1, d2, d3, d4, d5, d6] }
  | _ => none }
def fenceTellsRow : OpenClaim := { program := "ytcmknfnnapnecaa", sum := "587f347bc7c824bd110a16fe46888cf07ce9b5b9717681b920ddd56a9afb0ccf", func := "sallyport/sallyportlaw14.FenceTells", spec := "fenceTells", unfollowed := true, recurses := true, apart := false }
def FenceTellsSaid : Prop := fenceTellsRow.holds Try.pinned (OpenSpec.ofChange fenceTellsSpec)

/-- ITS FALSE NEIGHBOUR: 'it returns false'. Refute it at one input. -/
def fenceTellsWrong : ChangeSpec := { name := "fenceTells", fn := fun _ => fun
  | [d1, d2, d3, d4, d5, d6] => { results := [.lit (.bool false)], args := [d1, d2, d3, d4, d5, d6] }
  | _ => none }
def FenceTellsWrongFalsely : Prop := fenceTellsRow.holds Try.pinned (OpenSpec.ofChange fenceTellsWrong)

/- THE SECOND FORM. 'bulk': how many values and letters a reading holds, each counted each time it is reached (what is shared counts as often as it is met; a slice's spare places count too). A statement '..UptoSaid' is the law's where the arguments, and the package variables that the reading takes, are together of bulk at most 1048576: NARROWER than '..Said'. Prove '..Said' where nothing that the law and all that it calls make is longer than what came in: it says more and counts as full. Else prove '..UptoSaid'. A law counts once. -/
mutual
def uptoBulk {H : Type} : DataW H → Nat
  | .lit (.string bytes) => bytes.length + 1
  | .lit _ => 1
  | .nil => 1
  | .ptr d => uptoBulk d + 1
  | .slice elems spare => uptoBulkAll elems + uptoBulkAll spare + 1
  | .agg parts => uptoBulkAll parts + 1
  | .iface _ d => uptoBulk d + 1
  | .map entries => uptoBulkEntries entries + 1
  | .held _ => 1
def uptoBulkAll {H : Type} : List (DataW H) → Nat
  | [] => 0
  | d :: r => uptoBulk d + uptoBulkAll r
def uptoBulkEntries {H : Type} : List (Lit × DataW H) → Nat
  | [] => 0
  | x :: r => uptoBulkEntry x + uptoBulkEntries r
def uptoBulkEntry {H : Type} : Lit × DataW H → Nat
  | (.string bytes, d) => bytes.length + uptoBulk d + 1
  | (_, d) => uptoBulk d + 1
 end
def uptoSmall : (H : Type) → List (DataW H) → Bool := fun _ ds => decide (uptoBulkAll ds ≤ 1048576)
def OpenSpec.upto (s : _root_.Go.ChangeSpec) : _root_.Go.OpenSpec := { _root_.Go.OpenSpec.ofChange s with cond := some uptoSmall }

/-- 'sallyportlaw13.TlbOne', WHERE WHAT IT READS IS OF BULK AT MOST 1048576: true; the input reads as it did. -/
def tlbOneUptoRow : OpenClaim := { program := "ytcmknfnnapnecaa", sum := "587f347bc7c824bd110a16fe46888cf07ce9b5b9717681b920ddd56a9afb0ccf", func := "sallyport/sallyportlaw13.TlbOne", spec := "tlbOne", apart := false, narrowed := true }
def TlbOneUptoSaid : Prop := tlbOneUptoRow.holds Try.pinned (OpenSpec.upto tlbOneSpec)

/-- 'sallyportlaw13.TlbMarks', WHERE WHAT IT READS IS OF BULK AT MOST 1048576: true; the input reads as it did. -/
def tlbMarksUptoRow : OpenClaim := { program := "ytcmknfnnapnecaa", sum := "587f347bc7c824bd110a16fe46888cf07ce9b5b9717681b920ddd56a9afb0ccf", func := "sallyport/sallyportlaw13.TlbMarks", spec := "tlbMarks", apart := false, narrowed := true }
def TlbMarksUptoSaid : Prop := tlbMarksUptoRow.holds Try.pinned (OpenSpec.upto tlbMarksSpec)

/-- 'sallyportlaw13.TlbFull', WHERE WHAT IT READS IS OF BULK AT MOST 1048576: true; the input reads as it did. -/
def tlbFullUptoRow : OpenClaim := { program := "ytcmknfnnapnecaa", sum := "587f347bc7c824bd110a16fe46888cf07ce9b5b9717681b920ddd56a9afb0ccf", func := "sallyport/sallyportlaw13.TlbFull", spec := "tlbFull", apart := false, narrowed := true }
def TlbFullUptoSaid : Prop := tlbFullUptoRow.holds Try.pinned (OpenSpec.upto tlbFullSpec)

/-- 'sallyportlaw13.TlbPlays', WHERE WHAT IT READS IS OF BULK AT MOST 1048576: true; the input reads as it did. -/
def tlbPlaysUptoRow : OpenClaim := { program := "ytcmknfnnapnecaa", sum := "587f347bc7c824bd110a16fe46888cf07ce9b5b9717681b920ddd56a9afb0ccf", func := "sallyport/sallyportlaw13.TlbPlays", spec := "tlbPlays", apart := false, narrowed := true }
def TlbPlaysUptoSaid : Prop := tlbPlaysUptoRow.holds Try.pinned (OpenSpec.upto tlbPlaysSpec)

/-- 'sallyportlaw14.FenceParts', WHERE WHAT IT READS IS OF BULK AT MOST 1048576: true; the input reads as it did. -/
def fencePartsUptoRow : OpenClaim := { program := "ytcmknfnnapnecaa", sum := "587f347bc7c824bd110a16fe46888cf07ce9b5b9717681b920ddd56a9afb0ccf", func := "sallyport/sallyportlaw14.FenceParts", spec := "fenceParts", unfollowed := true, recurses := true, apart := false, narrowed := true }
def FencePartsUptoSaid : Prop := fencePartsUptoRow.holds Try.pinned (OpenSpec.upto fencePartsSpec)

/-- 'sallyportlaw14.FenceGuests', WHERE WHAT IT READS IS OF BULK AT MOST 1048576: true; the input reads as it did. -/
def fenceGuestsUptoRow : OpenClaim := { program := "ytcmknfnnapnecaa", sum := "587f347bc7c824bd110a16fe46888cf07ce9b5b9717681b920ddd56a9afb0ccf", func := "sallyport/sallyportlaw14.FenceGuests", spec := "fenceGuests", unfollowed := true, recurses := true, apart := false, narrowed := true }
def FenceGuestsUptoSaid : Prop := fenceGuestsUptoRow.holds Try.pinned (OpenSpec.upto fenceGuestsSpec)

/-- 'sallyportlaw14.FenceTells', WHERE WHAT IT READS IS OF BULK AT MOST 1048576: true; the input reads as it did. -/
def fenceTellsUptoRow : OpenClaim := { program := "ytcmknfnnapnecaa", sum := "587f347bc7c824bd110a16fe46888cf07ce9b5b9717681b920ddd56a9afb0ccf", func := "sallyport/sallyportlaw14.FenceTells", spec := "fenceTells", unfollowed := true, recurses := true, apart := false, narrowed := true }
def FenceTellsUptoSaid : Prop := fenceTellsUptoRow.holds Try.pinned (OpenSpec.upto fenceTellsSpec)

end Rows
end Go.Proofs.Ytcmknfnnapnecaa
