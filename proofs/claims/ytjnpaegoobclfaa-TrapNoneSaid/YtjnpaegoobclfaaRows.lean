/-
  No cell of these rows narrows 'for every input' (looked for: loops, veiled, ifaces, maps, wideKeys, modest, calm, conditions, laid).
  DERIVED. THE GIVEN ROWS OF THIS SEAT. 6 by the template 'for every input the law returns true; each argument reads behind the call as it read before'; 0 by the template 'total and deterministic' (their statements: YtjnpaegoobclfaaTotals.lean).
  GIVEN WITH THE SEED: the statements are not yours to turn. If you find one false, say at which input.
  Laid BY PROGRAM, IN A SANDBOX (cutbox-rows.mjs): the forced cells as the released guide's own fill.sh prints them over the translation effba87c076f2bd3… (all of the seat's roots in one cut). By AI agents, Wed Nov 11 2026. No macro, syntax, notation, axiom, sorry.
-/
import Derived.Test.YtjnpaegoobclfaaChecked
import GoSem.Claim
import GoSem.ClaimJoined
import GoSem.ClaimMapViews
import Derived.JoinedTies
import Derived.KernelRfl
namespace Go.Proofs.Ytjnpaegoobclfaa
/- THE CELL 'sum', in the pinned program and in every row, IS THE sha256 OF THE DUMP (.gsa) THAT YtjnpaegoobclfaaProg.lean LOADS. Nothing in Lean hashes anything: it is a label: what it is worth is what the hold of that sum in a sandbox is worth. -/
noncomputable def Try.pinned : Pinned := { name := "ytjnpaegoobclfaa", sum := "effba87c076f2bd38f669eaccf99bc20de80c09004c36b5257eef2b86de6c670", checked := Try.checked }
namespace Rows
def none {H : Type} : Left H := { results := [], args := [] }

/-- 'sallyportlaw16.TrapTells': WHATEVER THE INPUT: true; the input reads as it did. -/
def trapTellsSpec : ChangeSpec := { name := "trapTells", fn := fun _ => fun
  | [d1, d2, d3, d4] => { results := [.lit (.bool true)], args := [d1, d2, d3, d4] }
  | _ => none }
def trapTellsRow : OpenClaim := { program := "ytjnpaegoobclfaa", sum := "effba87c076f2bd38f669eaccf99bc20de80c09004c36b5257eef2b86de6c670", func := "sallyport/sallyportlaw16.TrapTells", spec := "trapTells", apart := false }
def TrapTellsSaid : Prop := trapTellsRow.holds Try.pinned (OpenSpec.ofChange trapTellsSpec)

/-- ITS FALSE NEIGHBOUR: 'it returns false'. Refute it at one input. -/
def trapTellsWrong : ChangeSpec := { name := "trapTells", fn := fun _ => fun
  | [d1, d2, d3, d4] => { results := [.lit (.bool false)], args := [d1, d2, d3, d4] }
  | _ => none }
def TrapTellsWrongFalsely : Prop := trapTellsRow.holds Try.pinned (OpenSpec.ofChange trapTellsWrong)

/-- 'sallyportlaw16.TrapBack': WHATEVER THE INPUT: true; the input reads as it did. -/
def trapBackSpec : ChangeSpec := { name := "trapBack", fn := fun _ => fun
  | [d1, d2] => { results := [.lit (.bool true)], args := [d1, d2] }
  | _ => none }
def trapBackRow : OpenClaim := { program := "ytjnpaegoobclfaa", sum := "effba87c076f2bd38f669eaccf99bc20de80c09004c36b5257eef2b86de6c670", func := "sallyport/sallyportlaw16.TrapBack", spec := "trapBack", apart := false }
def TrapBackSaid : Prop := trapBackRow.holds Try.pinned (OpenSpec.ofChange trapBackSpec)

/-- ITS FALSE NEIGHBOUR: 'it returns false'. Refute it at one input. -/
def trapBackWrong : ChangeSpec := { name := "trapBack", fn := fun _ => fun
  | [d1, d2] => { results := [.lit (.bool false)], args := [d1, d2] }
  | _ => none }
def TrapBackWrongFalsely : Prop := trapBackRow.holds Try.pinned (OpenSpec.ofChange trapBackWrong)

/-- 'sallyportlaw16.TrapHost': WHATEVER THE INPUT: true; the input reads as it did. -/
def trapHostSpec : ChangeSpec := { name := "trapHost", fn := fun _ => fun
  | [d1, d2, d3] => { results := [.lit (.bool true)], args := [d1, d2, d3] }
  | _ => none }
def trapHostRow : OpenClaim := { program := "ytjnpaegoobclfaa", sum := "effba87c076f2bd38f669eaccf99bc20de80c09004c36b5257eef2b86de6c670", func := "sallyport/sallyportlaw16.TrapHost", spec := "trapHost", apart := false }
def TrapHostSaid : Prop := trapHostRow.holds Try.pinned (OpenSpec.ofChange trapHostSpec)

/-- ITS FALSE NEIGHBOUR: 'it returns false'. Refute it at one input. -/
def trapHostWrong : ChangeSpec := { name := "trapHost", fn := fun _ => fun
  | [d1, d2, d3] => { results := [.lit (.bool false)], args := [d1, d2, d3] }
  | _ => none }
def TrapHostWrongFalsely : Prop := trapHostRow.holds Try.pinned (OpenSpec.ofChange trapHostWrong)

/-- 'sallyportlaw16.TrapGuest': WHATEVER THE INPUT: true; the input reads as it did. -/
def trapGuestSpec : ChangeSpec := { name := "trapGuest", fn := fun _ => fun
  | [d1, d2, d3] => { results := [.lit (.bool true)], args := [d1, d2, d3] }
  | _ => none }
def trapGuestRow : OpenClaim := { program := "ytjnpaegoobclfaa", sum := "effba87c076f2bd38f669eaccf99bc20de80c09004c36b5257eef2b86de6c670", func := "sallyport/sallyportlaw16.TrapGuest", spec := "trapGuest", apart := false }
def TrapGuestSaid : Prop := trapGuestRow.holds Try.pinned (OpenSpec.ofChange trapGuestSpec)

/-- ITS FALSE NEIGHBOUR: 'it returns false'. Refute it at one input. -/
def trapGuestWrong : ChangeSpec := { name := "trapGuest", fn := fun _ => fun
  | [d1, d2, d3] => { results := [.lit (.bool false)], args := [d1, d2, d3] }
  | _ => none }
def TrapGuestWrongFalsely : Prop := trapGuestRow.holds Try.pinned (OpenSpec.ofChange trapGuestWrong)

/-- 'sallyportlaw16.TrapNests': WHATEVER THE INPUT: true; the input reads as it did. -/
def trapNestsSpec : ChangeSpec := { name := "trapNests", fn := fun _ => fun
  | [d1, d2, d3] => { results := [.lit (.bool true)], args := [d1, d2, d3] }
  | _ => none }
def trapNestsRow : OpenClaim := { program := "ytjnpaegoobclfaa", sum := "effba87c076f2bd38f669eaccf99bc20de80c09004c36b5257eef2b86de6c670", func := "sallyport/sallyportlaw16.TrapNests", spec := "trapNests", apart := false }
def TrapNestsSaid : Prop := trapNestsRow.holds Try.pinned (OpenSpec.ofChange trapNestsSpec)

/-- ITS FALSE NEIGHBOUR: 'it returns false'. Refute it at one input. -/
def trapNestsWrong : ChangeSpec := { name := "trapNests", fn := fun _ => fun
  | [d1, d2, d3] => { results := [.lit (.bool false)], args := [d1, d2, d3] }
  | _ => none }
def TrapNestsWrongFalsely : Prop := trapNestsRow.holds Try.pinned (OpenSpec.ofChange trapNestsWrong)

/-- 'sallyportlaw16.TrapNone': WHATEVER THE INPUT: true; the input reads as it did. -/
def trapNoneSpec : ChangeSpec := { name := "trapNone", fn := fun _ => fun
  | [d1, d2, d3] => { results := [.lit (.bool true)], args := [d1, d2, d3] }
  | _ => none }
def trapNoneRow : OpenClaim := { program := "ytjnpaegoobclfaa", sum := "effba87c076f2bd38f669eaccf99bc20de80c09004c36b5257eef2b86de6c670", func := "sallyport/sallyportlaw16.TrapNone", spec := "trapNone", apart := false }
def TrapNoneSaid : Prop := trapNoneRow.holds Try.pinned (OpenSpec.ofChange trapNoneSpec)

/-- ITS FALSE NEIGHBOUR: 'it returns false'. Refute it at one input. -/
def trapNoneWrong : ChangeSpec := { name := "trapNone", fn := fun _ => fun
  | [d1, d2, d3] => { results := [.lit (.bool false)], args := [d1, d2, d3] }
  | _ => none }
def TrapNoneWrongFalsely : Prop := trapNoneRow.holds Try.pinned (OpenSpec.ofChange trapNoneWrong)

/- THE SECOND FORM. 'bulk': how many values and letters a reading holds, each counted each time it is reached (what is shared counts as often as it is met; a slice's spare places count too). A statement '..UptoSaid' is the law's where the arguments, and the package variables that the reading takes, are together of bulk at most 1048576: NARROWER than '..Said'. Prove '..Said' where nothing that the law and all that it calls make is longer than what came in: it says more and counts as full. Else prove '..UptoSaid'. A law counts once. -/
mutual
def uptoBulk {H : Type} : DataW H → Nat
  | .lit (.string bytes) => bytes.length + 1
  | .lit _ => 1
  | .nil => 1
  | .ptr d => uptoBulk d + 1
  | .slice elems spare => uptoBulkAll elems + uptoBulkAll spare + 1
  | .agg parts => uptoBulkAll parts + 1
  | .iface _ d => uptoBulk d + 1
  | .map entries => uptoBulkEntries entries + 1
  | .held _ => 1
def uptoBulkAll {H : Type} : List (DataW H) → Nat
  | [] => 0
  | d :: r => uptoBulk d + uptoBulkAll r
def uptoBulkEntries {H : Type} : List (Lit × DataW H) → Nat
  | [] => 0
  | x :: r => uptoBulkEntry x + uptoBulkEntries r
def uptoBulkEntry {H : Type} : Lit × DataW H → Nat
  | (.string bytes, d) => bytes.length + uptoBulk d + 1
  | (_, d) => uptoBulk d + 1
 end
def uptoSmall : (H : Type) → List (DataW H) → Bool := fun _ ds => decide (uptoBulkAll ds ≤ 1048576)
def OpenSpec.upto (s : _root_.Go.ChangeSpec) : _root_.Go.OpenSpec := { _root_.Go.OpenSpec.ofChange s with cond := some uptoSmall }

/-- 'sallyportlaw16.TrapTells', WHERE WHAT IT READS IS OF BULK AT MOST 1048576: true; the input reads as it did. -/
def trapTellsUptoRow : OpenClaim := { program := "ytjnpaegoobclfaa", sum := "effba87c076f2bd38f669eaccf99bc20de80c09004c36b5257eef2b86de6c670", func := "sallyport/sallyportlaw16.TrapTells", spec := "trapTells", apart := false, narrowed := true }
def TrapTellsUptoSaid : Prop := trapTellsUptoRow.holds Try.pinned (OpenSpec.upto trapTellsSpec)

/-- 'sallyportlaw16.TrapBack', WHERE WHAT IT READS IS OF BULK AT MOST 1048576: true; the input reads as it did. -/
def trapBackUptoRow : OpenClaim := { program := "ytjnpaegoobclfaa", sum := "effba87c076f2bd38f669eaccf99bc20de80c09004c36b5257eef2b86de6c670", func := "sallyport/sallyportlaw16.TrapBack", spec := "trapBack", apart := false, narrowed := true }
def TrapBackUptoSaid : Prop := trapBackUptoRow.holds Try.pinned (OpenSpec.upto trapBackSpec)

/-- 'sallyportlaw16.TrapHost', WHERE WHAT IT READS IS OF BULK AT MOST 1048576: true; the input reads as it did. -/
def trapHostUptoRow : OpenClaim := { program := "ytjnpaegoobclfaa", sum := "effba87c076f2bd38f669eaccf99bc20de80c09004c36b5257eef2b86de6c670", func := "sallyport/sallyportlaw16.TrapHost", spec := "trapHost", apart := false, narrowed := true }
def TrapHostUptoSaid : Prop := trapHostUptoRow.holds Try.pinned (OpenSpec.upto trapHostSpec)

/-- 'sallyportlaw16.TrapGuest', WHERE WHAT IT READS IS OF BULK AT MOST 1048576: true; the input reads as it did. -/
def trapGuestUptoRow : OpenClaim := { program := "ytjnpaegoobclfaa", sum := "effba87c076f2bd38f669eaccf99bc20de80c09004c36b5257eef2b86de6c670", func := "sallyport/sallyportlaw16.TrapGuest", spec := "trapGuest", apart := false, narrowed := true }
def TrapGuestUptoSaid : Prop := trapGuestUptoRow.holds Try.pinned (OpenSpec.upto trapGuestSpec)

/-- 'sallyportlaw16.TrapNests', WHERE WHAT IT READS IS OF BULK AT MOST 1048576: true; the input reads as it did. -/
def trapNestsUptoRow : OpenClaim := { program := "ytjnpaegoobclfaa", sum := "effba87c076f2bd38f669eaccf99bc20de80c09004c36b5257eef2b86de6c670", func := "sallyport/sallyportlaw16.TrapNests", spec := "trapNests", apart := false, narrowed := true }
def TrapNestsUptoSaid : Prop := trapNestsUptoRow.holds Try.pinned (OpenSpec.upto trapNestsSpec)

/-- 'sallyportlaw16.TrapNone', WHERE WHAT IT READS IS OF BULK AT MOST 1048576: true; the input reads as it did. -/
def trapNoneUptoRow : OpenClaim := { program := "ytjnpaegoobclfaa", sum := "effba87c076f2bd38f669eaccf99bc20de80c09004c36b5257eef2b86de6c670", func := "sallyport/sallyportlaw16.TrapNone", spec := "trapNone", apart := false, narrowed := true }
def TrapNoneUptoSaid : Prop := trapNoneUptoRow.holds Try.pinned (OpenSpec.upto trapNoneSpec)

end Rows
end Go.Proofs.Ytjnpaegoobclfaa
