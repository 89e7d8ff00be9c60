/-
  No cell of these rows narrows 'for every input' (looked for: loops, veiled, ifaces, maps, wideKeys, modest, calm, conditions, laid).
  DERIVED. THE GIVEN ROWS OF THIS SEAT. 11 by the template 'for every input the law returns true; each argument reads behind the call as it read before'; 0 by the template 'total and deterministic' (their statements: YtdfafnelmpflgaaTotals.lean).
  GIVEN WITH THE SEED: the statements are not yours to turn. If you find one false, say at which input.
  Laid BY PROGRAM, IN A SANDBOX (cutbox-rows.mjs): the forced cells as the released guide's own fill.sh prints them over the translation 37d10afb13c8a0d8… (all of the seat's roots in one cut). By AI agents, Wed Nov 11 2026. No macro, syntax, notation, axiom, sorry.
-/
import Derived.Test.YtdfafnelmpflgaaChecked
import GoSem.Claim
import GoSem.ClaimJoined
import GoSem.ClaimMapViews
import Derived.JoinedTies
import Derived.KernelRfl
namespace Go.Proofs.Ytdfafnelmpflgaa
/- THE CELL 'sum', in the pinned program and in every row, IS THE sha256 OF THE DUMP (.gsa) THAT YtdfafnelmpflgaaProg.lean LOADS. Nothing in Lean hashes anything: it is a label: what it is worth is what the hold of that sum in a sandbox is worth. -/
noncomputable def Try.pinned : Pinned := { name := "ytdfafnelmpflgaa", sum := "37d10afb13c8a0d809998b657417915f24415c83a9e2314fa59722eea2664d2f", checked := Try.checked }
namespace Rows
def none {H : Type} : Left H := { results := [], args := [] }

/-- 'sallyportlaw8.CsrTells': WHATEVER THE INPUT: true; the input reads as it did. -/
def csrTellsSpec : ChangeSpec := { name := "csrTells", fn := fun _ => fun
  | [d1, d2, d3, d4, d5, d6] => { results := [.lit (.bool true)], args := [d1, d2, d3, d4, d5, d6] }
  | _ => none }
def csrTellsRow : OpenClaim := { program := "ytdfafnelmpflgaa", sum := "37d10afb13c8a0d809998b657417915f24415c83a9e2314fa59722eea2664d2f", func := "sallyport/sallyportlaw8.CsrTells", spec := "csrTells", apart := false }
def CsrTellsSaid : Prop := csrTellsRow.holds Try.pinned (OpenSpec.ofChange csrTellsSpec)

/-- ITS FALSE NEIGHBOUR: 'it returns false'. Refute it at one input. -/
def csrTellsWrong : ChangeSpec := { name := "csrTells", fn := fun _ => fun
  | [d1, d2, d3, d4, d5, d6] => { results := [.lit (.bool false)], args := [d1, d2, d3, d4, d5, d6] }
  | _ => none }
def CsrTellsWrongFalsely : Prop := csrTellsRow.holds Try.pinned (OpenSpec.ofChange csrTellsWrong)

/-- 'sallyportlaw8.CsrBack': WHATEVER THE INPUT: true; the input reads as it did. -/
def csrBackSpec : ChangeSpec := { name := "csrBack", fn := fun _ => fun
  | [d1, d2, d3] => { results := [.lit (.bool true)], args := [d1, d2, d3] }
  | _ => none }
def csrBackRow : OpenClaim := { program := "ytdfafnelmpflgaa", sum := "37d10afb13c8a0d809998b657417915f24415c83a9e2314fa59722eea2664d2f", func := "sallyport/sallyportlaw8.CsrBack", spec := "csrBack", apart := false }
def CsrBackSaid : Prop := csrBackRow.holds Try.pinned (OpenSpec.ofChange csrBackSpec)

/-- ITS FALSE NEIGHBOUR: 'it returns false'. Refute it at one input. -/
def csrBackWrong : ChangeSpec := { name := "csrBack", fn := fun _ => fun
  | [d1, d2, d3] => { results := [.lit (.bool false)], args := [d1, d2, d3] }
  | _ => none }
def CsrBackWrongFalsely : Prop := csrBackRow.holds Try.pinned (OpenSpec.ofChange csrBackWrong)

/-- 'sallyportlaw8.CsrViews': WHATEVER THE INPUT: true; the input reads as it did. -/
def csrViewsSpec : ChangeSpec := { name := "csrViews", fn := fun _ => fun
  | [d1, d2] => { results := [.lit (.bool true)], args := [d1, d2] }
  | _ => none }
def csrViewsRow : OpenClaim := { program := "ytdfafnelmpflgaa", sum := "37d10afb13c8a0d809998b657417915f24415c83a9e2314fa59722eea2664d2f", func := "sallyport/sallyportlaw8.CsrViews", spec := "csrViews", apart := false }
def CsrViewsSaid : Prop := csrViewsRow.holds Try.pinned (OpenSpec.ofChange csrViewsSpec)

/-- ITS FALSE NEIGHBOUR: 'it returns false'. Refute it at one input. -/
def csrViewsWrong : ChangeSpec := { name := "csrViews", fn := fun _ => fun
  | [d1, d2] => { results := [.lit (.bool false)], args := [d1, d2] }
  | _ => none }
def CsrViewsWrongFalsely : Prop := csrViewsRow.holds Try.pinned (OpenSpec.ofChange csrViewsWrong)

/-- 'sallyportlaw8.CsrNumbers': WHATEVER THE INPUT: true; the input reads as it did. -/
def csrNumbersSpec : ChangeSpec := { name := "csrNumbers", fn := fun _ => fun
  | [d1, d2] => { results := [.lit (.bool true)], args := [d1, d2] }
  | _ => none }
def csrNumbersRow : OpenClaim := { program := "ytdfafnelmpflgaa", sum := "37d10afb13c8a0d809998b657417915f24415c83a9e2314fa59722eea2664d2f", func := "sallyport/sallyportlaw8.CsrNumbers", spec := "csrNumbers", apart := false }
def CsrNumbersSaid : Prop := csrNumbersRow.holds Try.pinned (OpenSpec.ofChange csrNumbersSpec)

/-- ITS FALSE NEIGHBOUR: 'it returns false'. Refute it at one input. -/
def csrNumbersWrong : ChangeSpec := { name := "csrNumbers", fn := fun _ => fun
  | [d1, d2] => { results := [.lit (.bool false)], args := [d1, d2] }
  | _ => none }
def CsrNumbersWrongFalsely : Prop := csrNumbersRow.holds Try.pinned (OpenSpec.ofChange csrNumbersWrong)

/-- 'sallyportlaw8.CsrGuests': WHATEVER THE INPUT: true; the input reads as it did. -/
def csrGuestsSpec : ChangeSpec := { name := "csrGuests", fn := fun _ => fun
  | [d1, d2, d3] => { results := [.lit (.bool true)], args := [d1, d2, d3] }
  | _ => none }
def csrGuestsRow : OpenClaim := { program := "ytdfafnelmpflgaa", sum := "37d10afb13c8a0d809998b657417915f24415c83a9e2314fa59722eea2664d2f", func := "sallyport/sallyportlaw8.CsrGuests", spec := "csrGuests", apart := false }
def CsrGuestsSaid : Prop := csrGuestsRow.holds Try.pinned (OpenSpec.ofChange csrGuestsSpec)

/-- ITS FALSE NEIGHBOUR: 'it returns false'. Refute it at one input. -/
def csrGuestsWrong : ChangeSpec := { name := "csrGuests", fn := fun _ => fun
  | [d1, d2, d3] => { results := [.lit (.bool false)], args := [d1, d2, d3] }
  | _ => none }
def CsrGuestsWrongFalsely : Prop := csrGuestsRow.holds Try.pinned (OpenSpec.ofChange csrGuestsWrong)

/-- 'sallyportlaw8.CsrPending': WHATEVER THE INPUT: true; the input reads as it did. -/
def csrPendingSpec : ChangeSpec := { name := "csrPending", fn := fun _ => fun
  | [d1, d2, d3, d4] => { results := [.lit (.bool true)], args := [d1, d2, d3, d4] }
  | _ => none }
def csrPendingRow : OpenClaim := { program := "ytdfafnelmpflgaa", sum := "37d10afb13c8a0d809998b657417915f24415c83a9e2314fa59722eea2664d2f", func := "sallyport/sallyportlaw8.CsrPending", spec := "csrPending", apart := false }
def CsrPendingSaid : Prop := csrPendingRow.holds Try.pinned (OpenSpec.ofChange csrPendingSpec)

/-- ITS FALSE NEIGHBOUR: 'it returns false'. Refute it at one input. -/
def csrPendingWrong : ChangeSpec := { name := "csrPending", fn := fun _ => fun
  | [d1, d2, d3, d4] => { results := [.lit (.bool false)], args := [d1, d2, d3, d4] }
  | _ => none }
def CsrPendingWrongFalsely : Prop := csrPendingRow.holds Try.pinned (OpenSpec.ofChange csrPendingWrong)

/-- 'sallyportlaw9.LegalTells': WHATEVER THE INPUT: true; the input reads as it did. -/
def legalTellsSpec : ChangeSpec := { name := "legalTells", fn := fun _ => fun
  | [d1, d2, d3, d4] => { results := [.lit (.bool true)], args := [d1, d2, d3, d4] }
  | _ => none }
def legalTellsRow : OpenClaim := { program := "ytdfafnelmpflgaa", sum := "37d10afb13c8a0d809998b657417915f24415c83a9e2314fa59722eea2664d2f", func := "sallyport/sallyportlaw9.LegalTells", spec := "legalTells", apart := false }
def LegalTellsSaid : Prop := legalTellsRow.holds Try.pinned (OpenSpec.ofChange legalTellsSpec)

/-- ITS FALSE NEIGHBOUR: 'it returns false'. Refute it at one input. -/
def legalTellsWrong : ChangeSpec := { name := "legalTells", fn := fun _ => fun
  | [d1, d2, d3, d4] => { results := [.lit (.bool false)], args := [d1, d2, d3, d4] }
  | _ => none }
def LegalTellsWrongFalsely : Prop := legalTellsRow.holds Try.pinned (OpenSpec.ofChange legalTellsWrong)

/-- 'sallyportlaw9.LegalMore': WHATEVER THE INPUT: true; the input reads as it did. -/
def legalMoreSpec : ChangeSpec := { name := "legalMore", fn := fun _ => fun
  | [d1, d2] => { results := [.lit (.bool true)], args := [d1, d2] }
  | _ => none }
def legalMoreRow : OpenClaim := { program := "ytdfafnelmpflgaa", sum := "37d10afb13c8a0d809998b657417915f24415c83a9e2314fa59722eea2664d2f", func := "sallyport/sallyportlaw9.LegalMore", spec := "legalMore", apart := false }
def LegalMoreSaid : Prop := legalMoreRow.holds Try.pinned (OpenSpec.ofChange legalMoreSpec)

/-- ITS FALSE NEIGHBOUR: 'it returns false'. Refute it at one input. -/
def legalMoreWrong : ChangeSpec := { name := "legalMore", fn := fun _ => fun
  | [d1, d2] => { results := [.lit (.bool false)], args := [d1, d2] }
  | _ => none }
def LegalMoreWrongFalsely : Prop := legalMoreRow.holds Try.pinned (OpenSpec.ofChange legalMoreWrong)

/-- 'sallyportlaw9.LegalGuest': WHATEVER THE INPUT: true; the input reads as it did. -/
def legalGuestSpec : ChangeSpec := { name := "legalGuest", fn := fun _ => fun
  | [d1, d2, d3, d4] => { results := [.lit (.bool true)], args := [d1, d2, d3, d4] }
  | _ => none }
def legalGuestRow : OpenClaim := { program := "ytdfafnelmpflgaa", sum := "37d10afb13c8a0d809998b657417915f24415c83a9e2314fa59722eea2664d2f", func := "sallyport/sallyportlaw9.LegalGuest", spec := "legalGuest", apart := false }
def LegalGuestSaid : Prop := legalGuestRow.holds Try.pinned (OpenSpec.ofChange legalGuestSpec)

/-- ITS FALSE NEIGHBOUR: 'it returns false'. Refute it at one input. -/
def legalGuestWrong : ChangeSpec := { name := "legalGuest", fn := fun _ => fun
  | [d1, d2, d3, d4] => { results := [.lit (.bool false)], args := [d1, d2, d3, d4] }
  | _ => none }
def LegalGuestWrongFalsely : Prop := legalGuestRow.holds Try.pinned (OpenSpec.ofChange legalGuestWrong)

/-- 'sallyportlaw9.LegalPlain': WHATEVER THE INPUT: true; the input reads as it did. -/
def legalPlainSpec : ChangeSpec := { name := "legalPlain", fn := fun _ => fun
  | [d1, d2] => { results := [.lit (.bool true)], args := [d1, d2] }
  | _ => none }
def legalPlainRow : OpenClaim := { program := "ytdfafnelmpflgaa", sum := "37d10afb13c8a0d809998b657417915f24415c83a9e2314fa59722eea2664d2f", func := "sallyport/sallyportlaw9.LegalPlain", spec := "legalPlain", apart := false }
def LegalPlainSaid : Prop := legalPlainRow.holds Try.pinned (OpenSpec.ofChange legalPlainSpec)

/-- ITS FALSE NEIGHBOUR: 'it returns false'. Refute it at one input. -/
def legalPlainWrong : ChangeSpec := { name := "legalPlain", fn := fun _ => fun
  | [d1, d2] => { results := [.lit (.bool false)], args := [d1, d2] }
  | _ => none }
def LegalPlainWrongFalsely : Prop := legalPlainRow.holds Try.pinned (OpenSpec.ofChange legalPlainWrong)

/-- 'sallyportlaw9.LegalReads': WHATEVER THE INPUT: true; the input reads as it did. -/
def legalReadsSpec : ChangeSpec := { name := "legalReads", fn := fun _ => fun
  | [d1, d2, d3, d4] => { results := [.lit (.bool true)], args := [d1, d2, d3, d4] }
  | _ => none }
def legalReadsRow : OpenClaim := { program := "ytdfafnelmpflgaa", sum := "37d10afb13c8a0d809998b657417915f24415c83a9e2314fa59722eea2664d2f", func := "sallyport/sallyportlaw9.LegalReads", spec := "legalReads", apart := false }
def LegalReadsSaid : Prop := legalReadsRow.holds Try.pinned (OpenSpec.ofChange legalReadsSpec)

/-- ITS FALSE NEIGHBOUR: 'it returns false'. Refute it at one input. -/
def legalReadsWrong : ChangeSpec := { name := "legalReads", fn := fun _ => fun
  | [d1, d2, d3, d4] => { results := [.lit (.bool false)], args := [d1, d2, d3, d4] }
  | _ => none }
def LegalReadsWrongFalsely : Prop := legalReadsRow.holds Try.pinned (OpenSpec.ofChange legalReadsWrong)

/- THE SECOND FORM. 'bulk': how many values and letters a reading holds, each counted each time it is reached (what is shared counts as often as it is met; a slice's spare places count too). A statement '..UptoSaid' is the law's where the arguments, and the package variables that the reading takes, are together of bulk at most 1048576: NARROWER than '..Said'. Prove '..Said' where nothing that the law and all that it calls make is longer than what came in: it says more and counts as full. Else prove '..UptoSaid'. A law counts once. -/
mutual
def uptoBulk {H : Type} : DataW H → Nat
  | .lit (.string bytes) => bytes.length + 1
  | .lit _ => 1
  | .nil => 1
  | .ptr d => uptoBulk d + 1
  | .slice elems spare => uptoBulkAll elems + uptoBulkAll spare + 1
  | .agg parts => uptoBulkAll parts + 1
  | .iface _ d => uptoBulk d + 1
  | .map entries => uptoBulkEntries entries + 1
  | .held _ => 1
def uptoBulkAll {H : Type} : List (DataW H) → Nat
  | [] => 0
  | d :: r => uptoBulk d + uptoBulkAll r
def uptoBulkEntries {H : Type} : List (Lit × DataW H) → Nat
  | [] => 0
  | x :: r => uptoBulkEntry x + uptoBulkEntries r
def uptoBulkEntry {H : Type} : Lit × DataW H → Nat
  | (.string bytes, d) => bytes.length + uptoBulk d + 1
  | (_, d) => uptoBulk d + 1
 end
def uptoSmall : (H : Type) → List (DataW H) → Bool := fun _ ds => decide (uptoBulkAll ds ≤ 1048576)
def OpenSpec.upto (s : _root_.Go.ChangeSpec) : _root_.Go.OpenSpec := { _root_.Go.OpenSpec.ofChange s with cond := some uptoSmall }

/-- 'sallyportlaw8.CsrTells', WHERE WHAT IT READS IS OF BULK AT MOST 1048576: true; the input reads as it did. -/
def csrTellsUptoRow : OpenClaim := { program := "ytdfafnelmpflgaa", sum := "37d10afb13c8a0d809998b657417915f24415c83a9e2314fa59722eea2664d2f", func := "sallyport/sallyportlaw8.CsrTells", spec := "csrTells", apart := false, narrowed := true }
def CsrTellsUptoSaid : Prop := csrTellsUptoRow.holds Try.pinned (OpenSpec.upto csrTellsSpec)

/-- 'sallyportlaw8.CsrBack', WHERE WHAT IT READS IS OF BULK AT MOST 1048576: true; the input reads as it did. -/
def csrBackUptoRow : OpenClaim := { program := "ytdfafnelmpflgaa", sum := "37d10afb13c8a0d809998b657417915f24415c83a9e2314fa59722eea2664d2f", func := "sallyport/sallyportlaw8.CsrBack", spec := "csrBack", apart := false, narrowed := true }
def CsrBackUptoSaid : Prop := csrBackUptoRow.holds Try.pinned (OpenSpec.upto csrBackSpec)

/-- 'sallyportlaw8.CsrViews', WHERE WHAT IT READS IS OF BULK AT MOST 1048576: true; the input reads as it did. -/
def csrViewsUptoRow : OpenClaim := { program := "ytdfafnelmpflgaa", sum := "37d10afb13c8a0d809998b657417915f24415c83a9e2314fa59722eea2664d2f", func := "sallyport/sallyportlaw8.CsrViews", spec := "csrViews", apart := false, narrowed := true }
def CsrViewsUptoSaid : Prop := csrViewsUptoRow.holds Try.pinned (OpenSpec.upto csrViewsSpec)

/-- 'sallyportlaw8.CsrNumbers', WHERE WHAT IT READS IS OF BULK AT MOST 1048576: true; the input reads as it did. -/
def csrNumbersUptoRow : OpenClaim := { program := "ytdfafnelmpflgaa", sum := "37d10afb13c8a0d809998b657417915f24415c83a9e2314fa59722eea2664d2f", func := "sallyport/sallyportlaw8.CsrNumbers", spec := "csrNumbers", apart := false, narrowed := true }
def CsrNumbersUptoSaid : Prop := csrNumbersUptoRow.holds Try.pinned (OpenSpec.upto csrNumbersSpec)

/-- 'sallyportlaw8.CsrGuests', WHERE WHAT IT READS IS OF BULK AT MOST 1048576: true; the input reads as it did. -/
def csrGuestsUptoRow : OpenClaim := { program := "ytdfafnelmpflgaa", sum := "37d10afb13c8a0d809998b657417915f24415c83a9e2314fa59722eea2664d2f", func := "sallyport/sallyportlaw8.CsrGuests", spec := "csrGuests", apart := false, narrowed := true }
def CsrGuestsUptoSaid : Prop := csrGuestsUptoRow.holds Try.pinned (OpenSpec.upto csrGuestsSpec)

/-- 'sallyportlaw8.CsrPending', WHERE WHAT IT READS IS OF BULK AT MOST 1048576: true; the input reads as it did. -/
def csrPendingUptoRow : OpenClaim := { program := "ytdfafnelmpflgaa", sum := "37d10afb13c8a0d809998b657417915f24415c83a9e2314fa59722eea2664d2f", func := "sallyport/sallyportlaw8.CsrPending", spec := "csrPending", apart := false, narrowed := true }
def CsrPendingUptoSaid : Prop := csrPendingUptoRow.holds Try.pinned (OpenSpec.upto csrPendingSpec)

/-- 'sallyportlaw9.LegalTells', WHERE WHAT IT READS IS OF BULK AT MOST 1048576: true; the input reads as it did. -/
def legalTellsUptoRow : OpenClaim := { program := "ytdfafnelmpflgaa", sum := "37d10afb13c8a0d809998b657417915f24415c83a9e2314fa59722eea2664d2f", func := "sallyport/sallyportlaw9.LegalTells", spec := "legalTells", apart := false, narrowed := true }
def LegalTellsUptoSaid : Prop := legalTellsUptoRow.holds Try.pinned (OpenSpec.upto legalTellsSpec)

/-- 'sallyportlaw9.LegalMore', WHERE WHAT IT READS IS OF BULK AT MOST 1048576: true; the input reads as it did. -/
def legalMoreUptoRow : OpenClaim := { program := "ytdfafnelmpflgaa", sum := "37d10afb13c8a0d809998b657417915f24415c83a9e2314fa59722eea2664d2f", func := "sallyport/sallyportlaw9.LegalMore", spec := "legalMore", apart := false, narrowed := true }
def LegalMoreUptoSaid : Prop := legalMoreUptoRow.holds Try.pinned (OpenSpec.upto legalMoreSpec)

/-- 'sallyportlaw9.LegalGuest', WHERE WHAT IT READS IS OF BULK AT MOST 1048576: true; the input reads as it did. -/
def legalGuestUptoRow : OpenClaim := { program := "ytdfafnelmpflgaa", sum := "37d10afb13c8a0d809998b657417915f24415c83a9e2314fa59722eea2664d2f", func := "sallyport/sallyportlaw9.LegalGuest", spec := "legalGuest", apart := false, narrowed := true }
def LegalGuestUptoSaid : Prop := legalGuestUptoRow.holds Try.pinned (OpenSpec.upto legalGuestSpec)

/-- 'sallyportlaw9.LegalPlain', WHERE WHAT IT READS IS OF BULK AT MOST 1048576: true; the input reads as it did. -/
def legalPlainUptoRow : OpenClaim := { program := "ytdfafnelmpflgaa", sum := "37d10afb13c8a0d809998b657417915f24415c83a9e2314fa59722eea2664d2f", func := "sallyport/sallyportlaw9.LegalPlain", spec := "legalPlain", apart := false, narrowed := true }
def LegalPlainUptoSaid : Prop := legalPlainUptoRow.holds Try.pinned (OpenSpec.upto legalPlainSpec)

/-- 'sallyportlaw9.LegalReads', WHERE WHAT IT READS IS OF BULK AT MOST 1048576: true; the input reads as it did. -/
def legalReadsUptoRow : OpenClaim := { program := "ytdfafnelmpflgaa", sum := "37d10afb13c8a0d809998b657417915f24415c83a9e2314fa59722eea2664d2f", func := "sallyport/sallyportlaw9.LegalReads", spec := "legalReads", apart := false, narrowed := true }
def LegalReadsUptoSaid : Prop := legalReadsUptoRow.holds Try.pinned (OpenSpec.upto legalReadsSpec)

end Rows
end Go.Proofs.Ytdfafnelmpflgaa
