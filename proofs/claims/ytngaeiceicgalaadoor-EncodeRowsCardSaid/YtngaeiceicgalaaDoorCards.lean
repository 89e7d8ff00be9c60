/-
  DERIVED. GIVEN WITH THE SEED: THE CARDS: each row of YtngaeiceicgalaaDoorRows.lean that lists a variable, with what it lists TIED to the program's text (the seventh form; the later family's looks); each row that meets fmt, with fmt's text TOLD by the authors' own Lean function (tested against real Go, not proved from fmt's source: count such statements apart). THE CARD IS WHAT COUNTS. Prove the row's statement (the work); the ties are given (YtngaeiceicgalaaDoorTie.lean); close each card by the builder's one call (the guide's Derived/Test/ToyasCard.lean, 'card_holds'). Laid BY PROGRAM, IN A SANDBOX (cutbox-door.mjs). By AI agents, Wed Nov 11 2026. No macro, syntax, notation, axiom, sorry.
-/
import Derived.Test.YtngaeiceicgalaaDoorRows
import GoSem.ClaimSeven
namespace Go.Proofs.YtngaeiceicgalaaDoor
namespace Rows

/-- THE TIED CARD OF 'sallyportlaw4.EncodeTells'. -/
def encodeTellsCard : Claim7 := { stood := { row := encodeTellsRow, standIns := [], harness := (true, "e85b471533840e3e58463478965a9a1b2055fdc93316cd0988a16f56ec8704d9"), looks := false }, kinds := [], alts := [], laidByText := true, laidKinds := [.data, .data, .data], laidTests := true, laidLooks := .later }
def EncodeTellsCardSaid : Prop := Claim7.holds Tryd.pinned (.plain (OpenSpec.ofChange encodeTellsSpec)) encodeTellsCard

/-- THE TIED CARD OF 'sallyportlaw4.EncodeRows'. -/
def encodeRowsCard : Claim7 := { stood := { row := encodeRowsRow, standIns := [], harness := (true, "e85b471533840e3e58463478965a9a1b2055fdc93316cd0988a16f56ec8704d9"), looks := false }, kinds := [], alts := [], laidByText := true, laidKinds := [.data, .data, .data], laidTests := true, laidLooks := .later }
def EncodeRowsCardSaid : Prop := Claim7.holds Tryd.pinned (.plain (OpenSpec.ofChange encodeRowsSpec)) encodeRowsCard

/-- THE TIED CARD OF 'sallyportlaw4.EncodeApart'. -/
def encodeApartCard : Claim7 := { stood := { row := encodeApartRow, standIns := [], harness := (true, "e85b471533840e3e58463478965a9a1b2055fdc93316cd0988a16f56ec8704d9"), looks := false }, kinds := [], alts := [], laidByText := true, laidKinds := [.data, .data, .data], laidTests := true, laidLooks := .later }
def EncodeApartCardSaid : Prop := Claim7.holds Tryd.pinned (.plain (OpenSpec.ofChange encodeApartSpec)) encodeApartCard

/-- THE TIED CARD OF 'sallyportlaw4.EncodeJumps'. -/
def encodeJumpsCard : Claim7 := { stood := { row := encodeJumpsRow, standIns := [], harness := (true, "e85b471533840e3e58463478965a9a1b2055fdc93316cd0988a16f56ec8704d9"), looks := false }, kinds := [], alts := [], laidByText := true, laidKinds := [.data, .data, .data], laidTests := true, laidLooks := .later }
def EncodeJumpsCardSaid : Prop := Claim7.holds Tryd.pinned (.plain (OpenSpec.ofChange encodeJumpsSpec)) encodeJumpsCard

/-- THE TIED CARD OF 'sallyportlaw4.EncodeTexts'. -/
def encodeTextsCard : Claim7 := { stood := { row := encodeTextsRow, standIns := [], harness := (true, "e85b471533840e3e58463478965a9a1b2055fdc93316cd0988a16f56ec8704d9"), looks := false }, kinds := [], alts := [], laidByText := true, laidKinds := [.data, .data, .data], laidTests := true, laidLooks := .later }
def EncodeTextsCardSaid : Prop := Claim7.holds Tryd.pinned (.plain (OpenSpec.ofChange encodeTextsSpec)) encodeTextsCard

/-- THE TIED CARD OF 'sallyportlaw4.EncodeBack'. -/
def encodeBackCard : Claim7 := { stood := { row := encodeBackRow, standIns := [], harness := (true, "e85b471533840e3e58463478965a9a1b2055fdc93316cd0988a16f56ec8704d9"), looks := false }, kinds := [], alts := [], laidByText := true, laidKinds := [.data, .data, .data], laidTests := true, laidLooks := .later }
def EncodeBackCardSaid : Prop := Claim7.holds Tryd.pinned (.plain (OpenSpec.ofChange encodeBackSpec)) encodeBackCard

/-- THE SECOND FORM's CARD OF 'sallyportlaw4.EncodeTells'. -/
def encodeTellsUptoCard : Claim7 := { stood := { row := encodeTellsUptoRow, standIns := [], harness := (true, "e85b471533840e3e58463478965a9a1b2055fdc93316cd0988a16f56ec8704d9"), looks := false }, kinds := [], alts := [], laidByText := true, laidKinds := [.data, .data, .data], laidTests := true, laidLooks := .later }
def EncodeTellsUptoCardSaid : Prop := Claim7.holds Tryd.pinned (.plain (OpenSpec.upto encodeTellsSpec)) encodeTellsUptoCard

/-- THE SECOND FORM's CARD OF 'sallyportlaw4.EncodeRows'. -/
def encodeRowsUptoCard : Claim7 := { stood := { row := encodeRowsUptoRow, standIns := [], harness := (true, "e85b471533840e3e58463478965a9a1b2055fdc93316cd0988a16f56ec8704d9"), looks := false }, kinds := [], alts := [], laidByText := true, laidKinds := [.data, .data, .data], laidTests := true, laidLooks := .later }
def EncodeRowsUptoCardSaid : Prop := Claim7.holds Tryd.pinned (.plain (OpenSpec.upto encodeRowsSpec)) encodeRowsUptoCard

/-- THE SECOND FORM's CARD OF 'sallyportlaw4.EncodeApart'. -/
def encodeApartUptoCard : Claim7 := { stood := { row := encodeApartUptoRow, standIns := [], harness := (true, "e85b471533840e3e58463478965a9a1b2055fdc93316cd0988a16f56ec8704d9"), looks := false }, kinds := [], alts := [], laidByText := true, laidKinds := [.data, .data, .data], laidTests := true, laidLooks := .later }
def EncodeApartUptoCardSaid : Prop := Claim7.holds Tryd.pinned (.plain (OpenSpec.upto encodeApartSpec)) encodeApartUptoCard

/-- THE SECOND FORM's CARD OF 'sallyportlaw4.EncodeJumps'. -/
def encodeJumpsUptoCard : Claim7 := { stood := { row := encodeJumpsUptoRow, standIns := [], harness := (true, "e85b471533840e3e58463478965a9a1b2055fdc93316cd0988a16f56ec8704d9"), looks := false }, kinds := [], alts := [], laidByText := true, laidKinds := [.data, .data, .data], laidTests := true, laidLooks := .later }
def EncodeJumpsUptoCardSaid : Prop := Claim7.holds Tryd.pinned (.plain (OpenSpec.upto encodeJumpsSpec)) encodeJumpsUptoCard

/-- THE SECOND FORM's CARD OF 'sallyportlaw4.EncodeTexts'. -/
def encodeTextsUptoCard : Claim7 := { stood := { row := encodeTextsUptoRow, standIns := [], harness := (true, "e85b471533840e3e58463478965a9a1b2055fdc93316cd0988a16f56ec8704d9"), looks := false }, kinds := [], alts := [], laidByText := true, laidKinds := [.data, .data, .data], laidTests := true, laidLooks := .later }
def EncodeTextsUptoCardSaid : Prop := Claim7.holds Tryd.pinned (.plain (OpenSpec.upto encodeTextsSpec)) encodeTextsUptoCard

/-- THE SECOND FORM's CARD OF 'sallyportlaw4.EncodeBack'. -/
def encodeBackUptoCard : Claim7 := { stood := { row := encodeBackUptoRow, standIns := [], harness := (true, "e85b471533840e3e58463478965a9a1b2055fdc93316cd0988a16f56ec8704d9"), looks := false }, kinds := [], alts := [], laidByText := true, laidKinds := [.data, .data, .data], laidTests := true, laidLooks := .later }
def EncodeBackUptoCardSaid : Prop := Claim7.holds Tryd.pinned (.plain (OpenSpec.upto encodeBackSpec)) encodeBackUptoCard
end Rows
end Go.Proofs.YtngaeiceicgalaaDoor
