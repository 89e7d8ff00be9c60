/-
  DERIVED. GIVEN WITH THE SEED: THE CARDS: each row of YtjnpaegoobclfaaDoorRows.lean that lists a variable, with what it lists TIED to the program's text (the seventh form; the later family's looks); each row that meets fmt, with fmt's text TOLD by the authors' own Lean function (tested against real Go, not proved from fmt's source: count such statements apart). THE CARD IS WHAT COUNTS. Prove the row's statement (the work); the ties are given (YtjnpaegoobclfaaDoorTie.lean); close each card by the builder's one call (the guide's Derived/Test/ToyasCard.lean, 'card_holds'). Laid BY PROGRAM, IN A SANDBOX (cutbox-door.mjs). By AI agents, Wed Nov 11 2026. No macro, syntax, notation, axiom, sorry.
-/
import Derived.Test.YtjnpaegoobclfaaDoorRows
import GoSem.ClaimSeven
namespace Go.Proofs.YtjnpaegoobclfaaDoor
namespace Rows

/-- THE TIED CARD OF 'sallyportlaw10.PteTells'. -/
def pteTellsCard : Claim7 := { stood := { row := pteTellsRow, standIns := [], harness := (true, "ce2b199519df1b1ca2a532c4abdd79ac3a47fe74d77171a561fa3683c2e2c63f"), looks := false }, kinds := [], alts := [], laidByText := true, laidKinds := [.data, .data, .data], laidTests := true, laidLooks := .later }
def PteTellsCardSaid : Prop := Claim7.holds Tryd.pinned (.plain (OpenSpec.ofChange pteTellsSpec)) pteTellsCard

/-- THE TIED CARD OF 'sallyportlaw10.PteLess'. -/
def pteLessCard : Claim7 := { stood := { row := pteLessRow, standIns := [], harness := (true, "ce2b199519df1b1ca2a532c4abdd79ac3a47fe74d77171a561fa3683c2e2c63f"), looks := false }, kinds := [], alts := [], laidByText := true, laidKinds := [.data, .data, .data], laidTests := true, laidLooks := .later }
def PteLessCardSaid : Prop := Claim7.holds Tryd.pinned (.plain (OpenSpec.ofChange pteLessSpec)) pteLessCard

/-- THE TIED CARD OF 'sallyportlaw10.PteMade'. -/
def pteMadeCard : Claim7 := { stood := { row := pteMadeRow, standIns := [], harness := (true, "ce2b199519df1b1ca2a532c4abdd79ac3a47fe74d77171a561fa3683c2e2c63f"), looks := false }, kinds := [], alts := [], laidByText := true, laidKinds := [.data, .data, .data], laidTests := true, laidLooks := .later }
def PteMadeCardSaid : Prop := Claim7.holds Tryd.pinned (.plain (OpenSpec.ofChange pteMadeSpec)) pteMadeCard

/-- THE TIED CARD OF 'sallyportlaw10.PteUsers'. -/
def pteUsersCard : Claim7 := { stood := { row := pteUsersRow, standIns := [], harness := (true, "ce2b199519df1b1ca2a532c4abdd79ac3a47fe74d77171a561fa3683c2e2c63f"), looks := false }, kinds := [], alts := [], laidByText := true, laidKinds := [.data, .data, .data], laidTests := true, laidLooks := .later }
def PteUsersCardSaid : Prop := Claim7.holds Tryd.pinned (.plain (OpenSpec.ofChange pteUsersSpec)) pteUsersCard

/-- THE SECOND FORM's CARD OF 'sallyportlaw10.PteTells'. -/
def pteTellsUptoCard : Claim7 := { stood := { row := pteTellsUptoRow, standIns := [], harness := (true, "ce2b199519df1b1ca2a532c4abdd79ac3a47fe74d77171a561fa3683c2e2c63f"), looks := false }, kinds := [], alts := [], laidByText := true, laidKinds := [.data, .data, .data], laidTests := true, laidLooks := .later }
def PteTellsUptoCardSaid : Prop := Claim7.holds Tryd.pinned (.plain (OpenSpec.upto pteTellsSpec)) pteTellsUptoCard

/-- THE SECOND FORM's CARD OF 'sallyportlaw10.PteLess'. -/
def pteLessUptoCard : Claim7 := { stood := { row := pteLessUptoRow, standIns := [], harness := (true, "ce2b199519df1b1ca2a532c4abdd79ac3a47fe74d77171a561fa3683c2e2c63f"), looks := false }, kinds := [], alts := [], laidByText := true, laidKinds := [.data, .data, .data], laidTests := true, laidLooks := .later }
def PteLessUptoCardSaid : Prop := Claim7.holds Tryd.pinned (.plain (OpenSpec.upto pteLessSpec)) pteLessUptoCard

/-- THE SECOND FORM's CARD OF 'sallyportlaw10.PteMade'. -/
def pteMadeUptoCard : Claim7 := { stood := { row := pteMadeUptoRow, standIns := [], harness := (true, "ce2b199519df1b1ca2a532c4abdd79ac3a47fe74d77171a561fa3683c2e2c63f"), looks := false }, kinds := [], alts := [], laidByText := true, laidKinds := [.data, .data, .data], laidTests := true, laidLooks := .later }
def PteMadeUptoCardSaid : Prop := Claim7.holds Tryd.pinned (.plain (OpenSpec.upto pteMadeSpec)) pteMadeUptoCard

/-- THE SECOND FORM's CARD OF 'sallyportlaw10.PteUsers'. -/
def pteUsersUptoCard : Claim7 := { stood := { row := pteUsersUptoRow, standIns := [], harness := (true, "ce2b199519df1b1ca2a532c4abdd79ac3a47fe74d77171a561fa3683c2e2c63f"), looks := false }, kinds := [], alts := [], laidByText := true, laidKinds := [.data, .data, .data], laidTests := true, laidLooks := .later }
def PteUsersUptoCardSaid : Prop := Claim7.holds Tryd.pinned (.plain (OpenSpec.upto pteUsersSpec)) pteUsersUptoCard
end Rows
end Go.Proofs.YtjnpaegoobclfaaDoor
