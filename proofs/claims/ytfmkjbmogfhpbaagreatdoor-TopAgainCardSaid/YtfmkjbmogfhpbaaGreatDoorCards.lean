/-
  DERIVED. GIVEN WITH THE SEED: THE CARDS: each row of YtfmkjbmogfhpbaaGreatDoorRows.lean that lists a variable, with what it lists TIED to the program's text (the seventh form; the later family's looks); each row that meets fmt, with fmt's text TOLD by the authors' own Lean function (tested against real Go, not proved from fmt's source: count such statements apart). THE CARD IS WHAT COUNTS. Prove the row's statement (the work); the ties are given (YtfmkjbmogfhpbaaGreatDoorTie.lean); close each card by the builder's one call (the guide's Derived/Test/ToyasCard.lean, 'card_holds'). Laid BY PROGRAM, IN A SANDBOX (cutbox-door.mjs). By AI agents, Wed Nov 11 2026. No macro, syntax, notation, axiom, sorry.
-/
import Derived.Test.YtfmkjbmogfhpbaaGreatDoorRows
import GoSem.ClaimSeven
namespace Go.Proofs.YtfmkjbmogfhpbaaGreatDoor
namespace Rows

/-- THE TIED CARD OF 'besomtop.TopSame'. -/
def topSameCard : Claim7 := { stood := { row := topSameRow, standIns := [], harness := (true, "305bb284db5cd0502c626c3db9abb070290a4c9c76f37517e2408058e87fbefb"), looks := false }, kinds := [], alts := [], laidByText := true, laidKinds := [.data], laidTests := true, laidLooks := .later }
def TopSameCardSaid : Prop := Claim7.holds Tryz.pinned (.plain (OpenSpec.ofChange topSameSpec)) topSameCard

/-- THE TIED CARD OF 'besomtop.TopAgain'. -/
def topAgainCard : Claim7 := { stood := { row := topAgainRow, standIns := [], harness := (true, "305bb284db5cd0502c626c3db9abb070290a4c9c76f37517e2408058e87fbefb"), looks := false }, kinds := [], alts := [], laidByText := true, laidKinds := [.data], laidTests := true, laidLooks := .later }
def TopAgainCardSaid : Prop := Claim7.holds Tryz.pinned (.plain (OpenSpec.ofChange topAgainSpec)) topAgainCard

/-- THE SECOND FORM's CARD OF 'besomtop.TopSame'. -/
def topSameUptoCard : Claim7 := { stood := { row := topSameUptoRow, standIns := [], harness := (true, "305bb284db5cd0502c626c3db9abb070290a4c9c76f37517e2408058e87fbefb"), looks := false }, kinds := [], alts := [], laidByText := true, laidKinds := [.data], laidTests := true, laidLooks := .later }
def TopSameUptoCardSaid : Prop := Claim7.holds Tryz.pinned (.plain (OpenSpec.upto topSameSpec)) topSameUptoCard

/-- THE SECOND FORM's CARD OF 'besomtop.TopAgain'. -/
def topAgainUptoCard : Claim7 := { stood := { row := topAgainUptoRow, standIns := [], harness := (true, "305bb284db5cd0502c626c3db9abb070290a4c9c76f37517e2408058e87fbefb"), looks := false }, kinds := [], alts := [], laidByText := true, laidKinds := [.data], laidTests := true, laidLooks := .later }
def TopAgainUptoCardSaid : Prop := Claim7.holds Tryz.pinned (.plain (OpenSpec.upto topAgainSpec)) topAgainUptoCard
end Rows
end Go.Proofs.YtfmkjbmogfhpbaaGreatDoor
