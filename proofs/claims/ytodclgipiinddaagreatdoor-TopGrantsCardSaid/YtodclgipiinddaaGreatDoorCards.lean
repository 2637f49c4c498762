/-
  DERIVED. GIVEN WITH THE SEED: THE CARDS: each row of YtodclgipiinddaaGreatDoorRows.lean that lists a variable, with what it lists TIED to the program's text (the seventh form; the later family's looks); each row that meets fmt, with fmt's text TOLD by the authors' own Lean function (tested against real Go, not proved from fmt's source: count such statements apart). THE CARD IS WHAT COUNTS. Prove the row's statement (the work); the ties are given (YtodclgipiinddaaGreatDoorTie.lean); close each card by the builder's one call (the guide's Derived/Test/ToyasCard.lean, 'card_holds'). Laid BY PROGRAM, IN A SANDBOX (cutbox-door.mjs). By AI agents, Wed Nov 11 2026. No macro, syntax, notation, axiom, sorry.
-/
import Derived.Test.YtodclgipiinddaaGreatDoorRows
import GoSem.ClaimSeven
namespace Go.Proofs.YtodclgipiinddaaGreatDoor
namespace Rows

/-- THE TIED CARD OF 'abatistop.TopGrants'. -/
def topGrantsCard : Claim7 := { stood := { row := topGrantsRow, standIns := [], harness := (true, "804f984411aeac384f04acc9eceafe2262a064e1ad03d7d40a081889340eebf9"), looks := true }, kinds := [], alts := [], laidByText := true, laidKinds := [.data, .data, .data, .data, .pinned], laidTests := true, laidLooks := .later }
def TopGrantsCardSaid : Prop := Claim7.holds Tryz.pinned (.plain (OpenSpec.ofChange topGrantsSpec)) topGrantsCard

/-- THE SECOND FORM's CARD OF 'abatistop.TopGrants'. -/
def topGrantsUptoCard : Claim7 := { stood := { row := topGrantsUptoRow, standIns := [], harness := (true, "804f984411aeac384f04acc9eceafe2262a064e1ad03d7d40a081889340eebf9"), looks := true }, kinds := [], alts := [], laidByText := true, laidKinds := [.data, .data, .data, .data, .pinned], laidTests := true, laidLooks := .later }
def TopGrantsUptoCardSaid : Prop := Claim7.holds Tryz.pinned (.plain (OpenSpec.upto topGrantsSpec)) topGrantsUptoCard
end Rows
end Go.Proofs.YtodclgipiinddaaGreatDoor
