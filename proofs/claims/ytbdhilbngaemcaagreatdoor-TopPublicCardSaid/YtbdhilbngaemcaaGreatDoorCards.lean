/-
  DERIVED. GIVEN WITH THE SEED: THE CARDS: each row of YtbdhilbngaemcaaGreatDoorRows.lean that lists a variable, with what it lists TIED to the program's text (the seventh form; the later family's looks); each row that meets fmt, with fmt's text TOLD by the authors' own Lean function (tested against real Go, not proved from fmt's source: count such statements apart). THE CARD IS WHAT COUNTS. Prove the row's statement (the work); the ties are given (YtbdhilbngaemcaaGreatDoorTie.lean); close each card by the builder's one call (the guide's Derived/Test/ToyasCard.lean, 'card_holds'). Laid BY PROGRAM, IN A SANDBOX (cutbox-door.mjs). By AI agents, Wed Nov 11 2026. No macro, syntax, notation, axiom, sorry.
-/
import Derived.Test.YtbdhilbngaemcaaGreatDoorRows
import GoSem.ClaimSeven
namespace Go.Proofs.YtbdhilbngaemcaaGreatDoor
namespace Rows

/-- THE TIED CARD OF 'abatistop.TopPublic'. -/
def topPublicCard : Claim7 := { stood := { row := topPublicRow, standIns := [], harness := (true, "740cdf37b8a9d9395c2204427350ee76e766e08635369b4730c25f4ffbef5bb3"), looks := true }, kinds := [], alts := [], laidByText := true, laidKinds := [.data, .data, .data, .data, .pinned], laidTests := true, laidLooks := .later }
def TopPublicCardSaid : Prop := Claim7.holds Tryz.pinned (.plain (OpenSpec.ofChange topPublicSpec)) topPublicCard

/-- THE SECOND FORM's CARD OF 'abatistop.TopPublic'. -/
def topPublicUptoCard : Claim7 := { stood := { row := topPublicUptoRow, standIns := [], harness := (true, "740cdf37b8a9d9395c2204427350ee76e766e08635369b4730c25f4ffbef5bb3"), looks := true }, kinds := [], alts := [], laidByText := true, laidKinds := [.data, .data, .data, .data, .pinned], laidTests := true, laidLooks := .later }
def TopPublicUptoCardSaid : Prop := Claim7.holds Tryz.pinned (.plain (OpenSpec.upto topPublicSpec)) topPublicUptoCard
end Rows
end Go.Proofs.YtbdhilbngaemcaaGreatDoor
