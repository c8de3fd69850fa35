/-
  DERIVED. GIVEN WITH THE SEED: THE CARDS: each row of YtefnhecgmdilbaaGreatDoorRows.lean that lists a variable, with what it lists TIED to the program's text (the seventh form; the later family's looks); each row that meets fmt, with fmt's text TOLD by the authors' own Lean function (tested against real Go, not proved from fmt's source: count such statements apart). THE CARD IS WHAT COUNTS. Prove the row's statement (the work); the ties are given (YtefnhecgmdilbaaGreatDoorTie.lean); close each card by the builder's one call (the guide's Derived/Test/ToyasCard.lean, 'card_holds'). Laid BY PROGRAM, IN A SANDBOX (cutbox-door.mjs). By AI agents, Wed Nov 11 2026. No macro, syntax, notation, axiom, sorry.
-/
import Derived.Test.YtefnhecgmdilbaaGreatDoorRows
import GoSem.ClaimSeven
namespace Go.Proofs.YtefnhecgmdilbaaGreatDoor
namespace Rows

/-- THE TIED CARD OF 'hopmeshlaw44.SparePlaces'. -/
def sparePlacesCard : Claim7 := { stood := { row := sparePlacesRow, standIns := [], harness := (true, "fe5c226899587c13e0c7049363c24d6bb915f77118ed89611daceecf4b8e8681"), looks := false }, kinds := [], alts := [], laidByText := true, laidKinds := [.data, .data, .data], laidTests := true, laidLooks := .later }
def SparePlacesCardSaid : Prop := Claim7.holds Tryz.pinned (.plain (OpenSpec.ofChange sparePlacesSpec)) sparePlacesCard

/-- THE SECOND FORM's CARD OF 'hopmeshlaw44.SparePlaces'. -/
def sparePlacesUptoCard : Claim7 := { stood := { row := sparePlacesUptoRow, standIns := [], harness := (true, "fe5c226899587c13e0c7049363c24d6bb915f77118ed89611daceecf4b8e8681"), looks := false }, kinds := [], alts := [], laidByText := true, laidKinds := [.data, .data, .data], laidTests := true, laidLooks := .later }
def SparePlacesUptoCardSaid : Prop := Claim7.holds Tryz.pinned (.plain (OpenSpec.upto sparePlacesSpec)) sparePlacesUptoCard
end Rows
end Go.Proofs.YtefnhecgmdilbaaGreatDoor
