/-
  DERIVED. GIVEN WITH THE SEED: THE CARDS: each row of YtjlemnimmbblkaaGreatDoorRows.lean that lists a variable, with what it lists TIED to the program's text (the seventh form; the later family's looks); each row that meets fmt, with fmt's text TOLD by the authors' own Lean function (tested against real Go, not proved from fmt's source: count such statements apart). THE CARD IS WHAT COUNTS. Prove the row's statement (the work); the ties are given (YtjlemnimmbblkaaGreatDoorTie.lean); close each card by the builder's one call (the guide's Derived/Test/ToyasCard.lean, 'card_holds'). Laid BY PROGRAM, IN A SANDBOX (cutbox-door.mjs). By AI agents, Wed Nov 11 2026. No macro, syntax, notation, axiom, sorry.
-/
import Derived.Test.YtjlemnimmbblkaaGreatDoorRows
import GoSem.ClaimSeven
namespace Go.Proofs.YtjlemnimmbblkaaGreatDoor
namespace Rows

/-- THE TIED CARD OF 'hopmeshlaw37.BoundHolds'. -/
def boundHoldsCard : Claim7 := { stood := { row := boundHoldsRow, standIns := [], harness := (true, "b48d6c9c4284d6fac547874bb379386512c7203c0ab027788987f5bd052a3454"), looks := false }, kinds := [], alts := [], laidByText := true, laidKinds := [.data, .data, .data], laidTests := true, laidLooks := .later }
def BoundHoldsCardSaid : Prop := Claim7.holds Tryz.pinned (.plain (OpenSpec.ofChange boundHoldsSpec)) boundHoldsCard

/-- THE SECOND FORM's CARD OF 'hopmeshlaw37.BoundHolds'. -/
def boundHoldsUptoCard : Claim7 := { stood := { row := boundHoldsUptoRow, standIns := [], harness := (true, "b48d6c9c4284d6fac547874bb379386512c7203c0ab027788987f5bd052a3454"), looks := false }, kinds := [], alts := [], laidByText := true, laidKinds := [.data, .data, .data], laidTests := true, laidLooks := .later }
def BoundHoldsUptoCardSaid : Prop := Claim7.holds Tryz.pinned (.plain (OpenSpec.upto boundHoldsSpec)) boundHoldsUptoCard
end Rows
end Go.Proofs.YtjlemnimmbblkaaGreatDoor
