/-
  DERIVED. GIVEN WITH THE SEED: THE CARDS: each row of YtadgamkgpgiodaaGreatDoorRows.lean that lists a variable, with what it lists TIED to the program's text (the seventh form; the later family's looks); each row that meets fmt, with fmt's text TOLD by the authors' own Lean function (tested against real Go, not proved from fmt's source: count such statements apart). THE CARD IS WHAT COUNTS. Prove the row's statement (the work); the ties are given (YtadgamkgpgiodaaGreatDoorTie.lean); close each card by the builder's one call (the guide's Derived/Test/ToyasCard.lean, 'card_holds'). Laid BY PROGRAM, IN A SANDBOX (cutbox-door.mjs). By AI agents, Wed Nov 11 2026. No macro, syntax, notation, axiom, sorry.
-/
import Derived.Test.YtadgamkgpgiodaaGreatDoorRows
import GoSem.ClaimSeven
namespace Go.Proofs.YtadgamkgpgiodaaGreatDoor
namespace Rows

/-- THE TIED CARD OF 'hopmeshlaw36.RunBreaks'. -/
def runBreaksCard : Claim7 := { stood := { row := runBreaksRow, standIns := [], harness := (true, "f8aedf43846dca98d6e8d3d93f578e3dea27b9b928fd506e5a08c9c8fa381d90"), looks := false }, kinds := [], alts := [], laidByText := true, laidKinds := [.data, .data, .data], laidTests := true, laidLooks := .later }
def RunBreaksCardSaid : Prop := Claim7.holds Tryz.pinned (.plain (OpenSpec.ofChange runBreaksSpec)) runBreaksCard

/-- THE SECOND FORM's CARD OF 'hopmeshlaw36.RunBreaks'. -/
def runBreaksUptoCard : Claim7 := { stood := { row := runBreaksUptoRow, standIns := [], harness := (true, "f8aedf43846dca98d6e8d3d93f578e3dea27b9b928fd506e5a08c9c8fa381d90"), looks := false }, kinds := [], alts := [], laidByText := true, laidKinds := [.data, .data, .data], laidTests := true, laidLooks := .later }
def RunBreaksUptoCardSaid : Prop := Claim7.holds Tryz.pinned (.plain (OpenSpec.upto runBreaksSpec)) runBreaksUptoCard
end Rows
end Go.Proofs.YtadgamkgpgiodaaGreatDoor
