/-
  DERIVED. GIVEN WITH THE SEED: THE CARDS: each row of YtmbbmcoeedoafaaGreatDoorRows.lean that lists a variable, with what it lists TIED to the program's text (the seventh form; the later family's looks); each row that meets fmt, with fmt's text TOLD by the authors' own Lean function (tested against real Go, not proved from fmt's source: count such statements apart). THE CARD IS WHAT COUNTS. Prove the row's statement (the work); the ties are given (YtmbbmcoeedoafaaGreatDoorTie.lean); close each card by the builder's one call (the guide's Derived/Test/ToyasCard.lean, 'card_holds'). Laid BY PROGRAM, IN A SANDBOX (cutbox-door.mjs). By AI agents, Wed Nov 11 2026. No macro, syntax, notation, axiom, sorry.
-/
import Derived.Test.YtmbbmcoeedoafaaGreatDoorRows
import GoSem.ClaimSeven
namespace Go.Proofs.YtmbbmcoeedoafaaGreatDoor
namespace Rows

/-- THE TIED CARD OF 'hopmeshlaw44.SpareBack'. -/
def spareBackCard : Claim7 := { stood := { row := spareBackRow, standIns := [], harness := (true, "2239bd1ecbc6b9b6a75279e5e9fedd0f4cd3661c912a06b0e570424c19a95043"), looks := false }, kinds := [], alts := [], laidByText := true, laidKinds := [.data, .data, .data], laidTests := true, laidLooks := .later }
def SpareBackCardSaid : Prop := Claim7.holds Tryz.pinned (.plain (OpenSpec.ofChange spareBackSpec)) spareBackCard

/-- THE SECOND FORM's CARD OF 'hopmeshlaw44.SpareBack'. -/
def spareBackUptoCard : Claim7 := { stood := { row := spareBackUptoRow, standIns := [], harness := (true, "2239bd1ecbc6b9b6a75279e5e9fedd0f4cd3661c912a06b0e570424c19a95043"), looks := false }, kinds := [], alts := [], laidByText := true, laidKinds := [.data, .data, .data], laidTests := true, laidLooks := .later }
def SpareBackUptoCardSaid : Prop := Claim7.holds Tryz.pinned (.plain (OpenSpec.upto spareBackSpec)) spareBackUptoCard
end Rows
end Go.Proofs.YtmbbmcoeedoafaaGreatDoor
