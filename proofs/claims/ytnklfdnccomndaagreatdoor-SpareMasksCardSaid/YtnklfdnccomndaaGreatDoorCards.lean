/-
  DERIVED. GIVEN WITH THE SEED: THE CARDS: each row of YtnklfdnccomndaaGreatDoorRows.lean that lists a variable, with what it lists TIED to the program's text (the seventh form; the later family's looks); each row that meets fmt, with fmt's text TOLD by the authors' own Lean function (tested against real Go, not proved from fmt's source: count such statements apart). THE CARD IS WHAT COUNTS. Prove the row's statement (the work); the ties are given (YtnklfdnccomndaaGreatDoorTie.lean); close each card by the builder's one call (the guide's Derived/Test/ToyasCard.lean, 'card_holds'). Laid BY PROGRAM, IN A SANDBOX (cutbox-door.mjs). By AI agents, Wed Nov 11 2026. No macro, syntax, notation, axiom, sorry.
-/
import Derived.Test.YtnklfdnccomndaaGreatDoorRows
import GoSem.ClaimSeven
namespace Go.Proofs.YtnklfdnccomndaaGreatDoor
namespace Rows

/-- THE TIED CARD OF 'hopmeshlaw44.SpareMasks'. -/
def spareMasksCard : Claim7 := { stood := { row := spareMasksRow, standIns := [], harness := (true, "ac4cd7aea182e06f52320034ee9d5dfeaefa0c2b6ba3976da097d19635e1168a"), looks := false }, kinds := [], alts := [], laidByText := true, laidKinds := [.data, .data, .data], laidTests := true, laidLooks := .later }
def SpareMasksCardSaid : Prop := Claim7.holds Tryz.pinned (.plain (OpenSpec.ofChange spareMasksSpec)) spareMasksCard

/-- THE SECOND FORM's CARD OF 'hopmeshlaw44.SpareMasks'. -/
def spareMasksUptoCard : Claim7 := { stood := { row := spareMasksUptoRow, standIns := [], harness := (true, "ac4cd7aea182e06f52320034ee9d5dfeaefa0c2b6ba3976da097d19635e1168a"), looks := false }, kinds := [], alts := [], laidByText := true, laidKinds := [.data, .data, .data], laidTests := true, laidLooks := .later }
def SpareMasksUptoCardSaid : Prop := Claim7.holds Tryz.pinned (.plain (OpenSpec.upto spareMasksSpec)) spareMasksUptoCard
end Rows
end Go.Proofs.YtnklfdnccomndaaGreatDoor
