/-
  DERIVED. GIVEN WITH THE SEED: THE CARDS: each row of YtpdlbjnjdbgpaaaGreatDoorRows.lean that lists a variable, with what it lists TIED to the program's text (the seventh form; the later family's looks); each row that meets fmt, with fmt's text TOLD by the authors' own Lean function (tested against real Go, not proved from fmt's source: count such statements apart). THE CARD IS WHAT COUNTS. Prove the row's statement (the work); the ties are given (YtpdlbjnjdbgpaaaGreatDoorTie.lean); close each card by the builder's one call (the guide's Derived/Test/ToyasCard.lean, 'card_holds'). Laid BY PROGRAM, IN A SANDBOX (cutbox-door.mjs). By AI agents, Wed Nov 11 2026. No macro, syntax, notation, axiom, sorry.
-/
import Derived.Test.YtpdlbjnjdbgpaaaGreatDoorRows
import GoSem.ClaimSeven
namespace Go.Proofs.YtpdlbjnjdbgpaaaGreatDoor
namespace Rows

/-- THE TIED CARD OF 'hopmeshlaw41.AdmitTrims'. -/
def admitTrimsCard : Claim7 := { stood := { row := admitTrimsRow, standIns := [], harness := (true, "5b211b13e26db31108f3e3894480a9a37a659d6f31500ed33d9714c53b6a38c5"), looks := false }, kinds := [], alts := [], laidByText := true, laidKinds := [.data, .data, .data], laidTests := true, laidLooks := .later }
def AdmitTrimsCardSaid : Prop := Claim7.holds Tryz.pinned (.plain (OpenSpec.ofChange admitTrimsSpec)) admitTrimsCard

/-- THE TIED CARD OF 'hopmeshlaw41.AdmitAll'. -/
def admitAllCard : Claim7 := { stood := { row := admitAllRow, standIns := [], harness := (true, "5b211b13e26db31108f3e3894480a9a37a659d6f31500ed33d9714c53b6a38c5"), looks := false }, kinds := [], alts := [], laidByText := true, laidKinds := [.data, .data, .data], laidTests := true, laidLooks := .later }
def AdmitAllCardSaid : Prop := Claim7.holds Tryz.pinned (.plain (OpenSpec.ofChange admitAllSpec)) admitAllCard

/-- THE SECOND FORM's CARD OF 'hopmeshlaw41.AdmitTrims'. -/
def admitTrimsUptoCard : Claim7 := { stood := { row := admitTrimsUptoRow, standIns := [], harness := (true, "5b211b13e26db31108f3e3894480a9a37a659d6f31500ed33d9714c53b6a38c5"), looks := false }, kinds := [], alts := [], laidByText := true, laidKinds := [.data, .data, .data], laidTests := true, laidLooks := .later }
def AdmitTrimsUptoCardSaid : Prop := Claim7.holds Tryz.pinned (.plain (OpenSpec.upto admitTrimsSpec)) admitTrimsUptoCard

/-- THE SECOND FORM's CARD OF 'hopmeshlaw41.AdmitAll'. -/
def admitAllUptoCard : Claim7 := { stood := { row := admitAllUptoRow, standIns := [], harness := (true, "5b211b13e26db31108f3e3894480a9a37a659d6f31500ed33d9714c53b6a38c5"), looks := false }, kinds := [], alts := [], laidByText := true, laidKinds := [.data, .data, .data], laidTests := true, laidLooks := .later }
def AdmitAllUptoCardSaid : Prop := Claim7.holds Tryz.pinned (.plain (OpenSpec.upto admitAllSpec)) admitAllUptoCard
end Rows
end Go.Proofs.YtpdlbjnjdbgpaaaGreatDoor
