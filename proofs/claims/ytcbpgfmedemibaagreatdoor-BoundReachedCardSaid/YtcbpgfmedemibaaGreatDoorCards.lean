/-
  DERIVED. GIVEN WITH THE SEED: THE CARDS: each row of YtcbpgfmedemibaaGreatDoorRows.lean that lists a variable, with what it lists TIED to the program's text (the seventh form; the later family's looks); each row that meets fmt, with fmt's text TOLD by the authors' own Lean function (tested against real Go, not proved from fmt's source: count such statements apart). THE CARD IS WHAT COUNTS. Prove the row's statement (the work); the ties are given (YtcbpgfmedemibaaGreatDoorTie.lean); close each card by the builder's one call (the guide's Derived/Test/ToyasCard.lean, 'card_holds'). Laid BY PROGRAM, IN A SANDBOX (cutbox-door.mjs). By AI agents, Wed Nov 11 2026. No macro, syntax, notation, axiom, sorry.
-/
import Derived.Test.YtcbpgfmedemibaaGreatDoorRows
import GoSem.ClaimSeven
namespace Go.Proofs.YtcbpgfmedemibaaGreatDoor
namespace Rows

/-- THE TIED CARD OF 'hopmeshlaw37.BoundWorst'. -/
def boundWorstCard : Claim7 := { stood := { row := boundWorstRow, standIns := [], harness := (true, "da3bebe9e75fba40b3ca6d67924c712b8512388a2235f4c898ee4d32b5eabd43"), looks := false }, kinds := [], alts := [], laidByText := true, laidKinds := [.data, .data, .data], laidTests := true, laidLooks := .later }
def BoundWorstCardSaid : Prop := Claim7.holds Tryz.pinned (.plain (OpenSpec.ofChange boundWorstSpec)) boundWorstCard

/-- THE TIED CARD OF 'hopmeshlaw41.AdmitRoom'. -/
def admitRoomCard : Claim7 := { stood := { row := admitRoomRow, standIns := [], harness := (true, "da3bebe9e75fba40b3ca6d67924c712b8512388a2235f4c898ee4d32b5eabd43"), looks := false }, kinds := [], alts := [], laidByText := true, laidKinds := [.data, .data, .data], laidTests := true, laidLooks := .later }
def AdmitRoomCardSaid : Prop := Claim7.holds Tryz.pinned (.plain (OpenSpec.ofChange admitRoomSpec)) admitRoomCard

/-- THE TIED CARD OF 'hopmeshlaw41.AdmitFills'. -/
def admitFillsCard : Claim7 := { stood := { row := admitFillsRow, standIns := [], harness := (true, "da3bebe9e75fba40b3ca6d67924c712b8512388a2235f4c898ee4d32b5eabd43"), looks := false }, kinds := [], alts := [], laidByText := true, laidKinds := [.data, .data, .data], laidTests := true, laidLooks := .later }
def AdmitFillsCardSaid : Prop := Claim7.holds Tryz.pinned (.plain (OpenSpec.ofChange admitFillsSpec)) admitFillsCard

/-- THE TIED CARD OF 'hopmeshlaw37.BoundReached'. -/
def boundReachedCard : Claim7 := { stood := { row := boundReachedRow, standIns := [], harness := (true, "da3bebe9e75fba40b3ca6d67924c712b8512388a2235f4c898ee4d32b5eabd43"), looks := false }, kinds := [], alts := [], laidByText := true, laidKinds := [.data, .data, .data], laidTests := true, laidLooks := .later }
def BoundReachedCardSaid : Prop := Claim7.holds Tryz.pinned (.plain (OpenSpec.ofChange boundReachedSpec)) boundReachedCard

/-- THE SECOND FORM's CARD OF 'hopmeshlaw37.BoundWorst'. -/
def boundWorstUptoCard : Claim7 := { stood := { row := boundWorstUptoRow, standIns := [], harness := (true, "da3bebe9e75fba40b3ca6d67924c712b8512388a2235f4c898ee4d32b5eabd43"), looks := false }, kinds := [], alts := [], laidByText := true, laidKinds := [.data, .data, .data], laidTests := true, laidLooks := .later }
def BoundWorstUptoCardSaid : Prop := Claim7.holds Tryz.pinned (.plain (OpenSpec.upto boundWorstSpec)) boundWorstUptoCard

/-- THE SECOND FORM's CARD OF 'hopmeshlaw41.AdmitRoom'. -/
def admitRoomUptoCard : Claim7 := { stood := { row := admitRoomUptoRow, standIns := [], harness := (true, "da3bebe9e75fba40b3ca6d67924c712b8512388a2235f4c898ee4d32b5eabd43"), looks := false }, kinds := [], alts := [], laidByText := true, laidKinds := [.data, .data, .data], laidTests := true, laidLooks := .later }
def AdmitRoomUptoCardSaid : Prop := Claim7.holds Tryz.pinned (.plain (OpenSpec.upto admitRoomSpec)) admitRoomUptoCard

/-- THE SECOND FORM's CARD OF 'hopmeshlaw41.AdmitFills'. -/
def admitFillsUptoCard : Claim7 := { stood := { row := admitFillsUptoRow, standIns := [], harness := (true, "da3bebe9e75fba40b3ca6d67924c712b8512388a2235f4c898ee4d32b5eabd43"), looks := false }, kinds := [], alts := [], laidByText := true, laidKinds := [.data, .data, .data], laidTests := true, laidLooks := .later }
def AdmitFillsUptoCardSaid : Prop := Claim7.holds Tryz.pinned (.plain (OpenSpec.upto admitFillsSpec)) admitFillsUptoCard

/-- THE SECOND FORM's CARD OF 'hopmeshlaw37.BoundReached'. -/
def boundReachedUptoCard : Claim7 := { stood := { row := boundReachedUptoRow, standIns := [], harness := (true, "da3bebe9e75fba40b3ca6d67924c712b8512388a2235f4c898ee4d32b5eabd43"), looks := false }, kinds := [], alts := [], laidByText := true, laidKinds := [.data, .data, .data], laidTests := true, laidLooks := .later }
def BoundReachedUptoCardSaid : Prop := Claim7.holds Tryz.pinned (.plain (OpenSpec.upto boundReachedSpec)) boundReachedUptoCard
end Rows
end Go.Proofs.YtcbpgfmedemibaaGreatDoor
