/-
  DERIVED. GIVEN WITH THE SEED: THE CARDS: each row of YtnckbcjkmbhgbaaGreatDoorRows.lean that lists a variable, with what it lists TIED to the program's text (the seventh form; the later family's looks); each row that meets fmt, with fmt's text TOLD by the authors' own Lean function (tested against real Go, not proved from fmt's source: count such statements apart). THE CARD IS WHAT COUNTS. Prove the row's statement (the work); the ties are given (YtnckbcjkmbhgbaaGreatDoorTie.lean); close each card by the builder's one call (the guide's Derived/Test/ToyasCard.lean, 'card_holds'). Laid BY PROGRAM, IN A SANDBOX (cutbox-door.mjs). By AI agents, Wed Nov 11 2026. No macro, syntax, notation, axiom, sorry.
-/
import Derived.Test.YtnckbcjkmbhgbaaGreatDoorRows
import GoSem.ClaimSeven
namespace Go.Proofs.YtnckbcjkmbhgbaaGreatDoor
namespace Rows

/-- THE TIED CARD OF 'hopmeshlaw37.BoundWorst'. -/
def boundWorstCard : Claim7 := { stood := { row := boundWorstRow, standIns := [], harness := (true, "b79d8b7db895ae6182e2a08779c0a3dba3a81101a8bed58ae18b163c34800652"), looks := false }, kinds := [], alts := [], laidByText := true, laidKinds := [.data, .data, .data], laidTests := true, laidLooks := .later }
def BoundWorstCardSaid : Prop := Claim7.holds Tryz.pinned (.plain (OpenSpec.ofChange boundWorstSpec)) boundWorstCard

/-- THE TIED CARD OF 'hopmeshlaw41.AdmitRoom'. -/
def admitRoomCard : Claim7 := { stood := { row := admitRoomRow, standIns := [], harness := (true, "b79d8b7db895ae6182e2a08779c0a3dba3a81101a8bed58ae18b163c34800652"), looks := false }, kinds := [], alts := [], laidByText := true, laidKinds := [.data, .data, .data], laidTests := true, laidLooks := .later }
def AdmitRoomCardSaid : Prop := Claim7.holds Tryz.pinned (.plain (OpenSpec.ofChange admitRoomSpec)) admitRoomCard

/-- THE TIED CARD OF 'hopmeshlaw41.AdmitAdds'. -/
def admitAddsCard : Claim7 := { stood := { row := admitAddsRow, standIns := [], harness := (true, "b79d8b7db895ae6182e2a08779c0a3dba3a81101a8bed58ae18b163c34800652"), looks := false }, kinds := [], alts := [], laidByText := true, laidKinds := [.data, .data, .data], laidTests := true, laidLooks := .later }
def AdmitAddsCardSaid : Prop := Claim7.holds Tryz.pinned (.plain (OpenSpec.ofChange admitAddsSpec)) admitAddsCard

/-- THE TIED CARD OF 'hopmeshlaw44.SparePlaces'. -/
def sparePlacesCard : Claim7 := { stood := { row := sparePlacesRow, standIns := [], harness := (true, "b79d8b7db895ae6182e2a08779c0a3dba3a81101a8bed58ae18b163c34800652"), looks := false }, kinds := [], alts := [], laidByText := true, laidKinds := [.data, .data, .data], laidTests := true, laidLooks := .later }
def SparePlacesCardSaid : Prop := Claim7.holds Tryz.pinned (.plain (OpenSpec.ofChange sparePlacesSpec)) sparePlacesCard

/-- THE TIED CARD OF 'hopmeshlaw44.SpareBack'. -/
def spareBackCard : Claim7 := { stood := { row := spareBackRow, standIns := [], harness := (true, "b79d8b7db895ae6182e2a08779c0a3dba3a81101a8bed58ae18b163c34800652"), looks := false }, kinds := [], alts := [], laidByText := true, laidKinds := [.data, .data, .data], laidTests := true, laidLooks := .later }
def SpareBackCardSaid : Prop := Claim7.holds Tryz.pinned (.plain (OpenSpec.ofChange spareBackSpec)) spareBackCard

/-- THE TIED CARD OF 'hopmeshlaw41.AdmitServes'. -/
def admitServesCard : Claim7 := { stood := { row := admitServesRow, standIns := [], harness := (true, "b79d8b7db895ae6182e2a08779c0a3dba3a81101a8bed58ae18b163c34800652"), looks := false }, kinds := [], alts := [], laidByText := true, laidKinds := [.data, .data, .data], laidTests := true, laidLooks := .later }
def AdmitServesCardSaid : Prop := Claim7.holds Tryz.pinned (.plain (OpenSpec.ofChange admitServesSpec)) admitServesCard

/-- THE TIED CARD OF 'hopmeshlaw41.AdmitExact'. -/
def admitExactCard : Claim7 := { stood := { row := admitExactRow, standIns := [], harness := (true, "b79d8b7db895ae6182e2a08779c0a3dba3a81101a8bed58ae18b163c34800652"), looks := false }, kinds := [], alts := [], laidByText := true, laidKinds := [.data, .data, .data], laidTests := true, laidLooks := .later }
def AdmitExactCardSaid : Prop := Claim7.holds Tryz.pinned (.plain (OpenSpec.ofChange admitExactSpec)) admitExactCard

/-- THE TIED CARD OF 'hopmeshlaw41.AdmitFills'. -/
def admitFillsCard : Claim7 := { stood := { row := admitFillsRow, standIns := [], harness := (true, "b79d8b7db895ae6182e2a08779c0a3dba3a81101a8bed58ae18b163c34800652"), looks := false }, kinds := [], alts := [], laidByText := true, laidKinds := [.data, .data, .data], laidTests := true, laidLooks := .later }
def AdmitFillsCardSaid : Prop := Claim7.holds Tryz.pinned (.plain (OpenSpec.ofChange admitFillsSpec)) admitFillsCard

/-- THE TIED CARD OF 'hopmeshlaw44.SpareMasks'. -/
def spareMasksCard : Claim7 := { stood := { row := spareMasksRow, standIns := [], harness := (true, "b79d8b7db895ae6182e2a08779c0a3dba3a81101a8bed58ae18b163c34800652"), looks := false }, kinds := [], alts := [], laidByText := true, laidKinds := [.data, .data, .data], laidTests := true, laidLooks := .later }
def SpareMasksCardSaid : Prop := Claim7.holds Tryz.pinned (.plain (OpenSpec.ofChange spareMasksSpec)) spareMasksCard

/-- THE TIED CARD OF 'hopmeshlaw37.BoundReached'. -/
def boundReachedCard : Claim7 := { stood := { row := boundReachedRow, standIns := [], harness := (true, "b79d8b7db895ae6182e2a08779c0a3dba3a81101a8bed58ae18b163c34800652"), looks := false }, kinds := [], alts := [], laidByText := true, laidKinds := [.data, .data, .data], laidTests := true, laidLooks := .later }
def BoundReachedCardSaid : Prop := Claim7.holds Tryz.pinned (.plain (OpenSpec.ofChange boundReachedSpec)) boundReachedCard

/-- THE TIED CARD OF 'hopmeshlaw39.LoadServed'. -/
def loadServedCard : Claim7 := { stood := { row := loadServedRow, standIns := [], harness := (true, "b79d8b7db895ae6182e2a08779c0a3dba3a81101a8bed58ae18b163c34800652"), looks := false }, kinds := [], alts := [], laidByText := true, laidKinds := [.data, .data, .data], laidTests := true, laidLooks := .later }
def LoadServedCardSaid : Prop := Claim7.holds Tryz.pinned (.plain (OpenSpec.ofChange loadServedSpec)) loadServedCard

/-- THE TIED CARD OF 'hopmeshlaw41.AdmitTrims'. -/
def admitTrimsCard : Claim7 := { stood := { row := admitTrimsRow, standIns := [], harness := (true, "b79d8b7db895ae6182e2a08779c0a3dba3a81101a8bed58ae18b163c34800652"), looks := false }, kinds := [], alts := [], laidByText := true, laidKinds := [.data, .data, .data], laidTests := true, laidLooks := .later }
def AdmitTrimsCardSaid : Prop := Claim7.holds Tryz.pinned (.plain (OpenSpec.ofChange admitTrimsSpec)) admitTrimsCard

/-- THE SECOND FORM's CARD OF 'hopmeshlaw37.BoundWorst'. -/
def boundWorstUptoCard : Claim7 := { stood := { row := boundWorstUptoRow, standIns := [], harness := (true, "b79d8b7db895ae6182e2a08779c0a3dba3a81101a8bed58ae18b163c34800652"), looks := false }, kinds := [], alts := [], laidByText := true, laidKinds := [.data, .data, .data], laidTests := true, laidLooks := .later }
def BoundWorstUptoCardSaid : Prop := Claim7.holds Tryz.pinned (.plain (OpenSpec.upto boundWorstSpec)) boundWorstUptoCard

/-- THE SECOND FORM's CARD OF 'hopmeshlaw41.AdmitRoom'. -/
def admitRoomUptoCard : Claim7 := { stood := { row := admitRoomUptoRow, standIns := [], harness := (true, "b79d8b7db895ae6182e2a08779c0a3dba3a81101a8bed58ae18b163c34800652"), looks := false }, kinds := [], alts := [], laidByText := true, laidKinds := [.data, .data, .data], laidTests := true, laidLooks := .later }
def AdmitRoomUptoCardSaid : Prop := Claim7.holds Tryz.pinned (.plain (OpenSpec.upto admitRoomSpec)) admitRoomUptoCard

/-- THE SECOND FORM's CARD OF 'hopmeshlaw41.AdmitAdds'. -/
def admitAddsUptoCard : Claim7 := { stood := { row := admitAddsUptoRow, standIns := [], harness := (true, "b79d8b7db895ae6182e2a08779c0a3dba3a81101a8bed58ae18b163c34800652"), looks := false }, kinds := [], alts := [], laidByText := true, laidKinds := [.data, .data, .data], laidTests := true, laidLooks := .later }
def AdmitAddsUptoCardSaid : Prop := Claim7.holds Tryz.pinned (.plain (OpenSpec.upto admitAddsSpec)) admitAddsUptoCard

/-- THE SECOND FORM's CARD OF 'hopmeshlaw44.SparePlaces'. -/
def sparePlacesUptoCard : Claim7 := { stood := { row := sparePlacesUptoRow, standIns := [], harness := (true, "b79d8b7db895ae6182e2a08779c0a3dba3a81101a8bed58ae18b163c34800652"), looks := false }, kinds := [], alts := [], laidByText := true, laidKinds := [.data, .data, .data], laidTests := true, laidLooks := .later }
def SparePlacesUptoCardSaid : Prop := Claim7.holds Tryz.pinned (.plain (OpenSpec.upto sparePlacesSpec)) sparePlacesUptoCard

/-- THE SECOND FORM's CARD OF 'hopmeshlaw44.SpareBack'. -/
def spareBackUptoCard : Claim7 := { stood := { row := spareBackUptoRow, standIns := [], harness := (true, "b79d8b7db895ae6182e2a08779c0a3dba3a81101a8bed58ae18b163c34800652"), looks := false }, kinds := [], alts := [], laidByText := true, laidKinds := [.data, .data, .data], laidTests := true, laidLooks := .later }
def SpareBackUptoCardSaid : Prop := Claim7.holds Tryz.pinned (.plain (OpenSpec.upto spareBackSpec)) spareBackUptoCard

/-- THE SECOND FORM's CARD OF 'hopmeshlaw41.AdmitServes'. -/
def admitServesUptoCard : Claim7 := { stood := { row := admitServesUptoRow, standIns := [], harness := (true, "b79d8b7db895ae6182e2a08779c0a3dba3a81101a8bed58ae18b163c34800652"), looks := false }, kinds := [], alts := [], laidByText := true, laidKinds := [.data, .data, .data], laidTests := true, laidLooks := .later }
def AdmitServesUptoCardSaid : Prop := Claim7.holds Tryz.pinned (.plain (OpenSpec.upto admitServesSpec)) admitServesUptoCard

/-- THE SECOND FORM's CARD OF 'hopmeshlaw41.AdmitExact'. -/
def admitExactUptoCard : Claim7 := { stood := { row := admitExactUptoRow, standIns := [], harness := (true, "b79d8b7db895ae6182e2a08779c0a3dba3a81101a8bed58ae18b163c34800652"), looks := false }, kinds := [], alts := [], laidByText := true, laidKinds := [.data, .data, .data], laidTests := true, laidLooks := .later }
def AdmitExactUptoCardSaid : Prop := Claim7.holds Tryz.pinned (.plain (OpenSpec.upto admitExactSpec)) admitExactUptoCard

/-- THE SECOND FORM's CARD OF 'hopmeshlaw41.AdmitFills'. -/
def admitFillsUptoCard : Claim7 := { stood := { row := admitFillsUptoRow, standIns := [], harness := (true, "b79d8b7db895ae6182e2a08779c0a3dba3a81101a8bed58ae18b163c34800652"), looks := false }, kinds := [], alts := [], laidByText := true, laidKinds := [.data, .data, .data], laidTests := true, laidLooks := .later }
def AdmitFillsUptoCardSaid : Prop := Claim7.holds Tryz.pinned (.plain (OpenSpec.upto admitFillsSpec)) admitFillsUptoCard

/-- THE SECOND FORM's CARD OF 'hopmeshlaw44.SpareMasks'. -/
def spareMasksUptoCard : Claim7 := { stood := { row := spareMasksUptoRow, standIns := [], harness := (true, "b79d8b7db895ae6182e2a08779c0a3dba3a81101a8bed58ae18b163c34800652"), looks := false }, kinds := [], alts := [], laidByText := true, laidKinds := [.data, .data, .data], laidTests := true, laidLooks := .later }
def SpareMasksUptoCardSaid : Prop := Claim7.holds Tryz.pinned (.plain (OpenSpec.upto spareMasksSpec)) spareMasksUptoCard

/-- THE SECOND FORM's CARD OF 'hopmeshlaw37.BoundReached'. -/
def boundReachedUptoCard : Claim7 := { stood := { row := boundReachedUptoRow, standIns := [], harness := (true, "b79d8b7db895ae6182e2a08779c0a3dba3a81101a8bed58ae18b163c34800652"), looks := false }, kinds := [], alts := [], laidByText := true, laidKinds := [.data, .data, .data], laidTests := true, laidLooks := .later }
def BoundReachedUptoCardSaid : Prop := Claim7.holds Tryz.pinned (.plain (OpenSpec.upto boundReachedSpec)) boundReachedUptoCard

/-- THE SECOND FORM's CARD OF 'hopmeshlaw39.LoadServed'. -/
def loadServedUptoCard : Claim7 := { stood := { row := loadServedUptoRow, standIns := [], harness := (true, "b79d8b7db895ae6182e2a08779c0a3dba3a81101a8bed58ae18b163c34800652"), looks := false }, kinds := [], alts := [], laidByText := true, laidKinds := [.data, .data, .data], laidTests := true, laidLooks := .later }
def LoadServedUptoCardSaid : Prop := Claim7.holds Tryz.pinned (.plain (OpenSpec.upto loadServedSpec)) loadServedUptoCard

/-- THE SECOND FORM's CARD OF 'hopmeshlaw41.AdmitTrims'. -/
def admitTrimsUptoCard : Claim7 := { stood := { row := admitTrimsUptoRow, standIns := [], harness := (true, "b79d8b7db895ae6182e2a08779c0a3dba3a81101a8bed58ae18b163c34800652"), looks := false }, kinds := [], alts := [], laidByText := true, laidKinds := [.data, .data, .data], laidTests := true, laidLooks := .later }
def AdmitTrimsUptoCardSaid : Prop := Claim7.holds Tryz.pinned (.plain (OpenSpec.upto admitTrimsSpec)) admitTrimsUptoCard
end Rows
end Go.Proofs.YtnckbcjkmbhgbaaGreatDoor
