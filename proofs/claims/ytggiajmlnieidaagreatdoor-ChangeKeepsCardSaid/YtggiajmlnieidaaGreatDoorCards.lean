/-
  DERIVED. GIVEN WITH THE SEED: THE CARDS: each row of YtggiajmlnieidaaGreatDoorRows.lean that lists a variable, with what it lists TIED to the program's text (the seventh form; the later family's looks); each row that meets fmt, with fmt's text TOLD by the authors' own Lean function (tested against real Go, not proved from fmt's source: count such statements apart). THE CARD IS WHAT COUNTS. Prove the row's statement (the work); the ties are given (YtggiajmlnieidaaGreatDoorTie.lean); close each card by the builder's one call (the guide's Derived/Test/ToyasCard.lean, 'card_holds'). Laid BY PROGRAM, IN A SANDBOX (cutbox-door.mjs). By AI agents, Wed Nov 11 2026. No macro, syntax, notation, axiom, sorry.
-/
import Derived.Test.YtggiajmlnieidaaGreatDoorRows
import GoSem.ClaimSeven
namespace Go.Proofs.YtggiajmlnieidaaGreatDoor
namespace Rows

/-- THE TIED CARD OF 'hopmeshlaw42.ChangeChecks'. -/
def changeChecksCard : Claim7 := { stood := { row := changeChecksRow, standIns := [], harness := (true, "0c0ac5a332da7b2ac8a44a82f5c8c00faa21e68694cab8a80e60d851fe6b8b64"), looks := false }, kinds := [], alts := [], laidByText := true, laidKinds := [.data, .data, .data], laidTests := true, laidLooks := .later }
def ChangeChecksCardSaid : Prop := Claim7.holds Tryz.pinned (.plain (OpenSpec.ofChange changeChecksSpec)) changeChecksCard

/-- THE TIED CARD OF 'hopmeshlaw42.ChangeEarliest'. -/
def changeEarliestCard : Claim7 := { stood := { row := changeEarliestRow, standIns := [], harness := (true, "0c0ac5a332da7b2ac8a44a82f5c8c00faa21e68694cab8a80e60d851fe6b8b64"), looks := false }, kinds := [], alts := [], laidByText := true, laidKinds := [.data, .data, .data], laidTests := true, laidLooks := .later }
def ChangeEarliestCardSaid : Prop := Claim7.holds Tryz.pinned (.plain (OpenSpec.ofChange changeEarliestSpec)) changeEarliestCard

/-- THE TIED CARD OF 'hopmeshlaw42.ChangeTimes'. -/
def changeTimesCard : Claim7 := { stood := { row := changeTimesRow, standIns := [], harness := (true, "0c0ac5a332da7b2ac8a44a82f5c8c00faa21e68694cab8a80e60d851fe6b8b64"), looks := false }, kinds := [], alts := [], laidByText := true, laidKinds := [.data, .data, .data], laidTests := true, laidLooks := .later }
def ChangeTimesCardSaid : Prop := Claim7.holds Tryz.pinned (.plain (OpenSpec.ofChange changeTimesSpec)) changeTimesCard

/-- THE TIED CARD OF 'hopmeshlaw42.ChangeApplies'. -/
def changeAppliesCard : Claim7 := { stood := { row := changeAppliesRow, standIns := [], harness := (true, "0c0ac5a332da7b2ac8a44a82f5c8c00faa21e68694cab8a80e60d851fe6b8b64"), looks := false }, kinds := [], alts := [], laidByText := true, laidKinds := [.data, .data, .data], laidTests := true, laidLooks := .later }
def ChangeAppliesCardSaid : Prop := Claim7.holds Tryz.pinned (.plain (OpenSpec.ofChange changeAppliesSpec)) changeAppliesCard

/-- THE TIED CARD OF 'hopmeshlaw42.ChangeBegins'. -/
def changeBeginsCard : Claim7 := { stood := { row := changeBeginsRow, standIns := [], harness := (true, "0c0ac5a332da7b2ac8a44a82f5c8c00faa21e68694cab8a80e60d851fe6b8b64"), looks := false }, kinds := [], alts := [], laidByText := true, laidKinds := [.data, .data, .data], laidTests := true, laidLooks := .later }
def ChangeBeginsCardSaid : Prop := Claim7.holds Tryz.pinned (.plain (OpenSpec.ofChange changeBeginsSpec)) changeBeginsCard

/-- THE TIED CARD OF 'hopmeshlaw42.ChangeKeeps'. -/
def changeKeepsCard : Claim7 := { stood := { row := changeKeepsRow, standIns := [], harness := (true, "0c0ac5a332da7b2ac8a44a82f5c8c00faa21e68694cab8a80e60d851fe6b8b64"), looks := false }, kinds := [], alts := [], laidByText := true, laidKinds := [.data, .data, .data], laidTests := true, laidLooks := .later }
def ChangeKeepsCardSaid : Prop := Claim7.holds Tryz.pinned (.plain (OpenSpec.ofChange changeKeepsSpec)) changeKeepsCard

/-- THE SECOND FORM's CARD OF 'hopmeshlaw42.ChangeChecks'. -/
def changeChecksUptoCard : Claim7 := { stood := { row := changeChecksUptoRow, standIns := [], harness := (true, "0c0ac5a332da7b2ac8a44a82f5c8c00faa21e68694cab8a80e60d851fe6b8b64"), looks := false }, kinds := [], alts := [], laidByText := true, laidKinds := [.data, .data, .data], laidTests := true, laidLooks := .later }
def ChangeChecksUptoCardSaid : Prop := Claim7.holds Tryz.pinned (.plain (OpenSpec.upto changeChecksSpec)) changeChecksUptoCard

/-- THE SECOND FORM's CARD OF 'hopmeshlaw42.ChangeEarliest'. -/
def changeEarliestUptoCard : Claim7 := { stood := { row := changeEarliestUptoRow, standIns := [], harness := (true, "0c0ac5a332da7b2ac8a44a82f5c8c00faa21e68694cab8a80e60d851fe6b8b64"), looks := false }, kinds := [], alts := [], laidByText := true, laidKinds := [.data, .data, .data], laidTests := true, laidLooks := .later }
def ChangeEarliestUptoCardSaid : Prop := Claim7.holds Tryz.pinned (.plain (OpenSpec.upto changeEarliestSpec)) changeEarliestUptoCard

/-- THE SECOND FORM's CARD OF 'hopmeshlaw42.ChangeTimes'. -/
def changeTimesUptoCard : Claim7 := { stood := { row := changeTimesUptoRow, standIns := [], harness := (true, "0c0ac5a332da7b2ac8a44a82f5c8c00faa21e68694cab8a80e60d851fe6b8b64"), looks := false }, kinds := [], alts := [], laidByText := true, laidKinds := [.data, .data, .data], laidTests := true, laidLooks := .later }
def ChangeTimesUptoCardSaid : Prop := Claim7.holds Tryz.pinned (.plain (OpenSpec.upto changeTimesSpec)) changeTimesUptoCard

/-- THE SECOND FORM's CARD OF 'hopmeshlaw42.ChangeApplies'. -/
def changeAppliesUptoCard : Claim7 := { stood := { row := changeAppliesUptoRow, standIns := [], harness := (true, "0c0ac5a332da7b2ac8a44a82f5c8c00faa21e68694cab8a80e60d851fe6b8b64"), looks := false }, kinds := [], alts := [], laidByText := true, laidKinds := [.data, .data, .data], laidTests := true, laidLooks := .later }
def ChangeAppliesUptoCardSaid : Prop := Claim7.holds Tryz.pinned (.plain (OpenSpec.upto changeAppliesSpec)) changeAppliesUptoCard

/-- THE SECOND FORM's CARD OF 'hopmeshlaw42.ChangeBegins'. -/
def changeBeginsUptoCard : Claim7 := { stood := { row := changeBeginsUptoRow, standIns := [], harness := (true, "0c0ac5a332da7b2ac8a44a82f5c8c00faa21e68694cab8a80e60d851fe6b8b64"), looks := false }, kinds := [], alts := [], laidByText := true, laidKinds := [.data, .data, .data], laidTests := true, laidLooks := .later }
def ChangeBeginsUptoCardSaid : Prop := Claim7.holds Tryz.pinned (.plain (OpenSpec.upto changeBeginsSpec)) changeBeginsUptoCard

/-- THE SECOND FORM's CARD OF 'hopmeshlaw42.ChangeKeeps'. -/
def changeKeepsUptoCard : Claim7 := { stood := { row := changeKeepsUptoRow, standIns := [], harness := (true, "0c0ac5a332da7b2ac8a44a82f5c8c00faa21e68694cab8a80e60d851fe6b8b64"), looks := false }, kinds := [], alts := [], laidByText := true, laidKinds := [.data, .data, .data], laidTests := true, laidLooks := .later }
def ChangeKeepsUptoCardSaid : Prop := Claim7.holds Tryz.pinned (.plain (OpenSpec.upto changeKeepsSpec)) changeKeepsUptoCard
end Rows
end Go.Proofs.YtggiajmlnieidaaGreatDoor
