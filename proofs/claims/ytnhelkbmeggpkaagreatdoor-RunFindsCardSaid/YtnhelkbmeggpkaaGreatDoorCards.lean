/-
  DERIVED. GIVEN WITH THE SEED: THE CARDS: each row of YtnhelkbmeggpkaaGreatDoorRows.lean that lists a variable, with what it lists TIED to the program's text (the seventh form; the later family's looks); each row that meets fmt, with fmt's text TOLD by the authors' own Lean function (tested against real Go, not proved from fmt's source: count such statements apart). THE CARD IS WHAT COUNTS. Prove the row's statement (the work); the ties are given (YtnhelkbmeggpkaaGreatDoorTie.lean); close each card by the builder's one call (the guide's Derived/Test/ToyasCard.lean, 'card_holds'). Laid BY PROGRAM, IN A SANDBOX (cutbox-door.mjs). By AI agents, Wed Nov 11 2026. No macro, syntax, notation, axiom, sorry.
-/
import Derived.Test.YtnhelkbmeggpkaaGreatDoorRows
import GoSem.ClaimSeven
namespace Go.Proofs.YtnhelkbmeggpkaaGreatDoor
namespace Rows

/-- THE TIED CARD OF 'hopmeshlaw36.RunBreaks'. -/
def runBreaksCard : Claim7 := { stood := { row := runBreaksRow, standIns := [], harness := (true, "5af758b906533e0f730b95301e2c684e82ecc7f2b283ff319d1f66587380384d"), looks := false }, kinds := [], alts := [], laidByText := true, laidKinds := [.data, .data, .data], laidTests := true, laidLooks := .later }
def RunBreaksCardSaid : Prop := Claim7.holds Tryz.pinned (.plain (OpenSpec.ofChange runBreaksSpec)) runBreaksCard

/-- THE TIED CARD OF 'hopmeshlaw36.RunFinds'. -/
def runFindsCard : Claim7 := { stood := { row := runFindsRow, standIns := [], harness := (true, "5af758b906533e0f730b95301e2c684e82ecc7f2b283ff319d1f66587380384d"), looks := false }, kinds := [], alts := [], laidByText := true, laidKinds := [.data, .data, .data], laidTests := true, laidLooks := .later }
def RunFindsCardSaid : Prop := Claim7.holds Tryz.pinned (.plain (OpenSpec.ofChange runFindsSpec)) runFindsCard

/-- THE TIED CARD OF 'hopmeshlaw36.RunPlays'. -/
def runPlaysCard : Claim7 := { stood := { row := runPlaysRow, standIns := [], harness := (true, "5af758b906533e0f730b95301e2c684e82ecc7f2b283ff319d1f66587380384d"), looks := false }, kinds := [], alts := [], laidByText := true, laidKinds := [.data, .data, .data], laidTests := true, laidLooks := .later }
def RunPlaysCardSaid : Prop := Claim7.holds Tryz.pinned (.plain (OpenSpec.ofChange runPlaysSpec)) runPlaysCard

/-- THE TIED CARD OF 'hopmeshlaw36.RunOnce'. -/
def runOnceCard : Claim7 := { stood := { row := runOnceRow, standIns := [], harness := (true, "5af758b906533e0f730b95301e2c684e82ecc7f2b283ff319d1f66587380384d"), looks := false }, kinds := [], alts := [], laidByText := true, laidKinds := [.data, .data, .data], laidTests := true, laidLooks := .later }
def RunOnceCardSaid : Prop := Claim7.holds Tryz.pinned (.plain (OpenSpec.ofChange runOnceSpec)) runOnceCard

/-- THE TIED CARD OF 'hopmeshlaw36.RunAlone'. -/
def runAloneCard : Claim7 := { stood := { row := runAloneRow, standIns := [], harness := (true, "5af758b906533e0f730b95301e2c684e82ecc7f2b283ff319d1f66587380384d"), looks := false }, kinds := [], alts := [], laidByText := true, laidKinds := [.data, .data, .data], laidTests := true, laidLooks := .later }
def RunAloneCardSaid : Prop := Claim7.holds Tryz.pinned (.plain (OpenSpec.ofChange runAloneSpec)) runAloneCard

/-- THE SECOND FORM's CARD OF 'hopmeshlaw36.RunBreaks'. -/
def runBreaksUptoCard : Claim7 := { stood := { row := runBreaksUptoRow, standIns := [], harness := (true, "5af758b906533e0f730b95301e2c684e82ecc7f2b283ff319d1f66587380384d"), looks := false }, kinds := [], alts := [], laidByText := true, laidKinds := [.data, .data, .data], laidTests := true, laidLooks := .later }
def RunBreaksUptoCardSaid : Prop := Claim7.holds Tryz.pinned (.plain (OpenSpec.upto runBreaksSpec)) runBreaksUptoCard

/-- THE SECOND FORM's CARD OF 'hopmeshlaw36.RunFinds'. -/
def runFindsUptoCard : Claim7 := { stood := { row := runFindsUptoRow, standIns := [], harness := (true, "5af758b906533e0f730b95301e2c684e82ecc7f2b283ff319d1f66587380384d"), looks := false }, kinds := [], alts := [], laidByText := true, laidKinds := [.data, .data, .data], laidTests := true, laidLooks := .later }
def RunFindsUptoCardSaid : Prop := Claim7.holds Tryz.pinned (.plain (OpenSpec.upto runFindsSpec)) runFindsUptoCard

/-- THE SECOND FORM's CARD OF 'hopmeshlaw36.RunPlays'. -/
def runPlaysUptoCard : Claim7 := { stood := { row := runPlaysUptoRow, standIns := [], harness := (true, "5af758b906533e0f730b95301e2c684e82ecc7f2b283ff319d1f66587380384d"), looks := false }, kinds := [], alts := [], laidByText := true, laidKinds := [.data, .data, .data], laidTests := true, laidLooks := .later }
def RunPlaysUptoCardSaid : Prop := Claim7.holds Tryz.pinned (.plain (OpenSpec.upto runPlaysSpec)) runPlaysUptoCard

/-- THE SECOND FORM's CARD OF 'hopmeshlaw36.RunOnce'. -/
def runOnceUptoCard : Claim7 := { stood := { row := runOnceUptoRow, standIns := [], harness := (true, "5af758b906533e0f730b95301e2c684e82ecc7f2b283ff319d1f66587380384d"), looks := false }, kinds := [], alts := [], laidByText := true, laidKinds := [.data, .data, .data], laidTests := true, laidLooks := .later }
def RunOnceUptoCardSaid : Prop := Claim7.holds Tryz.pinned (.plain (OpenSpec.upto runOnceSpec)) runOnceUptoCard

/-- THE SECOND FORM's CARD OF 'hopmeshlaw36.RunAlone'. -/
def runAloneUptoCard : Claim7 := { stood := { row := runAloneUptoRow, standIns := [], harness := (true, "5af758b906533e0f730b95301e2c684e82ecc7f2b283ff319d1f66587380384d"), looks := false }, kinds := [], alts := [], laidByText := true, laidKinds := [.data, .data, .data], laidTests := true, laidLooks := .later }
def RunAloneUptoCardSaid : Prop := Claim7.holds Tryz.pinned (.plain (OpenSpec.upto runAloneSpec)) runAloneUptoCard
end Rows
end Go.Proofs.YtnhelkbmeggpkaaGreatDoor
