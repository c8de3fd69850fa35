/-
  DERIVED. GIVEN WITH THE SEED: THE CARDS: each row of YtcmppdlaabbnlaaGreatDoorRows.lean that lists a variable, with what it lists TIED to the program's text (the seventh form; the later family's looks); each row that meets fmt, with fmt's text TOLD by the authors' own Lean function (tested against real Go, not proved from fmt's source: count such statements apart). THE CARD IS WHAT COUNTS. Prove the row's statement (the work); the ties are given (YtcmppdlaabbnlaaGreatDoorTie.lean); close each card by the builder's one call (the guide's Derived/Test/ToyasCard.lean, 'card_holds'). Laid BY PROGRAM, IN A SANDBOX (cutbox-door.mjs). By AI agents, Wed Nov 11 2026. No macro, syntax, notation, axiom, sorry.
-/
import Derived.Test.YtcmppdlaabbnlaaGreatDoorRows
import GoSem.ClaimSeven
namespace Go.Proofs.YtcmppdlaabbnlaaGreatDoor
namespace Rows

/-- THE TIED CARD OF 'hopmeshlaw37.BoundReleases'. -/
def boundReleasesCard : Claim7 := { stood := { row := boundReleasesRow, standIns := [], harness := (true, "942b36b9df83c777af83e23f601826cf9801101fbac5060f70cdd81c990e63f1"), looks := false }, kinds := [], alts := [], laidByText := true, laidKinds := [.data, .data, .data], laidTests := true, laidLooks := .later }
def BoundReleasesCardSaid : Prop := Claim7.holds Tryz.pinned (.plain (OpenSpec.ofChange boundReleasesSpec)) boundReleasesCard

/-- THE TIED CARD OF 'hopmeshlaw37.BoundLeast'. -/
def boundLeastCard : Claim7 := { stood := { row := boundLeastRow, standIns := [], harness := (true, "942b36b9df83c777af83e23f601826cf9801101fbac5060f70cdd81c990e63f1"), looks := false }, kinds := [], alts := [], laidByText := true, laidKinds := [.data, .data, .data], laidTests := true, laidLooks := .later }
def BoundLeastCardSaid : Prop := Claim7.holds Tryz.pinned (.plain (OpenSpec.ofChange boundLeastSpec)) boundLeastCard

/-- THE TIED CARD OF 'hopmeshlaw36.RunBreaks'. -/
def runBreaksCard : Claim7 := { stood := { row := runBreaksRow, standIns := [], harness := (true, "942b36b9df83c777af83e23f601826cf9801101fbac5060f70cdd81c990e63f1"), looks := false }, kinds := [], alts := [], laidByText := true, laidKinds := [.data, .data, .data], laidTests := true, laidLooks := .later }
def RunBreaksCardSaid : Prop := Claim7.holds Tryz.pinned (.plain (OpenSpec.ofChange runBreaksSpec)) runBreaksCard

/-- THE TIED CARD OF 'hopmeshlaw36.RunFinds'. -/
def runFindsCard : Claim7 := { stood := { row := runFindsRow, standIns := [], harness := (true, "942b36b9df83c777af83e23f601826cf9801101fbac5060f70cdd81c990e63f1"), looks := false }, kinds := [], alts := [], laidByText := true, laidKinds := [.data, .data, .data], laidTests := true, laidLooks := .later }
def RunFindsCardSaid : Prop := Claim7.holds Tryz.pinned (.plain (OpenSpec.ofChange runFindsSpec)) runFindsCard

/-- THE SECOND FORM's CARD OF 'hopmeshlaw37.BoundReleases'. -/
def boundReleasesUptoCard : Claim7 := { stood := { row := boundReleasesUptoRow, standIns := [], harness := (true, "942b36b9df83c777af83e23f601826cf9801101fbac5060f70cdd81c990e63f1"), looks := false }, kinds := [], alts := [], laidByText := true, laidKinds := [.data, .data, .data], laidTests := true, laidLooks := .later }
def BoundReleasesUptoCardSaid : Prop := Claim7.holds Tryz.pinned (.plain (OpenSpec.upto boundReleasesSpec)) boundReleasesUptoCard

/-- THE SECOND FORM's CARD OF 'hopmeshlaw37.BoundLeast'. -/
def boundLeastUptoCard : Claim7 := { stood := { row := boundLeastUptoRow, standIns := [], harness := (true, "942b36b9df83c777af83e23f601826cf9801101fbac5060f70cdd81c990e63f1"), looks := false }, kinds := [], alts := [], laidByText := true, laidKinds := [.data, .data, .data], laidTests := true, laidLooks := .later }
def BoundLeastUptoCardSaid : Prop := Claim7.holds Tryz.pinned (.plain (OpenSpec.upto boundLeastSpec)) boundLeastUptoCard

/-- THE SECOND FORM's CARD OF 'hopmeshlaw36.RunBreaks'. -/
def runBreaksUptoCard : Claim7 := { stood := { row := runBreaksUptoRow, standIns := [], harness := (true, "942b36b9df83c777af83e23f601826cf9801101fbac5060f70cdd81c990e63f1"), looks := false }, kinds := [], alts := [], laidByText := true, laidKinds := [.data, .data, .data], laidTests := true, laidLooks := .later }
def RunBreaksUptoCardSaid : Prop := Claim7.holds Tryz.pinned (.plain (OpenSpec.upto runBreaksSpec)) runBreaksUptoCard

/-- THE SECOND FORM's CARD OF 'hopmeshlaw36.RunFinds'. -/
def runFindsUptoCard : Claim7 := { stood := { row := runFindsUptoRow, standIns := [], harness := (true, "942b36b9df83c777af83e23f601826cf9801101fbac5060f70cdd81c990e63f1"), looks := false }, kinds := [], alts := [], laidByText := true, laidKinds := [.data, .data, .data], laidTests := true, laidLooks := .later }
def RunFindsUptoCardSaid : Prop := Claim7.holds Tryz.pinned (.plain (OpenSpec.upto runFindsSpec)) runFindsUptoCard
end Rows
end Go.Proofs.YtcmppdlaabbnlaaGreatDoor
