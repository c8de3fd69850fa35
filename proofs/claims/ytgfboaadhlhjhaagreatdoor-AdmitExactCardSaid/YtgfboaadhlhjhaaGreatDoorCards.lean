/-
  DERIVED. GIVEN WITH THE SEED: THE CARDS: each row of YtgfboaadhlhjhaaGreatDoorRows.lean that lists a variable, with what it lists TIED to the program's text (the seventh form; the later family's looks); each row that meets fmt, with fmt's text TOLD by the authors' own Lean function (tested against real Go, not proved from fmt's source: count such statements apart). THE CARD IS WHAT COUNTS. Prove the row's statement (the work); the ties are given (YtgfboaadhlhjhaaGreatDoorTie.lean); close each card by the builder's one call (the guide's Derived/Test/ToyasCard.lean, 'card_holds'). Laid BY PROGRAM, IN A SANDBOX (cutbox-door.mjs). By AI agents, Wed Nov 11 2026. No macro, syntax, notation, axiom, sorry.
-/
import Derived.Test.YtgfboaadhlhjhaaGreatDoorRows
import GoSem.ClaimSeven
namespace Go.Proofs.YtgfboaadhlhjhaaGreatDoor
namespace Rows

/-- THE TIED CARD OF 'hopmeshlaw41.AdmitRoom'. -/
def admitRoomCard : Claim7 := { stood := { row := admitRoomRow, standIns := [], harness := (true, "f323acad27f9514f76d5f0407bc121b746e5124d3a16ced0f852d7f36ef46805"), looks := false }, kinds := [], alts := [], laidByText := true, laidKinds := [.data, .data, .data], laidTests := true, laidLooks := .later }
def AdmitRoomCardSaid : Prop := Claim7.holds Tryz.pinned (.plain (OpenSpec.ofChange admitRoomSpec)) admitRoomCard

/-- THE TIED CARD OF 'hopmeshlaw41.AdmitAdds'. -/
def admitAddsCard : Claim7 := { stood := { row := admitAddsRow, standIns := [], harness := (true, "f323acad27f9514f76d5f0407bc121b746e5124d3a16ced0f852d7f36ef46805"), looks := false }, kinds := [], alts := [], laidByText := true, laidKinds := [.data, .data, .data], laidTests := true, laidLooks := .later }
def AdmitAddsCardSaid : Prop := Claim7.holds Tryz.pinned (.plain (OpenSpec.ofChange admitAddsSpec)) admitAddsCard

/-- THE TIED CARD OF 'hopmeshlaw41.AdmitServes'. -/
def admitServesCard : Claim7 := { stood := { row := admitServesRow, standIns := [], harness := (true, "f323acad27f9514f76d5f0407bc121b746e5124d3a16ced0f852d7f36ef46805"), looks := false }, kinds := [], alts := [], laidByText := true, laidKinds := [.data, .data, .data], laidTests := true, laidLooks := .later }
def AdmitServesCardSaid : Prop := Claim7.holds Tryz.pinned (.plain (OpenSpec.ofChange admitServesSpec)) admitServesCard

/-- THE TIED CARD OF 'hopmeshlaw41.AdmitExact'. -/
def admitExactCard : Claim7 := { stood := { row := admitExactRow, standIns := [], harness := (true, "f323acad27f9514f76d5f0407bc121b746e5124d3a16ced0f852d7f36ef46805"), looks := false }, kinds := [], alts := [], laidByText := true, laidKinds := [.data, .data, .data], laidTests := true, laidLooks := .later }
def AdmitExactCardSaid : Prop := Claim7.holds Tryz.pinned (.plain (OpenSpec.ofChange admitExactSpec)) admitExactCard

/-- THE TIED CARD OF 'hopmeshlaw41.AdmitFills'. -/
def admitFillsCard : Claim7 := { stood := { row := admitFillsRow, standIns := [], harness := (true, "f323acad27f9514f76d5f0407bc121b746e5124d3a16ced0f852d7f36ef46805"), looks := false }, kinds := [], alts := [], laidByText := true, laidKinds := [.data, .data, .data], laidTests := true, laidLooks := .later }
def AdmitFillsCardSaid : Prop := Claim7.holds Tryz.pinned (.plain (OpenSpec.ofChange admitFillsSpec)) admitFillsCard

/-- THE SECOND FORM's CARD OF 'hopmeshlaw41.AdmitRoom'. -/
def admitRoomUptoCard : Claim7 := { stood := { row := admitRoomUptoRow, standIns := [], harness := (true, "f323acad27f9514f76d5f0407bc121b746e5124d3a16ced0f852d7f36ef46805"), looks := false }, kinds := [], alts := [], laidByText := true, laidKinds := [.data, .data, .data], laidTests := true, laidLooks := .later }
def AdmitRoomUptoCardSaid : Prop := Claim7.holds Tryz.pinned (.plain (OpenSpec.upto admitRoomSpec)) admitRoomUptoCard

/-- THE SECOND FORM's CARD OF 'hopmeshlaw41.AdmitAdds'. -/
def admitAddsUptoCard : Claim7 := { stood := { row := admitAddsUptoRow, standIns := [], harness := (true, "f323acad27f9514f76d5f0407bc121b746e5124d3a16ced0f852d7f36ef46805"), looks := false }, kinds := [], alts := [], laidByText := true, laidKinds := [.data, .data, .data], laidTests := true, laidLooks := .later }
def AdmitAddsUptoCardSaid : Prop := Claim7.holds Tryz.pinned (.plain (OpenSpec.upto admitAddsSpec)) admitAddsUptoCard

/-- THE SECOND FORM's CARD OF 'hopmeshlaw41.AdmitServes'. -/
def admitServesUptoCard : Claim7 := { stood := { row := admitServesUptoRow, standIns := [], harness := (true, "f323acad27f9514f76d5f0407bc121b746e5124d3a16ced0f852d7f36ef46805"), looks := false }, kinds := [], alts := [], laidByText := true, laidKinds := [.data, .data, .data], laidTests := true, laidLooks := .later }
def AdmitServesUptoCardSaid : Prop := Claim7.holds Tryz.pinned (.plain (OpenSpec.upto admitServesSpec)) admitServesUptoCard

/-- THE SECOND FORM's CARD OF 'hopmeshlaw41.AdmitExact'. -/
def admitExactUptoCard : Claim7 := { stood := { row := admitExactUptoRow, standIns := [], harness := (true, "f323acad27f9514f76d5f0407bc121b746e5124d3a16ced0f852d7f36ef46805"), looks := false }, kinds := [], alts := [], laidByText := true, laidKinds := [.data, .data, .data], laidTests := true, laidLooks := .later }
def AdmitExactUptoCardSaid : Prop := Claim7.holds Tryz.pinned (.plain (OpenSpec.upto admitExactSpec)) admitExactUptoCard

/-- THE SECOND FORM's CARD OF 'hopmeshlaw41.AdmitFills'. -/
def admitFillsUptoCard : Claim7 := { stood := { row := admitFillsUptoRow, standIns := [], harness := (true, "f323acad27f9514f76d5f0407bc121b746e5124d3a16ced0f852d7f36ef46805"), looks := false }, kinds := [], alts := [], laidByText := true, laidKinds := [.data, .data, .data], laidTests := true, laidLooks := .later }
def AdmitFillsUptoCardSaid : Prop := Claim7.holds Tryz.pinned (.plain (OpenSpec.upto admitFillsSpec)) admitFillsUptoCard
end Rows
end Go.Proofs.YtgfboaadhlhjhaaGreatDoor
