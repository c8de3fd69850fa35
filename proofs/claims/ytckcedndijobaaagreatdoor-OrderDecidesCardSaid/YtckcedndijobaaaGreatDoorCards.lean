/-
  DERIVED. GIVEN WITH THE SEED: THE CARDS: each row of YtckcedndijobaaaGreatDoorRows.lean that lists a variable, with what it lists TIED to the program's text (the seventh form; the later family's looks); each row that meets fmt, with fmt's text TOLD by the authors' own Lean function (tested against real Go, not proved from fmt's source: count such statements apart). THE CARD IS WHAT COUNTS. Prove the row's statement (the work); the ties are given (YtckcedndijobaaaGreatDoorTie.lean); close each card by the builder's one call (the guide's Derived/Test/ToyasCard.lean, 'card_holds'). Laid BY PROGRAM, IN A SANDBOX (cutbox-door.mjs). By AI agents, Wed Nov 11 2026. No macro, syntax, notation, axiom, sorry.
-/
import Derived.Test.YtckcedndijobaaaGreatDoorRows
import GoSem.ClaimSeven
namespace Go.Proofs.YtckcedndijobaaaGreatDoor
namespace Rows

/-- THE TIED CARD OF 'hopmeshlaw43.OrderSteps'. -/
def orderStepsCard : Claim7 := { stood := { row := orderStepsRow, standIns := [], harness := (true, "1c5b1d3abae6a9a0f49316f4721bc24a0ed2a7e7ecd6c7946f7b62d623f9d251"), looks := false }, kinds := [], alts := [], laidByText := true, laidKinds := [.data, .data, .data], laidTests := true, laidLooks := .later }
def OrderStepsCardSaid : Prop := Claim7.holds Tryz.pinned (.plain (OpenSpec.ofChange orderStepsSpec)) orderStepsCard

/-- THE TIED CARD OF 'hopmeshlaw43.OrderFinds'. -/
def orderFindsCard : Claim7 := { stood := { row := orderFindsRow, standIns := [], harness := (true, "1c5b1d3abae6a9a0f49316f4721bc24a0ed2a7e7ecd6c7946f7b62d623f9d251"), looks := false }, kinds := [], alts := [], laidByText := true, laidKinds := [.data, .data, .data], laidTests := true, laidLooks := .later }
def OrderFindsCardSaid : Prop := Claim7.holds Tryz.pinned (.plain (OpenSpec.ofChange orderFindsSpec)) orderFindsCard

/-- THE TIED CARD OF 'hopmeshlaw43.OrderReaches'. -/
def orderReachesCard : Claim7 := { stood := { row := orderReachesRow, standIns := [], harness := (true, "1c5b1d3abae6a9a0f49316f4721bc24a0ed2a7e7ecd6c7946f7b62d623f9d251"), looks := false }, kinds := [], alts := [], laidByText := true, laidKinds := [.data, .data, .data], laidTests := true, laidLooks := .later }
def OrderReachesCardSaid : Prop := Claim7.holds Tryz.pinned (.plain (OpenSpec.ofChange orderReachesSpec)) orderReachesCard

/-- THE TIED CARD OF 'hopmeshlaw43.OrderCloses'. -/
def orderClosesCard : Claim7 := { stood := { row := orderClosesRow, standIns := [], harness := (true, "1c5b1d3abae6a9a0f49316f4721bc24a0ed2a7e7ecd6c7946f7b62d623f9d251"), looks := false }, kinds := [], alts := [], laidByText := true, laidKinds := [.data, .data, .data], laidTests := true, laidLooks := .later }
def OrderClosesCardSaid : Prop := Claim7.holds Tryz.pinned (.plain (OpenSpec.ofChange orderClosesSpec)) orderClosesCard

/-- THE TIED CARD OF 'hopmeshlaw43.OrderDecides'. -/
def orderDecidesCard : Claim7 := { stood := { row := orderDecidesRow, standIns := [], harness := (true, "1c5b1d3abae6a9a0f49316f4721bc24a0ed2a7e7ecd6c7946f7b62d623f9d251"), looks := false }, kinds := [], alts := [], laidByText := true, laidKinds := [.data, .data, .data], laidTests := true, laidLooks := .later }
def OrderDecidesCardSaid : Prop := Claim7.holds Tryz.pinned (.plain (OpenSpec.ofChange orderDecidesSpec)) orderDecidesCard

/-- THE TIED CARD OF 'hopmeshlaw43.OrderSafe'. -/
def orderSafeCard : Claim7 := { stood := { row := orderSafeRow, standIns := [], harness := (true, "1c5b1d3abae6a9a0f49316f4721bc24a0ed2a7e7ecd6c7946f7b62d623f9d251"), looks := false }, kinds := [], alts := [], laidByText := true, laidKinds := [.data, .data, .data], laidTests := true, laidLooks := .later }
def OrderSafeCardSaid : Prop := Claim7.holds Tryz.pinned (.plain (OpenSpec.ofChange orderSafeSpec)) orderSafeCard

/-- THE TIED CARD OF 'hopmeshlaw43.OrderShortest'. -/
def orderShortestCard : Claim7 := { stood := { row := orderShortestRow, standIns := [], harness := (true, "1c5b1d3abae6a9a0f49316f4721bc24a0ed2a7e7ecd6c7946f7b62d623f9d251"), looks := false }, kinds := [], alts := [], laidByText := true, laidKinds := [.data, .data, .data], laidTests := true, laidLooks := .later }
def OrderShortestCardSaid : Prop := Claim7.holds Tryz.pinned (.plain (OpenSpec.ofChange orderShortestSpec)) orderShortestCard

/-- THE SECOND FORM's CARD OF 'hopmeshlaw43.OrderSteps'. -/
def orderStepsUptoCard : Claim7 := { stood := { row := orderStepsUptoRow, standIns := [], harness := (true, "1c5b1d3abae6a9a0f49316f4721bc24a0ed2a7e7ecd6c7946f7b62d623f9d251"), looks := false }, kinds := [], alts := [], laidByText := true, laidKinds := [.data, .data, .data], laidTests := true, laidLooks := .later }
def OrderStepsUptoCardSaid : Prop := Claim7.holds Tryz.pinned (.plain (OpenSpec.upto orderStepsSpec)) orderStepsUptoCard

/-- THE SECOND FORM's CARD OF 'hopmeshlaw43.OrderFinds'. -/
def orderFindsUptoCard : Claim7 := { stood := { row := orderFindsUptoRow, standIns := [], harness := (true, "1c5b1d3abae6a9a0f49316f4721bc24a0ed2a7e7ecd6c7946f7b62d623f9d251"), looks := false }, kinds := [], alts := [], laidByText := true, laidKinds := [.data, .data, .data], laidTests := true, laidLooks := .later }
def OrderFindsUptoCardSaid : Prop := Claim7.holds Tryz.pinned (.plain (OpenSpec.upto orderFindsSpec)) orderFindsUptoCard

/-- THE SECOND FORM's CARD OF 'hopmeshlaw43.OrderReaches'. -/
def orderReachesUptoCard : Claim7 := { stood := { row := orderReachesUptoRow, standIns := [], harness := (true, "1c5b1d3abae6a9a0f49316f4721bc24a0ed2a7e7ecd6c7946f7b62d623f9d251"), looks := false }, kinds := [], alts := [], laidByText := true, laidKinds := [.data, .data, .data], laidTests := true, laidLooks := .later }
def OrderReachesUptoCardSaid : Prop := Claim7.holds Tryz.pinned (.plain (OpenSpec.upto orderReachesSpec)) orderReachesUptoCard

/-- THE SECOND FORM's CARD OF 'hopmeshlaw43.OrderCloses'. -/
def orderClosesUptoCard : Claim7 := { stood := { row := orderClosesUptoRow, standIns := [], harness := (true, "1c5b1d3abae6a9a0f49316f4721bc24a0ed2a7e7ecd6c7946f7b62d623f9d251"), looks := false }, kinds := [], alts := [], laidByText := true, laidKinds := [.data, .data, .data], laidTests := true, laidLooks := .later }
def OrderClosesUptoCardSaid : Prop := Claim7.holds Tryz.pinned (.plain (OpenSpec.upto orderClosesSpec)) orderClosesUptoCard

/-- THE SECOND FORM's CARD OF 'hopmeshlaw43.OrderDecides'. -/
def orderDecidesUptoCard : Claim7 := { stood := { row := orderDecidesUptoRow, standIns := [], harness := (true, "1c5b1d3abae6a9a0f49316f4721bc24a0ed2a7e7ecd6c7946f7b62d623f9d251"), looks := false }, kinds := [], alts := [], laidByText := true, laidKinds := [.data, .data, .data], laidTests := true, laidLooks := .later }
def OrderDecidesUptoCardSaid : Prop := Claim7.holds Tryz.pinned (.plain (OpenSpec.upto orderDecidesSpec)) orderDecidesUptoCard

/-- THE SECOND FORM's CARD OF 'hopmeshlaw43.OrderSafe'. -/
def orderSafeUptoCard : Claim7 := { stood := { row := orderSafeUptoRow, standIns := [], harness := (true, "1c5b1d3abae6a9a0f49316f4721bc24a0ed2a7e7ecd6c7946f7b62d623f9d251"), looks := false }, kinds := [], alts := [], laidByText := true, laidKinds := [.data, .data, .data], laidTests := true, laidLooks := .later }
def OrderSafeUptoCardSaid : Prop := Claim7.holds Tryz.pinned (.plain (OpenSpec.upto orderSafeSpec)) orderSafeUptoCard

/-- THE SECOND FORM's CARD OF 'hopmeshlaw43.OrderShortest'. -/
def orderShortestUptoCard : Claim7 := { stood := { row := orderShortestUptoRow, standIns := [], harness := (true, "1c5b1d3abae6a9a0f49316f4721bc24a0ed2a7e7ecd6c7946f7b62d623f9d251"), looks := false }, kinds := [], alts := [], laidByText := true, laidKinds := [.data, .data, .data], laidTests := true, laidLooks := .later }
def OrderShortestUptoCardSaid : Prop := Claim7.holds Tryz.pinned (.plain (OpenSpec.upto orderShortestSpec)) orderShortestUptoCard
end Rows
end Go.Proofs.YtckcedndijobaaaGreatDoor
