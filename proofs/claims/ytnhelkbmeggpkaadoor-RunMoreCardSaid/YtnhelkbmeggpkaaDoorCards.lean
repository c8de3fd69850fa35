/-
  DERIVED. GIVEN WITH THE SEED: THE CARDS: each row of YtnhelkbmeggpkaaDoorRows.lean that lists a variable, with what it lists TIED to the program's text (the seventh form; the later family's looks); each row that meets fmt, with fmt's text TOLD by the authors' own Lean function (tested against real Go, not proved from fmt's source: count such statements apart). THE CARD IS WHAT COUNTS. Prove the row's statement (the work); the ties are given (YtnhelkbmeggpkaaDoorTie.lean); close each card by the builder's one call (the guide's Derived/Test/ToyasCard.lean, 'card_holds'). Laid BY PROGRAM, IN A SANDBOX (cutbox-door.mjs). By AI agents, Wed Nov 11 2026. No macro, syntax, notation, axiom, sorry.
-/
import Derived.Test.YtnhelkbmeggpkaaDoorRows
import GoSem.ClaimSeven
namespace Go.Proofs.YtnhelkbmeggpkaaDoor
namespace Rows

/-- THE TIED CARD OF 'hopmeshlaw36.RunChecks'. -/
def runChecksCard : Claim7 := { stood := { row := runChecksRow, standIns := [], harness := (true, "e6e2c302217a92c358575e70d560a84f2b53e2500f7b812b69246683721bf21a"), looks := false }, kinds := [], alts := [], laidByText := true, laidKinds := [.data, .data, .data], laidTests := true, laidLooks := .later }
def RunChecksCardSaid : Prop := Claim7.holds Tryd.pinned (.plain (OpenSpec.ofChange runChecksSpec)) runChecksCard

/-- THE TIED CARD OF 'hopmeshlaw36.RunHolds'. -/
def runHoldsCard : Claim7 := { stood := { row := runHoldsRow, standIns := [], harness := (true, "e6e2c302217a92c358575e70d560a84f2b53e2500f7b812b69246683721bf21a"), looks := false }, kinds := [], alts := [], laidByText := true, laidKinds := [.data, .data, .data], laidTests := true, laidLooks := .later }
def RunHoldsCardSaid : Prop := Claim7.holds Tryd.pinned (.plain (OpenSpec.ofChange runHoldsSpec)) runHoldsCard

/-- THE TIED CARD OF 'hopmeshlaw36.RunMore'. -/
def runMoreCard : Claim7 := { stood := { row := runMoreRow, standIns := [], harness := (true, "e6e2c302217a92c358575e70d560a84f2b53e2500f7b812b69246683721bf21a"), looks := false }, kinds := [], alts := [], laidByText := true, laidKinds := [.data, .data, .data], laidTests := true, laidLooks := .later }
def RunMoreCardSaid : Prop := Claim7.holds Tryd.pinned (.plain (OpenSpec.ofChange runMoreSpec)) runMoreCard

/-- THE SECOND FORM's CARD OF 'hopmeshlaw36.RunChecks'. -/
def runChecksUptoCard : Claim7 := { stood := { row := runChecksUptoRow, standIns := [], harness := (true, "e6e2c302217a92c358575e70d560a84f2b53e2500f7b812b69246683721bf21a"), looks := false }, kinds := [], alts := [], laidByText := true, laidKinds := [.data, .data, .data], laidTests := true, laidLooks := .later }
def RunChecksUptoCardSaid : Prop := Claim7.holds Tryd.pinned (.plain (OpenSpec.upto runChecksSpec)) runChecksUptoCard

/-- THE SECOND FORM's CARD OF 'hopmeshlaw36.RunHolds'. -/
def runHoldsUptoCard : Claim7 := { stood := { row := runHoldsUptoRow, standIns := [], harness := (true, "e6e2c302217a92c358575e70d560a84f2b53e2500f7b812b69246683721bf21a"), looks := false }, kinds := [], alts := [], laidByText := true, laidKinds := [.data, .data, .data], laidTests := true, laidLooks := .later }
def RunHoldsUptoCardSaid : Prop := Claim7.holds Tryd.pinned (.plain (OpenSpec.upto runHoldsSpec)) runHoldsUptoCard

/-- THE SECOND FORM's CARD OF 'hopmeshlaw36.RunMore'. -/
def runMoreUptoCard : Claim7 := { stood := { row := runMoreUptoRow, standIns := [], harness := (true, "e6e2c302217a92c358575e70d560a84f2b53e2500f7b812b69246683721bf21a"), looks := false }, kinds := [], alts := [], laidByText := true, laidKinds := [.data, .data, .data], laidTests := true, laidLooks := .later }
def RunMoreUptoCardSaid : Prop := Claim7.holds Tryd.pinned (.plain (OpenSpec.upto runMoreSpec)) runMoreUptoCard
end Rows
end Go.Proofs.YtnhelkbmeggpkaaDoor
