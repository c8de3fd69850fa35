/-
  DERIVED. GIVEN WITH THE SEED: THE CARDS: each row of YtbmgaapcikpnkaaDoorRows.lean that lists a variable, with what it lists TIED to the program's text (the seventh form; the later family's looks); each row that meets fmt, with fmt's text TOLD by the authors' own Lean function (tested against real Go, not proved from fmt's source: count such statements apart). THE CARD IS WHAT COUNTS. Prove the row's statement (the work); the ties are given (YtbmgaapcikpnkaaDoorTie.lean); close each card by the builder's one call (the guide's Derived/Test/ToyasCard.lean, 'card_holds'). Laid BY PROGRAM, IN A SANDBOX (cutbox-door.mjs). By AI agents, Wed Nov 11 2026. No macro, syntax, notation, axiom, sorry.
-/
import Derived.Test.YtbmgaapcikpnkaaDoorRows
import GoSem.ClaimSeven
namespace Go.Proofs.YtbmgaapcikpnkaaDoor
namespace Rows

/-- THE TIED CARD OF 'hopmeshlaw44.SpareTakes'. -/
def spareTakesCard : Claim7 := { stood := { row := spareTakesRow, standIns := [], harness := (true, "e74d05969769f7c3d448502ea5deb57ea4b6d88c729443141329bcb8c5be4efe"), looks := false }, kinds := [], alts := [], laidByText := true, laidKinds := [.data, .data, .data], laidTests := true, laidLooks := .later }
def SpareTakesCardSaid : Prop := Claim7.holds Tryd.pinned (.plain (OpenSpec.ofChange spareTakesSpec)) spareTakesCard

/-- THE TIED CARD OF 'hopmeshlaw44.SpareAdds'. -/
def spareAddsCard : Claim7 := { stood := { row := spareAddsRow, standIns := [], harness := (true, "e74d05969769f7c3d448502ea5deb57ea4b6d88c729443141329bcb8c5be4efe"), looks := false }, kinds := [], alts := [], laidByText := true, laidKinds := [.data, .data, .data], laidTests := true, laidLooks := .later }
def SpareAddsCardSaid : Prop := Claim7.holds Tryd.pinned (.plain (OpenSpec.ofChange spareAddsSpec)) spareAddsCard

/-- THE TIED CARD OF 'hopmeshlaw44.SpareTaken'. -/
def spareTakenCard : Claim7 := { stood := { row := spareTakenRow, standIns := [], harness := (true, "e74d05969769f7c3d448502ea5deb57ea4b6d88c729443141329bcb8c5be4efe"), looks := false }, kinds := [], alts := [], laidByText := true, laidKinds := [.data, .data, .data], laidTests := true, laidLooks := .later }
def SpareTakenCardSaid : Prop := Claim7.holds Tryd.pinned (.plain (OpenSpec.ofChange spareTakenSpec)) spareTakenCard

/-- THE TIED CARD OF 'hopmeshlaw44.SpareChecks'. -/
def spareChecksCard : Claim7 := { stood := { row := spareChecksRow, standIns := [], harness := (true, "e74d05969769f7c3d448502ea5deb57ea4b6d88c729443141329bcb8c5be4efe"), looks := false }, kinds := [], alts := [], laidByText := true, laidKinds := [.data, .data, .data], laidTests := true, laidLooks := .later }
def SpareChecksCardSaid : Prop := Claim7.holds Tryd.pinned (.plain (OpenSpec.ofChange spareChecksSpec)) spareChecksCard

/-- THE SECOND FORM's CARD OF 'hopmeshlaw44.SpareTakes'. -/
def spareTakesUptoCard : Claim7 := { stood := { row := spareTakesUptoRow, standIns := [], harness := (true, "e74d05969769f7c3d448502ea5deb57ea4b6d88c729443141329bcb8c5be4efe"), looks := false }, kinds := [], alts := [], laidByText := true, laidKinds := [.data, .data, .data], laidTests := true, laidLooks := .later }
def SpareTakesUptoCardSaid : Prop := Claim7.holds Tryd.pinned (.plain (OpenSpec.upto spareTakesSpec)) spareTakesUptoCard

/-- THE SECOND FORM's CARD OF 'hopmeshlaw44.SpareAdds'. -/
def spareAddsUptoCard : Claim7 := { stood := { row := spareAddsUptoRow, standIns := [], harness := (true, "e74d05969769f7c3d448502ea5deb57ea4b6d88c729443141329bcb8c5be4efe"), looks := false }, kinds := [], alts := [], laidByText := true, laidKinds := [.data, .data, .data], laidTests := true, laidLooks := .later }
def SpareAddsUptoCardSaid : Prop := Claim7.holds Tryd.pinned (.plain (OpenSpec.upto spareAddsSpec)) spareAddsUptoCard

/-- THE SECOND FORM's CARD OF 'hopmeshlaw44.SpareTaken'. -/
def spareTakenUptoCard : Claim7 := { stood := { row := spareTakenUptoRow, standIns := [], harness := (true, "e74d05969769f7c3d448502ea5deb57ea4b6d88c729443141329bcb8c5be4efe"), looks := false }, kinds := [], alts := [], laidByText := true, laidKinds := [.data, .data, .data], laidTests := true, laidLooks := .later }
def SpareTakenUptoCardSaid : Prop := Claim7.holds Tryd.pinned (.plain (OpenSpec.upto spareTakenSpec)) spareTakenUptoCard

/-- THE SECOND FORM's CARD OF 'hopmeshlaw44.SpareChecks'. -/
def spareChecksUptoCard : Claim7 := { stood := { row := spareChecksUptoRow, standIns := [], harness := (true, "e74d05969769f7c3d448502ea5deb57ea4b6d88c729443141329bcb8c5be4efe"), looks := false }, kinds := [], alts := [], laidByText := true, laidKinds := [.data, .data, .data], laidTests := true, laidLooks := .later }
def SpareChecksUptoCardSaid : Prop := Claim7.holds Tryd.pinned (.plain (OpenSpec.upto spareChecksSpec)) spareChecksUptoCard
end Rows
end Go.Proofs.YtbmgaapcikpnkaaDoor
