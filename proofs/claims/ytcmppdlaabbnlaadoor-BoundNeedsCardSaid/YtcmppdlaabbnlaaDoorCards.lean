/-
  DERIVED. GIVEN WITH THE SEED: THE CARDS: each row of YtcmppdlaabbnlaaDoorRows.lean that lists a variable, with what it lists TIED to the program's text (the seventh form; the later family's looks); each row that meets fmt, with fmt's text TOLD by the authors' own Lean function (tested against real Go, not proved from fmt's source: count such statements apart). THE CARD IS WHAT COUNTS. Prove the row's statement (the work); the ties are given (YtcmppdlaabbnlaaDoorTie.lean); close each card by the builder's one call (the guide's Derived/Test/ToyasCard.lean, 'card_holds'). Laid BY PROGRAM, IN A SANDBOX (cutbox-door.mjs). By AI agents, Wed Nov 11 2026. No macro, syntax, notation, axiom, sorry.
-/
import Derived.Test.YtcmppdlaabbnlaaDoorRows
import GoSem.ClaimSeven
namespace Go.Proofs.YtcmppdlaabbnlaaDoor
namespace Rows

/-- THE TIED CARD OF 'hopmeshlaw37.BoundNeeds'. -/
def boundNeedsCard : Claim7 := { stood := { row := boundNeedsRow, standIns := [], harness := (true, "58420b9511acaaef55f58be00e5402f65769d6a3f6ed1b2797057093088898e4"), looks := false }, kinds := [], alts := [], laidByText := true, laidKinds := [.data, .data, .data], laidTests := true, laidLooks := .later }
def BoundNeedsCardSaid : Prop := Claim7.holds Tryd.pinned (.plain (OpenSpec.ofChange boundNeedsSpec)) boundNeedsCard

/-- THE TIED CARD OF 'hopmeshlaw37.BoundSlack'. -/
def boundSlackCard : Claim7 := { stood := { row := boundSlackRow, standIns := [], harness := (true, "58420b9511acaaef55f58be00e5402f65769d6a3f6ed1b2797057093088898e4"), looks := false }, kinds := [], alts := [], laidByText := true, laidKinds := [.data, .data, .data], laidTests := true, laidLooks := .later }
def BoundSlackCardSaid : Prop := Claim7.holds Tryd.pinned (.plain (OpenSpec.ofChange boundSlackSpec)) boundSlackCard

/-- THE TIED CARD OF 'hopmeshlaw37.BoundMore'. -/
def boundMoreCard : Claim7 := { stood := { row := boundMoreRow, standIns := [], harness := (true, "58420b9511acaaef55f58be00e5402f65769d6a3f6ed1b2797057093088898e4"), looks := false }, kinds := [], alts := [], laidByText := true, laidKinds := [.data, .data, .data], laidTests := true, laidLooks := .later }
def BoundMoreCardSaid : Prop := Claim7.holds Tryd.pinned (.plain (OpenSpec.ofChange boundMoreSpec)) boundMoreCard

/-- THE TIED CARD OF 'hopmeshlaw36.RunChecks'. -/
def runChecksCard : Claim7 := { stood := { row := runChecksRow, standIns := [], harness := (true, "58420b9511acaaef55f58be00e5402f65769d6a3f6ed1b2797057093088898e4"), looks := false }, kinds := [], alts := [], laidByText := true, laidKinds := [.data, .data, .data], laidTests := true, laidLooks := .later }
def RunChecksCardSaid : Prop := Claim7.holds Tryd.pinned (.plain (OpenSpec.ofChange runChecksSpec)) runChecksCard

/-- THE TIED CARD OF 'hopmeshlaw36.RunHolds'. -/
def runHoldsCard : Claim7 := { stood := { row := runHoldsRow, standIns := [], harness := (true, "58420b9511acaaef55f58be00e5402f65769d6a3f6ed1b2797057093088898e4"), looks := false }, kinds := [], alts := [], laidByText := true, laidKinds := [.data, .data, .data], laidTests := true, laidLooks := .later }
def RunHoldsCardSaid : Prop := Claim7.holds Tryd.pinned (.plain (OpenSpec.ofChange runHoldsSpec)) runHoldsCard

/-- THE TIED CARD OF 'hopmeshlaw36.RunMore'. -/
def runMoreCard : Claim7 := { stood := { row := runMoreRow, standIns := [], harness := (true, "58420b9511acaaef55f58be00e5402f65769d6a3f6ed1b2797057093088898e4"), looks := false }, kinds := [], alts := [], laidByText := true, laidKinds := [.data, .data, .data], laidTests := true, laidLooks := .later }
def RunMoreCardSaid : Prop := Claim7.holds Tryd.pinned (.plain (OpenSpec.ofChange runMoreSpec)) runMoreCard

/-- THE SECOND FORM's CARD OF 'hopmeshlaw37.BoundNeeds'. -/
def boundNeedsUptoCard : Claim7 := { stood := { row := boundNeedsUptoRow, standIns := [], harness := (true, "58420b9511acaaef55f58be00e5402f65769d6a3f6ed1b2797057093088898e4"), looks := false }, kinds := [], alts := [], laidByText := true, laidKinds := [.data, .data, .data], laidTests := true, laidLooks := .later }
def BoundNeedsUptoCardSaid : Prop := Claim7.holds Tryd.pinned (.plain (OpenSpec.upto boundNeedsSpec)) boundNeedsUptoCard

/-- THE SECOND FORM's CARD OF 'hopmeshlaw37.BoundSlack'. -/
def boundSlackUptoCard : Claim7 := { stood := { row := boundSlackUptoRow, standIns := [], harness := (true, "58420b9511acaaef55f58be00e5402f65769d6a3f6ed1b2797057093088898e4"), looks := false }, kinds := [], alts := [], laidByText := true, laidKinds := [.data, .data, .data], laidTests := true, laidLooks := .later }
def BoundSlackUptoCardSaid : Prop := Claim7.holds Tryd.pinned (.plain (OpenSpec.upto boundSlackSpec)) boundSlackUptoCard

/-- THE SECOND FORM's CARD OF 'hopmeshlaw37.BoundMore'. -/
def boundMoreUptoCard : Claim7 := { stood := { row := boundMoreUptoRow, standIns := [], harness := (true, "58420b9511acaaef55f58be00e5402f65769d6a3f6ed1b2797057093088898e4"), looks := false }, kinds := [], alts := [], laidByText := true, laidKinds := [.data, .data, .data], laidTests := true, laidLooks := .later }
def BoundMoreUptoCardSaid : Prop := Claim7.holds Tryd.pinned (.plain (OpenSpec.upto boundMoreSpec)) boundMoreUptoCard

/-- THE SECOND FORM's CARD OF 'hopmeshlaw36.RunChecks'. -/
def runChecksUptoCard : Claim7 := { stood := { row := runChecksUptoRow, standIns := [], harness := (true, "58420b9511acaaef55f58be00e5402f65769d6a3f6ed1b2797057093088898e4"), looks := false }, kinds := [], alts := [], laidByText := true, laidKinds := [.data, .data, .data], laidTests := true, laidLooks := .later }
def RunChecksUptoCardSaid : Prop := Claim7.holds Tryd.pinned (.plain (OpenSpec.upto runChecksSpec)) runChecksUptoCard

/-- THE SECOND FORM's CARD OF 'hopmeshlaw36.RunHolds'. -/
def runHoldsUptoCard : Claim7 := { stood := { row := runHoldsUptoRow, standIns := [], harness := (true, "58420b9511acaaef55f58be00e5402f65769d6a3f6ed1b2797057093088898e4"), looks := false }, kinds := [], alts := [], laidByText := true, laidKinds := [.data, .data, .data], laidTests := true, laidLooks := .later }
def RunHoldsUptoCardSaid : Prop := Claim7.holds Tryd.pinned (.plain (OpenSpec.upto runHoldsSpec)) runHoldsUptoCard

/-- THE SECOND FORM's CARD OF 'hopmeshlaw36.RunMore'. -/
def runMoreUptoCard : Claim7 := { stood := { row := runMoreUptoRow, standIns := [], harness := (true, "58420b9511acaaef55f58be00e5402f65769d6a3f6ed1b2797057093088898e4"), looks := false }, kinds := [], alts := [], laidByText := true, laidKinds := [.data, .data, .data], laidTests := true, laidLooks := .later }
def RunMoreUptoCardSaid : Prop := Claim7.holds Tryd.pinned (.plain (OpenSpec.upto runMoreSpec)) runMoreUptoCard
end Rows
end Go.Proofs.YtcmppdlaabbnlaaDoor
