/-
  DERIVED. GIVEN WITH THE SEED: THE CARDS: each row of YtdjglaoahmaljaaGreatDoorRows.lean that lists a variable, with what it lists TIED to the program's text (the seventh form; the later family's looks); each row that meets fmt, with fmt's text TOLD by the authors' own Lean function (tested against real Go, not proved from fmt's source: count such statements apart). THE CARD IS WHAT COUNTS. Prove the row's statement (the work); the ties are given (YtdjglaoahmaljaaGreatDoorTie.lean); close each card by the builder's one call (the guide's Derived/Test/ToyasCard.lean, 'card_holds'). Laid BY PROGRAM, IN A SANDBOX (cutbox-door.mjs). By AI agents, Wed Nov 11 2026. No macro, syntax, notation, axiom, sorry.
-/
import Derived.Test.YtdjglaoahmaljaaGreatDoorRows
import GoSem.ClaimSeven
namespace Go.Proofs.YtdjglaoahmaljaaGreatDoor
namespace Rows

/-- THE TIED CARD OF 'hopmeshlaw39.LoadReasons'. -/
def loadReasonsCard : Claim7 := { stood := { row := loadReasonsRow, standIns := [], harness := (true, "596d31c4bd7654745669417f6e18ab21b1ecd4c313ac60e8ea2e0b111aa04f48"), looks := false }, kinds := [], alts := [], laidByText := true, laidKinds := [.data, .data, .data], laidTests := true, laidLooks := .later }
def LoadReasonsCardSaid : Prop := Claim7.holds Tryz.pinned (.plain (OpenSpec.ofChange loadReasonsSpec)) loadReasonsCard

/-- THE TIED CARD OF 'hopmeshlaw39.LoadVerifies'. -/
def loadVerifiesCard : Claim7 := { stood := { row := loadVerifiesRow, standIns := [], harness := (true, "596d31c4bd7654745669417f6e18ab21b1ecd4c313ac60e8ea2e0b111aa04f48"), looks := false }, kinds := [], alts := [], laidByText := true, laidKinds := [.data, .data, .data], laidTests := true, laidLooks := .later }
def LoadVerifiesCardSaid : Prop := Claim7.holds Tryz.pinned (.plain (OpenSpec.ofChange loadVerifiesSpec)) loadVerifiesCard

/-- THE TIED CARD OF 'hopmeshlaw39.LoadServed'. -/
def loadServedCard : Claim7 := { stood := { row := loadServedRow, standIns := [], harness := (true, "596d31c4bd7654745669417f6e18ab21b1ecd4c313ac60e8ea2e0b111aa04f48"), looks := false }, kinds := [], alts := [], laidByText := true, laidKinds := [.data, .data, .data], laidTests := true, laidLooks := .later }
def LoadServedCardSaid : Prop := Claim7.holds Tryz.pinned (.plain (OpenSpec.ofChange loadServedSpec)) loadServedCard

/-- THE TIED CARD OF 'hopmeshlaw39.LoadMore'. -/
def loadMoreCard : Claim7 := { stood := { row := loadMoreRow, standIns := [], harness := (true, "596d31c4bd7654745669417f6e18ab21b1ecd4c313ac60e8ea2e0b111aa04f48"), looks := false }, kinds := [], alts := [], laidByText := true, laidKinds := [.data, .data, .data], laidTests := true, laidLooks := .later }
def LoadMoreCardSaid : Prop := Claim7.holds Tryz.pinned (.plain (OpenSpec.ofChange loadMoreSpec)) loadMoreCard

/-- THE TIED CARD OF 'hopmeshlaw39.LoadCounts'. -/
def loadCountsCard : Claim7 := { stood := { row := loadCountsRow, standIns := [], harness := (true, "596d31c4bd7654745669417f6e18ab21b1ecd4c313ac60e8ea2e0b111aa04f48"), looks := false }, kinds := [], alts := [], laidByText := true, laidKinds := [.data, .data, .data], laidTests := true, laidLooks := .later }
def LoadCountsCardSaid : Prop := Claim7.holds Tryz.pinned (.plain (OpenSpec.ofChange loadCountsSpec)) loadCountsCard

/-- THE TIED CARD OF 'hopmeshlaw39.LoadSums'. -/
def loadSumsCard : Claim7 := { stood := { row := loadSumsRow, standIns := [], harness := (true, "596d31c4bd7654745669417f6e18ab21b1ecd4c313ac60e8ea2e0b111aa04f48"), looks := false }, kinds := [], alts := [], laidByText := true, laidKinds := [.data, .data, .data], laidTests := true, laidLooks := .later }
def LoadSumsCardSaid : Prop := Claim7.holds Tryz.pinned (.plain (OpenSpec.ofChange loadSumsSpec)) loadSumsCard

/-- THE TIED CARD OF 'hopmeshlaw39.LoadLeast'. -/
def loadLeastCard : Claim7 := { stood := { row := loadLeastRow, standIns := [], harness := (true, "596d31c4bd7654745669417f6e18ab21b1ecd4c313ac60e8ea2e0b111aa04f48"), looks := false }, kinds := [], alts := [], laidByText := true, laidKinds := [.data, .data, .data], laidTests := true, laidLooks := .later }
def LoadLeastCardSaid : Prop := Claim7.holds Tryz.pinned (.plain (OpenSpec.ofChange loadLeastSpec)) loadLeastCard

/-- THE SECOND FORM's CARD OF 'hopmeshlaw39.LoadReasons'. -/
def loadReasonsUptoCard : Claim7 := { stood := { row := loadReasonsUptoRow, standIns := [], harness := (true, "596d31c4bd7654745669417f6e18ab21b1ecd4c313ac60e8ea2e0b111aa04f48"), looks := false }, kinds := [], alts := [], laidByText := true, laidKinds := [.data, .data, .data], laidTests := true, laidLooks := .later }
def LoadReasonsUptoCardSaid : Prop := Claim7.holds Tryz.pinned (.plain (OpenSpec.upto loadReasonsSpec)) loadReasonsUptoCard

/-- THE SECOND FORM's CARD OF 'hopmeshlaw39.LoadVerifies'. -/
def loadVerifiesUptoCard : Claim7 := { stood := { row := loadVerifiesUptoRow, standIns := [], harness := (true, "596d31c4bd7654745669417f6e18ab21b1ecd4c313ac60e8ea2e0b111aa04f48"), looks := false }, kinds := [], alts := [], laidByText := true, laidKinds := [.data, .data, .data], laidTests := true, laidLooks := .later }
def LoadVerifiesUptoCardSaid : Prop := Claim7.holds Tryz.pinned (.plain (OpenSpec.upto loadVerifiesSpec)) loadVerifiesUptoCard

/-- THE SECOND FORM's CARD OF 'hopmeshlaw39.LoadServed'. -/
def loadServedUptoCard : Claim7 := { stood := { row := loadServedUptoRow, standIns := [], harness := (true, "596d31c4bd7654745669417f6e18ab21b1ecd4c313ac60e8ea2e0b111aa04f48"), looks := false }, kinds := [], alts := [], laidByText := true, laidKinds := [.data, .data, .data], laidTests := true, laidLooks := .later }
def LoadServedUptoCardSaid : Prop := Claim7.holds Tryz.pinned (.plain (OpenSpec.upto loadServedSpec)) loadServedUptoCard

/-- THE SECOND FORM's CARD OF 'hopmeshlaw39.LoadMore'. -/
def loadMoreUptoCard : Claim7 := { stood := { row := loadMoreUptoRow, standIns := [], harness := (true, "596d31c4bd7654745669417f6e18ab21b1ecd4c313ac60e8ea2e0b111aa04f48"), looks := false }, kinds := [], alts := [], laidByText := true, laidKinds := [.data, .data, .data], laidTests := true, laidLooks := .later }
def LoadMoreUptoCardSaid : Prop := Claim7.holds Tryz.pinned (.plain (OpenSpec.upto loadMoreSpec)) loadMoreUptoCard

/-- THE SECOND FORM's CARD OF 'hopmeshlaw39.LoadCounts'. -/
def loadCountsUptoCard : Claim7 := { stood := { row := loadCountsUptoRow, standIns := [], harness := (true, "596d31c4bd7654745669417f6e18ab21b1ecd4c313ac60e8ea2e0b111aa04f48"), looks := false }, kinds := [], alts := [], laidByText := true, laidKinds := [.data, .data, .data], laidTests := true, laidLooks := .later }
def LoadCountsUptoCardSaid : Prop := Claim7.holds Tryz.pinned (.plain (OpenSpec.upto loadCountsSpec)) loadCountsUptoCard

/-- THE SECOND FORM's CARD OF 'hopmeshlaw39.LoadSums'. -/
def loadSumsUptoCard : Claim7 := { stood := { row := loadSumsUptoRow, standIns := [], harness := (true, "596d31c4bd7654745669417f6e18ab21b1ecd4c313ac60e8ea2e0b111aa04f48"), looks := false }, kinds := [], alts := [], laidByText := true, laidKinds := [.data, .data, .data], laidTests := true, laidLooks := .later }
def LoadSumsUptoCardSaid : Prop := Claim7.holds Tryz.pinned (.plain (OpenSpec.upto loadSumsSpec)) loadSumsUptoCard

/-- THE SECOND FORM's CARD OF 'hopmeshlaw39.LoadLeast'. -/
def loadLeastUptoCard : Claim7 := { stood := { row := loadLeastUptoRow, standIns := [], harness := (true, "596d31c4bd7654745669417f6e18ab21b1ecd4c313ac60e8ea2e0b111aa04f48"), looks := false }, kinds := [], alts := [], laidByText := true, laidKinds := [.data, .data, .data], laidTests := true, laidLooks := .later }
def LoadLeastUptoCardSaid : Prop := Claim7.holds Tryz.pinned (.plain (OpenSpec.upto loadLeastSpec)) loadLeastUptoCard
end Rows
end Go.Proofs.YtdjglaoahmaljaaGreatDoor
