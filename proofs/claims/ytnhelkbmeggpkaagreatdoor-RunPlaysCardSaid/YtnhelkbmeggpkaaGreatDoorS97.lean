/- Further arguments' types. -/
import Derived.Test.YtnhelkbmeggpkaaGreatDoorS86
import Derived.Test.YtnhelkbmeggpkaaGreatDoorDb

namespace Go.Proofs.YtnhelkbmeggpkaaGreatDoor
open Go Go.ChangeShapes Go.WideShapes Go.ChangeAt Go.RowKit HM

set_option maxRecDepth 100000 in
theorem ok_chg : tChg.ok Tryz.prog 111 := ⟨_, rfl, by kernel_rfl, rfl, by kernel_rfl, ok_int, rfl, by kernel_rfl, bool_und, rfl, by kernel_rfl, ok_cell, trivial⟩

theorem ok_chgs : (Ty.sl tChg).ok Tryz.prog 68 := ⟨111, by kernel_rfl, by kernel_rfl, by decide, Nat.le_of_ble_eq_true (by kernel_rfl), ok_chg⟩

end Go.Proofs.YtnhelkbmeggpkaaGreatDoor
