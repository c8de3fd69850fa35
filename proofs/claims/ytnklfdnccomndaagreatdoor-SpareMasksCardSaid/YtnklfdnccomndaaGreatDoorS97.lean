/- Further arguments' types. -/
import Derived.Test.YtnklfdnccomndaaGreatDoorS86
import Derived.Test.YtnklfdnccomndaaGreatDoorDb

namespace Go.Proofs.YtnklfdnccomndaaGreatDoor
open Go Go.ChangeShapes Go.WideShapes Go.ChangeAt Go.RowKit HM

set_option maxRecDepth 100000 in
theorem ok_chg : tChg.ok Tryz.prog 52 := ⟨_, rfl, by kernel_rfl, rfl, by kernel_rfl, ok_int, rfl, by kernel_rfl, bool_und, rfl, by kernel_rfl, ok_cell, trivial⟩

theorem ok_chgs : (Ty.sl tChg).ok Tryz.prog 25 := ⟨52, by kernel_rfl, by kernel_rfl, by decide, Nat.le_of_ble_eq_true (by kernel_rfl), ok_chg⟩

end Go.Proofs.YtnklfdnccomndaaGreatDoor
