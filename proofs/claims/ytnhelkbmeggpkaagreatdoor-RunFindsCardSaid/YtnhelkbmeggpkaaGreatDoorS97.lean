/- Further arguments' types. -/
import Derived.Test.YtnhelkbmeggpkaaGreatDoorS86
import Derived.Test.YtnhelkbmeggpkaaGreatDoorDb

namespace Go.Proofs.YtnhelkbmeggpkaaGreatDoor
open Go Go.ChangeShapes Go.WideShapes Go.ChangeAt Go.RowKit HM

set_option maxRecDepth 100000 in
theorem ok_att : tAtt.ok Tryz.prog 53 := ⟨_, rfl, by kernel_rfl, rfl, by kernel_rfl, ok_int, rfl, by kernel_rfl, ok_int, rfl, by kernel_rfl, ok_cell, rfl, by kernel_rfl, ok_int, trivial⟩

set_option maxRecDepth 100000 in
theorem ok_del : tDel.ok Tryz.prog 71 := ⟨_, rfl, by kernel_rfl, rfl, by kernel_rfl, ok_int, rfl, by kernel_rfl, ok_int, rfl, by kernel_rfl, ok_int, trivial⟩

theorem ok_atts : (Ty.sl tAtt).ok Tryz.prog 38 := ⟨53, by kernel_rfl, by kernel_rfl, by decide, Nat.le_of_ble_eq_true (by kernel_rfl), ok_att⟩

theorem ok_dels : (Ty.sl tDel).ok Tryz.prog 39 := ⟨71, by kernel_rfl, by kernel_rfl, by decide, Nat.le_of_ble_eq_true (by kernel_rfl), ok_del⟩

set_option maxRecDepth 100000 in
theorem ok_run : tRun.ok Tryz.prog 41 := ⟨_, rfl, by kernel_rfl, rfl, by kernel_rfl, ok_atts, rfl, by kernel_rfl, ok_dels, trivial⟩

end Go.Proofs.YtnhelkbmeggpkaaGreatDoor
