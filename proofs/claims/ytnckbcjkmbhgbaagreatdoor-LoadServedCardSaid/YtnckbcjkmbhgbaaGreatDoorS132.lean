/- Further arguments' types: requests, reasons. -/
import Derived.Test.YtnckbcjkmbhgbaaGreatDoorS86
import Derived.Test.YtnckbcjkmbhgbaaGreatDoorDa

namespace Go.Proofs.YtnckbcjkmbhgbaaGreatDoor
open Go Go.ChangeShapes Go.WideShapes Go.ChangeAt Go.RowKit HM

set_option maxRecDepth 100000 in
theorem ok_req : tReq.ok Tryz.prog 56 := ⟨_, rfl, by kernel_rfl, rfl, by kernel_rfl, ok_flow, rfl, by kernel_rfl, ok_routes, trivial⟩

theorem ok_reqs : (Ty.sl tReq).ok Tryz.prog 54 := ⟨56, by kernel_rfl, by kernel_rfl, by decide, Nat.le_of_ble_eq_true (by kernel_rfl), ok_req⟩

end Go.Proofs.YtnckbcjkmbhgbaaGreatDoor
