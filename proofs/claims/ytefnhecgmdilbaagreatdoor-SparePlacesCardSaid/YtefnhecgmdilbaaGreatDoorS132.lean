/- Further arguments' types: requests, reasons. -/
import Derived.Test.YtefnhecgmdilbaaGreatDoorS86
import Derived.Test.YtefnhecgmdilbaaGreatDoorDb

namespace Go.Proofs.YtefnhecgmdilbaaGreatDoor
open Go Go.ChangeShapes Go.WideShapes Go.ChangeAt Go.RowKit HM

set_option maxRecDepth 100000 in
theorem ok_req : tReq.ok Tryz.prog 53 := ⟨_, rfl, by kernel_rfl, rfl, by kernel_rfl, ok_flow, rfl, by kernel_rfl, ok_routes, trivial⟩

theorem ok_reqs : (Ty.sl tReq).ok Tryz.prog 27 := ⟨53, by kernel_rfl, by kernel_rfl, by decide, Nat.le_of_ble_eq_true (by kernel_rfl), ok_req⟩

end Go.Proofs.YtefnhecgmdilbaaGreatDoor
