/- Further arguments' types: requests, reasons. -/
import Derived.Test.YtdjglaoahmaljaaGreatDoorS86
import Derived.Test.YtdjglaoahmaljaaGreatDoorDa

namespace Go.Proofs.YtdjglaoahmaljaaGreatDoor
open Go Go.ChangeShapes Go.WideShapes Go.ChangeAt Go.RowKit HM

set_option maxRecDepth 100000 in
theorem ok_req : tReq.ok Tryz.prog 77 := ⟨_, rfl, by kernel_rfl, rfl, by kernel_rfl, ok_flow, rfl, by kernel_rfl, ok_routes, trivial⟩

theorem ok_reqs : (Ty.sl tReq).ok Tryz.prog 27 := ⟨77, by kernel_rfl, by kernel_rfl, by decide, Nat.le_of_ble_eq_true (by kernel_rfl), ok_req⟩

set_option maxRecDepth 100000 in
theorem ok_rsn : tRsn.ok Tryz.prog 31 := ⟨_, rfl, by kernel_rfl, rfl, by kernel_rfl, ok_int, rfl, by kernel_rfl, ok_int, rfl, by kernel_rfl, ok_int, rfl, by kernel_rfl, ok_int, rfl, by kernel_rfl, ok_links, rfl, by kernel_rfl, ok_int, rfl, by kernel_rfl, ok_int, trivial⟩

theorem ok_u16 : tU16.ok Tryz.prog 54 := (by kernel_rfl : Tryz.prog.underlying 54 = some (.int .u16))
end Go.Proofs.YtdjglaoahmaljaaGreatDoor
