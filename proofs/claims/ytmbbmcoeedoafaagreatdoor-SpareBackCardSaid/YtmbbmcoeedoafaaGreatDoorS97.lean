/- Further arguments' types. -/
import Derived.Test.YtmbbmcoeedoafaaGreatDoorS86
import Derived.Test.YtmbbmcoeedoafaaGreatDoorDb

namespace Go.Proofs.YtmbbmcoeedoafaaGreatDoor
open Go Go.ChangeShapes Go.WideShapes Go.ChangeAt Go.RowKit HM

theorem ok_u8 : tU8.ok Tryz.prog 5 := (by kernel_rfl : Tryz.prog.underlying 5 = some (.int .u8))
end Go.Proofs.YtmbbmcoeedoafaaGreatDoor
