/- Further arguments' types. -/
import Derived.Test.YtcbpgfmedemibaaGreatDoorS86
import Derived.Test.YtcbpgfmedemibaaGreatDoorDb

namespace Go.Proofs.YtcbpgfmedemibaaGreatDoor
open Go Go.ChangeShapes Go.WideShapes Go.ChangeAt Go.RowKit HM

theorem ok_u8 : tU8.ok Tryz.prog 5 := (by kernel_rfl : Tryz.prog.underlying 5 = some (.int .u8))
end Go.Proofs.YtcbpgfmedemibaaGreatDoor
