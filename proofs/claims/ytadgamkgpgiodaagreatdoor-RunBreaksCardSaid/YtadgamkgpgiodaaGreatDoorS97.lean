/- Further arguments' types. -/
import Derived.Test.YtadgamkgpgiodaaGreatDoorS86
import Derived.Test.YtadgamkgpgiodaaGreatDoorDb

namespace Go.Proofs.YtadgamkgpgiodaaGreatDoor
open Go Go.ChangeShapes Go.WideShapes Go.ChangeAt Go.RowKit HM

end Go.Proofs.YtadgamkgpgiodaaGreatDoor
