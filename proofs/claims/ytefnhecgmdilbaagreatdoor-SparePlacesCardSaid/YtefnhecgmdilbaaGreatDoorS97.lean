/- Further arguments' types. -/
import Derived.Test.YtefnhecgmdilbaaGreatDoorS86
import Derived.Test.YtefnhecgmdilbaaGreatDoorDb

namespace Go.Proofs.YtefnhecgmdilbaaGreatDoor
open Go Go.ChangeShapes Go.WideShapes Go.ChangeAt Go.RowKit HM

end Go.Proofs.YtefnhecgmdilbaaGreatDoor
