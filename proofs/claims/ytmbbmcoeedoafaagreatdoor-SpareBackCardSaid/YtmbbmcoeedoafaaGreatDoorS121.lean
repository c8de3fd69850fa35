/- Equal lists of numbers: the reference. -/
import Derived.Test.YtmbbmcoeedoafaaGreatDoorS1

set_option maxRecDepth 100000
namespace HM
open Go Go.RowKit Go.Proofs
section
variable (L : World → Prop)

end
end HM
