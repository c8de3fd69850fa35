/- Requests: the reference. -/
import Derived.Test.YtmbbmcoeedoafaaGreatDoorS121
import Derived.Test.YtmbbmcoeedoafaaGreatDoorS120
import Derived.Test.YtmbbmcoeedoafaaGreatDoorS33

set_option maxRecDepth 100000
namespace HM
open Go Go.RowKit Go.Proofs
section
variable (L : World → Prop)

end
end HM
