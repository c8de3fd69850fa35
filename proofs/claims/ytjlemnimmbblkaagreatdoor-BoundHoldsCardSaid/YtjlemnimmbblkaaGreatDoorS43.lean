/- Guards and the example of the law on bounds. -/
import Derived.Test.YtjlemnimmbblkaaGreatDoorS42
import Derived.Test.YtjlemnimmbblkaaGreatDoorS114

set_option maxRecDepth 100000
namespace HM
open Go Go.RowKit Go.Proofs
section
variable (L : World → Prop)

end
end HM
