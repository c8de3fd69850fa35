/- Schedules: their form. -/
import Derived.Test.YtdjglaoahmaljaaGreatDoorS2

set_option maxRecDepth 100000
namespace HM
open Go Go.RowKit Go.Proofs
variable (L : World → Prop)

end HM
