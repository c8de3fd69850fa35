/- Whether links are a group: the program. -/
import Derived.Test.YtnckbcjkmbhgbaaGreatDoorS139

set_option maxRecDepth 100000
namespace HM
open Go Go.RowKit Go.Proofs
section
variable (L : World → Prop)

end
end HM
