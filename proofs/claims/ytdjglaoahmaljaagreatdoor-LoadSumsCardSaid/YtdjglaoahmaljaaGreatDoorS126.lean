/- Requests: the reference. -/
import Derived.Test.YtdjglaoahmaljaaGreatDoorS121
import Derived.Test.YtdjglaoahmaljaaGreatDoorS120
import Derived.Test.YtdjglaoahmaljaaGreatDoorS33

set_option maxRecDepth 100000
namespace HM
open Go Go.RowKit Go.Proofs
section
variable (L : World → Prop)

end
end HM
