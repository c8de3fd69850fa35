/- Groups of links: the reference's parts. -/
import Derived.Test.YtnckbcjkmbhgbaaGreatDoorS136
import Derived.Test.YtnckbcjkmbhgbaaGreatDoorDb
import Derived.Test.YtnckbcjkmbhgbaaGreatDoorS124
import Derived.Test.YtnckbcjkmbhgbaaGreatDoorS128
/- Groups of links: the reference's parts. -/
set_option maxRecDepth 100000
namespace HM
open Go Go.RowKit Go.Proofs
section
variable (L : World → Prop)

end
end HM

/- Groups of links: the reference. -/
set_option maxRecDepth 100000
namespace HM
open Go Go.RowKit Go.Proofs
section
variable (L : World → Prop)

end
end HM

/- Reasons: the reference. -/
set_option maxRecDepth 100000
namespace HM
open Go Go.RowKit Go.Proofs
section
variable (L : World → Prop)

end
end HM
