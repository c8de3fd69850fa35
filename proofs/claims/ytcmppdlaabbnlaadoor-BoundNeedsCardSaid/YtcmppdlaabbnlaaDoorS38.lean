/- Which slots count: the reference. -/
import Derived.Test.YtcmppdlaabbnlaaDoorS34
import Derived.Test.YtcmppdlaabbnlaaDoorDa

set_option maxRecDepth 100000
namespace HM
open Go Go.RowKit Go.Proofs
section
variable (L : World → Prop)





