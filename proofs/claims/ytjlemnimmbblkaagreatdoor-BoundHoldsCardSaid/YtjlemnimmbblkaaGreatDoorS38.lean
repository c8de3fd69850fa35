/- Which slots count: the reference. -/
import Derived.Test.YtjlemnimmbblkaaGreatDoorS34
import Derived.Test.YtjlemnimmbblkaaGreatDoorDa

set_option maxRecDepth 100000
namespace HM
open Go Go.RowKit Go.Proofs
section
variable (L : World → Prop)





