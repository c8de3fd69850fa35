/- Searches in slices; masks. -/
import Derived.Test.YtnhelkbmeggpkaaGreatDoorS7

set_option maxRecDepth 100000
namespace HM
open Go Go.RowKit Go.Proofs
section
variable (L : World → Prop)









