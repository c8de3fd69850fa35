/- Networks: Check, Index, Usable. -/
import Derived.Test.YtnhelkbmeggpkaaGreatDoorS30

set_option maxRecDepth 100000
namespace HM
open Go Go.RowKit Go.Proofs
section
variable (L : World → Prop)
