/- The reference: the form of a schedule. -/
import Derived.Test.YtdjglaoahmaljaaGreatDoorS3

set_option maxRecDepth 100000
namespace HM
open Go Go.RowKit Go.Proofs
variable (L : World → Prop)
