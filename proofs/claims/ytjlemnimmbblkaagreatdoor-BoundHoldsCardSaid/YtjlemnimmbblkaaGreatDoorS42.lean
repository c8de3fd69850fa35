/- The reference's Least, Slack and guards. -/
import Derived.Test.YtjlemnimmbblkaaGreatDoorS41

set_option maxRecDepth 100000
namespace HM
open Go Go.RowKit Go.Proofs
section
variable (L : World → Prop)
