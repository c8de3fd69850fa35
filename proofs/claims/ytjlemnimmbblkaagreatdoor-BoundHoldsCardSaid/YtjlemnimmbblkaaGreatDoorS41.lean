/- The reference's Route, Least and Slack. -/
import Derived.Test.YtjlemnimmbblkaaGreatDoorS40

set_option maxRecDepth 100000
namespace HM
open Go Go.RowKit Go.Proofs
section
variable (L : World → Prop)





end
end HM
