/- The references on networks, flows and routes. -/
import Derived.Test.YtckcedndijobaaaGreatDoorS30
set_option maxRecDepth 100000
namespace HM
open Go Go.RowKit Go.Proofs
section
variable (L:World→Prop)
end
end HM
