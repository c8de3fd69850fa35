/- Certificates: the reference. -/
import Derived.Test.YtckcedndijobaaaGreatDoorS53
import Derived.Test.YtckcedndijobaaaGreatDoorDd
import Derived.Test.YtckcedndijobaaaGreatDoorS38
import Derived.Test.YtckcedndijobaaaGreatDoorFh
import Derived.Test.YtckcedndijobaaaGreatDoorS138
import Derived.Test.YtckcedndijobaaaGreatDoorS122
import Derived.Test.YtckcedndijobaaaGreatDoorS103
import Derived.Test.YtckcedndijobaaaGreatDoorDe
import Derived.Test.YtckcedndijobaaaGreatDoorS257
set_option maxRecDepth 100000
namespace HM
open Go Go.RowKit Go.Proofs
section
variable (L:World→Prop)
end
section
variable (L:World→Prop)
end
section
variable (L:World→Prop)
end
end HM
