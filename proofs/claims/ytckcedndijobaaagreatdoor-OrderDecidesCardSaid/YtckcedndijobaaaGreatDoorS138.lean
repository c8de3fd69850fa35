/- Which links can be together: the reference. -/
import Derived.Test.YtckcedndijobaaaGreatDoorS137
import Derived.Test.YtckcedndijobaaaGreatDoorS33
import Derived.Test.YtckcedndijobaaaGreatDoorS68
import Derived.Test.YtckcedndijobaaaGreatDoorS34
import Derived.Test.YtckcedndijobaaaGreatDoorS1
import Derived.Test.YtckcedndijobaaaGreatDoorDe
import Derived.Test.YtckcedndijobaaaGreatDoorFh
import Derived.Test.YtckcedndijobaaaGreatDoorS122
import Derived.Test.YtckcedndijobaaaGreatDoorS103
import Derived.Test.YtckcedndijobaaaGreatDoorS38
set_option maxRecDepth 100000
namespace HM
open Go Go.RowKit Go.Proofs
section
variable (L:World→Prop)
end
section
variable (L:World→Prop)
end
section
variable (L:World→Prop)
end
section
variable (L:World→Prop)
end
section
variable (L:World→Prop)
end
end HM
