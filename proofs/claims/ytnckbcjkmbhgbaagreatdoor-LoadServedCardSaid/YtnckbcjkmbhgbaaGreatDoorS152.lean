/- Reasons: the reference's check, and its first one. -/
import Derived.Test.YtnckbcjkmbhgbaaGreatDoorS142
import Derived.Test.YtnckbcjkmbhgbaaGreatDoorDb
import Derived.Test.YtnckbcjkmbhgbaaGreatDoorS139
import Derived.Test.YtnckbcjkmbhgbaaGreatDoorS151
/- Reasons: the reference's check, and its first one. -/
set_option maxRecDepth 100000
namespace HM
open Go Go.RowKit Go.Proofs
section
variable (L : World → Prop)

end
end HM

/- Reasons: the reference's first one. -/
set_option maxRecDepth 100000
namespace HM
open Go Go.RowKit Go.Proofs
section
variable (L : World → Prop)

end
end HM

/- Reasons: the program's and the reference's, with groups. -/
set_option maxRecDepth 100000
namespace HM
open Go Go.RowKit Go.Proofs
section
variable (L : World → Prop)
theorem c_ReasonG (n : Net) (hn : n.small) (q : List Req) (hq : q.length ≤ 1099511627776) (hx : ∀ x ∈ q, x.small) (len offs : Int) :
    PCall Tryz.prog L 65 [n.av, encReqs q, .int .i64 len, .int .i64 offs] (.tup [(reasonG n q len offs).1.av, .bool (reasonG n q len offs).2.1, .int .i64 (reasonG n q len offs).2.2]) :=
  c_Reason L n hn q hq hx len offs (grpO n q len offs) (grpM n q len offs) rfl fun hQ h1 h2 _ _ => c_byGroup L n hn q hx len offs hQ (by omega) h2
end
end HM
