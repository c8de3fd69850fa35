/- Reasons: the program's and the reference's, with groups. -/
import Derived.Test.YtdjglaoahmaljaaGreatDoorS141
import Derived.Test.YtdjglaoahmaljaaGreatDoorS151
import Derived.Test.YtdjglaoahmaljaaGreatDoorS153
import Derived.Test.YtdjglaoahmaljaaGreatDoorDb

set_option maxRecDepth 100000
namespace HM
open Go Go.RowKit Go.Proofs
section
variable (L : World → Prop)
theorem c_ReasonG (n : Net) (hn : n.small) (q : List Req) (hq : q.length ≤ 1099511627776) (hx : ∀ x ∈ q, x.small) (len offs : Int) :
    PCall Tryz.prog L 12 [n.av, encReqs q, .int .i64 len, .int .i64 offs] (.tup [(reasonG n q len offs).1.av, .bool (reasonG n q len offs).2.1, .int .i64 (reasonG n q len offs).2.2]) :=
  c_Reason L n hn q hq hx len offs (grpO n q len offs) (grpM n q len offs) rfl fun hQ h1 h2 _ _ => c_byGroup L n hn q hx len offs hQ (by omega) h2
theorem c_VerifyG (n : Net) (hn : n.small) (q : List Req) (hq : q.length ≤ 1099511627776) (hx : ∀ x ∈ q, x.small) (len offs : Int) (r : Rsn) (hr : r.links.length ≤ 1099511627776) : PCall Tryz.prog L 15 [n.av, encReqs q, .int .i64 len, .int .i64 offs, r.av] (.int .i64 (verifyM n q len offs r (apartB n q r.links))) :=
  c_Verify L n hn q hq hx len offs r (by omega) (apartB n q r.links) fun hQ h1 h2 _ => ⟨c_apart L n hn q hx len offs hQ r.links (by omega), fun _ => c_qgroup L n hn q hx len offs hQ (by omega) h2 r.links hr⟩
end
end HM
