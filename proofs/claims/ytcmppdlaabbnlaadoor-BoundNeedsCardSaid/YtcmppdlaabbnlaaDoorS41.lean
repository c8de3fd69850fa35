/- The reference's Route, Least and Slack. -/
import Derived.Test.YtcmppdlaabbnlaaDoorS40

set_option maxRecDepth 100000
namespace HM
open Go Go.RowKit Go.Proofs
section
variable (L : World → Prop)





theorem wayE_late (n : Net) (s : Sched) (f : Flow) (r : List Int) : wayE n s f r ≠ 15 := by
  unfold wayE routeE routeF endsE
  repeat' split
  all_goals first | decide | omega
end
end HM
