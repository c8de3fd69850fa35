/- The closed facts of the row of ChangeTimes, one by one (each is much for the kernel). -/
import Derived.Test.YtggiajmlnieidaaGreatDoorRows
import Derived.ProofKit
import Derived.Stop.Joined
set_option maxHeartbeats 64000000
namespace Go.Proofs.YtggiajmlnieidaaGreatDoor
open Go Go.RowKit
theorem changeTimes_tt {a b:Bool}(ha:a=true)(hb:b=true):(a&&b)=true:=by rw[ha,hb];rfl
set_option maxRecDepth 100000 in
theorem changeTimes_closed:joinedFacts Tryz.prog 5 Tryz.f5 Rows.changeTimesSpec Rows.changeTimesRow=true:=by
 unfold joinedFacts
 repeat' (with_reducible refine changeTimes_tt ?_ ?_)
 all_goals(as_aux_lemma=>kernel_rfl)
end Go.Proofs.YtggiajmlnieidaaGreatDoor
