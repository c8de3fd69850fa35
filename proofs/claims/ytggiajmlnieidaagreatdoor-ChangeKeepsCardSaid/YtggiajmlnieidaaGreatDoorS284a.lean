/- The closed facts of the row of ChangeKeeps, one by one (each is much for the kernel). -/
import Derived.Test.YtggiajmlnieidaaGreatDoorRows
import Derived.ProofKit
import Derived.Stop.Joined
set_option maxHeartbeats 64000000
namespace Go.Proofs.YtggiajmlnieidaaGreatDoor
open Go Go.RowKit
theorem changeKeeps_tt {a b:Bool}(ha:a=true)(hb:b=true):(a&&b)=true:=by rw[ha,hb];rfl
set_option maxRecDepth 100000 in
theorem changeKeeps_closed:joinedFacts Tryz.prog 8 Tryz.f8 Rows.changeKeepsSpec Rows.changeKeepsRow=true:=by
 unfold joinedFacts
 repeat' (with_reducible refine changeKeeps_tt ?_ ?_)
 all_goals(as_aux_lemma=>kernel_rfl)
end Go.Proofs.YtggiajmlnieidaaGreatDoor
