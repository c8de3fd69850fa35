/- The closed facts of the row of ChangeEarliest, one by one (each is much for the kernel). -/
import Derived.Test.YtggiajmlnieidaaGreatDoorRows
import Derived.ProofKit
import Derived.Stop.Joined
set_option maxHeartbeats 64000000
namespace Go.Proofs.YtggiajmlnieidaaGreatDoor
open Go Go.RowKit
theorem changeEarliest_tt {a b:Bool}(ha:a=true)(hb:b=true):(a&&b)=true:=by rw[ha,hb];rfl
set_option maxRecDepth 100000 in
theorem changeEarliest_closed:joinedFacts Tryz.prog 4 Tryz.f4 Rows.changeEarliestSpec Rows.changeEarliestRow=true:=by
 unfold joinedFacts
 repeat' (with_reducible refine changeEarliest_tt ?_ ?_)
 all_goals(as_aux_lemma=>kernel_rfl)
end Go.Proofs.YtggiajmlnieidaaGreatDoor
