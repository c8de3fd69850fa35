/- The closed facts of the row of OrderDecides, one by one (each is much for the kernel). -/
import Derived.Test.YtckcedndijobaaaGreatDoorRows
import Derived.ProofKit
import Derived.Stop.Joined
set_option maxHeartbeats 64000000
namespace Go.Proofs.YtckcedndijobaaaGreatDoor
open Go Go.RowKit
theorem orderDecides_tt {a b:Bool}(ha:a=true)(hb:b=true):(a&&b)=true:=by rw[ha,hb];rfl
set_option maxRecDepth 100000 in
theorem orderDecides_closed:joinedFacts Tryz.prog 7 Tryz.f7 Rows.orderDecidesSpec Rows.orderDecidesRow=true:=by
 unfold joinedFacts
 repeat' (with_reducible refine orderDecides_tt ?_ ?_)
 all_goals(as_aux_lemma=>kernel_rfl)
end Go.Proofs.YtckcedndijobaaaGreatDoor
