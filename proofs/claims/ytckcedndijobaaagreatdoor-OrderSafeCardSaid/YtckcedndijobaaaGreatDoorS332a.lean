/- The closed facts of the row of OrderSafe, one by one (each is much for the kernel). -/
import Derived.Test.YtckcedndijobaaaGreatDoorRows
import Derived.ProofKit
import Derived.Stop.Joined
set_option maxHeartbeats 64000000
namespace Go.Proofs.YtckcedndijobaaaGreatDoor
open Go Go.RowKit
theorem orderSafe_tt {a b:Bool}(ha:a=true)(hb:b=true):(a&&b)=true:=by rw[ha,hb];rfl
set_option maxRecDepth 100000 in
theorem orderSafe_closed:joinedFacts Tryz.prog 8 Tryz.f8 Rows.orderSafeSpec Rows.orderSafeRow=true:=by
 unfold joinedFacts
 repeat' (with_reducible refine orderSafe_tt ?_ ?_)
 all_goals(as_aux_lemma=>kernel_rfl)
end Go.Proofs.YtckcedndijobaaaGreatDoor
