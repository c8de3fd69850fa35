/- The closed facts of the row of AdmitTrims, one by one (each is much for the kernel). -/
import Derived.Test.YtpdlbjnjdbgpaaaGreatDoorRows
import Derived.ProofKit
import Derived.Stop.Joined
set_option maxHeartbeats 64000000
namespace Go.Proofs.YtpdlbjnjdbgpaaaGreatDoor
open Go Go.RowKit
theorem admitTrims_tt {a b:Bool}(ha:a=true)(hb:b=true):(a&&b)=true:=by rw[ha,hb];rfl
set_option maxRecDepth 100000 in
theorem admitTrims_closed:joinedFacts Tryz.prog 3 Tryz.f3 Rows.admitTrimsSpec Rows.admitTrimsRow=true:=by
 unfold joinedFacts
 repeat' (with_reducible refine admitTrims_tt ?_ ?_)
 all_goals(as_aux_lemma=>kernel_rfl)
end Go.Proofs.YtpdlbjnjdbgpaaaGreatDoor
