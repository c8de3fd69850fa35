/- The closed facts of the row of AdmitExact, one by one (each is much for the kernel). -/
import Derived.Test.YtgfboaadhlhjhaaGreatDoorRows
import Derived.ProofKit
import Derived.Stop.Joined
namespace Go.Proofs.YtgfboaadhlhjhaaGreatDoor
open Go Go.RowKit
theorem admitExact_tt {a b : Bool} (ha : a = true) (hb : b = true) : (a && b) = true := by rw [ha, hb]; rfl
set_option maxRecDepth 100000 in
set_option maxHeartbeats 0 in
theorem admitExact_closed : joinedFacts Tryz.prog 6 Tryz.f6 Rows.admitExactSpec Rows.admitExactRow = true := by
  unfold joinedFacts
  repeat' (with_reducible refine admitExact_tt ?_ ?_)
  all_goals (as_aux_lemma => kernel_rfl)
end Go.Proofs.YtgfboaadhlhjhaaGreatDoor
