/- The closed facts of the row of AdmitServes, one by one (each is much for the kernel). -/
import Derived.Test.YtgfboaadhlhjhaaGreatDoorRows
import Derived.ProofKit
import Derived.Stop.Joined
namespace Go.Proofs.YtgfboaadhlhjhaaGreatDoor
open Go Go.RowKit
theorem admitServes_tt {a b : Bool} (ha : a = true) (hb : b = true) : (a && b) = true := by rw [ha, hb]; rfl
set_option maxRecDepth 100000 in
set_option maxHeartbeats 0 in
theorem admitServes_closed : joinedFacts Tryz.prog 5 Tryz.f5 Rows.admitServesSpec Rows.admitServesRow = true := by
  unfold joinedFacts
  repeat' (with_reducible refine admitServes_tt ?_ ?_)
  all_goals (as_aux_lemma => kernel_rfl)
end Go.Proofs.YtgfboaadhlhjhaaGreatDoor
