/- The closed facts of the row of SpareBack, one by one (each is much for the kernel). -/
import Derived.Test.YtmbbmcoeedoafaaGreatDoorRows
import Derived.ProofKit
import Derived.Stop.Joined

namespace Go.Proofs.YtmbbmcoeedoafaaGreatDoor
open Go Go.RowKit
theorem spareBack_tt {a b : Bool} (ha : a = true) (hb : b = true) : (a && b) = true := by rw [ha, hb]; rfl
set_option maxRecDepth 100000 in
set_option maxHeartbeats 0 in
theorem spareBack_closed : joinedFacts Tryz.prog 3 Tryz.f3 Rows.spareBackSpec Rows.spareBackRow = true := by
  unfold joinedFacts
  repeat' (with_reducible refine spareBack_tt ?_ ?_)
  all_goals (as_aux_lemma => kernel_rfl)
end Go.Proofs.YtmbbmcoeedoafaaGreatDoor
