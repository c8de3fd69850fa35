/- The closed facts of the row of LoadServed, one by one (each is much for the kernel). -/
import Derived.Test.YtnckbcjkmbhgbaaGreatDoorRows
import Derived.ProofKit
import Derived.Stop.Joined

namespace Go.Proofs.YtnckbcjkmbhgbaaGreatDoor
open Go Go.RowKit
theorem loadServed_tt {a b : Bool} (ha : a = true) (hb : b = true) : (a && b) = true := by rw [ha, hb]; rfl
set_option maxRecDepth 100000 in
set_option maxHeartbeats 0 in
theorem loadServed_closed : joinedFacts Tryz.prog 13 Tryz.f13 Rows.loadServedSpec Rows.loadServedRow = true := by
  unfold joinedFacts
  repeat' (with_reducible refine loadServed_tt ?_ ?_)
  all_goals (as_aux_lemma => kernel_rfl)
end Go.Proofs.YtnckbcjkmbhgbaaGreatDoor
