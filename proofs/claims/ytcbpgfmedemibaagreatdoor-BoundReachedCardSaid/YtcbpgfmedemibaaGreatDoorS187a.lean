/- The closed facts of the row of BoundReached, one by one (each is much for the kernel). -/
import Derived.Test.YtcbpgfmedemibaaGreatDoorRows
import Derived.ProofKit
import Derived.Stop.Joined

namespace Go.Proofs.YtcbpgfmedemibaaGreatDoor
open Go Go.RowKit
theorem boundReached_tt {a b : Bool} (ha : a = true) (hb : b = true) : (a && b) = true := by rw [ha, hb]; rfl
set_option maxRecDepth 100000 in
set_option maxHeartbeats 0 in
theorem boundReached_closed : joinedFacts Tryz.prog 6 Tryz.f6 Rows.boundReachedSpec Rows.boundReachedRow = true := by
  unfold joinedFacts
  repeat' (with_reducible refine boundReached_tt ?_ ?_)
  all_goals (as_aux_lemma => kernel_rfl)
end Go.Proofs.YtcbpgfmedemibaaGreatDoor
