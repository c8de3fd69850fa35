/- The cells of a flow on a link; the fault of a route. -/
import Derived.Test.YtnhelkbmeggpkaaGreatDoorS8
import Derived.Test.YtnhelkbmeggpkaaGreatDoorS33
import Derived.Test.YtnhelkbmeggpkaaGreatDoorDa

set_option maxRecDepth 100000
namespace HM
open Go Go.RowKit Go.Proofs
section
variable (L : World → Prop)

theorem c_CloneCell (l : List Cell) (hne : l ≠ []) (hl : l.length ≤ 1099511627776) : FCall Tryz.prog L 135 [.sl false (l.map Cell.av)] (l.map Cell.av) 5 51 := by
  refine FCall.of_ICall (ICall.intro mixed [] (nt := 8) Tryz.func135 rfl rfl (by simp) ?_)
  refine Wk ?_
  refine BrK.mk (fun h => ?_) (fun h => ?_) <;> (try rw [h])
  · exact absurd (by simpa using h) hne
  · repeat ((conv => whnf); first | refine sJ ?_ | refine And.intro (by first | exact Els.map (f := Cell.av) (fun x => ⟨(cellOk).len x, (cellOk).cell x⟩) | exact (show _ * 40 ≤ _ by simp only [List.length_map, List.length_nil]; omega) | exact (by simp only [List.length_map, List.length_nil, maxLen]; omega) | kernel_rfl) ?_ )
    try (conv => whnf)
    exact ⟨_, rfl, rfl, rfl⟩







end



