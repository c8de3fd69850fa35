/- Admit: the reference in all. -/
import Derived.Test.YtgfboaadhlhjhaaGreatDoorX
import Derived.Test.YtgfboaadhlhjhaaGreatDoorXS
import Derived.Test.YtgfboaadhlhjhaaGreatDoorS1
import Derived.Test.YtgfboaadhlhjhaaGreatDoorDc
set_option maxRecDepth 100000
namespace HM
open Go Go.RowKit Go.Proofs
section
variable (L : World → Prop)
theorem wEls (l : List Req) (x : AV) (hx : x.ncells = 7 ∧ x.cells.all AV.isCell = true := by exact ⟨rfl, rfl⟩) : Els (6 + 1) (l.map Req.av ++ [x]) := fun e he => by
  rcases List.mem_append.1 he with h | h
  · exact Els.map (f := Req.av) (fun _ => ⟨rfl, rfl⟩) e h
  · rw [List.mem_singleton.1 h]; exact hx
end
end HM
