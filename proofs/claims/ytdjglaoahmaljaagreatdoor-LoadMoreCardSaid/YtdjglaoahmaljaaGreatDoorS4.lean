/- The reference: the form of a schedule. -/
import Derived.Test.YtdjglaoahmaljaaGreatDoorS3

set_option maxRecDepth 100000
namespace HM
open Go Go.RowKit Go.Proofs
variable (L : World → Prop)

theorem less_cmp : ∀ (xs ys : List Int), xs.length = ys.length → lessL xs ys = decide (cmpL xs ys < 0)
  | [], [], _ => rfl
  | [], _ :: _, h => by simp at h
  | _ :: _, [], h => by simp at h
  | x :: xs, y :: ys, h => by
    simp only [lessL, cmpL, cmpI]
    by_cases h1 : x = y
    · subst h1; simp [less_cmp xs ys (by simpa using h)]
    · by_cases h2 : x < y
      · simp [h1, h2]
      · have h3 : y < x := by omega
        simp [h1, h2, h3]



