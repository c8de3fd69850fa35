/- Scripts: the definition of Check; the guard. -/
import Derived.Test.YtnhelkbmeggpkaaGreatDoorS68

set_option maxRecDepth 100000
namespace HM
open Go Go.RowKit Go.Proofs
section
variable (L : World → Prop)

def inB36 (n a b : Int) : Bool := decide (a ≤ n) && decide (n ≤ b)
theorem c_in36 (n a b : Int) : PCall Tryz.prog L 55 [.int .i64 n, .int .i64 a, .int .i64 b] (.bool (inB36 n a b)) := by
  refine PCall.intro mixed [] (nt := 15) Tryz.func55 rfl rfl (by simp) ?_
  refine Wk ?_
  refine BrK.mk (fun h => ?_) (fun h => ?_) <;> (try rw [h])
  · refine Wk ?_
    exact resP.mk rfl (Sees.bool (by simp [inB36, of_decide_eq_true h]))
  · refine Wk ?_
    exact resP.mk rfl (Sees.bool (by simp [inB36, of_decide_eq_false h]))
theorem c_before36 (a b : Rule) : PCall Tryz.prog L 92 [a.av, b.av] (.bool (decide (a.cmp b < 0))) := by
  have key : decide (a.cmp b < 0) = if a.flow ≠ b.flow then decide (a.flow < b.flow) else if a.frame ≠ b.frame then decide (a.frame < b.frame) else if a.src ≠ b.src then decide (a.src < b.src) else decide (a.dst < b.dst) := by
    unfold Rule.cmp Rule.key
    simp only [cmpL, cmpI_eq]
    by_cases h1 : a.flow = b.flow
    · simp only [h1, if_true, ne_eq, not_true_eq_false, if_false]
      by_cases h2 : a.frame = b.frame
      · simp only [h2, if_true, ne_eq, not_true_eq_false, if_false]
        by_cases h3 : a.src = b.src
        · simp only [h3, if_true, ne_eq, not_true_eq_false, if_false]
          by_cases h4 : a.dst = b.dst
          · simp [h4]
          · simp [h4, cmpI_lt]
        · simp [h3, cmpI_lt]
      · simp [h2, cmpI_lt]
    · simp [h1, cmpI_lt]
  rw [key]
  refine PCall.intro mixed [] (nt := 40) Tryz.func92 rfl rfl (by simp) ?_
  refine Wk ?_
  refine BrK.mk (fun h1 => ?_) (fun h1 => ?_) <;> (try rw [h1])
  · refine Wk ?_
    exact resP.mk rfl (Sees.bool (by rw [if_pos (by simpa using h1)]))
  · rw [if_neg (by simpa using h1)]
    refine Wk ?_
    refine BrK.mk (fun h2 => ?_) (fun h2 => ?_) <;> (try rw [h2])
    · refine Wk ?_
      exact resP.mk rfl (Sees.bool (by rw [if_pos (by simpa using h2)]))
    · rw [if_neg (by simpa using h2)]
      refine Wk ?_
      refine BrK.mk (fun h3 => ?_) (fun h3 => ?_) <;> (try rw [h3])
      · refine Wk ?_
        exact resP.mk rfl (Sees.bool (by rw [if_pos (by simpa using h3)]))
      · rw [if_neg (by simpa using h3)]
        refine Wk ?_
        exact resP.mk rfl (Sees.bool rfl)

end
end HM
