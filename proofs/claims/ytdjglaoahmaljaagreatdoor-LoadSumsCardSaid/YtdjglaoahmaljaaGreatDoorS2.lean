/- Schedules: how cells compare. -/
import Derived.Test.YtdjglaoahmaljaaGreatDoorS1

set_option maxRecDepth 100000
namespace HM
open Go Go.RowKit Go.Proofs
variable (L : World → Prop)

theorem c_isNaN (x : Int) : PCall Tryz.prog L 152 [.int .i64 x] (.bool false) := by
  refine PCall.intro mixed [] (nt := 6) Tryz.func152 rfl rfl (by simp) ?_
  repeat' ((conv => whnf); first | refine sJ ?_ | refine And.intro (by first  | kernel_rfl) ?_  | (refine BrK.mk (fun hb => ?_) (fun hb => ?_) <;> (try rw [hb])))
  all_goals try (conv => whnf)
  all_goals exact resP.mk rfl (Sees.of_eq (by first | (simp_all []; done) | (simp_all []; omega)))

theorem c_cmp (x y : Int) : PCall Tryz.prog L 124 [.int .i64 x, .int .i64 y] (.int .i64 (cmpI x y)) := by
  refine PCall.intro mixed [] (nt := 20) Tryz.func124 rfl rfl (by simp) ?_
  repeat' ((conv => whnf); first | refine sJ ?_ | refine And.intro (by first  | kernel_rfl) ?_  | (refine BrK.mk (fun hb => ?_) (fun hb => ?_) <;> (try rw [hb])))
  all_goals try (conv => whnf)
  first | refine CallK.data rfl (c_isNaN L _) rfl ?_ | refine CallP.data rfl (c_isNaN L _) rfl ?_
  repeat' ((conv => whnf); first | refine sJ ?_ | refine And.intro (by first  | kernel_rfl) ?_  | (refine BrK.mk (fun hb => ?_) (fun hb => ?_) <;> (try rw [hb])))
  all_goals try (conv => whnf)
  first | refine CallK.data rfl (c_isNaN L _) rfl ?_ | refine CallP.data rfl (c_isNaN L _) rfl ?_
  repeat' ((conv => whnf); first | refine sJ ?_ | refine And.intro (by first  | kernel_rfl) ?_  | (refine BrK.mk (fun hb => ?_) (fun hb => ?_) <;> (try rw [hb])))
  all_goals try (conv => whnf)
  all_goals exact resP.mk rfl (Sees.of_eq (by first | (simp_all [cmpI]; done) | (simp_all [cmpI]; omega)))
