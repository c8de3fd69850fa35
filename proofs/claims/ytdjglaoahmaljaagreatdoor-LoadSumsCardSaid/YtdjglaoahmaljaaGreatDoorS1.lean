/- Schedules: their forms. -/
import Derived.Test.YtdjglaoahmaljaaGreatDoorProg
import Derived.Test.YtdjglaoahmaljaaGreatDoorDa
import Derived.KernelRfl

set_option maxRecDepth 100000
namespace HM
open Go Go.RowKit Go.Proofs
variable (L : World → Prop)

theorem mixed : Tryz.prog.follows .mixedOrders = true := by kernel_rfl

theorem c_sized (s : Sched) : PCall Tryz.prog L 93 [s.av] (.bool (sizedB s)) := by
  refine PCall.intro mixed [] (nt := 21) Tryz.func93 rfl rfl (by simp) ?_
  repeat' ((conv => whnf); first | refine sJ ?_ | refine And.intro (by first  | kernel_rfl) ?_  | (refine BrK.mk (fun hb => ?_) (fun hb => ?_) <;> (try rw [hb])))
  all_goals try (conv => whnf)
  all_goals exact resP.mk rfl (Sees.of_eq (by first | (simp_all [sizedB]; done) | (simp_all [sizedB]; omega)))
