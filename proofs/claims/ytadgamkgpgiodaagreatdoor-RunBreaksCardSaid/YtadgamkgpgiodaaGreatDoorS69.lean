/- Scripts: the definition of Check; the guard. -/
import Derived.Test.YtadgamkgpgiodaaGreatDoorS68

set_option maxRecDepth 100000
namespace HM
open Go Go.RowKit Go.Proofs
section
variable (L : World → Prop)









def few36 (f c g x : Nat) (slots : Int) : Bool := decide ((f : Int) ≤ 16) && (decide ((c : Int) ≤ 24) && (decide ((g : Int) ≤ 16) && (decide ((x : Int) ≤ 40) && (decide (slots ≤ 100) || decide (4096 < slots)))))
theorem c_Few36 (l : List Flow) (s : Sched) (cs : List AV) (x : List Rule) (slots : Int) : PCall Tryz.prog L 7 [encFlows l, s.av, .sl false cs, encScript x, .int .i64 slots] (.bool (few36 l.length s.cells.length cs.length x.length slots)) := by
  refine PCall.intro mixed [] (nt := 38) Tryz.func7 rfl rfl (by simp) ?_
  refine Wk ?_
  repeat' ((conv => whnf); first | refine sJ ?_ | refine And.intro (by first  | kernel_rfl) ?_  | (refine BrK.mk (fun hb => ?_) (fun hb => ?_) <;> (try rw [hb])))
  all_goals try (conv => whnf)
  all_goals exact resP.mk rfl (Sees.bool (by first | (simp_all [few36]; done) | (simp_all [few36]; omega)))
end
end HM
