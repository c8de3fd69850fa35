/- The example of the laws on bounds holds. -/
import Derived.Test.YtjlemnimmbblkaaGreatDoorS45

set_option maxRecDepth 100000
namespace HM
open Go Go.RowKit Go.Proofs

def awB (l : Int) : List Ob := [.cells (exN l).cs 26, .cells [.int .i64 6, .int .i64 1, encCells exS.cells] 29, .cells [.int .i64 3, .int .i64 0, .int .i64 2, .int .i64 6, .int .i64 0, .int .i64 6] 31]
def awS : List (Nat × AV) := [(4, .int .i64 5), (5, .int .i64 0), (6, encIs [0, 2, 3, 4]), (7, .int .i64 0)]
set_option maxHeartbeats 4000000 in
theorem c_awake37 : PCall Tryz.prog LW 4 [] (.bool true) := by
  refine PCall.intro mixed [2, 3, 4, 5, 6] (nt := 86) Tryz.func4 rfl rfl (by simp) ?_
  refine Wk ?_
  refine SeqK.cutS mixed [3, 4, 5, 6] [(1, .ptr 0 0), (2, .ptr 1 0), (3, .ptr 2 0)] ⟨awB 1, [], 0, 0, fun _ => 0⟩ (twC_sound (ct := []) mixed _ _ _ _ ?_) ?_
  · refine Wk ?_
    first | refine CallK.data rfl (c_example LW 1) rfl ?_ | refine CallP.data rfl (c_example LW 1) rfl ?_
    refine Wk ?_
    refine Fits.mk' rfl rfl rfl rfl ?_ ?_ ?_ ?_ ?_ <;> repeat' (first | exact trivial | refine And.intro ?_ ?_ | exact Sees.of_eq rfl | exact lt_b rfl | rfl | exact SeesL.rfl' _)
  refine Wk ?_
  refine SeqK.cutS mixed [4, 5, 6] awS ⟨[], [], 0, 0, fun _ => 0⟩ (twC_sound (ct := []) mixed _ _ _ _ ?_) ?_
  · refine Wk ?_
    first | refine CallK.data rfl (c_BRoute (exN 1) exS exF [0, 1, 2] (exN_small 1) (by decide) (by decide)) rfl ?_ | refine CallP.data rfl (c_BRoute (exN 1) exS exF [0, 1, 2] (exN_small 1) (by decide) (by decide)) rfl ?_
    rw [e_route1]
    refine Wk ?_
    refine Fits.mk' rfl rfl rfl rfl ?_ ?_ ?_ ?_ ?_ <;> repeat' (first | exact trivial | refine And.intro ?_ ?_ | exact Sees.of_eq rfl | exact lt_b rfl | rfl )
  refine Wk ?_
  refine SeqK.cutS mixed [5, 6] ([(8, .ptr 0 0), (9, .ptr 1 0), (10, .ptr 2 0)] ++ awS) ⟨awB 0, [], 0, 0, fun _ => 0⟩ (twC_sound (ct := []) mixed _ _ _ _ ?_) ?_
  · refine Wk ?_
    first | refine CallK.data rfl (c_example LW 0) rfl ?_ | refine CallP.data rfl (c_example LW 0) rfl ?_
    refine Wk ?_
    refine Fits.mk' rfl rfl rfl rfl ?_ ?_ ?_ ?_ ?_ <;> repeat' (first | exact trivial | refine And.intro ?_ ?_ | exact Sees.of_eq rfl | exact lt_b rfl | rfl | exact SeesL.rfl' _)
  refine Wk ?_
  refine SeqK.cutS mixed [6] ([(8, .ptr 0 0), (9, .ptr 1 0), (10, .ptr 2 0), (11, .int .i64 2), (14, .int .i64 0)] ++ awS) ⟨awB 0, [], 0, 0, fun _ => 0⟩ (twC_sound (ct := []) mixed _ _ _ _ ?_) ?_
  · refine Wk ?_
    first | refine CallK.data rfl (c_BRoute (exN 0) exS exF [0, 1, 2] (exN_small 0) (by decide) (by decide)) rfl ?_ | refine CallP.data rfl (c_BRoute (exN 0) exS exF [0, 1, 2] (exN_small 0) (by decide) (by decide)) rfl ?_
    rw [e_route0]
    refine Wk ?_
    refine Fits.mk' rfl rfl rfl rfl ?_ ?_ ?_ ?_ ?_ <;> repeat' (first | exact trivial | refine And.intro ?_ ?_ | exact Sees.of_eq rfl | exact lt_b rfl | rfl | exact SeesL.rfl' _)
  refine Wk ?_
  refine SeqK.cutS mixed [] ([(11, .int .i64 2), (14, .int .i64 0), (15, .int .i64 1), (16, .int .i64 0)] ++ awS) ⟨[], [], 0, 0, fun _ => 0⟩ (twC_sound (ct := []) mixed _ _ _ _ ?_) ?_
  · refine Wk ?_
    first | refine CallK.data rfl (c_BSlack (exN 0) exS exF [0, 1, 2] (exN_small 0) (by decide) (by decide)) rfl ?_ | refine CallP.data rfl (c_BSlack (exN 0) exS exF [0, 1, 2] (exN_small 0) (by decide) (by decide)) rfl ?_
    rw [e_slack]
    refine Wk ?_
    refine Fits.mk' rfl rfl rfl rfl ?_ ?_ ?_ ?_ ?_ <;> repeat' (first | exact trivial | refine And.intro ?_ ?_ | exact Sees.of_eq rfl | exact lt_b rfl | rfl )
  refine Wk ?_
  first | refine CallK.data rfl (c_EqII LW [0, 2, 3, 4] (by decide)) rfl ?_ | refine CallP.data rfl (c_EqII LW [0, 2, 3, 4] (by decide)) rfl ?_
  refine Wk ?_
  exact resP.mk rfl (Sees.of_eq rfl)
end HM
