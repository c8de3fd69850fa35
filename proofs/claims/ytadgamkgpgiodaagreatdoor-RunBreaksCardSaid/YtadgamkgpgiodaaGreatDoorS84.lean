/- The example of the laws on runs holds. -/
import Derived.Test.YtadgamkgpgiodaaGreatDoorS82
import Derived.Test.YtadgamkgpgiodaaGreatDoorS83

set_option maxRecDepth 100000
namespace HM
open Go Go.RowKit Go.Proofs

set_option maxHeartbeats 4000000 in
theorem c_awake36 : PCall Tryz.prog LW 4 [] (.bool true) := by
  refine PCall.intro mixed [2, 3, 4, 5] (nt := 73) Tryz.func4 rfl rfl (by simp) ?_
  refine Wk ?_
  refine SeqK.cutS mixed [3, 4, 5] [(1, encFlows [x36F]), (2, .ptr 0 0), (3, encScript x36X)] ⟨[.cells [.int .i64 4, .int .i64 1, encCells x36S.cells] 30], [], 0, 0, fun _ => 0⟩ (twC_sound (ct := []) mixed _ _ _ _ ?_) ?_
  · refine Wk ?_
    first | refine CallK.data rfl (c_example36 LW) rfl ?_ | refine CallP.data rfl (c_example36 LW) rfl ?_
    refine Wk ?_
    refine Fits.mk' rfl rfl rfl rfl ?_ ?_ ?_ ?_ ?_ <;> repeat' (first | exact trivial | refine And.intro ?_ ?_ | exact Sees.of_eq rfl | exact lt_b rfl | rfl | exact SeesL.rfl' _)
  refine Wk ?_
  refine SeqK.cutS mixed [4, 5] [(1, encFlows [x36F]), (4, .ptr 1 0), (5, .int .i64 0)] ⟨[.dead, .cells [encAtts x36A, encDels x36D] 41], [], 0, 0, fun _ => 0⟩ (twC_sound (ct := []) mixed _ _ _ _ ?_) ?_
  · refine Wk ?_
    first | refine CallK.data rfl (c_Play [x36F] x36S x36X 4 (by decide) (by decide) (by decide)) rfl ?_ | refine CallP.data rfl (c_Play [x36F] x36S x36X 4 (by decide) (by decide) (by decide)) rfl ?_
    rw [e_play36]
    refine Wk ?_
    refine Fits.mk' rfl rfl rfl rfl ?_ ?_ ?_ ?_ ?_ <;> repeat' (first | exact trivial | refine And.intro ?_ ?_ | exact Sees.of_eq rfl | exact lt_b rfl | rfl | exact SeesL.rfl' _)
  refine Wk ?_
  refine SeqK.cutS mixed [5] [(1, encFlows [x36F]), (4, .ptr 1 0), (5, .int .i64 0), (6, .int .i64 2), (7, .bool true)] ⟨[.dead, .cells [encAtts x36A, encDels x36D] 41], [], 0, 0, fun _ => 0⟩ (twC_sound (ct := []) mixed _ _ _ _ ?_) ?_
  · refine Wk ?_
    first | refine CallK.data rfl (c_Delivered LW ⟨x36A, x36D⟩ 7 0 (by decide)) rfl ?_ | refine CallP.data rfl (c_Delivered LW ⟨x36A, x36D⟩ 7 0 (by decide)) rfl ?_
    rw [e_deliv36]
    refine Wk ?_
    refine Fits.mk' rfl rfl rfl rfl ?_ ?_ ?_ ?_ ?_ <;> repeat' (first | exact trivial | refine And.intro ?_ ?_ | exact Sees.of_eq rfl | exact lt_b rfl | rfl | exact SeesL.rfl' _)
  refine Wk ?_
  refine SeqK.cutS mixed [] [(4, .ptr 1 0), (5, .int .i64 0), (6, .int .i64 2), (7, .bool true), (8, encDels []), (9, .int .i64 0)] ⟨[.dead, .cells [encAtts x36A, encDels x36D] 41], [], 0, 0, fun _ => 0⟩ (twC_sound (ct := []) mixed _ _ _ _ ?_) ?_
  · refine Wk ?_
    first | refine CallK.data rfl (c_Late LW [x36F] ⟨x36A, x36D⟩ 4 (by decide) (by decide)) rfl ?_ | refine CallP.data rfl (c_Late LW [x36F] ⟨x36A, x36D⟩ 4 (by decide) (by decide)) rfl ?_
    rw [e_late36]
    refine Wk ?_
    refine Fits.mk' rfl rfl rfl rfl ?_ ?_ ?_ ?_ ?_ <;> repeat' (first | exact trivial | refine And.intro ?_ ?_ | exact Sees.of_eq rfl | exact lt_b rfl | rfl | exact SeesL.rfl' _)
  have hib : InB 1 (x36A.map Att.av).length := ⟨by decide, by decide⟩
  repeat ((conv => whnf); first | refine sJ ?_ | refine And.intro (by first | exact hib | kernel_rfl) ?_ )
  try (conv => whnf)
  exact resP.mk rfl (Sees.of_eq rfl)
end HM
