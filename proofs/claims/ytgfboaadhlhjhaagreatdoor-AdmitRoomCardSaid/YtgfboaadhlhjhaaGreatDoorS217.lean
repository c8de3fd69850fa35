/- Is a schedule right, have requests a fault: the program. -/
import Derived.Test.YtgfboaadhlhjhaaGreatDoorS164
import Derived.Test.YtgfboaadhlhjhaaGreatDoorDc
set_option maxRecDepth 100000
namespace HM
open Go Go.RowKit Go.Proofs
theorem c_servesA (n : Net) (hn : n.small) (q : List Req) (hq : q.length ≤ 1099511627776) (hx : ∀ x ∈ q, x.small) (s : Sched) (hc : s.cells.length ≤ 281474976710656) : PCall Tryz.prog LW 49 [n.av, encReqs q, s.av] (.bool ((makeM n q s).2.2 == 0)) := by
  refine PCall.intro mixed [] (nt := 20) Tryz.func49 rfl rfl (by simp) ?_
  refine Wk ?_
  first | refine CallK.data rfl (c_Make n hn q hq hx s hc) rfl ?_ | refine CallP.data rfl (c_Make n hn q hq hx s hc) rfl ?_
  refine Wk ?_
  exact resP.mk rfl (Sees.bool rfl)
theorem c_faultyA (n : Net) (hn : n.small) (h0 : netE n = 0) (q : List Req) (hq : q.length ≤ 1099511627776) (hx : ∀ x ∈ q, x.small) : PCall Tryz.prog LW 51 [n.av, encReqs q] (.bool (decide ((reqE n q).2 ≠ 0))) := by
  rw [← faulty_iff h0]
  refine PCall.intro mixed [] (nt := 22) Tryz.func51 rfl rfl (by simp) ?_
  refine Wk ?_
  first | refine CallK.data rfl (c_Make n hn q hq hx ⟨0, 0, []⟩ (by simp)) rfl ?_ | refine CallP.data rfl (c_Make n hn q hq hx ⟨0, 0, []⟩ (by simp)) rfl ?_
  cases g1 : ((makeM n q ⟨0, 0, []⟩).2.2 != 1) with
  | true =>
    repeat ((conv => whnf); first | refine sJ ?_ | refine And.intro (by first | exact trivial | kernel_rfl) ?_ | rw [g1])
    try (conv => whnf)
    exact resP.mk rfl (Sees.bool rfl)
  | false =>
    repeat ((conv => whnf); first | refine sJ ?_ | refine And.intro (by first | exact trivial | kernel_rfl) ?_ | rw [g1])
    try (conv => whnf)
    exact resP.mk rfl (Sees.bool rfl)
end HM
