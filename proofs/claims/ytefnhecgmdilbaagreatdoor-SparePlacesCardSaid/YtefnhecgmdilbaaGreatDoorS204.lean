/- The law on places. -/
import Derived.Test.YtefnhecgmdilbaaGreatDoorS194
import Derived.Test.YtefnhecgmdilbaaGreatDoorS203
import Derived.Test.YtefnhecgmdilbaaGreatDoorS121
import Derived.Test.YtefnhecgmdilbaaGreatDoorS16

set_option maxRecDepth 100000
namespace HM
open Go Go.RowKit Go.Proofs
set_option maxHeartbeats 8000000 in
theorem c_SparePlaces (n : Net) (q : List Req) (s : Sched) (c : Cell) (hn : n.small) (hq : q.length ≤ 281474976710656) (hx : ∀ x ∈ q, x.small) (hc : s.cells.length ≤ 281474976710656) :
    PCall Tryz.prog LW 3 [n.av, encReqs q, s.av, c.av] (.bool true) := by
  refine PCall.intro mixed [] (nt := 54) Tryz.func3 rfl rfl (by simp) ?_
  refine Wk ?_
  first | refine CallK.data rfl (c_awake) rfl ?_ | refine CallP.data rfl (c_awake) rfl ?_
  refine Wk ?_
  first | refine CallK.data rfl (c_Few38 LW n hn q hq hx s) rfl ?_ | refine CallP.data rfl (c_Few38 LW n hn q hq hx s) rfl ?_
  cases g1 : few38 n q s with
  | false =>
    refine Wk ?_
    exact resP.mk rfl (Sees.bool rfl)
  | true =>
  obtain ⟨hq4, hs30⟩ := few38_len g1
  have hq' : q.length ≤ 1099511627776 := by omega
  have hlen := plcM_len n q s c
  by_cases h24 : 24 < s.len ∧ s.len ≤ 512
  · have g2 : decide (24 < s.len) = true := decide_eq_true h24.1
    have g3 : decide (s.len ≤ 512) = true := decide_eq_true h24.2
    repeat ((conv => whnf); first | refine sJ ?_ | refine And.intro (by first | exact trivial | kernel_rfl) ?_ | rw [g2] | rw [g3])
    try (conv => whnf)
    exact resP.mk rfl (Sees.bool rfl)
  have hgo : decide (24 < s.len) = false ∨ (decide (24 < s.len) = true ∧ decide (s.len ≤ 512) = false) := by
    by_cases h1 : 24 < s.len
    · exact .inr ⟨decide_eq_true h1, decide_eq_false fun h => h24 ⟨h1, h⟩⟩
    · exact .inl (decide_eq_false h1)
  rcases hgo with g2 | ⟨g2, g3⟩
  · repeat ((conv => whnf); first | refine sJ ?_ | refine And.intro (by first | exact trivial | kernel_rfl) ?_ | rw [g2])
    try (conv => whnf)
    first | refine CallK.data rfl (c_Places n hn q hq' hx s hc c) rfl ?_ | refine CallP.data rfl (c_Places n hn q hq' hx s hc c) rfl ?_
    refine Wk ?_
    first | refine CallK.data rfl (c_Places44 LW n hn q hq' hx s hs30 c) rfl ?_ | refine CallP.data rfl (c_Places44 LW n hn q hq' hx s hs30 c) rfl ?_
    generalize plcM n q s c = A at hlen ⊢
    obtain ⟨a, e⟩ := A
    simp only at hlen
    refine Wk ?_
    first | refine CallK.data rfl (c_SameCells35 LW a (by omega)) rfl ?_ | refine CallP.data rfl (c_SameCells35 LW a (by omega)) rfl ?_
    refine Wk ?_
    rw [beq_self_eq_true]
    exact resP.mk rfl (Sees.bool rfl)
  · repeat ((conv => whnf); first | refine sJ ?_ | refine And.intro (by first | exact trivial | kernel_rfl) ?_ | rw [g2] | rw [g3])
    try (conv => whnf)
    first | refine CallK.data rfl (c_Places n hn q hq' hx s hc c) rfl ?_ | refine CallP.data rfl (c_Places n hn q hq' hx s hc c) rfl ?_
    refine Wk ?_
    first | refine CallK.data rfl (c_Places44 LW n hn q hq' hx s hs30 c) rfl ?_ | refine CallP.data rfl (c_Places44 LW n hn q hq' hx s hs30 c) rfl ?_
    generalize plcM n q s c = A at hlen ⊢
    obtain ⟨a, e⟩ := A
    simp only at hlen
    refine Wk ?_
    first | refine CallK.data rfl (c_SameCells35 LW a (by omega)) rfl ?_ | refine CallP.data rfl (c_SameCells35 LW a (by omega)) rfl ?_
    refine Wk ?_
    rw [beq_self_eq_true]
    exact resP.mk rfl (Sees.bool rfl)
end HM
