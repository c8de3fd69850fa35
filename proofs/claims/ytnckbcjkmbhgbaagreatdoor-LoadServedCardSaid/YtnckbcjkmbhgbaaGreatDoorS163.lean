/- The law on served requests. -/
import Derived.Test.YtnckbcjkmbhgbaaGreatDoorS152
import Derived.Test.YtnckbcjkmbhgbaaGreatDoorS162

set_option maxRecDepth 100000
namespace HM
open Go Go.RowKit Go.Proofs
set_option maxHeartbeats 4000000 in
theorem c_LoadServed (n : Net) (q : List Req) (s : Sched) (hn : n.small) (hq : q.length ≤ 281474976710656) (hx : ∀ x ∈ q, x.small) (hc : s.cells.length ≤ 281474976710656) : PCall Tryz.prog LW 13 [n.av, encReqs q, s.av] (.bool true) := by
  refine PCall.intro mixed [] (nt := 68) Tryz.func13 rfl rfl (by simp) ?_
  refine Wk ?_
  first | refine CallK.data rfl (c_awake39 LW) rfl ?_ | refine CallP.data rfl (c_awake39 LW) rfl ?_
  refine Wk ?_
  first | refine CallK.data rfl (c_Few38 LW n hn q hq hx s) rfl ?_ | refine CallP.data rfl (c_Few38 LW n hn q hq hx s) rfl ?_
  cases h1 : few38 n q s with
  | false =>
    refine Wk ?_
    exact resP.mk rfl (Sees.bool rfl)
  | true =>
    have hq4 := (few38_len h1).1
    have hq := Nat.le_trans hq4 (by decide : 4 ≤ 1099511627776)
    refine Wk ?_
    first | refine CallK.data rfl (c_Make n hn q hq hx s hc) rfl ?_ | refine CallP.data rfl (c_Make n hn q hq hx s hc) rfl ?_
    by_cases h2 : (makeM n q s).2.2 = 0
    rotate_left
    · have g : ((makeM n q s).2.2 != 0) = true := by simpa using h2
      repeat ((conv => whnf); first | refine sJ ?_ | refine And.intro (by first | exact trivial | kernel_rfl) ?_ | rw [g])
      try (conv => whnf)
      exact resP.mk rfl (Sees.bool rfl)
    have hsv := make_srv h2
    obtain ⟨e1, e2, e3⟩ := served_none hsv
    have hcm : cellsM n q s.len = (sumW (needM q s.len) n.links, 0) := by rw [cellsM, if_neg (by simp [e1])]
    rw [h2]
    refine Wk ?_
    first | refine CallK.data rfl (c_ReasonG LW n hn q hq hx s.len s.offs) rfl ?_ | refine CallP.data rfl (c_ReasonG LW n hn q hq hx s.len s.offs) rfl ?_
    rw [e2]
    refine Wk ?_
    first | refine CallK.data rfl (c_Cells LW n hn q hq hx s.len) rfl ?_ | refine CallP.data rfl (c_Cells LW n hn q hq hx s.len) rfl ?_
    rw [hcm]
    have g4 : decide (sumW (needM q s.len) n.links ≤ ((s.cells.map Cell.av).length : Int)) = true := decide_eq_true (by rw [List.length_map]; exact e3)
    repeat ((conv => whnf); first | refine sJ ?_ | refine And.intro (by first | exact trivial | kernel_rfl) ?_ | rw [g4])
    try (conv => whnf)
    exact resP.mk rfl (Sees.bool rfl)
end HM
