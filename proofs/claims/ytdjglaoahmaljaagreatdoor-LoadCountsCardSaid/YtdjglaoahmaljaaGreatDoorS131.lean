/- The laws on what is counted. -/
import Derived.Test.YtdjglaoahmaljaaGreatDoorS130

set_option maxRecDepth 100000
namespace HM
open Go Go.RowKit Go.Proofs
section
variable (L : World → Prop)
set_option maxHeartbeats 4000000 in
theorem c_LoadCounts (n : Net) (q : List Req) (len a b : Int) (hn : n.small) (hq : q.length ≤ 281474976710656) (hx : ∀ x ∈ q, x.small) : PCall Tryz.prog L 7 [n.av, encReqs q, .int .i64 len, .int .i64 a, .int .i64 b] (.bool true) := by
  refine PCall.intro mixed [] (nt := 131) Tryz.func7 rfl rfl (by simp) ?_
  refine Wk ?_
  first | refine CallK.data rfl (c_awake39 L) rfl ?_ | refine CallP.data rfl (c_awake39 L) rfl ?_
  refine Wk ?_
  first | refine CallK.data rfl (c_Few39 L n hn q hq hx) rfl ?_ | refine CallP.data rfl (c_Few39 L n hn q hq hx) rfl ?_
  refine Wk ?_
  refine BrK.mk (fun h1 => ?_) (fun h1 => ?_) <;> (try rw [h1])
  · refine Wk ?_
    exact resP.mk rfl (Sees.bool rfl)
  have hq := Nat.le_trans (few38_len (by simpa using h1)).1 (by decide : 4 ≤ 1099511627776)
  refine Wk ?_
  first | refine CallK.data rfl (c_LCheck L n hn q hq hx) rfl ?_ | refine CallP.data rfl (c_LCheck L n hn q hq hx) rfl ?_
  refine Wk ?_
  first | refine CallK.data rfl (c_Fault38 L n hn q hq hx) rfl ?_ | refine CallP.data rfl (c_Fault38 L n hn q hq hx) rfl ?_
  refine Wk ?_
  first | refine CallK.data rfl (c_Cells L n hn q hq hx len) rfl ?_ | refine CallP.data rfl (c_Cells L n hn q hq hx len) rfl ?_
  refine Wk ?_
  first | refine CallK.data rfl (c_Cells39 L n hn q hq hx len) rfl ?_ | refine CallP.data rfl (c_Cells39 L n hn q hq hx len) rfl ?_
  refine Wk ?_
  first | refine CallK.data rfl (c_Node L n hn q hq hx len a) rfl ?_ | refine CallP.data rfl (c_Node L n hn q hq hx len a) rfl ?_
  refine Wk ?_
  first | refine CallK.data rfl (c_Node39 L n hn q hq hx len a) rfl ?_ | refine CallP.data rfl (c_Node39 L n hn q hq hx len a) rfl ?_
  refine Wk ?_
  first | refine CallK.data rfl (c_Link L n hn q hq hx len a b) rfl ?_ | refine CallP.data rfl (c_Link L n hn q hq hx len a b) rfl ?_
  refine Wk ?_
  first | refine CallK.data rfl (c_Link39 L n hn q hq hx len a b) rfl ?_ | refine CallP.data rfl (c_Link39 L n hn q hq hx len a b) rfl ?_
  have hr : ∀ x : Int, (x == x) = true := fun x => by simp
  repeat ((conv => whnf); first | refine sJ ?_ | refine And.intro (by first | exact trivial | kernel_rfl) ?_ | rw [hr])
  try (conv => whnf)
  exact resP.mk rfl (Sees.bool rfl)
end
end HM
