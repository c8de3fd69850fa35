/- The law on verified reasons. -/
import Derived.Test.YtdjglaoahmaljaaGreatDoorS145

set_option maxRecDepth 100000
namespace HM
open Go Go.RowKit Go.Proofs
section
variable (L : World → Prop)
set_option maxHeartbeats 4000000 in
theorem c_LoadVerifies (n : Net) (q : List Req) (len offs : Int) (r : Rsn) (hn : n.small) (hq : q.length ≤ 281474976710656) (hx : ∀ x ∈ q, x.small) (hr : r.links.length ≤ 140737488355328) : PCall Tryz.prog L 4 [n.av, encReqs q, .int .i64 len, .int .i64 offs, r.av] (.bool true) := by
  refine PCall.intro mixed [] (nt := 36) Tryz.func4 rfl rfl (by simp) ?_
  refine Wk ?_
  first | refine CallK.data rfl (c_awake39 L) rfl ?_ | refine CallP.data rfl (c_awake39 L) rfl ?_
  refine Wk ?_
  first | refine CallK.data rfl (c_Few39 L n hn q hq hx) rfl ?_ | refine CallP.data rfl (c_Few39 L n hn q hq hx) rfl ?_
  cases h1 : few38 n q sched0 with
  | false =>
    refine Wk ?_
    exact resP.mk rfl (Sees.bool rfl)
  | true =>
    have hq := Nat.le_trans (few38_len h1).1 (by decide : 4 ≤ 1099511627776)
    by_cases h2 : 20 < r.links.length
    · have g : decide ((20 : Int) < ((r.links.map Link.av).length : Int)) = true := by simp; omega
      repeat ((conv => whnf); first | refine sJ ?_ | refine And.intro (by first | exact trivial | kernel_rfl) ?_ | rw [g])
      try (conv => whnf)
      exact resP.mk rfl (Sees.bool rfl)
    · have g : decide ((20 : Int) < ((r.links.map Link.av).length : Int)) = false := by simp; omega
      repeat ((conv => whnf); first | refine sJ ?_ | refine And.intro (by first | exact trivial | kernel_rfl) ?_ | rw [g])
      try (conv => whnf)
      first | refine CallK.data rfl (c_VerifyG L n hn q hq hx len offs r (by omega)) rfl ?_ | refine CallP.data rfl (c_VerifyG L n hn q hq hx len offs r (by omega)) rfl ?_
      refine Wk ?_
      first | refine CallK.data rfl (c_Verify39 L n hn q hq hx len offs r (by omega)) rfl ?_ | refine CallP.data rfl (c_Verify39 L n hn q hq hx len offs r (by omega)) rfl ?_
      have hi : ∀ z : Int, (z == z) = true := fun z => by simp
      repeat ((conv => whnf); first | refine sJ ?_ | refine And.intro (by first | exact trivial | kernel_rfl) ?_ | rw [hi])
      try (conv => whnf)
      exact resP.mk rfl (Sees.bool rfl)
end
end HM
